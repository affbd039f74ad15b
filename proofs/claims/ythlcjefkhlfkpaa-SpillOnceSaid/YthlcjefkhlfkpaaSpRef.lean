/-
  thimbleref20: New, Of, Give.
-/
import Derived.Test.YthlcjefkhlfkpaaSpPick
set_option linter.unusedSimpArgs false
set_option linter.unusedVariables false
namespace Go.Proofs.Ythlcjefkhlfkpaa
open Go.RowKit Go.Proofs.Ythlcjefkhlfkpaa.Sl

structure En where
  ep : Int
  bo : Int
  sq : Int
  deriving DecidableEq
def En.l (x : En) : List Value := [.int .u32 x.ep, .int .u32 x.bo, .int .u64 x.sq]
structure Rs where
  free : Bool
  page : Int
  x : En
  deriving DecidableEq
def Rs.l (s : Rs) : List Value := [.bool s.free, .int .i64 s.page, .int .u32 s.x.ep, .int .u32 s.x.bo, .int .u64 s.x.sq]
attribute [go_sem] En.l Rs.l
/-- The place of a page's slot. -/
def ofFrom (L : List Rs) (page : Int) (k : Nat) : Int := match (L.drop k).findIdx? (fun s => !s.free && s.page == page) with | some i => k + i | none => -1

theorem ofFrom_end {L : List Rs} {page : Int} {k : Nat} (h : L.length ≤ k) : ofFrom L page k = -1 := by
  unfold ofFrom; rw [List.drop_eq_nil_of_le h]; rfl
theorem ofFrom_hit {L : List Rs} {page : Int} {k : Nat} {s : Rs} (hs : L[k]? = some s) (h : (!s.free && s.page == page) = true) : ofFrom L page k = k := by
  have hk := (List.getElem?_eq_some_iff.1 hs).1
  have e : L.drop k = s :: L.drop (k + 1) := by rw [List.drop_eq_getElem_cons hk]; congr 1; exact (List.getElem?_eq_some_iff.1 hs).2
  unfold ofFrom; rw [e, List.findIdx?_cons, h]; simp
theorem ofFrom_miss {L : List Rs} {page : Int} {k : Nat} {s : Rs} (hs : L[k]? = some s) (h : (!s.free && s.page == page) = false) : ofFrom L page k = ofFrom L page (k + 1) := by
  have hk := (List.getElem?_eq_some_iff.1 hs).1
  have e : L.drop k = s :: L.drop (k + 1) := by rw [List.drop_eq_getElem_cons hk]; congr 1; exact (List.getElem?_eq_some_iff.1 hs).2
  unfold ofFrom; rw [e, List.findIdx?_cons, h]
  cases (L.drop (k + 1)).findIdx? (fun s => !s.free && s.page == page) with
  | none => simp
  | some i => simp; omega

set_option maxHeartbeats 400000 in
theorem refOf_any {w0 w : World} {S F : List Chunk} {g cap n : Nat} {L : List Rs} (page : Int) (hn : L.length = n)
    (hS : Sat w0 S w) [Pull S g (slc 5 Rs.l L cap 40) F] :
    Calls Try.prog 12 #[.slice (some ⟨g, 0, none⟩) n cap, .int .i64 page] w fun e w' => e = .returned (.int .i64 (ofFrom L page 0)) ∧ Sat w0 S w' := by
  subst hn
  have hmax : L.length ≤ 9223372036854775807 := by
    have := hS.slcFacts (g := g) (n := 5) (f := Rs.l) (l := L) (cap := cap) (t := 40)
    simp only [maxLen] at this; omega
  go_enter Try.func12, Try.ntmps12
  go_wp2
  go_loopw [5] (fun i wr => ∃ k : Nat, k ≤ L.length ∧ i = .int .i64 k ∧ Sat w0 S wr ∧ ofFrom L page k = ofFrom L page 0) (fun i _ => L.length - (intOf i).toNat)
  case atStart => exact ⟨0, Nat.zero_le _, rfl, hS, rfl⟩
  case round =>
    clear hS
    obtain ⟨k, hk, rfl, hS, hinv⟩ := hrel
    have Hinv := Lib.hid hinv
    clear hinv
    by_cases hlt : k < L.length
    · obtain ⟨s, hs⟩ : ∃ s, L[k]? = some s := ⟨_, List.getElem?_eq_getElem (by omega)⟩
      obtain ⟨fr, pg, x⟩ := s
      cases fr
      · by_cases hp : pg = page
        · subst hp
          go_wp2_with (first | (refine loadS (f := Rs.l) hS rfl rfl rfl k 0 ?_ hs rfl ?_ ?_; omega; omega; simp only [putW]) | (refine loadS (f := Rs.l) hS rfl rfl rfl k 1 ?_ hs rfl ?_ ?_; omega; omega; simp only [putW]) | (refine load1 hS rfl rfl rfl rfl ?_; simp only [putW]) | (refine loadAll hS rfl rfl rfl ?_ ?_; rfl; simp only [putW]) | (refine loadPart hS rfl rfl rfl ?_ rfl ?_; rfl; simp only [putW]) | (refine store1 hS rfl rfl rfl rfl rfl ?_ ?_; (focus (simp; done)); clear hS; intro w hS; simp only [evW, putW] at hS; try simp only [putW]) | (refine storeAll hS rfl rfl rfl rfl ?_ ?_ ?_ ?_; rfl; (focus (simp [Value.oneCell']; done)); rfl; clear hS; intro w hS; try simp only [putW]) | (refine storeN hS rfl rfl rfl rfl ?_ ?_ ?_ ?_; rfl; (focus (simp [Value.oneCell']; done)); (focus (simp; done)); clear hS; intro w hS; simp at hS; try simp only [putW]) | (refine alloc hS rfl rfl ?_; clear hS; intro mb w hS; simp only [putW]) | (refine box1 hS rfl rfl rfl rfl ?_; clear hS; intro mb w hS; try simp only [evW, putW] at hS; simp only [putW]) | (refine boxN hS rfl rfl rfl ?_; clear hS; intro mb w hS; simp only [putW]))
          go_ret
          exact ⟨by rw [← Hinv.out, ofFrom_hit hs (by simp)]; rfl, hS⟩
        · have hp' : (pg == page) = false := by simpa using hp
          go_wp2_with (first | (refine loadS (f := Rs.l) hS rfl rfl rfl k 0 ?_ hs rfl ?_ ?_; omega; omega; simp only [putW]) | (refine loadS (f := Rs.l) hS rfl rfl rfl k 1 ?_ hs rfl ?_ ?_; omega; omega; simp only [putW]) | (refine load1 hS rfl rfl rfl rfl ?_; simp only [putW]) | (refine loadAll hS rfl rfl rfl ?_ ?_; rfl; simp only [putW]) | (refine loadPart hS rfl rfl rfl ?_ rfl ?_; rfl; simp only [putW]) | (refine store1 hS rfl rfl rfl rfl rfl ?_ ?_; (focus (simp; done)); clear hS; intro w hS; simp only [evW, putW] at hS; try simp only [putW]) | (refine storeAll hS rfl rfl rfl rfl ?_ ?_ ?_ ?_; rfl; (focus (simp [Value.oneCell']; done)); rfl; clear hS; intro w hS; try simp only [putW]) | (refine storeN hS rfl rfl rfl rfl ?_ ?_ ?_ ?_; rfl; (focus (simp [Value.oneCell']; done)); (focus (simp; done)); clear hS; intro w hS; simp at hS; try simp only [putW]) | (refine alloc hS rfl rfl ?_; clear hS; intro mb w hS; simp only [putW]) | (refine box1 hS rfl rfl rfl rfl ?_; clear hS; intro mb w hS; try simp only [evW, putW] at hS; simp only [putW]) | (refine boxN hS rfl rfl rfl ?_; clear hS; intro mb w hS; simp only [putW]))
          go_roundw
          case rel => exact ⟨k + 1, by omega, by go_num, hS, by rw [← Hinv.out, ofFrom_miss hs (by simp [hp])]⟩
          case measure => simp [intOf]; omega
      · go_wp2_with (first | (refine loadS (f := Rs.l) hS rfl rfl rfl k 0 ?_ hs rfl ?_ ?_; omega; omega; simp only [putW]) | (refine loadS (f := Rs.l) hS rfl rfl rfl k 1 ?_ hs rfl ?_ ?_; omega; omega; simp only [putW]) | (refine load1 hS rfl rfl rfl rfl ?_; simp only [putW]) | (refine loadAll hS rfl rfl rfl ?_ ?_; rfl; simp only [putW]) | (refine loadPart hS rfl rfl rfl ?_ rfl ?_; rfl; simp only [putW]) | (refine store1 hS rfl rfl rfl rfl rfl ?_ ?_; (focus (simp; done)); clear hS; intro w hS; simp only [evW, putW] at hS; try simp only [putW]) | (refine storeAll hS rfl rfl rfl rfl ?_ ?_ ?_ ?_; rfl; (focus (simp [Value.oneCell']; done)); rfl; clear hS; intro w hS; try simp only [putW]) | (refine storeN hS rfl rfl rfl rfl ?_ ?_ ?_ ?_; rfl; (focus (simp [Value.oneCell']; done)); (focus (simp; done)); clear hS; intro w hS; simp at hS; try simp only [putW]) | (refine alloc hS rfl rfl ?_; clear hS; intro mb w hS; simp only [putW]) | (refine box1 hS rfl rfl rfl rfl ?_; clear hS; intro mb w hS; try simp only [evW, putW] at hS; simp only [putW]) | (refine boxN hS rfl rfl rfl ?_; clear hS; intro mb w hS; simp only [putW]))
        go_roundw
        case rel => exact ⟨k + 1, by omega, by go_num, hS, by rw [← Hinv.out, ofFrom_miss hs (by simp)]⟩
        case measure => simp [intOf]; omega
    · go_wp2
      go_ret
      exact ⟨by rw [← Hinv.out, ofFrom_end (by omega)]; rfl, hS⟩

/-- The first place from k on at which a value stands. -/
def idxFrom (fl : List Bool) (v : Bool) (k : Nat) : Int := match (fl.drop k).findIdx? (fun s => v == s) with | some i => k + i | none => -1
theorem idxFrom_end {L : List Bool} {v : Bool} {k : Nat} (h : L.length ≤ k) : idxFrom L v k = -1 := by
  unfold idxFrom; rw [List.drop_eq_nil_of_le h]; rfl
theorem idxFrom_hit {L : List Bool} {v : Bool} {k : Nat} {s : Bool} (hs : L[k]? = some s) (h : (v == s) = true) : idxFrom L v k = k := by
  have hk := (List.getElem?_eq_some_iff.1 hs).1
  have e : L.drop k = s :: L.drop (k + 1) := by rw [List.drop_eq_getElem_cons hk]; congr 1; exact (List.getElem?_eq_some_iff.1 hs).2
  unfold idxFrom; rw [e, List.findIdx?_cons, h]; simp
theorem idxFrom_miss {L : List Bool} {v : Bool} {k : Nat} {s : Bool} (hs : L[k]? = some s) (h : (v == s) = false) : idxFrom L v k = idxFrom L v (k + 1) := by
  have hk := (List.getElem?_eq_some_iff.1 hs).1
  have e : L.drop k = s :: L.drop (k + 1) := by rw [List.drop_eq_getElem_cons hk]; congr 1; exact (List.getElem?_eq_some_iff.1 hs).2
  unfold idxFrom; rw [e, List.findIdx?_cons, h]
  cases (L.drop (k + 1)).findIdx? (fun s => v == s) with
  | none => simp
  | some i => simp; omega

set_option maxHeartbeats 400000 in
theorem index_any {w0 w : World} {S F : List Chunk} {g cap n : Nat} {fl : List Bool} (v : Bool) (hn : fl.length = n)
    (hS : Sat w0 S w) [Pull S g (slc 1 (one Value.bool) fl cap 4) F] :
    Calls Try.prog 19 #[.slice (some ⟨g, 0, none⟩) n cap, .bool v] w fun e w' => e = .returned (.int .i64 (idxFrom fl v 0)) ∧ Sat w0 S w' := by
  subst hn
  have hmax : fl.length ≤ 9223372036854775807 := by
    have := hS.slcFacts (g := g) (n := 1) (f := one Value.bool) (l := fl) (cap := cap) (t := 4)
    simp only [maxLen] at this; omega
  go_enter Try.func19, Try.ntmps19
  go_wp2
  go_loopw [8] (fun i wr => ∃ k : Nat, k ≤ fl.length ∧ i = .int .i64 k ∧ Sat w0 S wr ∧ idxFrom fl v k = idxFrom fl v 0) (fun i _ => fl.length - (intOf i).toNat)
  case atStart => exact ⟨0, Nat.zero_le _, rfl, hS, rfl⟩
  case round =>
    clear hS
    obtain ⟨k, hk, rfl, hS, hinv⟩ := hrel
    have Hinv := Lib.hid hinv
    clear hinv
    by_cases hlt : k < fl.length
    · obtain ⟨s, hs⟩ : ∃ s, fl[k]? = some s := ⟨_, List.getElem?_eq_getElem (by omega)⟩
      by_cases hp : (v == s) = true
      · go_wp2_with (first | (refine loadS1 (v1 := Value.bool) hS rfl rfl rfl hs ?_; simp only [putW]) | (refine load1 hS rfl rfl rfl rfl ?_; simp only [putW]) | (refine loadAll hS rfl rfl rfl ?_ ?_; rfl; simp only [putW]) | (refine loadPart hS rfl rfl rfl ?_ rfl ?_; rfl; simp only [putW]) | (refine store1 hS rfl rfl rfl rfl rfl ?_ ?_; (focus (simp; done)); clear hS; intro w hS; simp only [evW, putW] at hS; try simp only [putW]) | (refine storeAll hS rfl rfl rfl rfl ?_ ?_ ?_ ?_; rfl; (focus (simp [Value.oneCell']; done)); rfl; clear hS; intro w hS; try simp only [putW]) | (refine storeN hS rfl rfl rfl rfl ?_ ?_ ?_ ?_; rfl; (focus (simp [Value.oneCell']; done)); (focus (simp; done)); clear hS; intro w hS; simp at hS; try simp only [putW]) | (refine alloc hS rfl rfl ?_; clear hS; intro mb w hS; simp only [putW]) | (refine box1 hS rfl rfl rfl rfl ?_; clear hS; intro mb w hS; try simp only [evW, putW] at hS; simp only [putW]) | (refine boxN hS rfl rfl rfl ?_; clear hS; intro mb w hS; simp only [putW]))
        go_ret
        exact ⟨by rw [← Hinv.out, idxFrom_hit hs hp]; rfl, hS⟩
      · have hp' : (v == s) = false := by simpa using hp
        go_wp2_with (first | (refine loadS1 (v1 := Value.bool) hS rfl rfl rfl hs ?_; simp only [putW]) | (refine load1 hS rfl rfl rfl rfl ?_; simp only [putW]) | (refine loadAll hS rfl rfl rfl ?_ ?_; rfl; simp only [putW]) | (refine loadPart hS rfl rfl rfl ?_ rfl ?_; rfl; simp only [putW]) | (refine store1 hS rfl rfl rfl rfl rfl ?_ ?_; (focus (simp; done)); clear hS; intro w hS; simp only [evW, putW] at hS; try simp only [putW]) | (refine storeAll hS rfl rfl rfl rfl ?_ ?_ ?_ ?_; rfl; (focus (simp [Value.oneCell']; done)); rfl; clear hS; intro w hS; try simp only [putW]) | (refine storeN hS rfl rfl rfl rfl ?_ ?_ ?_ ?_; rfl; (focus (simp [Value.oneCell']; done)); (focus (simp; done)); clear hS; intro w hS; simp at hS; try simp only [putW]) | (refine alloc hS rfl rfl ?_; clear hS; intro mb w hS; simp only [putW]) | (refine box1 hS rfl rfl rfl rfl ?_; clear hS; intro mb w hS; try simp only [evW, putW] at hS; simp only [putW]) | (refine boxN hS rfl rfl rfl ?_; clear hS; intro mb w hS; simp only [putW]))
        go_roundw
        case rel => exact ⟨k + 1, by omega, by go_num, hS, by rw [← Hinv.out, idxFrom_miss hs hp']⟩
        case measure => simp [intOf]; omega
    · go_wp2
      go_ret
      exact ⟨by rw [← Hinv.out, idxFrom_end (by omega)]; rfl, hS⟩

theorem refNew_none {w0 w : World} {S : List Chunk} (n : Int) (hS : Sat w0 S w) (hn : n < 1 ∨ 256 < n) :
    Calls Try.prog 8 #[.int .i64 n] w fun e w' => e = .returned (.slice none 0 0) ∧ Sat w0 S w' := by
  rcases hn with h | h
  · go_enter Try.func8, Try.ntmps8
    go_wp2
    go_ret
    exact ⟨rfl, hS⟩
  · have h1 : ¬ n < 1 := by omega
    go_enter Try.func8, Try.ntmps8
    go_wp2
    go_ret
    exact ⟨rfl, hS⟩
def freeRs : Rs := ⟨true, 0, ⟨0, 0, 0⟩⟩
set_option maxHeartbeats 400000 in
theorem refNew_some {w0 w : World} {S : List Chunk} (n : Nat) (hS : Sat w0 S w) (h1 : 1 ≤ n) (h2 : n ≤ 256) :
    Calls Try.prog 8 #[.int .i64 n] w fun e w' => ∃ g cap, e = .returned (.slice (some ⟨g, 0, none⟩) n cap) ∧ Sat w0 ((g, slc 5 Rs.l (List.replicate n freeRs) cap 40) :: S) w' := by
  have hS1 := hS.slNil 5 Rs.l 40
  go_enter Try.func8, Try.ntmps8
  go_wp2
  go_loopw [3, 4] (fun v i wr => ∃ k b : Nat, k ≤ n ∧ i = .int .i64 k ∧ Sat w0 ((b, sl 5 Rs.l (List.replicate k freeRs) 40 v) :: S) wr) (fun _ i _ => n - (intOf i).toNat)
  case atStart => exact ⟨0, 0, Nat.zero_le _, rfl, hS1⟩
  case round =>
    clear hS hS1
    obtain ⟨k, b, hk, rfl, hS⟩ := hrel
    by_cases hlt : k < n
    · go_wp2_with (first | (refine buildSlice1 (c := (Rs.l freeRs).toArray) hS rfl rfl rfl ?_ ?_ ?_ ?_; rfl; rfl; rfl; clear hS; intro mb w hS; simp only [putW]) | (refine append1 (f := Rs.l) hS rfl rfl u3 rfl rfl freeRs ?_ ?_ ?_ ?_ ?_ ?_; rfl; (focus (simp [Rs.l, one, Value.oneCell']; done)); rfl; (focus (first | omega | (simp [maxLen]; done) | (simp [maxLen]; omega))); (focus (first | omega | (simp [maxLen]; done) | (simp [maxLen]; omega))); clear hS; intro v' w hS; simp only [putW]) | (refine load1 hS rfl rfl rfl rfl ?_; simp only [putW]) | (refine loadAll hS rfl rfl rfl ?_ ?_; rfl; simp only [putW]) | (refine loadPart hS rfl rfl rfl ?_ rfl ?_; rfl; simp only [putW]) | (refine store1 hS rfl rfl rfl rfl rfl ?_ ?_; (focus (simp; done)); clear hS; intro w hS; simp only [evW, putW] at hS; try simp only [putW]) | (refine storeAll hS rfl rfl rfl rfl ?_ ?_ ?_ ?_; rfl; (focus (simp [Value.oneCell']; done)); rfl; clear hS; intro w hS; try simp only [putW]) | (refine storeN hS rfl rfl rfl rfl ?_ ?_ ?_ ?_; rfl; (focus (simp [Value.oneCell']; done)); (focus (simp; done)); clear hS; intro w hS; simp at hS; try simp only [putW]) | (refine alloc hS rfl rfl ?_; clear hS; intro mb w hS; simp only [putW]) | (refine box1 hS rfl rfl rfl rfl ?_; clear hS; intro mb w hS; try simp only [evW, putW] at hS; simp only [putW]) | (refine boxN hS rfl rfl rfl ?_; clear hS; intro mb w hS; simp only [putW]))
      rw [← List.replicate_succ'] at hS
      go_roundw
      case rel => exact ⟨k + 1, _, by omega, by go_num, hS⟩
      case measure => simp [intOf]; omega
    · have : k = n := by omega
      subst this
      go_wp2
      rcases hS.slCases with ⟨rfl, h, _⟩ | ⟨cap, rfl, hS2⟩
      · cases k with
        | zero => omega
        | succ k => simp [List.replicate_succ] at h
      · go_ret
        exact ⟨b, cap, congrArg Ending.returned (by show Value.slice _ (List.replicate k freeRs).length cap = _; rw [List.length_replicate]), hS2⟩

/-- The first free slot from k on. -/
def freeFrom (L : List Rs) (k : Nat) : Int := match (L.drop k).findIdx? (fun s => s.free) with | some i => k + i | none => -1
theorem freeFrom_end {L : List Rs} {k : Nat} (h : L.length ≤ k) : freeFrom L k = -1 := by
  unfold freeFrom; rw [List.drop_eq_nil_of_le h]; rfl
theorem freeFrom_hit {L : List Rs} {k : Nat} {s : Rs} (hs : L[k]? = some s) (h : s.free = true) : freeFrom L k = k := by
  have hk := (List.getElem?_eq_some_iff.1 hs).1
  have e : L.drop k = s :: L.drop (k + 1) := by rw [List.drop_eq_getElem_cons hk]; congr 1; exact (List.getElem?_eq_some_iff.1 hs).2
  unfold freeFrom; rw [e, List.findIdx?_cons, h]; simp
theorem freeFrom_miss {L : List Rs} {k : Nat} {s : Rs} (hs : L[k]? = some s) (h : s.free = false) : freeFrom L k = freeFrom L (k + 1) := by
  have hk := (List.getElem?_eq_some_iff.1 hs).1
  have e : L.drop k = s :: L.drop (k + 1) := by rw [List.drop_eq_getElem_cons hk]; congr 1; exact (List.getElem?_eq_some_iff.1 hs).2
  unfold freeFrom; rw [e, List.findIdx?_cons, h]
  cases (L.drop (k + 1)).findIdx? (fun s => s.free) with
  | none => simp
  | some i => simp; omega

section
variable {w0 w : World} {S F : List Chunk} {g cap n : Nat} {L : List Rs}
set_option maxHeartbeats 400000 in
/-- The page has a slot, or one is free. -/
theorem refGive_has (page : Int) (x : En) (j : Nat) (hj : ofFrom L page 0 = j) (hlt : j < L.length) (hn : L.length = n)
    (hS : Sat w0 S w) [p : Pull S g (slc 5 Rs.l L cap 40) F] :
    Calls Try.prog 15 #[.slice (some ⟨g, 0, none⟩) n cap, .int .i64 page, .agg x.l.toArray] w fun e w' => e = .returned (.int .i64 j) ∧ Sat w0 ((g, slc 5 Rs.l (L.set j ⟨false, page, x⟩) cap 40) :: F) w' := by
  subst hn
  have hmax : L.length ≤ 9223372036854775807 := by
    have := hS.slcFacts (g := g) (n := 5) (f := Rs.l) (l := L) (cap := cap) (t := 40)
    simp only [maxLen] at this; omega
  have HJ := Lib.hid hj
  clear hj
  replace hS := hS.perm p.perm
  go_enter Try.func15, Try.ntmps15
  go_wp2_with (first | (go_at_call 12; refine Calls.mono (refOf_any (L := L) page rfl hS) ?_; rw [HJ.out]; clear hS; rintro _ w ⟨rfl, hS⟩; simp only [putW]) | (refine load1 hS rfl rfl rfl rfl ?_; simp only [putW]) | (refine loadAll hS rfl rfl rfl ?_ ?_; rfl; simp only [putW]) | (refine loadPart hS rfl rfl rfl ?_ rfl ?_; rfl; simp only [putW]) | (refine store1 hS rfl rfl rfl rfl rfl ?_ ?_; (focus (simp; done)); clear hS; intro w hS; simp only [evW, putW] at hS; try simp only [putW]) | (refine storeAll hS rfl rfl rfl rfl ?_ ?_ ?_ ?_; rfl; (focus (simp [Value.oneCell']; done)); rfl; clear hS; intro w hS; try simp only [putW]) | (refine storeN hS rfl rfl rfl rfl ?_ ?_ ?_ ?_; rfl; (focus (simp [Value.oneCell']; done)); (focus (simp; done)); clear hS; intro w hS; simp at hS; try simp only [putW]) | (refine alloc hS rfl rfl ?_; clear hS; intro mb w hS; simp only [putW]) | (refine box1 hS rfl rfl rfl rfl ?_; clear hS; intro mb w hS; try simp only [evW, putW] at hS; simp only [putW]) | (refine boxN hS rfl rfl rfl ?_; clear hS; intro mb w hS; simp only [putW]))
  go_loopw [7, 8] (fun at' i wr => at' = .int .i64 j ∧ i = .int .i64 0 ∧ Sat w0 _ wr) (fun _ _ _ => 0)
  case atStart => exact ⟨rfl, rfl, hS⟩
  case round =>
    clear hS
    obtain ⟨rfl, rfl, hS⟩ := hrel
    have h0 : ¬ ((j : Int) < 0) := by omega
    by_cases hl : 0 < L.length
    · go_wp2_with (first | (refine storeS (f := Rs.l) hS rfl rfl rfl j ?_ ⟨false, page, x⟩ rfl ?_ ?_ ?_ ?_ ?_; omega; rfl; (focus (simp [Rs.l, Value.oneCell']; done)); rfl; (focus (first | omega | (simp [maxLen]; done) | (simp [maxLen]; omega))); clear hS; intro w hS; try simp only [putW]) | (refine load1 hS rfl rfl rfl rfl ?_; simp only [putW]) | (refine loadAll hS rfl rfl rfl ?_ ?_; rfl; simp only [putW]) | (refine loadPart hS rfl rfl rfl ?_ rfl ?_; rfl; simp only [putW]) | (refine store1 hS rfl rfl rfl rfl rfl ?_ ?_; (focus (simp; done)); clear hS; intro w hS; simp only [evW, putW] at hS; try simp only [putW]) | (refine storeAll hS rfl rfl rfl rfl ?_ ?_ ?_ ?_; rfl; (focus (simp [Value.oneCell']; done)); rfl; clear hS; intro w hS; try simp only [putW]) | (refine storeN hS rfl rfl rfl rfl ?_ ?_ ?_ ?_; rfl; (focus (simp [Value.oneCell']; done)); (focus (simp; done)); clear hS; intro w hS; simp at hS; try simp only [putW]) | (refine alloc hS rfl rfl ?_; clear hS; intro mb w hS; simp only [putW]) | (refine box1 hS rfl rfl rfl rfl ?_; clear hS; intro mb w hS; try simp only [evW, putW] at hS; simp only [putW]) | (refine boxN hS rfl rfl rfl ?_; clear hS; intro mb w hS; simp only [putW]))
      go_ret
      exact ⟨rfl, hS.conv⟩
    · omega
end
end Go.Proofs.Ythlcjefkhlfkpaa
