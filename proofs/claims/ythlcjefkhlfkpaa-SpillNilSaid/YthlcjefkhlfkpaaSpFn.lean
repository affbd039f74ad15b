/-
  Package spill: New, Clear, Of, Give, Free.
-/
import Derived.Test.YthlcjefkhlfkpaaSpGive
namespace Go.Proofs.Ythlcjefkhlfkpaa
open Go.RowKit Go.Proofs.Ythlcjefkhlfkpaa.Sl

def slotV (p : Nat × En) : Value := .agg #[.int .i64 p.1, .int .u32 p.2.ep, .int .u32 p.2.bo, .int .u64 p.2.sq]
attribute [go_sem] slotV
def noSlot : Nat × En := (0, ⟨0, 0, 0⟩)
instance : KeyEnc Try.prog 3 encInt := encInt_ok Try.underlying3

/-- Slots: which are free, and who has one. -/
def slotsL (n : Nat) (fl : List Bool) (m : List (Int × (Nat × En))) (bs bf bm : Nat) : List Chunk :=
  [(bs, cells #[.slice (some ⟨bf, 0, none⟩) n n, .map (some bm)] 55), (bf, slc 1 (one Value.bool) fl n 4), (bm, mapC encInt slotV m)]
def SlotsC (n : Nat) (fl : List Bool) (m : List (Int × (Nat × En))) : K := fun bs h => fl.length = n ∧ ∃ bf bm, holds (slotsL n fl m bs bf bm) h

section
variable {w0 w : World} {S F : List Chunk} {bs n : Nat} {fl : List Bool} {m : List (Int × (Nat × En))}
theorem openSlots (hS : Sat w0 S w) [p : Pull S bs (SlotsC n fl m) F] : fl.length = n ∧ ∃ bf bm, Sat w0 ((bs, cells #[.slice (some ⟨bf, 0, none⟩) n n, .map (some bm)] 55) :: (bf, slc 1 (one Value.bool) fl n 4) :: (bm, mapC encInt slotV m) :: F) w := by
  obtain ⟨hl, hS⟩ := (hS.perm p.perm).and (Y := fun bs h => ∃ bf bm, holds (slotsL n fl m bs bf bm) h) fun _ h => h
  obtain ⟨bf, hS⟩ := hS.ex (Z := fun bf bs h => ∃ bm, holds (slotsL n fl m bs bf bm) h) fun _ h => h
  obtain ⟨bm, hS⟩ := hS.ex (Z := fun bm bs h => holds (slotsL n fl m bs bf bm) h) fun _ h => h
  exact ⟨hl, bf, bm, hS.open (T := slotsL n fl m bs bf bm) fun _ h => h⟩
theorem closeSlots (bs : Nat) {F1 F2 : List Chunk} {bf bm : Nat} (hS : Sat w0 S w) [p1 : Pull S bs (cells #[.slice (some ⟨bf, 0, none⟩) n n, .map (some bm)] 55) F1] [p2 : Pull F1 bf (slc 1 (one Value.bool) fl n 4) F2] [p3 : Pull F2 bm (mapC encInt slotV m) F] (hl : fl.length = n) : Sat w0 ((bs, SlotsC n fl m) :: F) w :=
  Sat.close (T := slotsL n fl m bs bf bm) (F := F) ((hS.perm p1.perm).perm ((p2.perm.trans (p3.perm.cons _)).cons _)) fun _ h => ⟨hl, bf, bm, h⟩

set_option maxHeartbeats 400000 in
theorem of_any (page : Int) (q : Nat × En) (ok : Bool)
    (hS : Sat w0 S w) [p : Pull S bs (SlotsC n fl m) F] (hq : (mget m page).getD noSlot = q) (hok : (mget m page).isSome = ok) :
    Calls Try.prog 16 #[.pointer (some ⟨bs, 0, none⟩), .int .i64 page] w fun e w' => e = .returned (.tuple #[.int .i64 q.1, .agg q.2.l.toArray, .bool ok]) ∧ Sat w0 S w' := by
  obtain ⟨hl, bf, bm, hS⟩ := openSlots (bs := bs) hS
  have HL := Lib.hid hl
  clear hl
  go_enter Try.func16, Try.ntmps16
  go_wp2_with (first | (refine alloc (t := 57) hS rfl rfl ?_; clear hS; intro m2 w hS) | (refine alloc hS rfl rfl ?_; clear hS; intro m1 w hS) | (refine lookup2 (enc := encInt) (ve := slotV) hS rfl rfl page rfl rfl noSlot ?_ ?_; rfl; simp only [putW]) | (refine load1 hS rfl rfl rfl rfl ?_; simp only [putW]) | (refine loadAll hS rfl rfl rfl ?_ ?_; rfl; simp only [putW]) | (refine loadPart hS rfl rfl rfl ?_ rfl ?_; rfl; simp only [putW]) | (refine store1 hS rfl rfl rfl rfl rfl ?_ ?_; (focus (simp; done)); clear hS; intro w hS; simp only [evW, putW] at hS; try simp only [putW]) | (refine storeAll hS rfl rfl rfl rfl ?_ ?_ ?_ ?_; rfl; (focus (simp [Value.oneCell']; done)); rfl; clear hS; intro w hS; try simp only [putW]) | (refine storeN hS rfl rfl rfl rfl ?_ ?_ ?_ ?_; rfl; (focus (simp [Value.oneCell']; done)); (focus (simp; done)); clear hS; intro w hS; simp at hS; try simp only [putW]) | (refine alloc hS rfl rfl ?_; clear hS; intro mb w hS; simp only [putW]) | (refine box1 hS rfl rfl rfl rfl ?_; clear hS; intro mb w hS; try simp only [evW, putW] at hS; simp only [putW]) | (refine boxN hS rfl rfl rfl ?_; clear hS; intro mb w hS; simp only [putW]))
  (refine region_upd m1 (cells #[.int .u32 q.2.ep, .int .u32 q.2.bo, .int .u64 q.2.sq] 33) 6 hS (by kernel_rfl) (by kernel_rfl) (by kernel_rfl) (by kernel_rfl) ?_; clear hS; (repeat (first | (apply one_step rfl; (focus (intro w hS; go_wp2_with (first | (refine load1 hS rfl rfl rfl rfl ?_; simp only [putW]) | (refine loadAll hS rfl rfl rfl ?_ ?_; rfl; simp only [putW]) | (refine loadPart hS rfl rfl rfl ?_ rfl ?_; rfl; simp only [putW])); exact ⟨rfl, rfl, hS⟩)); (focus (intro w hS; go_wp2_with (first | (refine load1 hS rfl rfl rfl rfl ?_; simp only [putW]) | (refine loadAll hS rfl rfl rfl ?_ ?_; rfl; simp only [putW]) | (refine loadPart hS rfl rfl rfl ?_ rfl ?_; rfl; simp only [putW])); exact ⟨rfl, rfl, hS⟩)); simp only [putW]) | (refine one_here rfl (v := undef) ?_ ?_; (focus (intro w hS; go_wp2_with (first | (refine load1 hS rfl rfl rfl rfl ?_; simp only [putW]) | (refine loadAll hS rfl rfl rfl ?_ ?_; rfl; simp only [putW]) | (refine loadPart hS rfl rfl rfl ?_ rfl ?_; rfl; simp only [putW]) | (refine store1 hS rfl rfl rfl rfl rfl ?_ ?_; (focus (simp; done)); clear hS; intro w hS; simp only [evW, putW] at hS; try simp only [putW]) | (refine storeAll hS rfl rfl rfl rfl ?_ ?_ ?_ ?_; rfl; (focus (simp [Value.oneCell']; done)); rfl; clear hS; intro w hS; try simp only [putW]) | (refine storeN hS rfl rfl rfl rfl ?_ ?_ ?_ ?_; rfl; (focus (simp [Value.oneCell']; done)); (focus (simp; done)); clear hS; intro w hS; simp at hS; try simp only [putW]) | (refine alloc hS rfl rfl ?_; clear hS; intro mb w hS; simp only [putW]) | (refine box1 hS rfl rfl rfl rfl ?_; clear hS; intro mb w hS; try simp only [evW, putW] at hS; simp only [putW]) | (refine boxN hS rfl rfl rfl ?_; clear hS; intro mb w hS; simp only [putW])); (first | exact ⟨rfl, rfl, hS⟩ | exact ⟨rfl, rfl, hS.conv⟩))); simp only [putW]))); refine one_nil ?_; intro w hS)
  go_wp2
  have hr := run_loadAll (P := Try.prog) hS m1 33 rfl
  refine bodyPost_ret (v := .tuple #[.int .i64 q.1, .agg q.2.l.toArray, .bool ok]) (by simp [results, Try.results16, asAddr, hr, En.l]) rfl ⟨rfl, ?_⟩
  exact (closeSlots bs ((hS.drop m1).drop m2) HL.out).perm p.perm.symm

theorem take_set_drop {L : List Bool} {k : Nat} {v : Bool} (h : k < L.length) : (List.replicate k v ++ L.drop k).set k v = List.replicate (k + 1) v ++ L.drop (k + 1) := by
  rw [List.set_append_right _ _ (by simp), List.drop_eq_getElem_cons h, List.length_replicate, Nat.sub_self, List.set_cons_zero, List.replicate_succ', List.append_assoc]
  rfl
set_option maxHeartbeats 400000 in
theorem clear_any (hS : Sat w0 S w) [p : Pull S bs (SlotsC n fl m) F] :
    Calls Try.prog 13 #[.pointer (some ⟨bs, 0, none⟩)] w fun e w' => e = .returned (.tuple #[]) ∧ Sat w0 ((bs, SlotsC n (List.replicate n true) []) :: F) w' := by
  obtain ⟨hl, bf, bm, hS⟩ := openSlots (bs := bs) hS
  subst hl
  have hmax : fl.length ≤ 9223372036854775807 := by
    have := hS.slcFacts (g := bf) (n := 1) (f := one Value.bool) (l := fl) (cap := fl.length) (t := 4)
    simp only [maxLen] at this; omega
  go_enter Try.func13, Try.ntmps13
  go_wp2_with (first | (refine clearMap (enc := encInt) (ve := slotV) hS rfl rfl rfl ?_; clear hS; intro w hS; try simp only [putW]) | (refine load1 hS rfl rfl rfl rfl ?_; simp only [putW]) | (refine loadAll hS rfl rfl rfl ?_ ?_; rfl; simp only [putW]) | (refine loadPart hS rfl rfl rfl ?_ rfl ?_; rfl; simp only [putW]) | (refine store1 hS rfl rfl rfl rfl rfl ?_ ?_; (focus (simp; done)); clear hS; intro w hS; simp only [evW, putW] at hS; try simp only [putW]) | (refine storeAll hS rfl rfl rfl rfl ?_ ?_ ?_ ?_; rfl; (focus (simp [Value.oneCell']; done)); rfl; clear hS; intro w hS; try simp only [putW]) | (refine storeN hS rfl rfl rfl rfl ?_ ?_ ?_ ?_; rfl; (focus (simp [Value.oneCell']; done)); (focus (simp; done)); clear hS; intro w hS; simp at hS; try simp only [putW]) | (refine alloc hS rfl rfl ?_; clear hS; intro mb w hS; simp only [putW]) | (refine box1 hS rfl rfl rfl rfl ?_; clear hS; intro mb w hS; try simp only [evW, putW] at hS; simp only [putW]) | (refine boxN hS rfl rfl rfl ?_; clear hS; intro mb w hS; simp only [putW]))
  go_loopw [2, 14] (fun _ i wr => ∃ k : Nat, k ≤ fl.length ∧ i = .int .i64 k ∧ Sat w0 ((bf, slc 1 (one Value.bool) (List.replicate k true ++ fl.drop k) fl.length 4) :: (bm, mapC encInt slotV []) :: (bs, cells #[.slice (some ⟨bf, 0, none⟩) fl.length fl.length, .map (some bm)] 55) :: F) wr) (fun _ i _ => fl.length - (intOf i).toNat)
  case atStart =>
    refine ⟨0, Nat.zero_le _, rfl, ?_⟩
    rw [List.replicate_zero, List.drop_zero, List.nil_append]
    exact hS.conv
  case round =>
    clear hS
    obtain ⟨k, hk, rfl, hS⟩ := hrel
    by_cases hlt : k < fl.length
    · go_wp2_with (first | (refine storeS1 (v1 := Value.bool) hS rfl rfl rfl true rfl rfl ?_ ?_; (focus (first | omega | (simp [maxLen]; done) | (simp [maxLen]; omega))); clear hS; intro w hS; try simp only [putW]) | (refine load1 hS rfl rfl rfl rfl ?_; simp only [putW]) | (refine loadAll hS rfl rfl rfl ?_ ?_; rfl; simp only [putW]) | (refine loadPart hS rfl rfl rfl ?_ rfl ?_; rfl; simp only [putW]) | (refine store1 hS rfl rfl rfl rfl rfl ?_ ?_; (focus (simp; done)); clear hS; intro w hS; simp only [evW, putW] at hS; try simp only [putW]) | (refine storeAll hS rfl rfl rfl rfl ?_ ?_ ?_ ?_; rfl; (focus (simp [Value.oneCell']; done)); rfl; clear hS; intro w hS; try simp only [putW]) | (refine storeN hS rfl rfl rfl rfl ?_ ?_ ?_ ?_; rfl; (focus (simp [Value.oneCell']; done)); (focus (simp; done)); clear hS; intro w hS; simp at hS; try simp only [putW]) | (refine alloc hS rfl rfl ?_; clear hS; intro mb w hS; simp only [putW]) | (refine box1 hS rfl rfl rfl rfl ?_; clear hS; intro mb w hS; try simp only [evW, putW] at hS; simp only [putW]) | (refine boxN hS rfl rfl rfl ?_; clear hS; intro mb w hS; simp only [putW]))
      rw [take_set_drop hlt] at hS
      go_roundw
      case rel => exact ⟨k + 1, by omega, by go_num, hS.conv⟩
      case measure => simp [intOf]; omega
    · have : k = fl.length := by omega
      subst this
      rw [List.drop_length, List.append_nil] at hS
      go_wp2
      go_end0
      exact ⟨rfl, closeSlots bs hS (by simp)⟩

theorem new_bad (n : Int) (hS : Sat w0 S w) (hn : n < 1 ∨ 256 < n) :
    Calls Try.prog 7 #[.int .i64 n] w fun e w' => e = .returned (.tuple #[.pointer none, .int .i64 1]) ∧ Sat w0 S w' := by
  rcases hn with h | h
  · go_enter Try.func7, Try.ntmps7
    go_wp2
    go_ret2
    exact ⟨rfl, hS⟩
  · have h1 : ¬ n < 1 := by omega
    go_enter Try.func7, Try.ntmps7
    go_wp2
    go_ret2
    exact ⟨rfl, hS⟩
set_option maxHeartbeats 400000 in
theorem new_any (n : Nat) (hS : Sat w0 S w) (h1 : 1 ≤ n) (h2 : n ≤ 256) :
    Calls Try.prog 7 #[.int .i64 n] w fun e w' => ∃ bs, e = .returned (.tuple #[.pointer (some ⟨bs, 0, none⟩), .int .i64 0]) ∧ Sat w0 ((bs, SlotsC n (List.replicate n true) []) :: S) w' := by
  have h3 : ¬ ((n : Int) < 1) := by omega
  have h4 : ¬ ((n : Int) > 256) := by omega
  go_enter Try.func7, Try.ntmps7
  go_wp2_with (first | (refine makeN hS rfl rfl n rfl rfl (one Value.bool) false rfl ?_ ?_ ?_; (focus (first | omega | (simp [maxLen]; done) | (simp [maxLen]; omega))); (focus (first | omega | (simp [maxLen]; done) | (simp [maxLen]; omega))); clear hS; intro mb w hS; simp only [putW]) | (refine makeMap hS rfl rfl encInt  slotV ?_; clear hS; intro mb w hS; simp only [putW]) | (go_at_call 13; refine Calls.mono (clear_any (closeSlots mb hS List.length_replicate)) ?_; clear hS; rintro _ w ⟨rfl, hS⟩; simp only [putW]) | (refine load1 hS rfl rfl rfl rfl ?_; simp only [putW]) | (refine loadAll hS rfl rfl rfl ?_ ?_; rfl; simp only [putW]) | (refine loadPart hS rfl rfl rfl ?_ rfl ?_; rfl; simp only [putW]) | (refine store1 hS rfl rfl rfl rfl rfl ?_ ?_; (focus (simp; done)); clear hS; intro w hS; simp only [evW, putW] at hS; try simp only [putW]) | (refine storeAll hS rfl rfl rfl rfl ?_ ?_ ?_ ?_; rfl; (focus (simp [Value.oneCell']; done)); rfl; clear hS; intro w hS; try simp only [putW]) | (refine storeN hS rfl rfl rfl rfl ?_ ?_ ?_ ?_; rfl; (focus (simp [Value.oneCell']; done)); (focus (simp; done)); clear hS; intro w hS; simp at hS; try simp only [putW]) | (refine alloc hS rfl rfl ?_; clear hS; intro mb w hS; simp only [putW]) | (refine box1 hS rfl rfl rfl rfl ?_; clear hS; intro mb w hS; try simp only [evW, putW] at hS; simp only [putW]) | (refine boxN hS rfl rfl rfl ?_; clear hS; intro mb w hS; simp only [putW]))
  go_ret2
  exact ⟨_, rfl, hS⟩

/-- What Give does. -/
def giveAt (fl : List Bool) (m : List (Int × (Nat × En))) (page : Int) : Int := match mget m page with | some q => q.1 | none => idxFrom fl true 0
set_option maxHeartbeats 800000 in
theorem give_any (page : Int) (x : En) (j : Nat) (hlt : j < n) (hj : giveAt fl m page = j)
    (hS : Sat w0 S w) [p : Pull S bs (SlotsC n fl m) F] :
    Calls Try.prog 14 #[.pointer (some ⟨bs, 0, none⟩), .int .i64 page, .agg x.l.toArray] w fun e w' => e = .returned (.tuple #[.int .i64 j, .int .i64 0]) ∧ Sat w0 ((bs, SlotsC n (fl.set j false) (mput m page (j, x))) :: F) w' := by
  obtain ⟨hl, bf, bm, hS⟩ := openSlots (bs := bs) hS
  have HL := Lib.hid hl
  have HJ := Lib.hid hj
  clear hj
  cases hm : mget m page with
  | none =>
    have hj : idxFrom fl true 0 = j := by have := HJ.out; unfold giveAt at this; rw [hm] at this; exact this
    go_enter Try.func14, Try.ntmps14
    go_wp2_with (first | (refine lookup2 (enc := encInt) (ve := slotV) hS rfl rfl page rfl rfl noSlot ?_ ?_; rfl; simp only [putW]) | (go_at_call 19; refine Calls.mono (index_any true HL.out hS) ?_; rw [hj]; clear hS; rintro _ w ⟨rfl, hS⟩; simp only [putW]) | (refine load1 hS rfl rfl rfl rfl ?_; simp only [putW]) | (refine loadAll hS rfl rfl rfl ?_ ?_; rfl; simp only [putW]) | (refine loadPart hS rfl rfl rfl ?_ rfl ?_; rfl; simp only [putW]) | (refine store1 hS rfl rfl rfl rfl rfl ?_ ?_; (focus (simp; done)); clear hS; intro w hS; simp only [evW, putW] at hS; try simp only [putW]) | (refine storeAll hS rfl rfl rfl rfl ?_ ?_ ?_ ?_; rfl; (focus (simp [Value.oneCell']; done)); rfl; clear hS; intro w hS; try simp only [putW]) | (refine storeN hS rfl rfl rfl rfl ?_ ?_ ?_ ?_; rfl; (focus (simp [Value.oneCell']; done)); (focus (simp; done)); clear hS; intro w hS; simp at hS; try simp only [putW]) | (refine alloc hS rfl rfl ?_; clear hS; intro mb w hS; simp only [putW]) | (refine box1 hS rfl rfl rfl rfl ?_; clear hS; intro mb w hS; try simp only [evW, putW] at hS; simp only [putW]) | (refine boxN hS rfl rfl rfl ?_; clear hS; intro mb w hS; simp only [putW]))
    (refine region_upd bf (slc 1 (one Value.bool) (fl.set j false) n 4) 7 hS (by kernel_rfl) (by kernel_rfl) (by kernel_rfl) (by kernel_rfl) ?_; clear hS; (repeat (first | (apply one_step rfl; (focus (intro w hS; go_wp2_with (first | (refine storeS1 (v1 := Value.bool) hS rfl rfl rfl false rfl rfl ?_ ?_; (focus (first | omega | (simp [maxLen]; done) | (simp [maxLen]; omega))); clear hS; intro w hS; try simp only [putW]) | (refine load1 hS rfl rfl rfl rfl ?_; simp only [putW]) | (refine loadAll hS rfl rfl rfl ?_ ?_; rfl; simp only [putW]) | (refine loadPart hS rfl rfl rfl ?_ rfl ?_; rfl; simp only [putW])); exact ⟨rfl, rfl, hS⟩)); (focus (intro w hS; go_wp2_with (first | (refine storeS1 (v1 := Value.bool) hS rfl rfl rfl false rfl rfl ?_ ?_; (focus (first | omega | (simp [maxLen]; done) | (simp [maxLen]; omega))); clear hS; intro w hS; try simp only [putW]) | (refine load1 hS rfl rfl rfl rfl ?_; simp only [putW]) | (refine loadAll hS rfl rfl rfl ?_ ?_; rfl; simp only [putW]) | (refine loadPart hS rfl rfl rfl ?_ rfl ?_; rfl; simp only [putW])); exact ⟨rfl, rfl, hS⟩)); simp only [putW]) | (refine one_here rfl (v := undef) ?_ ?_; (focus (intro w hS; go_wp2_with (first | (refine storeS1 (v1 := Value.bool) hS rfl rfl rfl false rfl rfl ?_ ?_; (focus (first | omega | (simp [maxLen]; done) | (simp [maxLen]; omega))); clear hS; intro w hS; try simp only [putW]) | (refine load1 hS rfl rfl rfl rfl ?_; simp only [putW]) | (refine loadAll hS rfl rfl rfl ?_ ?_; rfl; simp only [putW]) | (refine loadPart hS rfl rfl rfl ?_ rfl ?_; rfl; simp only [putW]) | (refine store1 hS rfl rfl rfl rfl rfl ?_ ?_; (focus (simp; done)); clear hS; intro w hS; simp only [evW, putW] at hS; try simp only [putW]) | (refine storeAll hS rfl rfl rfl rfl ?_ ?_ ?_ ?_; rfl; (focus (simp [Value.oneCell']; done)); rfl; clear hS; intro w hS; try simp only [putW]) | (refine storeN hS rfl rfl rfl rfl ?_ ?_ ?_ ?_; rfl; (focus (simp [Value.oneCell']; done)); (focus (simp; done)); clear hS; intro w hS; simp at hS; try simp only [putW]) | (refine alloc hS rfl rfl ?_; clear hS; intro mb w hS; simp only [putW]) | (refine box1 hS rfl rfl rfl rfl ?_; clear hS; intro mb w hS; try simp only [evW, putW] at hS; simp only [putW]) | (refine boxN hS rfl rfl rfl ?_; clear hS; intro mb w hS; simp only [putW])); (first | exact ⟨rfl, rfl, hS⟩ | exact ⟨rfl, rfl, hS.conv⟩))); simp only [putW]))); refine one_nil ?_; intro w hS)
    go_wp2
    (refine region_upd bm (mapC encInt slotV (mput m page (j, x))) 9 hS (by kernel_rfl) (by kernel_rfl) (by kernel_rfl) (by kernel_rfl) ?_; clear hS; (repeat (first | (apply one_step rfl; (focus (intro w hS; go_wp2_with (first | (refine mapUpdate (enc := encInt) (ve := slotV) hS rfl rfl page (j, x) rfl rfl rfl ?_; clear hS; intro w hS; try simp only [putW]) | (refine load1 hS rfl rfl rfl rfl ?_; simp only [putW]) | (refine loadAll hS rfl rfl rfl ?_ ?_; rfl; simp only [putW]) | (refine loadPart hS rfl rfl rfl ?_ rfl ?_; rfl; simp only [putW])); exact ⟨rfl, rfl, hS⟩)); (focus (intro w hS; go_wp2_with (first | (refine mapUpdate (enc := encInt) (ve := slotV) hS rfl rfl page (j, x) rfl rfl rfl ?_; clear hS; intro w hS; try simp only [putW]) | (refine load1 hS rfl rfl rfl rfl ?_; simp only [putW]) | (refine loadAll hS rfl rfl rfl ?_ ?_; rfl; simp only [putW]) | (refine loadPart hS rfl rfl rfl ?_ rfl ?_; rfl; simp only [putW])); exact ⟨rfl, rfl, hS⟩)); simp only [putW]) | (refine one_here rfl (v := undef) ?_ ?_; (focus (intro w hS; go_wp2_with (first | (refine mapUpdate (enc := encInt) (ve := slotV) hS rfl rfl page (j, x) rfl rfl rfl ?_; clear hS; intro w hS; try simp only [putW]) | (refine load1 hS rfl rfl rfl rfl ?_; simp only [putW]) | (refine loadAll hS rfl rfl rfl ?_ ?_; rfl; simp only [putW]) | (refine loadPart hS rfl rfl rfl ?_ rfl ?_; rfl; simp only [putW]) | (refine store1 hS rfl rfl rfl rfl rfl ?_ ?_; (focus (simp; done)); clear hS; intro w hS; simp only [evW, putW] at hS; try simp only [putW]) | (refine storeAll hS rfl rfl rfl rfl ?_ ?_ ?_ ?_; rfl; (focus (simp [Value.oneCell']; done)); rfl; clear hS; intro w hS; try simp only [putW]) | (refine storeN hS rfl rfl rfl rfl ?_ ?_ ?_ ?_; rfl; (focus (simp [Value.oneCell']; done)); (focus (simp; done)); clear hS; intro w hS; simp at hS; try simp only [putW]) | (refine alloc hS rfl rfl ?_; clear hS; intro mb w hS; simp only [putW]) | (refine box1 hS rfl rfl rfl rfl ?_; clear hS; intro mb w hS; try simp only [evW, putW] at hS; simp only [putW]) | (refine boxN hS rfl rfl rfl ?_; clear hS; intro mb w hS; simp only [putW])); (first | exact ⟨rfl, rfl, hS⟩ | exact ⟨rfl, rfl, hS.conv⟩))); simp only [putW]))); refine one_nil ?_; intro w hS)
    go_wp2_with (first | (refine load1 hS rfl rfl rfl rfl ?_; simp only [putW]) | (refine loadAll hS rfl rfl rfl ?_ ?_; rfl; simp only [putW]) | (refine loadPart hS rfl rfl rfl ?_ rfl ?_; rfl; simp only [putW]) | (refine store1 hS rfl rfl rfl rfl rfl ?_ ?_; (focus (simp; done)); clear hS; intro w hS; simp only [evW, putW] at hS; try simp only [putW]) | (refine storeAll hS rfl rfl rfl rfl ?_ ?_ ?_ ?_; rfl; (focus (simp [Value.oneCell']; done)); rfl; clear hS; intro w hS; try simp only [putW]) | (refine storeN hS rfl rfl rfl rfl ?_ ?_ ?_ ?_; rfl; (focus (simp [Value.oneCell']; done)); (focus (simp; done)); clear hS; intro w hS; simp at hS; try simp only [putW]) | (refine alloc hS rfl rfl ?_; clear hS; intro mb w hS; simp only [putW]) | (refine box1 hS rfl rfl rfl rfl ?_; clear hS; intro mb w hS; try simp only [evW, putW] at hS; simp only [putW]) | (refine boxN hS rfl rfl rfl ?_; clear hS; intro mb w hS; simp only [putW]))
    go_ret2
    exact ⟨rfl, (closeSlots bs hS (by simpa using HL.out)).conv⟩
  | some q =>
    have hj : (q.1 : Int) = j := by have := HJ.out; unfold giveAt at this; rw [hm] at this; exact this
    have hq1 : q.1 = j := by omega
    obtain ⟨q1, q2⟩ := q
    subst hq1
    go_enter Try.func14, Try.ntmps14
    go_wp2_with (first | (refine lookup2 (enc := encInt) (ve := slotV) hS rfl rfl page rfl rfl noSlot ?_ ?_; rfl; simp only [putW]) | (refine load1 hS rfl rfl rfl rfl ?_; simp only [putW]) | (refine loadAll hS rfl rfl rfl ?_ ?_; rfl; simp only [putW]) | (refine loadPart hS rfl rfl rfl ?_ rfl ?_; rfl; simp only [putW]) | (refine store1 hS rfl rfl rfl rfl rfl ?_ ?_; (focus (simp; done)); clear hS; intro w hS; simp only [evW, putW] at hS; try simp only [putW]) | (refine storeAll hS rfl rfl rfl rfl ?_ ?_ ?_ ?_; rfl; (focus (simp [Value.oneCell']; done)); rfl; clear hS; intro w hS; try simp only [putW]) | (refine storeN hS rfl rfl rfl rfl ?_ ?_ ?_ ?_; rfl; (focus (simp [Value.oneCell']; done)); (focus (simp; done)); clear hS; intro w hS; simp at hS; try simp only [putW]) | (refine alloc hS rfl rfl ?_; clear hS; intro mb w hS; simp only [putW]) | (refine box1 hS rfl rfl rfl rfl ?_; clear hS; intro mb w hS; try simp only [evW, putW] at hS; simp only [putW]) | (refine boxN hS rfl rfl rfl ?_; clear hS; intro mb w hS; simp only [putW]))
    (refine region_upd bf (slc 1 (one Value.bool) (fl.set q1 false) n 4) 7 hS (by kernel_rfl) (by kernel_rfl) (by kernel_rfl) (by kernel_rfl) ?_; clear hS; (repeat (first | (apply one_step rfl; (focus (intro w hS; go_wp2_with (first | (refine storeS1 (v1 := Value.bool) hS rfl rfl rfl false rfl rfl ?_ ?_; (focus (first | omega | (simp [maxLen]; done) | (simp [maxLen]; omega))); clear hS; intro w hS; try simp only [putW]) | (refine load1 hS rfl rfl rfl rfl ?_; simp only [putW]) | (refine loadAll hS rfl rfl rfl ?_ ?_; rfl; simp only [putW]) | (refine loadPart hS rfl rfl rfl ?_ rfl ?_; rfl; simp only [putW])); exact ⟨rfl, rfl, hS⟩)); (focus (intro w hS; go_wp2_with (first | (refine storeS1 (v1 := Value.bool) hS rfl rfl rfl false rfl rfl ?_ ?_; (focus (first | omega | (simp [maxLen]; done) | (simp [maxLen]; omega))); clear hS; intro w hS; try simp only [putW]) | (refine load1 hS rfl rfl rfl rfl ?_; simp only [putW]) | (refine loadAll hS rfl rfl rfl ?_ ?_; rfl; simp only [putW]) | (refine loadPart hS rfl rfl rfl ?_ rfl ?_; rfl; simp only [putW])); exact ⟨rfl, rfl, hS⟩)); simp only [putW]) | (refine one_here rfl (v := undef) ?_ ?_; (focus (intro w hS; go_wp2_with (first | (refine storeS1 (v1 := Value.bool) hS rfl rfl rfl false rfl rfl ?_ ?_; (focus (first | omega | (simp [maxLen]; done) | (simp [maxLen]; omega))); clear hS; intro w hS; try simp only [putW]) | (refine load1 hS rfl rfl rfl rfl ?_; simp only [putW]) | (refine loadAll hS rfl rfl rfl ?_ ?_; rfl; simp only [putW]) | (refine loadPart hS rfl rfl rfl ?_ rfl ?_; rfl; simp only [putW]) | (refine store1 hS rfl rfl rfl rfl rfl ?_ ?_; (focus (simp; done)); clear hS; intro w hS; simp only [evW, putW] at hS; try simp only [putW]) | (refine storeAll hS rfl rfl rfl rfl ?_ ?_ ?_ ?_; rfl; (focus (simp [Value.oneCell']; done)); rfl; clear hS; intro w hS; try simp only [putW]) | (refine storeN hS rfl rfl rfl rfl ?_ ?_ ?_ ?_; rfl; (focus (simp [Value.oneCell']; done)); (focus (simp; done)); clear hS; intro w hS; simp at hS; try simp only [putW]) | (refine alloc hS rfl rfl ?_; clear hS; intro mb w hS; simp only [putW]) | (refine box1 hS rfl rfl rfl rfl ?_; clear hS; intro mb w hS; try simp only [evW, putW] at hS; simp only [putW]) | (refine boxN hS rfl rfl rfl ?_; clear hS; intro mb w hS; simp only [putW])); (first | exact ⟨rfl, rfl, hS⟩ | exact ⟨rfl, rfl, hS.conv⟩))); simp only [putW]))); refine one_nil ?_; intro w hS)
    go_wp2
    (refine region_upd bm (mapC encInt slotV (mput m page (q1, x))) 9 hS (by kernel_rfl) (by kernel_rfl) (by kernel_rfl) (by kernel_rfl) ?_; clear hS; (repeat (first | (apply one_step rfl; (focus (intro w hS; go_wp2_with (first | (refine mapUpdate (enc := encInt) (ve := slotV) hS rfl rfl page (q1, x) rfl rfl rfl ?_; clear hS; intro w hS; try simp only [putW]) | (refine load1 hS rfl rfl rfl rfl ?_; simp only [putW]) | (refine loadAll hS rfl rfl rfl ?_ ?_; rfl; simp only [putW]) | (refine loadPart hS rfl rfl rfl ?_ rfl ?_; rfl; simp only [putW])); exact ⟨rfl, rfl, hS⟩)); (focus (intro w hS; go_wp2_with (first | (refine mapUpdate (enc := encInt) (ve := slotV) hS rfl rfl page (q1, x) rfl rfl rfl ?_; clear hS; intro w hS; try simp only [putW]) | (refine load1 hS rfl rfl rfl rfl ?_; simp only [putW]) | (refine loadAll hS rfl rfl rfl ?_ ?_; rfl; simp only [putW]) | (refine loadPart hS rfl rfl rfl ?_ rfl ?_; rfl; simp only [putW])); exact ⟨rfl, rfl, hS⟩)); simp only [putW]) | (refine one_here rfl (v := undef) ?_ ?_; (focus (intro w hS; go_wp2_with (first | (refine mapUpdate (enc := encInt) (ve := slotV) hS rfl rfl page (q1, x) rfl rfl rfl ?_; clear hS; intro w hS; try simp only [putW]) | (refine load1 hS rfl rfl rfl rfl ?_; simp only [putW]) | (refine loadAll hS rfl rfl rfl ?_ ?_; rfl; simp only [putW]) | (refine loadPart hS rfl rfl rfl ?_ rfl ?_; rfl; simp only [putW]) | (refine store1 hS rfl rfl rfl rfl rfl ?_ ?_; (focus (simp; done)); clear hS; intro w hS; simp only [evW, putW] at hS; try simp only [putW]) | (refine storeAll hS rfl rfl rfl rfl ?_ ?_ ?_ ?_; rfl; (focus (simp [Value.oneCell']; done)); rfl; clear hS; intro w hS; try simp only [putW]) | (refine storeN hS rfl rfl rfl rfl ?_ ?_ ?_ ?_; rfl; (focus (simp [Value.oneCell']; done)); (focus (simp; done)); clear hS; intro w hS; simp at hS; try simp only [putW]) | (refine alloc hS rfl rfl ?_; clear hS; intro mb w hS; simp only [putW]) | (refine box1 hS rfl rfl rfl rfl ?_; clear hS; intro mb w hS; try simp only [evW, putW] at hS; simp only [putW]) | (refine boxN hS rfl rfl rfl ?_; clear hS; intro mb w hS; simp only [putW])); (first | exact ⟨rfl, rfl, hS⟩ | exact ⟨rfl, rfl, hS.conv⟩))); simp only [putW]))); refine one_nil ?_; intro w hS)
    go_wp2_with (first | (refine load1 hS rfl rfl rfl rfl ?_; simp only [putW]) | (refine loadAll hS rfl rfl rfl ?_ ?_; rfl; simp only [putW]) | (refine loadPart hS rfl rfl rfl ?_ rfl ?_; rfl; simp only [putW]) | (refine store1 hS rfl rfl rfl rfl rfl ?_ ?_; (focus (simp; done)); clear hS; intro w hS; simp only [evW, putW] at hS; try simp only [putW]) | (refine storeAll hS rfl rfl rfl rfl ?_ ?_ ?_ ?_; rfl; (focus (simp [Value.oneCell']; done)); rfl; clear hS; intro w hS; try simp only [putW]) | (refine storeN hS rfl rfl rfl rfl ?_ ?_ ?_ ?_; rfl; (focus (simp [Value.oneCell']; done)); (focus (simp; done)); clear hS; intro w hS; simp at hS; try simp only [putW]) | (refine alloc hS rfl rfl ?_; clear hS; intro mb w hS; simp only [putW]) | (refine box1 hS rfl rfl rfl rfl ?_; clear hS; intro mb w hS; try simp only [evW, putW] at hS; simp only [putW]) | (refine boxN hS rfl rfl rfl ?_; clear hS; intro mb w hS; simp only [putW]))
    go_ret2
    exact ⟨rfl, (closeSlots bs hS (by simpa using HL.out)).conv⟩
set_option maxHeartbeats 800000 in
theorem give_full (page : Int) (x : En) (hj : giveAt fl m page = -1)
    (hS : Sat w0 S w) [p : Pull S bs (SlotsC n fl m) F] :
    Calls Try.prog 14 #[.pointer (some ⟨bs, 0, none⟩), .int .i64 page, .agg x.l.toArray] w fun e w' => e = .returned (.tuple #[.int .i64 0, .int .i64 11]) ∧ Sat w0 S w' := by
  obtain ⟨hl, bf, bm, hS⟩ := openSlots (bs := bs) hS
  have HL := Lib.hid hl
  cases hm : mget m page with
  | none =>
    have hj : idxFrom fl true 0 = -1 := by unfold giveAt at hj; rw [hm] at hj; exact hj
    go_enter Try.func14, Try.ntmps14
    go_wp2_with (first | (refine lookup2 (enc := encInt) (ve := slotV) hS rfl rfl page rfl rfl noSlot ?_ ?_; rfl; simp only [putW]) | (go_at_call 19; refine Calls.mono (index_any true HL.out hS) ?_; rw [hj]; clear hS; rintro _ w ⟨rfl, hS⟩; simp only [putW]) | (refine load1 hS rfl rfl rfl rfl ?_; simp only [putW]) | (refine loadAll hS rfl rfl rfl ?_ ?_; rfl; simp only [putW]) | (refine loadPart hS rfl rfl rfl ?_ rfl ?_; rfl; simp only [putW]) | (refine store1 hS rfl rfl rfl rfl rfl ?_ ?_; (focus (simp; done)); clear hS; intro w hS; simp only [evW, putW] at hS; try simp only [putW]) | (refine storeAll hS rfl rfl rfl rfl ?_ ?_ ?_ ?_; rfl; (focus (simp [Value.oneCell']; done)); rfl; clear hS; intro w hS; try simp only [putW]) | (refine storeN hS rfl rfl rfl rfl ?_ ?_ ?_ ?_; rfl; (focus (simp [Value.oneCell']; done)); (focus (simp; done)); clear hS; intro w hS; simp at hS; try simp only [putW]) | (refine alloc hS rfl rfl ?_; clear hS; intro mb w hS; simp only [putW]) | (refine box1 hS rfl rfl rfl rfl ?_; clear hS; intro mb w hS; try simp only [evW, putW] at hS; simp only [putW]) | (refine boxN hS rfl rfl rfl ?_; clear hS; intro mb w hS; simp only [putW]))
    go_ret2
    exact ⟨rfl, ((closeSlots bs hS HL.out).conv (S' := (bs, SlotsC n fl m) :: F)).perm p.perm.symm⟩
  | some q => unfold giveAt at hj; rw [hm] at hj; simp at hj

theorem free_none (page : Int) (hm : mget m page = none) (hS : Sat w0 S w) [p : Pull S bs (SlotsC n fl m) F] :
    Calls Try.prog 11 #[.pointer (some ⟨bs, 0, none⟩), .int .i64 page] w fun e w' => e = .returned (.tuple #[]) ∧ Sat w0 S w' := by
  go_enter Try.func11, Try.ntmps11
  go_wp2_with (first | (go_at_call 16; refine Calls.mono (of_any page noSlot false hS (by simp [hm]) (by simp [hm])) ?_; clear hS; rintro _ w ⟨rfl, hS⟩; simp only [putW]) | (refine load1 hS rfl rfl rfl rfl ?_; simp only [putW]) | (refine loadAll hS rfl rfl rfl ?_ ?_; rfl; simp only [putW]) | (refine loadPart hS rfl rfl rfl ?_ rfl ?_; rfl; simp only [putW]) | (refine store1 hS rfl rfl rfl rfl rfl ?_ ?_; (focus (simp; done)); clear hS; intro w hS; simp only [evW, putW] at hS; try simp only [putW]) | (refine storeAll hS rfl rfl rfl rfl ?_ ?_ ?_ ?_; rfl; (focus (simp [Value.oneCell']; done)); rfl; clear hS; intro w hS; try simp only [putW]) | (refine storeN hS rfl rfl rfl rfl ?_ ?_ ?_ ?_; rfl; (focus (simp [Value.oneCell']; done)); (focus (simp; done)); clear hS; intro w hS; simp at hS; try simp only [putW]) | (refine alloc hS rfl rfl ?_; clear hS; intro mb w hS; simp only [putW]) | (refine box1 hS rfl rfl rfl rfl ?_; clear hS; intro mb w hS; try simp only [evW, putW] at hS; simp only [putW]) | (refine boxN hS rfl rfl rfl ?_; clear hS; intro mb w hS; simp only [putW]))
  go_end0
  exact ⟨rfl, hS.conv⟩
theorem free_some (page : Int) (q : Nat × En) (hm : mget m page = some q) (hlt : q.1 < n) (hS : Sat w0 S w) [p : Pull S bs (SlotsC n fl m) F] :
    Calls Try.prog 11 #[.pointer (some ⟨bs, 0, none⟩), .int .i64 page] w fun e w' => e = .returned (.tuple #[]) ∧ Sat w0 ((bs, SlotsC n (fl.set q.1 true) (mdel m page)) :: F) w' := by
  go_enter Try.func11, Try.ntmps11
  go_wp2_with fail
  (refine Calls.mono (of_any page q true hS (by simp [hm]) (by simp [hm])) ?_; clear hS; rintro _ w ⟨rfl, hS⟩; simp only [putW])
  obtain ⟨hl, bf, bm, hS⟩ := openSlots (bs := bs) hS
  have HL := Lib.hid hl
  go_wp2_with (first | (refine storeS1 (v1 := Value.bool) hS rfl rfl rfl true rfl rfl ?_ ?_; (focus (first | omega | (simp [maxLen]; done) | (simp [maxLen]; omega))); clear hS; intro w hS; try simp only [putW]) | (refine delete (enc := encInt) (ve := slotV) hS rfl rfl page rfl rfl ?_; clear hS; intro w hS; try simp only [putW]) | (refine load1 hS rfl rfl rfl rfl ?_; simp only [putW]) | (refine loadAll hS rfl rfl rfl ?_ ?_; rfl; simp only [putW]) | (refine loadPart hS rfl rfl rfl ?_ rfl ?_; rfl; simp only [putW]) | (refine store1 hS rfl rfl rfl rfl rfl ?_ ?_; (focus (simp; done)); clear hS; intro w hS; simp only [evW, putW] at hS; try simp only [putW]) | (refine storeAll hS rfl rfl rfl rfl ?_ ?_ ?_ ?_; rfl; (focus (simp [Value.oneCell']; done)); rfl; clear hS; intro w hS; try simp only [putW]) | (refine storeN hS rfl rfl rfl rfl ?_ ?_ ?_ ?_; rfl; (focus (simp [Value.oneCell']; done)); (focus (simp; done)); clear hS; intro w hS; simp at hS; try simp only [putW]) | (refine alloc hS rfl rfl ?_; clear hS; intro mb w hS; simp only [putW]) | (refine box1 hS rfl rfl rfl rfl ?_; clear hS; intro mb w hS; try simp only [evW, putW] at hS; simp only [putW]) | (refine boxN hS rfl rfl rfl ?_; clear hS; intro mb w hS; simp only [putW]))
  go_end0
  exact ⟨rfl, (closeSlots bs hS (by simpa using HL.out)).conv⟩
end
end Go.Proofs.Ythlcjefkhlfkpaa
