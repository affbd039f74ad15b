/-
  thimbleref25.Lines; thimblelaw25.ScriptLines.
-/
import Derived.Test.YtpbjkfomdindnaaGreatDoorScRi
import Derived.Test.YtpbjkfomdindnaaGreatDoorScU
set_option linter.unusedSimpArgs false
set_option linter.unusedVariables false
namespace Go.Proofs.YtpbjkfomdindnaaGreatDoor
open Go.RowKit Go.Shelf Go.Proofs.YtpbjkfomdindnaaGreatDoor.Sl Go.Proofs.YtpbjkfomdindnaaGreatDoor.Jp Go.Proofs.YtpbjkfomdindnaaGreatDoor.Sc

/-- The first of some lines that is none, by the document. -/
def firstR (L : List Bs) : Nat → Nat
  | 0 => 0
  | k + 1 => if firstR L k = 0 then (if L.getD k [] ≠ [] ∧ okR (L.getD k []) = false then k + 1 else 0) else firstR L k
theorem firstR_eq (L : List Bs) : ∀ k, firstR L k = firstK L k
  | 0 => rfl
  | k + 1 => by
    have h : (okR (L.getD k []) = false) = (parseS (L.getD k []) = none) := by
      rw [(readings (L.getD k [])).1]
      cases parseS (L.getD k []) <;> simp
    rw [firstR, firstK, firstR_eq L k]
    simp only [h]
def rlinesL (L : List Bs) : List St × Nat × Int :=
  if 1024 < (fullL L).length then ([], 0, 4) else if firstK L L.length = 0 then ((fullL L).map gotR, 0, 0) else ([], firstK L L.length, 3)
section
variable {w0 w : World} {S F K : List Chunk}
/-- How far the lines are gone through. -/
structure FarR (L : List Bs) (k : Nat) (X : List SV) (n bad : Int) : Prop where
  xs : X.map (·.s) = (fullL (L.take k)).map gotR
  ok : ∀ x ∈ X, SOk x.s
  nn : n = ((fullL (L.take k)).length : Nat)
  fi : bad = (firstR L k : Nat)
theorem FarR.start (L : List Bs) : FarR L 0 [] 0 0 := ⟨rfl, fun x hx => (by cases hx), rfl, rfl⟩
theorem FarR.empty {L : List Bs} {k : Nat} {X : List SV} {n bad : Int} (h : FarR L k X n bad) (hl : L[k]? = some []) : FarR L (k + 1) X n bad := by
  have hg : L.getD k [] = [] := by rw [List.getD_eq_getElem?_getD, hl]; rfl
  have hf : firstR L (k + 1) = firstR L k := by
    rw [firstR, hg]
    split
    · rename_i e; rw [e]; simp
    · rfl
  refine ⟨?_, h.ok, ?_, ?_⟩
  · rw [fullL_take hl, if_pos rfl, List.append_nil]; exact h.xs
  · rw [fullL_take hl, if_pos rfl, List.append_nil]; exact h.nn
  · rw [hf]; exact h.fi
theorem FarR.more {L : List Bs} {k : Nat} {X : List SV} {n bad : Int} (h : FarR L k X n bad) {l : Bs} (hl : L[k]? = some l) (hne : l ≠ []) (vo vd vf : Value) :
    FarR L (k + 1) (X ++ [⟨gotR l, vo, vd, vf⟩]) (n + 1) (if okR l = false ∧ bad = 0 then (k : Int) + 1 else bad) := by
  have hg : L.getD k [] = l := by rw [List.getD_eq_getElem?_getD, hl]; rfl
  refine ⟨?_, ?_, ?_, ?_⟩
  · rw [fullL_take hl, if_neg hne, List.map_append, List.map_append, h.xs]; rfl
  · intro x hx
    rcases List.mem_append.1 hx with h2 | h2
    · exact h.ok x h2
    · obtain rfl := List.mem_singleton.1 h2
      exact gotR_ok l
  · rw [fullL_take hl, if_neg hne, List.length_append, h.nn]; simp
  · rw [firstR, hg]
    have hb := h.fi
    by_cases f : firstR L k = 0
    · have b0 : bad = 0 := by rw [hb, f]; rfl
      rw [if_pos f]
      by_cases ho : okR l = false
      · rw [if_pos ⟨ho, b0⟩, if_pos ⟨hne, ho⟩]; simp
      · rw [if_neg fun q => ho q.1, if_neg fun q => ho q.2]; exact b0
    · have b0 : bad ≠ 0 := by omega
      rw [if_neg f, if_neg fun q => b0 q.2]
      exact hb
set_option maxRecDepth 100000 in
set_option maxHeartbeats 4000000 in
/-- Lines, by the document. -/
theorem rlines_any (t : Bs) (hK : KV w0) (hl : t.length ≤ 100000) :
    Calls Tryz.prog 17 #[str t] w0 fun e w' => ∃ X vo, e = .returned (.tuple #[vo, .int .i64 ((rlinesL (splitC 10 t)).2.1 : Nat), .int .i64 (rlinesL (splitC 10 t)).2.2]) ∧ X.map (·.s) = (rlinesL (splitC 10 t)).1 ∧ (∀ x ∈ X, SOk x.s) ∧ Sat w0 ((blk vo, sl 9 svF X 29 vo) :: (77, stepsC X) :: []) w' := by
  have hS := Sat.refl w0
  have HK : Bx (KV w0) := ⟨hK⟩
  clear hK
  go_enter Tryz.func17, Tryz.ntmps17
  go_wp2_with (first | (guard_target =~ Calls _ 26 _ _ _; refine Stopped.out ?_) | (refine load1 hS rfl rfl rfl rfl ?_; simp only [putW]) | (refine loadAll hS rfl rfl rfl ?_ ?_; rfl; simp only [putW]) | (refine loadPart hS rfl rfl rfl ?_ rfl ?_; rfl; simp only [putW]) | (refine store1 hS rfl rfl rfl rfl rfl ?_ ?_; (focus (simp; done)); clear hS; intro w hS; simp only [evW, putW] at hS; try simp only [putW]) | (refine storeAll hS rfl rfl rfl rfl ?_ ?_ ?_ ?_; rfl; (focus (simp [Value.oneCell']; done)); rfl; clear hS; intro w hS; try simp only [putW]) | (refine storeN hS rfl rfl rfl rfl ?_ ?_ ?_ ?_; rfl; (focus (simp [Value.oneCell']; done)); (focus (simp; done)); clear hS; intro w hS; simp at hS; try simp only [putW]) | (refine alloc hS rfl rfl ?_; clear hS; intro mb w hS; simp only [putW]) | (refine box1 hS rfl rfl rfl rfl ?_; clear hS; intro mb w hS; try simp only [evW, putW] at hS; simp only [putW]) | (refine boxN hS rfl rfl rfl ?_; clear hS; intro mb w hS; simp only [putW]))
  refine ⟨?_⟩
  refine Calls.mono (rsplit_any 10 t hl) ?_
  clear hS
  rintro _ w ⟨v, rfl, hS⟩
  have HT : Bx (∀ l ∈ splitC 10 t, l.length ≤ 900000) := ⟨fun l h => Nat.le_trans (splitC_len h) (by omega)⟩
  have HC : Bx ((splitC 10 t).length ≤ 900001) := ⟨by rw [splitC_count]; have := List.count_le_length (a := (10 : UInt8)) (l := t); omega⟩
  obtain ⟨L, hL⟩ : ∃ L, splitC 10 t = L := ⟨_, rfl⟩
  have HL : Bx (splitC 10 t = L) := ⟨hL⟩
  have hLp : 0 < (splitC 10 t).length := List.length_pos_iff.2 (splitC_ne 10 t)
  rw [hL] at hS HT HC hLp
  clear hL
  obtain ⟨g, cap, hv, hS2⟩ := hS.slFormC L.length rfl hLp
  subst hv
  clear hS hl hLp
  have hS := hS2
  clear hS2
  simp only [putW]
  go_wp2_with (first | (refine load1 hS rfl rfl rfl rfl ?_; simp only [putW]) | (refine loadAll hS rfl rfl rfl ?_ ?_; rfl; simp only [putW]) | (refine loadPart hS rfl rfl rfl ?_ rfl ?_; rfl; simp only [putW]) | (refine store1 hS rfl rfl rfl rfl rfl ?_ ?_; (focus (simp; done)); clear hS; intro w hS; simp only [evW, putW] at hS; try simp only [putW]) | (refine storeAll hS rfl rfl rfl rfl ?_ ?_ ?_ ?_; rfl; (focus (simp [Value.oneCell']; done)); rfl; clear hS; intro w hS; try simp only [putW]) | (refine storeN hS rfl rfl rfl rfl ?_ ?_ ?_ ?_; rfl; (focus (simp [Value.oneCell']; done)); (focus (simp; done)); clear hS; intro w hS; simp at hS; try simp only [putW]) | (refine alloc hS rfl rfl ?_; clear hS; intro mb w hS; simp only [putW]) | (refine box1 hS rfl rfl rfl rfl ?_; clear hS; intro mb w hS; try simp only [evW, putW] at hS; simp only [putW]) | (refine boxN hS rfl rfl rfl ?_; clear hS; intro mb w hS; simp only [putW]))
  have hS1 : Sat w0 ((blk nilV, sl 9 svF [] 29 nilV) :: (77, stepsC []) :: (g, slc 1 strF L cap 9) :: []) w := (steps_nil hS).slNil 9 svF 29
  clear hS
  have hS := hS1
  clear hS1
  have hmx := HC.out
  go_loopw [5, 7, 8, 9] (fun vv vb vn vi wr => ∃ (k : Nat) (X : List SV) (n b : Int), k ≤ L.length ∧ vi = .int .i64 (k : Int) ∧ vn = .int .i64 n ∧ vb = .int .i64 b ∧ Bx (FarR L k X n b) ∧ Sat w0 ((blk vv, sl 9 svF X 29 vv) :: (77, stepsC X) :: (g, slc 1 strF L cap 9) :: []) wr) (fun _ _ _ vi _ => L.length - (intOf vi).toNat)
  case atStart => exact ⟨0, [], 0, 0, Nat.zero_le _, rfl, rfl, rfl, ⟨FarR.start L⟩, hS⟩
  case round =>
    clear hS
    obtain ⟨k, X, n, b, hk, rfl, rfl, rfl, hF, hS⟩ := hrel
    obtain ⟨ua, uc, rfl⟩ := slFormS (v := u5) hS
    by_cases hlt : k < L.length
    · obtain ⟨l, hx⟩ : ∃ l, L[k]? = some l := ⟨_, List.getElem?_eq_getElem hlt⟩
      by_cases hne : l = []
      · subst hne
        have HN := hF.out.empty hx
        go_wp2_with (first | (refine loadS1 (v1 := str) hS rfl rfl rfl hx ?_; simp only [putW]) | (refine load1 hS rfl rfl rfl rfl ?_; simp only [putW]) | (refine loadAll hS rfl rfl rfl ?_ ?_; rfl; simp only [putW]) | (refine loadPart hS rfl rfl rfl ?_ rfl ?_; rfl; simp only [putW]) | (refine store1 hS rfl rfl rfl rfl rfl ?_ ?_; (focus (simp; done)); clear hS; intro w hS; simp only [evW, putW] at hS; try simp only [putW]) | (refine storeAll hS rfl rfl rfl rfl ?_ ?_ ?_ ?_; rfl; (focus (simp [Value.oneCell']; done)); rfl; clear hS; intro w hS; try simp only [putW]) | (refine storeN hS rfl rfl rfl rfl ?_ ?_ ?_ ?_; rfl; (focus (simp [Value.oneCell']; done)); (focus (simp; done)); clear hS; intro w hS; simp at hS; try simp only [putW]) | (refine alloc hS rfl rfl ?_; clear hS; intro mb w hS; simp only [putW]) | (refine box1 hS rfl rfl rfl rfl ?_; clear hS; intro mb w hS; try simp only [evW, putW] at hS; simp only [putW]) | (refine boxN hS rfl rfl rfl ?_; clear hS; intro mb w hS; simp only [putW]))
        go_roundw
        case rel => exact ⟨k + 1, X, n, b, by omega, by go_num, rfl, rfl, ⟨HN⟩, hS⟩
        case measure => simp only [intOf]; omega
      · have hq : (l == []) = false := by simpa using hne
        have hn2 : n = ((fullL (L.take k)).length : Nat) := hF.out.nn
        have hn3 := fullL_le L k
        have hX : X.length ≤ 900001 := by
          have := congrArg List.length hF.out.xs
          simp only [List.length_map] at this
          omega
        have HLN : Bx (l.length ≤ 900000) := ⟨HT.out l (List.mem_of_getElem? hx)⟩
        have hnb : 0 ≤ n ∧ n ≤ 900001 := by omega
        clear hn2 hn3
        have HN : Bx (∀ vo vd vf, FarR L (k + 1) (X ++ [⟨gotR l, vo, vd, vf⟩]) (n + 1) (if okR l = false ∧ b = 0 then (k : Int) + 1 else b)) := ⟨fun vo vd vf => hF.out.more hx hne vo vd vf⟩
        clear hne
        go_wp2_with (first | (refine loadS1 (v1 := str) hS rfl rfl rfl hx ?_; simp only [putW]) | (guard_target =~ Calls _ 11 _ _ _; refine Stopped.out ?_) | (refine load1 hS rfl rfl rfl rfl ?_; simp only [putW]) | (refine loadAll hS rfl rfl rfl ?_ ?_; rfl; simp only [putW]) | (refine loadPart hS rfl rfl rfl ?_ rfl ?_; rfl; simp only [putW]) | (refine store1 hS rfl rfl rfl rfl rfl ?_ ?_; (focus (simp; done)); clear hS; intro w hS; simp only [evW, putW] at hS; try simp only [putW]) | (refine storeAll hS rfl rfl rfl rfl ?_ ?_ ?_ ?_; rfl; (focus (simp [Value.oneCell']; done)); rfl; clear hS; intro w hS; try simp only [putW]) | (refine storeN hS rfl rfl rfl rfl ?_ ?_ ?_ ?_; rfl; (focus (simp [Value.oneCell']; done)); (focus (simp; done)); clear hS; intro w hS; simp at hS; try simp only [putW]) | (refine alloc hS rfl rfl ?_; clear hS; intro mb w hS; simp only [putW]) | (refine box1 hS rfl rfl rfl rfl ?_; clear hS; intro mb w hS; try simp only [evW, putW] at hS; simp only [putW]) | (refine boxN hS rfl rfl rfl ?_; clear hS; intro mb w hS; simp only [putW]))
        refine ⟨?_⟩
        refine Calls.mono (rparse_any l (HK.out.mono hS.base) HLN.out) ?_
        rintro _ w ⟨vo, vd, vf, rfl, h2⟩
        replace hS := hS.frame h2
        clear h2
        have HN2 := Bx.mk (HN.out vo vd vf)
        clear HN
        generalize gotR l = s at hS HN2 ⊢
        generalize okR l = ok at HN2 ⊢
        simp only [stL, List.cons_append, List.nil_append] at hS
        simp only [putW]
        have HC2 : Bx (∀ u ∈ svF ⟨s, vo, vd, vf⟩, u.oneCell' = true) := ⟨svF_one (Sat.slCell (α := Int) (v := vo) hS) (Sat.slCell (α := Int) (v := vd) hS) (Sat.slCell (α := Int) (v := vf) hS)⟩
        go_upto_region 11 with (first | (guard_target =~ wpList _ _ _ (Oper.mk (some 10) _ _ _ _ _ :: _) _ _; refine alloc hS rfl rfl ?_; clear hS; intro tb w hS; simp only [putW]) | (refine storeAll hS rfl rfl rfl rfl ?_ ?_ ?_ ?_; rfl; (focus (exact HC2.out)); rfl; clear hS; intro w hS; try simp only [putW]) | (refine load1 hS rfl rfl rfl rfl ?_; simp only [putW]) | (refine loadAll hS rfl rfl rfl ?_ ?_; rfl; simp only [putW]) | (refine loadPart hS rfl rfl rfl ?_ rfl ?_; rfl; simp only [putW]) | (refine store1 hS rfl rfl rfl rfl rfl ?_ ?_; (focus (simp; done)); clear hS; intro w hS; simp only [evW, putW] at hS; try simp only [putW]) | (refine storeAll hS rfl rfl rfl rfl ?_ ?_ ?_ ?_; rfl; (focus (simp [Value.oneCell']; done)); rfl; clear hS; intro w hS; try simp only [putW]) | (refine storeN hS rfl rfl rfl rfl ?_ ?_ ?_ ?_; rfl; (focus (simp [Value.oneCell']; done)); (focus (simp; done)); clear hS; intro w hS; simp at hS; try simp only [putW]) | (refine alloc hS rfl rfl ?_; clear hS; intro mb w hS; simp only [putW]) | (refine box1 hS rfl rfl rfl rfl ?_; clear hS; intro mb w hS; try simp only [evW, putW] at hS; simp only [putW]) | (refine boxN hS rfl rfl rfl ?_; clear hS; intro mb w hS; simp only [putW]))
        have hb0 : b = 0 ∨ b ≠ 0 := by omega
        cases ok
        case' true => rw [if_neg (fun q => by cases q.1)] at HN2
        case' false =>
          rcases hb0 with rfl | hb0
          case' inl => rw [if_pos ⟨rfl, rfl⟩] at HN2
          case' inr =>
            rw [if_neg (fun q => hb0 q.2)] at HN2
            have hbq : (b == 0) = false := by simpa using hb0
        all_goals
          go_wp2_with (first | (refine buildSlice1 (c := (stC s vo vd vf)) hS rfl rfl rfl ?_ ?_ ?_ ?_; rfl; rfl; rfl; clear hS; intro mb w hS; simp only [putW]) | (refine append1 (f := svF) hS rfl rfl (.slice ua X.length uc) rfl rfl (⟨s, vo, vd, vf⟩ : SV) ?_ ?_ ?_ ?_ ?_ ?_; rfl; (focus (exact HC2.out)); rfl; (focus (unfold maxLen; omega)); (focus (omega)); clear hS; intro v' w hS; simp only [putW]) | (refine load1 hS rfl rfl rfl rfl ?_; simp only [putW]) | (refine loadAll hS rfl rfl rfl ?_ ?_; rfl; simp only [putW]) | (refine loadPart hS rfl rfl rfl ?_ rfl ?_; rfl; simp only [putW]) | (refine store1 hS rfl rfl rfl rfl rfl ?_ ?_; (focus (simp; done)); clear hS; intro w hS; simp only [evW, putW] at hS; try simp only [putW]) | (refine storeAll hS rfl rfl rfl rfl ?_ ?_ ?_ ?_; rfl; (focus (simp [Value.oneCell']; done)); rfl; clear hS; intro w hS; try simp only [putW]) | (refine storeN hS rfl rfl rfl rfl ?_ ?_ ?_ ?_; rfl; (focus (simp [Value.oneCell']; done)); (focus (simp; done)); clear hS; intro w hS; simp at hS; try simp only [putW]) | (refine alloc hS rfl rfl ?_; clear hS; intro mb w hS; simp only [putW]) | (refine box1 hS rfl rfl rfl rfl ?_; clear hS; intro mb w hS; try simp only [evW, putW] at hS; simp only [putW]) | (refine boxN hS rfl rfl rfl ?_; clear hS; intro mb w hS; simp only [putW]))
          have hS2 : Sat w0 ((⟨s, vo, vd, vf⟩ : SV).l ++ (77, stepsC X) :: (blk v', sl 9 svF (X ++ [(⟨s, vo, vd, vf⟩ : SV)]) 29 v') :: (g, slc 1 strF L cap 9) :: []) w := Sat.conv (S' := (blk vo, sl 1 by8 s.od 5 vo) :: (blk vd, sl 1 by8 s.da 5 vd) :: (blk vf, sl 1 i64 s.fa 3 vf) :: (77, stepsC X) :: (blk v', sl 9 svF (X ++ [(⟨s, vo, vd, vf⟩ : SV)]) 29 v') :: (g, slc 1 strF L cap 9) :: []) hS
          clear hS
          have hS := steps_push hS2
          clear hS2
          go_roundw
          case rel => exact ⟨k + 1, _, _, _, by omega, by go_num, by go_num, rfl, HN2, hS.conv⟩
          case measure => simp only [intOf]; omega
    · have hke : L.take k = L := List.take_of_length_le (by omega)
      obtain rfl : k = L.length := by omega
      obtain ⟨xs, ok, nn, fi⟩ := hF.out
      rw [hke] at xs nn
      rw [firstR_eq] at fi
      have HX : Bx (X.map (·.s) = (fullL L).map gotR) := ⟨xs⟩
      have HO : Bx (∀ x ∈ X, SOk x.s) := ⟨ok⟩
      clear hF hke xs ok hlt
      by_cases hbig : 1024 < (fullL L).length
      · have HR : Bx (rlinesL (splitC 10 t) = ([], 0, 4)) := ⟨by rw [HL.out]; unfold rlinesL; rw [if_pos hbig]⟩
        have hn1 : 1024 < n := by omega
        clear nn hbig fi HL
        go_wp2_with (first | (refine load1 hS rfl rfl rfl rfl ?_; simp only [putW]) | (refine loadAll hS rfl rfl rfl ?_ ?_; rfl; simp only [putW]) | (refine loadPart hS rfl rfl rfl ?_ rfl ?_; rfl; simp only [putW]) | (refine store1 hS rfl rfl rfl rfl rfl ?_ ?_; (focus (simp; done)); clear hS; intro w hS; simp only [evW, putW] at hS; try simp only [putW]) | (refine storeAll hS rfl rfl rfl rfl ?_ ?_ ?_ ?_; rfl; (focus (simp [Value.oneCell']; done)); rfl; clear hS; intro w hS; try simp only [putW]) | (refine storeN hS rfl rfl rfl rfl ?_ ?_ ?_ ?_; rfl; (focus (simp [Value.oneCell']; done)); (focus (simp; done)); clear hS; intro w hS; simp at hS; try simp only [putW]) | (refine alloc hS rfl rfl ?_; clear hS; intro mb w hS; simp only [putW]) | (refine box1 hS rfl rfl rfl rfl ?_; clear hS; intro mb w hS; try simp only [evW, putW] at hS; simp only [putW]) | (refine boxN hS rfl rfl rfl ?_; clear hS; intro mb w hS; simp only [putW]))
        exact bodyPost_ret (v := .tuple #[nilV, .int .i64 0, .int .i64 4]) (by simp [results, Tryz.results17]) rfl ⟨[], nilV, by rw [HR.out] <;> rfl, by rw [HR.out] <;> rfl, fun x hx => (by cases hx), (steps_nil hS.nothing).slNil 9 svF 29⟩
      · have hn1 : ¬ (1024 < n) := by omega
        by_cases f1 : firstK L L.length = 0
        · obtain rfl : b = 0 := by rw [fi, f1]; rfl
          have HR : Bx (rlinesL (splitC 10 t) = ((fullL L).map gotR, 0, 0)) := ⟨by rw [HL.out]; unfold rlinesL; rw [if_neg hbig, if_pos f1]⟩
          clear nn hbig f1 HL fi
          go_wp2_with (first | (refine load1 hS rfl rfl rfl rfl ?_; simp only [putW]) | (refine loadAll hS rfl rfl rfl ?_ ?_; rfl; simp only [putW]) | (refine loadPart hS rfl rfl rfl ?_ rfl ?_; rfl; simp only [putW]) | (refine store1 hS rfl rfl rfl rfl rfl ?_ ?_; (focus (simp; done)); clear hS; intro w hS; simp only [evW, putW] at hS; try simp only [putW]) | (refine storeAll hS rfl rfl rfl rfl ?_ ?_ ?_ ?_; rfl; (focus (simp [Value.oneCell']; done)); rfl; clear hS; intro w hS; try simp only [putW]) | (refine storeN hS rfl rfl rfl rfl ?_ ?_ ?_ ?_; rfl; (focus (simp [Value.oneCell']; done)); (focus (simp; done)); clear hS; intro w hS; simp at hS; try simp only [putW]) | (refine alloc hS rfl rfl ?_; clear hS; intro mb w hS; simp only [putW]) | (refine box1 hS rfl rfl rfl rfl ?_; clear hS; intro mb w hS; try simp only [evW, putW] at hS; simp only [putW]) | (refine boxN hS rfl rfl rfl ?_; clear hS; intro mb w hS; simp only [putW]))
          exact bodyPost_ret (v := .tuple #[.slice ua X.length uc, .int .i64 0, .int .i64 0]) (by simp [results, Tryz.results17]) rfl ⟨X, .slice ua X.length uc, by rw [HR.out] <;> rfl, by rw [HR.out]; exact HX.out, HO.out, hS.conv⟩
        · have HR : Bx (rlinesL (splitC 10 t) = ([], firstK L L.length, 3)) := ⟨by rw [HL.out]; unfold rlinesL; rw [if_neg hbig, if_neg f1]⟩
          have hb : 0 < b := by omega
          have HB : Bx (b = ((firstK L L.length : Nat) : Int)) := ⟨fi⟩
          clear nn hbig f1 HL fi
          go_wp2_with (first | (refine load1 hS rfl rfl rfl rfl ?_; simp only [putW]) | (refine loadAll hS rfl rfl rfl ?_ ?_; rfl; simp only [putW]) | (refine loadPart hS rfl rfl rfl ?_ rfl ?_; rfl; simp only [putW]) | (refine store1 hS rfl rfl rfl rfl rfl ?_ ?_; (focus (simp; done)); clear hS; intro w hS; simp only [evW, putW] at hS; try simp only [putW]) | (refine storeAll hS rfl rfl rfl rfl ?_ ?_ ?_ ?_; rfl; (focus (simp [Value.oneCell']; done)); rfl; clear hS; intro w hS; try simp only [putW]) | (refine storeN hS rfl rfl rfl rfl ?_ ?_ ?_ ?_; rfl; (focus (simp [Value.oneCell']; done)); (focus (simp; done)); clear hS; intro w hS; simp at hS; try simp only [putW]) | (refine alloc hS rfl rfl ?_; clear hS; intro mb w hS; simp only [putW]) | (refine box1 hS rfl rfl rfl rfl ?_; clear hS; intro mb w hS; try simp only [evW, putW] at hS; simp only [putW]) | (refine boxN hS rfl rfl rfl ?_; clear hS; intro mb w hS; simp only [putW]))
          exact bodyPost_ret (v := .tuple #[nilV, .int .i64 b, .int .i64 3]) (by simp [results, Tryz.results17]) rfl ⟨[], nilV, by rw [HR.out, HB.out], by rw [HR.out] <;> rfl, fun x hx => (by cases hx), (steps_nil hS.nothing).slNil 9 svF 29⟩
theorem lines_two (t : Bs) : (linesS t).2 = (rlinesL (splitC 10 t)).2 ∧ ((linesS t).1 = [] ∧ (rlinesL (splitC 10 t)).1 = [] ∨ ∃ D : List Bs, (linesS t).1 = D.map gotL ∧ (rlinesL (splitC 10 t)).1 = D.map gotR) := by
  unfold linesS linesL rlinesL
  split
  · exact ⟨rfl, .inl ⟨rfl, rfl⟩⟩
  · split
    · exact ⟨rfl, .inr ⟨_, rfl, rfl⟩⟩
    · exact ⟨rfl, .inl ⟨rfl, rfl⟩⟩
theorem lines_eqv {X Y : List SV} {t : Bs} (hX : X.map (·.s) = (linesS t).1) (hY : Y.map (·.s) = (rlinesL (splitC 10 t)).1) : X.length = Y.length ∧ ∀ (i : Nat) (x y : SV), X[i]? = some x → Y[i]? = some y → eqv x.s y.s := by
  obtain ⟨D, h1, h2⟩ : ∃ D : List Bs, (linesS t).1 = D.map gotL ∧ (rlinesL (splitC 10 t)).1 = D.map gotR := by
    rcases (lines_two t).2 with ⟨a, b⟩ | h
    · exact ⟨[], a, b⟩
    · exact h
  rw [h1] at hX
  rw [h2] at hY
  refine ⟨?_, fun i x y hx hy => ?_⟩
  · have := congrArg List.length hX
    have := congrArg List.length hY
    simp only [List.length_map] at *
    omega
  have e1 : (X.map (·.s))[i]? = some x.s := by rw [List.getElem?_map, hx]; rfl
  have e2 : (Y.map (·.s))[i]? = some y.s := by rw [List.getElem?_map, hy]; rfl
  rw [hX, List.getElem?_map] at e1
  rw [hY, List.getElem?_map] at e2
  cases hd : D[i]? with
  | none => rw [hd] at e1; cases e1
  | some d =>
    rw [hd] at e1 e2
    have a : gotL d = x.s := by simpa using e1
    have b : gotR d = y.s := by simpa using e2
    rw [← a, ← b]
    exact (readings d).2
set_option maxRecDepth 100000 in
set_option maxHeartbeats 4000000 in
theorem scriptLines_any (t : Bs) (hK : KV w0) : Calls Tryz.prog 5 #[str t] w0 fun e w' => e = .returned (.bool true) ∧ Sat w0 [] w' := by
  have hS := Sat.refl w0
  have HK : Bx (KV w0) := ⟨hK⟩
  clear hK
  by_cases hl : 9000 < t.length
  · go_enter Tryz.func5, Tryz.ntmps5
    go_wp2_with (first | (go_at_call 9; refine Calls.mono (awake_any (HK.out.mono hS.base)) ?_; rintro _ w2 ⟨rfl, h2⟩; replace hS := hS.frame h2; clear h2; (try simp only [List.cons_append, List.nil_append] at hS); simp only [putW]) | (refine load1 hS rfl rfl rfl rfl ?_; simp only [putW]) | (refine loadAll hS rfl rfl rfl ?_ ?_; rfl; simp only [putW]) | (refine loadPart hS rfl rfl rfl ?_ rfl ?_; rfl; simp only [putW]) | (refine store1 hS rfl rfl rfl rfl rfl ?_ ?_; (focus (simp; done)); clear hS; intro w hS; simp only [evW, putW] at hS; try simp only [putW]) | (refine storeAll hS rfl rfl rfl rfl ?_ ?_ ?_ ?_; rfl; (focus (simp [Value.oneCell']; done)); rfl; clear hS; intro w hS; try simp only [putW]) | (refine storeN hS rfl rfl rfl rfl ?_ ?_ ?_ ?_; rfl; (focus (simp [Value.oneCell']; done)); (focus (simp; done)); clear hS; intro w hS; simp at hS; try simp only [putW]) | (refine alloc hS rfl rfl ?_; clear hS; intro mb w hS; simp only [putW]) | (refine box1 hS rfl rfl rfl rfl ?_; clear hS; intro mb w hS; try simp only [evW, putW] at hS; simp only [putW]) | (refine boxN hS rfl rfl rfl ?_; clear hS; intro mb w hS; simp only [putW]))
    go_ret
    exact ⟨rfl, hS⟩
  have HL : Bx (t.length ≤ 100000) := ⟨by omega⟩
  have HL9 : Bx (t.length ≤ 900000) := ⟨by omega⟩
  have H2 : Bx _ := ⟨(lines_two t).1⟩
  go_enter Tryz.func5, Tryz.ntmps5
  go_wp2_with (first | (guard_target =~ Calls _ 16 _ _ _; refine Stopped.out ?_) | (refine load1 hS rfl rfl rfl rfl ?_; simp only [putW]) | (refine loadAll hS rfl rfl rfl ?_ ?_; rfl; simp only [putW]) | (refine loadPart hS rfl rfl rfl ?_ rfl ?_; rfl; simp only [putW]) | (refine store1 hS rfl rfl rfl rfl rfl ?_ ?_; (focus (simp; done)); clear hS; intro w hS; simp only [evW, putW] at hS; try simp only [putW]) | (refine storeAll hS rfl rfl rfl rfl ?_ ?_ ?_ ?_; rfl; (focus (simp [Value.oneCell']; done)); rfl; clear hS; intro w hS; try simp only [putW]) | (refine storeN hS rfl rfl rfl rfl ?_ ?_ ?_ ?_; rfl; (focus (simp [Value.oneCell']; done)); (focus (simp; done)); clear hS; intro w hS; simp at hS; try simp only [putW]) | (refine alloc hS rfl rfl ?_; clear hS; intro mb w hS; simp only [putW]) | (refine box1 hS rfl rfl rfl rfl ?_; clear hS; intro mb w hS; try simp only [evW, putW] at hS; simp only [putW]) | (refine boxN hS rfl rfl rfl ?_; clear hS; intro mb w hS; simp only [putW]))
  refine ⟨?_⟩
  refine Calls.mono (lines_any t (HK.out.mono hS.base) HL9.out) ?_
  rintro _ w ⟨X, vx, rfl, hX, hok, h3⟩
  have HRX : Bx (RSs w X vx) := ⟨Sl.Sat.readsAll (v := vx) h3 hok⟩
  have hS1 : Sat w0 [] w := (hS.frame h3).nothing
  clear hS h3 hok
  have hS := hS1
  clear hS1
  rw [H2.out]
  simp only [putW]
  go_wp2_with (first | (guard_target =~ Calls _ 17 _ _ _; refine Stopped.out ?_) | (refine load1 hS rfl rfl rfl rfl ?_; simp only [putW]) | (refine loadAll hS rfl rfl rfl ?_ ?_; rfl; simp only [putW]) | (refine loadPart hS rfl rfl rfl ?_ rfl ?_; rfl; simp only [putW]) | (refine store1 hS rfl rfl rfl rfl rfl ?_ ?_; (focus (simp; done)); clear hS; intro w hS; simp only [evW, putW] at hS; try simp only [putW]) | (refine storeAll hS rfl rfl rfl rfl ?_ ?_ ?_ ?_; rfl; (focus (simp [Value.oneCell']; done)); rfl; clear hS; intro w hS; try simp only [putW]) | (refine storeN hS rfl rfl rfl rfl ?_ ?_ ?_ ?_; rfl; (focus (simp [Value.oneCell']; done)); (focus (simp; done)); clear hS; intro w hS; simp at hS; try simp only [putW]) | (refine alloc hS rfl rfl ?_; clear hS; intro mb w hS; simp only [putW]) | (refine box1 hS rfl rfl rfl rfl ?_; clear hS; intro mb w hS; try simp only [evW, putW] at hS; simp only [putW]) | (refine boxN hS rfl rfl rfl ?_; clear hS; intro mb w hS; simp only [putW]))
  refine ⟨?_⟩
  refine Calls.mono (rlines_any t (HK.out.mono hS.base) HL.out) ?_
  rintro _ w2 ⟨Y, vy, rfl, hY, hok, h3⟩
  have HRY : Bx (RSs w2 Y vy) := ⟨Sl.Sat.readsAll (v := vy) h3 hok⟩
  have HRX2 : Bx (RSs w2 X vx) := ⟨HRX.out.mono h3.base⟩
  have hS1 : Sat w0 [] w2 := (hS.frame h3).nothing
  have HM1 : Bx _ := ⟨(lines_eqv hX hY).1⟩
  have HM2 : Bx _ := ⟨(lines_eqv hX hY).2⟩
  clear hS h3 hok HRX hX hY H2
  have hS := hS1
  clear hS1
  generalize (rlinesL (splitC 10 t)).2.1 = a1
  generalize (rlinesL (splitC 10 t)).2.2 = a2
  simp only [putW]
  go_wp2_with (first | (go_at_call 14; refine Calls.mono (sameAll_true (HRX2.out) (HRY.out) HM1.out HM2.out) ?_; rintro _ w2 ⟨rfl, h2⟩; replace hS := hS.frame h2; clear h2; (try simp only [List.cons_append, List.nil_append] at hS); simp only [putW]) | (go_at_call 9; refine Calls.mono (awake_any (HK.out.mono hS.base)) ?_; rintro _ w2 ⟨rfl, h2⟩; replace hS := hS.frame h2; clear h2; (try simp only [List.cons_append, List.nil_append] at hS); simp only [putW]) | (refine load1 hS rfl rfl rfl rfl ?_; simp only [putW]) | (refine loadAll hS rfl rfl rfl ?_ ?_; rfl; simp only [putW]) | (refine loadPart hS rfl rfl rfl ?_ rfl ?_; rfl; simp only [putW]) | (refine store1 hS rfl rfl rfl rfl rfl ?_ ?_; (focus (simp; done)); clear hS; intro w hS; simp only [evW, putW] at hS; try simp only [putW]) | (refine storeAll hS rfl rfl rfl rfl ?_ ?_ ?_ ?_; rfl; (focus (simp [Value.oneCell']; done)); rfl; clear hS; intro w hS; try simp only [putW]) | (refine storeN hS rfl rfl rfl rfl ?_ ?_ ?_ ?_; rfl; (focus (simp [Value.oneCell']; done)); (focus (simp; done)); clear hS; intro w hS; simp at hS; try simp only [putW]) | (refine alloc hS rfl rfl ?_; clear hS; intro mb w hS; simp only [putW]) | (refine box1 hS rfl rfl rfl rfl ?_; clear hS; intro mb w hS; try simp only [evW, putW] at hS; simp only [putW]) | (refine boxN hS rfl rfl rfl ?_; clear hS; intro mb w hS; simp only [putW]))
  go_ret
  exact ⟨rfl, hS⟩
end
end Go.Proofs.YtpbjkfomdindnaaGreatDoor
