/-
  TreeKids: the walk.
-/
import Derived.Test.YtmhnnppcihoofaaDoorTrSet
import Derived.Test.YtmhnnppcihoofaaDoorTrAwake
import Derived.Test.YtmhnnppcihoofaaDoorShEq
set_option linter.unusedSimpArgs false
set_option linter.unusedVariables false
namespace Go.Proofs.YtmhnnppcihoofaaDoor.TreeKidsDone
open Go.RowKit Go.Proofs.YtmhnnppcihoofaaDoor Go.Proofs.YtmhnnppcihoofaaDoor.Sl Go.Proofs.YtmhnnppcihoofaaDoor.Sha Go.Proofs.YtmhnnppcihoofaaDoor.Jp Go.Proofs.YtmhnnppcihoofaaDoor.Tr

theorem kid_put {A D : List Int} {j k : Nat} (hA : A.length = 256) (hD : D.length = 32) (hj : j < 8) (hk : k < 8) : kidF (putAt A (32 * j) D) k = if k = j then D else kidF A k := by
  have hl : (kidF (putAt A (32 * j) D) k).length = 32 := kid_len (by rw [putAt_len (by omega)]; exact hA) hk
  apply List.ext_getElem?
  intro q
  by_cases hq : q < 32
  · have e1 : (kidF (putAt A (32 * j) D) k)[q]? = (putAt A (32 * j) D)[32 * k + q]? := by unfold kidF; rw [List.getElem?_take, if_pos hq, List.getElem?_drop]
    rw [e1]
    unfold putAt
    have hlt : (A.take (32 * j)).length = 32 * j := by rw [List.length_take]; omega
    by_cases e : k = j
    · subst e
      rw [if_pos rfl, List.getElem?_append_left (by rw [List.length_append, hlt]; omega), List.getElem?_append_right (by omega)]
      congr 1
      omega
    · rw [if_neg e]
      have e2 : (kidF A k)[q]? = A[32 * k + q]? := by unfold kidF; rw [List.getElem?_take, if_pos hq, List.getElem?_drop]
      rw [e2]
      by_cases h : k < j
      · rw [List.getElem?_append_left (by rw [List.length_append, hlt]; omega), List.getElem?_append_left (by omega), List.getElem?_take, if_pos (by omega)]
      · rw [List.getElem?_append_right (by rw [List.length_append, hlt]; omega), List.getElem?_drop]
        congr 1
        rw [List.length_append, hlt]
        omega
  · rw [List.getElem?_eq_none (by omega)]
    by_cases e : k = j
    · rw [if_pos e, List.getElem?_eq_none (by omega)]
    · rw [if_neg e, List.getElem?_eq_none (by rw [kid_len hA hk]; omega)]
section
variable {w0 : World} {va : Value} {A D : List Int}
abbrev z32 : List Int := List.replicate 32 0
set_option maxRecDepth 100000 in
set_option maxHeartbeats 4000000 in
theorem core (i : Int) (hA : RB w0 A va) (hl : A.length ≤ 140737488351232) (hD : D.length = 32) (hDb : ∀ b ∈ D, okByte b) (hK : KTab w0) : Calls Tryd.prog 3 #[va, .int .i64 i, .agg (D.map u8v).toArray] w0 fun e w' => e = .returned (.bool true) ∧ Sat w0 [] w' := by
  have hS := Sat.refl w0
  have HA : Bx _ := ⟨hA⟩
  have HDl : Bx _ := ⟨hD⟩
  have HDb : Bx _ := ⟨hDb⟩
  have HK : Bx _ := ⟨hK⟩
  obtain ⟨n, hn⟩ : ∃ n, A.length = n := ⟨_, rfl⟩
  have Hn : Bx _ := ⟨hn⟩
  obtain ⟨f, hf⟩ : ∃ f, fitsE A.length i = f := ⟨_, rfl⟩
  have Hf : Bx _ := ⟨hf⟩
  have HL : Bx _ := ⟨hl⟩
  have HDs : Bx ((D.map u8v).toArray.size = 32) := ⟨by simp [hD]⟩
  obtain ⟨pa, ca, rfl, -, -⟩ := hA.at
  rw [hn] at HA ⊢
  clear hA hD hDb hK hf hl hn
  go_enter Tryd.func3, Tryd.ntmps3
  go_wp2_with (first | (refine boxA (vv := u8v) hS rfl rfl D rfl ?_; clear hS; intro m5 w hS; simp only [putW]) | (guard_target =~ Calls _ 4 _ _ _; refine Stopped.out ?_) | (refine load1 hS rfl rfl rfl rfl ?_; simp only [putW]) | (refine loadAll hS rfl rfl rfl ?_ ?_; rfl; simp only [putW]) | (refine loadPart hS rfl rfl rfl ?_ rfl ?_; rfl; simp only [putW]) | (refine store1 hS rfl rfl rfl rfl rfl ?_ ?_; (focus (simp; done)); clear hS; intro w hS; simp only [evW, putW] at hS; try simp only [putW]) | (refine storeAll hS rfl rfl rfl rfl ?_ ?_ ?_ ?_; rfl; (focus (simp [Value.oneCell']; done)); rfl; clear hS; intro w hS; try simp only [putW]) | (refine storeN hS rfl rfl rfl rfl ?_ ?_ ?_ ?_; rfl; (focus (simp [Value.oneCell']; done)); (focus (simp; done)); clear hS; intro w hS; simp at hS; try simp only [putW]) | (refine alloc hS rfl rfl ?_; clear hS; intro mb w hS; simp only [putW]) | (refine box1 hS rfl rfl rfl rfl ?_; clear hS; intro mb w hS; try simp only [evW, putW] at hS; simp only [putW]) | (refine boxN hS rfl rfl rfl ?_; clear hS; intro mb w hS; simp only [putW]))
  refine ⟨?_⟩
  (refine Calls.mono (lent_any (HA.out.mono hS.base) HL.out) ?_; rintro _ w2 ⟨g, cap, rfl, h2⟩; replace hS := hS.frame h2; clear h2; (try simp only [List.cons_append, List.nil_append] at hS); simp only [putW])
  rw [Hn.out]
  have HF : ∀ {w' : World} {S F : List Chunk} [Pull S g (slc 1 by8 (A ++ lent3) cap 5) F], Sat w0 S w' → RB w' (A ++ lent3) (.slice (some ⟨g, 0, none⟩) (n + 3) cap) := fun {w' S F} _ h => by
    have h1 := h.readsSlc (g := g) (n := 1) (f := by8) (L := A ++ lent3) (cap := cap) (t := 5) (gd := okByte) (fun b hb => (List.mem_append.1 hb).elim (HA.out.all b) (lent3_ok b))
    rw [List.length_append, Hn.out] at h1
    exact h1
  have HI : ∀ {w' : World} {S F : List Chunk} [Pull S g (slc 1 by8 (A ++ lent3) cap 5) F], Sat w0 S w' → RB w' A (.slice (some ⟨g, 0, none⟩) n cap) := fun {w' S F} _ h => by
    have h2 := bslHi (k := n) (HF h) (by omega)
    rw [List.take_left' Hn.out] at h2
    exact h2
  go_wp2_with (first | (guard_target =~ Calls _ 5 _ _ _; refine Stopped.out ?_) | (refine load1 hS rfl rfl rfl rfl ?_; simp only [putW]) | (refine loadAll hS rfl rfl rfl ?_ ?_; rfl; simp only [putW]) | (refine loadPart hS rfl rfl rfl ?_ rfl ?_; rfl; simp only [putW]) | (refine store1 hS rfl rfl rfl rfl rfl ?_ ?_; (focus (simp; done)); clear hS; intro w hS; simp only [evW, putW] at hS; try simp only [putW]) | (refine storeAll hS rfl rfl rfl rfl ?_ ?_ ?_ ?_; rfl; (focus (simp [Value.oneCell']; done)); rfl; clear hS; intro w hS; try simp only [putW]) | (refine storeN hS rfl rfl rfl rfl ?_ ?_ ?_ ?_; rfl; (focus (simp [Value.oneCell']; done)); (focus (simp; done)); clear hS; intro w hS; simp at hS; try simp only [putW]) | (refine alloc hS rfl rfl ?_; clear hS; intro mb w hS; simp only [putW]) | (refine box1 hS rfl rfl rfl rfl ?_; clear hS; intro mb w hS; try simp only [evW, putW] at hS; simp only [putW]) | (refine boxN hS rfl rfl rfl ?_; clear hS; intro mb w hS; simp only [putW]))
  refine ⟨?_⟩
  (refine Calls.mono (fault_any (HA.out.mono hS.base) HL.out i) ?_; rintro _ w2 ⟨rfl, h2⟩; replace hS := hS.frame h2; clear h2; (try simp only [List.cons_append, List.nil_append] at hS); simp only [putW])
  rw [Hf.out]
  by_cases h0 : f = 0
  · subst h0
    have hn256 : n = 256 ∧ 0 ≤ i ∧ i < 8 := by
      have h := Hf.out
      rw [fitsE, Hn.out] at h
      by_cases h1 : n = 256
      · rw [if_neg (by simpa using h1)] at h
        by_cases h2 : i < 0 ∨ 8 ≤ i
        · rw [if_pos h2] at h; cases h
        · exact ⟨h1, by omega, by omega⟩
      · rw [if_pos h1] at h; cases h
    obtain ⟨rfl, hi0, hi8⟩ := hn256
    obtain ⟨j, rfl⟩ : ∃ j : Nat, i = (j : Int) := ⟨i.toNat, by omega⟩
    have hj : j < 8 := by omega
    obtain ⟨X, hX⟩ : ∃ X, kidF A j = X := ⟨_, rfl⟩
    have HX : Bx _ := ⟨hX⟩
    have HXl : Bx (X.length = 32) := ⟨by rw [← hX]; exact kid_len Hn.out hj⟩
    have HXb : Bx (∀ b ∈ X, okByte b) := ⟨by rw [← hX]; exact kid_byte HA.out.all⟩
    clear hX
    go_wp2_with (first | (guard_target =~ Calls _ 6 _ _ _; refine Stopped.out ?_) | (refine load1 hS rfl rfl rfl rfl ?_; simp only [putW]) | (refine loadAll hS rfl rfl rfl ?_ ?_; rfl; simp only [putW]) | (refine loadPart hS rfl rfl rfl ?_ rfl ?_; rfl; simp only [putW]) | (refine store1 hS rfl rfl rfl rfl rfl ?_ ?_; (focus (simp; done)); clear hS; intro w hS; simp only [evW, putW] at hS; try simp only [putW]) | (refine storeAll hS rfl rfl rfl rfl ?_ ?_ ?_ ?_; rfl; (focus (simp [Value.oneCell']; done)); rfl; clear hS; intro w hS; try simp only [putW]) | (refine storeN hS rfl rfl rfl rfl ?_ ?_ ?_ ?_; rfl; (focus (simp [Value.oneCell']; done)); (focus (simp; done)); clear hS; intro w hS; simp at hS; try simp only [putW]) | (refine alloc hS rfl rfl ?_; clear hS; intro mb w hS; simp only [putW]) | (refine box1 hS rfl rfl rfl rfl ?_; clear hS; intro mb w hS; try simp only [evW, putW] at hS; simp only [putW]) | (refine boxN hS rfl rfl rfl ?_; clear hS; intro mb w hS; simp only [putW]))
    refine ⟨?_⟩
    (refine Calls.mono (kid_any (i := j) rfl (HI hS) Hn.out hj HX.out) ?_; rintro _ w2 ⟨rfl, h2⟩; replace hS := hS.frame h2; clear h2; (try simp only [List.cons_append, List.nil_append] at hS); simp only [putW])
    go_wp2_with (first | (refine allocA (t := 23) (vv := u8v) hS rfl rfl (List.replicate 32 0) zeros32 ?_; clear hS; intro m9 w hS; simp only [putW]) | (refine storeAllA (vv := u8v) hS rfl rfl rfl X rfl HXl.out (fun _ _ => rfl) (by simp) ?_; clear hS; intro w hS; try simp only [putW]) | (refine loadAllA (l := D) (vv := u8v) hS rfl rfl rfl HDl.out ?_; simp only [putW]) | (guard_target =~ Calls _ 7 _ _ _; refine Stopped.out ?_) | (refine load1 hS rfl rfl rfl rfl ?_; simp only [putW]) | (refine loadAll hS rfl rfl rfl ?_ ?_; rfl; simp only [putW]) | (refine loadPart hS rfl rfl rfl ?_ rfl ?_; rfl; simp only [putW]) | (refine store1 hS rfl rfl rfl rfl rfl ?_ ?_; (focus (simp; done)); clear hS; intro w hS; simp only [evW, putW] at hS; try simp only [putW]) | (refine storeAll hS rfl rfl rfl rfl ?_ ?_ ?_ ?_; rfl; (focus (simp [Value.oneCell']; done)); rfl; clear hS; intro w hS; try simp only [putW]) | (refine storeN hS rfl rfl rfl rfl ?_ ?_ ?_ ?_; rfl; (focus (simp [Value.oneCell']; done)); (focus (simp; done)); clear hS; intro w hS; simp at hS; try simp only [putW]) | (refine alloc hS rfl rfl ?_; clear hS; intro mb w hS; simp only [putW]) | (refine box1 hS rfl rfl rfl rfl ?_; clear hS; intro mb w hS; try simp only [evW, putW] at hS; simp only [putW]) | (refine boxN hS rfl rfl rfl ?_; clear hS; intro mb w hS; simp only [putW]))
    refine ⟨?_⟩
    (refine Calls.mono (setKid_any (i := j) rfl (HI hS) Hn.out hj HDl.out HDb.out) ?_; rintro _ w2 ⟨go, co, rfl, h2⟩; replace hS := hS.frame h2; clear h2; (try simp only [List.cons_append, List.nil_append] at hS); simp only [putW])
    have hEX : ∀ w : World, (Op.equalIn 10000 23 (.agg (X.map u8v).toArray) (.agg (X.map u8v).toArray)).run Tryd.prog w = .ok true w := fun w => by
      rw [eq32 HXl.out HXl.out HXb.out HXb.out, decide_eq_true rfl]
    obtain ⟨B, hB⟩ : ∃ B, putAt A (32 * j) D = B := ⟨_, rfl⟩
    have HBl : Bx (B.length = 256) := ⟨by rw [← hB, putAt_len (by rw [HDl.out, Hn.out]; omega)]; exact Hn.out⟩
    have HBb : Bx (∀ b ∈ B, okByte b) := ⟨by rw [← hB]; exact putAt_all HA.out.all HDb.out⟩
    have HBk : Bx (∀ k, k < 8 → kidF B k = if k = j then D else kidF A k) := ⟨fun k hk => by rw [← hB]; exact kid_put Hn.out HDl.out hj hk⟩
    rw [hB] at hS
    clear hB
    have HO : ∀ {w' : World} {S F : List Chunk} [Pull S go (slc 1 by8 B co 5) F], Sat w0 S w' → RB w' B (.slice (some ⟨go, 0, none⟩) 256 co) := fun {w' S F} _ h => by
      have h1 := h.readsSlc (g := go) (n := 1) (f := by8) (L := B) (cap := co) (t := 5) (gd := okByte) HBb.out
      rw [HBl.out] at h1
      exact h1
    go_wp2_with (first | (guard_target =~ Calls _ 8 _ _ _; refine Stopped.out ?_) | (refine load1 hS rfl rfl rfl rfl ?_; simp only [putW]) | (refine loadAll hS rfl rfl rfl ?_ ?_; rfl; simp only [putW]) | (refine loadPart hS rfl rfl rfl ?_ rfl ?_; rfl; simp only [putW]) | (refine store1 hS rfl rfl rfl rfl rfl ?_ ?_; (focus (simp; done)); clear hS; intro w hS; simp only [evW, putW] at hS; try simp only [putW]) | (refine storeAll hS rfl rfl rfl rfl ?_ ?_ ?_ ?_; rfl; (focus (simp [Value.oneCell']; done)); rfl; clear hS; intro w hS; try simp only [putW]) | (refine storeN hS rfl rfl rfl rfl ?_ ?_ ?_ ?_; rfl; (focus (simp [Value.oneCell']; done)); (focus (simp; done)); clear hS; intro w hS; simp at hS; try simp only [putW]) | (refine alloc hS rfl rfl ?_; clear hS; intro mb w hS; simp only [putW]) | (refine box1 hS rfl rfl rfl rfl ?_; clear hS; intro mb w hS; try simp only [evW, putW] at hS; simp only [putW]) | (refine boxN hS rfl rfl rfl ?_; clear hS; intro mb w hS; simp only [putW]))
    refine ⟨?_⟩
    (refine Calls.mono (kept_any Hn.out (HF hS) (HA.out.mono hS.base) HL.out) ?_; rintro _ w2 ⟨rfl, h2⟩; replace hS := hS.frame h2; clear h2; (try simp only [List.cons_append, List.nil_append] at hS); simp only [putW])
    go_upto_region 9 with (first | (refine load1 hS rfl rfl rfl rfl ?_; simp only [putW]) | (refine loadAll hS rfl rfl rfl ?_ ?_; rfl; simp only [putW]) | (refine loadPart hS rfl rfl rfl ?_ rfl ?_; rfl; simp only [putW]) | (refine store1 hS rfl rfl rfl rfl rfl ?_ ?_; (focus (simp; done)); clear hS; intro w hS; simp only [evW, putW] at hS; try simp only [putW]) | (refine storeAll hS rfl rfl rfl rfl ?_ ?_ ?_ ?_; rfl; (focus (simp [Value.oneCell']; done)); rfl; clear hS; intro w hS; try simp only [putW]) | (refine storeN hS rfl rfl rfl rfl ?_ ?_ ?_ ?_; rfl; (focus (simp [Value.oneCell']; done)); (focus (simp; done)); clear hS; intro w hS; simp at hS; try simp only [putW]) | (refine alloc hS rfl rfl ?_; clear hS; intro mb w hS; simp only [putW]) | (refine box1 hS rfl rfl rfl rfl ?_; clear hS; intro mb w hS; try simp only [evW, putW] at hS; simp only [putW]) | (refine boxN hS rfl rfl rfl ?_; clear hS; intro mb w hS; simp only [putW]))
    (refine region_quiet hS (by kernel_rfl) (by kernel_rfl) (by kernel_rfl) ?_; clear hS; (repeat (apply quiet_step; (focus (intro w hS; go_wp2_with (first | (refine loadAllA (l := X) (vv := u8v) hS rfl rfl rfl HXl.out ?_; simp only [putW]) | (go_at_call 10; refine Calls.mono (refKid_any (i := j) rfl (HA.out.mono hS.base) Hn.out hj HX.out) ?_; rintro _ w2 ⟨rfl, h2⟩; replace hS := hS.frame h2; clear h2; (try simp only [List.cons_append, List.nil_append] at hS); simp only [putW]) | (refine load1 hS rfl rfl rfl rfl ?_; simp only [putW]) | (refine loadAll hS rfl rfl rfl ?_ ?_; rfl; simp only [putW]) | (refine loadPart hS rfl rfl rfl ?_ rfl ?_; rfl; simp only [putW])); exact ⟨rfl, rfl, hS⟩)); simp only [putW])); refine quiet_nil ?_; intro w hS)
    go_wp2_with (first | (refine load1 hS rfl rfl rfl rfl ?_; simp only [putW]) | (refine loadAll hS rfl rfl rfl ?_ ?_; rfl; simp only [putW]) | (refine loadPart hS rfl rfl rfl ?_ rfl ?_; rfl; simp only [putW]) | (refine store1 hS rfl rfl rfl rfl rfl ?_ ?_; (focus (simp; done)); clear hS; intro w hS; simp only [evW, putW] at hS; try simp only [putW]) | (refine storeAll hS rfl rfl rfl rfl ?_ ?_ ?_ ?_; rfl; (focus (simp [Value.oneCell']; done)); rfl; clear hS; intro w hS; try simp only [putW]) | (refine storeN hS rfl rfl rfl rfl ?_ ?_ ?_ ?_; rfl; (focus (simp [Value.oneCell']; done)); (focus (simp; done)); clear hS; intro w hS; simp at hS; try simp only [putW]) | (refine alloc hS rfl rfl ?_; clear hS; intro mb w hS; simp only [putW]) | (refine box1 hS rfl rfl rfl rfl ?_; clear hS; intro mb w hS; try simp only [evW, putW] at hS; simp only [putW]) | (refine boxN hS rfl rfl rfl ?_; clear hS; intro mb w hS; simp only [putW]))
    go_loopg [13] 8 (fun gg k' wr => ∃ k : Nat, k + gg = 8 ∧ k' = .int .i64 k ∧ Sat w0 ((go, slc 1 by8 B co 5) :: (m5, cells (D.map u8v).toArray 23) :: []) wr)
    case atStart => exact ⟨0, by omega, rfl, hS.conv⟩
    case round =>
      clear hS hEX
      obtain ⟨k, hkg, rfl, hS⟩ := hrel
      cases gk with
      | succ gg =>
        have hk : k < 8 := by omega
        obtain ⟨Wk, hWk⟩ : ∃ X, kidF A k = X := ⟨_, rfl⟩
        have HW : Bx _ := ⟨hWk⟩
        have HWl : Bx (Wk.length = 32) := ⟨by rw [← hWk]; exact kid_len Hn.out hk⟩
        have HWb : Bx (∀ b ∈ Wk, okByte b) := ⟨by rw [← hWk]; exact kid_byte HA.out.all⟩
        clear hWk
        go_wp2_with (first | (refine allocA (t := 23) (vv := u8v) hS rfl rfl (List.replicate 32 0) zeros32 ?_; clear hS; intro m14 w hS; simp only [putW]) | (refine storeAllA (vv := u8v) hS rfl rfl rfl Wk rfl HWl.out (fun _ _ => rfl) (by simp) ?_; clear hS; intro w hS; try simp only [putW]) | (go_at_call 10; refine Calls.mono (refKid_any (i := k) rfl (HA.out.mono hS.base) Hn.out hk HW.out) ?_; rintro _ w2 ⟨rfl, h2⟩; replace hS := hS.frame h2; clear h2; (try simp only [List.cons_append, List.nil_append] at hS); simp only [putW]) | (guard_target =~ wpList _ _ _ (Oper.mk (some 81) _ _ _ _ _ :: _) _ _; refine Stopped.out ?_) | (refine load1 hS rfl rfl rfl rfl ?_; simp only [putW]) | (refine loadAll hS rfl rfl rfl ?_ ?_; rfl; simp only [putW]) | (refine loadPart hS rfl rfl rfl ?_ rfl ?_; rfl; simp only [putW]) | (refine store1 hS rfl rfl rfl rfl rfl ?_ ?_; (focus (simp; done)); clear hS; intro w hS; simp only [evW, putW] at hS; try simp only [putW]) | (refine storeAll hS rfl rfl rfl rfl ?_ ?_ ?_ ?_; rfl; (focus (simp [Value.oneCell']; done)); rfl; clear hS; intro w hS; try simp only [putW]) | (refine storeN hS rfl rfl rfl rfl ?_ ?_ ?_ ?_; rfl; (focus (simp [Value.oneCell']; done)); (focus (simp; done)); clear hS; intro w hS; simp at hS; try simp only [putW]) | (refine alloc hS rfl rfl ?_; clear hS; intro mb w hS; simp only [putW]) | (refine box1 hS rfl rfl rfl rfl ?_; clear hS; intro mb w hS; try simp only [evW, putW] at hS; simp only [putW]) | (refine boxN hS rfl rfl rfl ?_; clear hS; intro mb w hS; simp only [putW]))
        refine ⟨?_⟩
        by_cases hkj : k = j
        · have HY : Bx (kidF B k = D) := ⟨by rw [HBk.out k hk, if_pos hkj]⟩
          have hEq : ∀ w : World, (Op.equalIn 10000 23 (.agg (D.map u8v).toArray) (.agg (D.map u8v).toArray)).run Tryd.prog w = .ok true w := fun w => by
            rw [eq32 HDl.out HDl.out HDb.out HDb.out, decide_eq_true rfl]
          subst hkj
          go_wp2_with (first | (refine loadAllA (l := D) (vv := u8v) hS rfl rfl rfl HDl.out ?_; simp only [putW]) | (refine storeAllA (b := m14) (vv := u8v) hS rfl rfl rfl D rfl HDl.out (fun _ _ => rfl) (by simp [HWl.out]) ?_; clear hS; intro w hS; try simp only [putW]) | (guard_target =~ Calls _ 6 _ _ _; refine Stopped.out ?_) | (refine load1 hS rfl rfl rfl rfl ?_; simp only [putW]) | (refine loadAll hS rfl rfl rfl ?_ ?_; rfl; simp only [putW]) | (refine loadPart hS rfl rfl rfl ?_ rfl ?_; rfl; simp only [putW]) | (refine store1 hS rfl rfl rfl rfl rfl ?_ ?_; (focus (simp; done)); clear hS; intro w hS; simp only [evW, putW] at hS; try simp only [putW]) | (refine storeAll hS rfl rfl rfl rfl ?_ ?_ ?_ ?_; rfl; (focus (simp [Value.oneCell']; done)); rfl; clear hS; intro w hS; try simp only [putW]) | (refine storeN hS rfl rfl rfl rfl ?_ ?_ ?_ ?_; rfl; (focus (simp [Value.oneCell']; done)); (focus (simp; done)); clear hS; intro w hS; simp at hS; try simp only [putW]) | (refine alloc hS rfl rfl ?_; clear hS; intro mb w hS; simp only [putW]) | (refine box1 hS rfl rfl rfl rfl ?_; clear hS; intro mb w hS; try simp only [evW, putW] at hS; simp only [putW]) | (refine boxN hS rfl rfl rfl ?_; clear hS; intro mb w hS; simp only [putW]))
          refine ⟨?_⟩
          (refine Calls.mono (kid_any (i := k) rfl (HO hS) HBl.out hk HY.out) ?_; rintro _ w2 ⟨rfl, h2⟩; replace hS := hS.frame h2; clear h2; (try simp only [List.cons_append, List.nil_append] at hS); simp only [putW])
          go_wp2_with (first | (refine allocA (t := 23) (vv := u8v) hS rfl rfl (List.replicate 32 0) zeros32 ?_; clear hS; intro m15 w hS; simp only [putW]) | (refine storeAllA (b := m15) (vv := u8v) hS rfl rfl rfl D rfl HDl.out (fun _ _ => rfl) (by simp) ?_; clear hS; intro w hS; try simp only [putW]) | (refine loadAllA (l := D) (vv := u8v) hS rfl rfl rfl HDl.out ?_; simp only [putW]) | (refine load1 hS rfl rfl rfl rfl ?_; simp only [putW]) | (refine loadAll hS rfl rfl rfl ?_ ?_; rfl; simp only [putW]) | (refine loadPart hS rfl rfl rfl ?_ rfl ?_; rfl; simp only [putW]) | (refine store1 hS rfl rfl rfl rfl rfl ?_ ?_; (focus (simp; done)); clear hS; intro w hS; simp only [evW, putW] at hS; try simp only [putW]) | (refine storeAll hS rfl rfl rfl rfl ?_ ?_ ?_ ?_; rfl; (focus (simp [Value.oneCell']; done)); rfl; clear hS; intro w hS; try simp only [putW]) | (refine storeN hS rfl rfl rfl rfl ?_ ?_ ?_ ?_; rfl; (focus (simp [Value.oneCell']; done)); (focus (simp; done)); clear hS; intro w hS; simp at hS; try simp only [putW]) | (refine alloc hS rfl rfl ?_; clear hS; intro mb w hS; simp only [putW]) | (refine box1 hS rfl rfl rfl rfl ?_; clear hS; intro mb w hS; try simp only [evW, putW] at hS; simp only [putW]) | (refine boxN hS rfl rfl rfl ?_; clear hS; intro mb w hS; simp only [putW]))
          go_roundg gg
          case measure => omega
          case rel => exact ⟨k + 1, by omega, by go_num, hS.conv⟩
        · have hkd : (k : Int) ≠ (j : Int) := by omega
          have HY : Bx (kidF B k = Wk) := ⟨by rw [HBk.out k hk, if_neg hkj]; exact HW.out⟩
          have hEq : ∀ w : World, (Op.equalIn 10000 23 (.agg (Wk.map u8v).toArray) (.agg (Wk.map u8v).toArray)).run Tryd.prog w = .ok true w := fun w => by
            rw [eq32 HWl.out HWl.out HWb.out HWb.out, decide_eq_true rfl]
          clear hkj
          go_wp2_with (first | (guard_target =~ Calls _ 6 _ _ _; refine Stopped.out ?_) | (refine load1 hS rfl rfl rfl rfl ?_; simp only [putW]) | (refine loadAll hS rfl rfl rfl ?_ ?_; rfl; simp only [putW]) | (refine loadPart hS rfl rfl rfl ?_ rfl ?_; rfl; simp only [putW]) | (refine store1 hS rfl rfl rfl rfl rfl ?_ ?_; (focus (simp; done)); clear hS; intro w hS; simp only [evW, putW] at hS; try simp only [putW]) | (refine storeAll hS rfl rfl rfl rfl ?_ ?_ ?_ ?_; rfl; (focus (simp [Value.oneCell']; done)); rfl; clear hS; intro w hS; try simp only [putW]) | (refine storeN hS rfl rfl rfl rfl ?_ ?_ ?_ ?_; rfl; (focus (simp [Value.oneCell']; done)); (focus (simp; done)); clear hS; intro w hS; simp at hS; try simp only [putW]) | (refine alloc hS rfl rfl ?_; clear hS; intro mb w hS; simp only [putW]) | (refine box1 hS rfl rfl rfl rfl ?_; clear hS; intro mb w hS; try simp only [evW, putW] at hS; simp only [putW]) | (refine boxN hS rfl rfl rfl ?_; clear hS; intro mb w hS; simp only [putW]))
          refine ⟨?_⟩
          (refine Calls.mono (kid_any (i := k) rfl (HO hS) HBl.out hk HY.out) ?_; rintro _ w2 ⟨rfl, h2⟩; replace hS := hS.frame h2; clear h2; (try simp only [List.cons_append, List.nil_append] at hS); simp only [putW])
          go_wp2_with (first | (refine allocA (t := 23) (vv := u8v) hS rfl rfl (List.replicate 32 0) zeros32 ?_; clear hS; intro m15 w hS; simp only [putW]) | (refine storeAllA (b := m15) (vv := u8v) hS rfl rfl rfl Wk rfl HWl.out (fun _ _ => rfl) (by simp) ?_; clear hS; intro w hS; try simp only [putW]) | (refine loadAllA (l := Wk) (vv := u8v) hS rfl rfl rfl HWl.out ?_; simp only [putW]) | (refine load1 hS rfl rfl rfl rfl ?_; simp only [putW]) | (refine loadAll hS rfl rfl rfl ?_ ?_; rfl; simp only [putW]) | (refine loadPart hS rfl rfl rfl ?_ rfl ?_; rfl; simp only [putW]) | (refine store1 hS rfl rfl rfl rfl rfl ?_ ?_; (focus (simp; done)); clear hS; intro w hS; simp only [evW, putW] at hS; try simp only [putW]) | (refine storeAll hS rfl rfl rfl rfl ?_ ?_ ?_ ?_; rfl; (focus (simp [Value.oneCell']; done)); rfl; clear hS; intro w hS; try simp only [putW]) | (refine storeN hS rfl rfl rfl rfl ?_ ?_ ?_ ?_; rfl; (focus (simp [Value.oneCell']; done)); (focus (simp; done)); clear hS; intro w hS; simp at hS; try simp only [putW]) | (refine alloc hS rfl rfl ?_; clear hS; intro mb w hS; simp only [putW]) | (refine box1 hS rfl rfl rfl rfl ?_; clear hS; intro mb w hS; try simp only [evW, putW] at hS; simp only [putW]) | (refine boxN hS rfl rfl rfl ?_; clear hS; intro mb w hS; simp only [putW]))
          go_roundg gg
          case measure => omega
          case rel => exact ⟨k + 1, by omega, by go_num, hS.conv⟩
      | zero =>
        have hk8 : k = 8 := by omega
        subst hk8
        go_wp2_with (first | (go_at_call 9; refine Calls.mono (awake_any (HK.out.mono hS.base)) ?_; rintro _ w2 ⟨rfl, h2⟩; replace hS := hS.frame h2; clear h2; (try simp only [List.cons_append, List.nil_append] at hS); simp only [putW]) | (refine load1 hS rfl rfl rfl rfl ?_; simp only [putW]) | (refine loadAll hS rfl rfl rfl ?_ ?_; rfl; simp only [putW]) | (refine loadPart hS rfl rfl rfl ?_ rfl ?_; rfl; simp only [putW]) | (refine store1 hS rfl rfl rfl rfl rfl ?_ ?_; (focus (simp; done)); clear hS; intro w hS; simp only [evW, putW] at hS; try simp only [putW]) | (refine storeAll hS rfl rfl rfl rfl ?_ ?_ ?_ ?_; rfl; (focus (simp [Value.oneCell']; done)); rfl; clear hS; intro w hS; try simp only [putW]) | (refine storeN hS rfl rfl rfl rfl ?_ ?_ ?_ ?_; rfl; (focus (simp [Value.oneCell']; done)); (focus (simp; done)); clear hS; intro w hS; simp at hS; try simp only [putW]) | (refine alloc hS rfl rfl ?_; clear hS; intro mb w hS; simp only [putW]) | (refine box1 hS rfl rfl rfl rfl ?_; clear hS; intro mb w hS; try simp only [evW, putW] at hS; simp only [putW]) | (refine boxN hS rfl rfl rfl ?_; clear hS; intro mb w hS; simp only [putW]))
        go_ret
        exact ⟨rfl, hS.nothing⟩
  · obtain ⟨Z, hZ⟩ : ∃ Z, z32 = Z := ⟨_, rfl⟩
    have HZ : Bx (List.replicate 32 (0 : Int) = Z) := ⟨hZ⟩
    have Hz : Bx (Z.length = 32) := ⟨by rw [← hZ]; rfl⟩
    have hEz : ∀ w : World, (Op.equalIn 10000 23 (.agg (Z.map u8v).toArray) (.agg (Z.map u8v).toArray)).run Tryd.prog w = .ok true w := fun w => by
      have hz : ∀ b ∈ Z, okByte b := fun b hb => by
        rw [← hZ] at hb
        have : b = 0 := (List.mem_replicate.1 hb).2
        subst this
        unfold okByte; omega
      rw [eq32 Hz.out Hz.out hz hz, decide_eq_true rfl]
    clear hZ
    have hlA : A.length ≤ 140737488351232 := HL.out
    go_wp2_with (first | (guard_target =~ Calls _ 6 _ _ _; refine Stopped.out ?_) | (refine load1 hS rfl rfl rfl rfl ?_; simp only [putW]) | (refine loadAll hS rfl rfl rfl ?_ ?_; rfl; simp only [putW]) | (refine loadPart hS rfl rfl rfl ?_ rfl ?_; rfl; simp only [putW]) | (refine store1 hS rfl rfl rfl rfl rfl ?_ ?_; (focus (simp; done)); clear hS; intro w hS; simp only [evW, putW] at hS; try simp only [putW]) | (refine storeAll hS rfl rfl rfl rfl ?_ ?_ ?_ ?_; rfl; (focus (simp [Value.oneCell']; done)); rfl; clear hS; intro w hS; try simp only [putW]) | (refine storeN hS rfl rfl rfl rfl ?_ ?_ ?_ ?_; rfl; (focus (simp [Value.oneCell']; done)); (focus (simp; done)); clear hS; intro w hS; simp at hS; try simp only [putW]) | (refine alloc hS rfl rfl ?_; clear hS; intro mb w hS; simp only [putW]) | (refine box1 hS rfl rfl rfl rfl ?_; clear hS; intro mb w hS; try simp only [evW, putW] at hS; simp only [putW]) | (refine boxN hS rfl rfl rfl ?_; clear hS; intro mb w hS; simp only [putW]))
    refine ⟨?_⟩
    (refine Calls.mono (kid_bad (HI hS) HL.out Hf.out h0) ?_; rintro _ w2 ⟨rfl, h2⟩; replace hS := hS.frame h2; clear h2; (try simp only [List.cons_append, List.nil_append] at hS); simp only [putW])
    rw [HZ.out]
    go_wp2_with (first | (refine allocA (t := 23) (vv := u8v) hS rfl rfl (List.replicate 32 0) zeros32 ?_; clear hS; intro m9 w hS; simp only [putW]) | (refine storeAllA (vv := u8v) hS rfl rfl rfl Z rfl Hz.out (fun _ _ => rfl) (by simp) ?_; clear hS; intro w hS; try simp only [putW]) | (refine loadAllA (l := D) (vv := u8v) hS rfl rfl rfl HDl.out ?_; simp only [putW]) | (guard_target =~ Calls _ 7 _ _ _; refine Stopped.out ?_) | (refine load1 hS rfl rfl rfl rfl ?_; simp only [putW]) | (refine loadAll hS rfl rfl rfl ?_ ?_; rfl; simp only [putW]) | (refine loadPart hS rfl rfl rfl ?_ rfl ?_; rfl; simp only [putW]) | (refine store1 hS rfl rfl rfl rfl rfl ?_ ?_; (focus (simp; done)); clear hS; intro w hS; simp only [evW, putW] at hS; try simp only [putW]) | (refine storeAll hS rfl rfl rfl rfl ?_ ?_ ?_ ?_; rfl; (focus (simp [Value.oneCell']; done)); rfl; clear hS; intro w hS; try simp only [putW]) | (refine storeN hS rfl rfl rfl rfl ?_ ?_ ?_ ?_; rfl; (focus (simp [Value.oneCell']; done)); (focus (simp; done)); clear hS; intro w hS; simp at hS; try simp only [putW]) | (refine alloc hS rfl rfl ?_; clear hS; intro mb w hS; simp only [putW]) | (refine box1 hS rfl rfl rfl rfl ?_; clear hS; intro mb w hS; try simp only [evW, putW] at hS; simp only [putW]) | (refine boxN hS rfl rfl rfl ?_; clear hS; intro mb w hS; simp only [putW]))
    refine ⟨?_⟩
    (refine Calls.mono (setKid_bad (HI hS) HL.out Hf.out h0) ?_; rintro _ w2 ⟨rfl, h2⟩; replace hS := hS.frame h2; clear h2; (try simp only [List.cons_append, List.nil_append] at hS); simp only [putW])
    go_wp2_with (first | (guard_target =~ Calls _ 8 _ _ _; refine Stopped.out ?_) | (refine load1 hS rfl rfl rfl rfl ?_; simp only [putW]) | (refine loadAll hS rfl rfl rfl ?_ ?_; rfl; simp only [putW]) | (refine loadPart hS rfl rfl rfl ?_ rfl ?_; rfl; simp only [putW]) | (refine store1 hS rfl rfl rfl rfl rfl ?_ ?_; (focus (simp; done)); clear hS; intro w hS; simp only [evW, putW] at hS; try simp only [putW]) | (refine storeAll hS rfl rfl rfl rfl ?_ ?_ ?_ ?_; rfl; (focus (simp [Value.oneCell']; done)); rfl; clear hS; intro w hS; try simp only [putW]) | (refine storeN hS rfl rfl rfl rfl ?_ ?_ ?_ ?_; rfl; (focus (simp [Value.oneCell']; done)); (focus (simp; done)); clear hS; intro w hS; simp at hS; try simp only [putW]) | (refine alloc hS rfl rfl ?_; clear hS; intro mb w hS; simp only [putW]) | (refine box1 hS rfl rfl rfl rfl ?_; clear hS; intro mb w hS; try simp only [evW, putW] at hS; simp only [putW]) | (refine boxN hS rfl rfl rfl ?_; clear hS; intro mb w hS; simp only [putW]))
    refine ⟨?_⟩
    (refine Calls.mono (kept_any Hn.out (HF hS) (HA.out.mono hS.base) HL.out) ?_; rintro _ w2 ⟨rfl, h2⟩; replace hS := hS.frame h2; clear h2; (try simp only [List.cons_append, List.nil_append] at hS); simp only [putW])
    go_wp2_with (first | (refine loadAllA (l := Z) (vv := u8v) hS rfl rfl rfl Hz.out ?_; simp only [putW]) | (guard_target =~ wpList _ _ _ (Oper.mk (some 53) _ _ _ _ _ :: _) _ _; refine Stopped.out ?_) | (refine load1 hS rfl rfl rfl rfl ?_; simp only [putW]) | (refine loadAll hS rfl rfl rfl ?_ ?_; rfl; simp only [putW]) | (refine loadPart hS rfl rfl rfl ?_ rfl ?_; rfl; simp only [putW]) | (refine store1 hS rfl rfl rfl rfl rfl ?_ ?_; (focus (simp; done)); clear hS; intro w hS; simp only [evW, putW] at hS; try simp only [putW]) | (refine storeAll hS rfl rfl rfl rfl ?_ ?_ ?_ ?_; rfl; (focus (simp [Value.oneCell']; done)); rfl; clear hS; intro w hS; try simp only [putW]) | (refine storeN hS rfl rfl rfl rfl ?_ ?_ ?_ ?_; rfl; (focus (simp [Value.oneCell']; done)); (focus (simp; done)); clear hS; intro w hS; simp at hS; try simp only [putW]) | (refine alloc hS rfl rfl ?_; clear hS; intro mb w hS; simp only [putW]) | (refine box1 hS rfl rfl rfl rfl ?_; clear hS; intro mb w hS; try simp only [evW, putW] at hS; simp only [putW]) | (refine boxN hS rfl rfl rfl ?_; clear hS; intro mb w hS; simp only [putW]))
    refine ⟨?_⟩
    rw [zeros32, HZ.out]
    go_wp2_with (first | (go_at_call 9; refine Calls.mono (awake_any (HK.out.mono hS.base)) ?_; rintro _ w2 ⟨rfl, h2⟩; replace hS := hS.frame h2; clear h2; (try simp only [List.cons_append, List.nil_append] at hS); simp only [putW]) | (refine load1 hS rfl rfl rfl rfl ?_; simp only [putW]) | (refine loadAll hS rfl rfl rfl ?_ ?_; rfl; simp only [putW]) | (refine loadPart hS rfl rfl rfl ?_ rfl ?_; rfl; simp only [putW]) | (refine store1 hS rfl rfl rfl rfl rfl ?_ ?_; (focus (simp; done)); clear hS; intro w hS; simp only [evW, putW] at hS; try simp only [putW]) | (refine storeAll hS rfl rfl rfl rfl ?_ ?_ ?_ ?_; rfl; (focus (simp [Value.oneCell']; done)); rfl; clear hS; intro w hS; try simp only [putW]) | (refine storeN hS rfl rfl rfl rfl ?_ ?_ ?_ ?_; rfl; (focus (simp [Value.oneCell']; done)); (focus (simp; done)); clear hS; intro w hS; simp at hS; try simp only [putW]) | (refine alloc hS rfl rfl ?_; clear hS; intro mb w hS; simp only [putW]) | (refine box1 hS rfl rfl rfl rfl ?_; clear hS; intro mb w hS; try simp only [evW, putW] at hS; simp only [putW]) | (refine boxN hS rfl rfl rfl ?_; clear hS; intro mb w hS; simp only [putW]))
    go_ret
    exact ⟨rfl, hS.nothing⟩
end
end Go.Proofs.YtmhnnppcihoofaaDoor.TreeKidsDone
