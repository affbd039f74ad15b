/-
  script.source.step, kinds 1, 2, 3, 4: printed by program (mksrc.py).
-/
import Derived.Test.YtpbjkfomdindnaaGreatDoorScH
set_option linter.unusedSimpArgs false
set_option linter.unusedVariables false
namespace Go.Proofs.YtpbjkfomdindnaaGreatDoor
open Go.RowKit Go.Shelf Go.Proofs.YtpbjkfomdindnaaGreatDoor.Sl Go.Proofs.YtpbjkfomdindnaaGreatDoor.Jp Go.Proofs.YtpbjkfomdindnaaGreatDoor.Sc

section
variable {w0 w : World} {S F K : List Chunk} {A : List Int} {p b o i : Nat}
set_option maxRecDepth 100000 in
set_option maxHeartbeats 8000000 in
theorem sstep_1 {n : Nat} (hA : SrcB w0 A b o) (hn : gB A i = n) (hn2 : n < 256) (hr : (n : Int) % 12 = 0) (hS : Sat w0 ((p, srcC A b o i) :: K) w) :
    Calls Tryz.prog 35 #[.pointer (some ⟨p, 0, none⟩)] w (StepPost2 w0 K A p b o (stepD A i)) := by
  have HA : Bx _ := ⟨hA⟩
  obtain ⟨x, hx, hx2⟩ := gB_nat hA (i + 1)
  obtain ⟨y, hy, hy2⟩ := gB_nat hA (i + 2)
  obtain ⟨z, hz, hz2⟩ := gB_nat hA (i + 3)
  obtain ⟨D, hD⟩ : ∃ D, stepD A i = D := ⟨_, rfl⟩
  rw [hD]
  unfold stepD at hD
  rw [hn, hx, hy, hz] at hD
  clear hA
  rw [hr] at hD
  simp only [Int.reduceAdd, reduceIte, Int.reduceEq, or_true, true_or, or_false, false_or] at hD
  subst hD
  go_enter Tryz.func35, Tryz.ntmps35
  go_wp2_with (first | (guard_target =~ wpList _ _ _ (Oper.mk (some 2) _ _ _ _ _ :: _) _ _; refine alloc hS rfl rfl ?_; clear hS; intro rb w hS; simp only [putW]) | (guard_target =~ Calls _ 57 _ _ _; refine Stopped.out ?_))
  refine ⟨?_⟩
  refine Calls.mono (snext_p (p := p) (i := i) HA.out hS) ?_
  clear hS
  rintro _ w ⟨rfl, hS⟩
  rw [hn]
  simp only [putW]
  go_wp2_with (first | (guard_target =~ wpList _ _ _ (Oper.mk (some 3) _ _ _ _ _ :: _) _ _; refine alloc hS rfl rfl ?_; clear hS; intro sb w hS; simp only [putW]) | (guard_target =~ Calls _ 57 _ _ _; refine Stopped.out ?_) | (refine load1 hS rfl rfl rfl rfl ?_; simp only [putW]) | (refine storeAll hS rfl rfl rfl rfl ?_ ?_ ?_ ?_; rfl; (focus (simp [Value.oneCell']; done)); rfl; clear hS; intro w hS; try simp only [putW]))
  refine ⟨?_⟩
  refine Calls.mono (snext_p (p := p) (i := (i + 1)) HA.out hS) ?_
  clear hS
  rintro _ w ⟨rfl, hS⟩
  rw [hx]
  simp only [putW]
  go_wp2_with (first | (guard_target =~ Calls _ 58 _ _ _; refine Stopped.out ?_) | (refine store1 hS rfl rfl rfl rfl rfl ?_ ?_; (focus (simp; done)); clear hS; intro w hS; simp only [evW, putW] at hS; try simp only [putW]))
  refine ⟨?_⟩
  refine Calls.mono (sask_p (p := p) (i := i + 2) (s := ⟨1, (x : Int) % 8, 0, 0, 0, [], 0, [], []⟩) rfl rfl rfl HA.out hS) ?_
  clear hS
  rintro _ w ⟨vo, rfl, hS⟩
  simp only [putW]
  have hk := askD_keeps ⟨1, (x : Int) % 8, 0, 0, 0, [], 0, [], []⟩ A (i + 2)
  obtain ⟨D, hD⟩ : ∃ D, askD ⟨1, (x : Int) % 8, 0, 0, 0, [], 0, [], []⟩ A (i + 2) = D := ⟨_, rfl⟩
  rw [hD] at hS hk
  rw [hD]
  obtain ⟨⟨k0, a0, b0, ok, pg, od, bt, da, fa⟩, j⟩ := D
  simp only at hk hS ⊢
  obtain ⟨rfl, rfl, rfl, rfl, rfl⟩ := hk
  have HD : Bx _ := ⟨hD⟩
  clear hD
  have HO : Bx (∀ u ∈ (#[.int .i64 ok, .int .i64 pg, vo, .float .f64 bt] : Array Value).toList, u.oneCell' = true) := ⟨opC_one (Sat.slCell (α := Int) (v := vo) hS)⟩
  have HC : Bx (∀ u ∈ (stC ⟨1, (x : Int) % 8, 0, ok, pg, od, bt, [], []⟩ vo nilV nilV).toList, u.oneCell' = true) := ⟨stC_one (Sat.slCell (α := Int) (v := vo) hS) rfl rfl⟩
  go_wp2_with (first | (refine storeN hS rfl rfl rfl rfl ?_ ?_ ?_ ?_; rfl; (focus (exact HO.out)); (focus (simp; done)); clear hS; intro w hS; simp at hS; try simp only [putW]) | (refine storeAll hS rfl rfl rfl rfl ?_ ?_ ?_ ?_; rfl; (focus (exact HC.out)); rfl; clear hS; intro w hS; try simp only [putW]) | (refine loadAll hS rfl rfl rfl ?_ ?_; rfl; simp only [putW]))
  have hload : (loadVar 29 ⟨rb, 0, none⟩).run Tryz.prog w = .ok (.agg (stC ⟨1, (x : Int) % 8, 0, ok, pg, od, bt, [], []⟩ vo nilV nilV)) w := run_loadAll hS rb 29 rfl
  refine bodyPost_ret (v := .agg (stC ⟨1, (x : Int) % 8, 0, ok, pg, od, bt, [], []⟩ vo nilV nilV)) (by simp [results, Tryz.results35, asAddr, hload]) rfl ⟨vo, nilV, nilV, ?_, ?_⟩
  · show Ending.returned _ = Ending.returned (.agg (stC (askD ⟨1, (x : Int) % 8, 0, 0, 0, [], 0, [], []⟩ A (i + 2)).1 vo nilV nilV))
    rw [HD.out]
  · show Sat w0 ((p, srcC A b o (askD ⟨1, (x : Int) % 8, 0, 0, 0, [], 0, [], []⟩ A (i + 2)).2) :: stL (askD ⟨1, (x : Int) % 8, 0, 0, 0, [], 0, [], []⟩ A (i + 2)).1 vo nilV nilV ++ K) _
    rw [HD.out]
    exact Sat.conv (S' := (p, srcC A b o j) :: (blk vo, sl 1 by8 od 5 vo) :: (0, sl 1 by8 [] 5 nilV) :: (0, sl 1 i64 [] 3 nilV) :: K) ((hS.slNil 1 by8 5).slNil 1 i64 3)
set_option maxRecDepth 100000 in
set_option maxHeartbeats 8000000 in
theorem sstep_2 {n : Nat} (hA : SrcB w0 A b o) (hn : gB A i = n) (hn2 : n < 256) (hr : (n : Int) % 12 = 1) (hS : Sat w0 ((p, srcC A b o i) :: K) w) :
    Calls Tryz.prog 35 #[.pointer (some ⟨p, 0, none⟩)] w (StepPost2 w0 K A p b o (stepD A i)) := by
  have HA : Bx _ := ⟨hA⟩
  obtain ⟨x, hx, hx2⟩ := gB_nat hA (i + 1)
  obtain ⟨y, hy, hy2⟩ := gB_nat hA (i + 2)
  obtain ⟨z, hz, hz2⟩ := gB_nat hA (i + 3)
  obtain ⟨D, hD⟩ : ∃ D, stepD A i = D := ⟨_, rfl⟩
  rw [hD]
  unfold stepD at hD
  rw [hn, hx, hy, hz] at hD
  clear hA
  rw [hr] at hD
  simp only [Int.reduceAdd, reduceIte, Int.reduceEq, or_true, true_or, or_false, false_or] at hD
  subst hD
  go_enter Tryz.func35, Tryz.ntmps35
  go_wp2_with (first | (guard_target =~ wpList _ _ _ (Oper.mk (some 2) _ _ _ _ _ :: _) _ _; refine alloc hS rfl rfl ?_; clear hS; intro rb w hS; simp only [putW]) | (guard_target =~ Calls _ 57 _ _ _; refine Stopped.out ?_))
  refine ⟨?_⟩
  refine Calls.mono (snext_p (p := p) (i := i) HA.out hS) ?_
  clear hS
  rintro _ w ⟨rfl, hS⟩
  rw [hn]
  simp only [putW]
  go_wp2_with (first | (guard_target =~ wpList _ _ _ (Oper.mk (some 3) _ _ _ _ _ :: _) _ _; refine alloc hS rfl rfl ?_; clear hS; intro sb w hS; simp only [putW]) | (guard_target =~ Calls _ 57 _ _ _; refine Stopped.out ?_) | (refine load1 hS rfl rfl rfl rfl ?_; simp only [putW]) | (refine storeAll hS rfl rfl rfl rfl ?_ ?_ ?_ ?_; rfl; (focus (simp [Value.oneCell']; done)); rfl; clear hS; intro w hS; try simp only [putW]))
  refine ⟨?_⟩
  refine Calls.mono (snext_p (p := p) (i := (i + 1)) HA.out hS) ?_
  clear hS
  rintro _ w ⟨rfl, hS⟩
  rw [hx]
  simp only [putW]
  have HC : Bx (∀ u ∈ (stC ⟨2, x, 0, 0, 0, [], 0, [], []⟩ nilV nilV nilV).toList, u.oneCell' = true) := ⟨stC_one rfl rfl rfl⟩
  go_wp2_with (first | (refine store1 (b := sb) (v := .int .i64 (x : Int)) hS rfl rfl rfl rfl rfl ?_ ?_; (focus (simp)); clear hS; intro w hS; try simp only [putW]) | (refine storeAll hS rfl rfl rfl rfl ?_ ?_ ?_ ?_; rfl; (focus (exact HC.out)); rfl; clear hS; intro w hS; try simp only [putW]) | (refine loadAll hS rfl rfl rfl ?_ ?_; rfl; simp only [putW]))
  have hload : (loadVar 29 ⟨rb, 0, none⟩).run Tryz.prog w = .ok (.agg (stC ⟨2, x, 0, 0, 0, [], 0, [], []⟩ nilV nilV nilV)) w := run_loadAll hS rb 29 rfl
  exact bodyPost_ret (v := .agg (stC ⟨2, x, 0, 0, 0, [], 0, [], []⟩ nilV nilV nilV)) (by simp [results, Tryz.results35, asAddr, hload]) rfl ⟨nilV, nilV, nilV, rfl, Sat.conv (S' := (p, srcC A b o (i + 2)) :: (0, sl 1 by8 [] 5 nilV) :: (0, sl 1 by8 [] 5 nilV) :: (0, sl 1 i64 [] 3 nilV) :: K) (((hS.slNil 1 by8 5).slNil 1 by8 5).slNil 1 i64 3)⟩
set_option maxRecDepth 100000 in
set_option maxHeartbeats 8000000 in
theorem sstep_3 {n : Nat} (hA : SrcB w0 A b o) (hn : gB A i = n) (hn2 : n < 256) (hr : (n : Int) % 12 = 2) (hS : Sat w0 ((p, srcC A b o i) :: K) w) :
    Calls Tryz.prog 35 #[.pointer (some ⟨p, 0, none⟩)] w (StepPost2 w0 K A p b o (stepD A i)) := by
  have HA : Bx _ := ⟨hA⟩
  obtain ⟨x, hx, hx2⟩ := gB_nat hA (i + 1)
  obtain ⟨y, hy, hy2⟩ := gB_nat hA (i + 2)
  obtain ⟨z, hz, hz2⟩ := gB_nat hA (i + 3)
  obtain ⟨D, hD⟩ : ∃ D, stepD A i = D := ⟨_, rfl⟩
  rw [hD]
  unfold stepD at hD
  rw [hn, hx, hy, hz] at hD
  clear hA
  rw [hr] at hD
  simp only [Int.reduceAdd, reduceIte, Int.reduceEq, or_true, true_or, or_false, false_or] at hD
  subst hD
  go_enter Tryz.func35, Tryz.ntmps35
  go_wp2_with (first | (guard_target =~ wpList _ _ _ (Oper.mk (some 2) _ _ _ _ _ :: _) _ _; refine alloc hS rfl rfl ?_; clear hS; intro rb w hS; simp only [putW]) | (guard_target =~ Calls _ 57 _ _ _; refine Stopped.out ?_))
  refine ⟨?_⟩
  refine Calls.mono (snext_p (p := p) (i := i) HA.out hS) ?_
  clear hS
  rintro _ w ⟨rfl, hS⟩
  rw [hn]
  simp only [putW]
  go_wp2_with (first | (guard_target =~ wpList _ _ _ (Oper.mk (some 3) _ _ _ _ _ :: _) _ _; refine alloc hS rfl rfl ?_; clear hS; intro sb w hS; simp only [putW]) | (guard_target =~ Calls _ 57 _ _ _; refine Stopped.out ?_) | (refine load1 hS rfl rfl rfl rfl ?_; simp only [putW]) | (refine storeAll hS rfl rfl rfl rfl ?_ ?_ ?_ ?_; rfl; (focus (simp [Value.oneCell']; done)); rfl; clear hS; intro w hS; try simp only [putW]))
  refine ⟨?_⟩
  refine Calls.mono (snext_p (p := p) (i := (i + 1)) HA.out hS) ?_
  clear hS
  rintro _ w ⟨rfl, hS⟩
  rw [hx]
  simp only [putW]
  have HC : Bx (∀ u ∈ (stC ⟨3, x, 0, 0, 0, [], 0, [], []⟩ nilV nilV nilV).toList, u.oneCell' = true) := ⟨stC_one rfl rfl rfl⟩
  go_wp2_with (first | (refine store1 (b := sb) (v := .int .i64 (x : Int)) hS rfl rfl rfl rfl rfl ?_ ?_; (focus (simp)); clear hS; intro w hS; try simp only [putW]) | (refine storeAll hS rfl rfl rfl rfl ?_ ?_ ?_ ?_; rfl; (focus (exact HC.out)); rfl; clear hS; intro w hS; try simp only [putW]) | (refine loadAll hS rfl rfl rfl ?_ ?_; rfl; simp only [putW]))
  have hload : (loadVar 29 ⟨rb, 0, none⟩).run Tryz.prog w = .ok (.agg (stC ⟨3, x, 0, 0, 0, [], 0, [], []⟩ nilV nilV nilV)) w := run_loadAll hS rb 29 rfl
  exact bodyPost_ret (v := .agg (stC ⟨3, x, 0, 0, 0, [], 0, [], []⟩ nilV nilV nilV)) (by simp [results, Tryz.results35, asAddr, hload]) rfl ⟨nilV, nilV, nilV, rfl, Sat.conv (S' := (p, srcC A b o (i + 2)) :: (0, sl 1 by8 [] 5 nilV) :: (0, sl 1 by8 [] 5 nilV) :: (0, sl 1 i64 [] 3 nilV) :: K) (((hS.slNil 1 by8 5).slNil 1 by8 5).slNil 1 i64 3)⟩
set_option maxRecDepth 100000 in
set_option maxHeartbeats 8000000 in
theorem sstep_4 {n : Nat} (hA : SrcB w0 A b o) (hn : gB A i = n) (hn2 : n < 256) (hr : (n : Int) % 12 = 3) (hS : Sat w0 ((p, srcC A b o i) :: K) w) :
    Calls Tryz.prog 35 #[.pointer (some ⟨p, 0, none⟩)] w (StepPost2 w0 K A p b o (stepD A i)) := by
  have HA : Bx _ := ⟨hA⟩
  obtain ⟨x, hx, hx2⟩ := gB_nat hA (i + 1)
  obtain ⟨y, hy, hy2⟩ := gB_nat hA (i + 2)
  obtain ⟨z, hz, hz2⟩ := gB_nat hA (i + 3)
  obtain ⟨D, hD⟩ : ∃ D, stepD A i = D := ⟨_, rfl⟩
  rw [hD]
  unfold stepD at hD
  rw [hn, hx, hy, hz] at hD
  clear hA
  rw [hr] at hD
  simp only [Int.reduceAdd, reduceIte, Int.reduceEq, or_true, true_or, or_false, false_or] at hD
  subst hD
  go_enter Tryz.func35, Tryz.ntmps35
  go_wp2_with (first | (guard_target =~ wpList _ _ _ (Oper.mk (some 2) _ _ _ _ _ :: _) _ _; refine alloc hS rfl rfl ?_; clear hS; intro rb w hS; simp only [putW]) | (guard_target =~ Calls _ 57 _ _ _; refine Stopped.out ?_))
  refine ⟨?_⟩
  refine Calls.mono (snext_p (p := p) (i := i) HA.out hS) ?_
  clear hS
  rintro _ w ⟨rfl, hS⟩
  rw [hn]
  simp only [putW]
  go_wp2_with (first | (guard_target =~ wpList _ _ _ (Oper.mk (some 3) _ _ _ _ _ :: _) _ _; refine alloc hS rfl rfl ?_; clear hS; intro sb w hS; simp only [putW]) | (refine load1 hS rfl rfl rfl rfl ?_; simp only [putW]) | (refine loadAll hS rfl rfl rfl ?_ ?_; rfl; simp only [putW]) | (refine storeAll hS rfl rfl rfl rfl ?_ ?_ ?_ ?_; rfl; (focus (simp [Value.oneCell']; done)); rfl; clear hS; intro w hS; try simp only [putW]))
  have HC : Bx (∀ u ∈ (stC ⟨4, 0, 0, 0, 0, [], 0, [], []⟩ nilV nilV nilV).toList, u.oneCell' = true) := ⟨stC_one rfl rfl rfl⟩
  go_wp2_with (refine storeAll hS rfl rfl rfl rfl ?_ ?_ ?_ ?_; rfl; (focus (exact HC.out)); rfl; clear hS; intro w hS; try simp only [putW])
  have hload : (loadVar 29 ⟨rb, 0, none⟩).run Tryz.prog w = .ok (.agg (stC ⟨4, 0, 0, 0, 0, [], 0, [], []⟩ nilV nilV nilV)) w := run_loadAll hS rb 29 rfl
  exact bodyPost_ret (v := .agg (stC ⟨4, 0, 0, 0, 0, [], 0, [], []⟩ nilV nilV nilV)) (by simp [results, Tryz.results35, asAddr, hload]) rfl ⟨nilV, nilV, nilV, rfl, Sat.conv (S' := (p, srcC A b o (i + 1)) :: (0, sl 1 by8 [] 5 nilV) :: (0, sl 1 by8 [] 5 nilV) :: (0, sl 1 i64 [] 3 nilV) :: K) (((hS.slNil 1 by8 5).slNil 1 by8 5).slNil 1 i64 3)⟩
end
end Go.Proofs.YtpbjkfomdindnaaGreatDoor
