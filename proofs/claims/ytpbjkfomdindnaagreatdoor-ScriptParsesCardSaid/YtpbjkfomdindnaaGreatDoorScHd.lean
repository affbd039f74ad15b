/-
  script.source.step, kinds 10, 11, 12: printed by program (mksrc.py).
-/
import Derived.Test.YtpbjkfomdindnaaGreatDoorScH
set_option linter.unusedSimpArgs false
set_option linter.unusedVariables false
namespace Go.Proofs.YtpbjkfomdindnaaGreatDoor
open Go.RowKit Go.Shelf Go.Proofs.YtpbjkfomdindnaaGreatDoor.Sl Go.Proofs.YtpbjkfomdindnaaGreatDoor.Jp Go.Proofs.YtpbjkfomdindnaaGreatDoor.Sc

section
variable {w0 w : World} {S F K : List Chunk} {A : List Int} {p b o i : Nat}
set_option maxRecDepth 100000 in
set_option maxHeartbeats 8000000 in
theorem sstep_10 {n : Nat} (hA : SrcB w0 A b o) (hn : gB A i = n) (hn2 : n < 256) (hr : (n : Int) % 12 = 9) (hS : Sat w0 ((p, srcC A b o i) :: K) w) :
    Calls Tryz.prog 35 #[.pointer (some ⟨p, 0, none⟩)] w (StepPost2 w0 K A p b o (stepD A i)) := by
  have HA : Bx _ := ⟨hA⟩
  obtain ⟨x, hx, hx2⟩ := gB_nat hA (i + 1)
  obtain ⟨y, hy, hy2⟩ := gB_nat hA (i + 2)
  obtain ⟨z, hz, hz2⟩ := gB_nat hA (i + 3)
  obtain ⟨D, hD⟩ : ∃ D, stepD A i = D := ⟨_, rfl⟩
  rw [hD]
  unfold stepD at hD
  rw [hn, hx, hy, hz] at hD
  clear hA
  rw [hr] at hD
  simp only [Int.reduceAdd, reduceIte, Int.reduceEq, or_true, true_or, or_false, false_or] at hD
  subst hD
  go_enter Tryz.func35, Tryz.ntmps35
  go_wp2_with (first | (guard_target =~ wpList _ _ _ (Oper.mk (some 2) _ _ _ _ _ :: _) _ _; refine alloc hS rfl rfl ?_; clear hS; intro rb w hS; simp only [putW]) | (guard_target =~ Calls _ 57 _ _ _; refine Stopped.out ?_))
  refine ⟨?_⟩
  refine Calls.mono (snext_p (p := p) (i := i) HA.out hS) ?_
  clear hS
  rintro _ w ⟨rfl, hS⟩
  rw [hn]
  simp only [putW]
  go_wp2_with (first | (guard_target =~ wpList _ _ _ (Oper.mk (some 3) _ _ _ _ _ :: _) _ _; refine alloc hS rfl rfl ?_; clear hS; intro sb w hS; simp only [putW]) | (refine load1 hS rfl rfl rfl rfl ?_; simp only [putW]) | (refine loadAll hS rfl rfl rfl ?_ ?_; rfl; simp only [putW]) | (refine storeAll hS rfl rfl rfl rfl ?_ ?_ ?_ ?_; rfl; (focus (simp [Value.oneCell']; done)); rfl; clear hS; intro w hS; try simp only [putW]))
  have HC : Bx (∀ u ∈ (stC ⟨10, 0, 0, 0, 0, [], 0, [], []⟩ nilV nilV nilV).toList, u.oneCell' = true) := ⟨stC_one rfl rfl rfl⟩
  go_wp2_with (refine storeAll hS rfl rfl rfl rfl ?_ ?_ ?_ ?_; rfl; (focus (exact HC.out)); rfl; clear hS; intro w hS; try simp only [putW])
  have hload : (loadVar 29 ⟨rb, 0, none⟩).run Tryz.prog w = .ok (.agg (stC ⟨10, 0, 0, 0, 0, [], 0, [], []⟩ nilV nilV nilV)) w := run_loadAll hS rb 29 rfl
  exact bodyPost_ret (v := .agg (stC ⟨10, 0, 0, 0, 0, [], 0, [], []⟩ nilV nilV nilV)) (by simp [results, Tryz.results35, asAddr, hload]) rfl ⟨nilV, nilV, nilV, rfl, Sat.conv (S' := (p, srcC A b o (i + 1)) :: (0, sl 1 by8 [] 5 nilV) :: (0, sl 1 by8 [] 5 nilV) :: (0, sl 1 i64 [] 3 nilV) :: K) (((hS.slNil 1 by8 5).slNil 1 by8 5).slNil 1 i64 3)⟩
set_option maxRecDepth 100000 in
set_option maxHeartbeats 8000000 in
theorem sstep_11 {n : Nat} (hA : SrcB w0 A b o) (hn : gB A i = n) (hn2 : n < 256) (hr : (n : Int) % 12 = 10) (hS : Sat w0 ((p, srcC A b o i) :: K) w) :
    Calls Tryz.prog 35 #[.pointer (some ⟨p, 0, none⟩)] w (StepPost2 w0 K A p b o (stepD A i)) := by
  have HA : Bx _ := ⟨hA⟩
  obtain ⟨x, hx, hx2⟩ := gB_nat hA (i + 1)
  obtain ⟨y, hy, hy2⟩ := gB_nat hA (i + 2)
  obtain ⟨z, hz, hz2⟩ := gB_nat hA (i + 3)
  obtain ⟨D, hD⟩ : ∃ D, stepD A i = D := ⟨_, rfl⟩
  rw [hD]
  unfold stepD at hD
  rw [hn, hx, hy, hz] at hD
  clear hA
  rw [hr] at hD
  simp only [Int.reduceAdd, reduceIte, Int.reduceEq, or_true, true_or, or_false, false_or] at hD
  subst hD
  go_enter Tryz.func35, Tryz.ntmps35
  go_wp2_with (first | (guard_target =~ wpList _ _ _ (Oper.mk (some 2) _ _ _ _ _ :: _) _ _; refine alloc hS rfl rfl ?_; clear hS; intro rb w hS; simp only [putW]) | (guard_target =~ Calls _ 57 _ _ _; refine Stopped.out ?_))
  refine ⟨?_⟩
  refine Calls.mono (snext_p (p := p) (i := i) HA.out hS) ?_
  clear hS
  rintro _ w ⟨rfl, hS⟩
  rw [hn]
  simp only [putW]
  go_wp2_with (first | (guard_target =~ wpList _ _ _ (Oper.mk (some 3) _ _ _ _ _ :: _) _ _; refine alloc hS rfl rfl ?_; clear hS; intro sb w hS; simp only [putW]) | (guard_target =~ Calls _ 57 _ _ _; refine Stopped.out ?_) | (refine load1 hS rfl rfl rfl rfl ?_; simp only [putW]) | (refine storeAll hS rfl rfl rfl rfl ?_ ?_ ?_ ?_; rfl; (focus (simp [Value.oneCell']; done)); rfl; clear hS; intro w hS; try simp only [putW]))
  refine ⟨?_⟩
  refine Calls.mono (snext_p (p := p) (i := (i + 1)) HA.out hS) ?_
  clear hS
  rintro _ w ⟨rfl, hS⟩
  rw [hx]
  simp only [putW]
  have HC : Bx (∀ u ∈ (stC ⟨11, x, 0, 0, 0, [], 0, [], []⟩ nilV nilV nilV).toList, u.oneCell' = true) := ⟨stC_one rfl rfl rfl⟩
  go_wp2_with (first | (refine store1 (b := sb) (v := .int .i64 (x : Int)) hS rfl rfl rfl rfl rfl ?_ ?_; (focus (simp)); clear hS; intro w hS; try simp only [putW]) | (refine storeAll hS rfl rfl rfl rfl ?_ ?_ ?_ ?_; rfl; (focus (exact HC.out)); rfl; clear hS; intro w hS; try simp only [putW]) | (refine loadAll hS rfl rfl rfl ?_ ?_; rfl; simp only [putW]))
  have hload : (loadVar 29 ⟨rb, 0, none⟩).run Tryz.prog w = .ok (.agg (stC ⟨11, x, 0, 0, 0, [], 0, [], []⟩ nilV nilV nilV)) w := run_loadAll hS rb 29 rfl
  exact bodyPost_ret (v := .agg (stC ⟨11, x, 0, 0, 0, [], 0, [], []⟩ nilV nilV nilV)) (by simp [results, Tryz.results35, asAddr, hload]) rfl ⟨nilV, nilV, nilV, rfl, Sat.conv (S' := (p, srcC A b o (i + 2)) :: (0, sl 1 by8 [] 5 nilV) :: (0, sl 1 by8 [] 5 nilV) :: (0, sl 1 i64 [] 3 nilV) :: K) (((hS.slNil 1 by8 5).slNil 1 by8 5).slNil 1 i64 3)⟩
set_option maxRecDepth 100000 in
set_option maxHeartbeats 8000000 in
theorem sstep_12 {n : Nat} (hA : SrcB w0 A b o) (hn : gB A i = n) (hn2 : n < 256) (hr : (n : Int) % 12 = 11) (hS : Sat w0 ((p, srcC A b o i) :: K) w) :
    Calls Tryz.prog 35 #[.pointer (some ⟨p, 0, none⟩)] w (StepPost2 w0 K A p b o (stepD A i)) := by
  have HA : Bx _ := ⟨hA⟩
  obtain ⟨x, hx, hx2⟩ := gB_nat hA (i + 1)
  obtain ⟨y, hy, hy2⟩ := gB_nat hA (i + 2)
  obtain ⟨z, hz, hz2⟩ := gB_nat hA (i + 3)
  obtain ⟨D, hD⟩ : ∃ D, stepD A i = D := ⟨_, rfl⟩
  rw [hD]
  unfold stepD at hD
  rw [hn, hx, hy, hz] at hD
  clear hA
  rw [hr] at hD
  simp only [Int.reduceAdd, reduceIte, Int.reduceEq, or_true, true_or, or_false, false_or] at hD
  subst hD
  go_enter Tryz.func35, Tryz.ntmps35
  go_wp2_with (first | (guard_target =~ wpList _ _ _ (Oper.mk (some 2) _ _ _ _ _ :: _) _ _; refine alloc hS rfl rfl ?_; clear hS; intro rb w hS; simp only [putW]) | (guard_target =~ Calls _ 57 _ _ _; refine Stopped.out ?_))
  refine ⟨?_⟩
  refine Calls.mono (snext_p (p := p) (i := i) HA.out hS) ?_
  clear hS
  rintro _ w ⟨rfl, hS⟩
  rw [hn]
  simp only [putW]
  go_wp2_with (first | (guard_target =~ wpList _ _ _ (Oper.mk (some 3) _ _ _ _ _ :: _) _ _; refine alloc hS rfl rfl ?_; clear hS; intro sb w hS; simp only [putW]) | (guard_target =~ Calls _ 57 _ _ _; refine Stopped.out ?_) | (refine load1 hS rfl rfl rfl rfl ?_; simp only [putW]) | (refine storeAll hS rfl rfl rfl rfl ?_ ?_ ?_ ?_; rfl; (focus (simp [Value.oneCell']; done)); rfl; clear hS; intro w hS; try simp only [putW]))
  refine ⟨?_⟩
  refine Calls.mono (snext_p (p := p) (i := (i + 1)) HA.out hS) ?_
  clear hS
  rintro _ w ⟨rfl, hS⟩
  rw [hx]
  simp only [putW]
  go_wp2_with (first | (guard_target =~ Calls _ 60 _ _ _; refine Stopped.out ?_) | (refine store1 hS rfl rfl rfl rfl rfl ?_ ?_; (focus (simp; done)); clear hS; intro w hS; simp only [evW, putW] at hS; try simp only [putW]))
  refine ⟨?_⟩
  refine Calls.mono (snumber_p (p := p) (i := i + 2) HA.out hS) ?_
  clear hS
  rintro _ w ⟨rfl, hS⟩
  simp only [putW]
  obtain ⟨m, hm⟩ : ∃ m, beV 0 (bytesAt A (i + 2) 8) = m := ⟨_, rfl⟩
  rw [hm]
  have HM : Bx _ := ⟨hm⟩
  clear hm
  have HC : Bx (∀ u ∈ (stC ⟨12, (x : Int) % 8, 0, 0, 0, [], m, [], []⟩ nilV nilV nilV).toList, u.oneCell' = true) := ⟨stC_one rfl rfl rfl⟩
  go_wp2_with (first | (refine storeAll hS rfl rfl rfl rfl ?_ ?_ ?_ ?_; rfl; (focus (exact HC.out)); rfl; clear hS; intro w hS; try simp only [putW]) | (refine loadAll hS rfl rfl rfl ?_ ?_; rfl; simp only [putW]) | (refine store1 hS rfl rfl rfl rfl rfl ?_ ?_; (focus (simp; done)); clear hS; intro w hS; simp only [evW, putW] at hS; try simp only [putW]))
  have hload : (loadVar 29 ⟨rb, 0, none⟩).run Tryz.prog w = .ok (.agg (stC ⟨12, (x : Int) % 8, 0, 0, 0, [], m, [], []⟩ nilV nilV nilV)) w := run_loadAll hS rb 29 rfl
  exact bodyPost_ret (v := .agg (stC ⟨12, (x : Int) % 8, 0, 0, 0, [], m, [], []⟩ nilV nilV nilV)) (by simp [results, Tryz.results35, asAddr, hload]) rfl ⟨nilV, nilV, nilV, by rw [← HM.out]; rfl, Sat.conv (S' := (p, srcC A b o (i + 10)) :: (0, sl 1 by8 [] 5 nilV) :: (0, sl 1 by8 [] 5 nilV) :: (0, sl 1 i64 [] 3 nilV) :: K) (((hS.slNil 1 by8 5).slNil 1 by8 5).slNil 1 i64 3)⟩
end
end Go.Proofs.YtpbjkfomdindnaaGreatDoor
