/-
  thimbleref25.Source.Step, kinds 10, 11, 12: printed by program (mkref.py).
-/
import Derived.Test.YtpbjkfomdindnaaGreatDoorScW
set_option linter.unusedSimpArgs false
set_option linter.unusedVariables false
namespace Go.Proofs.YtpbjkfomdindnaaGreatDoor
open Go.RowKit Go.Shelf Go.Proofs.YtpbjkfomdindnaaGreatDoor.Sl Go.Proofs.YtpbjkfomdindnaaGreatDoor.Jp Go.Proofs.YtpbjkfomdindnaaGreatDoor.Sc

section
variable {w0 w : World} {S F K : List Chunk} {A : List Int} {p i : Nat} {v : Value}
set_option maxRecDepth 100000 in
set_option maxHeartbeats 4000000 in
theorem rstep_10 {n : Nat} (hv : RB w0 A v) (hi : i ≤ 100000) (hn : gB A i = n) (hn2 : n < 256) (hr : (n : Int) % 12 = 9) (hS : Sat w0 ((p, rsrc v i) :: K) w) :
    Calls Tryz.prog 36 #[.pointer (some ⟨p, 0, none⟩)] w (StepPost3 w0 K v p (stepD A i)) := by
  have HV : Bx _ := ⟨hv⟩
  obtain ⟨x, hx, hx2⟩ := gB_natOk hv.all (i + 1)
  obtain ⟨y, hy, hy2⟩ := gB_natOk hv.all (i + 2)
  obtain ⟨z, hz, hz2⟩ := gB_natOk hv.all (i + 3)
  obtain ⟨D, hD⟩ : ∃ D, stepD A i = D := ⟨_, rfl⟩
  rw [hD]
  unfold stepD at hD
  rw [hn, hx, hy, hz] at hD
  clear hv
  rw [hr] at hD
  simp only [Int.reduceAdd, reduceIte, Int.reduceEq, or_true, true_or, or_false, false_or] at hD
  subst hD
  go_enter Tryz.func36, Tryz.ntmps36
  go_wp2_with (first | (guard_target =~ wpList _ _ _ (Oper.mk (some 2) _ _ _ _ _ :: _) _ _; refine alloc hS rfl rfl ?_; clear hS; intro rb w hS; simp only [putW]) | (guard_target =~ wpList _ _ _ (Oper.mk (some 3) _ _ _ _ _ :: _) _ _; refine alloc hS rfl rfl ?_; clear hS; intro sb w hS; simp only [putW]) | (guard_target =~ Calls _ 61 _ _ _; refine Stopped.out ?_) | (refine load1 hS rfl rfl rfl rfl ?_; simp only [putW]) | (refine loadAll hS rfl rfl rfl ?_ ?_; rfl; simp only [putW]) | (refine loadPart hS rfl rfl rfl ?_ rfl ?_; rfl; simp only [putW]) | (refine store1 hS rfl rfl rfl rfl rfl ?_ ?_; (focus (simp; done)); clear hS; intro w hS; simp only [evW, putW] at hS; try simp only [putW]) | (refine storeAll hS rfl rfl rfl rfl ?_ ?_ ?_ ?_; rfl; (focus (simp [Value.oneCell']; done)); rfl; clear hS; intro w hS; try simp only [putW]) | (refine storeN hS rfl rfl rfl rfl ?_ ?_ ?_ ?_; rfl; (focus (simp [Value.oneCell']; done)); (focus (simp; done)); clear hS; intro w hS; simp at hS; try simp only [putW]) | (refine alloc hS rfl rfl ?_; clear hS; intro mb w hS; simp only [putW]) | (refine box1 hS rfl rfl rfl rfl ?_; clear hS; intro mb w hS; try simp only [evW, putW] at hS; simp only [putW]) | (refine boxN hS rfl rfl rfl ?_; clear hS; intro mb w hS; simp only [putW]))
  refine ⟨?_⟩
  refine Calls.mono (rnext_p (p := p) (i := i) HV.out (by omega) hS) ?_
  clear hS
  rintro _ w ⟨rfl, hS⟩
  rw [hn]
  simp only [putW]
  have HC : Bx (∀ u ∈ (stC ⟨10, 0, 0, 0, 0, [], 0, [], []⟩ nilV nilV nilV).toList, u.oneCell' = true) := ⟨stC_one rfl rfl rfl⟩
  go_wp2_with (first | (refine store1 (b := sb) (v := .int .i64 10) hS rfl rfl rfl rfl rfl ?_ ?_; (focus (simp)); clear hS; intro w hS; try simp only [putW]) | (refine storeAll hS rfl rfl rfl rfl ?_ ?_ ?_ ?_; rfl; (focus (exact HC.out)); rfl; clear hS; intro w hS; try simp only [putW]) | (refine load1 hS rfl rfl rfl rfl ?_; simp only [putW]) | (refine loadAll hS rfl rfl rfl ?_ ?_; rfl; simp only [putW]) | (refine loadPart hS rfl rfl rfl ?_ rfl ?_; rfl; simp only [putW]) | (refine store1 hS rfl rfl rfl rfl rfl ?_ ?_; (focus (simp; done)); clear hS; intro w hS; simp only [evW, putW] at hS; try simp only [putW]) | (refine storeAll hS rfl rfl rfl rfl ?_ ?_ ?_ ?_; rfl; (focus (simp [Value.oneCell']; done)); rfl; clear hS; intro w hS; try simp only [putW]) | (refine storeN hS rfl rfl rfl rfl ?_ ?_ ?_ ?_; rfl; (focus (simp [Value.oneCell']; done)); (focus (simp; done)); clear hS; intro w hS; simp at hS; try simp only [putW]) | (refine alloc hS rfl rfl ?_; clear hS; intro mb w hS; simp only [putW]) | (refine box1 hS rfl rfl rfl rfl ?_; clear hS; intro mb w hS; try simp only [evW, putW] at hS; simp only [putW]) | (refine boxN hS rfl rfl rfl ?_; clear hS; intro mb w hS; simp only [putW]))
  have hload : (loadVar 29 ⟨rb, 0, none⟩).run Tryz.prog w = .ok (.agg (stC ⟨10, 0, 0, 0, 0, [], 0, [], []⟩ nilV nilV nilV)) w := run_loadAll hS rb 29 rfl
  exact bodyPost_ret (v := .agg (stC ⟨10, 0, 0, 0, 0, [], 0, [], []⟩ nilV nilV nilV)) (by simp [results, Tryz.results36, asAddr, hload]) rfl ⟨nilV, nilV, nilV, rfl, Sat.conv (S' := (p, rsrc v (i + 1)) :: (0, sl 1 by8 [] 5 nilV) :: (0, sl 1 by8 [] 5 nilV) :: (0, sl 1 i64 [] 3 nilV) :: K) (((hS.slNil 1 by8 5).slNil 1 by8 5).slNil 1 i64 3)⟩
set_option maxRecDepth 100000 in
set_option maxHeartbeats 4000000 in
theorem rstep_11 {n : Nat} (hv : RB w0 A v) (hi : i ≤ 100000) (hn : gB A i = n) (hn2 : n < 256) (hr : (n : Int) % 12 = 10) (hS : Sat w0 ((p, rsrc v i) :: K) w) :
    Calls Tryz.prog 36 #[.pointer (some ⟨p, 0, none⟩)] w (StepPost3 w0 K v p (stepD A i)) := by
  have HV : Bx _ := ⟨hv⟩
  obtain ⟨x, hx, hx2⟩ := gB_natOk hv.all (i + 1)
  obtain ⟨y, hy, hy2⟩ := gB_natOk hv.all (i + 2)
  obtain ⟨z, hz, hz2⟩ := gB_natOk hv.all (i + 3)
  obtain ⟨D, hD⟩ : ∃ D, stepD A i = D := ⟨_, rfl⟩
  rw [hD]
  unfold stepD at hD
  rw [hn, hx, hy, hz] at hD
  clear hv
  rw [hr] at hD
  simp only [Int.reduceAdd, reduceIte, Int.reduceEq, or_true, true_or, or_false, false_or] at hD
  subst hD
  go_enter Tryz.func36, Tryz.ntmps36
  go_wp2_with (first | (guard_target =~ wpList _ _ _ (Oper.mk (some 2) _ _ _ _ _ :: _) _ _; refine alloc hS rfl rfl ?_; clear hS; intro rb w hS; simp only [putW]) | (guard_target =~ wpList _ _ _ (Oper.mk (some 3) _ _ _ _ _ :: _) _ _; refine alloc hS rfl rfl ?_; clear hS; intro sb w hS; simp only [putW]) | (guard_target =~ Calls _ 61 _ _ _; refine Stopped.out ?_) | (refine load1 hS rfl rfl rfl rfl ?_; simp only [putW]) | (refine loadAll hS rfl rfl rfl ?_ ?_; rfl; simp only [putW]) | (refine loadPart hS rfl rfl rfl ?_ rfl ?_; rfl; simp only [putW]) | (refine store1 hS rfl rfl rfl rfl rfl ?_ ?_; (focus (simp; done)); clear hS; intro w hS; simp only [evW, putW] at hS; try simp only [putW]) | (refine storeAll hS rfl rfl rfl rfl ?_ ?_ ?_ ?_; rfl; (focus (simp [Value.oneCell']; done)); rfl; clear hS; intro w hS; try simp only [putW]) | (refine storeN hS rfl rfl rfl rfl ?_ ?_ ?_ ?_; rfl; (focus (simp [Value.oneCell']; done)); (focus (simp; done)); clear hS; intro w hS; simp at hS; try simp only [putW]) | (refine alloc hS rfl rfl ?_; clear hS; intro mb w hS; simp only [putW]) | (refine box1 hS rfl rfl rfl rfl ?_; clear hS; intro mb w hS; try simp only [evW, putW] at hS; simp only [putW]) | (refine boxN hS rfl rfl rfl ?_; clear hS; intro mb w hS; simp only [putW]))
  refine ⟨?_⟩
  refine Calls.mono (rnext_p (p := p) (i := i) HV.out (by omega) hS) ?_
  clear hS
  rintro _ w ⟨rfl, hS⟩
  rw [hn]
  simp only [putW]
  go_wp2_with (first | (refine store1 (b := sb) (v := .int .i64 11) hS rfl rfl rfl rfl rfl ?_ ?_; (focus (simp)); clear hS; intro w hS; try simp only [putW]) | (guard_target =~ Calls _ 61 _ _ _; refine Stopped.out ?_) | (refine load1 hS rfl rfl rfl rfl ?_; simp only [putW]) | (refine loadAll hS rfl rfl rfl ?_ ?_; rfl; simp only [putW]) | (refine loadPart hS rfl rfl rfl ?_ rfl ?_; rfl; simp only [putW]) | (refine store1 hS rfl rfl rfl rfl rfl ?_ ?_; (focus (simp; done)); clear hS; intro w hS; simp only [evW, putW] at hS; try simp only [putW]) | (refine storeAll hS rfl rfl rfl rfl ?_ ?_ ?_ ?_; rfl; (focus (simp [Value.oneCell']; done)); rfl; clear hS; intro w hS; try simp only [putW]) | (refine storeN hS rfl rfl rfl rfl ?_ ?_ ?_ ?_; rfl; (focus (simp [Value.oneCell']; done)); (focus (simp; done)); clear hS; intro w hS; simp at hS; try simp only [putW]) | (refine alloc hS rfl rfl ?_; clear hS; intro mb w hS; simp only [putW]) | (refine box1 hS rfl rfl rfl rfl ?_; clear hS; intro mb w hS; try simp only [evW, putW] at hS; simp only [putW]) | (refine boxN hS rfl rfl rfl ?_; clear hS; intro mb w hS; simp only [putW]))
  refine ⟨?_⟩
  refine Calls.mono (rnext_p (p := p) (i := (i + 1)) HV.out (by omega) hS) ?_
  clear hS
  rintro _ w ⟨rfl, hS⟩
  rw [hx]
  simp only [putW]
  have HC : Bx (∀ u ∈ (stC ⟨11, x, 0, 0, 0, [], 0, [], []⟩ nilV nilV nilV).toList, u.oneCell' = true) := ⟨stC_one rfl rfl rfl⟩
  go_wp2_with (first | (refine store1 (b := sb) (v := .int .i64 (x : Int)) hS rfl rfl rfl rfl rfl ?_ ?_; (focus (simp)); clear hS; intro w hS; try simp only [putW]) | (refine storeAll hS rfl rfl rfl rfl ?_ ?_ ?_ ?_; rfl; (focus (exact HC.out)); rfl; clear hS; intro w hS; try simp only [putW]) | (refine load1 hS rfl rfl rfl rfl ?_; simp only [putW]) | (refine loadAll hS rfl rfl rfl ?_ ?_; rfl; simp only [putW]) | (refine loadPart hS rfl rfl rfl ?_ rfl ?_; rfl; simp only [putW]) | (refine store1 hS rfl rfl rfl rfl rfl ?_ ?_; (focus (simp; done)); clear hS; intro w hS; simp only [evW, putW] at hS; try simp only [putW]) | (refine storeAll hS rfl rfl rfl rfl ?_ ?_ ?_ ?_; rfl; (focus (simp [Value.oneCell']; done)); rfl; clear hS; intro w hS; try simp only [putW]) | (refine storeN hS rfl rfl rfl rfl ?_ ?_ ?_ ?_; rfl; (focus (simp [Value.oneCell']; done)); (focus (simp; done)); clear hS; intro w hS; simp at hS; try simp only [putW]) | (refine alloc hS rfl rfl ?_; clear hS; intro mb w hS; simp only [putW]) | (refine box1 hS rfl rfl rfl rfl ?_; clear hS; intro mb w hS; try simp only [evW, putW] at hS; simp only [putW]) | (refine boxN hS rfl rfl rfl ?_; clear hS; intro mb w hS; simp only [putW]))
  have hload : (loadVar 29 ⟨rb, 0, none⟩).run Tryz.prog w = .ok (.agg (stC ⟨11, x, 0, 0, 0, [], 0, [], []⟩ nilV nilV nilV)) w := run_loadAll hS rb 29 rfl
  exact bodyPost_ret (v := .agg (stC ⟨11, x, 0, 0, 0, [], 0, [], []⟩ nilV nilV nilV)) (by simp [results, Tryz.results36, asAddr, hload]) rfl ⟨nilV, nilV, nilV, rfl, Sat.conv (S' := (p, rsrc v (i + 2)) :: (0, sl 1 by8 [] 5 nilV) :: (0, sl 1 by8 [] 5 nilV) :: (0, sl 1 i64 [] 3 nilV) :: K) (((hS.slNil 1 by8 5).slNil 1 by8 5).slNil 1 i64 3)⟩
set_option maxRecDepth 100000 in
set_option maxHeartbeats 4000000 in
theorem rstep_12 {n : Nat} (hv : RB w0 A v) (hi : i ≤ 100000) (hn : gB A i = n) (hn2 : n < 256) (hr : (n : Int) % 12 = 11) (hS : Sat w0 ((p, rsrc v i) :: K) w) :
    Calls Tryz.prog 36 #[.pointer (some ⟨p, 0, none⟩)] w (StepPost3 w0 K v p (stepD A i)) := by
  have HV : Bx _ := ⟨hv⟩
  obtain ⟨x, hx, hx2⟩ := gB_natOk hv.all (i + 1)
  obtain ⟨y, hy, hy2⟩ := gB_natOk hv.all (i + 2)
  obtain ⟨z, hz, hz2⟩ := gB_natOk hv.all (i + 3)
  obtain ⟨D, hD⟩ : ∃ D, stepD A i = D := ⟨_, rfl⟩
  rw [hD]
  unfold stepD at hD
  rw [hn, hx, hy, hz] at hD
  clear hv
  rw [hr] at hD
  simp only [Int.reduceAdd, reduceIte, Int.reduceEq, or_true, true_or, or_false, false_or] at hD
  subst hD
  go_enter Tryz.func36, Tryz.ntmps36
  go_wp2_with (first | (guard_target =~ wpList _ _ _ (Oper.mk (some 2) _ _ _ _ _ :: _) _ _; refine alloc hS rfl rfl ?_; clear hS; intro rb w hS; simp only [putW]) | (guard_target =~ wpList _ _ _ (Oper.mk (some 3) _ _ _ _ _ :: _) _ _; refine alloc hS rfl rfl ?_; clear hS; intro sb w hS; simp only [putW]) | (guard_target =~ Calls _ 61 _ _ _; refine Stopped.out ?_) | (refine load1 hS rfl rfl rfl rfl ?_; simp only [putW]) | (refine loadAll hS rfl rfl rfl ?_ ?_; rfl; simp only [putW]) | (refine loadPart hS rfl rfl rfl ?_ rfl ?_; rfl; simp only [putW]) | (refine store1 hS rfl rfl rfl rfl rfl ?_ ?_; (focus (simp; done)); clear hS; intro w hS; simp only [evW, putW] at hS; try simp only [putW]) | (refine storeAll hS rfl rfl rfl rfl ?_ ?_ ?_ ?_; rfl; (focus (simp [Value.oneCell']; done)); rfl; clear hS; intro w hS; try simp only [putW]) | (refine storeN hS rfl rfl rfl rfl ?_ ?_ ?_ ?_; rfl; (focus (simp [Value.oneCell']; done)); (focus (simp; done)); clear hS; intro w hS; simp at hS; try simp only [putW]) | (refine alloc hS rfl rfl ?_; clear hS; intro mb w hS; simp only [putW]) | (refine box1 hS rfl rfl rfl rfl ?_; clear hS; intro mb w hS; try simp only [evW, putW] at hS; simp only [putW]) | (refine boxN hS rfl rfl rfl ?_; clear hS; intro mb w hS; simp only [putW]))
  refine ⟨?_⟩
  refine Calls.mono (rnext_p (p := p) (i := i) HV.out (by omega) hS) ?_
  clear hS
  rintro _ w ⟨rfl, hS⟩
  rw [hn]
  simp only [putW]
  go_wp2_with (first | (refine store1 (b := sb) (v := .int .i64 12) hS rfl rfl rfl rfl rfl ?_ ?_; (focus (simp)); clear hS; intro w hS; try simp only [putW]) | (guard_target =~ Calls _ 61 _ _ _; refine Stopped.out ?_) | (refine load1 hS rfl rfl rfl rfl ?_; simp only [putW]) | (refine loadAll hS rfl rfl rfl ?_ ?_; rfl; simp only [putW]) | (refine loadPart hS rfl rfl rfl ?_ rfl ?_; rfl; simp only [putW]) | (refine store1 hS rfl rfl rfl rfl rfl ?_ ?_; (focus (simp; done)); clear hS; intro w hS; simp only [evW, putW] at hS; try simp only [putW]) | (refine storeAll hS rfl rfl rfl rfl ?_ ?_ ?_ ?_; rfl; (focus (simp [Value.oneCell']; done)); rfl; clear hS; intro w hS; try simp only [putW]) | (refine storeN hS rfl rfl rfl rfl ?_ ?_ ?_ ?_; rfl; (focus (simp [Value.oneCell']; done)); (focus (simp; done)); clear hS; intro w hS; simp at hS; try simp only [putW]) | (refine alloc hS rfl rfl ?_; clear hS; intro mb w hS; simp only [putW]) | (refine box1 hS rfl rfl rfl rfl ?_; clear hS; intro mb w hS; try simp only [evW, putW] at hS; simp only [putW]) | (refine boxN hS rfl rfl rfl ?_; clear hS; intro mb w hS; simp only [putW]))
  refine ⟨?_⟩
  refine Calls.mono (rnext_p (p := p) (i := (i + 1)) HV.out (by omega) hS) ?_
  clear hS
  rintro _ w ⟨rfl, hS⟩
  rw [hx]
  simp only [putW]
  go_wp2_with (first | (refine store1 (b := sb) (v := .int .i64 (x : Int)) hS rfl rfl rfl rfl rfl ?_ ?_; (focus (simp)); clear hS; intro w hS; try simp only [putW]) | (refine store1 (b := sb) (v := .int .i64 ((x : Int) % 8)) hS rfl rfl rfl rfl rfl ?_ ?_; (focus (simp)); clear hS; intro w hS; try simp only [putW]) | (guard_target =~ Calls _ 63 _ _ _; refine Stopped.out ?_) | (refine load1 hS rfl rfl rfl rfl ?_; simp only [putW]) | (refine loadAll hS rfl rfl rfl ?_ ?_; rfl; simp only [putW]) | (refine loadPart hS rfl rfl rfl ?_ rfl ?_; rfl; simp only [putW]) | (refine store1 hS rfl rfl rfl rfl rfl ?_ ?_; (focus (simp; done)); clear hS; intro w hS; simp only [evW, putW] at hS; try simp only [putW]) | (refine storeAll hS rfl rfl rfl rfl ?_ ?_ ?_ ?_; rfl; (focus (simp [Value.oneCell']; done)); rfl; clear hS; intro w hS; try simp only [putW]) | (refine storeN hS rfl rfl rfl rfl ?_ ?_ ?_ ?_; rfl; (focus (simp [Value.oneCell']; done)); (focus (simp; done)); clear hS; intro w hS; simp at hS; try simp only [putW]) | (refine alloc hS rfl rfl ?_; clear hS; intro mb w hS; simp only [putW]) | (refine box1 hS rfl rfl rfl rfl ?_; clear hS; intro mb w hS; try simp only [evW, putW] at hS; simp only [putW]) | (refine boxN hS rfl rfl rfl ?_; clear hS; intro mb w hS; simp only [putW]))
  refine ⟨?_⟩
  refine Calls.mono (rreal_p (p := p) (i := i + 2) HV.out (by omega) hS) ?_
  clear hS
  rintro _ w ⟨rfl, hS⟩
  obtain ⟨m, hm⟩ : ∃ m, beV 0 (bytesAt A (i + 2) 8) = m := ⟨_, rfl⟩
  rw [hm]
  have HM : Bx _ := ⟨hm⟩
  clear hm
  simp only [putW]
  have HC : Bx (∀ u ∈ (stC ⟨12, (x : Int) % 8, 0, 0, 0, [], m, [], []⟩ nilV nilV nilV).toList, u.oneCell' = true) := ⟨stC_one rfl rfl rfl⟩
  go_wp2_with (first | (refine storeAll hS rfl rfl rfl rfl ?_ ?_ ?_ ?_; rfl; (focus (exact HC.out)); rfl; clear hS; intro w hS; try simp only [putW]) | (refine load1 hS rfl rfl rfl rfl ?_; simp only [putW]) | (refine loadAll hS rfl rfl rfl ?_ ?_; rfl; simp only [putW]) | (refine loadPart hS rfl rfl rfl ?_ rfl ?_; rfl; simp only [putW]) | (refine store1 hS rfl rfl rfl rfl rfl ?_ ?_; (focus (simp; done)); clear hS; intro w hS; simp only [evW, putW] at hS; try simp only [putW]) | (refine storeAll hS rfl rfl rfl rfl ?_ ?_ ?_ ?_; rfl; (focus (simp [Value.oneCell']; done)); rfl; clear hS; intro w hS; try simp only [putW]) | (refine storeN hS rfl rfl rfl rfl ?_ ?_ ?_ ?_; rfl; (focus (simp [Value.oneCell']; done)); (focus (simp; done)); clear hS; intro w hS; simp at hS; try simp only [putW]) | (refine alloc hS rfl rfl ?_; clear hS; intro mb w hS; simp only [putW]) | (refine box1 hS rfl rfl rfl rfl ?_; clear hS; intro mb w hS; try simp only [evW, putW] at hS; simp only [putW]) | (refine boxN hS rfl rfl rfl ?_; clear hS; intro mb w hS; simp only [putW]))
  have hload : (loadVar 29 ⟨rb, 0, none⟩).run Tryz.prog w = .ok (.agg (stC ⟨12, (x : Int) % 8, 0, 0, 0, [], m, [], []⟩ nilV nilV nilV)) w := run_loadAll hS rb 29 rfl
  exact bodyPost_ret (v := .agg (stC ⟨12, (x : Int) % 8, 0, 0, 0, [], m, [], []⟩ nilV nilV nilV)) (by simp [results, Tryz.results36, asAddr, hload]) rfl ⟨nilV, nilV, nilV, by rw [← HM.out]; rfl, Sat.conv (S' := (p, rsrc v (i + 10)) :: (0, sl 1 by8 [] 5 nilV) :: (0, sl 1 by8 [] 5 nilV) :: (0, sl 1 i64 [] 3 nilV) :: K) (((hS.slNil 1 by8 5).slNil 1 by8 5).slNil 1 i64 3)⟩
end
end Go.Proofs.YtpbjkfomdindnaaGreatDoor
