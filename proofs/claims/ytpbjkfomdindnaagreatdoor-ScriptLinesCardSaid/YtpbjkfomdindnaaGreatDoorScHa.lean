/-
  script.source.step, kinds 7: printed by program (mksrc.py).
-/
import Derived.Test.YtpbjkfomdindnaaGreatDoorScH
set_option linter.unusedSimpArgs false
set_option linter.unusedVariables false
namespace Go.Proofs.YtpbjkfomdindnaaGreatDoor
open Go.RowKit Go.Shelf Go.Proofs.YtpbjkfomdindnaaGreatDoor.Sl Go.Proofs.YtpbjkfomdindnaaGreatDoor.Jp Go.Proofs.YtpbjkfomdindnaaGreatDoor.Sc

section
variable {w0 w : World} {S F K : List Chunk} {A : List Int} {p b o i : Nat}
set_option maxRecDepth 100000 in
set_option maxHeartbeats 8000000 in
theorem sstep_7 {n : Nat} (hA : SrcB w0 A b o) (hn : gB A i = n) (hn2 : n < 256) (hr : (n : Int) % 12 = 6) (hS : Sat w0 ((p, srcC A b o i) :: K) w) :
    Calls Tryz.prog 35 #[.pointer (some ⟨p, 0, none⟩)] w (StepPost2 w0 K A p b o (stepD A i)) := by
  have HA : Bx _ := ⟨hA⟩
  obtain ⟨x, hx, hx2⟩ := gB_nat hA (i + 1)
  obtain ⟨y, hy, hy2⟩ := gB_nat hA (i + 2)
  obtain ⟨z, hz, hz2⟩ := gB_nat hA (i + 3)
  obtain ⟨D, hD⟩ : ∃ D, stepD A i = D := ⟨_, rfl⟩
  rw [hD]
  unfold stepD at hD
  rw [hn, hx, hy, hz] at hD
  clear hA
  rw [hr] at hD
  simp only [Int.reduceAdd, reduceIte, Int.reduceEq, or_true, true_or, or_false, false_or] at hD
  subst hD
  go_enter Tryz.func35, Tryz.ntmps35
  go_wp2_with (first | (guard_target =~ wpList _ _ _ (Oper.mk (some 2) _ _ _ _ _ :: _) _ _; refine alloc hS rfl rfl ?_; clear hS; intro rb w hS; simp only [putW]) | (guard_target =~ Calls _ 57 _ _ _; refine Stopped.out ?_))
  refine ⟨?_⟩
  refine Calls.mono (snext_p (p := p) (i := i) HA.out hS) ?_
  clear hS
  rintro _ w ⟨rfl, hS⟩
  rw [hn]
  simp only [putW]
  go_wp2_with (first | (guard_target =~ wpList _ _ _ (Oper.mk (some 3) _ _ _ _ _ :: _) _ _; refine alloc hS rfl rfl ?_; clear hS; intro sb w hS; simp only [putW]) | (guard_target =~ Calls _ 57 _ _ _; refine Stopped.out ?_) | (refine load1 hS rfl rfl rfl rfl ?_; simp only [putW]) | (refine storeAll hS rfl rfl rfl rfl ?_ ?_ ?_ ?_; rfl; (focus (simp [Value.oneCell']; done)); rfl; clear hS; intro w hS; try simp only [putW]))
  refine ⟨?_⟩
  refine Calls.mono (snext_p (p := p) (i := (i + 1)) HA.out hS) ?_
  clear hS
  rintro _ w ⟨rfl, hS⟩
  rw [hx]
  simp only [putW]
  go_wp2_with (first | (refine store1 (b := sb) (v := .int .i64 (x : Int)) hS rfl rfl rfl rfl rfl ?_ ?_; (focus (simp)); clear hS; intro w hS; try simp only [putW]) | (guard_target =~ Calls _ 57 _ _ _; refine Stopped.out ?_))
  refine ⟨?_⟩
  refine Calls.mono (snext_p (p := p) (i := (i + 2)) HA.out hS) ?_
  clear hS
  rintro _ w ⟨rfl, hS⟩
  rw [hy]
  simp only [putW]
  have hy5 : ((y : Int) % 5) = ((y % 5 : Nat) : Int) := by omega
  obtain ⟨m, hm⟩ : ∃ m, y % 5 = m := ⟨_, rfl⟩
  have hm5 : m < 5 := by omega
  have HM : Bx (((y : Int) % 5).toNat = m) := ⟨by omega⟩
  rw [hm] at hy5
  clear hm
  go_wp2_with (refine load1 hS rfl rfl rfl rfl ?_; simp only [putW])
  simp only [hy5]
  clear hy5
  replace hS : Sat w0 ((p, srcC A b o (i + 3)) :: (sb, cells (stC ⟨7, x, 0, 0, 0, [], 0, [], []⟩ nilV nilV nilV) 29) :: (rb, cells (stC st0 nilV nilV nilV) 29) :: K) w := hS
  have hS1 : Sat w0 ((0, sl 1 i64 (fatesAt A (i + 3) 0) 3 nilV) :: (sb, cells (stC ⟨7, x, 0, 0, 0, [], 0, [], []⟩ nilV nilV nilV) 29) :: (p, srcC A b o (i + 3)) :: (rb, cells (stC st0 nilV nilV nilV) 29) :: K) w := Sat.conv (S' := (0, sl 1 i64 [] 3 nilV) :: (sb, cells (stC ⟨7, x, 0, 0, 0, [], 0, [], []⟩ nilV nilV nilV) 29) :: (p, srcC A b o (i + 3)) :: (rb, cells (stC st0 nilV nilV nilV) 29) :: K) (hS.slNil 1 i64 3)
  clear hS
  have hS := hS1
  clear hS1
  go_loopw [56] (fun j wr => ∃ (k : Nat) (v : Value), k ≤ m ∧ j = .int .i64 (k : Int) ∧ Sat w0 ((blk v, sl 1 i64 (fatesAt A (i + 3) k) 3 v) :: (sb, cells (stC ⟨7, x, 0, 0, 0, [], 0, [], []⟩ nilV nilV v) 29) :: (p, srcC A b o (i + 3 + 2 * k)) :: (rb, cells (stC st0 nilV nilV nilV) 29) :: K) wr) (fun j _ => m - (intOf j).toNat)
  case atStart => exact ⟨0, nilV, Nat.zero_le _, rfl, hS⟩
  case round =>
    clear hS
    obtain ⟨k, v, hk, rfl, hS⟩ := hrel
    by_cases hlt : k < m
    · obtain ⟨h, hh, hh2⟩ := gB_nat HA.out (i + 3 + 2 * k)
      obtain ⟨l, hl, hl2⟩ := gB_nat HA.out (i + 3 + 2 * k + 1)
      have HF : Bx (fatesAt A (i + 3) (k + 1) = fatesAt A (i + 3) k ++ [256 * (h : Int) + l]) := ⟨by rw [fatesAt_succ, hh, hl]⟩
      have hlen : (fatesAt A (i + 3) k).length ≤ 9 := by rw [fatesAt_len]; omega
      have HOR : Bx (bits .or .i64 (IntKind.wrap .i64 ((h : Int) * 256)) (l : Int) = 256 * h + l) := ⟨by rw [show IntKind.wrap .i64 ((h : Int) * 256) = (h : Int) * 256 by simp [IntKind.wrap, IntKind.bits, IntKind.signed]; omega]; exact or_hl hh2 hl2⟩
      have hcn : ∀ {w : World} {S F : List Chunk} (_ : Sat w0 S w) [Pull S p (srcC A b o (i + 3 + 2 * k + 1)) F], Calls Tryz.prog 57 #[.pointer (some ⟨p, 0, none⟩)] w fun e w' => e = .returned (.int .i64 (l : Int)) ∧ Sat w0 ((p, srcC A b o (i + 3 + 2 * (k + 1))) :: F) w' := fun hS _ => by rw [← hl]; exact snext_p (p := p) (i := i + 3 + 2 * k + 1) HA.out hS
      clear hl
      go_wp2_with (guard_target =~ Calls _ 57 _ _ _; refine Stopped.out ?_)
      refine ⟨?_⟩
      refine Calls.mono (snext_p (p := p) (i := i + 3 + 2 * k) HA.out hS) ?_
      clear hS
      rintro _ w ⟨rfl, hS⟩
      rw [hh]
      simp only [putW]
      clear hh
      go_upto_region 23 with (refine load1 hS rfl rfl rfl rfl ?_; simp only [putW])
      (refine wp_region_held (S := fun w' => Sat w0 ((rb, cells (stC st0 nilV nilV nilV) 29) :: K) w') (by kernel_rfl) ?_; replace hS := hS.drew; (apply takeIf (i := 0) rfl (by kernel_rfl) (fun _ _ _ h => h); (focus (apply yRun rfl; intro w; first | (go_simp; done) | (go_simp; rfl))); (focus (exact hS.conv)); simp only [putW]); (refine takeIf (i := 2) rfl (by kernel_rfl) (fun _ _ _ h => h) (yMove rfl rfl rfl) hS.conv ?_; simp only [evW, putW]); (apply takeIf (i := 3) rfl (by kernel_rfl) (fun _ _ _ h => h); (focus (apply yRun rfl; intro w; first | (go_simp; done) | (go_simp; rfl))); (focus (exact hS.conv)); simp only [putW]); (refine takeIf (i := 4) rfl (by kernel_rfl) (fun _ _ _ h => h) (yMove rfl rfl rfl) hS.conv ?_; simp only [evW, putW]); refine wpAnyH_all (rs := [1, 5]) (by kernel_rfl) (by simp) ?_; intro i hi; simp only [List.mem_cons, List.not_mem_nil, or_false] at hi; rcases hi with rfl | rfl; (focus (refine wpOp_of_list rfl ?_; go_wp2_with (refine load1 hS rfl rfl rfl rfl ?_; simp only [putW]); refine ⟨rfl, hS.conv, ?_⟩; refine wpAnyH_all (rs := [5]) (by kernel_rfl) (by simp) ?_; intro i hi; simp only [List.mem_cons, List.not_mem_nil, or_false] at hi; subst hi; refine wpOp_of_list rfl ?_; go_wp2_with (go_at_call 57; refine Calls.mono (hcn hS) ?_; clear hS; rintro _ w ⟨rfl, hS⟩; simp only [putW]); refine ⟨rfl, hS.conv, ?_⟩; (apply takeIf (i := 6) rfl (by kernel_rfl) (fun _ _ _ h => h); (focus (apply yRun rfl; intro w; first | (go_simp; done) | (go_simp; rfl))); (focus (exact hS.conv)); simp only [putW]); refine wpAnyH_all (rs := [7]) (by kernel_rfl) (by simp) ?_; intro i hi; simp only [List.mem_cons, List.not_mem_nil, or_false] at hi; subst hi; refine wpOp_of_list rfl ?_; go_wp2_with (refine buildSlice1 (c := #[.int .i64 (bits .or .i64 (IntKind.wrap .i64 ((h : Int) * 256)) (l : Int))]) hS rfl rfl rfl ?_ ?_ ?_ ?_; rfl; rfl; rfl; clear hS; intro mb w hS; simp only [putW]); refine ⟨rfl, hS.conv, ?_⟩; refine wpAnyH_all (rs := [8]) (by kernel_rfl) (by simp) ?_; intro i hi; simp only [List.mem_cons, List.not_mem_nil, or_false] at hi; subst hi; refine wpOp_of_list rfl ?_; go_wp2_with (refine append1 (f := i64) hS rfl rfl v rfl rfl (bits .or .i64 (IntKind.wrap .i64 ((h : Int) * 256)) (l : Int)) ?_ ?_ ?_ ?_ ?_ ?_; rfl; (focus (simp [i64, one, Value.oneCell']; done)); rfl; (focus (simp [maxLen]; omega)); (focus (omega)); clear hS; intro v' w hS; simp only [putW]); refine ⟨rfl, hS.conv, ?_⟩; (apply takeIf (i := 9) rfl (by kernel_rfl) (fun _ _ _ h => h); (focus (apply yRun rfl; intro w; first | (go_simp; done) | (go_simp; rfl))); (focus (exact hS.conv)); simp only [putW]); refine wpAnyH_all (rs := [10]) (by kernel_rfl) (by simp) ?_; intro i hi; simp only [List.mem_cons, List.not_mem_nil, or_false] at hi; subst hi; refine wpOp_of_list rfl ?_; go_wp2_with (refine store1 (b := sb) (v := v') hS rfl rfl rfl rfl (Sat.slCell (α := Int) (v := v') hS) ?_ ?_; (focus (simp; done)); clear hS; intro w hS; try simp only [putW]); refine ⟨rfl, hS.conv, ?_⟩; refine wpAnyH_done (by kernel_rfl) ?_ _; (replace hS : Sat w0 ((sb, cells (stC ⟨7, x, 0, 0, 0, [], 0, [], []⟩ nilV nilV v') 29) :: (blk v', sl 1 i64 (fatesAt A (i + 3) k ++ [bits .or .i64 (IntKind.wrap .i64 ((h : Int) * 256)) (l : Int)]) 3 v') :: (p, srcC A b o (i + 3 + 2 * (k + 1))) :: (rb, cells (stC st0 nilV nilV nilV) 29) :: K) w := hS; rw [HOR.out, ← HF.out] at hS; go_wp2_with (refine load1 hS rfl rfl rfl rfl ?_; simp only [putW]); go_roundw; (case rel => (exact ⟨k + 1, v', by omega, by go_num, hS.conv⟩)); (case measure => (simp only [intOf]; omega))))); (focus (refine wpOp_of_list rfl ?_; go_wp2_with (go_at_call 57; refine Calls.mono (hcn hS) ?_; clear hS; rintro _ w ⟨rfl, hS⟩; simp only [putW]); refine ⟨rfl, hS.conv, ?_⟩; (apply takeIf (i := 6) rfl (by kernel_rfl) (fun _ _ _ h => h); (focus (apply yRun rfl; intro w; first | (go_simp; done) | (go_simp; rfl))); (focus (exact hS.conv)); simp only [putW]); refine wpAnyH_all (rs := [1, 7]) (by kernel_rfl) (by simp) ?_; intro i hi; simp only [List.mem_cons, List.not_mem_nil, or_false] at hi; rcases hi with rfl | rfl; (focus (refine wpOp_of_list rfl ?_; go_wp2_with (refine load1 hS rfl rfl rfl rfl ?_; simp only [putW]); refine ⟨rfl, hS.conv, ?_⟩; refine wpAnyH_all (rs := [7]) (by kernel_rfl) (by simp) ?_; intro i hi; simp only [List.mem_cons, List.not_mem_nil, or_false] at hi; subst hi; refine wpOp_of_list rfl ?_; go_wp2_with (refine buildSlice1 (c := #[.int .i64 (bits .or .i64 (IntKind.wrap .i64 ((h : Int) * 256)) (l : Int))]) hS rfl rfl rfl ?_ ?_ ?_ ?_; rfl; rfl; rfl; clear hS; intro mb w hS; simp only [putW]); refine ⟨rfl, hS.conv, ?_⟩; refine wpAnyH_all (rs := [8]) (by kernel_rfl) (by simp) ?_; intro i hi; simp only [List.mem_cons, List.not_mem_nil, or_false] at hi; subst hi; refine wpOp_of_list rfl ?_; go_wp2_with (refine append1 (f := i64) hS rfl rfl v rfl rfl (bits .or .i64 (IntKind.wrap .i64 ((h : Int) * 256)) (l : Int)) ?_ ?_ ?_ ?_ ?_ ?_; rfl; (focus (simp [i64, one, Value.oneCell']; done)); rfl; (focus (simp [maxLen]; omega)); (focus (omega)); clear hS; intro v' w hS; simp only [putW]); refine ⟨rfl, hS.conv, ?_⟩; (apply takeIf (i := 9) rfl (by kernel_rfl) (fun _ _ _ h => h); (focus (apply yRun rfl; intro w; first | (go_simp; done) | (go_simp; rfl))); (focus (exact hS.conv)); simp only [putW]); refine wpAnyH_all (rs := [10]) (by kernel_rfl) (by simp) ?_; intro i hi; simp only [List.mem_cons, List.not_mem_nil, or_false] at hi; subst hi; refine wpOp_of_list rfl ?_; go_wp2_with (refine store1 (b := sb) (v := v') hS rfl rfl rfl rfl (Sat.slCell (α := Int) (v := v') hS) ?_ ?_; (focus (simp; done)); clear hS; intro w hS; try simp only [putW]); refine ⟨rfl, hS.conv, ?_⟩; refine wpAnyH_done (by kernel_rfl) ?_ _; (replace hS : Sat w0 ((sb, cells (stC ⟨7, x, 0, 0, 0, [], 0, [], []⟩ nilV nilV v') 29) :: (blk v', sl 1 i64 (fatesAt A (i + 3) k ++ [bits .or .i64 (IntKind.wrap .i64 ((h : Int) * 256)) (l : Int)]) 3 v') :: (p, srcC A b o (i + 3 + 2 * (k + 1))) :: (rb, cells (stC st0 nilV nilV nilV) 29) :: K) w := hS; rw [HOR.out, ← HF.out] at hS; go_wp2_with (refine load1 hS rfl rfl rfl rfl ?_; simp only [putW]); go_roundw; (case rel => (exact ⟨k + 1, v', by omega, by go_num, hS.conv⟩)); (case measure => (simp only [intOf]; omega))))); (focus (refine wpOp_of_list rfl ?_; go_wp2_with (refine buildSlice1 (c := #[.int .i64 (bits .or .i64 (IntKind.wrap .i64 ((h : Int) * 256)) (l : Int))]) hS rfl rfl rfl ?_ ?_ ?_ ?_; rfl; rfl; rfl; clear hS; intro mb w hS; simp only [putW]); refine ⟨rfl, hS.conv, ?_⟩; refine wpAnyH_all (rs := [1]) (by kernel_rfl) (by simp) ?_; intro i hi; simp only [List.mem_cons, List.not_mem_nil, or_false] at hi; subst hi; refine wpOp_of_list rfl ?_; go_wp2_with (refine load1 hS rfl rfl rfl rfl ?_; simp only [putW]); refine ⟨rfl, hS.conv, ?_⟩; refine wpAnyH_all (rs := [8]) (by kernel_rfl) (by simp) ?_; intro i hi; simp only [List.mem_cons, List.not_mem_nil, or_false] at hi; subst hi; refine wpOp_of_list rfl ?_; go_wp2_with (refine append1 (f := i64) hS rfl rfl v rfl rfl (bits .or .i64 (IntKind.wrap .i64 ((h : Int) * 256)) (l : Int)) ?_ ?_ ?_ ?_ ?_ ?_; rfl; (focus (simp [i64, one, Value.oneCell']; done)); rfl; (focus (simp [maxLen]; omega)); (focus (omega)); clear hS; intro v' w hS; simp only [putW]); refine ⟨rfl, hS.conv, ?_⟩; (apply takeIf (i := 9) rfl (by kernel_rfl) (fun _ _ _ h => h); (focus (apply yRun rfl; intro w; first | (go_simp; done) | (go_simp; rfl))); (focus (exact hS.conv)); simp only [putW]); refine wpAnyH_all (rs := [10]) (by kernel_rfl) (by simp) ?_; intro i hi; simp only [List.mem_cons, List.not_mem_nil, or_false] at hi; subst hi; refine wpOp_of_list rfl ?_; go_wp2_with (refine store1 (b := sb) (v := v') hS rfl rfl rfl rfl (Sat.slCell (α := Int) (v := v') hS) ?_ ?_; (focus (simp; done)); clear hS; intro w hS; try simp only [putW]); refine ⟨rfl, hS.conv, ?_⟩; refine wpAnyH_done (by kernel_rfl) ?_ _; (replace hS : Sat w0 ((sb, cells (stC ⟨7, x, 0, 0, 0, [], 0, [], []⟩ nilV nilV v') 29) :: (blk v', sl 1 i64 (fatesAt A (i + 3) k ++ [bits .or .i64 (IntKind.wrap .i64 ((h : Int) * 256)) (l : Int)]) 3 v') :: (p, srcC A b o (i + 3 + 2 * (k + 1))) :: (rb, cells (stC st0 nilV nilV nilV) 29) :: K) w := hS; rw [HOR.out, ← HF.out] at hS; go_wp2_with (refine load1 hS rfl rfl rfl rfl ?_; simp only [putW]); go_roundw; (case rel => (exact ⟨k + 1, v', by omega, by go_num, hS.conv⟩)); (case measure => (simp only [intOf]; omega))))))))
    · obtain rfl : k = m := by omega
      have HC : Bx (∀ u ∈ (stC ⟨7, x, 0, 0, 0, [], 0, [], fatesAt A (i + 3) k⟩ nilV nilV v).toList, u.oneCell' = true) := ⟨stC_one rfl rfl (Sat.slCell (α := Int) (v := v) hS)⟩
      go_wp2_with (first | (refine storeAll hS rfl rfl rfl rfl ?_ ?_ ?_ ?_; rfl; (focus (exact HC.out)); rfl; clear hS; intro w hS; try simp only [putW]) | (refine loadAll hS rfl rfl rfl ?_ ?_; rfl; simp only [putW]))
      have hload : (loadVar 29 ⟨rb, 0, none⟩).run Tryz.prog w = .ok (.agg (stC ⟨7, x, 0, 0, 0, [], 0, [], fatesAt A (i + 3) k⟩ nilV nilV v)) w := run_loadAll hS rb 29 rfl
      refine bodyPost_ret (v := .agg (stC ⟨7, x, 0, 0, 0, [], 0, [], fatesAt A (i + 3) k⟩ nilV nilV v)) (by simp [results, Tryz.results35, asAddr, hload]) rfl ⟨nilV, nilV, v, ?_, ?_⟩
      · simp only [HM.out]; rfl
      · simp only [HM.out]
        exact Sat.conv (S' := (p, srcC A b o (i + 3 + 2 * k)) :: (0, sl 1 by8 [] 5 nilV) :: (0, sl 1 by8 [] 5 nilV) :: (blk v, sl 1 i64 (fatesAt A (i + 3) k) 3 v) :: K) ((hS.slNil 1 by8 5).slNil 1 by8 5)
end
end Go.Proofs.YtpbjkfomdindnaaGreatDoor
