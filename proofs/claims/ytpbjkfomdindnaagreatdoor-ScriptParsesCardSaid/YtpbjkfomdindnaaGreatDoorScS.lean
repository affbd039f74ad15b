/-
  script.form.step of a line: printed by program (mkstep.py).
-/
import Derived.Test.YtpbjkfomdindnaaGreatDoorScR
set_option linter.unusedSimpArgs false
set_option linter.unusedVariables false
namespace Go.Proofs.YtpbjkfomdindnaaGreatDoor
open Go.RowKit Go.Shelf Go.Proofs.YtpbjkfomdindnaaGreatDoor.Sl Go.Proofs.YtpbjkfomdindnaaGreatDoor.Jp Go.Proofs.YtpbjkfomdindnaaGreatDoor.Sc

section
variable {w0 w : World} {S F K : List Chunk} {W : List Bs} {fb sb : Nat}
/-- A step's own slices, by their values. -/
abbrev stL (s : St) (vo vd vf : Value) : List Chunk := [(blk vo, sl 1 by8 s.od 5 vo), (blk vd, sl 1 by8 s.da 5 vd), (blk vf, sl 1 i64 s.fa 3 vf)]
theorem askP_keeps {s s' : St} {W W' : List Bs} (h : askP s W = some (s', W')) : s'.da = s.da ∧ s'.fa = s.fa := by
  unfold askP at h
  obtain ⟨w, k, W1, -, -, h⟩ := bindW h
  simp only [askK] at h
  split at h
  · obtain ⟨_, p, W2, -, -, h⟩ := bindW h
    cases h; exact ⟨rfl, rfl⟩
  · split at h
    · obtain ⟨_, p, W2, -, -, h⟩ := bindW h
      obtain ⟨_, q, W3, -, -, h⟩ := bindW h
      cases h; exact ⟨rfl, rfl⟩
    · split at h
      · obtain ⟨_, p, W2, -, -, h⟩ := bindW h
        obtain ⟨_, q, W3, -, -, h⟩ := bindW h
        cases h; exact ⟨rfl, rfl⟩
      · cases h; exact ⟨rfl, rfl⟩
abbrev StepPost (w0 : World) (K : List Chunk) (fb sb : Nat) (W : List Bs) (e : Ending) (w' : World) : Prop :=
  (∃ s W' vo vd vf, stepP W = some (s, W') ∧ e = .returned (.tuple #[]) ∧ Sat w0 ((fb, frm W') :: (sb, cells (stC s vo vd vf) 29) :: stL s vo vd vf ++ K) w') ∨ (stepP W = none ∧ e = .panicked badP ∧ Sat w0 K w')
set_option maxRecDepth 100000 in
set_option maxHeartbeats 4000000 in
theorem step_parse1 {W1 : List Bs} (hK : KV w0) (hch : takeW (choiceW stepsL) W = some (1, W1)) (hS : Sat w0 ((fb, frm W) :: (sb, cells (stC st0 nilV nilV nilV) 29) :: K) w) :
    Calls Tryz.prog 24 #[.pointer (some ⟨fb, 0, none⟩), .pointer (some ⟨sb, 0, none⟩)] w (StepPost w0 K fb sb W) := by
  have HK : Bx _ := ⟨hK⟩
  clear hK
  have hcn : ∀ {gl : Nat} {w : World}, Sat w0 ((gl, slc 1 strF stepsL 13 9) :: (fb, frm W) :: (sb, cells (stC st0 nilV nilV nilV) 29) :: K) w → Calls Tryz.prog 48 #[.pointer (some ⟨fb, 0, none⟩), .pointer (some ⟨sb, 0, none⟩), .slice (some ⟨gl, 0, none⟩) 13 13] w fun e w' => e = .returned (.tuple #[]) ∧ Sat w0 ((fb, frm W1) :: (sb, cells (stC ⟨1, 0, 0, 0, 0, [], 0, [], []⟩ nilV nilV nilV) 29) :: K) w' := fun h => choice_ok (off := 0) hch rfl (by decide) (by decide) (by simp) h
  have HA : Bx (∀ r, stepK 1 W1 = r → stepP W = r) := ⟨fun r h => by unfold stepP; rw [hch]; exact h⟩
  clear hch
  go_enter Tryz.func24, Tryz.ntmps24
  go_upto_region 0 with (refine load1 hS rfl rfl rfl rfl ?_; simp only [putW])
  (refine wp_region_held (S := fun w' => Sat w0 (K) w') (by kernel_rfl) ?_; replace hS := hS.drew; (refine takeIf (i := 0) rfl (by kernel_rfl) (fun _ _ _ h => h) (yMove rfl rfl rfl) hS.conv ?_; simp only [evW, putW]); (refine takeIf (i := 1) rfl (by kernel_rfl) (fun _ _ _ h => h) (yMove rfl rfl rfl) hS.conv ?_; simp only [evW, putW]); (apply takeIf (i := 2) rfl (by kernel_rfl) (fun _ _ _ h => h); (focus (apply yRun rfl; intro w; first | (go_simp; done) | (go_simp; rfl))); (focus (exact hS.conv)); simp only [putW]); (apply takeIf (i := 3) rfl (by kernel_rfl) (fun _ _ _ h => h); (focus (apply yRun rfl; intro w; first | (go_simp; done) | (go_simp; rfl))); (focus (exact hS.conv)); simp only [putW]); refine wpAnyH_all (rs := [4]) (by kernel_rfl) (by simp) ?_; intro i hi; simp only [List.mem_cons, List.not_mem_nil, or_false] at hi; subst hi; refine wpOp_of_list rfl ?_; go_wp2_with (go_at_call 49; refine Calls.mono (steps_any) ?_; rintro _ w2 ⟨gl, rfl, h2⟩; replace hS := hS.frame h2; clear h2; (try simp only [List.cons_append, List.nil_append] at hS); simp only [putW]); refine ⟨rfl, hS.conv, ?_⟩; refine wpAnyH_all (rs := [5]) (by kernel_rfl) (by simp) ?_; intro i hi; simp only [List.mem_cons, List.not_mem_nil, or_false] at hi; subst hi; refine wpOp_of_list rfl ?_; go_wp2_with (go_at_call 48; refine Calls.mono (hcn hS) ?_; clear hS; rintro _ w ⟨rfl, hS⟩; simp only [putW]); refine ⟨rfl, hS.conv, ?_⟩; refine wpAnyH_done (by kernel_rfl) ?_ _; skip)
  clear hcn
  go_wp2_with (first | (guard_target =~ Calls _ 50 _ _ _; refine Stopped.out ?_) | (refine load1 hS rfl rfl rfl rfl ?_; simp only [putW]))
  refine ⟨?_⟩
  refine Calls.mono (fnum_parse (off := 1) (tb := 29) (HK.out) (by simp) hS) ?_
  clear hS
  rintro _ w (⟨p, W2, hp, rfl, hS⟩ | ⟨hp, rfl, hS⟩)
  · simp only [putW]
    replace hS : Sat w0 ((fb, frm W2) :: (sb, cells (stC ⟨1, p, 0, 0, 0, [], 0, [], []⟩ nilV nilV nilV) 29) :: K) w := hS
    go_wp2_with (guard_target =~ Calls _ 54 _ _ _; refine Stopped.out ?_)
    refine ⟨?_⟩
    refine Calls.mono (ask_parse (s := ⟨1, p, 0, 0, 0, [], 0, [], []⟩) (HK.out) rfl hS) ?_
    clear hS
    rintro _ w (⟨s', W4, vo, hd, rfl, hS⟩ | ⟨hd, rfl, hS⟩)
    · simp only [putW]
      have hf : s'.da = [] ∧ s'.fa = [] := askP_keeps hd
      go_wp2_with (refine load1 hS rfl rfl rfl rfl ?_; simp only [putW])
      go_end0
      refine .inl ⟨s', W4, vo, nilV, nilV, HA.out _ (by simp [stepK, hp, st0]; exact hd), rfl, ?_⟩
      unfold stL
      rw [hf.1, hf.2]
      exact Sat.conv (S' := (fb, frm W4) :: (sb, cells (stC s' vo nilV nilV) 29) :: (blk vo, sl 1 by8 s'.od 5 vo) :: (0, sl 1 by8 [] 5 nilV) :: (0, sl 1 i64 [] 3 nilV) :: K) ((hS.slNil 1 by8 5).slNil 1 i64 3)
    · exact ⟨rfl, .inr ⟨HA.out _ (by simp [stepK, hp, st0]; exact hd), rfl, hS⟩⟩
  · exact ⟨rfl, .inr ⟨HA.out _ (by simp [stepK, hp]), rfl, hS⟩⟩
set_option maxRecDepth 100000 in
set_option maxHeartbeats 4000000 in
theorem step_parse2 {W1 : List Bs} (hK : KV w0) (hch : takeW (choiceW stepsL) W = some (2, W1)) (hS : Sat w0 ((fb, frm W) :: (sb, cells (stC st0 nilV nilV nilV) 29) :: K) w) :
    Calls Tryz.prog 24 #[.pointer (some ⟨fb, 0, none⟩), .pointer (some ⟨sb, 0, none⟩)] w (StepPost w0 K fb sb W) := by
  have HK : Bx _ := ⟨hK⟩
  clear hK
  have hcn : ∀ {gl : Nat} {w : World}, Sat w0 ((gl, slc 1 strF stepsL 13 9) :: (fb, frm W) :: (sb, cells (stC st0 nilV nilV nilV) 29) :: K) w → Calls Tryz.prog 48 #[.pointer (some ⟨fb, 0, none⟩), .pointer (some ⟨sb, 0, none⟩), .slice (some ⟨gl, 0, none⟩) 13 13] w fun e w' => e = .returned (.tuple #[]) ∧ Sat w0 ((fb, frm W1) :: (sb, cells (stC ⟨2, 0, 0, 0, 0, [], 0, [], []⟩ nilV nilV nilV) 29) :: K) w' := fun h => choice_ok (off := 0) hch rfl (by decide) (by decide) (by simp) h
  have HA : Bx (∀ r, stepK 2 W1 = r → stepP W = r) := ⟨fun r h => by unfold stepP; rw [hch]; exact h⟩
  clear hch
  go_enter Tryz.func24, Tryz.ntmps24
  go_upto_region 0 with (refine load1 hS rfl rfl rfl rfl ?_; simp only [putW])
  (refine wp_region_held (S := fun w' => Sat w0 (K) w') (by kernel_rfl) ?_; replace hS := hS.drew; (refine takeIf (i := 0) rfl (by kernel_rfl) (fun _ _ _ h => h) (yMove rfl rfl rfl) hS.conv ?_; simp only [evW, putW]); (refine takeIf (i := 1) rfl (by kernel_rfl) (fun _ _ _ h => h) (yMove rfl rfl rfl) hS.conv ?_; simp only [evW, putW]); (apply takeIf (i := 2) rfl (by kernel_rfl) (fun _ _ _ h => h); (focus (apply yRun rfl; intro w; first | (go_simp; done) | (go_simp; rfl))); (focus (exact hS.conv)); simp only [putW]); (apply takeIf (i := 3) rfl (by kernel_rfl) (fun _ _ _ h => h); (focus (apply yRun rfl; intro w; first | (go_simp; done) | (go_simp; rfl))); (focus (exact hS.conv)); simp only [putW]); refine wpAnyH_all (rs := [4]) (by kernel_rfl) (by simp) ?_; intro i hi; simp only [List.mem_cons, List.not_mem_nil, or_false] at hi; subst hi; refine wpOp_of_list rfl ?_; go_wp2_with (go_at_call 49; refine Calls.mono (steps_any) ?_; rintro _ w2 ⟨gl, rfl, h2⟩; replace hS := hS.frame h2; clear h2; (try simp only [List.cons_append, List.nil_append] at hS); simp only [putW]); refine ⟨rfl, hS.conv, ?_⟩; refine wpAnyH_all (rs := [5]) (by kernel_rfl) (by simp) ?_; intro i hi; simp only [List.mem_cons, List.not_mem_nil, or_false] at hi; subst hi; refine wpOp_of_list rfl ?_; go_wp2_with (go_at_call 48; refine Calls.mono (hcn hS) ?_; clear hS; rintro _ w ⟨rfl, hS⟩; simp only [putW]); refine ⟨rfl, hS.conv, ?_⟩; refine wpAnyH_done (by kernel_rfl) ?_ _; skip)
  clear hcn
  go_wp2_with (first | (guard_target =~ Calls _ 50 _ _ _; refine Stopped.out ?_) | (refine load1 hS rfl rfl rfl rfl ?_; simp only [putW]))
  refine ⟨?_⟩
  refine Calls.mono (fnum_parse (off := 1) (tb := 29) (HK.out) (by simp) hS) ?_
  clear hS
  rintro _ w (⟨p, W2, hp, rfl, hS⟩ | ⟨hp, rfl, hS⟩)
  · simp only [putW]
    replace hS : Sat w0 ((fb, frm W2) :: (sb, cells (stC ⟨2, p, 0, 0, 0, [], 0, [], []⟩ nilV nilV nilV) 29) :: K) w := hS
    go_wp2_with (refine load1 hS rfl rfl rfl rfl ?_; simp only [putW])
    go_end0
    exact .inl ⟨⟨2, p, 0, 0, 0, [], 0, [], []⟩, W2, nilV, nilV, nilV, HA.out _ (by simp [stepK, hp, st0]), rfl, Sat.conv (S' := (fb, frm W2) :: (sb, cells (stC ⟨2, p, 0, 0, 0, [], 0, [], []⟩ nilV nilV nilV) 29) :: (0, sl 1 by8 [] 5 nilV) :: (0, sl 1 by8 [] 5 nilV) :: (0, sl 1 i64 [] 3 nilV) :: K) (((hS.slNil 1 by8 5).slNil 1 by8 5).slNil 1 i64 3)⟩
  · exact ⟨rfl, .inr ⟨HA.out _ (by simp [stepK, hp]), rfl, hS⟩⟩
set_option maxRecDepth 100000 in
set_option maxHeartbeats 4000000 in
theorem step_parse3 {W1 : List Bs} (hK : KV w0) (hch : takeW (choiceW stepsL) W = some (3, W1)) (hS : Sat w0 ((fb, frm W) :: (sb, cells (stC st0 nilV nilV nilV) 29) :: K) w) :
    Calls Tryz.prog 24 #[.pointer (some ⟨fb, 0, none⟩), .pointer (some ⟨sb, 0, none⟩)] w (StepPost w0 K fb sb W) := by
  have HK : Bx _ := ⟨hK⟩
  clear hK
  have hcn : ∀ {gl : Nat} {w : World}, Sat w0 ((gl, slc 1 strF stepsL 13 9) :: (fb, frm W) :: (sb, cells (stC st0 nilV nilV nilV) 29) :: K) w → Calls Tryz.prog 48 #[.pointer (some ⟨fb, 0, none⟩), .pointer (some ⟨sb, 0, none⟩), .slice (some ⟨gl, 0, none⟩) 13 13] w fun e w' => e = .returned (.tuple #[]) ∧ Sat w0 ((fb, frm W1) :: (sb, cells (stC ⟨3, 0, 0, 0, 0, [], 0, [], []⟩ nilV nilV nilV) 29) :: K) w' := fun h => choice_ok (off := 0) hch rfl (by decide) (by decide) (by simp) h
  have HA : Bx (∀ r, stepK 3 W1 = r → stepP W = r) := ⟨fun r h => by unfold stepP; rw [hch]; exact h⟩
  clear hch
  go_enter Tryz.func24, Tryz.ntmps24
  go_upto_region 0 with (refine load1 hS rfl rfl rfl rfl ?_; simp only [putW])
  (refine wp_region_held (S := fun w' => Sat w0 (K) w') (by kernel_rfl) ?_; replace hS := hS.drew; (refine takeIf (i := 0) rfl (by kernel_rfl) (fun _ _ _ h => h) (yMove rfl rfl rfl) hS.conv ?_; simp only [evW, putW]); (refine takeIf (i := 1) rfl (by kernel_rfl) (fun _ _ _ h => h) (yMove rfl rfl rfl) hS.conv ?_; simp only [evW, putW]); (apply takeIf (i := 2) rfl (by kernel_rfl) (fun _ _ _ h => h); (focus (apply yRun rfl; intro w; first | (go_simp; done) | (go_simp; rfl))); (focus (exact hS.conv)); simp only [putW]); (apply takeIf (i := 3) rfl (by kernel_rfl) (fun _ _ _ h => h); (focus (apply yRun rfl; intro w; first | (go_simp; done) | (go_simp; rfl))); (focus (exact hS.conv)); simp only [putW]); refine wpAnyH_all (rs := [4]) (by kernel_rfl) (by simp) ?_; intro i hi; simp only [List.mem_cons, List.not_mem_nil, or_false] at hi; subst hi; refine wpOp_of_list rfl ?_; go_wp2_with (go_at_call 49; refine Calls.mono (steps_any) ?_; rintro _ w2 ⟨gl, rfl, h2⟩; replace hS := hS.frame h2; clear h2; (try simp only [List.cons_append, List.nil_append] at hS); simp only [putW]); refine ⟨rfl, hS.conv, ?_⟩; refine wpAnyH_all (rs := [5]) (by kernel_rfl) (by simp) ?_; intro i hi; simp only [List.mem_cons, List.not_mem_nil, or_false] at hi; subst hi; refine wpOp_of_list rfl ?_; go_wp2_with (go_at_call 48; refine Calls.mono (hcn hS) ?_; clear hS; rintro _ w ⟨rfl, hS⟩; simp only [putW]); refine ⟨rfl, hS.conv, ?_⟩; refine wpAnyH_done (by kernel_rfl) ?_ _; skip)
  clear hcn
  go_wp2_with (first | (guard_target =~ Calls _ 50 _ _ _; refine Stopped.out ?_) | (refine load1 hS rfl rfl rfl rfl ?_; simp only [putW]))
  refine ⟨?_⟩
  refine Calls.mono (fnum_parse (off := 1) (tb := 29) (HK.out) (by simp) hS) ?_
  clear hS
  rintro _ w (⟨p, W2, hp, rfl, hS⟩ | ⟨hp, rfl, hS⟩)
  · simp only [putW]
    replace hS : Sat w0 ((fb, frm W2) :: (sb, cells (stC ⟨3, p, 0, 0, 0, [], 0, [], []⟩ nilV nilV nilV) 29) :: K) w := hS
    go_wp2_with (refine load1 hS rfl rfl rfl rfl ?_; simp only [putW])
    go_end0
    exact .inl ⟨⟨3, p, 0, 0, 0, [], 0, [], []⟩, W2, nilV, nilV, nilV, HA.out _ (by simp [stepK, hp, st0]), rfl, Sat.conv (S' := (fb, frm W2) :: (sb, cells (stC ⟨3, p, 0, 0, 0, [], 0, [], []⟩ nilV nilV nilV) 29) :: (0, sl 1 by8 [] 5 nilV) :: (0, sl 1 by8 [] 5 nilV) :: (0, sl 1 i64 [] 3 nilV) :: K) (((hS.slNil 1 by8 5).slNil 1 by8 5).slNil 1 i64 3)⟩
  · exact ⟨rfl, .inr ⟨HA.out _ (by simp [stepK, hp]), rfl, hS⟩⟩
set_option maxRecDepth 100000 in
set_option maxHeartbeats 4000000 in
theorem step_parse4 {W1 : List Bs} (hK : KV w0) (hch : takeW (choiceW stepsL) W = some (4, W1)) (hS : Sat w0 ((fb, frm W) :: (sb, cells (stC st0 nilV nilV nilV) 29) :: K) w) :
    Calls Tryz.prog 24 #[.pointer (some ⟨fb, 0, none⟩), .pointer (some ⟨sb, 0, none⟩)] w (StepPost w0 K fb sb W) := by
  have HK : Bx _ := ⟨hK⟩
  clear hK
  have hcn : ∀ {gl : Nat} {w : World}, Sat w0 ((gl, slc 1 strF stepsL 13 9) :: (fb, frm W) :: (sb, cells (stC st0 nilV nilV nilV) 29) :: K) w → Calls Tryz.prog 48 #[.pointer (some ⟨fb, 0, none⟩), .pointer (some ⟨sb, 0, none⟩), .slice (some ⟨gl, 0, none⟩) 13 13] w fun e w' => e = .returned (.tuple #[]) ∧ Sat w0 ((fb, frm W1) :: (sb, cells (stC ⟨4, 0, 0, 0, 0, [], 0, [], []⟩ nilV nilV nilV) 29) :: K) w' := fun h => choice_ok (off := 0) hch rfl (by decide) (by decide) (by simp) h
  have HA : Bx (∀ r, stepK 4 W1 = r → stepP W = r) := ⟨fun r h => by unfold stepP; rw [hch]; exact h⟩
  clear hch
  go_enter Tryz.func24, Tryz.ntmps24
  go_upto_region 0 with (refine load1 hS rfl rfl rfl rfl ?_; simp only [putW])
  (refine wp_region_held (S := fun w' => Sat w0 (K) w') (by kernel_rfl) ?_; replace hS := hS.drew; (refine takeIf (i := 0) rfl (by kernel_rfl) (fun _ _ _ h => h) (yMove rfl rfl rfl) hS.conv ?_; simp only [evW, putW]); (refine takeIf (i := 1) rfl (by kernel_rfl) (fun _ _ _ h => h) (yMove rfl rfl rfl) hS.conv ?_; simp only [evW, putW]); (apply takeIf (i := 2) rfl (by kernel_rfl) (fun _ _ _ h => h); (focus (apply yRun rfl; intro w; first | (go_simp; done) | (go_simp; rfl))); (focus (exact hS.conv)); simp only [putW]); (apply takeIf (i := 3) rfl (by kernel_rfl) (fun _ _ _ h => h); (focus (apply yRun rfl; intro w; first | (go_simp; done) | (go_simp; rfl))); (focus (exact hS.conv)); simp only [putW]); refine wpAnyH_all (rs := [4]) (by kernel_rfl) (by simp) ?_; intro i hi; simp only [List.mem_cons, List.not_mem_nil, or_false] at hi; subst hi; refine wpOp_of_list rfl ?_; go_wp2_with (go_at_call 49; refine Calls.mono (steps_any) ?_; rintro _ w2 ⟨gl, rfl, h2⟩; replace hS := hS.frame h2; clear h2; (try simp only [List.cons_append, List.nil_append] at hS); simp only [putW]); refine ⟨rfl, hS.conv, ?_⟩; refine wpAnyH_all (rs := [5]) (by kernel_rfl) (by simp) ?_; intro i hi; simp only [List.mem_cons, List.not_mem_nil, or_false] at hi; subst hi; refine wpOp_of_list rfl ?_; go_wp2_with (go_at_call 48; refine Calls.mono (hcn hS) ?_; clear hS; rintro _ w ⟨rfl, hS⟩; simp only [putW]); refine ⟨rfl, hS.conv, ?_⟩; refine wpAnyH_done (by kernel_rfl) ?_ _; skip)
  clear hcn
  go_wp2_with (refine load1 hS rfl rfl rfl rfl ?_; simp only [putW])
  go_end0
  exact .inl ⟨⟨4, 0, 0, 0, 0, [], 0, [], []⟩, W1, nilV, nilV, nilV, HA.out _ (by simp [stepK, st0]), rfl, Sat.conv (S' := (fb, frm W1) :: (sb, cells (stC ⟨4, 0, 0, 0, 0, [], 0, [], []⟩ nilV nilV nilV) 29) :: (0, sl 1 by8 [] 5 nilV) :: (0, sl 1 by8 [] 5 nilV) :: (0, sl 1 i64 [] 3 nilV) :: K) (((hS.slNil 1 by8 5).slNil 1 by8 5).slNil 1 i64 3)⟩
set_option maxRecDepth 100000 in
set_option maxHeartbeats 4000000 in
theorem step_parse5 {W1 : List Bs} (hK : KV w0) (hch : takeW (choiceW stepsL) W = some (5, W1)) (hS : Sat w0 ((fb, frm W) :: (sb, cells (stC st0 nilV nilV nilV) 29) :: K) w) :
    Calls Tryz.prog 24 #[.pointer (some ⟨fb, 0, none⟩), .pointer (some ⟨sb, 0, none⟩)] w (StepPost w0 K fb sb W) := by
  have HK : Bx _ := ⟨hK⟩
  clear hK
  have hcn : ∀ {gl : Nat} {w : World}, Sat w0 ((gl, slc 1 strF stepsL 13 9) :: (fb, frm W) :: (sb, cells (stC st0 nilV nilV nilV) 29) :: K) w → Calls Tryz.prog 48 #[.pointer (some ⟨fb, 0, none⟩), .pointer (some ⟨sb, 0, none⟩), .slice (some ⟨gl, 0, none⟩) 13 13] w fun e w' => e = .returned (.tuple #[]) ∧ Sat w0 ((fb, frm W1) :: (sb, cells (stC ⟨5, 0, 0, 0, 0, [], 0, [], []⟩ nilV nilV nilV) 29) :: K) w' := fun h => choice_ok (off := 0) hch rfl (by decide) (by decide) (by simp) h
  have HA : Bx (∀ r, stepK 5 W1 = r → stepP W = r) := ⟨fun r h => by unfold stepP; rw [hch]; exact h⟩
  clear hch
  go_enter Tryz.func24, Tryz.ntmps24
  go_upto_region 0 with (refine load1 hS rfl rfl rfl rfl ?_; simp only [putW])
  (refine wp_region_held (S := fun w' => Sat w0 (K) w') (by kernel_rfl) ?_; replace hS := hS.drew; (refine takeIf (i := 0) rfl (by kernel_rfl) (fun _ _ _ h => h) (yMove rfl rfl rfl) hS.conv ?_; simp only [evW, putW]); (refine takeIf (i := 1) rfl (by kernel_rfl) (fun _ _ _ h => h) (yMove rfl rfl rfl) hS.conv ?_; simp only [evW, putW]); (apply takeIf (i := 2) rfl (by kernel_rfl) (fun _ _ _ h => h); (focus (apply yRun rfl; intro w; first | (go_simp; done) | (go_simp; rfl))); (focus (exact hS.conv)); simp only [putW]); (apply takeIf (i := 3) rfl (by kernel_rfl) (fun _ _ _ h => h); (focus (apply yRun rfl; intro w; first | (go_simp; done) | (go_simp; rfl))); (focus (exact hS.conv)); simp only [putW]); refine wpAnyH_all (rs := [4]) (by kernel_rfl) (by simp) ?_; intro i hi; simp only [List.mem_cons, List.not_mem_nil, or_false] at hi; subst hi; refine wpOp_of_list rfl ?_; go_wp2_with (go_at_call 49; refine Calls.mono (steps_any) ?_; rintro _ w2 ⟨gl, rfl, h2⟩; replace hS := hS.frame h2; clear h2; (try simp only [List.cons_append, List.nil_append] at hS); simp only [putW]); refine ⟨rfl, hS.conv, ?_⟩; refine wpAnyH_all (rs := [5]) (by kernel_rfl) (by simp) ?_; intro i hi; simp only [List.mem_cons, List.not_mem_nil, or_false] at hi; subst hi; refine wpOp_of_list rfl ?_; go_wp2_with (go_at_call 48; refine Calls.mono (hcn hS) ?_; clear hS; rintro _ w ⟨rfl, hS⟩; simp only [putW]); refine ⟨rfl, hS.conv, ?_⟩; refine wpAnyH_done (by kernel_rfl) ?_ _; skip)
  clear hcn
  go_wp2_with (refine load1 hS rfl rfl rfl rfl ?_; simp only [putW])
  go_end0
  exact .inl ⟨⟨5, 0, 0, 0, 0, [], 0, [], []⟩, W1, nilV, nilV, nilV, HA.out _ (by simp [stepK, st0]), rfl, Sat.conv (S' := (fb, frm W1) :: (sb, cells (stC ⟨5, 0, 0, 0, 0, [], 0, [], []⟩ nilV nilV nilV) 29) :: (0, sl 1 by8 [] 5 nilV) :: (0, sl 1 by8 [] 5 nilV) :: (0, sl 1 i64 [] 3 nilV) :: K) (((hS.slNil 1 by8 5).slNil 1 by8 5).slNil 1 i64 3)⟩
set_option maxRecDepth 100000 in
set_option maxHeartbeats 4000000 in
theorem step_parse6 {W1 : List Bs} (hK : KV w0) (hch : takeW (choiceW stepsL) W = some (6, W1)) (hS : Sat w0 ((fb, frm W) :: (sb, cells (stC st0 nilV nilV nilV) 29) :: K) w) :
    Calls Tryz.prog 24 #[.pointer (some ⟨fb, 0, none⟩), .pointer (some ⟨sb, 0, none⟩)] w (StepPost w0 K fb sb W) := by
  have HK : Bx _ := ⟨hK⟩
  clear hK
  have hcn : ∀ {gl : Nat} {w : World}, Sat w0 ((gl, slc 1 strF stepsL 13 9) :: (fb, frm W) :: (sb, cells (stC st0 nilV nilV nilV) 29) :: K) w → Calls Tryz.prog 48 #[.pointer (some ⟨fb, 0, none⟩), .pointer (some ⟨sb, 0, none⟩), .slice (some ⟨gl, 0, none⟩) 13 13] w fun e w' => e = .returned (.tuple #[]) ∧ Sat w0 ((fb, frm W1) :: (sb, cells (stC ⟨6, 0, 0, 0, 0, [], 0, [], []⟩ nilV nilV nilV) 29) :: K) w' := fun h => choice_ok (off := 0) hch rfl (by decide) (by decide) (by simp) h
  have HA : Bx (∀ r, stepK 6 W1 = r → stepP W = r) := ⟨fun r h => by unfold stepP; rw [hch]; exact h⟩
  clear hch
  go_enter Tryz.func24, Tryz.ntmps24
  go_upto_region 0 with (refine load1 hS rfl rfl rfl rfl ?_; simp only [putW])
  (refine wp_region_held (S := fun w' => Sat w0 (K) w') (by kernel_rfl) ?_; replace hS := hS.drew; (refine takeIf (i := 0) rfl (by kernel_rfl) (fun _ _ _ h => h) (yMove rfl rfl rfl) hS.conv ?_; simp only [evW, putW]); (refine takeIf (i := 1) rfl (by kernel_rfl) (fun _ _ _ h => h) (yMove rfl rfl rfl) hS.conv ?_; simp only [evW, putW]); (apply takeIf (i := 2) rfl (by kernel_rfl) (fun _ _ _ h => h); (focus (apply yRun rfl; intro w; first | (go_simp; done) | (go_simp; rfl))); (focus (exact hS.conv)); simp only [putW]); (apply takeIf (i := 3) rfl (by kernel_rfl) (fun _ _ _ h => h); (focus (apply yRun rfl; intro w; first | (go_simp; done) | (go_simp; rfl))); (focus (exact hS.conv)); simp only [putW]); refine wpAnyH_all (rs := [4]) (by kernel_rfl) (by simp) ?_; intro i hi; simp only [List.mem_cons, List.not_mem_nil, or_false] at hi; subst hi; refine wpOp_of_list rfl ?_; go_wp2_with (go_at_call 49; refine Calls.mono (steps_any) ?_; rintro _ w2 ⟨gl, rfl, h2⟩; replace hS := hS.frame h2; clear h2; (try simp only [List.cons_append, List.nil_append] at hS); simp only [putW]); refine ⟨rfl, hS.conv, ?_⟩; refine wpAnyH_all (rs := [5]) (by kernel_rfl) (by simp) ?_; intro i hi; simp only [List.mem_cons, List.not_mem_nil, or_false] at hi; subst hi; refine wpOp_of_list rfl ?_; go_wp2_with (go_at_call 48; refine Calls.mono (hcn hS) ?_; clear hS; rintro _ w ⟨rfl, hS⟩; simp only [putW]); refine ⟨rfl, hS.conv, ?_⟩; refine wpAnyH_done (by kernel_rfl) ?_ _; skip)
  clear hcn
  go_wp2_with (first | (guard_target =~ Calls _ 50 _ _ _; refine Stopped.out ?_) | (refine load1 hS rfl rfl rfl rfl ?_; simp only [putW]))
  refine ⟨?_⟩
  refine Calls.mono (fnum_parse (off := 1) (tb := 29) (HK.out) (by simp) hS) ?_
  clear hS
  rintro _ w (⟨p, W2, hp, rfl, hS⟩ | ⟨hp, rfl, hS⟩)
  · simp only [putW]
    replace hS : Sat w0 ((fb, frm W2) :: (sb, cells (stC ⟨6, p, 0, 0, 0, [], 0, [], []⟩ nilV nilV nilV) 29) :: K) w := hS
    go_wp2_with (refine load1 hS rfl rfl rfl rfl ?_; simp only [putW])
    go_end0
    exact .inl ⟨⟨6, p, 0, 0, 0, [], 0, [], []⟩, W2, nilV, nilV, nilV, HA.out _ (by simp [stepK, hp, st0]), rfl, Sat.conv (S' := (fb, frm W2) :: (sb, cells (stC ⟨6, p, 0, 0, 0, [], 0, [], []⟩ nilV nilV nilV) 29) :: (0, sl 1 by8 [] 5 nilV) :: (0, sl 1 by8 [] 5 nilV) :: (0, sl 1 i64 [] 3 nilV) :: K) (((hS.slNil 1 by8 5).slNil 1 by8 5).slNil 1 i64 3)⟩
  · exact ⟨rfl, .inr ⟨HA.out _ (by simp [stepK, hp]), rfl, hS⟩⟩
set_option maxRecDepth 100000 in
set_option maxHeartbeats 4000000 in
theorem step_parse7 {W1 : List Bs} (hK : KV w0) (hch : takeW (choiceW stepsL) W = some (7, W1)) (hS : Sat w0 ((fb, frm W) :: (sb, cells (stC st0 nilV nilV nilV) 29) :: K) w) :
    Calls Tryz.prog 24 #[.pointer (some ⟨fb, 0, none⟩), .pointer (some ⟨sb, 0, none⟩)] w (StepPost w0 K fb sb W) := by
  have HK : Bx _ := ⟨hK⟩
  clear hK
  have hcn : ∀ {gl : Nat} {w : World}, Sat w0 ((gl, slc 1 strF stepsL 13 9) :: (fb, frm W) :: (sb, cells (stC st0 nilV nilV nilV) 29) :: K) w → Calls Tryz.prog 48 #[.pointer (some ⟨fb, 0, none⟩), .pointer (some ⟨sb, 0, none⟩), .slice (some ⟨gl, 0, none⟩) 13 13] w fun e w' => e = .returned (.tuple #[]) ∧ Sat w0 ((fb, frm W1) :: (sb, cells (stC ⟨7, 0, 0, 0, 0, [], 0, [], []⟩ nilV nilV nilV) 29) :: K) w' := fun h => choice_ok (off := 0) hch rfl (by decide) (by decide) (by simp) h
  have HA : Bx (∀ r, stepK 7 W1 = r → stepP W = r) := ⟨fun r h => by unfold stepP; rw [hch]; exact h⟩
  clear hch
  go_enter Tryz.func24, Tryz.ntmps24
  go_upto_region 0 with (refine load1 hS rfl rfl rfl rfl ?_; simp only [putW])
  (refine wp_region_held (S := fun w' => Sat w0 (K) w') (by kernel_rfl) ?_; replace hS := hS.drew; (refine takeIf (i := 0) rfl (by kernel_rfl) (fun _ _ _ h => h) (yMove rfl rfl rfl) hS.conv ?_; simp only [evW, putW]); (refine takeIf (i := 1) rfl (by kernel_rfl) (fun _ _ _ h => h) (yMove rfl rfl rfl) hS.conv ?_; simp only [evW, putW]); (apply takeIf (i := 2) rfl (by kernel_rfl) (fun _ _ _ h => h); (focus (apply yRun rfl; intro w; first | (go_simp; done) | (go_simp; rfl))); (focus (exact hS.conv)); simp only [putW]); (apply takeIf (i := 3) rfl (by kernel_rfl) (fun _ _ _ h => h); (focus (apply yRun rfl; intro w; first | (go_simp; done) | (go_simp; rfl))); (focus (exact hS.conv)); simp only [putW]); refine wpAnyH_all (rs := [4]) (by kernel_rfl) (by simp) ?_; intro i hi; simp only [List.mem_cons, List.not_mem_nil, or_false] at hi; subst hi; refine wpOp_of_list rfl ?_; go_wp2_with (go_at_call 49; refine Calls.mono (steps_any) ?_; rintro _ w2 ⟨gl, rfl, h2⟩; replace hS := hS.frame h2; clear h2; (try simp only [List.cons_append, List.nil_append] at hS); simp only [putW]); refine ⟨rfl, hS.conv, ?_⟩; refine wpAnyH_all (rs := [5]) (by kernel_rfl) (by simp) ?_; intro i hi; simp only [List.mem_cons, List.not_mem_nil, or_false] at hi; subst hi; refine wpOp_of_list rfl ?_; go_wp2_with (go_at_call 48; refine Calls.mono (hcn hS) ?_; clear hS; rintro _ w ⟨rfl, hS⟩; simp only [putW]); refine ⟨rfl, hS.conv, ?_⟩; refine wpAnyH_done (by kernel_rfl) ?_ _; skip)
  clear hcn
  go_wp2_with (first | (guard_target =~ Calls _ 50 _ _ _; refine Stopped.out ?_) | (refine load1 hS rfl rfl rfl rfl ?_; simp only [putW]))
  refine ⟨?_⟩
  refine Calls.mono (fnum_parse (off := 1) (tb := 29) (HK.out) (by simp) hS) ?_
  clear hS
  rintro _ w (⟨p, W2, hp, rfl, hS⟩ | ⟨hp, rfl, hS⟩)
  · simp only [putW]
    replace hS : Sat w0 ((fb, frm W2) :: (sb, cells (stC ⟨7, p, 0, 0, 0, [], 0, [], []⟩ nilV nilV nilV) 29) :: K) w := hS
    go_wp2_with (guard_target =~ Calls _ 52 _ _ _; refine Stopped.out ?_)
    refine ⟨?_⟩
    refine Calls.mono (ffates_parse (off := 8) (tb := 29) (HK.out) (by simp) rfl hS) ?_
    clear hS
    rintro _ w (⟨A, v, W4, hd, rfl, hS⟩ | ⟨hd, rfl, hS⟩)
    · simp only [putW]
      replace hS : Sat w0 ((fb, frm W4) :: (sb, cells (stC ⟨7, p, 0, 0, 0, [], 0, [], A⟩ nilV nilV v) 29) :: (blk v, sl 1 i64 A 3 v) :: K) w := hS
      go_wp2_with (refine load1 hS rfl rfl rfl rfl ?_; simp only [putW])
      go_end0
      exact .inl ⟨⟨7, p, 0, 0, 0, [], 0, [], A⟩, W4, nilV, nilV, v, HA.out _ (by simp [stepK, hp, hd, st0]), rfl, Sat.conv (S' := (fb, frm W4) :: (sb, cells (stC ⟨7, p, 0, 0, 0, [], 0, [], A⟩ nilV nilV v) 29) :: (0, sl 1 by8 [] 5 nilV) :: (0, sl 1 by8 [] 5 nilV) :: (blk v, sl 1 i64 A 3 v) :: K) (((hS.slNil 1 by8 5).slNil 1 by8 5).slNil 1 i64 3)⟩
    · exact ⟨rfl, .inr ⟨HA.out _ (by simp [stepK, hp, hd]), rfl, hS⟩⟩
  · exact ⟨rfl, .inr ⟨HA.out _ (by simp [stepK, hp]), rfl, hS⟩⟩
set_option maxRecDepth 100000 in
set_option maxHeartbeats 4000000 in
theorem step_parse8 {W1 : List Bs} (hK : KV w0) (hch : takeW (choiceW stepsL) W = some (8, W1)) (hS : Sat w0 ((fb, frm W) :: (sb, cells (stC st0 nilV nilV nilV) 29) :: K) w) :
    Calls Tryz.prog 24 #[.pointer (some ⟨fb, 0, none⟩), .pointer (some ⟨sb, 0, none⟩)] w (StepPost w0 K fb sb W) := by
  have HK : Bx _ := ⟨hK⟩
  clear hK
  have hcn : ∀ {gl : Nat} {w : World}, Sat w0 ((gl, slc 1 strF stepsL 13 9) :: (fb, frm W) :: (sb, cells (stC st0 nilV nilV nilV) 29) :: K) w → Calls Tryz.prog 48 #[.pointer (some ⟨fb, 0, none⟩), .pointer (some ⟨sb, 0, none⟩), .slice (some ⟨gl, 0, none⟩) 13 13] w fun e w' => e = .returned (.tuple #[]) ∧ Sat w0 ((fb, frm W1) :: (sb, cells (stC ⟨8, 0, 0, 0, 0, [], 0, [], []⟩ nilV nilV nilV) 29) :: K) w' := fun h => choice_ok (off := 0) hch rfl (by decide) (by decide) (by simp) h
  have HA : Bx (∀ r, stepK 8 W1 = r → stepP W = r) := ⟨fun r h => by unfold stepP; rw [hch]; exact h⟩
  clear hch
  go_enter Tryz.func24, Tryz.ntmps24
  go_upto_region 0 with (refine load1 hS rfl rfl rfl rfl ?_; simp only [putW])
  (refine wp_region_held (S := fun w' => Sat w0 (K) w') (by kernel_rfl) ?_; replace hS := hS.drew; (refine takeIf (i := 0) rfl (by kernel_rfl) (fun _ _ _ h => h) (yMove rfl rfl rfl) hS.conv ?_; simp only [evW, putW]); (refine takeIf (i := 1) rfl (by kernel_rfl) (fun _ _ _ h => h) (yMove rfl rfl rfl) hS.conv ?_; simp only [evW, putW]); (apply takeIf (i := 2) rfl (by kernel_rfl) (fun _ _ _ h => h); (focus (apply yRun rfl; intro w; first | (go_simp; done) | (go_simp; rfl))); (focus (exact hS.conv)); simp only [putW]); (apply takeIf (i := 3) rfl (by kernel_rfl) (fun _ _ _ h => h); (focus (apply yRun rfl; intro w; first | (go_simp; done) | (go_simp; rfl))); (focus (exact hS.conv)); simp only [putW]); refine wpAnyH_all (rs := [4]) (by kernel_rfl) (by simp) ?_; intro i hi; simp only [List.mem_cons, List.not_mem_nil, or_false] at hi; subst hi; refine wpOp_of_list rfl ?_; go_wp2_with (go_at_call 49; refine Calls.mono (steps_any) ?_; rintro _ w2 ⟨gl, rfl, h2⟩; replace hS := hS.frame h2; clear h2; (try simp only [List.cons_append, List.nil_append] at hS); simp only [putW]); refine ⟨rfl, hS.conv, ?_⟩; refine wpAnyH_all (rs := [5]) (by kernel_rfl) (by simp) ?_; intro i hi; simp only [List.mem_cons, List.not_mem_nil, or_false] at hi; subst hi; refine wpOp_of_list rfl ?_; go_wp2_with (go_at_call 48; refine Calls.mono (hcn hS) ?_; clear hS; rintro _ w ⟨rfl, hS⟩; simp only [putW]); refine ⟨rfl, hS.conv, ?_⟩; refine wpAnyH_done (by kernel_rfl) ?_ _; skip)
  clear hcn
  go_wp2_with (first | (guard_target =~ Calls _ 50 _ _ _; refine Stopped.out ?_) | (refine load1 hS rfl rfl rfl rfl ?_; simp only [putW]))
  refine ⟨?_⟩
  refine Calls.mono (fnum_parse (off := 1) (tb := 29) (HK.out) (by simp) hS) ?_
  clear hS
  rintro _ w (⟨p, W2, hp, rfl, hS⟩ | ⟨hp, rfl, hS⟩)
  · simp only [putW]
    replace hS : Sat w0 ((fb, frm W2) :: (sb, cells (stC ⟨8, p, 0, 0, 0, [], 0, [], []⟩ nilV nilV nilV) 29) :: K) w := hS
    go_wp2_with (guard_target =~ Calls _ 50 _ _ _; refine Stopped.out ?_)
    refine ⟨?_⟩
    refine Calls.mono (fnum_parse (off := 2) (tb := 29) (HK.out) (by simp) hS) ?_
    clear hS
    rintro _ w (⟨q, W3, hq, rfl, hS⟩ | ⟨hq, rfl, hS⟩)
    · simp only [putW]
      replace hS : Sat w0 ((fb, frm W3) :: (sb, cells (stC ⟨8, p, q, 0, 0, [], 0, [], []⟩ nilV nilV nilV) 29) :: K) w := hS
      go_wp2_with (guard_target =~ Calls _ 51 _ _ _; refine Stopped.out ?_)
      refine ⟨?_⟩
      refine Calls.mono (fdata_parse (mx := 256) (off := 7) (tb := 29) (by decide) (by simp) rfl hS) ?_
      clear hS
      rintro _ w (⟨A, v, W4, hd, rfl, hS⟩ | ⟨hd, rfl, hS⟩)
      · simp only [putW]
        replace hS : Sat w0 ((fb, frm W4) :: (sb, cells (stC ⟨8, p, q, 0, 0, [], 0, A, []⟩ nilV v nilV) 29) :: (blk v, sl 1 by8 A 5 v) :: K) w := hS
        go_wp2_with (refine load1 hS rfl rfl rfl rfl ?_; simp only [putW])
        go_end0
        exact .inl ⟨⟨8, p, q, 0, 0, [], 0, A, []⟩, W4, nilV, v, nilV, HA.out _ (by simp [stepK, hp, hq, hd, st0]), rfl, Sat.conv (S' := (fb, frm W4) :: (sb, cells (stC ⟨8, p, q, 0, 0, [], 0, A, []⟩ nilV v nilV) 29) :: (0, sl 1 by8 [] 5 nilV) :: (blk v, sl 1 by8 A 5 v) :: (0, sl 1 i64 [] 3 nilV) :: K) (((hS.slNil 1 by8 5).slNil 1 by8 5).slNil 1 i64 3)⟩
      · exact ⟨rfl, .inr ⟨HA.out _ (by simp [stepK, hp, hq, hd]), rfl, hS⟩⟩
    · exact ⟨rfl, .inr ⟨HA.out _ (by simp [stepK, hp, hq]), rfl, hS⟩⟩
  · exact ⟨rfl, .inr ⟨HA.out _ (by simp [stepK, hp]), rfl, hS⟩⟩
set_option maxRecDepth 100000 in
set_option maxHeartbeats 4000000 in
theorem step_parse9 {W1 : List Bs} (hK : KV w0) (hch : takeW (choiceW stepsL) W = some (9, W1)) (hS : Sat w0 ((fb, frm W) :: (sb, cells (stC st0 nilV nilV nilV) 29) :: K) w) :
    Calls Tryz.prog 24 #[.pointer (some ⟨fb, 0, none⟩), .pointer (some ⟨sb, 0, none⟩)] w (StepPost w0 K fb sb W) := by
  have HK : Bx _ := ⟨hK⟩
  clear hK
  have hcn : ∀ {gl : Nat} {w : World}, Sat w0 ((gl, slc 1 strF stepsL 13 9) :: (fb, frm W) :: (sb, cells (stC st0 nilV nilV nilV) 29) :: K) w → Calls Tryz.prog 48 #[.pointer (some ⟨fb, 0, none⟩), .pointer (some ⟨sb, 0, none⟩), .slice (some ⟨gl, 0, none⟩) 13 13] w fun e w' => e = .returned (.tuple #[]) ∧ Sat w0 ((fb, frm W1) :: (sb, cells (stC ⟨9, 0, 0, 0, 0, [], 0, [], []⟩ nilV nilV nilV) 29) :: K) w' := fun h => choice_ok (off := 0) hch rfl (by decide) (by decide) (by simp) h
  have HA : Bx (∀ r, stepK 9 W1 = r → stepP W = r) := ⟨fun r h => by unfold stepP; rw [hch]; exact h⟩
  clear hch
  go_enter Tryz.func24, Tryz.ntmps24
  go_upto_region 0 with (refine load1 hS rfl rfl rfl rfl ?_; simp only [putW])
  (refine wp_region_held (S := fun w' => Sat w0 (K) w') (by kernel_rfl) ?_; replace hS := hS.drew; (refine takeIf (i := 0) rfl (by kernel_rfl) (fun _ _ _ h => h) (yMove rfl rfl rfl) hS.conv ?_; simp only [evW, putW]); (refine takeIf (i := 1) rfl (by kernel_rfl) (fun _ _ _ h => h) (yMove rfl rfl rfl) hS.conv ?_; simp only [evW, putW]); (apply takeIf (i := 2) rfl (by kernel_rfl) (fun _ _ _ h => h); (focus (apply yRun rfl; intro w; first | (go_simp; done) | (go_simp; rfl))); (focus (exact hS.conv)); simp only [putW]); (apply takeIf (i := 3) rfl (by kernel_rfl) (fun _ _ _ h => h); (focus (apply yRun rfl; intro w; first | (go_simp; done) | (go_simp; rfl))); (focus (exact hS.conv)); simp only [putW]); refine wpAnyH_all (rs := [4]) (by kernel_rfl) (by simp) ?_; intro i hi; simp only [List.mem_cons, List.not_mem_nil, or_false] at hi; subst hi; refine wpOp_of_list rfl ?_; go_wp2_with (go_at_call 49; refine Calls.mono (steps_any) ?_; rintro _ w2 ⟨gl, rfl, h2⟩; replace hS := hS.frame h2; clear h2; (try simp only [List.cons_append, List.nil_append] at hS); simp only [putW]); refine ⟨rfl, hS.conv, ?_⟩; refine wpAnyH_all (rs := [5]) (by kernel_rfl) (by simp) ?_; intro i hi; simp only [List.mem_cons, List.not_mem_nil, or_false] at hi; subst hi; refine wpOp_of_list rfl ?_; go_wp2_with (go_at_call 48; refine Calls.mono (hcn hS) ?_; clear hS; rintro _ w ⟨rfl, hS⟩; simp only [putW]); refine ⟨rfl, hS.conv, ?_⟩; refine wpAnyH_done (by kernel_rfl) ?_ _; skip)
  clear hcn
  go_wp2_with (first | (guard_target =~ Calls _ 50 _ _ _; refine Stopped.out ?_) | (refine load1 hS rfl rfl rfl rfl ?_; simp only [putW]))
  refine ⟨?_⟩
  refine Calls.mono (fnum_parse (off := 1) (tb := 29) (HK.out) (by simp) hS) ?_
  clear hS
  rintro _ w (⟨p, W2, hp, rfl, hS⟩ | ⟨hp, rfl, hS⟩)
  · simp only [putW]
    replace hS : Sat w0 ((fb, frm W2) :: (sb, cells (stC ⟨9, p, 0, 0, 0, [], 0, [], []⟩ nilV nilV nilV) 29) :: K) w := hS
    go_wp2_with (guard_target =~ Calls _ 50 _ _ _; refine Stopped.out ?_)
    refine ⟨?_⟩
    refine Calls.mono (fnum_parse (off := 2) (tb := 29) (HK.out) (by simp) hS) ?_
    clear hS
    rintro _ w (⟨q, W3, hq, rfl, hS⟩ | ⟨hq, rfl, hS⟩)
    · simp only [putW]
      replace hS : Sat w0 ((fb, frm W3) :: (sb, cells (stC ⟨9, p, q, 0, 0, [], 0, [], []⟩ nilV nilV nilV) 29) :: K) w := hS
      go_wp2_with (refine load1 hS rfl rfl rfl rfl ?_; simp only [putW])
      go_end0
      exact .inl ⟨⟨9, p, q, 0, 0, [], 0, [], []⟩, W3, nilV, nilV, nilV, HA.out _ (by simp [stepK, hp, hq, st0]), rfl, Sat.conv (S' := (fb, frm W3) :: (sb, cells (stC ⟨9, p, q, 0, 0, [], 0, [], []⟩ nilV nilV nilV) 29) :: (0, sl 1 by8 [] 5 nilV) :: (0, sl 1 by8 [] 5 nilV) :: (0, sl 1 i64 [] 3 nilV) :: K) (((hS.slNil 1 by8 5).slNil 1 by8 5).slNil 1 i64 3)⟩
    · exact ⟨rfl, .inr ⟨HA.out _ (by simp [stepK, hp, hq]), rfl, hS⟩⟩
  · exact ⟨rfl, .inr ⟨HA.out _ (by simp [stepK, hp]), rfl, hS⟩⟩
set_option maxRecDepth 100000 in
set_option maxHeartbeats 4000000 in
theorem step_parse10 {W1 : List Bs} (hK : KV w0) (hch : takeW (choiceW stepsL) W = some (10, W1)) (hS : Sat w0 ((fb, frm W) :: (sb, cells (stC st0 nilV nilV nilV) 29) :: K) w) :
    Calls Tryz.prog 24 #[.pointer (some ⟨fb, 0, none⟩), .pointer (some ⟨sb, 0, none⟩)] w (StepPost w0 K fb sb W) := by
  have HK : Bx _ := ⟨hK⟩
  clear hK
  have hcn : ∀ {gl : Nat} {w : World}, Sat w0 ((gl, slc 1 strF stepsL 13 9) :: (fb, frm W) :: (sb, cells (stC st0 nilV nilV nilV) 29) :: K) w → Calls Tryz.prog 48 #[.pointer (some ⟨fb, 0, none⟩), .pointer (some ⟨sb, 0, none⟩), .slice (some ⟨gl, 0, none⟩) 13 13] w fun e w' => e = .returned (.tuple #[]) ∧ Sat w0 ((fb, frm W1) :: (sb, cells (stC ⟨10, 0, 0, 0, 0, [], 0, [], []⟩ nilV nilV nilV) 29) :: K) w' := fun h => choice_ok (off := 0) hch rfl (by decide) (by decide) (by simp) h
  have HA : Bx (∀ r, stepK 10 W1 = r → stepP W = r) := ⟨fun r h => by unfold stepP; rw [hch]; exact h⟩
  clear hch
  go_enter Tryz.func24, Tryz.ntmps24
  go_upto_region 0 with (refine load1 hS rfl rfl rfl rfl ?_; simp only [putW])
  (refine wp_region_held (S := fun w' => Sat w0 (K) w') (by kernel_rfl) ?_; replace hS := hS.drew; (refine takeIf (i := 0) rfl (by kernel_rfl) (fun _ _ _ h => h) (yMove rfl rfl rfl) hS.conv ?_; simp only [evW, putW]); (refine takeIf (i := 1) rfl (by kernel_rfl) (fun _ _ _ h => h) (yMove rfl rfl rfl) hS.conv ?_; simp only [evW, putW]); (apply takeIf (i := 2) rfl (by kernel_rfl) (fun _ _ _ h => h); (focus (apply yRun rfl; intro w; first | (go_simp; done) | (go_simp; rfl))); (focus (exact hS.conv)); simp only [putW]); (apply takeIf (i := 3) rfl (by kernel_rfl) (fun _ _ _ h => h); (focus (apply yRun rfl; intro w; first | (go_simp; done) | (go_simp; rfl))); (focus (exact hS.conv)); simp only [putW]); refine wpAnyH_all (rs := [4]) (by kernel_rfl) (by simp) ?_; intro i hi; simp only [List.mem_cons, List.not_mem_nil, or_false] at hi; subst hi; refine wpOp_of_list rfl ?_; go_wp2_with (go_at_call 49; refine Calls.mono (steps_any) ?_; rintro _ w2 ⟨gl, rfl, h2⟩; replace hS := hS.frame h2; clear h2; (try simp only [List.cons_append, List.nil_append] at hS); simp only [putW]); refine ⟨rfl, hS.conv, ?_⟩; refine wpAnyH_all (rs := [5]) (by kernel_rfl) (by simp) ?_; intro i hi; simp only [List.mem_cons, List.not_mem_nil, or_false] at hi; subst hi; refine wpOp_of_list rfl ?_; go_wp2_with (go_at_call 48; refine Calls.mono (hcn hS) ?_; clear hS; rintro _ w ⟨rfl, hS⟩; simp only [putW]); refine ⟨rfl, hS.conv, ?_⟩; refine wpAnyH_done (by kernel_rfl) ?_ _; skip)
  clear hcn
  go_wp2_with (refine load1 hS rfl rfl rfl rfl ?_; simp only [putW])
  go_end0
  exact .inl ⟨⟨10, 0, 0, 0, 0, [], 0, [], []⟩, W1, nilV, nilV, nilV, HA.out _ (by simp [stepK, st0]), rfl, Sat.conv (S' := (fb, frm W1) :: (sb, cells (stC ⟨10, 0, 0, 0, 0, [], 0, [], []⟩ nilV nilV nilV) 29) :: (0, sl 1 by8 [] 5 nilV) :: (0, sl 1 by8 [] 5 nilV) :: (0, sl 1 i64 [] 3 nilV) :: K) (((hS.slNil 1 by8 5).slNil 1 by8 5).slNil 1 i64 3)⟩
set_option maxRecDepth 100000 in
set_option maxHeartbeats 4000000 in
theorem step_parse11 {W1 : List Bs} (hK : KV w0) (hch : takeW (choiceW stepsL) W = some (11, W1)) (hS : Sat w0 ((fb, frm W) :: (sb, cells (stC st0 nilV nilV nilV) 29) :: K) w) :
    Calls Tryz.prog 24 #[.pointer (some ⟨fb, 0, none⟩), .pointer (some ⟨sb, 0, none⟩)] w (StepPost w0 K fb sb W) := by
  have HK : Bx _ := ⟨hK⟩
  clear hK
  have hcn : ∀ {gl : Nat} {w : World}, Sat w0 ((gl, slc 1 strF stepsL 13 9) :: (fb, frm W) :: (sb, cells (stC st0 nilV nilV nilV) 29) :: K) w → Calls Tryz.prog 48 #[.pointer (some ⟨fb, 0, none⟩), .pointer (some ⟨sb, 0, none⟩), .slice (some ⟨gl, 0, none⟩) 13 13] w fun e w' => e = .returned (.tuple #[]) ∧ Sat w0 ((fb, frm W1) :: (sb, cells (stC ⟨11, 0, 0, 0, 0, [], 0, [], []⟩ nilV nilV nilV) 29) :: K) w' := fun h => choice_ok (off := 0) hch rfl (by decide) (by decide) (by simp) h
  have HA : Bx (∀ r, stepK 11 W1 = r → stepP W = r) := ⟨fun r h => by unfold stepP; rw [hch]; exact h⟩
  clear hch
  go_enter Tryz.func24, Tryz.ntmps24
  go_upto_region 0 with (refine load1 hS rfl rfl rfl rfl ?_; simp only [putW])
  (refine wp_region_held (S := fun w' => Sat w0 (K) w') (by kernel_rfl) ?_; replace hS := hS.drew; (refine takeIf (i := 0) rfl (by kernel_rfl) (fun _ _ _ h => h) (yMove rfl rfl rfl) hS.conv ?_; simp only [evW, putW]); (refine takeIf (i := 1) rfl (by kernel_rfl) (fun _ _ _ h => h) (yMove rfl rfl rfl) hS.conv ?_; simp only [evW, putW]); (apply takeIf (i := 2) rfl (by kernel_rfl) (fun _ _ _ h => h); (focus (apply yRun rfl; intro w; first | (go_simp; done) | (go_simp; rfl))); (focus (exact hS.conv)); simp only [putW]); (apply takeIf (i := 3) rfl (by kernel_rfl) (fun _ _ _ h => h); (focus (apply yRun rfl; intro w; first | (go_simp; done) | (go_simp; rfl))); (focus (exact hS.conv)); simp only [putW]); refine wpAnyH_all (rs := [4]) (by kernel_rfl) (by simp) ?_; intro i hi; simp only [List.mem_cons, List.not_mem_nil, or_false] at hi; subst hi; refine wpOp_of_list rfl ?_; go_wp2_with (go_at_call 49; refine Calls.mono (steps_any) ?_; rintro _ w2 ⟨gl, rfl, h2⟩; replace hS := hS.frame h2; clear h2; (try simp only [List.cons_append, List.nil_append] at hS); simp only [putW]); refine ⟨rfl, hS.conv, ?_⟩; refine wpAnyH_all (rs := [5]) (by kernel_rfl) (by simp) ?_; intro i hi; simp only [List.mem_cons, List.not_mem_nil, or_false] at hi; subst hi; refine wpOp_of_list rfl ?_; go_wp2_with (go_at_call 48; refine Calls.mono (hcn hS) ?_; clear hS; rintro _ w ⟨rfl, hS⟩; simp only [putW]); refine ⟨rfl, hS.conv, ?_⟩; refine wpAnyH_done (by kernel_rfl) ?_ _; skip)
  clear hcn
  go_wp2_with (first | (guard_target =~ Calls _ 50 _ _ _; refine Stopped.out ?_) | (refine load1 hS rfl rfl rfl rfl ?_; simp only [putW]))
  refine ⟨?_⟩
  refine Calls.mono (fnum_parse (off := 1) (tb := 29) (HK.out) (by simp) hS) ?_
  clear hS
  rintro _ w (⟨p, W2, hp, rfl, hS⟩ | ⟨hp, rfl, hS⟩)
  · simp only [putW]
    replace hS : Sat w0 ((fb, frm W2) :: (sb, cells (stC ⟨11, p, 0, 0, 0, [], 0, [], []⟩ nilV nilV nilV) 29) :: K) w := hS
    go_wp2_with (refine load1 hS rfl rfl rfl rfl ?_; simp only [putW])
    go_end0
    exact .inl ⟨⟨11, p, 0, 0, 0, [], 0, [], []⟩, W2, nilV, nilV, nilV, HA.out _ (by simp [stepK, hp, st0]), rfl, Sat.conv (S' := (fb, frm W2) :: (sb, cells (stC ⟨11, p, 0, 0, 0, [], 0, [], []⟩ nilV nilV nilV) 29) :: (0, sl 1 by8 [] 5 nilV) :: (0, sl 1 by8 [] 5 nilV) :: (0, sl 1 i64 [] 3 nilV) :: K) (((hS.slNil 1 by8 5).slNil 1 by8 5).slNil 1 i64 3)⟩
  · exact ⟨rfl, .inr ⟨HA.out _ (by simp [stepK, hp]), rfl, hS⟩⟩
set_option maxRecDepth 100000 in
set_option maxHeartbeats 4000000 in
theorem step_parse12 {W1 : List Bs} (hK : KV w0) (hch : takeW (choiceW stepsL) W = some (12, W1)) (hS : Sat w0 ((fb, frm W) :: (sb, cells (stC st0 nilV nilV nilV) 29) :: K) w) :
    Calls Tryz.prog 24 #[.pointer (some ⟨fb, 0, none⟩), .pointer (some ⟨sb, 0, none⟩)] w (StepPost w0 K fb sb W) := by
  have HK : Bx _ := ⟨hK⟩
  clear hK
  have hcn : ∀ {gl : Nat} {w : World}, Sat w0 ((gl, slc 1 strF stepsL 13 9) :: (fb, frm W) :: (sb, cells (stC st0 nilV nilV nilV) 29) :: K) w → Calls Tryz.prog 48 #[.pointer (some ⟨fb, 0, none⟩), .pointer (some ⟨sb, 0, none⟩), .slice (some ⟨gl, 0, none⟩) 13 13] w fun e w' => e = .returned (.tuple #[]) ∧ Sat w0 ((fb, frm W1) :: (sb, cells (stC ⟨12, 0, 0, 0, 0, [], 0, [], []⟩ nilV nilV nilV) 29) :: K) w' := fun h => choice_ok (off := 0) hch rfl (by decide) (by decide) (by simp) h
  have HA : Bx (∀ r, stepK 12 W1 = r → stepP W = r) := ⟨fun r h => by unfold stepP; rw [hch]; exact h⟩
  clear hch
  go_enter Tryz.func24, Tryz.ntmps24
  go_upto_region 0 with (refine load1 hS rfl rfl rfl rfl ?_; simp only [putW])
  (refine wp_region_held (S := fun w' => Sat w0 (K) w') (by kernel_rfl) ?_; replace hS := hS.drew; (refine takeIf (i := 0) rfl (by kernel_rfl) (fun _ _ _ h => h) (yMove rfl rfl rfl) hS.conv ?_; simp only [evW, putW]); (refine takeIf (i := 1) rfl (by kernel_rfl) (fun _ _ _ h => h) (yMove rfl rfl rfl) hS.conv ?_; simp only [evW, putW]); (apply takeIf (i := 2) rfl (by kernel_rfl) (fun _ _ _ h => h); (focus (apply yRun rfl; intro w; first | (go_simp; done) | (go_simp; rfl))); (focus (exact hS.conv)); simp only [putW]); (apply takeIf (i := 3) rfl (by kernel_rfl) (fun _ _ _ h => h); (focus (apply yRun rfl; intro w; first | (go_simp; done) | (go_simp; rfl))); (focus (exact hS.conv)); simp only [putW]); refine wpAnyH_all (rs := [4]) (by kernel_rfl) (by simp) ?_; intro i hi; simp only [List.mem_cons, List.not_mem_nil, or_false] at hi; subst hi; refine wpOp_of_list rfl ?_; go_wp2_with (go_at_call 49; refine Calls.mono (steps_any) ?_; rintro _ w2 ⟨gl, rfl, h2⟩; replace hS := hS.frame h2; clear h2; (try simp only [List.cons_append, List.nil_append] at hS); simp only [putW]); refine ⟨rfl, hS.conv, ?_⟩; refine wpAnyH_all (rs := [5]) (by kernel_rfl) (by simp) ?_; intro i hi; simp only [List.mem_cons, List.not_mem_nil, or_false] at hi; subst hi; refine wpOp_of_list rfl ?_; go_wp2_with (go_at_call 48; refine Calls.mono (hcn hS) ?_; clear hS; rintro _ w ⟨rfl, hS⟩; simp only [putW]); refine ⟨rfl, hS.conv, ?_⟩; refine wpAnyH_done (by kernel_rfl) ?_ _; skip)
  clear hcn
  go_wp2_with (first | (guard_target =~ Calls _ 50 _ _ _; refine Stopped.out ?_) | (refine load1 hS rfl rfl rfl rfl ?_; simp only [putW]))
  refine ⟨?_⟩
  refine Calls.mono (fnum_parse (off := 1) (tb := 29) (HK.out) (by simp) hS) ?_
  clear hS
  rintro _ w (⟨p, W2, hp, rfl, hS⟩ | ⟨hp, rfl, hS⟩)
  · simp only [putW]
    replace hS : Sat w0 ((fb, frm W2) :: (sb, cells (stC ⟨12, p, 0, 0, 0, [], 0, [], []⟩ nilV nilV nilV) 29) :: K) w := hS
    go_wp2_with (guard_target =~ Calls _ 53 _ _ _; refine Stopped.out ?_)
    refine ⟨?_⟩
    refine Calls.mono (fbits_parse (off := 6) (tb := 29) (by simp) hS) ?_
    clear hS
    rintro _ w (⟨n, W4, hd, rfl, hS⟩ | ⟨hd, rfl, hS⟩)
    · simp only [putW]
      replace hS : Sat w0 ((fb, frm W4) :: (sb, cells (stC ⟨12, p, 0, 0, 0, [], n, [], []⟩ nilV nilV nilV) 29) :: K) w := hS
      go_wp2_with (refine load1 hS rfl rfl rfl rfl ?_; simp only [putW])
      go_end0
      exact .inl ⟨⟨12, p, 0, 0, 0, [], n, [], []⟩, W4, nilV, nilV, nilV, HA.out _ (by simp [stepK, hp, hd, st0]), rfl, Sat.conv (S' := (fb, frm W4) :: (sb, cells (stC ⟨12, p, 0, 0, 0, [], n, [], []⟩ nilV nilV nilV) 29) :: (0, sl 1 by8 [] 5 nilV) :: (0, sl 1 by8 [] 5 nilV) :: (0, sl 1 i64 [] 3 nilV) :: K) (((hS.slNil 1 by8 5).slNil 1 by8 5).slNil 1 i64 3)⟩
    · exact ⟨rfl, .inr ⟨HA.out _ (by simp [stepK, hp, hd]), rfl, hS⟩⟩
  · exact ⟨rfl, .inr ⟨HA.out _ (by simp [stepK, hp]), rfl, hS⟩⟩
set_option maxRecDepth 100000 in
set_option maxHeartbeats 4000000 in
theorem step_parse (hK : KV w0) (hS : Sat w0 ((fb, frm W) :: (sb, cells (stC st0 nilV nilV nilV) 29) :: K) w) :
    Calls Tryz.prog 24 #[.pointer (some ⟨fb, 0, none⟩), .pointer (some ⟨sb, 0, none⟩)] w (StepPost w0 K fb sb W) := by
  cases hch : takeW (choiceW stepsL) W with
  | none =>
    have HN : Bx (stepP W = none) := ⟨by unfold stepP; rw [hch]; rfl⟩
    go_enter Tryz.func24, Tryz.ntmps24
    go_upto_region 0 with (refine load1 hS rfl rfl rfl rfl ?_; simp only [putW])
    (refine wp_region_held (S := fun w' => Sat w0 ((fb, frm W) :: (sb, cells (stC st0 nilV nilV nilV) 29) :: K) w') (by kernel_rfl) ?_; replace hS := hS.drew; (refine takeIf (i := 0) rfl (by kernel_rfl) (fun _ _ _ h => h) (yMove rfl rfl rfl) hS.conv ?_; simp only [evW, putW]); (refine takeIf (i := 1) rfl (by kernel_rfl) (fun _ _ _ h => h) (yMove rfl rfl rfl) hS.conv ?_; simp only [evW, putW]); (apply takeIf (i := 2) rfl (by kernel_rfl) (fun _ _ _ h => h); (focus (apply yRun rfl; intro w; first | (go_simp; done) | (go_simp; rfl))); (focus (exact hS.conv)); simp only [putW]); (apply takeIf (i := 3) rfl (by kernel_rfl) (fun _ _ _ h => h); (focus (apply yRun rfl; intro w; first | (go_simp; done) | (go_simp; rfl))); (focus (exact hS.conv)); simp only [putW]); refine wpAnyH_all (rs := [4]) (by kernel_rfl) (by simp) ?_; intro i hi; simp only [List.mem_cons, List.not_mem_nil, or_false] at hi; subst hi; refine wpOp_of_list rfl ?_; go_wp2_with (go_at_call 49; refine Calls.mono (steps_any) ?_; rintro _ w2 ⟨gl, rfl, h2⟩; replace hS := hS.frame h2; clear h2; (try simp only [List.cons_append, List.nil_append] at hS); simp only [putW]); refine ⟨rfl, hS.conv, ?_⟩; refine wpAnyH_all (rs := [5]) (by kernel_rfl) (by simp) ?_; intro i hi; simp only [List.mem_cons, List.not_mem_nil, or_false] at hi; subst hi; refine opPanic rfl rfl Tryz.call48 rfl ?_; refine Calls.mono (choice_no (off := 0) hch rfl (by decide) (by decide) (by simp) hS) ?_; rintro _ w2 ⟨rfl, hS⟩; refine ⟨_, rfl, ?_⟩; (exact ⟨rfl, .inr ⟨HN.out, rfl, hS⟩⟩))
  | some x =>
    obtain ⟨k, W1⟩ := x
    obtain ⟨k1, k2⟩ := steps_range hch
    rcases kinds12 k1 k2 with rfl | rfl | rfl | rfl | rfl | rfl | rfl | rfl | rfl | rfl | rfl | rfl
    · exact step_parse1 hK hch hS
    · exact step_parse2 hK hch hS
    · exact step_parse3 hK hch hS
    · exact step_parse4 hK hch hS
    · exact step_parse5 hK hch hS
    · exact step_parse6 hK hch hS
    · exact step_parse7 hK hch hS
    · exact step_parse8 hK hch hS
    · exact step_parse9 hK hch hS
    · exact step_parse10 hK hch hS
    · exact step_parse11 hK hch hS
    · exact step_parse12 hK hch hS
end
end Go.Proofs.YtpbjkfomdindnaaGreatDoor
