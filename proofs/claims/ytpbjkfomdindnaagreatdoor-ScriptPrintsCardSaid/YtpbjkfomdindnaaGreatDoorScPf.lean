/-
  script.form.step, gathering: printed by program (mkprint.py).
-/
import Derived.Test.YtpbjkfomdindnaaGreatDoorScPd
set_option linter.unusedSimpArgs false
set_option linter.unusedVariables false
namespace Go.Proofs.YtpbjkfomdindnaaGreatDoor
open Go.RowKit Go.Shelf Go.Proofs.YtpbjkfomdindnaaGreatDoor.Sl Go.Proofs.YtpbjkfomdindnaaGreatDoor.Jp Go.Proofs.YtpbjkfomdindnaaGreatDoor.Sc

section
variable {w0 w : World} {S F K : List Chunk} {W : List Bs} {fb sb : Nat}
set_option maxRecDepth 100000 in
set_option maxHeartbeats 1000000 in
theorem step_print7 {a b okd pg : Int} {od da fa : List Int} {bt : Nat} {vo vd vf : Value} (hK : KV w0) (hR : RSt w0 ⟨7, a, b, okd, pg, od, bt, da, fa⟩ vo vd vf) (hW : W.length ≤ 20) (hS : Sat w0 ((fb, pfrm W) :: (sb, cells (stC ⟨7, a, b, okd, pg, od, bt, da, fa⟩ vo vd vf) 29) :: K) w) :
    Calls Tryz.prog 24 #[.pointer (some ⟨fb, 0, none⟩), .pointer (some ⟨sb, 0, none⟩)] w (PrintPost w0 K fb sb (stC ⟨7, a, b, okd, pg, od, bt, da, fa⟩ vo vd vf) W (printW ⟨7, a, b, okd, pg, od, bt, da, fa⟩)) := by
  have HK : Bx _ := ⟨hK⟩
  have HRO : Bx (RB w0 od vo) := ⟨hR.od⟩
  have HRD : Bx (RB w0 da vd) := ⟨hR.da⟩
  have HF : Bx (RI w0 fa vf) := ⟨hR.fa⟩
  have HB : Bx (bt < 18446744073709551616) := ⟨hR.bt⟩
  clear hK hR
  have hcn : ∀ {gl : Nat} {w : World}, Sat w0 ((gl, slc 1 strF stepsL 13 9) :: (fb, pfrm W) :: (sb, cells (stC ⟨7, a, b, okd, pg, od, bt, da, fa⟩ vo vd vf) 29) :: K) w → Calls Tryz.prog 48 #[.pointer (some ⟨fb, 0, none⟩), .pointer (some ⟨sb, 0, none⟩), .slice (some ⟨gl, 0, none⟩) 13 13] w fun e w' => e = .returned (.tuple #[]) ∧ Sat w0 ((fb, pfrm (W ++ [kwS 7])) :: (sb, cells (stC ⟨7, a, b, okd, pg, od, bt, da, fa⟩ vo vd vf) 29) :: K) w' := fun h => (fchoice_print (k := 7) (off := 0) rfl rfl (by decide) (by omega) h).mono fun e w' h2 => by
    rcases h2 with ⟨-, h3, h4⟩ | ⟨h3, -⟩
    · exact ⟨h3, h4⟩
    · exact absurd (show inR 7 13 from ⟨by decide, by decide⟩) h3
  go_enter Tryz.func24, Tryz.ntmps24
  go_upto_region 0 with (refine load1 hS rfl rfl rfl rfl ?_; simp only [putW])
  (refine wp_region_held (S := fun w' => Sat w0 (K) w') (by kernel_rfl) ?_; replace hS := hS.drew; (refine takeIf (i := 0) rfl (by kernel_rfl) (fun _ _ _ h => h) (yMove rfl rfl rfl) hS.conv ?_; simp only [evW, putW]); (refine takeIf (i := 1) rfl (by kernel_rfl) (fun _ _ _ h => h) (yMove rfl rfl rfl) hS.conv ?_; simp only [evW, putW]); (apply takeIf (i := 2) rfl (by kernel_rfl) (fun _ _ _ h => h); (focus (apply yRun rfl; intro w; first | (go_simp; done) | (go_simp; rfl))); (focus (exact hS.conv)); simp only [putW]); (apply takeIf (i := 3) rfl (by kernel_rfl) (fun _ _ _ h => h); (focus (apply yRun rfl; intro w; first | (go_simp; done) | (go_simp; rfl))); (focus (exact hS.conv)); simp only [putW]); refine wpAnyH_all (rs := [4]) (by kernel_rfl) (by simp) ?_; intro i hi; simp only [List.mem_cons, List.not_mem_nil, or_false] at hi; subst hi; refine wpOp_of_list rfl ?_; go_wp2_with (go_at_call 49; refine Calls.mono (steps_any) ?_; rintro _ w2 ⟨gl, rfl, h2⟩; replace hS := hS.frame h2; clear h2; (try simp only [List.cons_append, List.nil_append] at hS); simp only [putW]); refine ⟨rfl, hS.conv, ?_⟩; refine wpAnyH_all (rs := [5]) (by kernel_rfl) (by simp) ?_; intro i hi; simp only [List.mem_cons, List.not_mem_nil, or_false] at hi; subst hi; refine wpOp_of_list rfl ?_; go_wp2_with (go_at_call 48; refine Calls.mono (hcn hS) ?_; clear hS; rintro _ w ⟨rfl, hS⟩; simp only [putW]); refine ⟨rfl, hS.conv, ?_⟩; refine wpAnyH_done (by kernel_rfl) ?_ _; skip)
  clear hcn
  go_wp2_with (first | (guard_target =~ Calls _ 50 _ _ _; refine Stopped.out ?_) | (refine load1 hS rfl rfl rfl rfl ?_; simp only [putW]))
  refine ⟨?_⟩
  refine Calls.mono (fnum_print (W := (W ++ [kwS 7])) (n := a) (off := 1) (tb := 29) HK.out rfl (by simp; omega) hS) ?_
  clear hS
  rintro _ w (⟨hp0, rfl, hS⟩ | ⟨hp0, rfl, hS⟩)
  rotate_left
  · exact ⟨rfl, .inr ⟨by simp [printW, stepR, guardW, hp0], rfl, hS⟩⟩
  simp only [putW]
  have HP0 : Bx (okN a) := ⟨hp0⟩
  clear hp0
  go_wp2_with (guard_target =~ Calls _ 52 _ _ _; refine Stopped.out ?_)
  refine ⟨?_⟩
  refine Calls.mono (ffates_print (W := ((W ++ [kwS 7]) ++ [Lib.itoa a])) (A := fa) (va := vf) (off := 8) (tb := 29) HK.out HF.out rfl (by simp; omega) hS) ?_
  clear hS
  rintro _ w (⟨Y, hp1, hY, rfl, hS⟩ | ⟨hp1, rfl, hS⟩)
  rotate_left
  · exact ⟨rfl, .inr ⟨by simp [printW, stepR, guardW, hp1], rfl, hS⟩⟩
  simp only [putW]
  have HP1 : Bx (fatesR fa = some Y) := ⟨hp1⟩
  clear hp1
  go_wp2_with (refine load1 hS rfl rfl rfl rfl ?_; simp only [putW])
  go_end0
  refine .inl ⟨_, by simp [printW, stepR, guardW, HP0.out, HP1.out]; rfl, rfl, ?_⟩
  first | exact hS | (simpa using hS)
set_option maxRecDepth 100000 in
set_option maxHeartbeats 1000000 in
theorem step_print8 {a b okd pg : Int} {od da fa : List Int} {bt : Nat} {vo vd vf : Value} (hK : KV w0) (hR : RSt w0 ⟨8, a, b, okd, pg, od, bt, da, fa⟩ vo vd vf) (hW : W.length ≤ 20) (hS : Sat w0 ((fb, pfrm W) :: (sb, cells (stC ⟨8, a, b, okd, pg, od, bt, da, fa⟩ vo vd vf) 29) :: K) w) :
    Calls Tryz.prog 24 #[.pointer (some ⟨fb, 0, none⟩), .pointer (some ⟨sb, 0, none⟩)] w (PrintPost w0 K fb sb (stC ⟨8, a, b, okd, pg, od, bt, da, fa⟩ vo vd vf) W (printW ⟨8, a, b, okd, pg, od, bt, da, fa⟩)) := by
  have HK : Bx _ := ⟨hK⟩
  have HRO : Bx (RB w0 od vo) := ⟨hR.od⟩
  have HRD : Bx (RB w0 da vd) := ⟨hR.da⟩
  have HF : Bx (RI w0 fa vf) := ⟨hR.fa⟩
  have HB : Bx (bt < 18446744073709551616) := ⟨hR.bt⟩
  clear hK hR
  have hcn : ∀ {gl : Nat} {w : World}, Sat w0 ((gl, slc 1 strF stepsL 13 9) :: (fb, pfrm W) :: (sb, cells (stC ⟨8, a, b, okd, pg, od, bt, da, fa⟩ vo vd vf) 29) :: K) w → Calls Tryz.prog 48 #[.pointer (some ⟨fb, 0, none⟩), .pointer (some ⟨sb, 0, none⟩), .slice (some ⟨gl, 0, none⟩) 13 13] w fun e w' => e = .returned (.tuple #[]) ∧ Sat w0 ((fb, pfrm (W ++ [kwS 8])) :: (sb, cells (stC ⟨8, a, b, okd, pg, od, bt, da, fa⟩ vo vd vf) 29) :: K) w' := fun h => (fchoice_print (k := 8) (off := 0) rfl rfl (by decide) (by omega) h).mono fun e w' h2 => by
    rcases h2 with ⟨-, h3, h4⟩ | ⟨h3, -⟩
    · exact ⟨h3, h4⟩
    · exact absurd (show inR 8 13 from ⟨by decide, by decide⟩) h3
  go_enter Tryz.func24, Tryz.ntmps24
  go_upto_region 0 with (refine load1 hS rfl rfl rfl rfl ?_; simp only [putW])
  (refine wp_region_held (S := fun w' => Sat w0 (K) w') (by kernel_rfl) ?_; replace hS := hS.drew; (refine takeIf (i := 0) rfl (by kernel_rfl) (fun _ _ _ h => h) (yMove rfl rfl rfl) hS.conv ?_; simp only [evW, putW]); (refine takeIf (i := 1) rfl (by kernel_rfl) (fun _ _ _ h => h) (yMove rfl rfl rfl) hS.conv ?_; simp only [evW, putW]); (apply takeIf (i := 2) rfl (by kernel_rfl) (fun _ _ _ h => h); (focus (apply yRun rfl; intro w; first | (go_simp; done) | (go_simp; rfl))); (focus (exact hS.conv)); simp only [putW]); (apply takeIf (i := 3) rfl (by kernel_rfl) (fun _ _ _ h => h); (focus (apply yRun rfl; intro w; first | (go_simp; done) | (go_simp; rfl))); (focus (exact hS.conv)); simp only [putW]); refine wpAnyH_all (rs := [4]) (by kernel_rfl) (by simp) ?_; intro i hi; simp only [List.mem_cons, List.not_mem_nil, or_false] at hi; subst hi; refine wpOp_of_list rfl ?_; go_wp2_with (go_at_call 49; refine Calls.mono (steps_any) ?_; rintro _ w2 ⟨gl, rfl, h2⟩; replace hS := hS.frame h2; clear h2; (try simp only [List.cons_append, List.nil_append] at hS); simp only [putW]); refine ⟨rfl, hS.conv, ?_⟩; refine wpAnyH_all (rs := [5]) (by kernel_rfl) (by simp) ?_; intro i hi; simp only [List.mem_cons, List.not_mem_nil, or_false] at hi; subst hi; refine wpOp_of_list rfl ?_; go_wp2_with (go_at_call 48; refine Calls.mono (hcn hS) ?_; clear hS; rintro _ w ⟨rfl, hS⟩; simp only [putW]); refine ⟨rfl, hS.conv, ?_⟩; refine wpAnyH_done (by kernel_rfl) ?_ _; skip)
  clear hcn
  go_wp2_with (first | (guard_target =~ Calls _ 50 _ _ _; refine Stopped.out ?_) | (refine load1 hS rfl rfl rfl rfl ?_; simp only [putW]))
  refine ⟨?_⟩
  refine Calls.mono (fnum_print (W := (W ++ [kwS 8])) (n := a) (off := 1) (tb := 29) HK.out rfl (by simp; omega) hS) ?_
  clear hS
  rintro _ w (⟨hp0, rfl, hS⟩ | ⟨hp0, rfl, hS⟩)
  rotate_left
  · exact ⟨rfl, .inr ⟨by simp [printW, stepR, guardW, hp0], rfl, hS⟩⟩
  simp only [putW]
  have HP0 : Bx (okN a) := ⟨hp0⟩
  clear hp0
  go_wp2_with (guard_target =~ Calls _ 50 _ _ _; refine Stopped.out ?_)
  refine ⟨?_⟩
  refine Calls.mono (fnum_print (W := ((W ++ [kwS 8]) ++ [Lib.itoa a])) (n := b) (off := 2) (tb := 29) HK.out rfl (by simp; omega) hS) ?_
  clear hS
  rintro _ w (⟨hp1, rfl, hS⟩ | ⟨hp1, rfl, hS⟩)
  rotate_left
  · exact ⟨rfl, .inr ⟨by simp [printW, stepR, guardW, hp1], rfl, hS⟩⟩
  simp only [putW]
  have HP1 : Bx (okN b) := ⟨hp1⟩
  clear hp1
  go_wp2_with (guard_target =~ Calls _ 51 _ _ _; refine Stopped.out ?_)
  refine ⟨?_⟩
  refine Calls.mono (fdata_print (W := (((W ++ [kwS 8]) ++ [Lib.itoa a]) ++ [Lib.itoa b])) (mx := 256) (A := da) (va := vd) (off := 7) (tb := 29) (by decide) HRD.out rfl (by simp; omega) hS) ?_
  clear hS
  rintro _ w (⟨hp2, rfl, hS⟩ | ⟨hp2, rfl, hS⟩)
  rotate_left
  · exact ⟨rfl, .inr ⟨by simp [printW, stepR, guardW, hp2], rfl, hS⟩⟩
  simp only [putW]
  have HP2 : Bx (da.length ≤ 256) := ⟨hp2⟩
  clear hp2
  go_wp2_with (refine load1 hS rfl rfl rfl rfl ?_; simp only [putW])
  go_end0
  refine .inl ⟨_, by simp [printW, stepR, guardW, HP0.out, HP1.out, HP2.out]; rfl, rfl, ?_⟩
  first | exact hS | (simpa using hS)
set_option maxRecDepth 100000 in
set_option maxHeartbeats 1000000 in
theorem step_print9 {a b okd pg : Int} {od da fa : List Int} {bt : Nat} {vo vd vf : Value} (hK : KV w0) (hR : RSt w0 ⟨9, a, b, okd, pg, od, bt, da, fa⟩ vo vd vf) (hW : W.length ≤ 20) (hS : Sat w0 ((fb, pfrm W) :: (sb, cells (stC ⟨9, a, b, okd, pg, od, bt, da, fa⟩ vo vd vf) 29) :: K) w) :
    Calls Tryz.prog 24 #[.pointer (some ⟨fb, 0, none⟩), .pointer (some ⟨sb, 0, none⟩)] w (PrintPost w0 K fb sb (stC ⟨9, a, b, okd, pg, od, bt, da, fa⟩ vo vd vf) W (printW ⟨9, a, b, okd, pg, od, bt, da, fa⟩)) := by
  have HK : Bx _ := ⟨hK⟩
  have HRO : Bx (RB w0 od vo) := ⟨hR.od⟩
  have HRD : Bx (RB w0 da vd) := ⟨hR.da⟩
  have HF : Bx (RI w0 fa vf) := ⟨hR.fa⟩
  have HB : Bx (bt < 18446744073709551616) := ⟨hR.bt⟩
  clear hK hR
  have hcn : ∀ {gl : Nat} {w : World}, Sat w0 ((gl, slc 1 strF stepsL 13 9) :: (fb, pfrm W) :: (sb, cells (stC ⟨9, a, b, okd, pg, od, bt, da, fa⟩ vo vd vf) 29) :: K) w → Calls Tryz.prog 48 #[.pointer (some ⟨fb, 0, none⟩), .pointer (some ⟨sb, 0, none⟩), .slice (some ⟨gl, 0, none⟩) 13 13] w fun e w' => e = .returned (.tuple #[]) ∧ Sat w0 ((fb, pfrm (W ++ [kwS 9])) :: (sb, cells (stC ⟨9, a, b, okd, pg, od, bt, da, fa⟩ vo vd vf) 29) :: K) w' := fun h => (fchoice_print (k := 9) (off := 0) rfl rfl (by decide) (by omega) h).mono fun e w' h2 => by
    rcases h2 with ⟨-, h3, h4⟩ | ⟨h3, -⟩
    · exact ⟨h3, h4⟩
    · exact absurd (show inR 9 13 from ⟨by decide, by decide⟩) h3
  go_enter Tryz.func24, Tryz.ntmps24
  go_upto_region 0 with (refine load1 hS rfl rfl rfl rfl ?_; simp only [putW])
  (refine wp_region_held (S := fun w' => Sat w0 (K) w') (by kernel_rfl) ?_; replace hS := hS.drew; (refine takeIf (i := 0) rfl (by kernel_rfl) (fun _ _ _ h => h) (yMove rfl rfl rfl) hS.conv ?_; simp only [evW, putW]); (refine takeIf (i := 1) rfl (by kernel_rfl) (fun _ _ _ h => h) (yMove rfl rfl rfl) hS.conv ?_; simp only [evW, putW]); (apply takeIf (i := 2) rfl (by kernel_rfl) (fun _ _ _ h => h); (focus (apply yRun rfl; intro w; first | (go_simp; done) | (go_simp; rfl))); (focus (exact hS.conv)); simp only [putW]); (apply takeIf (i := 3) rfl (by kernel_rfl) (fun _ _ _ h => h); (focus (apply yRun rfl; intro w; first | (go_simp; done) | (go_simp; rfl))); (focus (exact hS.conv)); simp only [putW]); refine wpAnyH_all (rs := [4]) (by kernel_rfl) (by simp) ?_; intro i hi; simp only [List.mem_cons, List.not_mem_nil, or_false] at hi; subst hi; refine wpOp_of_list rfl ?_; go_wp2_with (go_at_call 49; refine Calls.mono (steps_any) ?_; rintro _ w2 ⟨gl, rfl, h2⟩; replace hS := hS.frame h2; clear h2; (try simp only [List.cons_append, List.nil_append] at hS); simp only [putW]); refine ⟨rfl, hS.conv, ?_⟩; refine wpAnyH_all (rs := [5]) (by kernel_rfl) (by simp) ?_; intro i hi; simp only [List.mem_cons, List.not_mem_nil, or_false] at hi; subst hi; refine wpOp_of_list rfl ?_; go_wp2_with (go_at_call 48; refine Calls.mono (hcn hS) ?_; clear hS; rintro _ w ⟨rfl, hS⟩; simp only [putW]); refine ⟨rfl, hS.conv, ?_⟩; refine wpAnyH_done (by kernel_rfl) ?_ _; skip)
  clear hcn
  go_wp2_with (first | (guard_target =~ Calls _ 50 _ _ _; refine Stopped.out ?_) | (refine load1 hS rfl rfl rfl rfl ?_; simp only [putW]))
  refine ⟨?_⟩
  refine Calls.mono (fnum_print (W := (W ++ [kwS 9])) (n := a) (off := 1) (tb := 29) HK.out rfl (by simp; omega) hS) ?_
  clear hS
  rintro _ w (⟨hp0, rfl, hS⟩ | ⟨hp0, rfl, hS⟩)
  rotate_left
  · exact ⟨rfl, .inr ⟨by simp [printW, stepR, guardW, hp0], rfl, hS⟩⟩
  simp only [putW]
  have HP0 : Bx (okN a) := ⟨hp0⟩
  clear hp0
  go_wp2_with (guard_target =~ Calls _ 50 _ _ _; refine Stopped.out ?_)
  refine ⟨?_⟩
  refine Calls.mono (fnum_print (W := ((W ++ [kwS 9]) ++ [Lib.itoa a])) (n := b) (off := 2) (tb := 29) HK.out rfl (by simp; omega) hS) ?_
  clear hS
  rintro _ w (⟨hp1, rfl, hS⟩ | ⟨hp1, rfl, hS⟩)
  rotate_left
  · exact ⟨rfl, .inr ⟨by simp [printW, stepR, guardW, hp1], rfl, hS⟩⟩
  simp only [putW]
  have HP1 : Bx (okN b) := ⟨hp1⟩
  clear hp1
  go_wp2_with (refine load1 hS rfl rfl rfl rfl ?_; simp only [putW])
  go_end0
  refine .inl ⟨_, by simp [printW, stepR, guardW, HP0.out, HP1.out]; rfl, rfl, ?_⟩
  first | exact hS | (simpa using hS)
set_option maxRecDepth 100000 in
set_option maxHeartbeats 1000000 in
theorem step_print10 {a b okd pg : Int} {od da fa : List Int} {bt : Nat} {vo vd vf : Value} (hK : KV w0) (hR : RSt w0 ⟨10, a, b, okd, pg, od, bt, da, fa⟩ vo vd vf) (hW : W.length ≤ 20) (hS : Sat w0 ((fb, pfrm W) :: (sb, cells (stC ⟨10, a, b, okd, pg, od, bt, da, fa⟩ vo vd vf) 29) :: K) w) :
    Calls Tryz.prog 24 #[.pointer (some ⟨fb, 0, none⟩), .pointer (some ⟨sb, 0, none⟩)] w (PrintPost w0 K fb sb (stC ⟨10, a, b, okd, pg, od, bt, da, fa⟩ vo vd vf) W (printW ⟨10, a, b, okd, pg, od, bt, da, fa⟩)) := by
  have HK : Bx _ := ⟨hK⟩
  have HRO : Bx (RB w0 od vo) := ⟨hR.od⟩
  have HRD : Bx (RB w0 da vd) := ⟨hR.da⟩
  have HF : Bx (RI w0 fa vf) := ⟨hR.fa⟩
  have HB : Bx (bt < 18446744073709551616) := ⟨hR.bt⟩
  clear hK hR
  have hcn : ∀ {gl : Nat} {w : World}, Sat w0 ((gl, slc 1 strF stepsL 13 9) :: (fb, pfrm W) :: (sb, cells (stC ⟨10, a, b, okd, pg, od, bt, da, fa⟩ vo vd vf) 29) :: K) w → Calls Tryz.prog 48 #[.pointer (some ⟨fb, 0, none⟩), .pointer (some ⟨sb, 0, none⟩), .slice (some ⟨gl, 0, none⟩) 13 13] w fun e w' => e = .returned (.tuple #[]) ∧ Sat w0 ((fb, pfrm (W ++ [kwS 10])) :: (sb, cells (stC ⟨10, a, b, okd, pg, od, bt, da, fa⟩ vo vd vf) 29) :: K) w' := fun h => (fchoice_print (k := 10) (off := 0) rfl rfl (by decide) (by omega) h).mono fun e w' h2 => by
    rcases h2 with ⟨-, h3, h4⟩ | ⟨h3, -⟩
    · exact ⟨h3, h4⟩
    · exact absurd (show inR 10 13 from ⟨by decide, by decide⟩) h3
  go_enter Tryz.func24, Tryz.ntmps24
  go_upto_region 0 with (refine load1 hS rfl rfl rfl rfl ?_; simp only [putW])
  (refine wp_region_held (S := fun w' => Sat w0 (K) w') (by kernel_rfl) ?_; replace hS := hS.drew; (refine takeIf (i := 0) rfl (by kernel_rfl) (fun _ _ _ h => h) (yMove rfl rfl rfl) hS.conv ?_; simp only [evW, putW]); (refine takeIf (i := 1) rfl (by kernel_rfl) (fun _ _ _ h => h) (yMove rfl rfl rfl) hS.conv ?_; simp only [evW, putW]); (apply takeIf (i := 2) rfl (by kernel_rfl) (fun _ _ _ h => h); (focus (apply yRun rfl; intro w; first | (go_simp; done) | (go_simp; rfl))); (focus (exact hS.conv)); simp only [putW]); (apply takeIf (i := 3) rfl (by kernel_rfl) (fun _ _ _ h => h); (focus (apply yRun rfl; intro w; first | (go_simp; done) | (go_simp; rfl))); (focus (exact hS.conv)); simp only [putW]); refine wpAnyH_all (rs := [4]) (by kernel_rfl) (by simp) ?_; intro i hi; simp only [List.mem_cons, List.not_mem_nil, or_false] at hi; subst hi; refine wpOp_of_list rfl ?_; go_wp2_with (go_at_call 49; refine Calls.mono (steps_any) ?_; rintro _ w2 ⟨gl, rfl, h2⟩; replace hS := hS.frame h2; clear h2; (try simp only [List.cons_append, List.nil_append] at hS); simp only [putW]); refine ⟨rfl, hS.conv, ?_⟩; refine wpAnyH_all (rs := [5]) (by kernel_rfl) (by simp) ?_; intro i hi; simp only [List.mem_cons, List.not_mem_nil, or_false] at hi; subst hi; refine wpOp_of_list rfl ?_; go_wp2_with (go_at_call 48; refine Calls.mono (hcn hS) ?_; clear hS; rintro _ w ⟨rfl, hS⟩; simp only [putW]); refine ⟨rfl, hS.conv, ?_⟩; refine wpAnyH_done (by kernel_rfl) ?_ _; skip)
  clear hcn
  go_wp2_with (refine load1 hS rfl rfl rfl rfl ?_; simp only [putW])
  go_end0
  refine .inl ⟨_, by simp [printW, stepR, guardW]; rfl, rfl, ?_⟩
  first | exact hS | (simpa using hS)
set_option maxRecDepth 100000 in
set_option maxHeartbeats 1000000 in
theorem step_print11 {a b okd pg : Int} {od da fa : List Int} {bt : Nat} {vo vd vf : Value} (hK : KV w0) (hR : RSt w0 ⟨11, a, b, okd, pg, od, bt, da, fa⟩ vo vd vf) (hW : W.length ≤ 20) (hS : Sat w0 ((fb, pfrm W) :: (sb, cells (stC ⟨11, a, b, okd, pg, od, bt, da, fa⟩ vo vd vf) 29) :: K) w) :
    Calls Tryz.prog 24 #[.pointer (some ⟨fb, 0, none⟩), .pointer (some ⟨sb, 0, none⟩)] w (PrintPost w0 K fb sb (stC ⟨11, a, b, okd, pg, od, bt, da, fa⟩ vo vd vf) W (printW ⟨11, a, b, okd, pg, od, bt, da, fa⟩)) := by
  have HK : Bx _ := ⟨hK⟩
  have HRO : Bx (RB w0 od vo) := ⟨hR.od⟩
  have HRD : Bx (RB w0 da vd) := ⟨hR.da⟩
  have HF : Bx (RI w0 fa vf) := ⟨hR.fa⟩
  have HB : Bx (bt < 18446744073709551616) := ⟨hR.bt⟩
  clear hK hR
  have hcn : ∀ {gl : Nat} {w : World}, Sat w0 ((gl, slc 1 strF stepsL 13 9) :: (fb, pfrm W) :: (sb, cells (stC ⟨11, a, b, okd, pg, od, bt, da, fa⟩ vo vd vf) 29) :: K) w → Calls Tryz.prog 48 #[.pointer (some ⟨fb, 0, none⟩), .pointer (some ⟨sb, 0, none⟩), .slice (some ⟨gl, 0, none⟩) 13 13] w fun e w' => e = .returned (.tuple #[]) ∧ Sat w0 ((fb, pfrm (W ++ [kwS 11])) :: (sb, cells (stC ⟨11, a, b, okd, pg, od, bt, da, fa⟩ vo vd vf) 29) :: K) w' := fun h => (fchoice_print (k := 11) (off := 0) rfl rfl (by decide) (by omega) h).mono fun e w' h2 => by
    rcases h2 with ⟨-, h3, h4⟩ | ⟨h3, -⟩
    · exact ⟨h3, h4⟩
    · exact absurd (show inR 11 13 from ⟨by decide, by decide⟩) h3
  go_enter Tryz.func24, Tryz.ntmps24
  go_upto_region 0 with (refine load1 hS rfl rfl rfl rfl ?_; simp only [putW])
  (refine wp_region_held (S := fun w' => Sat w0 (K) w') (by kernel_rfl) ?_; replace hS := hS.drew; (refine takeIf (i := 0) rfl (by kernel_rfl) (fun _ _ _ h => h) (yMove rfl rfl rfl) hS.conv ?_; simp only [evW, putW]); (refine takeIf (i := 1) rfl (by kernel_rfl) (fun _ _ _ h => h) (yMove rfl rfl rfl) hS.conv ?_; simp only [evW, putW]); (apply takeIf (i := 2) rfl (by kernel_rfl) (fun _ _ _ h => h); (focus (apply yRun rfl; intro w; first | (go_simp; done) | (go_simp; rfl))); (focus (exact hS.conv)); simp only [putW]); (apply takeIf (i := 3) rfl (by kernel_rfl) (fun _ _ _ h => h); (focus (apply yRun rfl; intro w; first | (go_simp; done) | (go_simp; rfl))); (focus (exact hS.conv)); simp only [putW]); refine wpAnyH_all (rs := [4]) (by kernel_rfl) (by simp) ?_; intro i hi; simp only [List.mem_cons, List.not_mem_nil, or_false] at hi; subst hi; refine wpOp_of_list rfl ?_; go_wp2_with (go_at_call 49; refine Calls.mono (steps_any) ?_; rintro _ w2 ⟨gl, rfl, h2⟩; replace hS := hS.frame h2; clear h2; (try simp only [List.cons_append, List.nil_append] at hS); simp only [putW]); refine ⟨rfl, hS.conv, ?_⟩; refine wpAnyH_all (rs := [5]) (by kernel_rfl) (by simp) ?_; intro i hi; simp only [List.mem_cons, List.not_mem_nil, or_false] at hi; subst hi; refine wpOp_of_list rfl ?_; go_wp2_with (go_at_call 48; refine Calls.mono (hcn hS) ?_; clear hS; rintro _ w ⟨rfl, hS⟩; simp only [putW]); refine ⟨rfl, hS.conv, ?_⟩; refine wpAnyH_done (by kernel_rfl) ?_ _; skip)
  clear hcn
  go_wp2_with (first | (guard_target =~ Calls _ 50 _ _ _; refine Stopped.out ?_) | (refine load1 hS rfl rfl rfl rfl ?_; simp only [putW]))
  refine ⟨?_⟩
  refine Calls.mono (fnum_print (W := (W ++ [kwS 11])) (n := a) (off := 1) (tb := 29) HK.out rfl (by simp; omega) hS) ?_
  clear hS
  rintro _ w (⟨hp0, rfl, hS⟩ | ⟨hp0, rfl, hS⟩)
  rotate_left
  · exact ⟨rfl, .inr ⟨by simp [printW, stepR, guardW, hp0], rfl, hS⟩⟩
  simp only [putW]
  have HP0 : Bx (okN a) := ⟨hp0⟩
  clear hp0
  go_wp2_with (refine load1 hS rfl rfl rfl rfl ?_; simp only [putW])
  go_end0
  refine .inl ⟨_, by simp [printW, stepR, guardW, HP0.out]; rfl, rfl, ?_⟩
  first | exact hS | (simpa using hS)
set_option maxRecDepth 100000 in
set_option maxHeartbeats 1000000 in
theorem step_print12 {a b okd pg : Int} {od da fa : List Int} {bt : Nat} {vo vd vf : Value} (hK : KV w0) (hR : RSt w0 ⟨12, a, b, okd, pg, od, bt, da, fa⟩ vo vd vf) (hW : W.length ≤ 20) (hS : Sat w0 ((fb, pfrm W) :: (sb, cells (stC ⟨12, a, b, okd, pg, od, bt, da, fa⟩ vo vd vf) 29) :: K) w) :
    Calls Tryz.prog 24 #[.pointer (some ⟨fb, 0, none⟩), .pointer (some ⟨sb, 0, none⟩)] w (PrintPost w0 K fb sb (stC ⟨12, a, b, okd, pg, od, bt, da, fa⟩ vo vd vf) W (printW ⟨12, a, b, okd, pg, od, bt, da, fa⟩)) := by
  have HK : Bx _ := ⟨hK⟩
  have HRO : Bx (RB w0 od vo) := ⟨hR.od⟩
  have HRD : Bx (RB w0 da vd) := ⟨hR.da⟩
  have HF : Bx (RI w0 fa vf) := ⟨hR.fa⟩
  have HB : Bx (bt < 18446744073709551616) := ⟨hR.bt⟩
  clear hK hR
  have hcn : ∀ {gl : Nat} {w : World}, Sat w0 ((gl, slc 1 strF stepsL 13 9) :: (fb, pfrm W) :: (sb, cells (stC ⟨12, a, b, okd, pg, od, bt, da, fa⟩ vo vd vf) 29) :: K) w → Calls Tryz.prog 48 #[.pointer (some ⟨fb, 0, none⟩), .pointer (some ⟨sb, 0, none⟩), .slice (some ⟨gl, 0, none⟩) 13 13] w fun e w' => e = .returned (.tuple #[]) ∧ Sat w0 ((fb, pfrm (W ++ [kwS 12])) :: (sb, cells (stC ⟨12, a, b, okd, pg, od, bt, da, fa⟩ vo vd vf) 29) :: K) w' := fun h => (fchoice_print (k := 12) (off := 0) rfl rfl (by decide) (by omega) h).mono fun e w' h2 => by
    rcases h2 with ⟨-, h3, h4⟩ | ⟨h3, -⟩
    · exact ⟨h3, h4⟩
    · exact absurd (show inR 12 13 from ⟨by decide, by decide⟩) h3
  go_enter Tryz.func24, Tryz.ntmps24
  go_upto_region 0 with (refine load1 hS rfl rfl rfl rfl ?_; simp only [putW])
  (refine wp_region_held (S := fun w' => Sat w0 (K) w') (by kernel_rfl) ?_; replace hS := hS.drew; (refine takeIf (i := 0) rfl (by kernel_rfl) (fun _ _ _ h => h) (yMove rfl rfl rfl) hS.conv ?_; simp only [evW, putW]); (refine takeIf (i := 1) rfl (by kernel_rfl) (fun _ _ _ h => h) (yMove rfl rfl rfl) hS.conv ?_; simp only [evW, putW]); (apply takeIf (i := 2) rfl (by kernel_rfl) (fun _ _ _ h => h); (focus (apply yRun rfl; intro w; first | (go_simp; done) | (go_simp; rfl))); (focus (exact hS.conv)); simp only [putW]); (apply takeIf (i := 3) rfl (by kernel_rfl) (fun _ _ _ h => h); (focus (apply yRun rfl; intro w; first | (go_simp; done) | (go_simp; rfl))); (focus (exact hS.conv)); simp only [putW]); refine wpAnyH_all (rs := [4]) (by kernel_rfl) (by simp) ?_; intro i hi; simp only [List.mem_cons, List.not_mem_nil, or_false] at hi; subst hi; refine wpOp_of_list rfl ?_; go_wp2_with (go_at_call 49; refine Calls.mono (steps_any) ?_; rintro _ w2 ⟨gl, rfl, h2⟩; replace hS := hS.frame h2; clear h2; (try simp only [List.cons_append, List.nil_append] at hS); simp only [putW]); refine ⟨rfl, hS.conv, ?_⟩; refine wpAnyH_all (rs := [5]) (by kernel_rfl) (by simp) ?_; intro i hi; simp only [List.mem_cons, List.not_mem_nil, or_false] at hi; subst hi; refine wpOp_of_list rfl ?_; go_wp2_with (go_at_call 48; refine Calls.mono (hcn hS) ?_; clear hS; rintro _ w ⟨rfl, hS⟩; simp only [putW]); refine ⟨rfl, hS.conv, ?_⟩; refine wpAnyH_done (by kernel_rfl) ?_ _; skip)
  clear hcn
  go_wp2_with (first | (guard_target =~ Calls _ 50 _ _ _; refine Stopped.out ?_) | (refine load1 hS rfl rfl rfl rfl ?_; simp only [putW]))
  refine ⟨?_⟩
  refine Calls.mono (fnum_print (W := (W ++ [kwS 12])) (n := a) (off := 1) (tb := 29) HK.out rfl (by simp; omega) hS) ?_
  clear hS
  rintro _ w (⟨hp0, rfl, hS⟩ | ⟨hp0, rfl, hS⟩)
  rotate_left
  · exact ⟨rfl, .inr ⟨by simp [printW, stepR, guardW, hp0], rfl, hS⟩⟩
  simp only [putW]
  have HP0 : Bx (okN a) := ⟨hp0⟩
  clear hp0
  go_wp2_with (guard_target =~ Calls _ 53 _ _ _; refine Stopped.out ?_)
  refine ⟨?_⟩
  refine Calls.mono (fbits_print (W := ((W ++ [kwS 12]) ++ [Lib.itoa a])) (n := bt) (off := 6) (tb := 29) HK.out HB.out rfl (by simp; omega) hS) ?_
  clear hS
  rintro _ w ⟨rfl, hS⟩
  simp only [putW]
  have HP1 : Bx True := ⟨trivial⟩
  go_wp2_with (refine load1 hS rfl rfl rfl rfl ?_; simp only [putW])
  go_end0
  refine .inl ⟨_, by simp [printW, stepR, guardW, HP0.out]; rfl, rfl, ?_⟩
  first | exact hS | (simpa using hS)
end
end Go.Proofs.YtpbjkfomdindnaaGreatDoor
