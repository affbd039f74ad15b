/-
  script.form.ask, gathering: printed by program (mkprint.py).
-/
import Derived.Test.YtpbjkfomdindnaaGreatDoorScPc
set_option linter.unusedSimpArgs false
set_option linter.unusedVariables false
namespace Go.Proofs.YtpbjkfomdindnaaGreatDoor
open Go.RowKit Go.Shelf Go.Proofs.YtpbjkfomdindnaaGreatDoor.Sl Go.Proofs.YtpbjkfomdindnaaGreatDoor.Jp Go.Proofs.YtpbjkfomdindnaaGreatDoor.Sc

abbrev PrintPost (w0 : World) (K : List Chunk) (fb sb : Nat) (c : Array Value) (W : List Bs) (R : Option (List Bs)) (e : Ending) (w' : World) : Prop :=
  (∃ Y, R = some Y ∧ e = .returned (.tuple #[]) ∧ Sat w0 ((fb, pfrm (W ++ Y)) :: (sb, cells c 29) :: K) w') ∨ (R = none ∧ e = .panicked badP ∧ Sat w0 K w')
section
variable {w0 w : World} {S F K : List Chunk} {W : List Bs} {fb sb : Nat}
set_option maxRecDepth 100000 in
set_option maxHeartbeats 1000000 in
theorem ask_print1 {kind a b pg : Int} {od da fa : List Int} {bt : Nat} {vo vd vf : Value} (hK : KV w0) (ho : RB w0 od vo) (hb : bt < 18446744073709551616) (hW : W.length ≤ 50) (hS : Sat w0 ((fb, pfrm W) :: (sb, cells (stC ⟨kind, a, b, 1, pg, od, bt, da, fa⟩ vo vd vf) 29) :: K) w) :
    Calls Tryz.prog 54 #[.pointer (some ⟨fb, 0, none⟩), .pointer (some ⟨sb, 3, none⟩)] w (PrintPost w0 K fb sb (stC ⟨kind, a, b, 1, pg, od, bt, da, fa⟩ vo vd vf) W (askR ⟨kind, a, b, 1, pg, od, bt, da, fa⟩)) := by
  have HK : Bx _ := ⟨hK⟩
  have HRO : Bx _ := ⟨ho⟩
  have HB : Bx _ := ⟨hb⟩
  clear hK ho hb
  have hcn : ∀ {gl : Nat} {w : World}, Sat w0 ((gl, slc 1 strF asksL 7 9) :: (fb, pfrm W) :: (sb, cells (stC ⟨kind, a, b, 1, pg, od, bt, da, fa⟩ vo vd vf) 29) :: K) w → Calls Tryz.prog 48 #[.pointer (some ⟨fb, 0, none⟩), .pointer (some ⟨sb, 3, none⟩), .slice (some ⟨gl, 0, none⟩) 7 7] w fun e w' => e = .returned (.tuple #[]) ∧ Sat w0 ((fb, pfrm (W ++ [kwA 1])) :: (sb, cells (stC ⟨kind, a, b, 1, pg, od, bt, da, fa⟩ vo vd vf) 29) :: K) w' := fun h => (fchoice_print (k := 1) (off := 3) rfl rfl (by decide) (by omega) h).mono fun e w' h2 => by
    rcases h2 with ⟨-, h3, h4⟩ | ⟨h3, -⟩
    · exact ⟨h3, h4⟩
    · exact absurd (show inR 1 7 from ⟨by decide, by decide⟩) h3
  go_enter Tryz.func54, Tryz.ntmps54
  go_upto_region 0 with (refine load1 hS rfl rfl rfl rfl ?_; simp only [putW])
  (refine wp_region_held (S := fun w' => Sat w0 (K) w') (by kernel_rfl) ?_; replace hS := hS.drew; (refine takeIf (i := 0) rfl (by kernel_rfl) (fun _ _ _ h => h) (yMove rfl rfl rfl) hS.conv ?_; simp only [evW, putW]); (refine takeIf (i := 1) rfl (by kernel_rfl) (fun _ _ _ h => h) (yMove rfl rfl rfl) hS.conv ?_; simp only [evW, putW]); (apply takeIf (i := 2) rfl (by kernel_rfl) (fun _ _ _ h => h); (focus (apply yRun rfl; intro w; first | (go_simp; done) | (go_simp; rfl))); (focus (exact hS.conv)); simp only [putW]); (apply takeIf (i := 3) rfl (by kernel_rfl) (fun _ _ _ h => h); (focus (apply yRun rfl; intro w; first | (go_simp; done) | (go_simp; rfl))); (focus (exact hS.conv)); simp only [putW]); refine wpAnyH_all (rs := [4]) (by kernel_rfl) (by simp) ?_; intro i hi; simp only [List.mem_cons, List.not_mem_nil, or_false] at hi; subst hi; refine wpOp_of_list rfl ?_; go_wp2_with (go_at_call 81; refine Calls.mono (asks_any) ?_; rintro _ w2 ⟨gl, rfl, h2⟩; replace hS := hS.frame h2; clear h2; (try simp only [List.cons_append, List.nil_append] at hS); simp only [putW]); refine ⟨rfl, hS.conv, ?_⟩; refine wpAnyH_all (rs := [5]) (by kernel_rfl) (by simp) ?_; intro i hi; simp only [List.mem_cons, List.not_mem_nil, or_false] at hi; subst hi; refine wpOp_of_list rfl ?_; go_wp2_with (go_at_call 48; refine Calls.mono (hcn hS) ?_; clear hS; rintro _ w ⟨rfl, hS⟩; simp only [putW]); refine ⟨rfl, hS.conv, ?_⟩; refine wpAnyH_done (by kernel_rfl) ?_ _; skip)
  clear hcn
  go_wp2_with (first | (guard_target =~ Calls _ 50 _ _ _; refine Stopped.out ?_) | (refine load1 hS rfl rfl rfl rfl ?_; simp only [putW]))
  refine ⟨?_⟩
  refine Calls.mono (fnum_print (W := (W ++ [kwA 1])) (n := pg) (off := 4) (tb := 29) HK.out rfl (by simp; omega) hS) ?_
  clear hS
  rintro _ w (⟨hp0, rfl, hS⟩ | ⟨hp0, rfl, hS⟩)
  rotate_left
  · exact ⟨rfl, .inr ⟨by simp [askR, guardW, hp0], rfl, hS⟩⟩
  simp only [putW]
  have HP0 : Bx (okN pg) := ⟨hp0⟩
  clear hp0
  go_wp2_with (refine load1 hS rfl rfl rfl rfl ?_; simp only [putW])
  go_end0
  refine .inl ⟨_, by simp [askR, guardW, HP0.out]; rfl, rfl, ?_⟩
  first | exact hS | (simpa using hS)
set_option maxRecDepth 100000 in
set_option maxHeartbeats 1000000 in
theorem ask_print2 {kind a b pg : Int} {od da fa : List Int} {bt : Nat} {vo vd vf : Value} (hK : KV w0) (ho : RB w0 od vo) (hb : bt < 18446744073709551616) (hW : W.length ≤ 50) (hS : Sat w0 ((fb, pfrm W) :: (sb, cells (stC ⟨kind, a, b, 2, pg, od, bt, da, fa⟩ vo vd vf) 29) :: K) w) :
    Calls Tryz.prog 54 #[.pointer (some ⟨fb, 0, none⟩), .pointer (some ⟨sb, 3, none⟩)] w (PrintPost w0 K fb sb (stC ⟨kind, a, b, 2, pg, od, bt, da, fa⟩ vo vd vf) W (askR ⟨kind, a, b, 2, pg, od, bt, da, fa⟩)) := by
  have HK : Bx _ := ⟨hK⟩
  have HRO : Bx _ := ⟨ho⟩
  have HB : Bx _ := ⟨hb⟩
  clear hK ho hb
  have hcn : ∀ {gl : Nat} {w : World}, Sat w0 ((gl, slc 1 strF asksL 7 9) :: (fb, pfrm W) :: (sb, cells (stC ⟨kind, a, b, 2, pg, od, bt, da, fa⟩ vo vd vf) 29) :: K) w → Calls Tryz.prog 48 #[.pointer (some ⟨fb, 0, none⟩), .pointer (some ⟨sb, 3, none⟩), .slice (some ⟨gl, 0, none⟩) 7 7] w fun e w' => e = .returned (.tuple #[]) ∧ Sat w0 ((fb, pfrm (W ++ [kwA 2])) :: (sb, cells (stC ⟨kind, a, b, 2, pg, od, bt, da, fa⟩ vo vd vf) 29) :: K) w' := fun h => (fchoice_print (k := 2) (off := 3) rfl rfl (by decide) (by omega) h).mono fun e w' h2 => by
    rcases h2 with ⟨-, h3, h4⟩ | ⟨h3, -⟩
    · exact ⟨h3, h4⟩
    · exact absurd (show inR 2 7 from ⟨by decide, by decide⟩) h3
  go_enter Tryz.func54, Tryz.ntmps54
  go_upto_region 0 with (refine load1 hS rfl rfl rfl rfl ?_; simp only [putW])
  (refine wp_region_held (S := fun w' => Sat w0 (K) w') (by kernel_rfl) ?_; replace hS := hS.drew; (refine takeIf (i := 0) rfl (by kernel_rfl) (fun _ _ _ h => h) (yMove rfl rfl rfl) hS.conv ?_; simp only [evW, putW]); (refine takeIf (i := 1) rfl (by kernel_rfl) (fun _ _ _ h => h) (yMove rfl rfl rfl) hS.conv ?_; simp only [evW, putW]); (apply takeIf (i := 2) rfl (by kernel_rfl) (fun _ _ _ h => h); (focus (apply yRun rfl; intro w; first | (go_simp; done) | (go_simp; rfl))); (focus (exact hS.conv)); simp only [putW]); (apply takeIf (i := 3) rfl (by kernel_rfl) (fun _ _ _ h => h); (focus (apply yRun rfl; intro w; first | (go_simp; done) | (go_simp; rfl))); (focus (exact hS.conv)); simp only [putW]); refine wpAnyH_all (rs := [4]) (by kernel_rfl) (by simp) ?_; intro i hi; simp only [List.mem_cons, List.not_mem_nil, or_false] at hi; subst hi; refine wpOp_of_list rfl ?_; go_wp2_with (go_at_call 81; refine Calls.mono (asks_any) ?_; rintro _ w2 ⟨gl, rfl, h2⟩; replace hS := hS.frame h2; clear h2; (try simp only [List.cons_append, List.nil_append] at hS); simp only [putW]); refine ⟨rfl, hS.conv, ?_⟩; refine wpAnyH_all (rs := [5]) (by kernel_rfl) (by simp) ?_; intro i hi; simp only [List.mem_cons, List.not_mem_nil, or_false] at hi; subst hi; refine wpOp_of_list rfl ?_; go_wp2_with (go_at_call 48; refine Calls.mono (hcn hS) ?_; clear hS; rintro _ w ⟨rfl, hS⟩; simp only [putW]); refine ⟨rfl, hS.conv, ?_⟩; refine wpAnyH_done (by kernel_rfl) ?_ _; skip)
  clear hcn
  go_wp2_with (first | (guard_target =~ Calls _ 50 _ _ _; refine Stopped.out ?_) | (refine load1 hS rfl rfl rfl rfl ?_; simp only [putW]))
  refine ⟨?_⟩
  refine Calls.mono (fnum_print (W := (W ++ [kwA 2])) (n := pg) (off := 4) (tb := 29) HK.out rfl (by simp; omega) hS) ?_
  clear hS
  rintro _ w (⟨hp0, rfl, hS⟩ | ⟨hp0, rfl, hS⟩)
  rotate_left
  · exact ⟨rfl, .inr ⟨by simp [askR, guardW, hp0], rfl, hS⟩⟩
  simp only [putW]
  have HP0 : Bx (okN pg) := ⟨hp0⟩
  clear hp0
  go_wp2_with (guard_target =~ Calls _ 51 _ _ _; refine Stopped.out ?_)
  refine ⟨?_⟩
  refine Calls.mono (fdata_print (W := ((W ++ [kwA 2]) ++ [Lib.itoa pg])) (mx := 240) (A := od) (va := vo) (off := 5) (tb := 29) (by decide) HRO.out rfl (by simp; omega) hS) ?_
  clear hS
  rintro _ w (⟨hp1, rfl, hS⟩ | ⟨hp1, rfl, hS⟩)
  rotate_left
  · exact ⟨rfl, .inr ⟨by simp [askR, guardW, hp1], rfl, hS⟩⟩
  simp only [putW]
  have HP1 : Bx (od.length ≤ 240) := ⟨hp1⟩
  clear hp1
  go_wp2_with (refine load1 hS rfl rfl rfl rfl ?_; simp only [putW])
  go_end0
  refine .inl ⟨_, by simp [askR, guardW, HP0.out, HP1.out]; rfl, rfl, ?_⟩
  first | exact hS | (simpa using hS)
set_option maxRecDepth 100000 in
set_option maxHeartbeats 1000000 in
theorem ask_print3 {kind a b pg : Int} {od da fa : List Int} {bt : Nat} {vo vd vf : Value} (hK : KV w0) (ho : RB w0 od vo) (hb : bt < 18446744073709551616) (hW : W.length ≤ 50) (hS : Sat w0 ((fb, pfrm W) :: (sb, cells (stC ⟨kind, a, b, 3, pg, od, bt, da, fa⟩ vo vd vf) 29) :: K) w) :
    Calls Tryz.prog 54 #[.pointer (some ⟨fb, 0, none⟩), .pointer (some ⟨sb, 3, none⟩)] w (PrintPost w0 K fb sb (stC ⟨kind, a, b, 3, pg, od, bt, da, fa⟩ vo vd vf) W (askR ⟨kind, a, b, 3, pg, od, bt, da, fa⟩)) := by
  have HK : Bx _ := ⟨hK⟩
  have HRO : Bx _ := ⟨ho⟩
  have HB : Bx _ := ⟨hb⟩
  clear hK ho hb
  have hcn : ∀ {gl : Nat} {w : World}, Sat w0 ((gl, slc 1 strF asksL 7 9) :: (fb, pfrm W) :: (sb, cells (stC ⟨kind, a, b, 3, pg, od, bt, da, fa⟩ vo vd vf) 29) :: K) w → Calls Tryz.prog 48 #[.pointer (some ⟨fb, 0, none⟩), .pointer (some ⟨sb, 3, none⟩), .slice (some ⟨gl, 0, none⟩) 7 7] w fun e w' => e = .returned (.tuple #[]) ∧ Sat w0 ((fb, pfrm (W ++ [kwA 3])) :: (sb, cells (stC ⟨kind, a, b, 3, pg, od, bt, da, fa⟩ vo vd vf) 29) :: K) w' := fun h => (fchoice_print (k := 3) (off := 3) rfl rfl (by decide) (by omega) h).mono fun e w' h2 => by
    rcases h2 with ⟨-, h3, h4⟩ | ⟨h3, -⟩
    · exact ⟨h3, h4⟩
    · exact absurd (show inR 3 7 from ⟨by decide, by decide⟩) h3
  go_enter Tryz.func54, Tryz.ntmps54
  go_upto_region 0 with (refine load1 hS rfl rfl rfl rfl ?_; simp only [putW])
  (refine wp_region_held (S := fun w' => Sat w0 (K) w') (by kernel_rfl) ?_; replace hS := hS.drew; (refine takeIf (i := 0) rfl (by kernel_rfl) (fun _ _ _ h => h) (yMove rfl rfl rfl) hS.conv ?_; simp only [evW, putW]); (refine takeIf (i := 1) rfl (by kernel_rfl) (fun _ _ _ h => h) (yMove rfl rfl rfl) hS.conv ?_; simp only [evW, putW]); (apply takeIf (i := 2) rfl (by kernel_rfl) (fun _ _ _ h => h); (focus (apply yRun rfl; intro w; first | (go_simp; done) | (go_simp; rfl))); (focus (exact hS.conv)); simp only [putW]); (apply takeIf (i := 3) rfl (by kernel_rfl) (fun _ _ _ h => h); (focus (apply yRun rfl; intro w; first | (go_simp; done) | (go_simp; rfl))); (focus (exact hS.conv)); simp only [putW]); refine wpAnyH_all (rs := [4]) (by kernel_rfl) (by simp) ?_; intro i hi; simp only [List.mem_cons, List.not_mem_nil, or_false] at hi; subst hi; refine wpOp_of_list rfl ?_; go_wp2_with (go_at_call 81; refine Calls.mono (asks_any) ?_; rintro _ w2 ⟨gl, rfl, h2⟩; replace hS := hS.frame h2; clear h2; (try simp only [List.cons_append, List.nil_append] at hS); simp only [putW]); refine ⟨rfl, hS.conv, ?_⟩; refine wpAnyH_all (rs := [5]) (by kernel_rfl) (by simp) ?_; intro i hi; simp only [List.mem_cons, List.not_mem_nil, or_false] at hi; subst hi; refine wpOp_of_list rfl ?_; go_wp2_with (go_at_call 48; refine Calls.mono (hcn hS) ?_; clear hS; rintro _ w ⟨rfl, hS⟩; simp only [putW]); refine ⟨rfl, hS.conv, ?_⟩; refine wpAnyH_done (by kernel_rfl) ?_ _; skip)
  clear hcn
  go_wp2_with (refine load1 hS rfl rfl rfl rfl ?_; simp only [putW])
  go_end0
  refine .inl ⟨_, by simp [askR, guardW]; rfl, rfl, ?_⟩
  first | exact hS | (simpa using hS)
set_option maxRecDepth 100000 in
set_option maxHeartbeats 1000000 in
theorem ask_print4 {kind a b pg : Int} {od da fa : List Int} {bt : Nat} {vo vd vf : Value} (hK : KV w0) (ho : RB w0 od vo) (hb : bt < 18446744073709551616) (hW : W.length ≤ 50) (hS : Sat w0 ((fb, pfrm W) :: (sb, cells (stC ⟨kind, a, b, 4, pg, od, bt, da, fa⟩ vo vd vf) 29) :: K) w) :
    Calls Tryz.prog 54 #[.pointer (some ⟨fb, 0, none⟩), .pointer (some ⟨sb, 3, none⟩)] w (PrintPost w0 K fb sb (stC ⟨kind, a, b, 4, pg, od, bt, da, fa⟩ vo vd vf) W (askR ⟨kind, a, b, 4, pg, od, bt, da, fa⟩)) := by
  have HK : Bx _ := ⟨hK⟩
  have HRO : Bx _ := ⟨ho⟩
  have HB : Bx _ := ⟨hb⟩
  clear hK ho hb
  have hcn : ∀ {gl : Nat} {w : World}, Sat w0 ((gl, slc 1 strF asksL 7 9) :: (fb, pfrm W) :: (sb, cells (stC ⟨kind, a, b, 4, pg, od, bt, da, fa⟩ vo vd vf) 29) :: K) w → Calls Tryz.prog 48 #[.pointer (some ⟨fb, 0, none⟩), .pointer (some ⟨sb, 3, none⟩), .slice (some ⟨gl, 0, none⟩) 7 7] w fun e w' => e = .returned (.tuple #[]) ∧ Sat w0 ((fb, pfrm (W ++ [kwA 4])) :: (sb, cells (stC ⟨kind, a, b, 4, pg, od, bt, da, fa⟩ vo vd vf) 29) :: K) w' := fun h => (fchoice_print (k := 4) (off := 3) rfl rfl (by decide) (by omega) h).mono fun e w' h2 => by
    rcases h2 with ⟨-, h3, h4⟩ | ⟨h3, -⟩
    · exact ⟨h3, h4⟩
    · exact absurd (show inR 4 7 from ⟨by decide, by decide⟩) h3
  go_enter Tryz.func54, Tryz.ntmps54
  go_upto_region 0 with (refine load1 hS rfl rfl rfl rfl ?_; simp only [putW])
  (refine wp_region_held (S := fun w' => Sat w0 (K) w') (by kernel_rfl) ?_; replace hS := hS.drew; (refine takeIf (i := 0) rfl (by kernel_rfl) (fun _ _ _ h => h) (yMove rfl rfl rfl) hS.conv ?_; simp only [evW, putW]); (refine takeIf (i := 1) rfl (by kernel_rfl) (fun _ _ _ h => h) (yMove rfl rfl rfl) hS.conv ?_; simp only [evW, putW]); (apply takeIf (i := 2) rfl (by kernel_rfl) (fun _ _ _ h => h); (focus (apply yRun rfl; intro w; first | (go_simp; done) | (go_simp; rfl))); (focus (exact hS.conv)); simp only [putW]); (apply takeIf (i := 3) rfl (by kernel_rfl) (fun _ _ _ h => h); (focus (apply yRun rfl; intro w; first | (go_simp; done) | (go_simp; rfl))); (focus (exact hS.conv)); simp only [putW]); refine wpAnyH_all (rs := [4]) (by kernel_rfl) (by simp) ?_; intro i hi; simp only [List.mem_cons, List.not_mem_nil, or_false] at hi; subst hi; refine wpOp_of_list rfl ?_; go_wp2_with (go_at_call 81; refine Calls.mono (asks_any) ?_; rintro _ w2 ⟨gl, rfl, h2⟩; replace hS := hS.frame h2; clear h2; (try simp only [List.cons_append, List.nil_append] at hS); simp only [putW]); refine ⟨rfl, hS.conv, ?_⟩; refine wpAnyH_all (rs := [5]) (by kernel_rfl) (by simp) ?_; intro i hi; simp only [List.mem_cons, List.not_mem_nil, or_false] at hi; subst hi; refine wpOp_of_list rfl ?_; go_wp2_with (go_at_call 48; refine Calls.mono (hcn hS) ?_; clear hS; rintro _ w ⟨rfl, hS⟩; simp only [putW]); refine ⟨rfl, hS.conv, ?_⟩; refine wpAnyH_done (by kernel_rfl) ?_ _; skip)
  clear hcn
  go_wp2_with (refine load1 hS rfl rfl rfl rfl ?_; simp only [putW])
  go_end0
  refine .inl ⟨_, by simp [askR, guardW]; rfl, rfl, ?_⟩
  first | exact hS | (simpa using hS)
set_option maxRecDepth 100000 in
set_option maxHeartbeats 1000000 in
theorem ask_print5 {kind a b pg : Int} {od da fa : List Int} {bt : Nat} {vo vd vf : Value} (hK : KV w0) (ho : RB w0 od vo) (hb : bt < 18446744073709551616) (hW : W.length ≤ 50) (hS : Sat w0 ((fb, pfrm W) :: (sb, cells (stC ⟨kind, a, b, 5, pg, od, bt, da, fa⟩ vo vd vf) 29) :: K) w) :
    Calls Tryz.prog 54 #[.pointer (some ⟨fb, 0, none⟩), .pointer (some ⟨sb, 3, none⟩)] w (PrintPost w0 K fb sb (stC ⟨kind, a, b, 5, pg, od, bt, da, fa⟩ vo vd vf) W (askR ⟨kind, a, b, 5, pg, od, bt, da, fa⟩)) := by
  have HK : Bx _ := ⟨hK⟩
  have HRO : Bx _ := ⟨ho⟩
  have HB : Bx _ := ⟨hb⟩
  clear hK ho hb
  have hcn : ∀ {gl : Nat} {w : World}, Sat w0 ((gl, slc 1 strF asksL 7 9) :: (fb, pfrm W) :: (sb, cells (stC ⟨kind, a, b, 5, pg, od, bt, da, fa⟩ vo vd vf) 29) :: K) w → Calls Tryz.prog 48 #[.pointer (some ⟨fb, 0, none⟩), .pointer (some ⟨sb, 3, none⟩), .slice (some ⟨gl, 0, none⟩) 7 7] w fun e w' => e = .returned (.tuple #[]) ∧ Sat w0 ((fb, pfrm (W ++ [kwA 5])) :: (sb, cells (stC ⟨kind, a, b, 5, pg, od, bt, da, fa⟩ vo vd vf) 29) :: K) w' := fun h => (fchoice_print (k := 5) (off := 3) rfl rfl (by decide) (by omega) h).mono fun e w' h2 => by
    rcases h2 with ⟨-, h3, h4⟩ | ⟨h3, -⟩
    · exact ⟨h3, h4⟩
    · exact absurd (show inR 5 7 from ⟨by decide, by decide⟩) h3
  go_enter Tryz.func54, Tryz.ntmps54
  go_upto_region 0 with (refine load1 hS rfl rfl rfl rfl ?_; simp only [putW])
  (refine wp_region_held (S := fun w' => Sat w0 (K) w') (by kernel_rfl) ?_; replace hS := hS.drew; (refine takeIf (i := 0) rfl (by kernel_rfl) (fun _ _ _ h => h) (yMove rfl rfl rfl) hS.conv ?_; simp only [evW, putW]); (refine takeIf (i := 1) rfl (by kernel_rfl) (fun _ _ _ h => h) (yMove rfl rfl rfl) hS.conv ?_; simp only [evW, putW]); (apply takeIf (i := 2) rfl (by kernel_rfl) (fun _ _ _ h => h); (focus (apply yRun rfl; intro w; first | (go_simp; done) | (go_simp; rfl))); (focus (exact hS.conv)); simp only [putW]); (apply takeIf (i := 3) rfl (by kernel_rfl) (fun _ _ _ h => h); (focus (apply yRun rfl; intro w; first | (go_simp; done) | (go_simp; rfl))); (focus (exact hS.conv)); simp only [putW]); refine wpAnyH_all (rs := [4]) (by kernel_rfl) (by simp) ?_; intro i hi; simp only [List.mem_cons, List.not_mem_nil, or_false] at hi; subst hi; refine wpOp_of_list rfl ?_; go_wp2_with (go_at_call 81; refine Calls.mono (asks_any) ?_; rintro _ w2 ⟨gl, rfl, h2⟩; replace hS := hS.frame h2; clear h2; (try simp only [List.cons_append, List.nil_append] at hS); simp only [putW]); refine ⟨rfl, hS.conv, ?_⟩; refine wpAnyH_all (rs := [5]) (by kernel_rfl) (by simp) ?_; intro i hi; simp only [List.mem_cons, List.not_mem_nil, or_false] at hi; subst hi; refine wpOp_of_list rfl ?_; go_wp2_with (go_at_call 48; refine Calls.mono (hcn hS) ?_; clear hS; rintro _ w ⟨rfl, hS⟩; simp only [putW]); refine ⟨rfl, hS.conv, ?_⟩; refine wpAnyH_done (by kernel_rfl) ?_ _; skip)
  clear hcn
  go_wp2_with (first | (guard_target =~ Calls _ 50 _ _ _; refine Stopped.out ?_) | (refine load1 hS rfl rfl rfl rfl ?_; simp only [putW]))
  refine ⟨?_⟩
  refine Calls.mono (fnum_print (W := (W ++ [kwA 5])) (n := pg) (off := 4) (tb := 29) HK.out rfl (by simp; omega) hS) ?_
  clear hS
  rintro _ w (⟨hp0, rfl, hS⟩ | ⟨hp0, rfl, hS⟩)
  rotate_left
  · exact ⟨rfl, .inr ⟨by simp [askR, guardW, hp0], rfl, hS⟩⟩
  simp only [putW]
  have HP0 : Bx (okN pg) := ⟨hp0⟩
  clear hp0
  go_wp2_with (guard_target =~ Calls _ 53 _ _ _; refine Stopped.out ?_)
  refine ⟨?_⟩
  refine Calls.mono (fbits_print (W := ((W ++ [kwA 5]) ++ [Lib.itoa pg])) (n := bt) (off := 6) (tb := 29) HK.out HB.out rfl (by simp; omega) hS) ?_
  clear hS
  rintro _ w ⟨rfl, hS⟩
  simp only [putW]
  have HP1 : Bx True := ⟨trivial⟩
  go_wp2_with (refine load1 hS rfl rfl rfl rfl ?_; simp only [putW])
  go_end0
  refine .inl ⟨_, by simp [askR, guardW, HP0.out]; rfl, rfl, ?_⟩
  first | exact hS | (simpa using hS)
set_option maxRecDepth 100000 in
set_option maxHeartbeats 1000000 in
theorem ask_print6 {kind a b pg : Int} {od da fa : List Int} {bt : Nat} {vo vd vf : Value} (hK : KV w0) (ho : RB w0 od vo) (hb : bt < 18446744073709551616) (hW : W.length ≤ 50) (hS : Sat w0 ((fb, pfrm W) :: (sb, cells (stC ⟨kind, a, b, 6, pg, od, bt, da, fa⟩ vo vd vf) 29) :: K) w) :
    Calls Tryz.prog 54 #[.pointer (some ⟨fb, 0, none⟩), .pointer (some ⟨sb, 3, none⟩)] w (PrintPost w0 K fb sb (stC ⟨kind, a, b, 6, pg, od, bt, da, fa⟩ vo vd vf) W (askR ⟨kind, a, b, 6, pg, od, bt, da, fa⟩)) := by
  have HK : Bx _ := ⟨hK⟩
  have HRO : Bx _ := ⟨ho⟩
  have HB : Bx _ := ⟨hb⟩
  clear hK ho hb
  have hcn : ∀ {gl : Nat} {w : World}, Sat w0 ((gl, slc 1 strF asksL 7 9) :: (fb, pfrm W) :: (sb, cells (stC ⟨kind, a, b, 6, pg, od, bt, da, fa⟩ vo vd vf) 29) :: K) w → Calls Tryz.prog 48 #[.pointer (some ⟨fb, 0, none⟩), .pointer (some ⟨sb, 3, none⟩), .slice (some ⟨gl, 0, none⟩) 7 7] w fun e w' => e = .returned (.tuple #[]) ∧ Sat w0 ((fb, pfrm (W ++ [kwA 6])) :: (sb, cells (stC ⟨kind, a, b, 6, pg, od, bt, da, fa⟩ vo vd vf) 29) :: K) w' := fun h => (fchoice_print (k := 6) (off := 3) rfl rfl (by decide) (by omega) h).mono fun e w' h2 => by
    rcases h2 with ⟨-, h3, h4⟩ | ⟨h3, -⟩
    · exact ⟨h3, h4⟩
    · exact absurd (show inR 6 7 from ⟨by decide, by decide⟩) h3
  go_enter Tryz.func54, Tryz.ntmps54
  go_upto_region 0 with (refine load1 hS rfl rfl rfl rfl ?_; simp only [putW])
  (refine wp_region_held (S := fun w' => Sat w0 (K) w') (by kernel_rfl) ?_; replace hS := hS.drew; (refine takeIf (i := 0) rfl (by kernel_rfl) (fun _ _ _ h => h) (yMove rfl rfl rfl) hS.conv ?_; simp only [evW, putW]); (refine takeIf (i := 1) rfl (by kernel_rfl) (fun _ _ _ h => h) (yMove rfl rfl rfl) hS.conv ?_; simp only [evW, putW]); (apply takeIf (i := 2) rfl (by kernel_rfl) (fun _ _ _ h => h); (focus (apply yRun rfl; intro w; first | (go_simp; done) | (go_simp; rfl))); (focus (exact hS.conv)); simp only [putW]); (apply takeIf (i := 3) rfl (by kernel_rfl) (fun _ _ _ h => h); (focus (apply yRun rfl; intro w; first | (go_simp; done) | (go_simp; rfl))); (focus (exact hS.conv)); simp only [putW]); refine wpAnyH_all (rs := [4]) (by kernel_rfl) (by simp) ?_; intro i hi; simp only [List.mem_cons, List.not_mem_nil, or_false] at hi; subst hi; refine wpOp_of_list rfl ?_; go_wp2_with (go_at_call 81; refine Calls.mono (asks_any) ?_; rintro _ w2 ⟨gl, rfl, h2⟩; replace hS := hS.frame h2; clear h2; (try simp only [List.cons_append, List.nil_append] at hS); simp only [putW]); refine ⟨rfl, hS.conv, ?_⟩; refine wpAnyH_all (rs := [5]) (by kernel_rfl) (by simp) ?_; intro i hi; simp only [List.mem_cons, List.not_mem_nil, or_false] at hi; subst hi; refine wpOp_of_list rfl ?_; go_wp2_with (go_at_call 48; refine Calls.mono (hcn hS) ?_; clear hS; rintro _ w ⟨rfl, hS⟩; simp only [putW]); refine ⟨rfl, hS.conv, ?_⟩; refine wpAnyH_done (by kernel_rfl) ?_ _; skip)
  clear hcn
  go_wp2_with (refine load1 hS rfl rfl rfl rfl ?_; simp only [putW])
  go_end0
  refine .inl ⟨_, by simp [askR, guardW]; rfl, rfl, ?_⟩
  first | exact hS | (simpa using hS)
set_option maxRecDepth 100000 in
set_option maxHeartbeats 1000000 in
theorem ask_printN {kind a b okd pg : Int} {od da fa : List Int} {bt : Nat} {vo vd vf : Value} (hk : ¬ inR okd 7) (hW : W.length ≤ 50) (hS : Sat w0 ((fb, pfrm W) :: (sb, cells (stC ⟨kind, a, b, okd, pg, od, bt, da, fa⟩ vo vd vf) 29) :: K) w) :
    Calls Tryz.prog 54 #[.pointer (some ⟨fb, 0, none⟩), .pointer (some ⟨sb, 3, none⟩)] w (PrintPost w0 K fb sb (stC ⟨kind, a, b, okd, pg, od, bt, da, fa⟩ vo vd vf) W (askR ⟨kind, a, b, okd, pg, od, bt, da, fa⟩)) := by
  have HN : Bx (askR ⟨kind, a, b, okd, pg, od, bt, da, fa⟩ = none) := ⟨by unfold askR; exact if_neg (show ¬ (1 ≤ okd ∧ okd < 7) from hk)⟩
  have hcn : ∀ {gl : Nat} {w : World}, Sat w0 ((gl, slc 1 strF asksL 7 9) :: (fb, pfrm W) :: (sb, cells (stC ⟨kind, a, b, okd, pg, od, bt, da, fa⟩ vo vd vf) 29) :: K) w → Calls Tryz.prog 48 #[.pointer (some ⟨fb, 0, none⟩), .pointer (some ⟨sb, 3, none⟩), .slice (some ⟨gl, 0, none⟩) 7 7] w fun e w' => e = .panicked badP ∧ Sat w0 K w' := fun h => (fchoice_print (k := okd) (off := 3) rfl rfl (by decide) (by omega) h).mono fun e w' h2 => by
    rcases h2 with ⟨h3, -⟩ | ⟨-, h3, h4⟩
    · exact absurd h3 hk
    · exact ⟨h3, h4⟩
  clear hk
  go_enter Tryz.func54, Tryz.ntmps54
  go_upto_region 0 with (refine load1 hS rfl rfl rfl rfl ?_; simp only [putW])
  (refine wp_region_held (S := fun w' => Sat w0 ((fb, pfrm W) :: (sb, cells (stC ⟨kind, a, b, okd, pg, od, bt, da, fa⟩ vo vd vf) 29) :: K) w') (by kernel_rfl) ?_; replace hS := hS.drew; (refine takeIf (i := 0) rfl (by kernel_rfl) (fun _ _ _ h => h) (yMove rfl rfl rfl) hS.conv ?_; simp only [evW, putW]); (refine takeIf (i := 1) rfl (by kernel_rfl) (fun _ _ _ h => h) (yMove rfl rfl rfl) hS.conv ?_; simp only [evW, putW]); (apply takeIf (i := 2) rfl (by kernel_rfl) (fun _ _ _ h => h); (focus (apply yRun rfl; intro w; first | (go_simp; done) | (go_simp; rfl))); (focus (exact hS.conv)); simp only [putW]); (apply takeIf (i := 3) rfl (by kernel_rfl) (fun _ _ _ h => h); (focus (apply yRun rfl; intro w; first | (go_simp; done) | (go_simp; rfl))); (focus (exact hS.conv)); simp only [putW]); refine wpAnyH_all (rs := [4]) (by kernel_rfl) (by simp) ?_; intro i hi; simp only [List.mem_cons, List.not_mem_nil, or_false] at hi; subst hi; refine wpOp_of_list rfl ?_; go_wp2_with (go_at_call 81; refine Calls.mono (asks_any) ?_; rintro _ w2 ⟨gl, rfl, h2⟩; replace hS := hS.frame h2; clear h2; (try simp only [List.cons_append, List.nil_append] at hS); simp only [putW]); refine ⟨rfl, hS.conv, ?_⟩; refine wpAnyH_all (rs := [5]) (by kernel_rfl) (by simp) ?_; intro i hi; simp only [List.mem_cons, List.not_mem_nil, or_false] at hi; subst hi; refine opPanic rfl rfl Tryz.call48 rfl ?_; refine Calls.mono (hcn hS) ?_; rintro _ w2 ⟨rfl, hS⟩; refine ⟨_, rfl, ?_⟩; (exact ⟨rfl, .inr ⟨HN.out, rfl, hS⟩⟩))
theorem ask_print {s : St} {vo vd vf : Value} (hK : KV w0) (ho : RB w0 s.od vo) (hb : s.bt < 18446744073709551616) (hW : W.length ≤ 50) (hS : Sat w0 ((fb, pfrm W) :: (sb, cells (stC s vo vd vf) 29) :: K) w) :
    Calls Tryz.prog 54 #[.pointer (some ⟨fb, 0, none⟩), .pointer (some ⟨sb, 3, none⟩)] w (PrintPost w0 K fb sb (stC s vo vd vf) W (askR s)) := by
  obtain ⟨kind, a, b, okd, pg, od, bt, da, fa⟩ := s
  by_cases hk : inR okd 7
  · obtain ⟨k1, k2⟩ := hk
    rcases kinds6 k1 (by omega) with e | e | e | e | e | e <;> subst e
    · exact ask_print1 hK ho hb hW hS
    · exact ask_print2 hK ho hb hW hS
    · exact ask_print3 hK ho hb hW hS
    · exact ask_print4 hK ho hb hW hS
    · exact ask_print5 hK ho hb hW hS
    · exact ask_print6 hK ho hb hW hS
  · exact ask_printN hk hW hS
end
end Go.Proofs.YtpbjkfomdindnaaGreatDoor
