/-
  script.form.step, gathering: all: printed by program (mkprint.py).
-/
import Derived.Test.YtpbjkfomdindnaaGreatDoorScPe
import Derived.Test.YtpbjkfomdindnaaGreatDoorScPf
set_option linter.unusedSimpArgs false
set_option linter.unusedVariables false
namespace Go.Proofs.YtpbjkfomdindnaaGreatDoor
open Go.RowKit Go.Shelf Go.Proofs.YtpbjkfomdindnaaGreatDoor.Sl Go.Proofs.YtpbjkfomdindnaaGreatDoor.Jp Go.Proofs.YtpbjkfomdindnaaGreatDoor.Sc

section
variable {w0 w : World} {S F K : List Chunk} {W : List Bs} {fb sb : Nat}
set_option maxRecDepth 100000 in
set_option maxHeartbeats 1000000 in
theorem step_printN {kind a b okd pg : Int} {od da fa : List Int} {bt : Nat} {vo vd vf : Value} (hk : ¬ inR kind 13) (hW : W.length ≤ 20) (hS : Sat w0 ((fb, pfrm W) :: (sb, cells (stC ⟨kind, a, b, okd, pg, od, bt, da, fa⟩ vo vd vf) 29) :: K) w) :
    Calls Tryz.prog 24 #[.pointer (some ⟨fb, 0, none⟩), .pointer (some ⟨sb, 0, none⟩)] w (PrintPost w0 K fb sb (stC ⟨kind, a, b, okd, pg, od, bt, da, fa⟩ vo vd vf) W (printW ⟨kind, a, b, okd, pg, od, bt, da, fa⟩)) := by
  have HN : Bx (printW ⟨kind, a, b, okd, pg, od, bt, da, fa⟩ = none) := ⟨by unfold printW; exact if_neg (show ¬ (1 ≤ kind ∧ kind < 13) from hk)⟩
  have hcn : ∀ {gl : Nat} {w : World}, Sat w0 ((gl, slc 1 strF stepsL 13 9) :: (fb, pfrm W) :: (sb, cells (stC ⟨kind, a, b, okd, pg, od, bt, da, fa⟩ vo vd vf) 29) :: K) w → Calls Tryz.prog 48 #[.pointer (some ⟨fb, 0, none⟩), .pointer (some ⟨sb, 0, none⟩), .slice (some ⟨gl, 0, none⟩) 13 13] w fun e w' => e = .panicked badP ∧ Sat w0 K w' := fun h => (fchoice_print (k := kind) (off := 0) rfl rfl (by decide) (by omega) h).mono fun e w' h2 => by
    rcases h2 with ⟨h3, -⟩ | ⟨-, h3, h4⟩
    · exact absurd h3 hk
    · exact ⟨h3, h4⟩
  clear hk
  go_enter Tryz.func24, Tryz.ntmps24
  go_upto_region 0 with (refine load1 hS rfl rfl rfl rfl ?_; simp only [putW])
  (refine wp_region_held (S := fun w' => Sat w0 ((fb, pfrm W) :: (sb, cells (stC ⟨kind, a, b, okd, pg, od, bt, da, fa⟩ vo vd vf) 29) :: K) w') (by kernel_rfl) ?_; replace hS := hS.drew; (refine takeIf (i := 0) rfl (by kernel_rfl) (fun _ _ _ h => h) (yMove rfl rfl rfl) hS.conv ?_; simp only [evW, putW]); (refine takeIf (i := 1) rfl (by kernel_rfl) (fun _ _ _ h => h) (yMove rfl rfl rfl) hS.conv ?_; simp only [evW, putW]); (apply takeIf (i := 2) rfl (by kernel_rfl) (fun _ _ _ h => h); (focus (apply yRun rfl; intro w; first | (go_simp; done) | (go_simp; rfl))); (focus (exact hS.conv)); simp only [putW]); (apply takeIf (i := 3) rfl (by kernel_rfl) (fun _ _ _ h => h); (focus (apply yRun rfl; intro w; first | (go_simp; done) | (go_simp; rfl))); (focus (exact hS.conv)); simp only [putW]); refine wpAnyH_all (rs := [4]) (by kernel_rfl) (by simp) ?_; intro i hi; simp only [List.mem_cons, List.not_mem_nil, or_false] at hi; subst hi; refine wpOp_of_list rfl ?_; go_wp2_with (go_at_call 49; refine Calls.mono (steps_any) ?_; rintro _ w2 ⟨gl, rfl, h2⟩; replace hS := hS.frame h2; clear h2; (try simp only [List.cons_append, List.nil_append] at hS); simp only [putW]); refine ⟨rfl, hS.conv, ?_⟩; refine wpAnyH_all (rs := [5]) (by kernel_rfl) (by simp) ?_; intro i hi; simp only [List.mem_cons, List.not_mem_nil, or_false] at hi; subst hi; refine opPanic rfl rfl Tryz.call48 rfl ?_; refine Calls.mono (hcn hS) ?_; rintro _ w2 ⟨rfl, hS⟩; refine ⟨_, rfl, ?_⟩; (exact ⟨rfl, .inr ⟨HN.out, rfl, hS⟩⟩))
theorem step_print {s : St} {vo vd vf : Value} (hK : KV w0) (hR : RSt w0 s vo vd vf) (hW : W.length ≤ 20) (hS : Sat w0 ((fb, pfrm W) :: (sb, cells (stC s vo vd vf) 29) :: K) w) :
    Calls Tryz.prog 24 #[.pointer (some ⟨fb, 0, none⟩), .pointer (some ⟨sb, 0, none⟩)] w (PrintPost w0 K fb sb (stC s vo vd vf) W (printW s)) := by
  obtain ⟨kind, a, b, okd, pg, od, bt, da, fa⟩ := s
  by_cases hk : inR kind 13
  · obtain ⟨k1, k2⟩ := hk
    rcases kinds12 k1 (by omega) with e | e | e | e | e | e | e | e | e | e | e | e <;> subst e
    · exact step_print1 hK hR hW hS
    · exact step_print2 hK hR hW hS
    · exact step_print3 hK hR hW hS
    · exact step_print4 hK hR hW hS
    · exact step_print5 hK hR hW hS
    · exact step_print6 hK hR hW hS
    · exact step_print7 hK hR hW hS
    · exact step_print8 hK hR hW hS
    · exact step_print9 hK hR hW hS
    · exact step_print10 hK hR hW hS
    · exact step_print11 hK hR hW hS
    · exact step_print12 hK hR hW hS
  · exact step_printN hk hW hS
end
end Go.Proofs.YtpbjkfomdindnaaGreatDoor
