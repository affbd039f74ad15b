/-
  thimbleref25.SameAll, of lists that are the same.
-/
import Derived.Test.YtpbjkfomdindnaaGreatDoorScJ
import Derived.Test.YtpbjkfomdindnaaGreatDoorSlYBN
set_option linter.unusedSimpArgs false
set_option linter.unusedVariables false
namespace Go.Proofs.YtpbjkfomdindnaaGreatDoor
open Go.RowKit Go.Shelf Go.Proofs.YtpbjkfomdindnaaGreatDoor.Sl Go.Proofs.YtpbjkfomdindnaaGreatDoor.Jp Go.Proofs.YtpbjkfomdindnaaGreatDoor.Sc

section
variable {w0 : World} {X Y : List SV} {v v' : Value}
set_option maxRecDepth 100000 in
set_option maxHeartbeats 2000000 in
theorem sameAll_true (hX : RSs w0 X v) (hY : RSs w0 Y v') (hl : X.length = Y.length) (he : ∀ (i : Nat) (x y : SV), X[i]? = some x → Y[i]? = some y → eqv x.s y.s) :
    Calls Tryz.prog 14 #[v, v'] w0 fun e w' => e = .returned (.bool true) ∧ Sat w0 [] w' := by
  have hS := Sat.refl w0
  obtain ⟨a, c, rfl, h1, h2⟩ := BSl.at hX
  obtain ⟨a', c', rfl, h1', h2'⟩ := BSl.at hY
  clear hX hY
  rw [← hl]
  have HL : Bx (X.length = Y.length) := ⟨hl⟩
  clear hl
  go_enter Tryz.func14, Tryz.ntmps14
  go_wp2_with (refine load1 hS rfl rfl rfl rfl ?_; simp only [putW])
  go_loopw [5] (fun j wr => ∃ (k : Nat), k ≤ X.length ∧ j = .int .i64 (k : Int) ∧ Sat w0 [] wr) (fun j _ => X.length - (intOf j).toNat)
  case atStart => exact ⟨0, Nat.zero_le _, rfl, hS⟩
  case round =>
    clear hS
    obtain ⟨k, hk, rfl, hS⟩ := hrel
    by_cases hlt : k < X.length
    · obtain ⟨x, hx⟩ : ∃ x, X[k]? = some x := ⟨_, List.getElem?_eq_getElem hlt⟩
      obtain ⟨y, hy⟩ : ∃ y, Y[k]? = some y := ⟨_, List.getElem?_eq_getElem (by rw [← HL.out]; exact hlt)⟩
      obtain ⟨b, o, rfl, hB⟩ := h2 (by intro e; subst e; simp at hlt)
      obtain ⟨b', o', rfl, hB'⟩ := h2' (by intro e; have := HL.out; rw [e] at this; simp only [List.length_nil] at this; omega)
      have HX : Bx (RSt w0 x.s x.o x.d x.f) := ⟨(hB.2 k x hx).1⟩
      have HY : Bx (RSt w0 y.s y.o y.d y.f) := ⟨(hB'.2 k y hy).1⟩
      have HE : Bx (eqv x.s y.s) := ⟨he k x y hx hy⟩
      have HB : Bx (BAt w0 9 svF (fun x => RSt w0 x.s x.o x.d x.f) X b o) := ⟨hB⟩
      have HB' : Bx (BAt w0 9 svF (fun x => RSt w0 x.s x.o x.d x.f) Y b' o') := ⟨hB'⟩
      have Hx : Bx (X[k]? = some x) := ⟨hx⟩
      have Hy : Bx (Y[k]? = some y) := ⟨hy⟩
      have hmx : X.length ≤ 9223372036854775807 := h1
      clear hB hB' hx hy he h2 h2'
      go_wp2_with (refine load1 hS rfl rfl rfl rfl ?_; simp only [putW])
      (refine wp_region_held (S := fun w' => Sat w0 ([]) w') (by kernel_rfl) ?_; replace hS := hS.drew; (refine takeIf (i := 0) rfl (by kernel_rfl) (fun _ _ _ h => h) (yMove rfl rfl rfl) hS.conv ?_; simp only [evW, putW]); (refine takeIf (i := 1) rfl (by kernel_rfl) (fun _ _ _ h => h) (yMove rfl rfl rfl) hS.conv ?_; simp only [evW, putW]); (apply takeIf (i := 2) rfl (by kernel_rfl) (fun _ _ _ h => h); (focus (apply yRun rfl; intro w; first | (go_simp; done) | (go_simp; rfl))); (focus (exact hS.conv)); simp only [putW]); (refine takeIf (i := 3) rfl (by kernel_rfl) (fun _ _ _ h => h) (yLoadBN (w0 := w0) (f := svF) (vs := svF x) (fun _ h => h) rfl rfl rfl HB.out k 0 (by omega) Hx.out rfl rfl) hS.conv ?_; simp only [putW]); (refine takeIf (i := 4) rfl (by kernel_rfl) (fun _ _ _ h => h) (yMove rfl rfl rfl) hS.conv ?_; simp only [evW, putW]); (refine takeIf (i := 5) rfl (by kernel_rfl) (fun _ _ _ h => h) (yMove rfl rfl rfl) hS.conv ?_; simp only [evW, putW]); (apply takeIf (i := 6) rfl (by kernel_rfl) (fun _ _ _ h => h); (focus (apply yRun rfl; intro w; first | (go_simp; done) | (go_simp; rfl))); (focus (exact hS.conv)); simp only [putW]); (refine takeIf (i := 7) rfl (by kernel_rfl) (fun _ _ _ h => h) (yLoadBN (w0 := w0) (f := svF) (vs := svF y) (fun _ h => h) rfl rfl rfl HB'.out k 0 (by omega) Hy.out rfl rfl) hS.conv ?_; simp only [putW]); refine wpAnyH_all (rs := [8]) (by kernel_rfl) (by simp) ?_; intro i hi; simp only [List.mem_cons, List.not_mem_nil, or_false] at hi; subst hi; refine wpOp_of_list rfl ?_; go_wp2_with (go_at_call 12; refine Calls.mono (sameS_any (HX.out.mono hS.base) (HY.out.mono hS.base) (decide_eq_true HE.out)) ?_; rintro _ w2 ⟨rfl, h2⟩; replace hS := hS.frame h2; clear h2; (try simp only [List.cons_append, List.nil_append] at hS); simp only [putW]); refine ⟨rfl, hS.conv, ?_⟩; (apply takeIf (i := 9) rfl (by kernel_rfl) (fun _ _ _ h => h); (focus (apply yRun rfl; intro w; first | (go_simp; done) | (go_simp; rfl))); (focus (exact hS.conv)); simp only [putW]); refine wpAnyH_done (by kernel_rfl) ?_ _; skip)
      go_wp2_with (refine load1 hS rfl rfl rfl rfl ?_; simp only [putW])
      go_roundw
      case rel => exact ⟨k + 1, by omega, by go_num, hS⟩
      case measure => simp only [intOf]; omega
    · go_wp2_with (refine load1 hS rfl rfl rfl rfl ?_; simp only [putW])
      go_ret
      exact ⟨rfl, hS⟩
end
end Go.Proofs.YtpbjkfomdindnaaGreatDoor
