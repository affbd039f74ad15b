/-
  LatchPlays: the given row: for every input the law answers true, and the arguments read as before. No condition.
-/
import Derived.Test.YtojdkioimklhmaaLaPlaysA
import Derived.Test.YtojdkioimklhmaaLaPlaysB
import Derived.Test.YtojdkioimklhmaaRows
import Derived.WalkKit
import Derived.ProofKit
import Derived.OpenShut
import Derived.ShutString
import Derived.ChangeOld
import Derived.Below
set_option linter.unusedSimpArgs false
set_option linter.unusedVariables false
namespace Go.Proofs.Ytojdkioimklhmaa.LatchPlaysDone
open Go.ChangeShapes Go.WideShapes Go.ChangeAt Go.RowKit Go.Proofs.Ytojdkioimklhmaa Go.Proofs.Ytojdkioimklhmaa.Sl

theorem walk (W : World) {v0 : Value} (h0 : OkL W [.sl [.int .i64, .int .i64, .int .i64, .bool]] [v0]) :
    Calls Try.prog 6 #[v0] W fun e w' => e = .returned (.bool true) ∧ Below W.heap.size W w' := by
  obtain ⟨L, hL⟩ := decLas h0
  obtain ⟨pa, ca, rfl, hla, hat⟩ := BSl.at (n := 4) hL
  by_cases h20 : L.length ≤ 120
  · exact (coreA rfl hla hat (Nat.le_refl _) h20 (Nat.le_refl _)).mono fun e w' h => ⟨h.1, h.2.base⟩
  · exact (coreB rfl hla hat (N := 120) (by omega) (Nat.le_refl _) (by omega) (Nat.le_refl _)).mono fun e w' h => ⟨h.1, h.2.base⟩
theorem own : ownKnob Try.prog.godebug = none := by kernel_rfl
theorem laidOut : laidOutB Try.prog = true := by kernel_rfl

set_option maxRecDepth 100000 in
theorem lifted (os : Os) (started : os.Started) (H : Type) (enc : TypeId × Value → H) :
    ReturnsInHanded {} Try.checked os 6 .any (Rows.latchPlaysSpec.pre6 enc Try.prog Try.f6 Rows.latchPlaysRow.domain false) (Rows.latchPlaysSpec.post enc Try.prog Try.f6 false true false false) := by
  refine returnsInHanded_of_change (C := Try.checked) own started (by kernel_rfl) Try.func6
    (ChangeSpec.witness6 (enc := enc) (C := Try.checked) false ⟨#[], #[.slice none 0 0], []⟩ 8 (by kernel_rfl) (by kernel_rfl) (by kernel_rfl) (by kernel_rfl)) ?_
  intro W base args ds gs before hval0 hW hcnd _
  have hval : ∀ (j : Nat) t v, Try.f6.params[j]? = some t → args[j]? = some v → Value.okWide Try.prog W .any base t v := hval0
  have hW' := hW
  obtain ⟨p, q, hA0, hV, rfl, hfz, hnd⟩ := hW
  have hA : DataW.TrodAll enc Try.prog W 0 (fun _ => true) true Try.f6.params.toList args.toList ds p := hA0
  rw [Try.params6] at hA hval
  obtain ⟨v0, vs0, d0, ds0, p0, q0, hargs, rfl, rfl, h0, r0⟩ := trodAll_cons hA
  obtain ⟨rfl, rfl, rfl⟩ := trodAll_nil r0
  obtain rfl : args = #[v0] := by cases args; simp_all
  obtain ⟨rfl, rfl⟩ := trodVars_none hV
  have k0 := h0
  have lt0 : ∀ x ∈ p0, x.block < W.heap.size := by obtain ⟨m, hm⟩ := k0; exact DataW.trod_lt m _ _ _ hm
  have Wk := walk W (argOne (n := 8) (by kernel_rfl) (by kernel_rfl) (hval 0 22 v0 rfl rfl) h0)
  clear hA0 hval0
  refine Wk.mono fun e W' ⟨he, bel⟩ => ?_
  subst he
  exact ⟨_, rfl, _, _, _, [], _, [], hW', trodAll_mk1 (shut_bool Try.underlying4 _), (trodAll_cons_mk (Below.trod laidOut (by kernel_rfl) (of_decide_eq_true (by kernel_rfl)) k0 bel lt0) trodAll_mk0), rfl, bel.frame _, fun h => by cases h⟩

theorem over : Rows.latchPlaysRow.holds Try.pinned (OpenSpec.ofChange Rows.latchPlaysSpec) :=
  OpenClaim.holds_of_wide 6 Try.f6 rfl rfl rfl rfl rfl rfl rfl ⟨rfl, rfl, rfl, rfl, rfl⟩ rfl rfl rfl rfl rfl (by kernel_rfl) Try.func6 (by kernel_rfl)
    (of_decide_eq_true (by kernel_rfl)) (by unfold Func.isWrapper; first | (rw [if_pos (by decide +kernel)]; kernel_rfl) | (rw [if_neg (by decide +kernel)]; exact ⟨rfl, rfl⟩))
    (fun os started H enc _ => lifted os started H enc)

/-- The statement. -/
theorem proved : Rows.LatchPlaysSaid := over

end Go.Proofs.Ytojdkioimklhmaa.LatchPlaysDone
