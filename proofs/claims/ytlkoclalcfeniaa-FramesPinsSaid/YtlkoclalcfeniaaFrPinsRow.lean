/-
  FramesPins: the given row: for every input the law answers true, and the arguments read as before. No condition.
-/
import Derived.Test.YtlkoclalcfeniaaFrPinsA
import Derived.Test.YtlkoclalcfeniaaFrPinsB
import Derived.Test.YtlkoclalcfeniaaSlDec
import Derived.Test.YtlkoclalcfeniaaRows
import Derived.WalkKit
import Derived.ProofKit
import Derived.OpenShut
import Derived.ShutString
import Derived.ChangeOld
import Derived.Below
set_option linter.unusedSimpArgs false
set_option linter.unusedVariables false
namespace Go.Proofs.Ytlkoclalcfeniaa.FramesPinsDone
open Go.ChangeShapes Go.WideShapes Go.ChangeAt Go.RowKit Go.Proofs.Ytlkoclalcfeniaa Go.Proofs.Ytlkoclalcfeniaa.Sl Go.Proofs.Ytlkoclalcfeniaa.Jp

theorem decI64 {w : World} {us : List Value} (h : OkL w [.int .i64] us) : ∃ x : Int, i64 x = us ∧ okI x := by
  match us, h with
  | [a], ⟨ha, _⟩ =>
    cases ha with
    | int _ n hn => exact ⟨n, rfl, by simp [Lit.wf, IntKind.min, IntKind.max, IntKind.bits, IntKind.signed] at hn; exact ⟨by omega, by omega⟩⟩
theorem decFlt {w : World} {v : Value} (h : OkL w [.float .f64] [v]) : ∃ n : Nat, v = .float .f64 n := by
  obtain ⟨h, _⟩ := h
  cases h with
  | float _ b hb => exact ⟨b, rfl⟩
theorem walk (W : World) {v0 v1 v2 : Value} (h0 : OkL W [.int .i64] [v0]) (h1 : OkL W [.sl [.int .i64]] [v1]) (h2 : OkL W [.float .f64] [v2]) :
    Calls Try.prog 3 #[v0, v1, v2] W fun e w' => e = .returned (.bool true) ∧ Below W.heap.size W w' := by
  obtain ⟨x, rfl, _⟩ := decInt h0
  obtain ⟨A, hA⟩ := toBSl (f := i64) (g := okI) h1.1 (by decide) fun us hu => decI64 hu
  obtain ⟨b, rfl⟩ := decFlt h2
  have hok := hA.all
  obtain ⟨pa, ca, rfl, hla, hat⟩ := BSl.at (n := 1) hA
  by_cases h20 : A.length ≤ 20
  · exact (coreA x b rfl hat hok hla (Nat.le_refl _) h20 (Nat.le_refl _)).mono fun e w' h => ⟨h.1, h.2.base⟩
  · exact (coreB x b rfl hat hok hla (N := 20) (by omega) (Nat.le_refl _) (by omega) (Nat.le_refl _)).mono fun e w' h => ⟨h.1, h.2.base⟩
theorem own : ownKnob Try.prog.godebug = none := by kernel_rfl
theorem laidOut : laidOutB Try.prog = true := by kernel_rfl

set_option maxRecDepth 100000 in
theorem lifted (os : Os) (started : os.Started) (H : Type) (enc : TypeId × Value → H) :
    ReturnsInHanded {} Try.checked os 3 .any (Rows.framesPinsSpec.pre6 enc Try.prog Try.f3 Rows.framesPinsRow.domain false) (Rows.framesPinsSpec.post enc Try.prog Try.f3 false true false false) := by
  refine returnsInHanded_of_change (C := Try.checked) own started (by kernel_rfl) Try.func3
    (ChangeSpec.witness6 (enc := enc) (C := Try.checked) false ⟨#[], #[.int .i64 0, .slice none 0 0, .float .f64 0], []⟩ 8 (by kernel_rfl) (by kernel_rfl) (by kernel_rfl) (by kernel_rfl)) ?_
  intro W base args ds gs before hval0 hW hcnd _
  have hval : ∀ (j : Nat) t v, Try.f3.params[j]? = some t → args[j]? = some v → Value.okWide Try.prog W .any base t v := hval0
  have hW' := hW
  obtain ⟨p, q, hA0, hV, rfl, hfz, hnd⟩ := hW
  have hA : DataW.TrodAll enc Try.prog W 0 (fun _ => true) true Try.f3.params.toList args.toList ds p := hA0
  rw [Try.params3] at hA hval
  obtain ⟨v0, vs0, d0, ds0, p0, q0, hargs, rfl, rfl, h0, r0⟩ := trodAll_cons hA
  obtain ⟨v1, vs1, d1, ds1, p1, q1, rfl, rfl, rfl, h1, r1⟩ := trodAll_cons r0
  obtain ⟨v2, vs2, d2, ds2, p2, q2, rfl, rfl, rfl, h2, r2⟩ := trodAll_cons r1
  obtain ⟨rfl, rfl, rfl⟩ := trodAll_nil r2
  obtain rfl : args = #[v0, v1, v2] := by cases args; simp_all
  obtain ⟨rfl, rfl⟩ := trodVars_none hV
  have k0 := h0
  have lt0 : ∀ x ∈ p0, x.block < W.heap.size := by obtain ⟨m, hm⟩ := k0; exact DataW.trod_lt m _ _ _ hm
  have k1 := h1
  have lt1 : ∀ x ∈ p1, x.block < W.heap.size := by obtain ⟨m, hm⟩ := k1; exact DataW.trod_lt m _ _ _ hm
  have k2 := h2
  have lt2 : ∀ x ∈ p2, x.block < W.heap.size := by obtain ⟨m, hm⟩ := k2; exact DataW.trod_lt m _ _ _ hm
  have Wk := walk W (argOne (n := 8) (by kernel_rfl) (by kernel_rfl) (hval 0 3 v0 rfl rfl) h0) (argOne (n := 8) (by kernel_rfl) (by kernel_rfl) (hval 1 22 v1 rfl rfl) h1) (argOne (n := 8) (by kernel_rfl) (by kernel_rfl) (hval 2 23 v2 rfl rfl) h2)
  clear hA0 hval0
  refine Wk.mono fun e W' ⟨he, bel⟩ => ?_
  subst he
  exact ⟨_, rfl, _, _, _, [], _, [], hW', trodAll_mk1 (shut_bool Try.underlying4 _), (trodAll_cons_mk (Below.trod laidOut (by kernel_rfl) (of_decide_eq_true (by kernel_rfl)) k0 bel lt0) (trodAll_cons_mk (Below.trod laidOut (by kernel_rfl) (of_decide_eq_true (by kernel_rfl)) k1 bel lt1) (trodAll_cons_mk (Below.trod laidOut (by kernel_rfl) (of_decide_eq_true (by kernel_rfl)) k2 bel lt2) trodAll_mk0))), rfl, bel.frame _, fun h => by cases h⟩

theorem over : Rows.framesPinsRow.holds Try.pinned (OpenSpec.ofChange Rows.framesPinsSpec) :=
  OpenClaim.holds_of_wide 3 Try.f3 rfl rfl rfl rfl rfl rfl rfl ⟨rfl, rfl, rfl, rfl, rfl⟩ rfl rfl rfl rfl rfl (by kernel_rfl) Try.func3 (by kernel_rfl)
    (of_decide_eq_true (by kernel_rfl)) (by unfold Func.isWrapper; first | (rw [if_pos (by decide +kernel)]; kernel_rfl) | (rw [if_neg (by decide +kernel)]; exact ⟨rfl, rfl⟩))
    (fun os started H enc _ => lifted os started H enc)

/-- The statement. -/
theorem proved : Rows.FramesPinsSaid := over

end Go.Proofs.Ytlkoclalcfeniaa.FramesPinsDone
