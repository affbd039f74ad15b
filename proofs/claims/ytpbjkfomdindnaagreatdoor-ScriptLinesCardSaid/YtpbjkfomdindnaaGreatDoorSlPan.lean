/-
  A call that ends in a panic, in a region that draws its order. It names no program.
-/
import Derived.Test.YtpbjkfomdindnaaGreatDoorSlQuick
set_option linter.unusedSimpArgs false
set_option linter.unusedVariables false
namespace Go.Proofs.YtpbjkfomdindnaaGreatDoor.Sl
open Go Go.RowKit

section
variable {P : Program} {ops : Array Oper} {a : Act} {Q : Exit → Act → World → Prop} {w : World} {i : Nat}
theorem opPanic {rest : List Oper} {K : Act → World → Prop} {d : Option Tmp} {f : FuncId} {l : List Operand} {lv : List Value} {ats : Array TypeId} {ty : TypeId} {pos : String} {af : Array Edge} {gu : Option (Nat × Bool)}
    (hi0 : ops.toList.drop i = ⟨d, .call { callee := .value (.func f), args := l.toArray, argTypes := ats }, ty, pos, af, gu⟩ :: rest) (hw : Region.wanted ⟨d, .call { callee := .value (.func f), args := l.toArray, argTypes := ats }, ty, pos, af, gu⟩ (yielded ops a.tmps) = true)
    (eg : ∀ args w, (callFunc f args).run P w = .ok (.enter f args) w) (hv : l.map a.eval = lv)
    (h : Calls P f lv.toArray w fun e w' => ∃ ch, e = .panicked ch ∧ Q (.panic ch) a w') : wpOp P ops Q i K a w := by
  have hi := drop_get hi0
  unfold Go.wpOp
  simp only [hi, hw, if_true]
  left
  unfold Oper.wp
  have e : (execOp a.eval ⟨d, .call { callee := .value (.func f), args := l.toArray, argTypes := ats }, ty, pos, af, gu⟩).run P w = .ok (.enter f lv.toArray) w := by
    rw [execOp_call_go, eg]
    simp [hv]
  rw [e, Oper.upon_enter]
  refine h.mono ?_
  rintro e w' ⟨ch, rfl, hq⟩
  exact hq
end
end Go.Proofs.YtpbjkfomdindnaaGreatDoor.Sl
