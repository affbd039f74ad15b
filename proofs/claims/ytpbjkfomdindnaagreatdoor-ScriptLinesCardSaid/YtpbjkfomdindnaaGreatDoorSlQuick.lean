/-
  A quiet region, each operation walked without the others in sight. It names no program.
-/
import Derived.Test.YtpbjkfomdindnaaGreatDoorSlA
import Derived.Test.YtpbjkfomdindnaaGreatDoorSlB
set_option linter.unusedSimpArgs false
set_option linter.unusedVariables false
namespace Go.Proofs.YtpbjkfomdindnaaGreatDoor.Sl
open Go Go.RowKit

section
variable {P : Program} {ops : Array Oper} {C : World → Prop} {G : Act → Prop} {o : Oper} {rest : List Oper} {a : Act} {v : Value}
/-- An operation that its guard leaves out. -/
theorem quiet_skip (hw : Region.wanted o (yielded ops a.tmps) = false) (h2 : quietW P ops C G rest (a.put o.dst undef)) : quietW P ops C G (o :: rest) a :=
  ⟨undef, fun w hc => by
    unfold wpList
    rw [if_neg (by rw [hw]; simp)]
    exact ⟨rfl, rfl, hc⟩, h2⟩
/-- An operation that is done: its guard is forgotten, and so are the others. -/
theorem quiet_run {d : Option Tmp} {op : Op} {ty : TypeId} {pos : String} {af : Array Edge} {gu : Option (Nat × Bool)} (hw : Region.wanted ⟨d, op, ty, pos, af, gu⟩ (yielded ops a.tmps) = true) (h1 : ∀ w, C w → wpList P #[] (Qd a d v C) [⟨d, op, ty, pos, #[], none⟩] a w)
    (h2 : quietW P ops C G rest (a.put d v)) : quietW P ops C G (⟨d, op, ty, pos, af, gu⟩ :: rest) a :=
  ⟨v, fun w hc => by
    have h := h1 w hc
    unfold wpList at h ⊢
    rw [if_pos hw]
    rw [if_pos (show Region.wanted ⟨d, op, ty, pos, #[], none⟩ (yielded #[] a.tmps) = true from rfl)] at h
    exact h, h2⟩
/-- A call of a function. -/
theorem quiet_call {d : Option Tmp} {f : FuncId} {args : Array Operand} {ats : Array TypeId} {ty : TypeId} {pos : String} {af : Array Edge} {gu : Option (Nat × Bool)} (hw : Region.wanted ⟨d, .call { callee := .value (.func f), args := args, argTypes := ats }, ty, pos, af, gu⟩ (yielded ops a.tmps) = true)
    (h1 : ∀ w, C w → wpList P #[] (Qd a d v C) [⟨d, .call { callee := .value (.func f), args := args, argTypes := ats }, ty, pos, #[], none⟩] a w)
    (h2 : quietW P ops C G rest (a.put d v)) : quietW P ops C G (⟨d, .call { callee := .value (.func f), args := args, argTypes := ats }, ty, pos, af, gu⟩ :: rest) a := quiet_run hw h1 h2
/-- A call of a function, by its contract alone. -/
theorem quiet_go {d : Option Tmp} {f : FuncId} {l : List Operand} {lv : List Value} {ats : Array TypeId} {ty : TypeId} {pos : String} {af : Array Edge} {gu : Option (Nat × Bool)} (hw : Region.wanted ⟨d, .call { callee := .value (.func f), args := l.toArray, argTypes := ats }, ty, pos, af, gu⟩ (yielded ops a.tmps) = true)
    (eg : ∀ args w, (callFunc f args).run P w = .ok (.enter f args) w) (hv : l.map a.eval = lv)
    (h1 : ∀ w, C w → Calls P f lv.toArray w fun e w' => e = .returned v ∧ C w')
    (h2 : quietW P ops C G rest (a.put d v)) : quietW P ops C G (⟨d, .call { callee := .value (.func f), args := l.toArray, argTypes := ats }, ty, pos, af, gu⟩ :: rest) a :=
  ⟨v, fun w hc => by
    unfold wpList
    rw [if_pos hw]
    left
    unfold Oper.wp
    have e : (execOp a.eval ⟨d, .call { callee := .value (.func f), args := l.toArray, argTypes := ats }, ty, pos, af, gu⟩).run P w = .ok (.enter f lv.toArray) w := by
      rw [execOp_call_go, eg]
      simp [hv]
    rw [e, Oper.upon_enter]
    refine (h1 w hc).mono ?_
    rintro e w' ⟨rfl, hc'⟩
    exact ⟨rfl, rfl, hc'⟩, h2⟩
/-- An operation whose value is known. -/
theorem quiet_y (h : YieldsIf P ops C o v a) (h2 : quietW P ops C G rest (a.put o.dst v)) : quietW P ops C G (o :: rest) a := by
  rcases h with ⟨hw, h⟩ | ⟨hw, rfl⟩
  · exact ⟨v, fun w hc => wp_value hw (h w hc) ⟨rfl, rfl, hc⟩, h2⟩
  · exact quiet_skip hw h2
end
end Go.Proofs.YtpbjkfomdindnaaGreatDoor.Sl
