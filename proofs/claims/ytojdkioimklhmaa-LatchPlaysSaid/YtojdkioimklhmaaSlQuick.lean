/-
  A quiet region, each operation walked without the others in sight. It names no program.
-/
import Derived.Test.YtojdkioimklhmaaSlA
import Derived.Test.YtojdkioimklhmaaSlB
set_option linter.unusedSimpArgs false
set_option linter.unusedVariables false
namespace Go.Proofs.Ytojdkioimklhmaa.Sl
open Go Go.RowKit

section
variable {P : Program} {ops : Array Oper} {C : World → Prop} {G : Act → Prop} {o : Oper} {rest : List Oper} {a : Act} {v : Value}
/-- An operation that its guard leaves out. -/
theorem quiet_skip (hw : Region.wanted o (yielded ops a.tmps) = false) (h2 : quietW P ops C G rest (a.put o.dst undef)) : quietW P ops C G (o :: rest) a :=
  ⟨undef, fun w hc => by
    unfold wpList
    rw [if_neg (by rw [hw]; simp)]
    exact ⟨rfl, rfl, hc⟩, h2⟩
/-- An operation that is done: its guard is forgotten, and so are the others. -/
theorem quiet_run {d : Option Tmp} {op : Op} {ty : TypeId} {pos : String} {af : Array Edge} {gu : Option (Nat × Bool)} (hw : Region.wanted ⟨d, op, ty, pos, af, gu⟩ (yielded ops a.tmps) = true) (h1 : ∀ w, C w → wpList P #[] (Qd a d v C) [⟨d, op, ty, pos, #[], none⟩] a w)
    (h2 : quietW P ops C G rest (a.put d v)) : quietW P ops C G (⟨d, op, ty, pos, af, gu⟩ :: rest) a :=
  ⟨v, fun w hc => by
    have h := h1 w hc
    unfold wpList at h ⊢
    rw [if_pos hw]
    rw [if_pos (show Region.wanted ⟨d, op, ty, pos, #[], none⟩ (yielded #[] a.tmps) = true from rfl)] at h
    exact h, h2⟩
/-- An operation whose value is known. -/
theorem quiet_y (h : YieldsIf P ops C o v a) (h2 : quietW P ops C G rest (a.put o.dst v)) : quietW P ops C G (o :: rest) a := by
  rcases h with ⟨hw, h⟩ | ⟨hw, rfl⟩
  · exact ⟨v, fun w hc => wp_value hw (h w hc) ⟨rfl, rfl, hc⟩, h2⟩
  · exact quiet_skip hw h2
end
end Go.Proofs.Ytojdkioimklhmaa.Sl
