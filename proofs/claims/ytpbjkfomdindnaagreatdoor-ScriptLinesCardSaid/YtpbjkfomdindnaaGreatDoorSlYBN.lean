/-
  An element of an array that came in, read whole: as a yield.
-/
import Derived.Test.YtpbjkfomdindnaaGreatDoorSlB
import Derived.Test.YtpbjkfomdindnaaGreatDoorSlA
set_option linter.unusedSimpArgs false
set_option linter.unusedVariables false
namespace Go.Proofs.YtpbjkfomdindnaaGreatDoor.Sl
open Go Go.RowKit

theorem yLoadBN {P : Program} {ops : Array Oper} {o : Oper} {a : Act} {w0 : World} {S : List Chunk} {I : World → Prop} {b off p n : Nat} {z : Array Value} {zv : Value} {t : TypeId} {x : Operand} {α : Type} {f : α → List Value} {gd : α → Prop} {L : List α}
    (hI : ∀ w, I w → Sat w0 S w) (hw : Region.wanted o (yielded ops a.tmps) = true) (ho : o.op = .load t x) (hx : a.eval x = .pointer (some ⟨b, p, none⟩))
    {q : Nat} [ty : Ty P t true q zv z] (hB : BAt w0 n f gd L b off) (i j : Nat) (hoff : p = off + i * n + j) {y : α} (hy : L[i]? = some y) {vs : List Value} (hv : ((f y).drop j).take q = vs) (hq : vs.length = q) : YieldsIf P ops I o (.agg vs.toArray) a :=
  .inl ⟨hw, fun w h => by
    have hS := hI w h
    have h1 : (loadVar t ⟨b, p, none⟩).run P w = .ok (.agg vs.toArray) w := run_loadN hq (fun d u hu => by
      have hd : d < q := by
        have := (List.getElem?_eq_some_iff.1 hu).1; omega
      rw [← hv, List.getElem?_take, if_pos hd, List.getElem?_drop] at hu
      rw [hoff, Nat.add_assoc]
      exact hS.baseCell hB hy hu)
    simp [execOp, ho, hx, Instr.loadAt, Instr.sureAddr, h1]⟩
end Go.Proofs.YtpbjkfomdindnaaGreatDoor.Sl
