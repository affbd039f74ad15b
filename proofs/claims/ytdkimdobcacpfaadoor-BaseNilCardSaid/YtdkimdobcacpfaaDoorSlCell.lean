/-
  A cell, a part of a block, whose value is known: so said that a wrong one is refused at once. It names no program.
-/
import Derived.Test.YtdkimdobcacpfaaDoorSlB
set_option linter.unusedSimpArgs false
set_option linter.unusedVariables false
namespace Go.Proofs.YtdkimdobcacpfaaDoor.Sl
open Go Go.RowKit

structure CellIs (c : Array Value) (i : Nat) (v : Value) : Prop where
  at' : c[i]? = some v
structure PartIs (c : Array Value) (i n : Nat) (l : List Value) : Prop where
  len : l.length = n
  at' : (c.toList.drop i).take n = l
section
variable {P : Program} {ops : Array Oper} {rest : List Oper} {o : Oper} {a : Act} {Q : Exit → Act → World → Prop} {w0 w : World} {S F : List Chunk} {I : World → Prop}
variable {b off n : Nat} {c : Array Value} {z : Array Value} {zv v : Value} {t tb : TypeId} {x : Operand} {l : List Value}
theorem loadC (hS : Sat w0 S w) (hw : Region.wanted o (yielded ops a.tmps) = true) (ho : o.op = .load t x) (hx : a.eval x = .pointer (some ⟨b, off, none⟩))
    [ty : Ty P t false n zv z] [Pull S b (cells c tb) F] (hc : CellIs c off v)
    (k : wpList P ops Q rest (a.put o.dst v) w) : wpList P ops Q (o :: rest) a w := load1 hS hw ho hx (b := b) (c := c) (tb := tb) hc.at' k
theorem loadP (hS : Sat w0 S w) (hw : Region.wanted o (yielded ops a.tmps) = true) (ho : o.op = .load t x) (hx : a.eval x = .pointer (some ⟨b, off, none⟩))
    [ty : Ty P t true n zv z] [Pull S b (cells c tb) F] (hc : PartIs c off n l)
    (k : wpList P ops Q rest (a.put o.dst (.agg l.toArray)) w) : wpList P ops Q (o :: rest) a w := loadPart hS hw ho hx (b := b) (c := c) (tb := tb) hc.len hc.at' k
theorem yLoadC (hI : ∀ w, I w → Sat w0 S w) (hw : Region.wanted o (yielded ops a.tmps) = true) (ho : o.op = .load t x) (hx : a.eval x = .pointer (some ⟨b, off, none⟩))
    [ty : Ty P t false n zv z] [Pull S b (cells c tb) F] (hc : CellIs c off v) : YieldsIf P ops I o v a := yLoad1 hI hw ho hx (b := b) (c := c) (tb := tb) hc.at'
theorem yLoadP (hI : ∀ w, I w → Sat w0 S w) (hw : Region.wanted o (yielded ops a.tmps) = true) (ho : o.op = .load t x) (hx : a.eval x = .pointer (some ⟨b, off, none⟩))
    [ty : Ty P t true n zv z] [Pull S b (cells c tb) F] (hc : PartIs c off n l) : YieldsIf P ops I o (.agg l.toArray) a := yLoadPart hI hw ho hx (b := b) (c := c) (tb := tb) hc.len hc.at'
/-- A whole element of several cells is read. -/
theorem yLoadSN {α : Type} {f : α → List Value} {L : List α} {g m cap : Nat} (hI : ∀ w, I w → Sat w0 S w) (hw : Region.wanted o (yielded ops a.tmps) = true) (ho : o.op = .load t x) (hx : a.eval x = .pointer (some ⟨g, off, none⟩))
    [ty : Ty P t true m zv z] [Pull S g (slc m f L cap tb) F] (i : Nat) (hoff : off = i * m) {y : α} (hy : L[i]? = some y) {vs : List Value} (hv : f y = vs) : YieldsIf P ops I o (.agg vs.toArray) a :=
  .inl ⟨hw, fun w h => by
    have hS := hI w h
    have hf := (hS.slcFacts (g := g) (n := m) (f := f) (l := L) (cap := cap) (t := tb)).2.2.1 y (List.mem_of_getElem? hy)
    have h1 : (loadVar t ⟨g, off, none⟩).run P w = .ok (.agg vs.toArray) w := run_loadN (by rw [← hv]; exact hf) (fun d u hu => by
      have hd : d < m := by have := (List.getElem?_eq_some_iff.1 hu).1; rw [← hv, hf] at this; exact this
      rw [← hv] at hu
      have := hS.slcCell (g := g) (n := m) (f := f) (l := L) (cap := cap) (t := tb) (i := i) (j := d) hy hd
      rw [hoff, this, hu])
    simp [execOp, ho, hx, Instr.loadAt, Instr.sureAddr, h1]⟩
end
end Go.Proofs.YtdkimdobcacpfaaDoor.Sl
