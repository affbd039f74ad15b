/-
  One cell of an element of several is written. It names no program.
-/
import Derived.Test.YtlkoclalcfeniaaSlGen
set_option linter.unusedSimpArgs false
set_option linter.unusedVariables false
namespace Go.Proofs.Ytlkoclalcfeniaa.Sl
open Go Go.RowKit

theorem set_mid {P M S : List Value} {j : Nat} {v : Value} (hj : j < M.length) : (P ++ M ++ S).set (P.length + j) v = P ++ M.set j v ++ S := by
  rw [List.append_assoc, List.set_append_right _ _ (by omega), Nat.add_sub_cancel_left, List.set_append_left _ _ hj, List.append_assoc]
section
variable {P : Program} {ops : Array Oper} {rest : List Oper} {o : Oper} {a : Act} {Q : Exit → Act → World → Prop} {w0 w : World} {S F : List Chunk}
variable {α : Type} {n g cap off : Nat} {f : α → List Value} {l : List α} {t tb : TypeId} {agg : Bool} {z : Array Value} {zv : Value} {x y : Operand}
theorem storeSP (hS : Sat w0 S w) (hw : Region.wanted o (yielded ops a.tmps) = true) (ho : o.op = .store t x y) (hx : a.eval x = .pointer (some ⟨g, off, none⟩))
    [ty : Ty P t agg 1 zv z] [p : Pull S g (slc n f l cap tb) F] (i j : Nat) (hoff : off = i * n + j) {x0 : α} (hx0 : l[i]? = some x0) (y0 : α) {v : Value} (hy : a.eval y = v) (hv : v.cells.toList = [v]) (h1 : v.oneCell' = true) (hj : j < n) (hf : f y0 = (f x0).set j v)
    (k : ∀ w', Sat w0 ((g, slc n f (l.set i y0) cap tb) :: F) w' → wpList P ops Q rest (a.put o.dst undef) w') : wpList P ops Q (o :: rest) a w := by
  obtain ⟨cur, hc, k1, k2, k3, k4, k5⟩ := hS.slcOf (g := g) (n := n) (f := f) (l := l) (cap := cap) (t := tb)
  have hg := hc.cellsAt (b := g) (c := cur) (t := tb)
  have hi : i < l.length := (List.getElem?_eq_some_iff.1 hx0).1
  have hfx : (f x0).length = n := k5 x0 (List.mem_of_getElem? hx0)
  have hfit : i * n + n ≤ l.length * n := by
    have := Nat.mul_le_mul_right n hi
    rw [Nat.succ_mul] at this; exact this
  have hfit2 : l.length * n ≤ cap * n := Nat.mul_le_mul_right n k2
  have hst := run_storeCells_at (P := P) g (i * n + j) tb [v] 0 cur w hg.2 (by simp; omega) (fun u hu => by rw [List.mem_singleton.1 hu]; exact h1)
  simp only [Nat.add_zero] at hst
  have hsz : v.cells.size = 1 := by rw [← Array.length_toList, hv]; rfl
  refine wp_skip' hw (w' := w.setRow g (cur.toList.take (i * n + j) ++ [v] ++ cur.toList.drop (i * n + j + [v].length)).toArray) ?_ (k _ ?_)
  · simp [execOp, ho, hx, hy, hoff, Instr.storeAt, Instr.sureAddr, storeVar, ty.size, hsz, hv, hst]
  · refine (hc.setRow (b := g) (c := cur) (t := tb) _).toSlc ?_ (by simpa using k2) k3 ?_ ?_
    · simp only [List.size_toArray, List.length_append, List.length_take, List.length_drop, Array.length_toList, List.length_cons, List.length_nil]; omega
    · rw [List.length_set]
      show List.take (l.length * n) (List.take (i * n + j) cur.toList ++ [v] ++ List.drop (i * n + j + [v].length) cur.toList) = _
      rw [take_splice (by simp; omega) (by simp; omega), k4]
      have hFL : (l.flatMap f).length = l.length * n := flatMap_length k5
      have hset : List.take (i * n + j) (l.flatMap f) ++ [v] ++ List.drop (i * n + j + [v].length) (l.flatMap f) = (l.flatMap f).set (i * n + j) v := by
        rw [List.set_eq_take_append_cons_drop, if_pos (by omega)]
        simp
      rw [hset]
      have hsame := flatMap_set (n := n) (f := f) (l := l) (i := i) (y := x0) k5 hfx hi
      have hls : l.set i x0 = l := by
        obtain ⟨h, rfl⟩ := List.getElem?_eq_some_iff.1 hx0
        exact List.set_getElem_self h
      rw [hls] at hsame
      have hlen : (List.take (i * n) (l.flatMap f)).length = i * n := by rw [List.length_take]; omega
      have hfy : (f y0).length = n := by rw [hf, List.length_set]; exact hfx
      rw [flatMap_set (n := n) (f := f) (l := l) (i := i) (y := y0) k5 hfy hi, hf]
      conv => lhs; rw [hsame]
      have := set_mid (P := List.take (i * n) (l.flatMap f)) (M := f x0) (S := List.drop (i * n + n) (l.flatMap f)) (j := j) (v := v) (by omega)
      rw [hlen] at this
      exact this
    · intro u hu
      rcases List.mem_or_eq_of_mem_set hu with h | h
      · exact k5 u h
      · rw [h, hf, List.length_set]; exact hfx
end
end Go.Proofs.Ytlkoclalcfeniaa.Sl
