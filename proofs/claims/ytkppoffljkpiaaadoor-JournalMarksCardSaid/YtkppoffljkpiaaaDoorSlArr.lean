/-
  Arrays for the small separation logic: a block of cells that is a list's image. It names no program.
-/
import Derived.Test.YtkppoffljkpiaaaDoorSlRd
namespace Go.Proofs.YtkppoffljkpiaaaDoor.Sl
open Go Go.RowKit

/-- A fact that no tactic looks into (RowKit.Hid is opened by 'contradiction'). -/
structure Bx (p : Prop) : Prop where
  out : p
/-- The cells of an array. -/
abbrev arr {α : Type} (vv : α → Value) (l : List α) (t : TypeId) : K := cells (l.map vv).toArray t

section
variable {P : Program} {ops : Array Oper} {rest : List Oper} {o : Oper} {a : Act} {Q : Exit → Act → World → Prop} {w0 w : World} {S F : List Chunk}
variable {α : Type} {vv : α → Value} {l : List α} {b off n : Nat} {z : Array Value} {zv : Value} {t tb : TypeId} {agg : Bool} {x y : Operand}
/-- A cell of an array is read. -/
theorem loadA (hS : Sat w0 S w) (hw : Region.wanted o (yielded ops a.tmps) = true) (ho : o.op = .load t x) (hx : a.eval x = .pointer (some ⟨b, off, none⟩))
    [ty : Ty P t false n zv z] [Pull S b (cells (l.map vv).toArray tb) F] {u : α} (hc : l[off]? = some u)
    (k : wpList P ops Q rest (a.put o.dst (vv u)) w) : wpList P ops Q (o :: rest) a w :=
  load1 hS hw ho hx (b := b) (c := (l.map vv).toArray) (tb := tb) (by simp [hc]) k
/-- .. is written. -/
theorem storeA (hS : Sat w0 S w) (hw : Region.wanted o (yielded ops a.tmps) = true) (ho : o.op = .store t x y) (hx : a.eval x = .pointer (some ⟨b, off, none⟩))
    [ty : Ty P t agg 1 zv z] (u : α) (hy : a.eval y = vv u) (hv : (vv u).oneCell' = true) [Pull S b (cells (l.map vv).toArray tb) F] (hoff : off < l.length)
    (k : ∀ w', Sat w0 ((b, cells ((l.set off u).map vv).toArray tb) :: F) w' → wpList P ops Q rest (a.put o.dst undef) w') : wpList P ops Q (o :: rest) a w := by
  refine store1 hS hw ho hx hy hv (b := b) (c := (l.map vv).toArray) (tb := tb) (by simpa using hoff) fun w' h => k w' ?_
  have e : (l.map vv).toArray.setIfInBounds off (vv u) = ((l.set off u).map vv).toArray := by
    rw [List.map_set]; simp
  rw [e] at h
  exact h
/-- The whole array is read. -/
theorem loadAllA (hS : Sat w0 S w) (hw : Region.wanted o (yielded ops a.tmps) = true) (ho : o.op = .load t x) (hx : a.eval x = .pointer (some ⟨b, 0, none⟩))
    [ty : Ty P t true n zv z] [Pull S b (cells (l.map vv).toArray tb) F] (hn : l.length = n)
    (k : wpList P ops Q rest (a.put o.dst (.agg (l.map vv).toArray)) w) : wpList P ops Q (o :: rest) a w :=
  loadAll hS hw ho hx (b := b) (c := (l.map vv).toArray) (tb := tb) (by simpa using hn) k
/-- .. is written whole. -/
theorem storeAllA (hS : Sat w0 S w) (hw : Region.wanted o (yielded ops a.tmps) = true) (ho : o.op = .store t x y) (hx : a.eval x = .pointer (some ⟨b, 0, none⟩))
    [ty : Ty P t agg n zv z] {c : Array Value} (l' : List α) (hy : a.eval y = .agg (l'.map vv).toArray) (hn : l'.length = n) (hv : ∀ u ∈ l', (vv u).oneCell' = true) [Pull S b (cells c tb) F] (hc : c.size = n)
    (k : ∀ w', Sat w0 ((b, cells (l'.map vv).toArray tb) :: F) w' → wpList P ops Q rest (a.put o.dst undef) w') : wpList P ops Q (o :: rest) a w :=
  storeAll hS hw ho hx hy (by simpa using hn) (fun v hv' => by
    obtain ⟨u, hu, rfl⟩ := List.mem_map.1 (by simpa using hv' : v ∈ l'.map vv)
    exact hv u hu) (b := b) (c := c) (tb := tb) hc k
/-- A new array of zeros. -/
theorem allocA (hS : Sat w0 S w) (hw : Region.wanted o (yielded ops a.tmps) = true) (ho : o.op = .alloc t) [ty : Ty P t agg n zv z] (l' : List α) (hz : z = (l'.map vv).toArray)
    (k : ∀ m w', Sat w0 ((m, cells (l'.map vv).toArray t) :: S) w' → wpList P ops Q rest (a.put o.dst (.pointer (some ⟨m, 0, none⟩))) w') : wpList P ops Q (o :: rest) a w := by
  subst hz
  exact alloc hS hw ho k
/-- .. that holds a value. -/
theorem boxA (hS : Sat w0 S w) (hw : Region.wanted o (yielded ops a.tmps) = true) (ho : o.op = .box t x) (l' : List α) (hx : a.eval x = .agg (l'.map vv).toArray)
    (k : ∀ m w', Sat w0 ((m, cells (l'.map vv).toArray t) :: S) w' → wpList P ops Q rest (a.put o.dst (.pointer (some ⟨m, 0, none⟩))) w') : wpList P ops Q (o :: rest) a w :=
  boxN hS hw ho hx k
/-- A cell of an array is read, its place known by a number. -/
theorem loadAi (hS : Sat w0 S w) (hw : Region.wanted o (yielded ops a.tmps) = true) (ho : o.op = .load t x) (hx : a.eval x = .pointer (some ⟨b, off, none⟩))
    [ty : Ty P t false n zv z] [Pull S b (cells (l.map vv).toArray tb) F] (i : Nat) {u : α} (hc : l[i]? = some u) (hoff : off = i)
    (k : wpList P ops Q rest (a.put o.dst (vv u)) w) : wpList P ops Q (o :: rest) a w := by
  subst hoff
  exact loadA hS hw ho hx hc k
/-- .. is written. -/
theorem storeAi (hS : Sat w0 S w) (hw : Region.wanted o (yielded ops a.tmps) = true) (ho : o.op = .store t x y) (hx : a.eval x = .pointer (some ⟨b, off, none⟩))
    [ty : Ty P t agg 1 zv z] (i : Nat) (u : α) (hy : a.eval y = vv u) (hv : (vv u).oneCell' = true) [Pull S b (cells (l.map vv).toArray tb) F] (hoff : off = i) (hl : i < l.length)
    (k : ∀ w', Sat w0 ((b, cells ((l.set i u).map vv).toArray tb) :: F) w' → wpList P ops Q rest (a.put o.dst undef) w') : wpList P ops Q (o :: rest) a w := by
  subst hoff
  exact storeA hS hw ho hx u hy hv hl k
/-- A cell of an array with more cells behind it (a struct's first field) is read. -/
theorem loadAp {more : List Value} (hS : Sat w0 S w) (hw : Region.wanted o (yielded ops a.tmps) = true) (ho : o.op = .load t x) (hx : a.eval x = .pointer (some ⟨b, off, none⟩))
    [ty : Ty P t false n zv z] [Pull S b (cells (l.map vv ++ more).toArray tb) F] (i : Nat) {u : α} (hc : l[i]? = some u) (hoff : off = i)
    (k : wpList P ops Q rest (a.put o.dst (vv u)) w) : wpList P ops Q (o :: rest) a w := by
  subst hoff
  have hl : off < l.length := (List.getElem?_eq_some_iff.1 hc).1
  refine load1 hS hw ho hx (b := b) (c := (l.map vv ++ more).toArray) (tb := tb) ?_ k
  rw [List.getElem?_toArray, List.getElem?_append_left (by simpa using hl)]
  simp [hc]
/-- .. is written. -/
theorem storeAp {more : List Value} (hS : Sat w0 S w) (hw : Region.wanted o (yielded ops a.tmps) = true) (ho : o.op = .store t x y) (hx : a.eval x = .pointer (some ⟨b, off, none⟩))
    [ty : Ty P t agg 1 zv z] (i : Nat) (u : α) (hy : a.eval y = vv u) (hv : (vv u).oneCell' = true) [Pull S b (cells (l.map vv ++ more).toArray tb) F] (hoff : off = i) (hl : i < l.length)
    (k : ∀ w', Sat w0 ((b, cells ((l.set i u).map vv ++ more).toArray tb) :: F) w' → wpList P ops Q rest (a.put o.dst undef) w') : wpList P ops Q (o :: rest) a w := by
  subst hoff
  refine store1 hS hw ho hx hy hv (b := b) (c := (l.map vv ++ more).toArray) (tb := tb) (by simp; omega) fun w' h => k w' ?_
  have e : (l.map vv ++ more).toArray.setIfInBounds off (vv u) = ((l.set off u).map vv ++ more).toArray := by
    rw [List.map_set]
    simp [List.set_append_left, hl]
  rw [e] at h
  exact h
end
end Go.Proofs.YtkppoffljkpiaaaDoor.Sl
