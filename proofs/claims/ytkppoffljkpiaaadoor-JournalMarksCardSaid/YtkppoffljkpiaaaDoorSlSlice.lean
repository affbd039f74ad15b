/-
  Slices for the small separation logic: a slice that the call itself made stands at the head of a block; its elements are a list's, each read as so many cells.
-/
import Derived.Test.YtkppoffljkpiaaaDoorSl
namespace Go.Proofs.YtkppoffljkpiaaaDoor.Sl
open Go Go.RowKit

/-- A slice's type. -/
class SliceTy (P : Program) (t : TypeId) (e : outParam TypeId) : Prop where
  is : P.underlying t = some (.slice e)
/-- How many bytes a type has. -/
class Bytes (P : Program) (t : TypeId) (n : outParam Nat) : Prop where
  is : (P.info? t).map (·.bytes) = some n

def one {α : Type} (v : α → Value) (x : α) : List Value := [v x]

/-- A block whose first cells are a list's elements, n cells an element; cap elements have room. -/
def slc {α : Type} (n : Nat) (f : α → List Value) (l : List α) (cap : Nat) (t : TypeId) : K := fun g h =>
  ∃ cur : Array Value, h g = some (.cells cur t (0, 0)) ∧ cur.size = cap * n ∧ l.length ≤ cap ∧ cap ≤ maxLen ∧ cur.toList.take (l.length * n) = l.flatMap f ∧ ∀ x ∈ l, (f x).length = n

/-- The block that a slice's value leads to. -/
def blk : Value → Nat
  | .slice (some a) _ _ => a.block
  | _ => 0
/-- A slice's value, nil or not, with its block. -/
def sl {α : Type} (n : Nat) (f : α → List Value) (l : List α) (t : TypeId) (v : Value) : K := fun b h =>
  (v = .slice none 0 0 ∧ l = []) ∨ ∃ cap, v = .slice (some ⟨b, 0, none⟩) l.length cap ∧ slc n f l cap t b h

/-- Where the chunk of a slice's value stands. -/
class PullSl {α : Type} (S : List Chunk) (v : Value) (b n : outParam Nat) (f : outParam (α → List Value)) (l : outParam (List α)) (t : outParam TypeId) (F : outParam (List Chunk)) : Prop where
  perm : S.Perm ((b, sl n f l t v) :: F)
instance pullSlHere {α : Type} (F : List Chunk) (v : Value) (b n : Nat) (f : α → List Value) (l : List α) (t : TypeId) : PullSl ((b, sl n f l t v) :: F) v b n f l t F := ⟨.refl _⟩
instance pullSlThere {α : Type} (F F' : List Chunk) (v : Value) (b n : Nat) (f : α → List Value) (l : List α) (t : TypeId) (y : Chunk) [p : PullSl F v b n f l t F'] : PullSl (y :: F) v b n f l t (y :: F') :=
  ⟨(List.Perm.cons y p.perm).trans (List.Perm.swap _ _ _)⟩

theorem flatMap_length {α : Type} {n : Nat} {f : α → List Value} : ∀ {l : List α}, (∀ x ∈ l, (f x).length = n) → (l.flatMap f).length = l.length * n
  | [], _ => by simp
  | x :: l, h => by
    rw [List.flatMap_cons, List.length_append, h x (by simp), flatMap_length fun y hy => h y (by simp [hy])]
    simp [Nat.add_mul]; omega
theorem flatMap_get {α : Type} {n : Nat} {f : α → List Value} : ∀ {l : List α} {i j : Nat} {x : α}, (∀ x ∈ l, (f x).length = n) → l[i]? = some x → j < n → (l.flatMap f)[i * n + j]? = (f x)[j]?
  | y :: l, 0, j, x, h, hx, hj => by
    simp at hx; subst hx
    rw [List.flatMap_cons, Nat.zero_mul, Nat.zero_add, List.getElem?_append_left (by rw [h y (by simp)]; exact hj)]
  | y :: l, i + 1, j, x, h, hx, hj => by
    have hx' : l[i]? = some x := by simpa using hx
    have hy := h y (by simp)
    rw [List.flatMap_cons, List.getElem?_append_right (by rw [hy, Nat.add_mul]; omega), hy, show (i + 1) * n + j - n = i * n + j by rw [Nat.add_mul]; omega]
    exact flatMap_get (fun z hz => h z (by simp [hz])) hx' hj
theorem flatMap_set {α : Type} {n : Nat} {f : α → List Value} : ∀ {l : List α} {i : Nat} {y : α}, (∀ x ∈ l, (f x).length = n) → (f y).length = n → i < l.length →
    (l.set i y).flatMap f = (l.flatMap f).take (i * n) ++ f y ++ (l.flatMap f).drop (i * n + n)
  | x :: l, 0, y, h, hy, _ => by
    rw [List.set_cons_zero, List.flatMap_cons, List.flatMap_cons, Nat.zero_mul, List.take_zero, List.nil_append, Nat.zero_add]
    congr 1
    rw [List.drop_append, ← h x (by simp)]; simp
  | x :: l, i + 1, y, h, hy, hi => by
    have hx := h x (by simp)
    rw [List.set_cons_succ, List.flatMap_cons, flatMap_set (fun z hz => h z (by simp [hz])) hy (by simpa using hi), List.flatMap_cons]
    rw [show (i + 1) * n = (f x).length + i * n by rw [hx, Nat.add_mul]; omega, List.take_length_add_append, Nat.add_assoc, List.drop_length_add_append]
    simp

section
variable {α : Type} {w0 w : World} {S F : List Chunk} {f : α → List Value} {l : List α} {g b i j n cap : Nat} {t tb : TypeId}

theorem Sat.slcOf (h : Sat w0 S w) [p : Pull S g (slc n f l cap t) F] : ∃ cur : Array Value, Sat w0 ((g, cells cur t) :: F) w ∧ cur.size = cap * n ∧ l.length ≤ cap ∧ cap ≤ maxLen ∧ cur.toList.take (l.length * n) = l.flatMap f ∧ ∀ x ∈ l, (f x).length = n := by
  obtain ⟨h1, h2, d, l1, l2, ⟨cur, hc, r⟩, rest⟩ := (h.perm p.perm).has
  exact ⟨cur, ⟨h.base, h1, h2, d, l1, l2, hc, rest⟩, r⟩
theorem Sat.toSlc {cur : Array Value} (h : Sat w0 ((g, cells cur t) :: F) w) (h1 : cur.size = cap * n) (h2 : l.length ≤ cap) (h3 : cap ≤ maxLen) (h4 : cur.toList.take (l.length * n) = l.flatMap f) (h5 : ∀ x ∈ l, (f x).length = n) :
    Sat w0 ((g, slc n f l cap t) :: F) w := h.turn fun _ hx => ⟨cur, hx, h1, h2, h3, h4, h5⟩
theorem Sat.slcFacts (h : Sat w0 S w) [p : Pull S g (slc n f l cap t) F] : l.length ≤ cap ∧ cap ≤ maxLen ∧ (∀ x ∈ l, (f x).length = n) ∧ w0.heap.size ≤ g := by
  obtain ⟨cur, hc, r⟩ := h.slcOf (g := g) (n := n) (f := f) (l := l) (cap := cap) (t := t)
  exact ⟨r.2.1, r.2.2.1, r.2.2.2.2, (hc.cellsAt (b := g) (c := cur) (t := t)).1⟩
theorem Sat.slcCell (h : Sat w0 S w) [p : Pull S g (slc n f l cap t) F] {x : α} (hx : l[i]? = some x) (hj : j < n) : w.cell? ⟨g, i * n + j, none⟩ = (f x)[j]? := by
  obtain ⟨cur, hc, h1, h2, h3, h4, h5⟩ := h.slcOf (g := g) (n := n) (f := f) (l := l) (cap := cap) (t := t)
  rw [hc.cell (b := g) (c := cur) (t := t), ← flatMap_get h5 hx hj, ← h4, List.getElem?_take]
  have hi : i < l.length := (List.getElem?_eq_some_iff.1 hx).1
  have : i * n + j < l.length * n := by
    have h6 : (i + 1) * n ≤ l.length * n := Nat.mul_le_mul_right n hi
    rw [Nat.add_mul] at h6; omega
  rw [if_pos this]; simp
/-- The chunk of a nil slice. -/
theorem Sat.slNil (h : Sat w0 F w) (n : Nat) (f : α → List Value) (t : TypeId) : Sat w0 ((0, sl n f [] t (.slice none 0 0)) :: F) w := h.nilChunk 0 (.inl ⟨rfl, rfl⟩)
theorem Sat.slOfSlc (h : Sat w0 ((g, slc n f l cap t) :: F) w) : Sat w0 ((g, sl n f l t (.slice (some ⟨g, 0, none⟩) l.length cap)) :: F) w := h.turn fun _ hx => .inr ⟨cap, rfl, hx⟩
theorem Sat.slCases {v : Value} (h : Sat w0 ((b, sl n f l t v) :: F) w) : (v = .slice none 0 0 ∧ l = [] ∧ Sat w0 F w) ∨ ∃ cap, v = .slice (some ⟨b, 0, none⟩) l.length cap ∧ Sat w0 ((b, slc n f l cap t) :: F) w := by
  obtain ⟨h1, h2, d, l1, l2, hx, rest⟩ := h.has
  rcases hx with ⟨hv, hl⟩ | ⟨cap, hv, hx⟩
  · exact .inl ⟨hv, hl, h.tail⟩
  · exact .inr ⟨cap, hv, h.base, h1, h2, d, l1, l2, hx, rest⟩
end

section
variable {P : Program} {ops : Array Oper} {rest : List Oper} {o : Oper} {a : Act} {Q : Exit → Act → World → Prop} {w0 w : World} {S F F' : List Chunk}
variable {α : Type} {f : α → List Value} {v1 : α → Value} {l : List α} {g b m i j n cap off : Nat} {c z : Array Value} {zv v : Value} {t tb e : TypeId} {agg : Bool} {x y : Operand}

/-- One cell of an element is read. -/
theorem loadS (hS : Sat w0 S w) (hw : Region.wanted o (yielded ops a.tmps) = true) (ho : o.op = .load t x) (hx : a.eval x = .pointer (some ⟨g, off, none⟩))
    [ty : Ty P t false 1 zv z] [Pull S g (slc n f l cap tb) F] (i j : Nat) (hoff : off = i * n + j) {y : α} (hy : l[i]? = some y) {v : Value} (hv : (f y)[j]? = some v) (hj : j < n)
    (k : wpList P ops Q rest (a.put o.dst v) w) : wpList P ops Q (o :: rest) a w := by
  refine wp_value hw ?_ k
  have h1 : (loadVar t ⟨g, off, none⟩).run P w = .ok v w := run_load1 (by rw [hoff, hS.slcCell (g := g) (n := n) (f := f) (l := l) (cap := cap) (t := tb) hy hj]; exact hv)
  simp [execOp, ho, hx, Instr.loadAt, Instr.sureAddr, h1]
theorem loadS1 (hS : Sat w0 S w) (hw : Region.wanted o (yielded ops a.tmps) = true) (ho : o.op = .load t x) (hx : a.eval x = .pointer (some ⟨g, i, none⟩))
    [ty : Ty P t false 1 zv z] [Pull S g (slc 1 (one v1) l cap tb) F] {y : α} (hy : l[i]? = some y)
    (k : wpList P ops Q rest (a.put o.dst (v1 y)) w) : wpList P ops Q (o :: rest) a w :=
  loadS hS hw ho hx (g := g) (n := 1) (f := one v1) (l := l) (cap := cap) (tb := tb) i 0 (by omega) hy rfl (by omega) k
/-- Several cells of an element are read: from place j on. -/
theorem loadSN (hS : Sat w0 S w) (hw : Region.wanted o (yielded ops a.tmps) = true) (ho : o.op = .load t x) (hx : a.eval x = .pointer (some ⟨g, off, none⟩))
    {q : Nat} [ty : Ty P t true q zv z] [Pull S g (slc n f l cap tb) F] (i j : Nat) (hoff : off = i * n + j) {y : α} (hy : l[i]? = some y) (hj : j + q ≤ n) {vs : List Value} (hv : ((f y).drop j).take q = vs)
    (k : wpList P ops Q rest (a.put o.dst (.agg vs.toArray)) w) : wpList P ops Q (o :: rest) a w := by
  have hf := (hS.slcFacts (g := g) (n := n) (f := f) (l := l) (cap := cap) (t := tb)).2.2.1 y (List.mem_of_getElem? hy)
  refine wp_value hw ?_ k
  have h1 : (loadVar t ⟨g, off, none⟩).run P w = .ok (.agg vs.toArray) w := run_loadN (by rw [← hv]; simp; omega) (fun d u hu => by
    have hd : d < q := by
      rw [← hv] at hu
      have := (List.getElem?_eq_some_iff.1 hu).1
      simp at this; omega
    rw [hoff, Nat.add_assoc, hS.slcCell (g := g) (n := n) (f := f) (l := l) (cap := cap) (t := tb) hy (show j + d < n by omega)]
    rw [← hv, List.getElem?_take, if_pos hd, List.getElem?_drop] at hu
    exact hu)
  simp [execOp, ho, hx, Instr.loadAt, Instr.sureAddr, h1]

theorem take_splice {L cs : List Value} {o N : Nat} (h : o + cs.length ≤ N) (hL : N ≤ L.length) : (L.take o ++ cs ++ L.drop (o + cs.length)).take N = (L.take N).take o ++ cs ++ (L.take N).drop (o + cs.length) := by
  rw [List.take_append, List.take_append, List.take_take, List.take_take, Nat.min_eq_right (show o ≤ N by omega), Nat.min_eq_left (show o ≤ N by omega)]
  have h1 : (L.take o).length = o := by simp; omega
  rw [List.length_append, h1, List.take_of_length_le (show cs.length ≤ N - o by omega), List.drop_take]

/-- A whole element is written. -/
theorem storeS (hS : Sat w0 S w) (hw : Region.wanted o (yielded ops a.tmps) = true) (ho : o.op = .store t x y) (hx : a.eval x = .pointer (some ⟨g, off, none⟩))
    [ty : Ty P t agg n zv z] [p : Pull S g (slc n f l cap tb) F] (i : Nat) (hoff : off = i * n) (y0 : α) {v : Value} (hy : a.eval y = v) (hv : v.cells.toList = f y0) (h1 : ∀ u ∈ f y0, u.oneCell' = true) (hn : (f y0).length = n) (hi : i < l.length)
    (k : ∀ w', Sat w0 ((g, slc n f (l.set i y0) cap tb) :: F) w' → wpList P ops Q rest (a.put o.dst undef) w') : wpList P ops Q (o :: rest) a w := by
  obtain ⟨cur, hc, k1, k2, k3, k4, k5⟩ := hS.slcOf (g := g) (n := n) (f := f) (l := l) (cap := cap) (t := tb)
  have hg := hc.cellsAt (b := g) (c := cur) (t := tb)
  have hfit : i * n + n ≤ l.length * n := by
    have := Nat.mul_le_mul_right n hi
    rw [Nat.succ_mul] at this; exact this
  have hfit2 : l.length * n ≤ cap * n := Nat.mul_le_mul_right n k2
  have hst := run_storeCells_at (P := P) g (i * n) tb (f y0) 0 cur w hg.2 (by omega) h1
  simp only [Nat.add_zero] at hst
  have hsz : v.cells.size = n := by rw [← Array.length_toList, hv, hn]
  refine wp_skip' hw (w' := w.setRow g (cur.toList.take (i * n) ++ f y0 ++ cur.toList.drop (i * n + (f y0).length)).toArray) ?_ (k _ ?_)
  · simp [execOp, ho, hx, hy, hoff, Instr.storeAt, Instr.sureAddr, storeVar, ty.size, hsz, hv, hst]
  · refine (hc.setRow (b := g) (c := cur) (t := tb) _).toSlc ?_ (by simpa using k2) k3 ?_ ?_
    · simp only [List.size_toArray, List.length_append, List.length_take, List.length_drop, Array.length_toList]; omega
    · rw [List.length_set]
      show List.take (l.length * n) (List.take (i * n) cur.toList ++ f y0 ++ List.drop (i * n + (f y0).length) cur.toList) = _
      rw [take_splice (by omega) (by simp; omega), k4, flatMap_set k5 hn hi, hn]
    · intro u hu
      rcases List.mem_or_eq_of_mem_set hu with h | h
      · exact k5 u h
      · rw [h]; exact hn
theorem storeS1 (hS : Sat w0 S w) (hw : Region.wanted o (yielded ops a.tmps) = true) (ho : o.op = .store t x y) (hx : a.eval x = .pointer (some ⟨g, i, none⟩))
    [ty : Ty P t agg 1 zv z] [p : Pull S g (slc 1 (one v1) l cap tb) F] (y0 : α) (hy : a.eval y = v1 y0) (h1 : (v1 y0).oneCell' = true) (hi : i < l.length)
    (k : ∀ w', Sat w0 ((g, slc 1 (one v1) (l.set i y0) cap tb) :: F) w' → wpList P ops Q rest (a.put o.dst undef) w') : wpList P ops Q (o :: rest) a w :=
  storeS hS hw ho hx (g := g) (n := 1) (f := one v1) (l := l) (cap := cap) (tb := tb) i (by omega) y0 hy (by have : (v1 y0).cells = #[v1 y0] := by { revert h1; cases v1 y0 <;> simp [Value.cells, Value.oneCell'] }
                                                                                                             simp [one, this]) (by simpa [one] using h1) rfl hi k

theorem Ty.info {n bt : Nat} (ty : Ty P e agg n zv z) (by' : Bytes P e bt) : ∃ i0, P.info? e = some i0 ∧ i0.zero = some zv ∧ i0.size = n ∧ i0.bytes = bt := by
  have h2 := ty.size default
  have h3 := ty.zero default
  have h4 := by'.is
  cases hi : P.info? e with
  | none => simp [hi] at h4
  | some i0 =>
    refine ⟨i0, rfl, ?_, ?_, by simpa [hi] using h4⟩
    · simp only [zeroValue, Sem.run_bind, typeInfo, run_program, Result.andThen_ok, hi, Sem.run_pure] at h3
      cases hz : i0.zero with
      | none => simp [hz] at h3
      | some u => simp [hz] at h3; rw [h3]
    · simpa [sizeOf, typeInfo, hi] using h2

/-- 'append(v, ..)' of at least one element: v is nil or the call's own; what is appended stands in memory. -/
theorem run_appendL (h : Sat w0 S w) [p : PullSl S v b n f l e F] [st : SliceTy P t e] {bt : Nat} [ty : Ty P e agg n zv z] [by' : Bytes P e bt] (tr : TypeId) (ad : Addr) (ys : List α) (cs : Nat)
    (hsrc : ∀ d u, (ys.flatMap f)[d]? = some u → w.cell? (ad.add d) = some u) (h1 : ∀ u ∈ ys.flatMap f, u.oneCell' = true) (hn : ∀ y ∈ ys, (f y).length = n) (hpos : 0 < ys.length)
    (hlen : l.length + ys.length ≤ maxLen) (hbytes : (l.length + ys.length) * bt ≤ 140737488355328) :
    ∃ v' w', (Builtin.append_ #[t, t] tr #[v, .slice (some ad) ys.length cs]).run P w = .ok v' w' ∧ Sat w0 ((blk v', sl n f (l ++ ys) e v') :: F) w' := by
  have hS1 : Sat w0 ((b, sl n f l e v) :: F) w := h.perm p.perm
  obtain ⟨i0, hi, hz, hsz, hby⟩ := ty.info by'
  have hzs : zv.cells.size = i0.size := by rw [ty.cells, ty.len, hsz]
  have hnews : (ys.flatMap f).length = ys.length * i0.size := by rw [hsz]; exact flatMap_length hn
  have hsmall : l.length + ys.length ≤ 9223372036854775807 := by simp only [maxLen] at hlen; omega
  rcases hS1.slCases with ⟨rfl, rfl, hF⟩ | ⟨cap, rfl, hC⟩
  · simp only [List.length_nil, Nat.zero_add] at hlen hbytes hsmall
    have hr := run_append_nil (P := P) w t tr e i0 zv st.is hi hz ad ys.length cs (ys.flatMap f) hnews hsrc hpos (by omega) (by rw [hby]; omega)
    have hge := grownCap_ge w ys.length 0 e
    have hcm := grownCap_le_maxLen w ys.length 0 e hlen
    refine ⟨_, _, hr, ?_⟩
    have h3 := hF.drew.freshCells ((ys.flatMap f).toArray ++ Builtin.zeroCells zv.cells (grownCap w ys.length 0 e - ys.length)) e
    have h4 : Sat w0 ((w.heap.size, slc n f ys (grownCap w ys.length 0 e) e) :: F) _ := h3.toSlc (l := ys) (cap := grownCap w ys.length 0 e) (n := n) (f := f) (by
      simp only [Array.size_append, List.size_toArray, size_zeroCells, hnews, hzs, hsz, ← Nat.add_mul]; congr 1; omega) hge hcm (by
      rw [Array.toList_append, List.toList_toArray, ← flatMap_length hn]; exact List.take_left) hn
    simp only [List.nil_append]
    exact h4.slOfSlc
  · obtain ⟨cur, hcur, k1, k2, k3, k4, k5⟩ := hC.slcOf (g := b) (n := n) (f := f) (l := l) (cap := cap) (t := e)
    have hg := hcur.cellsAt (b := b) (c := cur) (t := e)
    have hall : ∀ x ∈ l ++ ys, (f x).length = n := fun x hx => (List.mem_append.1 hx).elim (k5 x) (hn x)
    have hlenA : ((l ++ ys).flatMap f).length = (l.length + ys.length) * n := by rw [flatMap_length hall, List.length_append]
    by_cases hroom : l.length + ys.length ≤ cap
    · have hfit : l.length * i0.size + (ys.flatMap f).length ≤ cur.size := by rw [hnews, k1, hsz, ← Nat.add_mul]; exact Nat.mul_le_mul_right _ hroom
      have hr := run_append_room (P := P) w t tr e i0 st.is hi b l.length cap cur hg.2 ad ys.length cs (ys.flatMap f) hnews hsrc h1 hroom hfit
      refine ⟨_, _, hr, ?_⟩
      rw [hsz] at hfit ⊢
      have h4 : Sat w0 ((b, slc n f (l ++ ys) cap e) :: F) _ := (hcur.setRow (b := b) (c := cur) (t := e) (cur.toList.take (l.length * n) ++ ys.flatMap f ++ cur.toList.drop (l.length * n + (ys.flatMap f).length)).toArray).toSlc (l := l ++ ys) (cap := cap) (n := n) (f := f) (by
          simp only [List.size_toArray, List.length_append, List.length_take, List.length_drop, Array.length_toList]; omega) (by rw [List.length_append]; exact hroom) k3 (by
          show List.take _ (List.take (l.length * n) cur.toList ++ ys.flatMap f ++ List.drop (l.length * n + (ys.flatMap f).length) cur.toList) = _
          rw [k4, List.length_append, ← hlenA, List.flatMap_append]; exact List.take_left) hall
      have := h4.slOfSlc
      rw [List.length_append] at this
      exact this
    · have holds : ∀ d u, (l.flatMap f)[d]? = some u → w.cell? ((⟨b, 0, none⟩ : Addr).add d) = some u := fun d u hu => by
        have hadd : (⟨b, 0, none⟩ : Addr).add d = ⟨b, d, none⟩ := by unfold Addr.add; split <;> simp_all
        rw [hadd, hcur.cell (b := b) (c := cur) (t := e)]
        rw [← k4, List.getElem?_take] at hu
        split at hu
        · simpa using hu
        · cases hu
      have hr := run_append_grow (P := P) w t tr e i0 zv st.is hi hz ⟨b, 0, none⟩ l.length cap (l.flatMap f) (by rw [hsz]; exact flatMap_length k5) holds ad ys.length cs (ys.flatMap f) hnews hsrc (by omega) (by omega) (growslice_fits (by omega) (by rw [hby]; exact hbytes))
      have hge := grownCap_ge w (l.length + ys.length) cap e
      have hcm := grownCap_le_maxLen w (l.length + ys.length) cap e hlen
      refine ⟨_, _, hr, ?_⟩
      have h3 := hcur.tail.drew.freshCells ((l.flatMap f).toArray ++ (ys.flatMap f).toArray ++ Builtin.zeroCells zv.cells (grownCap w (l.length + ys.length) cap e - (l.length + ys.length))) e
      have h4 : Sat w0 ((w.heap.size, slc n f (l ++ ys) (grownCap w (l.length + ys.length) cap e) e) :: F) _ := h3.toSlc (l := l ++ ys) (cap := grownCap w (l.length + ys.length) cap e) (n := n) (f := f) (by
        simp only [Array.size_append, List.size_toArray, size_zeroCells, hnews, flatMap_length k5, hzs, hsz, ← Nat.add_mul]; congr 1; omega) (by rw [List.length_append]; exact hge) hcm (by
        rw [Array.toList_append, Array.toList_append, List.toList_toArray, List.toList_toArray, List.length_append, ← hlenA, List.flatMap_append]; exact List.take_left) hall
      have := h4.slOfSlc
      rw [List.length_append] at this
      exact this

/-- 'append' of one element, just laid into a block of its own. -/
theorem append1 (hS : Sat w0 S w) (hw : Region.wanted o (yielded ops a.tmps) = true) (ho : o.op = .call { callee := .builtin .append, args := #[x, y], argTypes := #[t, t] }) (v : Value) (hx : a.eval x = v) (hy : a.eval y = .slice (some ⟨m, 0, none⟩) 1 1)
    [SliceTy P t e] {bt : Nat} [Ty P e agg n zv z] [Bytes P e bt] [Pull S m (cells c tb) F'] [PullSl F' v b n f l e F] (y0 : α) (hc : c.toList = f y0) (h1 : ∀ u ∈ f y0, u.oneCell' = true) (hn : (f y0).length = n)
    (hlen : l.length + 1 ≤ maxLen) (hbytes : (l.length + 1) * bt ≤ 140737488355328)
    (k : ∀ v' w', Sat w0 ((blk v', sl n f (l ++ [y0]) e v') :: F) w' → wpList P ops Q rest (a.put o.dst v') w') : wpList P ops Q (o :: rest) a w := by
  have hS0 := hS.pull m (X := cells c tb) (F := F')
  obtain ⟨v', w', hr, h'⟩ := run_appendL (P := P) hS0.tail (b := b) (n := n) (f := f) (l := l) (e := e) (v := v) (F := F) (t := t) o.type ⟨m, 0, none⟩ [y0] 1 (fun d u hu => by
    have hadd : (⟨m, 0, none⟩ : Addr).add d = ⟨m, d, none⟩ := by unfold Addr.add; split <;> simp_all
    rw [hadd, hS.cell (b := m) (c := c) (t := tb), ← Array.getElem?_toList, hc]; simpa using hu) (by simpa using h1) (by simpa using hn) (by simp) hlen hbytes
  refine wp_value hw (w' := w') ?_ (k v' w' h')
  simp only [List.length_cons, List.length_nil, Nat.zero_add] at hr
  simp [execOp, ho, resolve, invoke, builtin, hx, hy, hr]
/-- 'append(v, s...)', s of at least one element. -/
theorem appendMany (hS : Sat w0 S w) (hw : Region.wanted o (yielded ops a.tmps) = true) (ho : o.op = .call { callee := .builtin .append, args := #[x, y], argTypes := #[t, t] }) (v : Value) (hx : a.eval x = v) {ad : Addr} {ls cs : Nat} (hy : a.eval y = .slice (some ad) ls cs)
    [SliceTy P t e] {bt : Nat} [Ty P e agg n zv z] [Bytes P e bt] [PullSl S v b n f l e F] (ys : List α) (hls : ls = ys.length) (hsrc : ∀ d u, (ys.flatMap f)[d]? = some u → w.cell? (ad.add d) = some u) (h1 : ∀ u ∈ ys.flatMap f, u.oneCell' = true) (hn : ∀ y ∈ ys, (f y).length = n)
    (hpos : 0 < ys.length) (hlen : l.length + ys.length ≤ maxLen) (hbytes : (l.length + ys.length) * bt ≤ 140737488355328)
    (k : ∀ v' w', Sat w0 ((blk v', sl n f (l ++ ys) e v') :: F) w' → wpList P ops Q rest (a.put o.dst v') w') : wpList P ops Q (o :: rest) a w := by
  obtain ⟨v', w', hr, h'⟩ := run_appendL (P := P) hS (b := b) (n := n) (f := f) (l := l) (e := e) (v := v) (F := F) (t := t) o.type ad ys cs hsrc h1 hn hpos hlen hbytes
  refine wp_value hw (w' := w') ?_ (k v' w' h')
  simp [execOp, ho, resolve, invoke, builtin, hx, hy, hls, hr]

theorem foldl_put (off : Nat) : ∀ (l : List Value) (k : Nat) (acc : Array Value), off + k + l.length ≤ acc.size →
    ((l.zipIdx k).foldl (fun cs (p : Value × Nat) => cs.setIfInBounds (off + p.2) p.1) acc) = (acc.toList.take (off + k) ++ l ++ acc.toList.drop (off + k + l.length)).toArray
  | [], k, acc, _ => by simp
  | v :: r, k, acc, hk => by
    simp only [List.length_cons] at hk
    rw [List.zipIdx_cons, List.foldl_cons, foldl_put off r (k + 1) _ (by simp; omega)]
    have hlt : off + k < acc.toList.length := by simp; omega
    apply Array.ext'
    simp only [Array.toList_setIfInBounds, List.length_cons]
    rw [List.set_eq_take_append_cons_drop, if_pos hlt]
    have e1 : (acc.toList.take (off + k)).length = off + k := by simp at hlt ⊢; omega
    have e2 : List.take (off + (k + 1)) (acc.toList.take (off + k) ++ v :: acc.toList.drop (off + k + 1)) = acc.toList.take (off + k) ++ [v] := by
      rw [List.take_append, e1, show off + (k + 1) - (off + k) = 1 by omega, List.take_of_length_le (by omega)]; rfl
    have e3 : List.drop (off + (k + 1) + r.length) (acc.toList.take (off + k) ++ v :: acc.toList.drop (off + k + 1)) = acc.toList.drop (off + k + (r.length + 1)) := by
      rw [List.drop_append, e1, List.drop_eq_nil_of_le (by omega), show off + (k + 1) + r.length - (off + k) = r.length + 1 by omega, List.drop_succ_cons, List.drop_drop, List.nil_append]
      congr 1; omega
    rw [e2, e3]
    simp

/-- A slice literal of one element. -/
theorem buildSlice1 (hS : Sat w0 S w) (hw : Region.wanted o (yielded ops a.tmps) = true) (ho : o.op = .buildSlice t 1 #[(0, x)]) (hx : (a.eval x).cells = c)
    [st : SliceTy P t e] [ty : Ty P e agg n zv z] (hc : c.size = n) (hn : (n == 0) = false) (hsm : decide (n ≤ 16777216) = true)
    (k : ∀ m w', Sat w0 ((m, cells c e) :: S) w' → wpList P ops Q rest (a.put o.dst (.slice (some ⟨m, 0, none⟩) 1 1)) w') : wpList P ops Q (o :: rest) a w := by
  refine wp_value hw (w' := w.alloc (.cells c e)) ?_ (k w.heap.size _ (hS.freshCells c e))
  have h1 : ¬ (16777216 < n) := by have := of_decide_eq_true hsm; omega
  have h0 : n ≠ 0 := by simpa using hn
  have hz : zv.cells = z := ty.cells
  have hzl := ty.len
  have hfold : (c.zipIdx.foldl (fun cs (p : Value × Nat) => cs.setIfInBounds (0 + p.2) p.1) ((Array.range (1 * n)).map (z[· % z.size]!))) = c := by
    rw [← Array.foldl_toList, Array.toList_zipIdx, foldl_put 0 c.toList 0 _ (by simp; omega)]
    apply Array.ext'
    simp only [Nat.zero_add, List.take_zero, List.nil_append, Array.length_toList]
    rw [List.drop_eq_nil_of_le (by simp; omega)]; simp
  have hfill : Instr.fill (fun i => some (i * n, n)) ((Array.range (1 * n)).map (z[· % z.size]!)) [(0, a.eval x)] = some c := by
    unfold Instr.fill
    simp only [Nat.zero_mul, hx, hc]
    rw [if_neg (by simp)]
    unfold Instr.fill
    exact congrArg some hfold
  simp only [execOp, ho, Instr.buildSlice, Sem.run_bind, run_underlying st.is w, Result.andThen_ok, ty.size, Sem.run_ite]
  rw [if_neg (by omega)]
  simp only [Sem.run_pure, Result.andThen_ok, Sem.run_ite, Nat.one_mul]
  rw [if_neg h0]
  simp only [Sem.run_bind, ty.zero, Result.andThen_ok, Sem.run_pure, hz]
  simp only [Nat.one_mul] at hfill
  have hfill' : Instr.fill (fun i => some (i * n, n)) ((Array.range n).map (z[· % z.size]!)) (#[(0, x)].map fun (i, x) => (i, a.eval x)).toList = some c := by simpa using hfill
  rw [hfill']
  simp [newRow]

/-- 'make([]T, N)' at a size that is a natural number. -/
theorem makeN (hS : Sat w0 S w) (hw : Region.wanted o (yielded ops a.tmps) = true) (ho : o.op = .makeSlice t x y) (N : Nat) {kl kc : IntKind} (hx : a.eval x = .int kl (N : Int)) (hy : a.eval y = .int kc (N : Int))
    [st : SliceTy P t e] {bt : Nat} [ty : Ty P e agg n zv z] [by' : Bytes P e bt] (f : α → List Value) (y0 : α) (hf : z.toList = f y0) (hb : bt * N ≤ 281474976710656) (hm : N ≤ maxLen)
    (k : ∀ g w', Sat w0 ((g, slc n f (List.replicate N y0) N e) :: S) w' → wpList P ops Q rest (a.put o.dst (.slice (some ⟨g, 0, none⟩) N N)) w') : wpList P ops Q (o :: rest) a w := by
  obtain ⟨i0, hi, hz, hsz, hby⟩ := ty.info by'
  have hlen : (f y0).length = n := by rw [← hf, Array.length_toList, ty.len]
  have hm' : (N : Int) ≤ 9223372036854775807 := by have h := hm; simp [maxLen] at h; omega
  have hr := run_make (P := P) w t e i0 zv st.is hi hz kl kc N N (by omega) (Int.le_refl _) (by rw [hby, ← Int.natCast_mul]; omega) hm'
  simp only [Int.toNat_natCast] at hr
  refine wp_value hw (w' := w.alloc (.cells (madeCells zv.cells (N * i0.size)) e)) (by simp [execOp, ho, hx, hy, hr]) (k w.heap.size _ ?_)
  refine (hS.freshCells _ e).toSlc (l := List.replicate N y0) (cap := N) (n := n) (f := f) (by rw [size_madeCells, hsz]) (by simp) hm ?_ (fun x hx => by rw [(List.mem_replicate.1 hx).2]; exact hlen)
  rw [List.length_replicate, hsz, ty.cells, List.take_of_length_le (by simp [size_madeCells])]
  apply List.ext_getElem?
  intro d
  by_cases hd : d < N * n
  · have hn0 : 0 < n := by rcases Nat.eq_zero_or_pos n with h | h; (subst h; omega); exact h
    have h1 : d / n < N := Nat.div_lt_of_lt_mul (by rw [Nat.mul_comm]; exact hd)
    have h2 := flatMap_get (f := f) (n := n) (l := List.replicate N y0) (i := d / n) (j := d % n) (x := y0) (fun x hx => by rw [(List.mem_replicate.1 hx).2]; exact hlen) (by simp [h1]) (Nat.mod_lt _ hn0)
    rw [Nat.div_add_mod'] at h2
    rw [h2, ← hf]
    have h3 : d % n < z.size := by rw [ty.len]; exact Nat.mod_lt _ hn0
    have h4 : z[d % n]! = z[d % n] := by simp [h3]
    simp [madeCells, hd, ty.len, h3, h4]
  · rw [List.getElem?_eq_none (by simp [size_madeCells]; omega), List.getElem?_eq_none (by rw [flatMap_length (n := n) (fun x hx => by rw [(List.mem_replicate.1 hx).2]; exact hlen)]; simp; omega)]
end
end Go.Proofs.YtkppoffljkpiaaaDoor.Sl
