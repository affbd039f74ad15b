/-
  Appends inside regions that draw; the cells of a whole slice. It names no program.
-/
import Derived.Test.YtkppoffljkpiaaaDoorSlSeq
import Derived.Test.YtkppoffljkpiaaaDoorSlArr
namespace Go.Proofs.YtkppoffljkpiaaaDoor.Sl
open Go Go.RowKit

section
variable {P : Program} {ops : Array Oper} {rest : List Oper} {o : Oper} {a : Act} {Q : Exit → Act → World → Prop} {w0 w : World} {S F : List Chunk}
variable {α : Type} {n g b bt : Nat} {f : α → List Value} {vv : α → Value} {gd : α → Prop} {l : List α} {e t tb : TypeId} {agg : Bool} {z : Array Value} {zv v : Value} {x y : Operand}
/-- 'append(v, s...)' as a run: what it gives is known ahead. -/
theorem run_appendB (h : Sat w0 S w) [p : PullSl S v b n f l e F] [st : SliceTy P t e] [ty : Ty P e agg n zv z] [by' : Bytes P e bt] (tr : TypeId) (ys : List α) {sv : Value} (hsrc : BSl w n f gd ys sv) (h1 : ∀ x ∈ ys, ∀ u ∈ f x, u.oneCell' = true)
    (hlen : l.length + ys.length ≤ maxLen) (hbytes : (l.length + ys.length) * bt ≤ 140737488355328) :
    ∃ v' w', (Builtin.append_ #[t, t] tr #[v, sv]).run P w = .ok v' w' ∧ Sat w0 ((blk v', sl n f (l ++ ys) e v') :: F) w' := by
  obtain ⟨sa, cap, rfl, hl, hat⟩ := hsrc.at
  by_cases h0 : ys = []
  · subst h0
    have hS1 := h.perm p.perm
    rw [List.append_nil]
    rcases hS1.slCases with ⟨rfl, rfl, hF⟩ | ⟨cap', rfl, hC⟩
    · exact ⟨_, _, run_append_nothing (P := P) (w := w) t tr e none 0 0 (Nat.le_refl _) sa cap, hF.slNil n f e⟩
    · have hf := hC.slcFacts (g := b) (n := n) (f := f) (l := l) (cap := cap') (t := e)
      exact ⟨_, _, run_append_nothing (P := P) (w := w) t tr e (some ⟨b, 0, none⟩) l.length cap' hf.1 sa cap, hC.slOfSlc⟩
  · obtain ⟨sb, off, rfl, hb⟩ := hat h0
    have hn : ∀ y ∈ ys, (f y).length = n := fun y hy => by
      obtain ⟨i, hi, rfl⟩ := List.mem_iff_getElem.1 hy
      exact (hb.2 i _ (List.getElem?_eq_getElem hi)).2.1
    have hpos : 0 < ys.length := List.length_pos_iff.2 h0
    refine run_appendL h (b := b) (n := n) (f := f) (l := l) (F := F) tr ⟨sb, off, none⟩ ys cap (fun d u hu => ?_) (fun u hu => ?_) hn hpos hlen hbytes
    · have hadd : (⟨sb, off, none⟩ : Addr).add d = ⟨sb, off + d, none⟩ := by unfold Addr.add; split <;> simp_all
      rw [hadd]
      have hd : d < ys.length * n := by have := (List.getElem?_eq_some_iff.1 hu).1; rwa [flatMap_length hn] at this
      have hn0 : 0 < n := by rcases Nat.eq_zero_or_pos n with h | h; (subst h; omega); exact h
      have hi : d / n < ys.length := Nat.div_lt_of_lt_mul (by rw [Nat.mul_comm]; exact hd)
      have h2 := flatMap_get (f := f) (n := n) (l := ys) (i := d / n) (j := d % n) (x := ys[d / n]) hn (List.getElem?_eq_getElem hi) (Nat.mod_lt _ hn0)
      rw [Nat.div_add_mod'] at h2
      rw [h2] at hu
      have := (hb.2 (d / n) _ (List.getElem?_eq_getElem hi)).2.2 (d % n) u hu
      rw [Nat.add_assoc, Nat.div_add_mod'] at this
      exact this
    · obtain ⟨x, hx, hu⟩ := List.mem_flatMap.1 hu
      exact h1 x hx u hu
/-- An append whose run is known. -/
theorem appendR {v' sv : Value} {w' : World} (hw : Region.wanted o (yielded ops a.tmps) = true) (ho : o.op = .call { callee := .builtin .append, args := #[x, y], argTypes := #[t, t] }) (hx : a.eval x = v) (hy : a.eval y = sv)
    (hrun : (Builtin.append_ #[t, t] o.type #[v, sv]).run P w = .ok v' w') (k : wpList P ops Q rest (a.put o.dst v') w') : wpList P ops Q (o :: rest) a w := by
  refine wp_value hw (w' := w') ?_ k
  simp [execOp, ho, resolve, invoke, builtin, hx, hy, hrun]
/-- A slice's array's address. -/
theorem arrayPtr {arr e' : TypeId} {m len cap : Nat} {ad : Addr} (hw : Region.wanted o (yielded ops a.tmps) = true) (ho : o.op = .sliceToArrayPointer arr x) (hu : P.underlying arr = some (.array m e')) (hx : a.eval x = .slice (some ad) len cap) (hm : m ≤ len)
    (k : wpList P ops Q rest (a.put o.dst (.pointer (some ad))) w) : wpList P ops Q (o :: rest) a w := by
  refine wp_value hw (w' := w) ?_ k
  have hlt : ¬ len < m := by omega
  simp [execOp, ho, hx, Instr.arrayAt, run_underlying hu, hlt]
/-- 's[i:]': where nothing is left the base may stay. -/
theorem sliceTail {lo : Operand} {off len cap i : Nat} {q : IntKind} {ad : Addr} (hw : Region.wanted o (yielded ops a.tmps) = true) (ho : o.op = .slice t x (some lo) none none) (hx : a.eval x = .slice (some ad) len cap) (hlo : a.eval lo = .int q (i : Int))
    [st : SliceTy P t e] [ty : Ty P e false 1 zv z] (had : i < len → ad = ⟨b, off, none⟩) (hi : i ≤ len) (hc : len ≤ cap)
    (k : ∀ ad', (i < len → ad' = ⟨b, off + i, none⟩) → wpList P ops Q rest (a.put o.dst (.slice (some ad') (len - i) (cap - i))) w) : wpList P ops Q (o :: rest) a w := by
  refine wp_value hw (w' := w) (v := .slice (some (if cap = i then ad else ad.add i)) (len - i) (cap - i)) ?_ (k _ ?_)
  · have h1 : ¬ ((i : Int) < 0) := by omega
    have h2 : (i : Int) ≤ len := by omega
    simp [execOp, ho, hx, hlo, Instr.sliceAt, run_underlying st.is, Instr.slice, Instr.sliceBounds, Instr.sliceBound, asIntOf, ty.size, hi]
    by_cases h : cap = i <;> simp [h]
  · intro hlt
    rw [if_neg (by omega), had hlt]
    unfold Addr.add; split <;> simp_all
/-- All cells of a slice of the call's own are read as an array. -/
theorem loadSA {cap : Nat} (hS : Sat w0 S w) (hw : Region.wanted o (yielded ops a.tmps) = true) (ho : o.op = .load t x) (hx : a.eval x = .pointer (some ⟨g, 0, none⟩))
    [ty : Ty P t true n zv z] [Pull S g (slc 1 (one vv) l cap tb) F] (hn : l.length = n)
    (k : wpList P ops Q rest (a.put o.dst (.agg (l.map vv).toArray)) w) : wpList P ops Q (o :: rest) a w := by
  refine wp_value hw ?_ k
  have h1 : (loadVar t ⟨g, 0, none⟩).run P w = .ok (.agg (l.map vv).toArray) w := run_loadN (by simpa using hn) (fun d u hu => by
    rw [List.getElem?_map] at hu
    obtain ⟨y, hy, rfl⟩ := Option.map_eq_some_iff.1 hu
    have := hS.slcCell (g := g) (n := 1) (f := one vv) (l := l) (cap := cap) (t := tb) (i := d) (j := 0) hy (by omega)
    rw [Nat.mul_one, Nat.add_zero] at this
    rw [Nat.zero_add, this]
    rfl)
  simp [execOp, ho, hx, Instr.loadAt, Instr.sureAddr, h1]
/-- A slice is cut to its first m elements. -/
theorem Sat.slcCut {cap : Nat} (h : Sat w0 ((g, slc n f l cap t) :: F) w) (m : Nat) (hm : m ≤ l.length) : Sat w0 ((g, slc n f (l.take m) cap t) :: F) w := by
  refine h.turn fun _ ⟨cur, h1, h2, h3, h4, h5, h6⟩ => ⟨cur, h1, h2, by rw [List.length_take]; omega, h4, ?_, fun x hx => h6 x (List.mem_of_mem_take hx)⟩
  have hlen : (l.take m).length = m := by rw [List.length_take]; omega
  have hsub : m * n ≤ l.length * n := Nat.mul_le_mul_right n hm
  have e1 : cur.toList.take (m * n) = (l.flatMap f).take (m * n) := by
    rw [← h5, List.take_take, Nat.min_eq_left hsub]
  rw [hlen, e1]
  have h7 : l.flatMap f = (l.take m).flatMap f ++ (l.drop m).flatMap f := by rw [← List.flatMap_append, List.take_append_drop]
  rw [h7]
  exact List.take_left' (by rw [flatMap_length fun x hx => h6 x (List.mem_of_mem_take hx), hlen])
end
end Go.Proofs.YtkppoffljkpiaaaDoor.Sl
