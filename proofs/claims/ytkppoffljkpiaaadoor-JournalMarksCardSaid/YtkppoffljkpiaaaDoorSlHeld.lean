/-
  A region that draws its order and makes memory in more than one order: reads are taken first, the rest is walked order by order. It names no program.
-/
import Derived.Test.YtkppoffljkpiaaaDoorSlApp
import Derived.OrdersHeld
namespace Go.Proofs.YtkppoffljkpiaaaDoor.Sl
open Go Go.RowKit

section
variable {P : Program} {ops : Array Oper} {o : Oper} {a : Act} {Q : Exit → Act → World → Prop} {w0 w : World} {S F : List Chunk} {I : World → Prop}
variable {b off n i fuel : Nat} {c z : Array Value} {zv v : Value} {t tb e : TypeId} {agg : Bool} {x y : Operand} {D : Array Bool}

/-- Number i is taken first. -/
theorem drop_get {rest : List Oper} (h : ops.toList.drop i = o :: rest) : ops[i]? = some o := by
  have := congrArg (fun l => l[0]?) h
  simpa using this
theorem takeIf {rest : List Oper} (hi0 : ops.toList.drop i = o :: rest) (hs : (Region.noSelect ops && Region.free .any ops D i && (Region.ready .any ops D).contains i) = true)
    (hQ : ∀ c a w, Q (.panic c) (a.put o.dst v) w → Q (.panic c) a w) (hy : YieldsIf P ops I o v a) (hI : I w)
    (h : wpAnyH P .any ops Q I fuel (D.setIfInBounds i true) (a.put o.dst v) w) : wpAnyH P .any ops Q I (fuel + 1) D a w := by
  have hi := drop_get hi0
  simp only [Bool.and_eq_true] at hs
  exact wpAnyH_take hi hs.1.1 hs.1.2 hs.2 hQ hy hI h

theorem yMove (hw : Region.wanted o (yielded ops a.tmps) = true) (ho : o.op = .move x) (hx : a.eval x = v) : YieldsIf P ops I o v a :=
  .inl ⟨hw, fun w _ => by simp [execOp, ho, hx]⟩
theorem yNil {ad : Addr} (hw : Region.wanted o (yielded ops a.tmps) = true) (ho : o.op = .nilCheck x) (hx : a.eval x = .pointer (some ad)) : YieldsIf P ops I o (.pointer (some ad)) a :=
  .inl ⟨hw, fun w _ => by simp [execOp, ho, hx]⟩
theorem yField (tf : TypeId) {fs : Array Field} {f : Field} {more : List Field} {j k : Nat} (hw : Region.wanted o (yielded ops a.tmps) = true) (ho : o.op = .fieldAddr t x j) (hx : a.eval x = .pointer (some ⟨b, off, none⟩))
    (hu : P.underlying t = some (.struct fs)) (hf : fs.toList.drop j = f :: more) (htf : f.type = tf) [ty : Ty P tf agg n zv z] (hn : (n == 0) = false) (hk : f.offset = k) : YieldsIf P ops I o (.pointer (some ⟨b, off + k, none⟩)) a :=
  .inl ⟨hw, fun w _ => by
    have hn' : ¬ n = 0 := by simpa using hn
    subst htf
    have hf : fs[j]? = some f := by
      have := congrArg (fun l => l[0]?) hf
      simpa using this
    have hadd : (⟨b, off, none⟩ : Addr).add k = ⟨b, off + k, none⟩ := by unfold Addr.add; split <;> simp_all
    simp [execOp, ho, hx, Instr.fieldAt, run_underlying hu, hf, Instr.sureAddr, fieldPlace, ty.size, hn', hk, hadd]⟩
theorem yLoad1 (hI : ∀ w, I w → Sat w0 S w) (hw : Region.wanted o (yielded ops a.tmps) = true) (ho : o.op = .load t x) (hx : a.eval x = .pointer (some ⟨b, off, none⟩))
    [ty : Ty P t false n zv z] [Pull S b (cells c tb) F] (hc : c[off]? = some v) : YieldsIf P ops I o v a :=
  .inl ⟨hw, fun w h => by
    have hS := hI w h
    have h1 : (loadVar t ⟨b, off, none⟩).run P w = .ok v w := run_load1 (by rw [hS.cell (b := b) (c := c) (t := tb)]; exact hc)
    simp [execOp, ho, hx, Instr.loadAt, Instr.sureAddr, h1]⟩
theorem yLoadPart (hI : ∀ w, I w → Sat w0 S w) (hw : Region.wanted o (yielded ops a.tmps) = true) (ho : o.op = .load t x) (hx : a.eval x = .pointer (some ⟨b, off, none⟩))
    [ty : Ty P t true n zv z] [Pull S b (cells c tb) F] {l : List Value} (hn : l.length = n) (hl : (c.toList.drop off).take n = l) : YieldsIf P ops I o (.agg l.toArray) a :=
  .inl ⟨hw, fun w h => by
    have hS := hI w h
    have h1 : (loadVar t ⟨b, off, none⟩).run P w = .ok (.agg l.toArray) w := run_loadN hn (fun j v hv => by
      rw [hS.cell (b := b) (c := c) (t := tb)]
      rw [← hl, List.getElem?_take] at hv
      split at hv
      · rw [List.getElem?_drop] at hv; simpa using hv
      · cases hv)
    simp [execOp, ho, hx, Instr.loadAt, Instr.sureAddr, h1]⟩

theorem Sat.freshM {m : Nat} (h : Sat w0 S w) (hm : m = w.heap.size) (c : Array Value) (t : TypeId) : Sat w0 ((m, cells c t) :: S) (w.alloc (.cells c t)) := by
  subst hm
  exact h.freshCells c t
/-- Whichever may come up: each by its own run. -/
theorem opValue {rest : List Oper} {K : Act → World → Prop} {w' : World} (hi0 : ops.toList.drop i = o :: rest) (hw : Region.wanted o (yielded ops a.tmps) = true) (hrun : (execOp a.eval o).run P w = .ok (.value v) w') (k : K (a.put o.dst v) w') : wpOp P ops Q i K a w := by
  have hi := drop_get hi0
  unfold Go.wpOp
  simp only [hi, hw, if_true, Oper.wp, hrun, Oper.upon]
  exact .inl k
theorem opSkip {rest : List Oper} {K : Act → World → Prop} {w' : World} (hi0 : ops.toList.drop i = o :: rest) (hw : Region.wanted o (yielded ops a.tmps) = true) (hrun : (execOp a.eval o).run P w = .ok .skip w') (k : K (a.put o.dst undef) w') : wpOp P ops Q i K a w := by
  have hi := drop_get hi0
  unfold Go.wpOp
  simp only [hi, hw, if_true, Oper.wp, hrun, Oper.upon]
  exact .inl k
theorem opAlloc {rest : List Oper} {K : Act → World → Prop} (hi0 : ops.toList.drop i = o :: rest) (hw : Region.wanted o (yielded ops a.tmps) = true) (ho : o.op = .alloc t) [ty : Ty P t agg n zv z]
    (k : ∀ m, m = w.heap.size → K (a.put o.dst (.pointer (some ⟨m, 0, none⟩))) (w.alloc (.cells z t))) : wpOp P ops Q i K a w :=
  opValue hi0 hw (by simp [execOp, ho, Instr.alloc, ty.zero, newVar, newRow, ty.cells]) (k _ rfl)
theorem opBuild0 {rest : List Oper} {K : Act → World → Prop} (hi0 : ops.toList.drop i = o :: rest) (hw : Region.wanted o (yielded ops a.tmps) = true) (ho : o.op = .buildSlice t 0 #[]) [st : SliceTy P t e] [ty : Ty P e agg n zv z]
    (k : ∀ m, m = w.heap.size → K (a.put o.dst (.slice (some ⟨m, 0, none⟩) 0 0)) (w.alloc (.cells #[] e))) : wpOp P ops Q i K a w :=
  opValue hi0 hw (by
    have hr0 : Array.range 0 = #[] := Array.ext' (by simp)
    simp [execOp, ho, Instr.buildSlice, run_underlying st.is, ty.size, Instr.fill, newRow, hr0]) (k _ rfl)
theorem opAppend {rest : List Oper} {K : Act → World → Prop} {v' sv : Value} {w' : World} (hi0 : ops.toList.drop i = o :: rest) (hw : Region.wanted o (yielded ops a.tmps) = true) (ho : o.op = .call { callee := .builtin .append, args := #[x, y], argTypes := #[t, t] }) (hx : a.eval x = v) (hy : a.eval y = sv)
    (hrun : (Builtin.append_ #[t, t] o.type #[v, sv]).run P w = .ok v' w') (k : K (a.put o.dst v') w') : wpOp P ops Q i K a w :=
  opValue hi0 hw (by simp [execOp, ho, resolve, invoke, builtin, hx, hy, hrun]) k
theorem opStoreAll {rest : List Oper} {K : Act → World → Prop} {cs : Array Value} (hS : Sat w0 S w) (hi0 : ops.toList.drop i = o :: rest) (hw : Region.wanted o (yielded ops a.tmps) = true) (ho : o.op = .store t x y) (hx : a.eval x = .pointer (some ⟨b, 0, none⟩)) (hy : a.eval y = .agg cs)
    [ty : Ty P t agg n zv z] (hn : cs.size = n) (hv : ∀ v ∈ cs.toList, v.oneCell' = true) [p : Pull S b (cells c tb) F] (hc : c.size = n)
    (k : ∀ w', Sat w0 ((b, cells cs tb) :: F) w' → K (a.put o.dst undef) w') : wpOp P ops Q i K a w := by
  have hg := hS.cellsAt (b := b) (c := c) (t := tb)
  have hst := run_storeCells_at (P := P) b 0 tb cs.toList 0 c w hg.2 (by simp; omega) hv
  simp only [Nat.add_zero, Array.length_toList, Nat.zero_add, hn] at hst
  refine opSkip hi0 hw (w' := w.setRow b (c.toList.take 0 ++ cs.toList ++ c.toList.drop n).toArray) ?_ (k _ ?_)
  · have hcs : (Value.agg cs).cells = cs := rfl
    simp [execOp, ho, hx, hy, Instr.storeAt, Instr.sureAddr, storeVar, ty.size, hcs, hn]
    simp at hst
    rw [hst]
    rfl
  · have e1 : (c.toList.take 0 ++ cs.toList ++ c.toList.drop n).toArray = cs := by
      rw [List.drop_eq_nil_of_le (by simp; omega)]
      simp
    rw [e1]
    exact hS.setRow _
/-- 'a[i]', an array that is a value. -/
theorem indexA {α : Type} {vv : α → Value} {l : List α} {rest : List Oper} {Q : Exit → Act → World → Prop} {q : IntKind} {m : Nat} (hw : Region.wanted o (yielded ops a.tmps) = true) (ho : o.op = .index t x y) (hx : a.eval x = .agg (l.map vv).toArray) (j : Nat) (hj : a.eval y = .int q (j : Int))
    (hu : P.underlying t = some (.array m e)) [ty : Ty P e false 1 zv z] {u : α} (hc : l[j]? = some u) (hm : j < m) (k : wpList P ops Q rest (a.put o.dst (vv u)) w) : wpList P ops Q (o :: rest) a w := by
  refine wp_value hw (w' := w) ?_ k
  simp [execOp, ho, hx, hj, Instr.index, asIntOf, run_underlying hu, hm, ty.size, part, ty.isAgg, hc]
/-- What is asked at the end of one operation's own walk. -/
def Qk (K : Act → World → Prop) : Exit → Act → World → Prop := fun e a2 w2 => e = .normal ∧ K a2 w2
/-- An operation that comes up, by its own walk. -/
theorem wpOp_of_list {rest : List Oper} {K : Act → World → Prop} (hi0 : ops.toList.drop i = o :: rest) (h : wpList P ops (Qk K) [o] a w) : wpOp P ops Q i K a w := by
  have hi := drop_get hi0
  unfold Go.wpOp
  simp only [hi]
  by_cases hw : Region.wanted o (yielded ops a.tmps) = true
  · rw [if_pos hw]
    left
    unfold wpList at h
    rw [if_pos hw] at h
    rcases h with h1 | ⟨_, a', w', h1, _⟩
    · unfold Oper.wp at h1 ⊢
      generalize (execOp a.eval o).run P w = r at h1
      cases r with
      | halt x w' => cases x <;> simp only [Oper.upon] at h1 <;> first | exact h1.elim | (obtain ⟨h2, _⟩ := h1; cases h2)
      | ok n w' =>
        cases n <;> simp only [Oper.upon] at h1 ⊢
        case value u => exact h1.2
        case skip => exact h1.2
        case enter f args =>
          refine h1.mono fun e w'' h2 => ?_
          cases e with
          | returned u => exact h2.2
          | panicked ch => obtain ⟨h3, _⟩ := h2; cases h3
          | outgrown => obtain ⟨_, _, h3, _⟩ := h2; cases h3
        case row r args => exact h1.mono fun u w'' h2 => h2.2
        case defer d => exact h1.2
        all_goals exact h1.elim
    · cases h1
  · rw [if_neg hw]
    unfold wpList at h
    rw [if_neg hw] at h
    exact h.2
theorem yLoadAll (hI : ∀ w, I w → Sat w0 S w) (hw : Region.wanted o (yielded ops a.tmps) = true) (ho : o.op = .load t x) (hx : a.eval x = .pointer (some ⟨b, 0, none⟩))
    [ty : Ty P t true n zv z] [Pull S b (cells c tb) F] (hn : c.size = n) : YieldsIf P ops I o (.agg c) a :=
  .inl ⟨hw, fun w h => by
    have hS := hI w h
    have h1 := run_loadAll (P := P) hS b t hn
    simp [execOp, ho, hx, Instr.loadAt, Instr.sureAddr, h1]⟩
end
end Go.Proofs.YtkppoffljkpiaaaDoor.Sl
