/-
  What can be read in a world: slices, wherever they stand; a callee that writes nothing that was there before it; rules of append, copy, conversion that read so. It names no program.
-/
import Derived.Test.YtkppoffljkpiaaaDoorSlMap
import Derived.Test.YtkppoffljkpiaaaDoorSlDraw
import Derived.Test.YtkppoffljkpiaaaDoorSlSlice
import Derived.Test.YtkppoffljkpiaaaDoorSlIn
import Derived.Laws.BytesArg
import Derived.Laws.AppendOwn
import Derived.Lib.AppendZeros
import Derived.Lib.AppendZerosOnto
namespace Go.Proofs.YtkppoffljkpiaaaDoor.Sl
open Go Go.RowKit

section
variable {w0 w w' : World} {S T F : List Chunk}
/-- The frame rule: what a callee left, over what its caller had. -/
theorem Sat.frame (h : Sat w0 S w) (h2 : Sat w T w') : Sat w0 (T ++ S) w' := by
  have hle := h.le
  refine ⟨h.base.trans (h2.base.mono hle), holds_join (h1 := own w.heap.size w') (h2 := own w0.heap.size w) (fun k => ?_) (fun k o e => ?_) (fun k o e => ?_) h2.has h.has⟩
  · by_cases hk : k < w.heap.size
    · left; simp [own, hk]
    · right; unfold own; split
      · rfl
      · exact Array.getElem?_eq_none (by omega)
  · have := own_some e
    unfold own; rw [if_neg (by omega)]; exact this.2
  · have := own_some e
    have hlt : k < w.heap.size := (Array.getElem?_eq_some_iff.1 this.2).1
    unfold own; rw [if_neg (by omega), h2.base.block k hlt]; exact this.2

theorem holds_mem : ∀ {S : List Chunk} {h : Hp} {b : Nat} {X : K}, holds S h → (b, X) ∈ S → ∃ h1, le h1 h ∧ X b h1
  | (b', X') :: S, h, b, X, ⟨h1, h2, d, l1, l2, x, r⟩, hm => by
    rcases List.mem_cons.1 hm with e | e
    · cases e; exact ⟨h1, l1, x⟩
    · obtain ⟨h3, l3, hx⟩ := holds_mem r e
      exact ⟨h3, le_trans l3 l2, hx⟩
end

section
variable {α : Type} {w w' : World} {n : Nat} {f : α → List Value} {gd gd' : α → Prop} {L : List α} {b off : Nat} {v : Value}
theorem BAt.mono (h : BAt w n f gd L b off) (hb : Below w.heap.size w w') (hg : ∀ x ∈ L, gd x → gd' x) : BAt w' n f gd' L b off :=
  ⟨Nat.lt_of_lt_of_le h.1 hb.size, fun i x hx => ⟨hg x (List.mem_of_getElem? hx) (h.2 i x hx).1, (h.2 i x hx).2.1, fun j u hu => (hb.cell (p := ⟨b, off + i * n + j, none⟩) h.1).trans ((h.2 i x hx).2.2 j u hu)⟩⟩
theorem BSl.mono (h : BSl w n f gd L v) (hb : Below w.heap.size w w') (hg : ∀ x ∈ L, gd x → gd' x) : BSl w' n f gd' L v := by
  rcases h with h | ⟨b, off, cap, rfl, h1, h2, h⟩
  · exact .inl h
  · exact .inr ⟨b, off, cap, rfl, h1, h2, h.mono hb hg⟩
theorem BAt.part (h : BAt w n f gd L b off) (i m : Nat) : BAt w n f gd ((L.drop i).take m) b (off + i * n) :=
  ⟨h.1, fun k x hx => by
    rw [List.getElem?_take] at hx
    split at hx
    · rw [List.getElem?_drop] at hx
      obtain ⟨h1, h2, h3⟩ := h.2 _ x hx
      refine ⟨h1, h2, fun j u hu => ?_⟩
      have := h3 j u hu
      rw [Nat.add_mul] at this
      rw [← this]; congr 2; omega
    · cases hx⟩
theorem BSl.len (h : BSl w n f gd L v) : L.length ≤ 9223372036854775807 := by
  obtain ⟨a, cap, rfl, h1, _⟩ := h.at; exact h1
theorem BSl.max (h : BSl w n f gd L v) : L.length ≤ maxLen := by
  rcases h with ⟨rfl, _⟩ | ⟨b, off, cap, rfl, h1, h2, h⟩
  · simp
  · omega
theorem BSl.all (h : BSl w n f gd L v) : ∀ x ∈ L, gd x := fun x hx => by
  rcases h with ⟨rfl, _⟩ | ⟨b, off, cap, rfl, h1, h2, h⟩
  · cases hx
  · obtain ⟨i, hi, rfl⟩ := List.mem_iff_getElem.1 hx
    exact (h.2 i L[i] (List.getElem?_eq_getElem hi)).1
end

section
variable {α : Type} {w0 w : World} {S F : List Chunk} {g n cap : Nat} {f : α → List Value} {L : List α} {t : TypeId} {gd : α → Prop} {v : Value}
/-- A slice of the call's own can be read. -/
theorem Sat.reads (h : Sat w0 S w) [p : Pull S g (slc n f L cap t) F] (hg : ∀ x ∈ L, gd x) : BAt w n f gd L g 0 := by
  obtain ⟨cur, hcur, _⟩ := h.slcOf (g := g) (n := n) (f := f) (l := L) (cap := cap) (t := t)
  have hh := hcur.cellsAt (b := g) (c := cur) (t := t)
  have hf := (h.slcFacts (g := g) (n := n) (f := f) (l := L) (cap := cap) (t := t)).2.2.1
  refine ⟨(Array.getElem?_eq_some_iff.1 hh.2).1, fun i x hx => ⟨hg x (List.mem_of_getElem? hx), hf x (List.mem_of_getElem? hx), fun j u hu => ?_⟩⟩
  have hj : j < n := by have := (List.getElem?_eq_some_iff.1 hu).1; have := hf x (List.mem_of_getElem? hx); omega
  rw [Nat.zero_add, h.slcCell (g := g) (n := n) (f := f) (l := L) (cap := cap) (t := t) hx hj]
  exact hu
theorem Sat.readsSlc (h : Sat w0 S w) [p : Pull S g (slc n f L cap t) F] (hg : ∀ x ∈ L, gd x) : BSl w n f gd L (.slice (some ⟨g, 0, none⟩) L.length cap) := by
  have hf := h.slcFacts (g := g) (n := n) (f := f) (l := L) (cap := cap) (t := t)
  exact .inr ⟨g, 0, cap, rfl, hf.1, hf.2.1, h.reads hg⟩
theorem Sat.readsSl (h : Sat w0 S w) [p : PullSl S v g n f L t F] (hg : ∀ x ∈ L, gd x) : BSl w n f gd L v := by
  rcases (h.perm p.perm).slCases with ⟨rfl, rfl, _⟩ | ⟨cap, rfl, hC⟩
  · exact .inl ⟨rfl, .inl rfl⟩
  · exact hC.readsSlc (g := g) hg
theorem Sat.slSome (h : Sat w0 ((g, sl n f L t v) :: F) w) (hl : L ≠ []) : ∃ g' cap, v = .slice (some ⟨g', 0, none⟩) L.length cap ∧ Sat w0 ((g', slc n f L cap t) :: F) w := by
  rcases h.slCases with ⟨rfl, h, _⟩ | ⟨cap, h1, h2⟩
  · exact absurd h hl
  · exact ⟨g, cap, h1, h2⟩
/-- A slice's length. -/
def sLen : Value → Nat
  | .slice _ l _ => l
  | _ => 0
/-- A slice of at least one element: its value, and its chunk. -/
theorem Sat.slForm (h : Sat w0 ((g, sl n f L t v) :: F) w) (m : Nat) (hm : L.length = m) (h0 : 0 < m) : ∃ g' cap, v = .slice (some ⟨g', 0, none⟩) m cap ∧ Sat w0 ((g', sl n f L t (.slice (some ⟨g', 0, none⟩) m cap)) :: F) w := by
  obtain ⟨g', cap, h1, h2⟩ := h.slSome (by intro e; subst e; simp at hm; omega)
  subst hm
  exact ⟨g', cap, h1, h2.slOfSlc⟩
theorem Sat.slFormC (h : Sat w0 ((g, sl n f L t v) :: F) w) (m : Nat) (hm : L.length = m) (h0 : 0 < m) : ∃ g' cap, v = .slice (some ⟨g', 0, none⟩) m cap ∧ Sat w0 ((g', slc n f L cap t) :: F) w := by
  obtain ⟨g', cap, h1, h2⟩ := h.slSome (by intro e; subst e; simp at hm; omega)
  subst hm
  exact ⟨g', cap, h1, h2⟩
theorem Sat.slLen (h : Sat w0 S w) [p : PullSl S v g n f L t F] : sLen v = L.length := by
  rcases (h.perm p.perm).slCases with ⟨rfl, rfl, _⟩ | ⟨cap, rfl, _⟩ <;> rfl
theorem Sat.slCell (h : Sat w0 S w) [p : PullSl S v g n f L t F] : v.oneCell' = true := by
  rcases (h.perm p.perm).slCases with ⟨rfl, _, _⟩ | ⟨cap, rfl, _⟩ <;> rfl
end

/-! ### Bytes -/
def okByte (b : Int) : Prop := 0 ≤ b ∧ b < 256
abbrev by8 : Int → List Value := one (Value.int .u8)
/-- A value that reads as whole numbers. -/
abbrev i64 : Int → List Value := one (Value.int .i64)
abbrev RI (w : World) (A : List Int) (v : Value) : Prop := BSl w 1 i64 (fun _ => True) A v
/-- A value that reads as bytes. -/
abbrev RB (w : World) (A : List Int) (v : Value) : Prop := BSl w 1 by8 okByte A v
/-- .. as rows of bytes. -/
abbrev RR (w : World) (X : List (Value × List Int)) (v : Value) : Prop := BSl w 1 (fun x => [x.1]) (fun x => RB w x.2 x.1) X v
theorem RB.mono {w w' : World} {A : List Int} {v : Value} (h : RB w A v) (hb : Below w.heap.size w w') : RB w' A v := BSl.mono h hb fun _ _ h => h
theorem RR.mono {w w' : World} {X : List (Value × List Int)} {v : Value} (h : RR w X v) (hb : Below w.heap.size w w') : RR w' X v := BSl.mono h hb fun _ _ h => h.mono hb
theorem RI.mono {w w' : World} {A : List Int} {v : Value} (h : RI w A v) (hb : Below w.heap.size w w') : RI w' A v := BSl.mono h hb fun _ _ h => h
def cat (X : List (Value × List Int)) : List Int := (X.map (·.2)).flatten

section
variable {P : Program} {ops : Array Oper} {rest : List Oper} {o : Oper} {a : Act} {Q : Exit → Act → World → Prop} {w0 w : World} {S F F' : List Chunk}
variable {α : Type} {n g b m i bt : Nat} {f : α → List Value} {gd : α → Prop} {l L : List α} {e t tb : TypeId} {agg : Bool} {z : Array Value} {zv : Value} {x y : Operand} {v : Value} {c : Array Value}

theorem run_append_nothing (t tr e : TypeId) [st : SliceTy P t e] [ty : Ty P e agg n zv z] (base : Option Addr) (len cap : Nat) (hl : len ≤ cap) (src : Option Addr) (sc : Nat) :
    (Builtin.append_ #[t, t] tr #[.slice base len cap, .slice src 0 sc]).run P w = .ok (.slice base len cap) w := by
  unfold Builtin.append_
  cases base with
  | none => cases src <;> simp [run_underlying st.is, ty.size, Builtin.lenOf, Builtin.firstCells, hl, loadCells, loadCellsFrom]
  | some ad => cases src <;> simp [run_underlying st.is, ty.size, Builtin.lenOf, Builtin.firstCells, hl, storeCells, loadCells, loadCellsFrom]

/-- 'append(v, s...)', s read anywhere. -/
theorem appendB (hS : Sat w0 S w) (hw : Region.wanted o (yielded ops a.tmps) = true) (ho : o.op = .call { callee := .builtin .append, args := #[x, y], argTypes := #[t, t] }) (v : Value) (hx : a.eval x = v) {sv : Value} (hy : a.eval y = sv)
    [st : SliceTy P t e] [ty : Ty P e agg n zv z] [by' : Bytes P e bt] [p : PullSl S v b n f l e F] (ys : List α) (hsrc : BSl w n f gd ys sv) (h1 : ∀ x ∈ ys, ∀ u ∈ f x, u.oneCell' = true)
    (hlen : l.length + ys.length ≤ maxLen) (hbytes : (l.length + ys.length) * bt ≤ 140737488355328)
    (k : ∀ v' w', Sat w0 ((blk v', sl n f (l ++ ys) e v') :: F) w' → wpList P ops Q rest (a.put o.dst v') w') : wpList P ops Q (o :: rest) a w := by
  obtain ⟨sa, cap, rfl, hl, hat⟩ := hsrc.at
  by_cases h0 : ys = []
  · subst h0
    have hS1 := hS.perm p.perm
    rw [List.append_nil] at k
    rcases hS1.slCases with ⟨rfl, rfl, hF⟩ | ⟨cap', rfl, hC⟩
    · refine wp_value hw (w' := w) ?_ (k (.slice none 0 0) w (hF.slNil n f e))
      simp [execOp, ho, resolve, invoke, builtin, hx, hy, run_append_nothing (P := P) (w := w) t o.type e none 0 0 (Nat.le_refl _) sa cap]
    · have hf := hC.slcFacts (g := b) (n := n) (f := f) (l := l) (cap := cap') (t := e)
      refine wp_value hw (w' := w) ?_ (k (.slice (some ⟨b, 0, none⟩) l.length cap') w hC.slOfSlc)
      simp [execOp, ho, resolve, invoke, builtin, hx, hy, run_append_nothing (P := P) (w := w) t o.type e (some ⟨b, 0, none⟩) l.length cap' hf.1 sa cap]
  · obtain ⟨sb, off, rfl, hb⟩ := hat h0
    have hn : ∀ y ∈ ys, (f y).length = n := fun y hy => by
      obtain ⟨i, hi, rfl⟩ := List.mem_iff_getElem.1 hy
      exact (hb.2 i _ (List.getElem?_eq_getElem hi)).2.1
    have hpos : 0 < ys.length := List.length_pos_iff.2 h0
    refine appendMany hS hw ho v hx hy (b := b) (n := n) (f := f) (l := l) (F := F) ys rfl (fun d u hu => ?_) (fun u hu => ?_) hn hpos hlen hbytes k
    · have hadd : (⟨sb, off, none⟩ : Addr).add d = ⟨sb, off + d, none⟩ := by unfold Addr.add; split <;> simp_all
      rw [hadd]
      have hd : d < ys.length * n := by have := (List.getElem?_eq_some_iff.1 hu).1; rwa [flatMap_length hn] at this
      have hn0 : 0 < n := by rcases Nat.eq_zero_or_pos n with h | h; (subst h; omega); exact h
      have hi : d / n < ys.length := Nat.div_lt_of_lt_mul (by rw [Nat.mul_comm]; exact hd)
      have h2 := flatMap_get (f := f) (n := n) (l := ys) (i := d / n) (j := d % n) (x := ys[d / n]) hn (List.getElem?_eq_getElem hi) (Nat.mod_lt _ hn0)
      rw [Nat.div_add_mod'] at h2
      rw [h2] at hu
      have := (hb.2 (d / n) _ (List.getElem?_eq_getElem hi)).2.2 (d % n) u hu
      rw [Nat.add_assoc, Nat.div_add_mod'] at this
      exact this
    · obtain ⟨x, hx, hu⟩ := List.mem_flatMap.1 hu
      exact h1 x hx u hu

theorem zeroCells_one (c : Value) (N : Nat) : (Builtin.zeroCells #[c] N).toList = List.replicate N c := by
  unfold Builtin.zeroCells
  apply List.ext_getElem?
  intro i
  by_cases h : i < N
  · simp [h, Nat.mod_one]
  · rw [List.getElem?_eq_none (by simp; omega), List.getElem?_eq_none (by simp; omega)]
theorem flatMap_one (vv : α → Value) (l : List α) : l.flatMap (one vv) = l.map vv := by
  induction l with
  | nil => rfl
  | cons x l ih => rw [List.flatMap_cons, ih]; rfl
/-- 'append(v, make([]T, N)...)', one cell an element. -/
theorem appendZ {vv : α → Value} (hS : Sat w0 S w) (hw : Region.wanted o (yielded ops a.tmps) = true) {tn : TypeId} (ho : o.op = .call { callee := .builtin .append, args := #[x, y], argTypes := #[t, tn] }) (v : Value) (hx : a.eval x = v) (N : Nat) {kq kn : IntKind} (hy : a.eval y = .int kq (N : Int))
    (htn : P.underlying tn = some (.int kn)) [st : SliceTy P t e] (y0 : α) [ty : Ty P e false 1 (vv y0) #[vv y0]] [by' : Bytes P e bt] [p : PullSl S v b 1 (one vv) l e F] (h1 : (vv y0).oneCell' = true)
    (hlen : l.length + N ≤ maxLen) (hbytes : (l.length + N) * bt ≤ 140737488355328)
    (k : ∀ v' w', Sat w0 ((blk v', sl 1 (one vv) (l ++ List.replicate N y0) e v') :: F) w' → wpList P ops Q rest (a.put o.dst v') w') : wpList P ops Q (o :: rest) a w := by
  obtain ⟨i0, hi, hz, hsz, hby⟩ := ty.info by'
  have hS1 := hS.perm p.perm
  have hcs : (vv y0).cells = #[vv y0] := ty.cells
  have hsmall : ((l.length + N : Nat) : Int) ≤ 9223372036854775807 := by simp only [maxLen] at hlen; omega
  have hwr : IntKind.i64.wrap (N : Int) = N := by rw [IntKind.wrap_i64]; omega
  have hneg : ¬ ((N : Int) < 0) := by omega
  have hw0 : IntKind.i64.wrap 0 = 0 := by rw [IntKind.wrap_i64]; decide
  have hti : (typeInfo e).run P w = .ok i0 w := by simp [typeInfo, hi]
  have hb48 : ¬ (281474976710656 < (N : Int) * (i0.bytes : Int)) := by
    rw [hby, ← Int.natCast_mul]
    have : N * bt ≤ (l.length + N) * bt := Nat.mul_le_mul_right _ (by omega)
    omega
  have hall : ∀ x ∈ l ++ List.replicate N y0, (one vv x).length = 1 := fun _ _ => rfl
  rcases hS1.slCases with ⟨rfl, rfl, hF⟩ | ⟨cap, rfl, hC⟩
  · by_cases h0 : N = 0
    · subst h0
      refine wp_value hw (w' := w) ?_ (k (.slice none 0 0) w (hF.slNil 1 (one vv) e))
      simp [execOp, ho, resolve, invoke, builtin, hx, hy, Builtin.append_, run_underlying st.is, run_underlying htn, ty.size, asInt, asIntOf, hw0, hti]
    · have hr := Lib.run_append_nil_zeros (P := P) w t tn o.type e i0 (vv y0) kq kn st.is htn hi hz N (by omega) (by omega) (by simpa using hsmall) (by
        rw [hby]; have : N * bt ≤ (([] : List α).length + N) * bt := Nat.mul_le_mul_right _ (by omega)
        omega)
      have hge := grownCap_ge w N 0 e
      have hcm := grownCap_le_maxLen w N 0 e (by simpa using hlen)
      refine wp_value hw (v := .slice (some ⟨w.heap.size, 0, none⟩) N (grownCap w N 0 e)) (w' := w.drew.alloc (.cells (Builtin.zeroCells (vv y0).cells N ++ Builtin.zeroCells (vv y0).cells (grownCap w N 0 e - N)) e)) ?_ (k _ _ ?_)
      · simp [execOp, ho, resolve, invoke, builtin, hx, hy, hr]
      · have h3 := hF.drew.freshCells (Builtin.zeroCells (vv y0).cells N ++ Builtin.zeroCells (vv y0).cells (grownCap w N 0 e - N)) e
        have h4 := (h3.toSlc (l := List.replicate N y0) (cap := grownCap w N 0 e) (n := 1) (f := one vv) (by
          simp only [Array.size_append, size_zeroCells, hcs]; simp; omega) (by simpa using hge) hcm (by
          rw [Array.toList_append, hcs, zeroCells_one, zeroCells_one, flatMap_one, List.map_replicate, List.length_replicate, Nat.mul_one]; exact List.take_left' (by simp)) (fun _ _ => rfl)).slOfSlc
        rw [List.length_replicate] at h4
        exact h4
  · obtain ⟨cur, hcur, k1, k2, k3, k4, k5⟩ := hC.slcOf (g := b) (n := 1) (f := one vv) (l := l) (cap := cap) (t := e)
    have hg := hcur.cellsAt (b := b) (c := cur) (t := e)
    by_cases hroom : l.length + N ≤ cap
    · have hst := run_storeCells_at (P := P) b l.length e (List.replicate N (vv y0)) 0 cur w hg.2 (by simp; omega) (fun v hv => by rw [(List.mem_replicate.1 hv).2]; exact h1)
      simp only [Nat.add_zero, List.length_replicate] at hst
      refine wp_value hw (w' := w.setRow b (cur.toList.take l.length ++ List.replicate N (vv y0) ++ cur.toList.drop (l.length + N)).toArray) ?_ (k (.slice (some ⟨b, 0, none⟩) (l.length + N) cap) _ ?_)
      · have hz0 := zeroCells_one (vv y0) N
        by_cases h0 : N = 0
        · subst h0
          simp only [List.replicate_zero, List.append_nil, Nat.add_zero, List.take_append_drop, Array.toArray_toList] at hst ⊢
          rw [setRow_self w b cur e (0, 0) hg.2]
          simp [execOp, ho, resolve, invoke, builtin, hx, hy, Builtin.append_, run_underlying st.is, run_underlying htn, ty.size, asInt, asIntOf, hw0, hti, hroom, k2, storeCells]
        · have hadd : (⟨b, 0, none⟩ : Addr).add l.length = ⟨b, l.length, none⟩ := by unfold Addr.add; split <;> simp_all
          simp [execOp, ho, resolve, invoke, builtin, hx, hy, Builtin.append_, run_underlying st.is, run_underlying htn, ty.size, ty.zero, asInt, asIntOf, hti, hroom, hwr, hneg, hb48, h0, hcs, hz0, hadd, hst]
      · have h4 := ((hcur.setRow (b := b) (c := cur) (t := e) (cur.toList.take l.length ++ List.replicate N (vv y0) ++ cur.toList.drop (l.length + N)).toArray).toSlc (l := l ++ List.replicate N y0) (cap := cap) (n := 1) (f := one vv) (by
          simp; omega) (by simpa using hroom) k3 (by
          rw [Nat.mul_one, flatMap_one] at k4
          rw [Nat.mul_one, flatMap_one, List.map_append, List.map_replicate, List.length_append, List.length_replicate, List.toList_toArray, k4]
          exact List.take_left' (by simp)) hall).slOfSlc
        rw [List.length_append, List.length_replicate] at h4
        exact h4
    · have hN : 0 < N := by omega
      have hold : (Builtin.firstCells i0.size l.length (.slice (some ⟨b, 0, none⟩) l.length cap)).run P w.drew = .ok (l.map vv).toArray w.drew := by
        have := run_loadCells_list (P := P) w.drew ⟨b, 0, none⟩ (l.map vv) (fun j v hv => by
          have hadd : (⟨b, 0, none⟩ : Addr).add j = ⟨b, j, none⟩ := by unfold Addr.add; split <;> simp_all
          rw [hadd, hcur.drew.cell (b := b) (c := cur) (t := e), ← Array.getElem?_toList]
          rw [Nat.mul_one, flatMap_one] at k4
          rw [← k4, List.getElem?_take] at hv
          split at hv
          · exact hv
          · cases hv)
        rw [List.length_map] at this
        simp [Builtin.firstCells, hsz, this]
      have hr := Lib.run_append_grow_zeros (P := P) w t tn o.type e i0 (vv y0) kq kn st.is htn hi hz (some ⟨b, 0, none⟩) l.length cap (l.map vv) hold N hN (by omega) (by omega) (by simpa using hsmall) (by
        rw [hby]; have : N * bt ≤ (l.length + N) * bt := Nat.mul_le_mul_right _ (by omega)
        omega) (growslice_fits (by omega) (by rw [hby]; exact hbytes))
      have hge := grownCap_ge w (l.length + N) cap e
      have hcm := grownCap_le_maxLen w (l.length + N) cap e hlen
      refine wp_value hw (v := .slice (some ⟨w.heap.size, 0, none⟩) (l.length + N) (grownCap w (l.length + N) cap e)) (w' := w.drew.alloc (.cells ((l.map vv).toArray ++ Builtin.zeroCells (vv y0).cells N ++ Builtin.zeroCells (vv y0).cells (grownCap w (l.length + N) cap e - (l.length + N))) e)) ?_ (k _ _ ?_)
      · simp [execOp, ho, resolve, invoke, builtin, hx, hy, hr]
      · have h3 := hcur.tail.drew.freshCells ((l.map vv).toArray ++ Builtin.zeroCells (vv y0).cells N ++ Builtin.zeroCells (vv y0).cells (grownCap w (l.length + N) cap e - (l.length + N))) e
        have h4 := (h3.toSlc (l := l ++ List.replicate N y0) (cap := grownCap w (l.length + N) cap e) (n := 1) (f := one vv) (by
          simp only [Array.size_append, size_zeroCells, hcs]; simp; omega) (by simpa using hge) hcm (by
          rw [Array.toList_append, Array.toList_append, hcs, zeroCells_one, zeroCells_one, flatMap_one, List.map_append, List.map_replicate, List.length_append, List.length_replicate, Nat.mul_one, List.toList_toArray]; exact List.take_left' (by simp)) hall).slOfSlc
        rw [List.length_append, List.length_replicate] at h4
        exact h4

/-- '[]T{}'. -/
theorem buildSlice0 (hS : Sat w0 S w) (hw : Region.wanted o (yielded ops a.tmps) = true) (ho : o.op = .buildSlice t 0 #[]) [st : SliceTy P t e] [ty : Ty P e agg n zv z] (f : α → List Value)
    (k : ∀ m w', Sat w0 ((m, sl n f ([] : List α) e (.slice (some ⟨m, 0, none⟩) 0 0)) :: S) w' → wpList P ops Q rest (a.put o.dst (.slice (some ⟨m, 0, none⟩) 0 0)) w') : wpList P ops Q (o :: rest) a w := by
  refine wp_value hw (w' := w.alloc (.cells #[] e)) ?_ (k w.heap.size _ (((hS.freshCells #[] e).toSlc (l := ([] : List α)) (cap := 0) (n := n) (f := f) (by simp) (by simp) (by simp) (by simp) (by simp)).slOfSlc))
  have hr0 : Array.range 0 = #[] := Array.ext' (by simp)
  simp [execOp, ho, Instr.buildSlice, run_underlying st.is, ty.size, Instr.fill, newRow, hr0]
/-- 'make([]T, N, M)', one cell an element. -/
theorem makeLC {vv : α → Value} (hS : Sat w0 S w) (hw : Region.wanted o (yielded ops a.tmps) = true) (ho : o.op = .makeSlice t x y) (N M : Nat) {kl kc : IntKind} (hx : a.eval x = .int kl (N : Int)) (hy : a.eval y = .int kc (M : Int))
    [st : SliceTy P t e] (y0 : α) [ty : Ty P e false 1 (vv y0) #[vv y0]] [by' : Bytes P e bt] (hNM : N ≤ M) (hb : bt * M ≤ 281474976710656) (hm : M ≤ maxLen)
    (k : ∀ g w', Sat w0 ((g, slc 1 (one vv) (List.replicate N y0) M e) :: S) w' → wpList P ops Q rest (a.put o.dst (.slice (some ⟨g, 0, none⟩) N M)) w') : wpList P ops Q (o :: rest) a w := by
  obtain ⟨i0, hi, hz, hsz, hby⟩ := ty.info by'
  have hm' : (M : Int) ≤ 9223372036854775807 := by have h := hm; simp [maxLen] at h; omega
  have hr := run_make (P := P) w t e i0 (vv y0) st.is hi hz kl kc N M (by omega) (by omega) (by rw [hby, ← Int.natCast_mul]; omega) hm'
  simp only [Int.toNat_natCast] at hr
  refine wp_value hw (w' := w.alloc (.cells (madeCells (vv y0).cells (M * i0.size)) e)) (by simp [execOp, ho, hx, hy, hr]) (k w.heap.size _ ?_)
  have hmc : (madeCells (vv y0).cells (M * i0.size)).toList = List.replicate M (vv y0) := by
    rw [hsz, Nat.mul_one, ty.cells]
    have := zeroCells_one (vv y0) M
    unfold Builtin.zeroCells at this
    unfold madeCells
    simpa using this
  refine (hS.freshCells _ e).toSlc (l := List.replicate N y0) (cap := M) (n := 1) (f := one vv) (by rw [size_madeCells, hsz]) (by simpa using hNM) hm ?_ (fun _ _ => rfl)
  rw [hmc, List.length_replicate, Nat.mul_one, flatMap_one, List.map_replicate, List.take_replicate, Nat.min_eq_left hNM]

/-- 'copy(d, s)', s read anywhere, into a slice of the call's own. -/
theorem copyB {vv : α → Value} {off dLen dCap cap : Nat} {sT : TypeId} (hS : Sat w0 S w) (hw : Region.wanted o (yielded ops a.tmps) = true) (ho : o.op = .call { callee := .builtin .copy, args := #[x, y], argTypes := #[t, sT] }) (hx : a.eval x = .slice (some ⟨g, off, none⟩) dLen dCap) {sv : Value} (hy : a.eval y = sv)
    [st : SliceTy P t e] [ty : Ty P e false 1 zv z] [by' : Bytes P e bt] [p : Pull S g (slc 1 (one vv) l cap tb) F] (ys : List α) (hsrc : BSl w 1 (one vv) gd ys sv) (h1 : ∀ x ∈ ys, (vv x).oneCell' = true) (m : Nat) (hm : m = min ys.length dLen) (hfit : off + m ≤ l.length)
    (k : ∀ w', Sat w0 ((g, slc 1 (one vv) (l.take off ++ ys.take m ++ l.drop (off + m)) cap tb) :: F) w' → wpList P ops Q rest (a.put o.dst (goInt m)) w') : wpList P ops Q (o :: rest) a w := by
  obtain ⟨i0, hi, hz, hsz, hby⟩ := ty.info by'
  have hsz1 : (P.info? e).map (·.size) = some 1 := by rw [hi]; simp [hsz]
  obtain ⟨sa, scap, rfl, hl, hat⟩ := hsrc.at
  obtain ⟨cur, hcur, k1, k2, k3, k4, k5⟩ := hS.slcOf (g := g) (n := 1) (f := one vv) (l := l) (cap := cap) (t := tb)
  have hg := hcur.cellsAt (b := g) (c := cur) (t := tb)
  by_cases h0 : m = 0
  · subst h0
    have hrun := run_copy_none (P := P) w t sT o.type e (some ⟨g, off, none⟩) sa dLen dCap ys.length scap st.is hsz1 hm.symm
    refine wp_value hw (v := goInt (0 : Nat)) (w' := w) ?_ (k w ?_)
    · simp [execOp, ho, resolve, invoke, builtin, hx, hy, hrun]
    · rw [List.take_zero, List.append_nil, Nat.add_zero, List.take_append_drop]; exact hcur.toSlc k1 k2 k3 k4 k5
  · have hne : ys ≠ [] := by intro e; subst e; simp at hm; omega
    obtain ⟨sb, so, rfl, hb⟩ := hat hne
    have hlen : ((ys.take m).map vv).length = m := by simp; omega
    have hrun := run_copy_row (P := P) w t sT o.type e g off dLen dCap ⟨sb, so, none⟩ ys.length scap cur tb ((ys.take m).map vv) st.is hsz1 hg.2 (by rw [hlen, hm]) (fun j v hv => by
      have hadd : (⟨sb, so, none⟩ : Addr).add j = ⟨sb, so + j, none⟩ := by unfold Addr.add; split <;> simp_all
      rw [hadd]
      rw [List.getElem?_map, List.getElem?_take] at hv
      split at hv
      · obtain ⟨x, hx, rfl⟩ := Option.map_eq_some_iff.1 hv
        have := (hb.2 j x hx).2.2 0 (vv x) rfl
        rw [Nat.mul_one] at this
        exact this
      · simp at hv) (by rw [hlen]; omega) (fun v hv => by
      obtain ⟨x, hx, rfl⟩ := List.mem_map.1 hv
      exact h1 x (List.mem_of_mem_take hx))
    rw [hlen] at hrun
    refine wp_value hw (v := goInt (m : Nat)) (w' := w.setRow g (cur.toList.take off ++ ((ys.take m).map vv ++ cur.toList.drop (off + m))).toArray) ?_ (k _ ?_)
    · simp [execOp, ho, resolve, invoke, builtin, hx, hy, hrun]
    · rw [Nat.mul_one, flatMap_one] at k4
      rw [Nat.mul_one] at k1
      have hcl : cur.toList.length = cap := by simpa using k1
      refine (hcur.setRow (b := g) (c := cur) (t := tb) _).toSlc ?_ ?_ k3 ?_ (fun _ _ => rfl)
      · simp; omega
      · simp; omega
      · have hlen2 : (l.take off ++ ys.take m ++ l.drop (off + m)).length = l.length := by simp; omega
        rw [hlen2, Nat.mul_one, flatMap_one, List.toList_toArray]
        have e1 : (cur.toList.take off ++ ((ys.take m).map vv ++ cur.toList.drop (off + m))).take l.length = (cur.toList.take l.length).take off ++ ((ys.take m).map vv ++ (cur.toList.take l.length).drop (off + m)) := by
          have := take_splice (L := cur.toList) (cs := (ys.take m).map vv) (o := off) (N := l.length) (by rw [hlen]; exact hfit) (by omega)
          rw [hlen] at this
          simpa [List.append_assoc] using this
        rw [e1, k4]
        simp [List.map_take, List.map_drop]

/-- 'string(b)'. -/
theorem run_convertB {src dst : TypeId} [st : SliceTy P src e] (he : P.underlying e = some (.int .u8)) (hd : P.underlying dst = some .string) {A : List Int} (h : RB w A v) : (convert src dst v).run P w = .ok (.string (strOfNums A)) w := by
  rcases h with ⟨rfl, rfl | ⟨ad, cap, _, rfl⟩⟩ | ⟨b, off, cap, rfl, h1, h2, hb⟩
  · have := run_convert_bytes_nil (P := P) w src e st.is he 0 0 dst hd
    exact this
  · obtain ⟨b, off, s⟩ := ad
    rw [run_convert_bytes_string w src dst e _ 0 cap st.is he hd]
    have hl : (loadCells ⟨b, off, s⟩ 0).run P w = .ok #[] w := by simp [loadCells, loadCellsFrom]
    simp [Conv.bytesToString, hl]
    rfl
  · refine run_convert_bytes_arg (P := P) w src e st.is he b off A.length cap A rfl (fun i hi => ?_) dst hd
    have := (hb.2 i A[i] (List.getElem?_eq_getElem hi)).2.2 0 _ rfl
    rw [Nat.mul_one] at this
    rw [show A.getD i 0 = A[i] by simp [hi]]
    exact this

/-! ### Rows of bytes that the call has made -/
abbrev rowF : Value × List Int → List Value := fun x => [x.1]
def rowsL (X : List (Value × List Int)) (t : TypeId) : List Chunk := X.map fun x => (blk x.1, sl 1 by8 x.2 t x.1)
def inn (X : List (Value × List Int)) (t : TypeId) : K := fun _ h => holds (rowsL X t) h
variable {X X1 X2 : List (Value × List Int)} {A : List Int} {j : Nat}
theorem Sat.innNil (h : Sat w0 F w) (j : Nat) (t : TypeId) : Sat w0 ((j, inn [] t) :: F) w := h.nilChunk j trivial
theorem Sat.innOpen (h : Sat w0 ((j, inn X t) :: F) w) : Sat w0 (rowsL X t ++ F) w := h.open fun _ h => h
theorem Sat.innShut (j : Nat) (h : Sat w0 (rowsL X t ++ F) w) : Sat w0 ((j, inn X t) :: F) w := h.close fun _ h => h
theorem Sat.innPush (h : Sat w0 ((blk v, sl 1 by8 A t v) :: (j, inn X t) :: F) w) : Sat w0 ((j, inn (X ++ [(v, A)]) t) :: F) w := by
  have h1 : Sat w0 ((j, inn X t) :: (blk v, sl 1 by8 A t v) :: F) w := h.perm (List.Perm.swap _ _ _)
  refine Sat.innShut j ?_
  have h2 := h1.innOpen
  unfold rowsL at *
  simpa using h2
theorem Sat.innPull (h : Sat w0 ((j, inn (X1 ++ (v, A) :: X2) t) :: F) w) : Sat w0 ((blk v, sl 1 by8 A t v) :: (j, inn (X1 ++ X2) t) :: F) w := by
  have h1 := h.innOpen
  have h2 : Sat w0 ((blk v, sl 1 by8 A t v) :: (rowsL (X1 ++ X2) t ++ F)) w := h1.perm (by
    unfold rowsL
    simp only [List.map_append, List.map_cons, List.append_assoc, List.cons_append]
    exact List.perm_middle)
  have h3 : Sat w0 (rowsL (X1 ++ X2) t ++ ((blk v, sl 1 by8 A t v) :: F)) w := h2.perm List.perm_middle.symm
  exact (Sat.innShut j h3).perm (List.Perm.swap _ _ _)
theorem Sat.innBack (h : Sat w0 ((blk v, sl 1 by8 A t v) :: (j, inn (X1 ++ X2) t) :: F) w) : Sat w0 ((j, inn (X1 ++ (v, A) :: X2) t) :: F) w := by
  have h1 : Sat w0 ((j, inn (X1 ++ X2) t) :: (blk v, sl 1 by8 A t v) :: F) w := h.perm (List.Perm.swap _ _ _)
  refine Sat.innShut j (h1.innOpen.perm ?_)
  unfold rowsL
  simp only [List.map_append, List.map_cons, List.append_assoc, List.cons_append]
  exact List.Perm.append_left _ List.perm_middle
theorem Sat.innReads (h : Sat w0 ((j, inn X t) :: F) w) (hx : (v, A) ∈ X) (hA : ∀ b ∈ A, okByte b) : RB w A v := by
  obtain ⟨X1, X2, rfl⟩ := List.append_of_mem hx
  exact (h.innPull).readsSl (g := blk v) (n := 1) (f := by8) (L := A) (t := t) hA
theorem Sat.rowsRead {T : TypeId} {gv : Nat} {vo : Value} {F' : List Chunk} (h : Sat w0 S w) [p : PullSl S vo gv 1 rowF X T F] [q : Pull F j (inn X t) F'] (hX : ∀ x ∈ X, ∀ b ∈ x.2, okByte b) : RR w X vo := by
  refine BSl.mono (gd := fun x => x ∈ X) (h.readsSl (g := gv) (n := 1) (f := rowF) (L := X) (t := T) fun x hx => hx) (Below.refl _ _) fun x hx _ => ?_
  have h1 := (h.perm p.perm).tail
  exact (h1.pull j).innReads (v := x.1) (A := x.2) hx (hX x hx)
theorem Sat.innAdd {gv : Nat} {F' : List Chunk} (v : Value) (h : Sat w0 S w) [p : PullSl S v gv 1 by8 A t F] [q : Pull F j (inn X t) F'] (hb : gv = blk v) : Sat w0 ((j, inn (X ++ [(v, A)]) t) :: F') w := by
  subst hb
  exact (h.perm (p.perm.trans (q.perm.cons _))).innPush
/-- A part of a slice of the call's own. -/
theorem Sat.readsPart {cap cap' i m : Nat} {ap : Addr} (h : Sat w0 S w) [p : Pull S g (slc 1 by8 A cap t) F] (hg : ∀ x ∈ A, okByte x) (hi : i + m ≤ A.length) (hap : ap = ⟨g, i, none⟩) (hm : m ≤ cap') (hc : cap' ≤ maxLen) :
    RB w ((A.drop i).take m) (.slice (some ap) m cap') := by
  subst hap
  have h1 := (h.reads (g := g) (n := 1) (f := by8) (L := A) (cap := cap) (t := t) hg).part i m
  have hl : ((A.drop i).take m).length = m := by simp; omega
  refine .inr ⟨g, i, cap', by rw [hl], by rw [hl]; exact hm, hc, ?_⟩
  simpa using h1
end
end Go.Proofs.YtkppoffljkpiaaaDoor.Sl
