/-
  What can be read in a world: slices, wherever they stand; a callee that writes nothing that was there before it; rules of append, copy, conversion that read so. It names no program.
  Rows joined, up to a place. No program in sight.
  Arrays for the small separation logic: a block of cells that is a list's image. It names no program.
  A region that draws its order and writes several times, each writing operation waiting for the one ahead: one walk in the order of the text serves every order. It names no program.
  Appends inside regions that draw; the cells of a whole slice. It names no program.
  A region that draws its order and makes memory in more than one order: reads are taken first, the rest is walked order by order. It names no program.
  Literals of several elements, one cell each. It names no program.
  Parts of slices, arrays as slices; a row of rows opened at a place. It names no program.
  Reads that are taken first in a region that draws its order. It names no program.
-/
import Derived.Test.YtdkimdobcacpfaaDoorSlA
import Derived.Laws.BytesArg
import Derived.Laws.AppendOwn
import Derived.Lib.AppendZeros
import Derived.Lib.AppendZerosOnto
import Derived.OrdersHeld
set_option linter.unusedSimpArgs false
set_option linter.unusedVariables false
namespace Go.Proofs.YtdkimdobcacpfaaDoor.Sl
open Go Go.RowKit

section
variable {w0 w w' : World} {S T F : List Chunk}
/-- The frame rule: what a callee left, over what its caller had. -/
theorem Sat.frame (h : Sat w0 S w) (h2 : Sat w T w') : Sat w0 (T ++ S) w' := by
  have hle := h.le
  refine ⟨h.base.trans (h2.base.mono hle),holds_join (h1 := own w.heap.size w') (h2 := own w0.heap.size w) (fun k => ?_) (fun k o e => ?_) (fun k o e => ?_) h2.has h.has⟩
  · by_cases hk : k < w.heap.size
    · left;simp [own,hk]
    · right;unfold own;split
      · rfl
      · exact Array.getElem?_eq_none (by omega)
  · have := own_some e
    unfold own;rw [if_neg (by omega)];exact this.2
  · have := own_some e
    have hlt : k < w.heap.size := (Array.getElem?_eq_some_iff.1 this.2).1
    unfold own;rw [if_neg (by omega),h2.base.block k hlt];exact this.2

end

section
variable {α : Type} {w w' : World} {n : Nat} {f : α → List Value} {gd gd' : α → Prop} {L : List α} {b off : Nat} {v : Value}
theorem BAt.mono (h : BAt w n f gd L b off) (hb : Below w.heap.size w w') (hg : ∀ x ∈ L,gd x → gd' x) : BAt w' n f gd' L b off :=
  ⟨Nat.lt_of_lt_of_le h.1 hb.size,fun i x hx => ⟨hg x (List.mem_of_getElem? hx) (h.2 i x hx).1,(h.2 i x hx).2.1,fun j u hu => (hb.cell (p := ⟨b,off + i * n + j,none⟩) h.1).trans ((h.2 i x hx).2.2 j u hu)⟩⟩
theorem BSl.mono (h : BSl w n f gd L v) (hb : Below w.heap.size w w') (hg : ∀ x ∈ L,gd x → gd' x) : BSl w' n f gd' L v := by
  rcases h with h | ⟨b,off,cap,rfl,h1,h2,h⟩
  · exact .inl h
  · exact .inr ⟨b,off,cap,rfl,h1,h2,h.mono hb hg⟩
theorem BAt.part (h : BAt w n f gd L b off) (i m : Nat) : BAt w n f gd ((L.drop i).take m) b (off + i * n) :=
  ⟨h.1,fun k x hx => by
    rw [List.getElem?_take] at hx
    split at hx
    · rw [List.getElem?_drop] at hx
      obtain ⟨h1,h2,h3⟩ := h.2 _ x hx
      refine ⟨h1,h2,fun j u hu => ?_⟩
      have := h3 j u hu
      rw [Nat.add_mul] at this
      rw [← this];congr 2;omega
    · cases hx⟩
theorem BSl.len (h : BSl w n f gd L v) : L.length ≤ 9223372036854775807 := by
  obtain ⟨a,cap,rfl,h1,_⟩ := h.at;exact h1
theorem BSl.max (h : BSl w n f gd L v) : L.length ≤ maxLen := by
  rcases h with ⟨rfl,_⟩ | ⟨b,off,cap,rfl,h1,h2,h⟩
  · simp
  · omega
theorem BSl.all (h : BSl w n f gd L v) : ∀ x ∈ L,gd x := fun x hx => by
  rcases h with ⟨rfl,_⟩ | ⟨b,off,cap,rfl,h1,h2,h⟩
  · cases hx
  · obtain ⟨i,hi,rfl⟩ := List.mem_iff_getElem.1 hx
    exact (h.2 i L[i] (List.getElem?_eq_getElem hi)).1
end

section
variable {α : Type} {w0 w : World} {S F : List Chunk} {g n cap : Nat} {f : α → List Value} {L : List α} {t : TypeId} {gd : α → Prop} {v : Value}
/-- A slice of the call's own can be read. -/
theorem Sat.reads (h : Sat w0 S w) [p : Pull S g (slc n f L cap t) F] (hg : ∀ x ∈ L,gd x) : BAt w n f gd L g 0 := by
  obtain ⟨cur,hcur,_⟩ := h.slcOf (g := g) (n := n) (f := f) (l := L) (cap := cap) (t := t)
  have hh := hcur.cellsAt (b := g) (c := cur) (t := t)
  have hf := (h.slcFacts (g := g) (n := n) (f := f) (l := L) (cap := cap) (t := t)).2.2.1
  refine ⟨(Array.getElem?_eq_some_iff.1 hh.2).1,fun i x hx => ⟨hg x (List.mem_of_getElem? hx),hf x (List.mem_of_getElem? hx),fun j u hu => ?_⟩⟩
  have hj : j < n := by have := (List.getElem?_eq_some_iff.1 hu).1;have := hf x (List.mem_of_getElem? hx);omega
  rw [Nat.zero_add,h.slcCell (g := g) (n := n) (f := f) (l := L) (cap := cap) (t := t) hx hj]
  exact hu
theorem Sat.readsSlc (h : Sat w0 S w) [p : Pull S g (slc n f L cap t) F] (hg : ∀ x ∈ L,gd x) : BSl w n f gd L (.slice (some ⟨g,0,none⟩) L.length cap) := by
  have hf := h.slcFacts (g := g) (n := n) (f := f) (l := L) (cap := cap) (t := t)
  exact .inr ⟨g,0,cap,rfl,hf.1,hf.2.1,h.reads hg⟩
theorem Sat.readsSl (h : Sat w0 S w) [p : PullSl S v g n f L t F] (hg : ∀ x ∈ L,gd x) : BSl w n f gd L v := by
  rcases (h.perm p.perm).slCases with ⟨rfl,rfl,_⟩ | ⟨cap,rfl,hC⟩
  · exact .inl ⟨rfl,.inl rfl⟩
  · exact hC.readsSlc (g := g) hg
theorem Sat.slSome (h : Sat w0 ((g,sl n f L t v)::F) w) (hl : L ≠ []) : ∃ g' cap,v = .slice (some ⟨g',0,none⟩) L.length cap ∧ Sat w0 ((g',slc n f L cap t)::F) w := by
  rcases h.slCases with ⟨rfl,h,_⟩ | ⟨cap,h1,h2⟩
  · exact absurd h hl
  · exact ⟨g,cap,h1,h2⟩
/-- A slice's length. -/
def sLen : Value → Nat
  | .slice _ l _ => l
  | _ => 0
/-- A slice of at least one element: its value, and its chunk. -/
theorem Sat.slForm (h : Sat w0 ((g,sl n f L t v)::F) w) (m : Nat) (hm : L.length = m) (h0 : 0 < m) : ∃ g' cap,v = .slice (some ⟨g',0,none⟩) m cap ∧ Sat w0 ((g',sl n f L t (.slice (some ⟨g',0,none⟩) m cap))::F) w := by
  obtain ⟨g',cap,h1,h2⟩ := h.slSome (by intro e;subst e;simp at hm;omega)
  subst hm
  exact ⟨g',cap,h1,h2.slOfSlc⟩
theorem Sat.slFormC (h : Sat w0 ((g,sl n f L t v)::F) w) (m : Nat) (hm : L.length = m) (h0 : 0 < m) : ∃ g' cap,v = .slice (some ⟨g',0,none⟩) m cap ∧ Sat w0 ((g',slc n f L cap t)::F) w := by
  obtain ⟨g',cap,h1,h2⟩ := h.slSome (by intro e;subst e;simp at hm;omega)
  subst hm
  exact ⟨g',cap,h1,h2⟩
theorem Sat.slLen (h : Sat w0 S w) [p : PullSl S v g n f L t F] : sLen v = L.length := by
  rcases (h.perm p.perm).slCases with ⟨rfl,rfl,_⟩ | ⟨cap,rfl,_⟩ <;> rfl
theorem Sat.slCell (h : Sat w0 S w) [p : PullSl S v g n f L t F] : v.oneCell' = true := by
  rcases (h.perm p.perm).slCases with ⟨rfl,_,_⟩ | ⟨cap,rfl,_⟩ <;> rfl
end

/-! ### Bytes -/
def okByte (b : Int) : Prop := 0 ≤ b ∧ b < 256
abbrev by8 : Int → List Value := one (Value.int .u8)
/-- A value that reads as whole numbers. -/
abbrev i64 : Int → List Value := one (Value.int .i64)
abbrev RI (w : World) (A : List Int) (v : Value) : Prop := BSl w 1 i64 (fun _ => True) A v
/-- A value that reads as bytes. -/
abbrev RB (w : World) (A : List Int) (v : Value) : Prop := BSl w 1 by8 okByte A v
/-- .. as rows of bytes. -/
abbrev RR (w : World) (X : List (Value × List Int)) (v : Value) : Prop := BSl w 1 (fun x => [x.1]) (fun x => RB w x.2 x.1) X v
theorem RB.mono {w w' : World} {A : List Int} {v : Value} (h : RB w A v) (hb : Below w.heap.size w w') : RB w' A v := BSl.mono h hb fun _ _ h => h
theorem RR.mono {w w' : World} {X : List (Value × List Int)} {v : Value} (h : RR w X v) (hb : Below w.heap.size w w') : RR w' X v := BSl.mono h hb fun _ _ h => h.mono hb
theorem RI.mono {w w' : World} {A : List Int} {v : Value} (h : RI w A v) (hb : Below w.heap.size w w') : RI w' A v := BSl.mono h hb fun _ _ h => h
def cat (X : List (Value × List Int)) : List Int := (X.map (·.2)).flatten

section
variable {P : Program} {ops : Array Oper} {rest : List Oper} {o : Oper} {a : Act} {Q : Exit → Act → World → Prop} {w0 w : World} {S F F' : List Chunk}
variable {α : Type} {n g b m i bt : Nat} {f : α → List Value} {gd : α → Prop} {l L : List α} {e t tb : TypeId} {agg : Bool} {z : Array Value} {zv : Value} {x y : Operand} {v : Value} {c : Array Value}

theorem run_append_nothing (t tr e : TypeId) [st : SliceTy P t e] [ty : Ty P e agg n zv z] (base : Option Addr) (len cap : Nat) (hl : len ≤ cap) (src : Option Addr) (sc : Nat) :
    (Builtin.append_ #[t,t] tr #[.slice base len cap,.slice src 0 sc]).run P w = .ok (.slice base len cap) w := by
  unfold Builtin.append_
  cases base with
  | none => cases src <;> simp [run_underlying st.is,ty.size,Builtin.lenOf,Builtin.firstCells,hl,loadCells,loadCellsFrom]
  | some ad => cases src <;> simp [run_underlying st.is,ty.size,Builtin.lenOf,Builtin.firstCells,hl,storeCells,loadCells,loadCellsFrom]

/-- 'append(v, s...)', s read anywhere. -/
theorem appendB (hS : Sat w0 S w) (hw : Region.wanted o (yielded ops a.tmps) = true) (ho : o.op = .call { callee := .builtin .append,args := #[x,y],argTypes := #[t,t] }) (v : Value) (hx : a.eval x = v) {sv : Value} (hy : a.eval y = sv)
    [st : SliceTy P t e] [ty : Ty P e agg n zv z] [by' : Bytes P e bt] [p : PullSl S v b n f l e F] (ys : List α) (hsrc : BSl w n f gd ys sv) (h1 : ∀ x ∈ ys,∀ u ∈ f x,u.oneCell' = true)
    (hlen : l.length + ys.length ≤ maxLen) (hbytes : (l.length + ys.length) * bt ≤ 140737488355328)
    (k : ∀ v' w',Sat w0 ((blk v',sl n f (l ++ ys) e v')::F) w' → wpList P ops Q rest (a.put o.dst v') w') : wpList P ops Q (o::rest) a w := by
  obtain ⟨sa,cap,rfl,hl,hat⟩ := hsrc.at
  by_cases h0 : ys = []
  · subst h0
    have hS1 := hS.perm p.perm
    rw [List.append_nil] at k
    rcases hS1.slCases with ⟨rfl,rfl,hF⟩ | ⟨cap',rfl,hC⟩
    · refine wp_value hw (w' := w) ?_ (k (.slice none 0 0) w (hF.slNil n f e))
      simp [execOp,ho,resolve,invoke,builtin,hx,hy,run_append_nothing (P := P) (w := w) t o.type e none 0 0 (Nat.le_refl _) sa cap]
    · have hf := hC.slcFacts (g := b) (n := n) (f := f) (l := l) (cap := cap') (t := e)
      refine wp_value hw (w' := w) ?_ (k (.slice (some ⟨b,0,none⟩) l.length cap') w hC.slOfSlc)
      simp [execOp,ho,resolve,invoke,builtin,hx,hy,run_append_nothing (P := P) (w := w) t o.type e (some ⟨b,0,none⟩) l.length cap' hf.1 sa cap]
  · obtain ⟨sb,off,rfl,hb⟩ := hat h0
    have hn : ∀ y ∈ ys,(f y).length = n := fun y hy => by
      obtain ⟨i,hi,rfl⟩ := List.mem_iff_getElem.1 hy
      exact (hb.2 i _ (List.getElem?_eq_getElem hi)).2.1
    have hpos : 0 < ys.length := List.length_pos_iff.2 h0
    refine appendMany hS hw ho v hx hy (b := b) (n := n) (f := f) (l := l) (F := F) ys rfl (fun d u hu => ?_) (fun u hu => ?_) hn hpos hlen hbytes k
    · have hadd : (⟨sb,off,none⟩ : Addr).add d = ⟨sb,off + d,none⟩ := by unfold Addr.add;split <;> simp_all
      rw [hadd]
      have hd : d < ys.length * n := by have := (List.getElem?_eq_some_iff.1 hu).1;rwa [flatMap_length hn] at this
      have hn0 : 0 < n := by rcases Nat.eq_zero_or_pos n with h | h;(subst h;omega);exact h
      have hi : d / n < ys.length := Nat.div_lt_of_lt_mul (by rw [Nat.mul_comm];exact hd)
      have h2 := flatMap_get (f := f) (n := n) (l := ys) (i := d / n) (j := d % n) (x := ys[d / n]) hn (List.getElem?_eq_getElem hi) (Nat.mod_lt _ hn0)
      rw [Nat.div_add_mod'] at h2
      rw [h2] at hu
      have := (hb.2 (d / n) _ (List.getElem?_eq_getElem hi)).2.2 (d % n) u hu
      rw [Nat.add_assoc,Nat.div_add_mod'] at this
      exact this
    · obtain ⟨x,hx,hu⟩ := List.mem_flatMap.1 hu
      exact h1 x hx u hu

theorem zeroCells_one (c : Value) (N : Nat) : (Builtin.zeroCells #[c] N).toList = List.replicate N c := by
  unfold Builtin.zeroCells
  apply List.ext_getElem?
  intro i
  by_cases h : i < N
  · simp [h,Nat.mod_one]
  · rw [List.getElem?_eq_none (by simp;omega),List.getElem?_eq_none (by simp;omega)]
theorem flatMap_one (vv : α → Value) (l : List α) : l.flatMap (one vv) = l.map vv := by
  induction l with
  | nil => rfl
  | cons x l ih => rw [List.flatMap_cons,ih];rfl
/-- 'append(v, make([]T, N)...)', one cell an element. -/
theorem appendZ {vv : α → Value} (hS : Sat w0 S w) (hw : Region.wanted o (yielded ops a.tmps) = true) {tn : TypeId} (ho : o.op = .call { callee := .builtin .append,args := #[x,y],argTypes := #[t,tn] }) (v : Value) (hx : a.eval x = v) (N : Nat) {kq kn : IntKind} (hy : a.eval y = .int kq (N : Int))
    (htn : P.underlying tn = some (.int kn)) [st : SliceTy P t e] (y0 : α) [ty : Ty P e false 1 (vv y0) #[vv y0]] [by' : Bytes P e bt] [p : PullSl S v b 1 (one vv) l e F] (h1 : (vv y0).oneCell' = true)
    (hlen : l.length + N ≤ maxLen) (hbytes : (l.length + N) * bt ≤ 140737488355328)
    (k : ∀ v' w',Sat w0 ((blk v',sl 1 (one vv) (l ++ List.replicate N y0) e v')::F) w' → wpList P ops Q rest (a.put o.dst v') w') : wpList P ops Q (o::rest) a w := by
  obtain ⟨i0,hi,hz,hsz,hby⟩ := ty.info by'
  have hS1 := hS.perm p.perm
  have hcs : (vv y0).cells = #[vv y0] := ty.cells
  have hsmall : ((l.length + N : Nat) : Int) ≤ 9223372036854775807 := by simp only [maxLen] at hlen;omega
  have hwr : IntKind.i64.wrap (N : Int) = N := by rw [IntKind.wrap_i64];omega
  have hneg : ¬ ((N : Int) < 0) := by omega
  have hw0 : IntKind.i64.wrap 0 = 0 := by rw [IntKind.wrap_i64];decide
  have hti : (typeInfo e).run P w = .ok i0 w := by simp [typeInfo,hi]
  have hb48 : ¬ (281474976710656 < (N : Int) * (i0.bytes : Int)) := by
    rw [hby,← Int.natCast_mul]
    have : N * bt ≤ (l.length + N) * bt := Nat.mul_le_mul_right _ (by omega)
    omega
  have hall : ∀ x ∈ l ++ List.replicate N y0,(one vv x).length = 1 := fun _ _ => rfl
  rcases hS1.slCases with ⟨rfl,rfl,hF⟩ | ⟨cap,rfl,hC⟩
  · by_cases h0 : N = 0
    · subst h0
      refine wp_value hw (w' := w) ?_ (k (.slice none 0 0) w (hF.slNil 1 (one vv) e))
      simp [execOp,ho,resolve,invoke,builtin,hx,hy,Builtin.append_,run_underlying st.is,run_underlying htn,ty.size,asInt,asIntOf,hw0,hti]
    · have hr := Lib.run_append_nil_zeros (P := P) w t tn o.type e i0 (vv y0) kq kn st.is htn hi hz N (by omega) (by omega) (by simpa using hsmall) (by
        rw [hby];have : N * bt ≤ (([] : List α).length + N) * bt := Nat.mul_le_mul_right _ (by omega)
        omega)
      have hge := grownCap_ge w N 0 e
      have hcm := grownCap_le_maxLen w N 0 e (by simpa using hlen)
      refine wp_value hw (v := .slice (some ⟨w.heap.size,0,none⟩) N (grownCap w N 0 e)) (w' := w.drew.alloc (.cells (Builtin.zeroCells (vv y0).cells N ++ Builtin.zeroCells (vv y0).cells (grownCap w N 0 e - N)) e)) ?_ (k _ _ ?_)
      · simp [execOp,ho,resolve,invoke,builtin,hx,hy,hr]
      · have h3 := hF.drew.freshCells (Builtin.zeroCells (vv y0).cells N ++ Builtin.zeroCells (vv y0).cells (grownCap w N 0 e - N)) e
        have h4 := (h3.toSlc (l := List.replicate N y0) (cap := grownCap w N 0 e) (n := 1) (f := one vv) (by
          simp only [Array.size_append,size_zeroCells,hcs];simp;omega) (by simpa using hge) hcm (by
          rw [Array.toList_append,hcs,zeroCells_one,zeroCells_one,flatMap_one,List.map_replicate,List.length_replicate,Nat.mul_one];exact List.take_left' (by simp)) (fun _ _ => rfl)).slOfSlc
        rw [List.length_replicate] at h4
        exact h4
  · obtain ⟨cur,hcur,k1,k2,k3,k4,k5⟩ := hC.slcOf (g := b) (n := 1) (f := one vv) (l := l) (cap := cap) (t := e)
    have hg := hcur.cellsAt (b := b) (c := cur) (t := e)
    by_cases hroom : l.length + N ≤ cap
    · have hst := run_storeCells_at (P := P) b l.length e (List.replicate N (vv y0)) 0 cur w hg.2 (by simp;omega) (fun v hv => by rw [(List.mem_replicate.1 hv).2];exact h1)
      simp only [Nat.add_zero,List.length_replicate] at hst
      refine wp_value hw (w' := w.setRow b (cur.toList.take l.length ++ List.replicate N (vv y0) ++ cur.toList.drop (l.length + N)).toArray) ?_ (k (.slice (some ⟨b,0,none⟩) (l.length + N) cap) _ ?_)
      · have hz0 := zeroCells_one (vv y0) N
        by_cases h0 : N = 0
        · subst h0
          simp only [List.replicate_zero,List.append_nil,Nat.add_zero,List.take_append_drop,Array.toArray_toList] at hst ⊢
          rw [setRow_self w b cur e (0,0) hg.2]
          simp [execOp,ho,resolve,invoke,builtin,hx,hy,Builtin.append_,run_underlying st.is,run_underlying htn,ty.size,asInt,asIntOf,hw0,hti,hroom,k2,storeCells]
        · have hadd : (⟨b,0,none⟩ : Addr).add l.length = ⟨b,l.length,none⟩ := by unfold Addr.add;split <;> simp_all
          simp [execOp,ho,resolve,invoke,builtin,hx,hy,Builtin.append_,run_underlying st.is,run_underlying htn,ty.size,ty.zero,asInt,asIntOf,hti,hroom,hwr,hneg,hb48,h0,hcs,hz0,hadd,hst]
      · have h4 := ((hcur.setRow (b := b) (c := cur) (t := e) (cur.toList.take l.length ++ List.replicate N (vv y0) ++ cur.toList.drop (l.length + N)).toArray).toSlc (l := l ++ List.replicate N y0) (cap := cap) (n := 1) (f := one vv) (by
          simp;omega) (by simpa using hroom) k3 (by
          rw [Nat.mul_one,flatMap_one] at k4
          rw [Nat.mul_one,flatMap_one,List.map_append,List.map_replicate,List.length_append,List.length_replicate,List.toList_toArray,k4]
          exact List.take_left' (by simp)) hall).slOfSlc
        rw [List.length_append,List.length_replicate] at h4
        exact h4
    · have hN : 0 < N := by omega
      have hold : (Builtin.firstCells i0.size l.length (.slice (some ⟨b,0,none⟩) l.length cap)).run P w.drew = .ok (l.map vv).toArray w.drew := by
        have := run_loadCells_list (P := P) w.drew ⟨b,0,none⟩ (l.map vv) (fun j v hv => by
          have hadd : (⟨b,0,none⟩ : Addr).add j = ⟨b,j,none⟩ := by unfold Addr.add;split <;> simp_all
          rw [hadd,hcur.drew.cell (b := b) (c := cur) (t := e),← Array.getElem?_toList]
          rw [Nat.mul_one,flatMap_one] at k4
          rw [← k4,List.getElem?_take] at hv
          split at hv
          · exact hv
          · cases hv)
        rw [List.length_map] at this
        simp [Builtin.firstCells,hsz,this]
      have hr := Lib.run_append_grow_zeros (P := P) w t tn o.type e i0 (vv y0) kq kn st.is htn hi hz (some ⟨b,0,none⟩) l.length cap (l.map vv) hold N hN (by omega) (by omega) (by simpa using hsmall) (by
        rw [hby];have : N * bt ≤ (l.length + N) * bt := Nat.mul_le_mul_right _ (by omega)
        omega) (growslice_fits (by omega) (by rw [hby];exact hbytes))
      have hge := grownCap_ge w (l.length + N) cap e
      have hcm := grownCap_le_maxLen w (l.length + N) cap e hlen
      refine wp_value hw (v := .slice (some ⟨w.heap.size,0,none⟩) (l.length + N) (grownCap w (l.length + N) cap e)) (w' := w.drew.alloc (.cells ((l.map vv).toArray ++ Builtin.zeroCells (vv y0).cells N ++ Builtin.zeroCells (vv y0).cells (grownCap w (l.length + N) cap e - (l.length + N))) e)) ?_ (k _ _ ?_)
      · simp [execOp,ho,resolve,invoke,builtin,hx,hy,hr]
      · have h3 := hcur.tail.drew.freshCells ((l.map vv).toArray ++ Builtin.zeroCells (vv y0).cells N ++ Builtin.zeroCells (vv y0).cells (grownCap w (l.length + N) cap e - (l.length + N))) e
        have h4 := (h3.toSlc (l := l ++ List.replicate N y0) (cap := grownCap w (l.length + N) cap e) (n := 1) (f := one vv) (by
          simp only [Array.size_append,size_zeroCells,hcs];simp;omega) (by simpa using hge) hcm (by
          rw [Array.toList_append,Array.toList_append,hcs,zeroCells_one,zeroCells_one,flatMap_one,List.map_append,List.map_replicate,List.length_append,List.length_replicate,Nat.mul_one,List.toList_toArray];exact List.take_left' (by simp)) hall).slOfSlc
        rw [List.length_append,List.length_replicate] at h4
        exact h4

/-- '[]T{}'. -/
theorem buildSlice0 (hS : Sat w0 S w) (hw : Region.wanted o (yielded ops a.tmps) = true) (ho : o.op = .buildSlice t 0 #[]) [st : SliceTy P t e] [ty : Ty P e agg n zv z] (f : α → List Value)
    (k : ∀ m w',Sat w0 ((m,sl n f ([] : List α) e (.slice (some ⟨m,0,none⟩) 0 0))::S) w' → wpList P ops Q rest (a.put o.dst (.slice (some ⟨m,0,none⟩) 0 0)) w') : wpList P ops Q (o::rest) a w := by
  refine wp_value hw (w' := w.alloc (.cells #[] e)) ?_ (k w.heap.size _ (((hS.freshCells #[] e).toSlc (l := ([] : List α)) (cap := 0) (n := n) (f := f) (by simp) (by simp) (by simp) (by simp) (by simp)).slOfSlc))
  have hr0 : Array.range 0 = #[] := Array.ext' (by simp)
  simp [execOp,ho,Instr.buildSlice,run_underlying st.is,ty.size,Instr.fill,newRow,hr0]
/-- 'make([]T, N, M)', one cell an element. -/
theorem makeLC {vv : α → Value} (hS : Sat w0 S w) (hw : Region.wanted o (yielded ops a.tmps) = true) (ho : o.op = .makeSlice t x y) (N M : Nat) {kl kc : IntKind} (hx : a.eval x = .int kl (N : Int)) (hy : a.eval y = .int kc (M : Int))
    [st : SliceTy P t e] (y0 : α) [ty : Ty P e false 1 (vv y0) #[vv y0]] [by' : Bytes P e bt] (hNM : N ≤ M) (hb : bt * M ≤ 281474976710656) (hm : M ≤ maxLen)
    (k : ∀ g w',Sat w0 ((g,slc 1 (one vv) (List.replicate N y0) M e)::S) w' → wpList P ops Q rest (a.put o.dst (.slice (some ⟨g,0,none⟩) N M)) w') : wpList P ops Q (o::rest) a w := by
  obtain ⟨i0,hi,hz,hsz,hby⟩ := ty.info by'
  have hm' : (M : Int) ≤ 9223372036854775807 := by have h := hm;simp [maxLen] at h;omega
  have hr := run_make (P := P) w t e i0 (vv y0) st.is hi hz kl kc N M (by omega) (by omega) (by rw [hby,← Int.natCast_mul];omega) hm'
  simp only [Int.toNat_natCast] at hr
  refine wp_value hw (w' := w.alloc (.cells (madeCells (vv y0).cells (M * i0.size)) e)) (by simp [execOp,ho,hx,hy,hr]) (k w.heap.size _ ?_)
  have hmc : (madeCells (vv y0).cells (M * i0.size)).toList = List.replicate M (vv y0) := by
    rw [hsz,Nat.mul_one,ty.cells]
    have := zeroCells_one (vv y0) M
    unfold Builtin.zeroCells at this
    unfold madeCells
    simpa using this
  refine (hS.freshCells _ e).toSlc (l := List.replicate N y0) (cap := M) (n := 1) (f := one vv) (by rw [size_madeCells,hsz]) (by simpa using hNM) hm ?_ (fun _ _ => rfl)
  rw [hmc,List.length_replicate,Nat.mul_one,flatMap_one,List.map_replicate,List.take_replicate,Nat.min_eq_left hNM]

/-- 'copy(d, s)', s read anywhere, into a slice of the call's own. -/
theorem copyB {vv : α → Value} {off dLen dCap cap : Nat} {sT : TypeId} (hS : Sat w0 S w) (hw : Region.wanted o (yielded ops a.tmps) = true) (ho : o.op = .call { callee := .builtin .copy,args := #[x,y],argTypes := #[t,sT] }) (hx : a.eval x = .slice (some ⟨g,off,none⟩) dLen dCap) {sv : Value} (hy : a.eval y = sv)
    [st : SliceTy P t e] [ty : Ty P e false 1 zv z] [by' : Bytes P e bt] [p : Pull S g (slc 1 (one vv) l cap tb) F] (ys : List α) (hsrc : BSl w 1 (one vv) gd ys sv) (h1 : ∀ x ∈ ys,(vv x).oneCell' = true) (m : Nat) (hm : m = min ys.length dLen) (hfit : off + m ≤ l.length)
    (k : ∀ w',Sat w0 ((g,slc 1 (one vv) (l.take off ++ ys.take m ++ l.drop (off + m)) cap tb)::F) w' → wpList P ops Q rest (a.put o.dst (goInt m)) w') : wpList P ops Q (o::rest) a w := by
  obtain ⟨i0,hi,hz,hsz,hby⟩ := ty.info by'
  have hsz1 : (P.info? e).map (·.size) = some 1 := by rw [hi];simp [hsz]
  obtain ⟨sa,scap,rfl,hl,hat⟩ := hsrc.at
  obtain ⟨cur,hcur,k1,k2,k3,k4,k5⟩ := hS.slcOf (g := g) (n := 1) (f := one vv) (l := l) (cap := cap) (t := tb)
  have hg := hcur.cellsAt (b := g) (c := cur) (t := tb)
  by_cases h0 : m = 0
  · subst h0
    have hrun := run_copy_none (P := P) w t sT o.type e (some ⟨g,off,none⟩) sa dLen dCap ys.length scap st.is hsz1 hm.symm
    refine wp_value hw (v := goInt (0 : Nat)) (w' := w) ?_ (k w ?_)
    · simp [execOp,ho,resolve,invoke,builtin,hx,hy,hrun]
    · rw [List.take_zero,List.append_nil,Nat.add_zero,List.take_append_drop];exact hcur.toSlc k1 k2 k3 k4 k5
  · have hne : ys ≠ [] := by intro e;subst e;simp at hm;omega
    obtain ⟨sb,so,rfl,hb⟩ := hat hne
    have hlen : ((ys.take m).map vv).length = m := by simp;omega
    have hrun := run_copy_row (P := P) w t sT o.type e g off dLen dCap ⟨sb,so,none⟩ ys.length scap cur tb ((ys.take m).map vv) st.is hsz1 hg.2 (by rw [hlen,hm]) (fun j v hv => by
      have hadd : (⟨sb,so,none⟩ : Addr).add j = ⟨sb,so + j,none⟩ := by unfold Addr.add;split <;> simp_all
      rw [hadd]
      rw [List.getElem?_map,List.getElem?_take] at hv
      split at hv
      · obtain ⟨x,hx,rfl⟩ := Option.map_eq_some_iff.1 hv
        have := (hb.2 j x hx).2.2 0 (vv x) rfl
        rw [Nat.mul_one] at this
        exact this
      · simp at hv) (by rw [hlen];omega) (fun v hv => by
      obtain ⟨x,hx,rfl⟩ := List.mem_map.1 hv
      exact h1 x (List.mem_of_mem_take hx))
    rw [hlen] at hrun
    refine wp_value hw (v := goInt (m : Nat)) (w' := w.setRow g (cur.toList.take off ++ ((ys.take m).map vv ++ cur.toList.drop (off + m))).toArray) ?_ (k _ ?_)
    · simp [execOp,ho,resolve,invoke,builtin,hx,hy,hrun]
    · rw [Nat.mul_one,flatMap_one] at k4
      rw [Nat.mul_one] at k1
      have hcl : cur.toList.length = cap := by simpa using k1
      refine (hcur.setRow (b := g) (c := cur) (t := tb) _).toSlc ?_ ?_ k3 ?_ (fun _ _ => rfl)
      · simp;omega
      · simp;omega
      · have hlen2 : (l.take off ++ ys.take m ++ l.drop (off + m)).length = l.length := by simp;omega
        rw [hlen2,Nat.mul_one,flatMap_one,List.toList_toArray]
        have e1 : (cur.toList.take off ++ ((ys.take m).map vv ++ cur.toList.drop (off + m))).take l.length = (cur.toList.take l.length).take off ++ ((ys.take m).map vv ++ (cur.toList.take l.length).drop (off + m)) := by
          have := take_splice (L := cur.toList) (cs := (ys.take m).map vv) (o := off) (N := l.length) (by rw [hlen];exact hfit) (by omega)
          rw [hlen] at this
          simpa [List.append_assoc] using this
        rw [e1,k4]
        simp [List.map_take,List.map_drop]

/-- 'string(b)'. -/
theorem run_convertB {src dst : TypeId} [st : SliceTy P src e] (he : P.underlying e = some (.int .u8)) (hd : P.underlying dst = some .string) {A : List Int} (h : RB w A v) : (convert src dst v).run P w = .ok (.string (strOfNums A)) w := by
  rcases h with ⟨rfl,rfl | ⟨ad,cap,_,rfl⟩⟩ | ⟨b,off,cap,rfl,h1,h2,hb⟩
  · have := run_convert_bytes_nil (P := P) w src e st.is he 0 0 dst hd
    exact this
  · obtain ⟨b,off,s⟩ := ad
    rw [run_convert_bytes_string w src dst e _ 0 cap st.is he hd]
    have hl : (loadCells ⟨b,off,s⟩ 0).run P w = .ok #[] w := by simp [loadCells,loadCellsFrom]
    simp [Conv.bytesToString,hl]
    rfl
  · refine run_convert_bytes_arg (P := P) w src e st.is he b off A.length cap A rfl (fun i hi => ?_) dst hd
    have := (hb.2 i A[i] (List.getElem?_eq_getElem hi)).2.2 0 _ rfl
    rw [Nat.mul_one] at this
    rw [show A.getD i 0 = A[i] by simp [hi]]
    exact this

/-! ### Rows of bytes that the call has made -/
abbrev rowF : Value × List Int → List Value := fun x => [x.1]
def rowsL (X : List (Value × List Int)) (t : TypeId) : List Chunk := X.map fun x => (blk x.1,sl 1 by8 x.2 t x.1)
def inn (X : List (Value × List Int)) (t : TypeId) : K := fun _ h => holds (rowsL X t) h
variable {X X1 X2 : List (Value × List Int)} {A : List Int} {j : Nat}
theorem Sat.innNil (h : Sat w0 F w) (j : Nat) (t : TypeId) : Sat w0 ((j,inn [] t)::F) w := h.nilChunk j trivial
theorem Sat.innOpen (h : Sat w0 ((j,inn X t)::F) w) : Sat w0 (rowsL X t ++ F) w := h.open fun _ h => h
theorem Sat.innShut (j : Nat) (h : Sat w0 (rowsL X t ++ F) w) : Sat w0 ((j,inn X t)::F) w := h.close fun _ h => h
theorem Sat.innPush (h : Sat w0 ((blk v,sl 1 by8 A t v)::(j,inn X t)::F) w) : Sat w0 ((j,inn (X ++ [(v,A)]) t)::F) w := by
  have h1 : Sat w0 ((j,inn X t)::(blk v,sl 1 by8 A t v)::F) w := h.perm (List.Perm.swap _ _ _)
  refine Sat.innShut j ?_
  have h2 := h1.innOpen
  unfold rowsL at *
  simpa using h2
theorem Sat.innPull (h : Sat w0 ((j,inn (X1 ++ (v,A)::X2) t)::F) w) : Sat w0 ((blk v,sl 1 by8 A t v)::(j,inn (X1 ++ X2) t)::F) w := by
  have h1 := h.innOpen
  have h2 : Sat w0 ((blk v,sl 1 by8 A t v)::(rowsL (X1 ++ X2) t ++ F)) w := h1.perm (by
    unfold rowsL
    simp only [List.map_append,List.map_cons,List.append_assoc,List.cons_append]
    exact List.perm_middle)
  have h3 : Sat w0 (rowsL (X1 ++ X2) t ++ ((blk v,sl 1 by8 A t v)::F)) w := h2.perm List.perm_middle.symm
  exact (Sat.innShut j h3).perm (List.Perm.swap _ _ _)
theorem Sat.innBack (h : Sat w0 ((blk v,sl 1 by8 A t v)::(j,inn (X1 ++ X2) t)::F) w) : Sat w0 ((j,inn (X1 ++ (v,A)::X2) t)::F) w := by
  have h1 : Sat w0 ((j,inn (X1 ++ X2) t)::(blk v,sl 1 by8 A t v)::F) w := h.perm (List.Perm.swap _ _ _)
  refine Sat.innShut j (h1.innOpen.perm ?_)
  unfold rowsL
  simp only [List.map_append,List.map_cons,List.append_assoc,List.cons_append]
  exact List.Perm.append_left _ List.perm_middle
theorem Sat.innReads (h : Sat w0 ((j,inn X t)::F) w) (hx : (v,A) ∈ X) (hA : ∀ b ∈ A,okByte b) : RB w A v := by
  obtain ⟨X1,X2,rfl⟩ := List.append_of_mem hx
  exact (h.innPull).readsSl (g := blk v) (n := 1) (f := by8) (L := A) (t := t) hA
theorem Sat.rowsRead {T : TypeId} {gv : Nat} {vo : Value} {F' : List Chunk} (h : Sat w0 S w) [p : PullSl S vo gv 1 rowF X T F] [q : Pull F j (inn X t) F'] (hX : ∀ x ∈ X,∀ b ∈ x.2,okByte b) : RR w X vo := by
  refine BSl.mono (gd := fun x => x ∈ X) (h.readsSl (g := gv) (n := 1) (f := rowF) (L := X) (t := T) fun x hx => hx) (Below.refl _ _) fun x hx _ => ?_
  have h1 := (h.perm p.perm).tail
  exact (h1.pull j).innReads (v := x.1) (A := x.2) hx (hX x hx)
theorem Sat.innAdd {gv : Nat} {F' : List Chunk} (v : Value) (h : Sat w0 S w) [p : PullSl S v gv 1 by8 A t F] [q : Pull F j (inn X t) F'] (hb : gv = blk v) : Sat w0 ((j,inn (X ++ [(v,A)]) t)::F') w := by
  subst hb
  exact (h.perm (p.perm.trans (q.perm.cons _))).innPush
/-- A part of a slice of the call's own. -/
theorem Sat.readsPart {cap cap' i m : Nat} {ap : Addr} (h : Sat w0 S w) [p : Pull S g (slc 1 by8 A cap t) F] (hg : ∀ x ∈ A,okByte x) (hi : i + m ≤ A.length) (hap : ap = ⟨g,i,none⟩) (hm : m ≤ cap') (hc : cap' ≤ maxLen) :
    RB w ((A.drop i).take m) (.slice (some ap) m cap') := by
  subst hap
  have h1 := (h.reads (g := g) (n := 1) (f := by8) (L := A) (cap := cap) (t := t) hg).part i m
  have hl : ((A.drop i).take m).length = m := by simp;omega
  refine .inr ⟨g,i,cap',by rw [hl],by rw [hl];exact hm,hc,?_⟩
  simpa using h1
end
end Go.Proofs.YtdkimdobcacpfaaDoor.Sl
namespace Go.Proofs.YtdkimdobcacpfaaDoor
open Go.RowKit Go.Proofs.YtdkimdobcacpfaaDoor.Sl

theorem take_get {α : Type} {A : List α} {k : Nat} {x : α} (hx : A[k]? = some x) : A.take (k + 1) = A.take k ++ [x] := by rw [List.take_add_one,hx];rfl
theorem cat_take {X : List (Value × List Int)} {k : Nat} {x : Value × List Int} (hx : X[k]? = some x) : cat (X.take (k + 1)) = cat (X.take k) ++ x.2 := by
  unfold cat;rw [take_get hx,List.map_append,List.flatten_append];simp
theorem cat_take_le (X : List (Value × List Int)) (k : Nat) : (cat (X.take k)).length ≤ (cat X).length := by
  have : cat X = cat (X.take k) ++ cat (X.drop k) := by unfold cat;rw [← List.flatten_append,← List.map_append,List.take_append_drop]
  rw [this,List.length_append];omega

end Go.Proofs.YtdkimdobcacpfaaDoor
namespace Go.Proofs.YtdkimdobcacpfaaDoor.Sl
open Go Go.RowKit

/-- A fact that no tactic looks into (RowKit.Hid is opened by 'contradiction'). -/
structure Bx (p : Prop) : Prop where
  out : p
/-- The cells of an array. -/
abbrev arr {α : Type} (vv : α → Value) (l : List α) (t : TypeId) : K := cells (l.map vv).toArray t

section
variable {P : Program} {ops : Array Oper} {rest : List Oper} {o : Oper} {a : Act} {Q : Exit → Act → World → Prop} {w0 w : World} {S F : List Chunk}
variable {α : Type} {vv : α → Value} {l : List α} {b off n : Nat} {z : Array Value} {zv : Value} {t tb : TypeId} {agg : Bool} {x y : Operand}
/-- A cell of an array is read. -/
theorem loadA (hS : Sat w0 S w) (hw : Region.wanted o (yielded ops a.tmps) = true) (ho : o.op = .load t x) (hx : a.eval x = .pointer (some ⟨b,off,none⟩))
    [ty : Ty P t false n zv z] [Pull S b (cells (l.map vv).toArray tb) F] {u : α} (hc : l[off]? = some u)
    (k : wpList P ops Q rest (a.put o.dst (vv u)) w) : wpList P ops Q (o::rest) a w :=
  load1 hS hw ho hx (b := b) (c := (l.map vv).toArray) (tb := tb) (by simp [hc]) k
/-- .. is written. -/
theorem storeA (hS : Sat w0 S w) (hw : Region.wanted o (yielded ops a.tmps) = true) (ho : o.op = .store t x y) (hx : a.eval x = .pointer (some ⟨b,off,none⟩))
    [ty : Ty P t agg 1 zv z] (u : α) (hy : a.eval y = vv u) (hv : (vv u).oneCell' = true) [Pull S b (cells (l.map vv).toArray tb) F] (hoff : off < l.length)
    (k : ∀ w',Sat w0 ((b,cells ((l.set off u).map vv).toArray tb)::F) w' → wpList P ops Q rest (a.put o.dst undef) w') : wpList P ops Q (o::rest) a w := by
  refine store1 hS hw ho hx hy hv (b := b) (c := (l.map vv).toArray) (tb := tb) (by simpa using hoff) fun w' h => k w' ?_
  have e : (l.map vv).toArray.setIfInBounds off (vv u) = ((l.set off u).map vv).toArray := by
    rw [List.map_set];simp
  rw [e] at h
  exact h
/-- The whole array is read. -/
theorem loadAllA (hS : Sat w0 S w) (hw : Region.wanted o (yielded ops a.tmps) = true) (ho : o.op = .load t x) (hx : a.eval x = .pointer (some ⟨b,0,none⟩))
    [ty : Ty P t true n zv z] [Pull S b (cells (l.map vv).toArray tb) F] (hn : l.length = n)
    (k : wpList P ops Q rest (a.put o.dst (.agg (l.map vv).toArray)) w) : wpList P ops Q (o::rest) a w :=
  loadAll hS hw ho hx (b := b) (c := (l.map vv).toArray) (tb := tb) (by simpa using hn) k
/-- .. is written whole. -/
theorem storeAllA (hS : Sat w0 S w) (hw : Region.wanted o (yielded ops a.tmps) = true) (ho : o.op = .store t x y) (hx : a.eval x = .pointer (some ⟨b,0,none⟩))
    [ty : Ty P t agg n zv z] {c : Array Value} (l' : List α) (hy : a.eval y = .agg (l'.map vv).toArray) (hn : l'.length = n) (hv : ∀ u ∈ l',(vv u).oneCell' = true) [Pull S b (cells c tb) F] (hc : c.size = n)
    (k : ∀ w',Sat w0 ((b,cells (l'.map vv).toArray tb)::F) w' → wpList P ops Q rest (a.put o.dst undef) w') : wpList P ops Q (o::rest) a w :=
  storeAll hS hw ho hx hy (by simpa using hn) (fun v hv' => by
    obtain ⟨u,hu,rfl⟩ := List.mem_map.1 (by simpa using hv' : v ∈ l'.map vv)
    exact hv u hu) (b := b) (c := c) (tb := tb) hc k
/-- A new array of zeros. -/
theorem allocA (hS : Sat w0 S w) (hw : Region.wanted o (yielded ops a.tmps) = true) (ho : o.op = .alloc t) [ty : Ty P t agg n zv z] (l' : List α) (hz : z = (l'.map vv).toArray)
    (k : ∀ m w',Sat w0 ((m,cells (l'.map vv).toArray t)::S) w' → wpList P ops Q rest (a.put o.dst (.pointer (some ⟨m,0,none⟩))) w') : wpList P ops Q (o::rest) a w := by
  subst hz
  exact alloc hS hw ho k
/-- .. that holds a value. -/
theorem boxA (hS : Sat w0 S w) (hw : Region.wanted o (yielded ops a.tmps) = true) (ho : o.op = .box t x) (l' : List α) (hx : a.eval x = .agg (l'.map vv).toArray)
    (k : ∀ m w',Sat w0 ((m,cells (l'.map vv).toArray t)::S) w' → wpList P ops Q rest (a.put o.dst (.pointer (some ⟨m,0,none⟩))) w') : wpList P ops Q (o::rest) a w :=
  boxN hS hw ho hx k
/-- A cell of an array is read, its place known by a number. -/
theorem loadAi (hS : Sat w0 S w) (hw : Region.wanted o (yielded ops a.tmps) = true) (ho : o.op = .load t x) (hx : a.eval x = .pointer (some ⟨b,off,none⟩))
    [ty : Ty P t false n zv z] [Pull S b (cells (l.map vv).toArray tb) F] (i : Nat) {u : α} (hc : l[i]? = some u) (hoff : off = i)
    (k : wpList P ops Q rest (a.put o.dst (vv u)) w) : wpList P ops Q (o::rest) a w := by
  subst hoff
  exact loadA hS hw ho hx hc k
/-- .. is written. -/
theorem storeAi (hS : Sat w0 S w) (hw : Region.wanted o (yielded ops a.tmps) = true) (ho : o.op = .store t x y) (hx : a.eval x = .pointer (some ⟨b,off,none⟩))
    [ty : Ty P t agg 1 zv z] (i : Nat) (u : α) (hy : a.eval y = vv u) (hv : (vv u).oneCell' = true) [Pull S b (cells (l.map vv).toArray tb) F] (hoff : off = i) (hl : i < l.length)
    (k : ∀ w',Sat w0 ((b,cells ((l.set i u).map vv).toArray tb)::F) w' → wpList P ops Q rest (a.put o.dst undef) w') : wpList P ops Q (o::rest) a w := by
  subst hoff
  exact storeA hS hw ho hx u hy hv hl k
/-- A cell of an array with more cells behind it (a struct's first field) is read. -/
theorem loadAp {more : List Value} (hS : Sat w0 S w) (hw : Region.wanted o (yielded ops a.tmps) = true) (ho : o.op = .load t x) (hx : a.eval x = .pointer (some ⟨b,off,none⟩))
    [ty : Ty P t false n zv z] [Pull S b (cells (l.map vv ++ more).toArray tb) F] (i : Nat) {u : α} (hc : l[i]? = some u) (hoff : off = i)
    (k : wpList P ops Q rest (a.put o.dst (vv u)) w) : wpList P ops Q (o::rest) a w := by
  subst hoff
  have hl : off < l.length := (List.getElem?_eq_some_iff.1 hc).1
  refine load1 hS hw ho hx (b := b) (c := (l.map vv ++ more).toArray) (tb := tb) ?_ k
  rw [List.getElem?_toArray,List.getElem?_append_left (by simpa using hl)]
  simp [hc]
/-- .. is written. -/
theorem storeAp {more : List Value} (hS : Sat w0 S w) (hw : Region.wanted o (yielded ops a.tmps) = true) (ho : o.op = .store t x y) (hx : a.eval x = .pointer (some ⟨b,off,none⟩))
    [ty : Ty P t agg 1 zv z] (i : Nat) (u : α) (hy : a.eval y = vv u) (hv : (vv u).oneCell' = true) [Pull S b (cells (l.map vv ++ more).toArray tb) F] (hoff : off = i) (hl : i < l.length)
    (k : ∀ w',Sat w0 ((b,cells ((l.set i u).map vv ++ more).toArray tb)::F) w' → wpList P ops Q rest (a.put o.dst undef) w') : wpList P ops Q (o::rest) a w := by
  subst hoff
  refine store1 hS hw ho hx hy hv (b := b) (c := (l.map vv ++ more).toArray) (tb := tb) (by simp;omega) fun w' h => k w' ?_
  have e : (l.map vv ++ more).toArray.setIfInBounds off (vv u) = ((l.set off u).map vv ++ more).toArray := by
    rw [List.map_set]
    simp [List.set_append_left,hl]
  rw [e] at h
  exact h
end
end Go.Proofs.YtdkimdobcacpfaaDoor.Sl
namespace Go.Proofs.YtdkimdobcacpfaaDoor.Sl
open Go Go.RowKit

/-- No fact about a world (it holds of each; not a rewrite rule). -/
structure AnyW (w : World) : Prop where
  out : True

section
variable {P : Program} {ops : Array Oper}
/-- With s of the writing operations done, may operation k be next? -/
def poss (ops : Array Oper) (ns : List Nat) (k s : Nat) : Bool :=
  (ns.take s).all (fun n => !dep ops n k) && (ns.drop s).all (fun n => !dep ops k n)
def stages (ops : Array Oper) (ns : List Nat) (k : Nat) : List Nat := (List.range (ns.length + 1)).filter (poss ops ns k)
/-- Each writing operation waits for the one ahead of it. -/
def chain (ops : Array Oper) : List Nat → Bool
  | a::b::r => dep ops b a && chain ops (b::r)
  | _ => true
def inAll (l : List Nat) (f : Nat → Prop) : Prop := match l with
  | [] => True
  | [s] => f s
  | s::r => f s ∧ inAll r f
theorem inAll_mem : ∀ {l : List Nat} {f : Nat → Prop},inAll l f → ∀ s ∈ l,f s
  | [],_,_,s,h => by cases h
  | [a],f,h,s,hs => by
    have : s = a := by simpa using hs
    subst this;exact h
  | a::b::r,f,h,s,hs => by
    rcases List.mem_cons.1 hs with e | e
    · subst e;exact h.1
    · exact inAll_mem (l := b::r) h.2 s e

def seqW (P : Program) (ops : Array Oper) (Cs : Nat → World → Prop) (ns : List Nat) (G : Act → Prop) : List Oper → Nat → Nat → Act → Prop
  | [],_,_,a => G a
  | o::rest,k,j,a => ∃ v,if ns[j]? = some k then (∀ w,Cs j w → wpList P ops (Qd a o.dst v (Cs (j + 1))) [o] a w) ∧ seqW P ops Cs ns G rest (k + 1) (j + 1) (a.put o.dst v)
      else inAll (stages ops ns k) (fun s => ∀ w,Cs s w → wpList P ops (Qd a o.dst v (Cs s)) [o] a w) ∧ seqW P ops Cs ns G rest (k + 1) j (a.put o.dst v)
variable {Cs : Nat → World → Prop} {ns : List Nat} {G : Act → Prop} {o : Oper} {rest : List Oper} {k j : Nat} {a : Act} {v : Value}
theorem seq_write (hk : (ns[j]? == some k) = true) (h0 : ∀ w,Cs j w → wpList P ops (Qd a o.dst v (Cs (j + 1))) [o] a w) (h2 : seqW P ops Cs ns G rest (k + 1) (j + 1) (a.put o.dst v)) : seqW P ops Cs ns G (o::rest) k j a :=
  ⟨v,by rw [if_pos (by simpa using hk)];exact ⟨h0,h2⟩⟩
theorem seq_writeN (hn : o.dst.isNone = true) (hk : (ns[j]? == some k) = true) (h0 : ∀ w,Cs j w → wpList P ops (Qd a o.dst undef (Cs (j + 1))) [o] a w) (h2 : seqW P ops Cs ns G rest (k + 1) (j + 1) (a.put o.dst undef)) : seqW P ops Cs ns G (o::rest) k j a :=
  seq_write hk h0 h2
theorem seq_read1 {s : Nat} (hn : (ns[j]? == some k) = false) (hk : stages ops ns k = [s]) (h0 : ∀ w,Cs s w → wpList P ops (Qd a o.dst v (Cs s)) [o] a w) (h2 : seqW P ops Cs ns G rest (k + 1) j (a.put o.dst v)) : seqW P ops Cs ns G (o::rest) k j a := by
  simp only [beq_eq_false_iff_ne,ne_eq] at hn
  exact ⟨v,by rw [if_neg hn,hk];exact ⟨h0,h2⟩⟩
theorem seq_read2 {s s' : Nat} (hn : (ns[j]? == some k) = false) (hk : stages ops ns k = [s,s']) (h0 : ∀ w,Cs s w → wpList P ops (Qd a o.dst v (Cs s)) [o] a w) (h1 : ∀ w,Cs s' w → wpList P ops (Qd a o.dst v (Cs s')) [o] a w) (h2 : seqW P ops Cs ns G rest (k + 1) j (a.put o.dst v)) : seqW P ops Cs ns G (o::rest) k j a := by
  simp only [beq_eq_false_iff_ne,ne_eq] at hn
  exact ⟨v,by rw [if_neg hn,hk];exact ⟨⟨h0,h1⟩,h2⟩⟩
theorem seq_nil (h : G a) : seqW P ops Cs ns G [] k j a := h

/-- s writing operations are done, and what each waited for. -/
def CC (ops : Array Oper) (ns : List Nat) (Cs : Nat → World → Prop) (D : Array Bool) (w : World) : Prop :=
  ∃ s,s ≤ ns.length ∧ (∀ i n,i < s → ns[i]? = some n → D.getD n false = true ∧ ∀ k,dep ops n k = true → D.getD k false = true) ∧ (∀ i n,s ≤ i → ns[i]? = some n → D.getD n false = false) ∧ Cs s w
theorem CC_eq {D : Array Bool} {s : Nat} (h1 : s ≤ ns.length) (h2 : ∀ i n,i < s → ns[i]? = some n → D.getD n false = true ∧ ∀ k,dep ops n k = true → D.getD k false = true) (h3 : ∀ i n,s ≤ i → ns[i]? = some n → D.getD n false = false) : CC ops ns Cs D = Cs s := by
  funext w
  refine propext ⟨fun ⟨s',k1,k2,k3,hC⟩ => ?_,fun h => ⟨s,h1,h2,h3,h⟩⟩
  have : s' = s := by
    rcases Nat.lt_trichotomy s' s with h | h | h
    · obtain ⟨n,hn⟩ : ∃ n,ns[s']? = some n := ⟨_,List.getElem?_eq_getElem (by omega)⟩
      have := (h2 s' n h hn).1
      rw [k3 s' n (Nat.le_refl _) hn] at this;cases this
    · exact h
    · obtain ⟨n,hn⟩ : ∃ n,ns[s]? = some n := ⟨_,List.getElem?_eq_getElem (by omega)⟩
      have := (k2 s n h hn).1
      rw [h3 s n (Nat.le_refl _) hn] at this;cases this
  rw [← this];exact hC
theorem rdy_dep {o : Oper} {D : Array Bool} {k m : Nat} (ho : ops[k]? = some o) (hr : rdy o D) (hm : dep ops k m = true) : D.getD m false = true := by
  unfold dep at hm
  rw [ho] at hm
  simp only [List.any_eq_true,Bool.and_eq_true,beq_iff_eq] at hm
  obtain ⟨e,he,h6,h7⟩ := hm
  subst h6
  exact hr e (by simpa using he) h7
theorem chain_get : ∀ {ns : List Nat} {i a b : Nat},chain ops ns = true → ns[i]? = some a → ns[i + 1]? = some b → dep ops b a = true
  | a::b::r,0,_,_,h,h1,h2 => by
    simp only [chain,Bool.and_eq_true] at h
    simp at h1 h2;subst h1;subst h2;exact h.1
  | a::b::r,i + 1,_,_,h,h1,h2 => by
    simp only [chain,Bool.and_eq_true] at h
    exact chain_get (ns := b::r) (i := i) h.2 (by simpa using h1) (by simpa using h2)
  | [a],i,_,_,_,_,h2 => by simp at h2
  | [],i,_,_,_,h1,_ => by simp at h1
theorem walkQ_of_seq (hch : chain ops ns = true) (hnd : ns.Pairwise (· < ·)) (hsz : ∀ n ∈ ns,n < ops.size) : ∀ (l : List Oper) (k j : Nat) (D : Array Bool) (a : Act),(∀ i,l[i]? = ops[k + i]?) → (∀ o ∈ l,∀ d,o.dst = some d → d < a.tmps.size) →
    k + l.length = ops.size → D.size = ops.size → (∀ i n,i < j → ns[i]? = some n → D.getD n false = true ∧ n < k) → (∀ i n,j ≤ i → ns[i]? = some n → k ≤ n) →
    seqW P ops Cs ns G l k j a → walkQ P ops (CC ops ns Cs) (fun D a => (∀ n ∈ ns,D.getD n false = true) ∧ G a) l k D a
  | [],k,j,D,_,_,_,hk,_,hD,hlt,h => by
    refine ⟨fun n hn => ?_,h⟩
    obtain ⟨i,hi⟩ := List.mem_iff_getElem?.1 hn
    by_cases hij : i < j
    · exact (hD i n hij hi).1
    · have h1 := hlt i n (by omega) hi
      have h2 := hsz n hn
      simp at hk;omega
  | o::l,k,j,D,a,hl,hd,hk,hs,hD,hlt,⟨v,h1⟩ => by
    have ho : ops[k]? = some o := by simpa using (hl 0).symm
    have hkl : k < D.size := by rw [hs,← hk];simp
    have inj : ∀ {i i' n : Nat},ns[i]? = some n → ns[i']? = some n → i = i' := fun {i i' n} e e' => by
      obtain ⟨h4,h5⟩ := List.getElem?_eq_some_iff.1 e
      obtain ⟨h6,h7⟩ := List.getElem?_eq_some_iff.1 e'
      rcases Nat.lt_trichotomy i i' with h | h | h
      · have := List.pairwise_iff_getElem.1 hnd i i' h4 h6 h;omega
      · exact h
      · have := List.pairwise_iff_getElem.1 hnd i' i h6 h4 h;omega
    by_cases hj : ns[j]? = some k
    · rw [if_pos hj] at h1
      have hjl : j < ns.length := (List.getElem?_eq_some_iff.1 hj).1
      refine ⟨v,qAt_of_wp (hd o (by simp)) (fun D' w hun hr hc => ?_),walkQ_of_seq hch hnd hsz l (k + 1) (j + 1) _ _ (fun i => by have := hl (i + 1);simpa [Nat.add_assoc,Nat.add_comm 1 i] using this) (fun o' ho d hd' => by rw [size_put];exact hd o' (by simp [ho]) d hd') (by simp at hk ⊢;omega) (by simpa using hs) (fun i n hi hn => ?_) (fun i n hi hn => ?_) h1.2⟩
      · obtain ⟨hltD,hf⟩ := getD_tf hun
        obtain ⟨s,hs1,hs2,hs3,hC⟩ := hc
        have hsj : s = j := by
          have hle : s ≤ j := by
            rcases Nat.lt_or_ge j s with h | h
            · have := (hs2 j k h hj).1
              rw [hf] at this;cases this
            · exact h
          rcases Nat.lt_or_ge s j with h | h
          · exfalso
            obtain ⟨j',rfl⟩ : ∃ j',j = j' + 1 := ⟨j - 1,by omega⟩
            obtain ⟨m,hm⟩ : ∃ m,ns[j']? = some m := ⟨_,List.getElem?_eq_getElem (by omega)⟩
            have := rdy_dep ho hr (chain_get hch hm hj)
            rw [hs3 j' m (by omega) hm] at this;cases this
          · omega
        subst hsj
        have h3 := h1.1 w hC
        have e2 : CC ops ns Cs (D'.setIfInBounds k true) = Cs (s + 1) := by
          refine CC_eq (by omega) (fun i n hi hn => ?_) (fun i n hi hn => ?_)
          · by_cases his : i = s
            · subst his
              rw [hj] at hn
              obtain rfl := Option.some.inj hn
              exact ⟨by simp [hltD],fun m hm => getD_set_true (rdy_dep ho hr hm)⟩
            · have := hs2 i n (by omega) hn
              exact ⟨getD_set_true this.1,fun m hm => getD_set_true (this.2 m hm)⟩
          · have hne : k ≠ n := fun e => by
              subst e
              have := inj hj hn;omega
            rw [getD_set_ne false hne]
            exact hs3 i n (by omega) hn
        rw [e2];exact h3
      · by_cases hij : i = j
        · subst hij
          rw [hj] at hn
          obtain rfl := Option.some.inj hn
          exact ⟨by simp [hkl],by omega⟩
        · exact ⟨getD_set_true (hD i n (by omega) hn).1,by have := (hD i n (by omega) hn).2;omega⟩
      · have h4 := (List.getElem?_eq_some_iff.1 hj)
        have h5 := (List.getElem?_eq_some_iff.1 hn)
        have := List.pairwise_iff_getElem.1 hnd j i h4.1 h5.1 (by omega)
        omega
    · rw [if_neg hj] at h1
      refine ⟨v,qAt_of_wp (hd o (by simp)) (fun D' w hun hr hc => ?_),walkQ_of_seq hch hnd hsz l (k + 1) j _ _ (fun i => by have := hl (i + 1);simpa [Nat.add_assoc,Nat.add_comm 1 i] using this) (fun o' ho d hd' => by rw [size_put];exact hd o' (by simp [ho]) d hd') (by simp at hk ⊢;omega) (by simpa using hs) (fun i n hi hn => ⟨getD_set_true (hD i n hi hn).1,by have := (hD i n hi hn).2;omega⟩) (fun i n hi hn => ?_) h1.2⟩
      · obtain ⟨hltD,hf⟩ := getD_tf hun
        obtain ⟨s,hs1,hs2,hs3,hC⟩ := hc
        have hst : s ∈ stages ops ns k := by
          unfold stages
          rw [List.mem_filter,List.mem_range]
          refine ⟨by omega,?_⟩
          unfold poss
          rw [Bool.and_eq_true,List.all_eq_true,List.all_eq_true]
          refine ⟨fun n hn => ?_,fun n hn => ?_⟩
          · obtain ⟨i,hi⟩ := List.mem_iff_getElem?.1 hn
            rw [List.getElem?_take] at hi
            split at hi
            · rename_i hlt'
              have h4 := (hs2 i n hlt' hi).2 k
              cases hdp : dep ops n k with
              | false => rfl
              | true => have := h4 hdp;rw [hf] at this;cases this
            · cases hi
          · obtain ⟨i,hi⟩ := List.mem_iff_getElem?.1 hn
            rw [List.getElem?_drop] at hi
            cases hdp : dep ops k n with
            | false => rfl
            | true =>
              have := rdy_dep ho hr hdp
              rw [hs3 (s + i) n (by omega) hi] at this;cases this
        have h3 := inAll_mem h1.1 s hst w hC
        have hkn : ∀ i n,ns[i]? = some n → s ≤ i → k ≠ n := fun i n hn hi e => by
          subst e
          rcases Nat.lt_trichotomy i j with h | h | h
          · have := (hD i k h hn).2;omega
          · subst h;exact hj hn
          · have h4 := hlt i k (by omega) hn
            rcases Nat.lt_or_ge j ns.length with h' | h'
            · have h5 := hlt j ns[j] (Nat.le_refl _) (List.getElem?_eq_getElem h')
              have h6 := (List.getElem?_eq_some_iff.1 hn)
              have := List.pairwise_iff_getElem.1 hnd j i h' h6.1 h
              omega
            · have h6 := (List.getElem?_eq_some_iff.1 hn).1;omega
        have e2 : CC ops ns Cs (D'.setIfInBounds k true) = Cs s := by
          refine CC_eq hs1 (fun i n hi hn => ?_) (fun i n hi hn => ?_)
          · have := hs2 i n hi hn
            exact ⟨getD_set_true this.1,fun m hm => getD_set_true (this.2 m hm)⟩
          · rw [getD_set_ne false (hkn i n hn hi)]
            exact hs3 i n hi hn
        rw [e2];exact h3
      · have h5 := hlt i n hi hn
        have : n ≠ k := fun e => by
          subst e
          by_cases hij : i = j
          · subst hij;exact hj hn
          · have h6 := (List.getElem?_eq_some_iff.1 hn)
            have h8 := h6.1
            have h7 := hlt j (ns[j]'(by omega)) (Nat.le_refl _) (List.getElem?_eq_getElem (by omega))
            have := List.pairwise_iff_getElem.1 hnd j i (by omega) h6.1 (by omega)
            omega
        omega
theorem region_seq {w : World} (ns : List Nat) (Cs : Nat → World → Prop) {id : Nat} {Q : Exit → Act → World → Prop} {a : Act} {l : List Oper} (hC : Cs 0 w.drew) (hm : P.follows .mixedOrders = true) (hB : Region.lexB .any l.toArray = true) (hd : dstsIn l a.tmps.size = true)
    (hn : (chain l.toArray ns && decide (ns.Pairwise (· < ·)) && ns.all (· < l.length)) = true)
    (h : seqW P l.toArray Cs ns (fun a' => ∀ w',Cs ns.length w' → Q .normal a' w') l 0 0 a) : (Code.region id l.toArray true).wp P Q a w := by
  simp only [Region.lexB,Bool.and_eq_true] at hB
  simp only [Bool.and_eq_true,decide_eq_true_eq,List.all_eq_true] at hn
  obtain ⟨⟨hch,hnd⟩,hsz⟩ := hn
  have hf : ∀ n,(Array.replicate l.toArray.size false).getD n false = false := fun n => getD_replicate_f _ _
  have hall : ∀ {D : Array Bool} {w' : World},(∀ n ∈ ns,D.getD n false = true) → CC l.toArray ns Cs D w' → Cs ns.length w' := fun {D w'} h1 ⟨s,k1,k2,k3,hC⟩ => by
    have : s = ns.length := by
      rcases Nat.lt_or_ge s ns.length with h | h
      · have h2 := k3 s ns[s] (Nat.le_refl _) (List.getElem?_eq_getElem h)
        rw [h1 _ (List.getElem_mem h)] at h2;cases h2
      · omega
    rw [← this];exact hC
  refine wp_region_any hm (wpAny_of_anyQ (C := CC l.toArray ns Cs) (G := fun D a' => (∀ n ∈ ns,D.getD n false = true) ∧ ∀ w',Cs ns.length w' → Q .normal a' w') (fun D _ w' h hw => h.2 w' (hall h.1 hw)) _ _ _ _ ?_ ?_)
  · exact ⟨0,Nat.zero_le _,fun i n hi => by omega,fun i n _ _ => hf n,hC⟩
  · have := anyQ_lex (C := CC l.toArray ns Cs) (md := .any) hB.1 l 0 (Array.replicate l.toArray.size false) a (by simp) (by simpa using hB.2) (walkQ_of_seq hch hnd (by simpa using hsz) l 0 0 _ a (by simp) (dstsIn_spec hd) (by simp) (by simp) (fun i n hi => by omega) (fun i n _ _ => Nat.zero_le _) h)
    simpa using this
end
end Go.Proofs.YtdkimdobcacpfaaDoor.Sl
namespace Go.Proofs.YtdkimdobcacpfaaDoor.Sl
open Go Go.RowKit

section
variable {P : Program} {ops : Array Oper} {rest : List Oper} {o : Oper} {a : Act} {Q : Exit → Act → World → Prop} {w0 w : World} {S F : List Chunk}
variable {α : Type} {n g b bt : Nat} {f : α → List Value} {vv : α → Value} {gd : α → Prop} {l : List α} {e t tb : TypeId} {agg : Bool} {z : Array Value} {zv v : Value} {x y : Operand}
/-- 'append(v, s...)' as a run: what it gives is known ahead. -/
theorem run_appendB (h : Sat w0 S w) [p : PullSl S v b n f l e F] [st : SliceTy P t e] [ty : Ty P e agg n zv z] [by' : Bytes P e bt] (tr : TypeId) (ys : List α) {sv : Value} (hsrc : BSl w n f gd ys sv) (h1 : ∀ x ∈ ys,∀ u ∈ f x,u.oneCell' = true)
    (hlen : l.length + ys.length ≤ maxLen) (hbytes : (l.length + ys.length) * bt ≤ 140737488355328) :
    ∃ v' w',(Builtin.append_ #[t,t] tr #[v,sv]).run P w = .ok v' w' ∧ Sat w0 ((blk v',sl n f (l ++ ys) e v')::F) w' := by
  obtain ⟨sa,cap,rfl,hl,hat⟩ := hsrc.at
  by_cases h0 : ys = []
  · subst h0
    have hS1 := h.perm p.perm
    rw [List.append_nil]
    rcases hS1.slCases with ⟨rfl,rfl,hF⟩ | ⟨cap',rfl,hC⟩
    · exact ⟨_,_,run_append_nothing (P := P) (w := w) t tr e none 0 0 (Nat.le_refl _) sa cap,hF.slNil n f e⟩
    · have hf := hC.slcFacts (g := b) (n := n) (f := f) (l := l) (cap := cap') (t := e)
      exact ⟨_,_,run_append_nothing (P := P) (w := w) t tr e (some ⟨b,0,none⟩) l.length cap' hf.1 sa cap,hC.slOfSlc⟩
  · obtain ⟨sb,off,rfl,hb⟩ := hat h0
    have hn : ∀ y ∈ ys,(f y).length = n := fun y hy => by
      obtain ⟨i,hi,rfl⟩ := List.mem_iff_getElem.1 hy
      exact (hb.2 i _ (List.getElem?_eq_getElem hi)).2.1
    have hpos : 0 < ys.length := List.length_pos_iff.2 h0
    refine run_appendL h (b := b) (n := n) (f := f) (l := l) (F := F) tr ⟨sb,off,none⟩ ys cap (fun d u hu => ?_) (fun u hu => ?_) hn hpos hlen hbytes
    · have hadd : (⟨sb,off,none⟩ : Addr).add d = ⟨sb,off + d,none⟩ := by unfold Addr.add;split <;> simp_all
      rw [hadd]
      have hd : d < ys.length * n := by have := (List.getElem?_eq_some_iff.1 hu).1;rwa [flatMap_length hn] at this
      have hn0 : 0 < n := by rcases Nat.eq_zero_or_pos n with h | h;(subst h;omega);exact h
      have hi : d / n < ys.length := Nat.div_lt_of_lt_mul (by rw [Nat.mul_comm];exact hd)
      have h2 := flatMap_get (f := f) (n := n) (l := ys) (i := d / n) (j := d % n) (x := ys[d / n]) hn (List.getElem?_eq_getElem hi) (Nat.mod_lt _ hn0)
      rw [Nat.div_add_mod'] at h2
      rw [h2] at hu
      have := (hb.2 (d / n) _ (List.getElem?_eq_getElem hi)).2.2 (d % n) u hu
      rw [Nat.add_assoc,Nat.div_add_mod'] at this
      exact this
    · obtain ⟨x,hx,hu⟩ := List.mem_flatMap.1 hu
      exact h1 x hx u hu
/-- An append whose run is known. -/
theorem appendR {v' sv : Value} {w' : World} (hw : Region.wanted o (yielded ops a.tmps) = true) (ho : o.op = .call { callee := .builtin .append,args := #[x,y],argTypes := #[t,t] }) (hx : a.eval x = v) (hy : a.eval y = sv)
    (hrun : (Builtin.append_ #[t,t] o.type #[v,sv]).run P w = .ok v' w') (k : wpList P ops Q rest (a.put o.dst v') w') : wpList P ops Q (o::rest) a w := by
  refine wp_value hw (w' := w') ?_ k
  simp [execOp,ho,resolve,invoke,builtin,hx,hy,hrun]
/-- A slice's array's address. -/
theorem arrayPtr {arr e' : TypeId} {m len cap : Nat} {ad : Addr} (hw : Region.wanted o (yielded ops a.tmps) = true) (ho : o.op = .sliceToArrayPointer arr x) (hu : P.underlying arr = some (.array m e')) (hx : a.eval x = .slice (some ad) len cap) (hm : m ≤ len)
    (k : wpList P ops Q rest (a.put o.dst (.pointer (some ad))) w) : wpList P ops Q (o::rest) a w := by
  refine wp_value hw (w' := w) ?_ k
  have hlt : ¬ len < m := by omega
  simp [execOp,ho,hx,Instr.arrayAt,run_underlying hu,hlt]
/-- 's[i:]': where nothing is left the base may stay. -/
theorem sliceTail {lo : Operand} {off len cap i : Nat} {q : IntKind} {ad : Addr} (hw : Region.wanted o (yielded ops a.tmps) = true) (ho : o.op = .slice t x (some lo) none none) (hx : a.eval x = .slice (some ad) len cap) (hlo : a.eval lo = .int q (i : Int))
    [st : SliceTy P t e] [ty : Ty P e false 1 zv z] (had : i < len → ad = ⟨b,off,none⟩) (hi : i ≤ len) (hc : len ≤ cap)
    (k : ∀ ad',(i < len → ad' = ⟨b,off + i,none⟩) → wpList P ops Q rest (a.put o.dst (.slice (some ad') (len - i) (cap - i))) w) : wpList P ops Q (o::rest) a w := by
  refine wp_value hw (w' := w) (v := .slice (some (if cap = i then ad else ad.add i)) (len - i) (cap - i)) ?_ (k _ ?_)
  · have h1 : ¬ ((i : Int) < 0) := by omega
    have h2 : (i : Int) ≤ len := by omega
    simp [execOp,ho,hx,hlo,Instr.sliceAt,run_underlying st.is,Instr.slice,Instr.sliceBounds,Instr.sliceBound,asIntOf,ty.size,hi]
    by_cases h : cap = i <;> simp [h]
  · intro hlt
    rw [if_neg (by omega),had hlt]
    unfold Addr.add;split <;> simp_all
/-- All cells of a slice of the call's own are read as an array. -/
theorem loadSA {cap : Nat} (hS : Sat w0 S w) (hw : Region.wanted o (yielded ops a.tmps) = true) (ho : o.op = .load t x) (hx : a.eval x = .pointer (some ⟨g,0,none⟩))
    [ty : Ty P t true n zv z] [Pull S g (slc 1 (one vv) l cap tb) F] (hn : l.length = n)
    (k : wpList P ops Q rest (a.put o.dst (.agg (l.map vv).toArray)) w) : wpList P ops Q (o::rest) a w := by
  refine wp_value hw ?_ k
  have h1 : (loadVar t ⟨g,0,none⟩).run P w = .ok (.agg (l.map vv).toArray) w := run_loadN (by simpa using hn) (fun d u hu => by
    rw [List.getElem?_map] at hu
    obtain ⟨y,hy,rfl⟩ := Option.map_eq_some_iff.1 hu
    have := hS.slcCell (g := g) (n := 1) (f := one vv) (l := l) (cap := cap) (t := tb) (i := d) (j := 0) hy (by omega)
    rw [Nat.mul_one,Nat.add_zero] at this
    rw [Nat.zero_add,this]
    rfl)
  simp [execOp,ho,hx,Instr.loadAt,Instr.sureAddr,h1]
/-- A slice is cut to its first m elements. -/
theorem Sat.slcCut {cap : Nat} (h : Sat w0 ((g,slc n f l cap t)::F) w) (m : Nat) (hm : m ≤ l.length) : Sat w0 ((g,slc n f (l.take m) cap t)::F) w := by
  refine h.turn fun _ ⟨cur,h1,h2,h3,h4,h5,h6⟩ => ⟨cur,h1,h2,by rw [List.length_take];omega,h4,?_,fun x hx => h6 x (List.mem_of_mem_take hx)⟩
  have hlen : (l.take m).length = m := by rw [List.length_take];omega
  have hsub : m * n ≤ l.length * n := Nat.mul_le_mul_right n hm
  have e1 : cur.toList.take (m * n) = (l.flatMap f).take (m * n) := by
    rw [← h5,List.take_take,Nat.min_eq_left hsub]
  rw [hlen,e1]
  have h7 : l.flatMap f = (l.take m).flatMap f ++ (l.drop m).flatMap f := by rw [← List.flatMap_append,List.take_append_drop]
  rw [h7]
  exact List.take_left' (by rw [flatMap_length fun x hx => h6 x (List.mem_of_mem_take hx),hlen])
end
end Go.Proofs.YtdkimdobcacpfaaDoor.Sl
namespace Go.Proofs.YtdkimdobcacpfaaDoor.Sl
open Go Go.RowKit

section
variable {P : Program} {ops : Array Oper} {o : Oper} {a : Act} {Q : Exit → Act → World → Prop} {w0 w : World} {S F : List Chunk} {I : World → Prop}
variable {b off n i fuel : Nat} {c z : Array Value} {zv v : Value} {t tb e : TypeId} {agg : Bool} {x y : Operand} {D : Array Bool}

/-- Number i is taken first. -/
theorem drop_get {rest : List Oper} (h : ops.toList.drop i = o::rest) : ops[i]? = some o := by
  have := congrArg (fun l => l[0]?) h
  simpa using this
theorem takeIf {rest : List Oper} (hi0 : ops.toList.drop i = o::rest) (hs : (Region.noSelect ops && Region.free .any ops D i && (Region.ready .any ops D).contains i) = true)
    (hQ : ∀ c a w,Q (.panic c) (a.put o.dst v) w → Q (.panic c) a w) (hy : YieldsIf P ops I o v a) (hI : I w)
    (h : wpAnyH P .any ops Q I fuel (D.setIfInBounds i true) (a.put o.dst v) w) : wpAnyH P .any ops Q I (fuel + 1) D a w := by
  have hi := drop_get hi0
  simp only [Bool.and_eq_true] at hs
  exact wpAnyH_take hi hs.1.1 hs.1.2 hs.2 hQ hy hI h

theorem yMove (hw : Region.wanted o (yielded ops a.tmps) = true) (ho : o.op = .move x) (hx : a.eval x = v) : YieldsIf P ops I o v a :=
  .inl ⟨hw,fun w _ => by simp [execOp,ho,hx]⟩
theorem yNil {ad : Addr} (hw : Region.wanted o (yielded ops a.tmps) = true) (ho : o.op = .nilCheck x) (hx : a.eval x = .pointer (some ad)) : YieldsIf P ops I o (.pointer (some ad)) a :=
  .inl ⟨hw,fun w _ => by simp [execOp,ho,hx]⟩
theorem yField (tf : TypeId) {fs : Array Field} {f : Field} {more : List Field} {j k : Nat} (hw : Region.wanted o (yielded ops a.tmps) = true) (ho : o.op = .fieldAddr t x j) (hx : a.eval x = .pointer (some ⟨b,off,none⟩))
    (hu : P.underlying t = some (.struct fs)) (hf : fs.toList.drop j = f::more) (htf : f.type = tf) [ty : Ty P tf agg n zv z] (hn : (n == 0) = false) (hk : f.offset = k) : YieldsIf P ops I o (.pointer (some ⟨b,off + k,none⟩)) a :=
  .inl ⟨hw,fun w _ => by
    have hn' : ¬ n = 0 := by simpa using hn
    subst htf
    have hf : fs[j]? = some f := by
      have := congrArg (fun l => l[0]?) hf
      simpa using this
    have hadd : (⟨b,off,none⟩ : Addr).add k = ⟨b,off + k,none⟩ := by unfold Addr.add;split <;> simp_all
    simp [execOp,ho,hx,Instr.fieldAt,run_underlying hu,hf,Instr.sureAddr,fieldPlace,ty.size,hn',hk,hadd]⟩
theorem yLoad1 (hI : ∀ w,I w → Sat w0 S w) (hw : Region.wanted o (yielded ops a.tmps) = true) (ho : o.op = .load t x) (hx : a.eval x = .pointer (some ⟨b,off,none⟩))
    [ty : Ty P t false n zv z] [Pull S b (cells c tb) F] (hc : c[off]? = some v) : YieldsIf P ops I o v a :=
  .inl ⟨hw,fun w h => by
    have hS := hI w h
    have h1 : (loadVar t ⟨b,off,none⟩).run P w = .ok v w := run_load1 (by rw [hS.cell (b := b) (c := c) (t := tb)];exact hc)
    simp [execOp,ho,hx,Instr.loadAt,Instr.sureAddr,h1]⟩
theorem yLoadPart (hI : ∀ w,I w → Sat w0 S w) (hw : Region.wanted o (yielded ops a.tmps) = true) (ho : o.op = .load t x) (hx : a.eval x = .pointer (some ⟨b,off,none⟩))
    [ty : Ty P t true n zv z] [Pull S b (cells c tb) F] {l : List Value} (hn : l.length = n) (hl : (c.toList.drop off).take n = l) : YieldsIf P ops I o (.agg l.toArray) a :=
  .inl ⟨hw,fun w h => by
    have hS := hI w h
    have h1 : (loadVar t ⟨b,off,none⟩).run P w = .ok (.agg l.toArray) w := run_loadN hn (fun j v hv => by
      rw [hS.cell (b := b) (c := c) (t := tb)]
      rw [← hl,List.getElem?_take] at hv
      split at hv
      · rw [List.getElem?_drop] at hv;simpa using hv
      · cases hv)
    simp [execOp,ho,hx,Instr.loadAt,Instr.sureAddr,h1]⟩

theorem Sat.freshM {m : Nat} (h : Sat w0 S w) (hm : m = w.heap.size) (c : Array Value) (t : TypeId) : Sat w0 ((m,cells c t)::S) (w.alloc (.cells c t)) := by
  subst hm
  exact h.freshCells c t
/-- Whichever may come up: each by its own run. -/
theorem opValue {rest : List Oper} {K : Act → World → Prop} {w' : World} (hi0 : ops.toList.drop i = o::rest) (hw : Region.wanted o (yielded ops a.tmps) = true) (hrun : (execOp a.eval o).run P w = .ok (.value v) w') (k : K (a.put o.dst v) w') : wpOp P ops Q i K a w := by
  have hi := drop_get hi0
  unfold Go.wpOp
  simp only [hi,hw,if_true,Oper.wp,hrun,Oper.upon]
  exact .inl k
theorem opSkip {rest : List Oper} {K : Act → World → Prop} {w' : World} (hi0 : ops.toList.drop i = o::rest) (hw : Region.wanted o (yielded ops a.tmps) = true) (hrun : (execOp a.eval o).run P w = .ok .skip w') (k : K (a.put o.dst undef) w') : wpOp P ops Q i K a w := by
  have hi := drop_get hi0
  unfold Go.wpOp
  simp only [hi,hw,if_true,Oper.wp,hrun,Oper.upon]
  exact .inl k
theorem opAlloc {rest : List Oper} {K : Act → World → Prop} (hi0 : ops.toList.drop i = o::rest) (hw : Region.wanted o (yielded ops a.tmps) = true) (ho : o.op = .alloc t) [ty : Ty P t agg n zv z]
    (k : ∀ m,m = w.heap.size → K (a.put o.dst (.pointer (some ⟨m,0,none⟩))) (w.alloc (.cells z t))) : wpOp P ops Q i K a w :=
  opValue hi0 hw (by simp [execOp,ho,Instr.alloc,ty.zero,newVar,newRow,ty.cells]) (k _ rfl)
theorem opBuild0 {rest : List Oper} {K : Act → World → Prop} (hi0 : ops.toList.drop i = o::rest) (hw : Region.wanted o (yielded ops a.tmps) = true) (ho : o.op = .buildSlice t 0 #[]) [st : SliceTy P t e] [ty : Ty P e agg n zv z]
    (k : ∀ m,m = w.heap.size → K (a.put o.dst (.slice (some ⟨m,0,none⟩) 0 0)) (w.alloc (.cells #[] e))) : wpOp P ops Q i K a w :=
  opValue hi0 hw (by
    have hr0 : Array.range 0 = #[] := Array.ext' (by simp)
    simp [execOp,ho,Instr.buildSlice,run_underlying st.is,ty.size,Instr.fill,newRow,hr0]) (k _ rfl)
theorem opAppend {rest : List Oper} {K : Act → World → Prop} {v' sv : Value} {w' : World} (hi0 : ops.toList.drop i = o::rest) (hw : Region.wanted o (yielded ops a.tmps) = true) (ho : o.op = .call { callee := .builtin .append,args := #[x,y],argTypes := #[t,t] }) (hx : a.eval x = v) (hy : a.eval y = sv)
    (hrun : (Builtin.append_ #[t,t] o.type #[v,sv]).run P w = .ok v' w') (k : K (a.put o.dst v') w') : wpOp P ops Q i K a w :=
  opValue hi0 hw (by simp [execOp,ho,resolve,invoke,builtin,hx,hy,hrun]) k
theorem opStoreAll {rest : List Oper} {K : Act → World → Prop} {cs : Array Value} (hS : Sat w0 S w) (hi0 : ops.toList.drop i = o::rest) (hw : Region.wanted o (yielded ops a.tmps) = true) (ho : o.op = .store t x y) (hx : a.eval x = .pointer (some ⟨b,0,none⟩)) (hy : a.eval y = .agg cs)
    [ty : Ty P t agg n zv z] (hn : cs.size = n) (hv : ∀ v ∈ cs.toList,v.oneCell' = true) [p : Pull S b (cells c tb) F] (hc : c.size = n)
    (k : ∀ w',Sat w0 ((b,cells cs tb)::F) w' → K (a.put o.dst undef) w') : wpOp P ops Q i K a w := by
  have hg := hS.cellsAt (b := b) (c := c) (t := tb)
  have hst := run_storeCells_at (P := P) b 0 tb cs.toList 0 c w hg.2 (by simp;omega) hv
  simp only [Nat.add_zero,Array.length_toList,Nat.zero_add,hn] at hst
  refine opSkip hi0 hw (w' := w.setRow b (c.toList.take 0 ++ cs.toList ++ c.toList.drop n).toArray) ?_ (k _ ?_)
  · have hcs : (Value.agg cs).cells = cs := rfl
    simp [execOp,ho,hx,hy,Instr.storeAt,Instr.sureAddr,storeVar,ty.size,hcs,hn]
    simp at hst
    rw [hst]
    rfl
  · have e1 : (c.toList.take 0 ++ cs.toList ++ c.toList.drop n).toArray = cs := by
      rw [List.drop_eq_nil_of_le (by simp;omega)]
      simp
    rw [e1]
    exact hS.setRow _
/-- 'a[i]', an array that is a value. -/
theorem indexA {α : Type} {vv : α → Value} {l : List α} {rest : List Oper} {Q : Exit → Act → World → Prop} {q : IntKind} {m : Nat} (hw : Region.wanted o (yielded ops a.tmps) = true) (ho : o.op = .index t x y) (hx : a.eval x = .agg (l.map vv).toArray) (j : Nat) (hj : a.eval y = .int q (j : Int))
    (hu : P.underlying t = some (.array m e)) [ty : Ty P e false 1 zv z] {u : α} (hc : l[j]? = some u) (hm : j < m) (k : wpList P ops Q rest (a.put o.dst (vv u)) w) : wpList P ops Q (o::rest) a w := by
  refine wp_value hw (w' := w) ?_ k
  simp [execOp,ho,hx,hj,Instr.index,asIntOf,run_underlying hu,hm,ty.size,part,ty.isAgg,hc]
/-- What is asked at the end of one operation's own walk. -/
def Qk (K : Act → World → Prop) : Exit → Act → World → Prop := fun e a2 w2 => e = .normal ∧ K a2 w2
/-- An operation that comes up, by its own walk. -/
theorem wpOp_of_list {rest : List Oper} {K : Act → World → Prop} (hi0 : ops.toList.drop i = o::rest) (h : wpList P ops (Qk K) [o] a w) : wpOp P ops Q i K a w := by
  have hi := drop_get hi0
  unfold Go.wpOp
  simp only [hi]
  by_cases hw : Region.wanted o (yielded ops a.tmps) = true
  · rw [if_pos hw]
    left
    unfold wpList at h
    rw [if_pos hw] at h
    rcases h with h1 | ⟨_,a',w',h1,_⟩
    · unfold Oper.wp at h1 ⊢
      generalize (execOp a.eval o).run P w = r at h1
      cases r with
      | halt x w' => cases x <;> simp only [Oper.upon] at h1 <;> first | exact h1.elim | (obtain ⟨h2,_⟩ := h1;cases h2)
      | ok n w' =>
        cases n <;> simp only [Oper.upon] at h1 ⊢
        case value u => exact h1.2
        case skip => exact h1.2
        case enter f args =>
          refine h1.mono fun e w'' h2 => ?_
          cases e with
          | returned u => exact h2.2
          | panicked ch => obtain ⟨h3,_⟩ := h2;cases h3
          | outgrown => obtain ⟨_,_,h3,_⟩ := h2;cases h3
        case row r args => exact h1.mono fun u w'' h2 => h2.2
        case defer d => exact h1.2
        all_goals exact h1.elim
    · cases h1
  · rw [if_neg hw]
    unfold wpList at h
    rw [if_neg hw] at h
    exact h.2
theorem yLoadAll (hI : ∀ w,I w → Sat w0 S w) (hw : Region.wanted o (yielded ops a.tmps) = true) (ho : o.op = .load t x) (hx : a.eval x = .pointer (some ⟨b,0,none⟩))
    [ty : Ty P t true n zv z] [Pull S b (cells c tb) F] (hn : c.size = n) : YieldsIf P ops I o (.agg c) a :=
  .inl ⟨hw,fun w h => by
    have hS := hI w h
    have h1 := run_loadAll (P := P) hS b t hn
    simp [execOp,ho,hx,Instr.loadAt,Instr.sureAddr,h1]⟩
end
end Go.Proofs.YtdkimdobcacpfaaDoor.Sl
namespace Go.Proofs.YtdkimdobcacpfaaDoor.Sl
open Go Go.RowKit

section
variable {P : Program} {ops : Array Oper} {rest : List Oper} {o : Oper} {a : Act} {Q : Exit → Act → World → Prop} {w0 w : World} {S : List Chunk}
variable {z : Array Value} {zv u0 u1 : Value} {t e : TypeId} {agg : Bool} {x y : Operand}
/-- '[]T{a, b}'. -/
theorem buildSlice2 (hS : Sat w0 S w) (hw : Region.wanted o (yielded ops a.tmps) = true) (ho : o.op = .buildSlice t 2 #[(0,x),(1,y)]) (hx : (a.eval x).cells = #[u0]) (hy : (a.eval y).cells = #[u1])
    [st : SliceTy P t e] [ty : Ty P e agg 1 zv z]
    (k : ∀ m w',Sat w0 ((m,cells #[u0,u1] e)::S) w' → wpList P ops Q rest (a.put o.dst (.slice (some ⟨m,0,none⟩) 2 2)) w') : wpList P ops Q (o::rest) a w := by
  refine wp_value hw (w' := w.alloc (.cells #[u0,u1] e)) ?_ (k w.heap.size _ (hS.freshCells _ e))
  have hz : zv.cells = z := ty.cells
  obtain ⟨c0,hc0⟩ : ∃ c0,z = #[c0] := by
    have hzl := ty.len
    obtain ⟨l⟩ := z
    match l,hzl with
    | [c],_ => exact ⟨c,rfl⟩
  have hr : (Array.range 2).map (fun i => z[i % z.size]!) = #[c0,c0] := by
    subst hc0
    apply Array.ext'
    simp [List.range,List.range.loop]
  have hfill : Instr.fill (fun i => some (i * 1,1)) #[c0,c0] [(0,a.eval x),(1,a.eval y)] = some #[u0,u1] := by
    simp [Instr.fill,hx,hy]
  simp only [execOp,ho,Instr.buildSlice,Sem.run_bind,run_underlying st.is w,Result.andThen_ok,ty.size,Sem.run_ite]
  rw [if_neg (by omega)]
  simp only [Sem.run_pure,Result.andThen_ok,Sem.run_ite]
  rw [if_neg (by omega)]
  simp only [Sem.run_bind,ty.zero,Result.andThen_ok,Sem.run_pure,hz]
  have hfill' : Instr.fill (fun i => some (i * 1,1)) ((Array.range (2 * 1)).map (fun i => z[i % z.size]!)) (#[(0,x),(1,y)].map fun (i,x) => (i,a.eval x)).toList = some #[u0,u1] := by
    rw [show 2 * 1 = 2 from rfl,hr]
    simpa using hfill
  rw [hfill']
  simp [newRow]
/-- '[]T{a, b, c, d, e}'. -/
theorem buildSlice5 {u2 u3 u4 : Value} {x0 x1 x2 x3 x4 : Operand} (hS : Sat w0 S w) (hw : Region.wanted o (yielded ops a.tmps) = true) (ho : o.op = .buildSlice t 5 #[(0,x0),(1,x1),(2,x2),(3,x3),(4,x4)]) (h0 : (a.eval x0).cells = #[u0]) (h1 : (a.eval x1).cells = #[u1]) (h2 : (a.eval x2).cells = #[u2]) (h3 : (a.eval x3).cells = #[u3]) (h4 : (a.eval x4).cells = #[u4])
    [st : SliceTy P t e] [ty : Ty P e agg 1 zv z]
    (k : ∀ m w',Sat w0 ((m,cells #[u0,u1,u2,u3,u4] e)::S) w' → wpList P ops Q rest (a.put o.dst (.slice (some ⟨m,0,none⟩) 5 5)) w') : wpList P ops Q (o::rest) a w := by
  refine wp_value hw (w' := w.alloc (.cells #[u0,u1,u2,u3,u4] e)) ?_ (k w.heap.size _ (hS.freshCells _ e))
  have hz : zv.cells = z := ty.cells
  obtain ⟨c0,hc0⟩ : ∃ c0,z = #[c0] := by
    have hzl := ty.len
    obtain ⟨l⟩ := z
    match l,hzl with
    | [c],_ => exact ⟨c,rfl⟩
  have hr : (Array.range 5).map (fun i => z[i % z.size]!) = #[c0,c0,c0,c0,c0] := by
    subst hc0
    apply Array.ext'
    simp [List.range,List.range.loop]
  have hfill : Instr.fill (fun i => some (i * 1,1)) #[c0,c0,c0,c0,c0] [(0,a.eval x0),(1,a.eval x1),(2,a.eval x2),(3,a.eval x3),(4,a.eval x4)] = some #[u0,u1,u2,u3,u4] := by
    simp [Instr.fill,h0,h1,h2,h3,h4]
  simp only [execOp,ho,Instr.buildSlice,Sem.run_bind,run_underlying st.is w,Result.andThen_ok,ty.size,Sem.run_ite]
  rw [if_neg (by omega)]
  simp only [Sem.run_pure,Result.andThen_ok,Sem.run_ite]
  rw [if_neg (by omega)]
  simp only [Sem.run_bind,ty.zero,Result.andThen_ok,Sem.run_pure,hz]
  have hfill' : Instr.fill (fun i => some (i * 1,1)) ((Array.range (5 * 1)).map (fun i => z[i % z.size]!)) (#[(0,x0),(1,x1),(2,x2),(3,x3),(4,x4)].map fun (i,x) => (i,a.eval x)).toList = some #[u0,u1,u2,u3,u4] := by
    rw [show 5 * 1 = 5 from rfl,hr]
    simpa using hfill
  rw [hfill']
  simp [newRow]
end
end Go.Proofs.YtdkimdobcacpfaaDoor.Sl
namespace Go.Proofs.YtdkimdobcacpfaaDoor.Sl
open Go Go.RowKit

instance entBlk (S S' : List Chunk) (g o n c : Nat) (X : K) [e : Ent S ((g,X)::S')] : Ent S ((blk (.slice (some ⟨g,o,none⟩) n c),X)::S') := e
instance (priority := low) entApp (T S : List Chunk) : Ent (T ++ S) S := ⟨fun _ h => by
  obtain ⟨_,h2,_,_,l2,_,H⟩ := holds_append h
  exact holds_mono l2 H⟩
section
variable {P : Program} {ops : Array Oper} {rest : List Oper} {o : Oper} {a : Act} {Q : Exit → Act → World → Prop} {w0 w : World} {S F : List Chunk}
variable {α : Type} {n b off bt : Nat} {vv : α → Value} {gd : α → Prop} {l : List α} {e t tb : TypeId} {agg : Bool} {z : Array Value} {zv v : Value} {x y : Operand}
/-- 's[i:]', something being left. -/
theorem sliceLo {lo : Operand} {len cap i : Nat} {q : IntKind} (hw : Region.wanted o (yielded ops a.tmps) = true) (ho : o.op = .slice t x (some lo) none none) (hx : a.eval x = .slice (some ⟨b,off,none⟩) len cap) {li : Int} (hlo : a.eval lo = .int q li) (hli : li = (i : Int))
    [st : SliceTy P t e] [ty : Ty P e false 1 zv z] (hi : i < len) (hc : len ≤ cap)
    (k : wpList P ops Q rest (a.put o.dst (.slice (some ⟨b,off + i,none⟩) (len - i) (cap - i))) w) : wpList P ops Q (o::rest) a w :=
  sliceTail hw ho hx (hli ▸ hlo) (b := b) (off := off) (fun _ => rfl) (by omega) hc fun ad' h => by rw [h hi];exact k
theorem add_zero (ad : Addr) : ad.add 0 = ad := by unfold Addr.add;obtain ⟨b,off,s⟩ := ad;cases s <;> rfl
/-- An array as a slice. -/
theorem sliceArr {m : Nat} {ad : Addr} (hw : Region.wanted o (yielded ops a.tmps) = true) (ho : o.op = .slice t x none none none) (hu : P.underlying t = some (.array m e)) [ty : Ty P e agg n zv z] (hx : a.eval x = .pointer (some ad))
    (k : wpList P ops Q rest (a.put o.dst (.slice (some ad) m m)) w) : wpList P ops Q (o::rest) a w := by
  refine wp_value hw (w' := w) (v := .slice (some ad) m m) ?_ k
  simp [execOp,ho,hx,Instr.sliceAt,run_underlying hu,Instr.sureAddr,Instr.sliceBounds,Instr.sliceBound,ty.size]
  intro _
  exact add_zero ad
theorem Sat.readsArr (h : Sat w0 S w) [p : Pull S b (cells (l.map vv).toArray t) F] (hg : ∀ x ∈ l,gd x) (hm : l.length ≤ maxLen) : BSl w 1 (one vv) gd l (.slice (some ⟨b,0,none⟩) l.length l.length) := by
  have hc := h.cellsAt (b := b) (c := (l.map vv).toArray) (t := t)
  refine .inr ⟨b,0,l.length,rfl,Nat.le_refl _,hm,(Array.getElem?_eq_some_iff.1 hc.2).1,fun i x hx => ⟨hg x (List.mem_of_getElem? hx),rfl,fun j u hu => ?_⟩⟩
  have hj : j = 0 := by have := (List.getElem?_eq_some_iff.1 hu).1;simp [one] at this;omega
  subst hj
  rw [h.cell (b := b) (c := (l.map vv).toArray) (t := t)]
  simp [hx]
  simpa [one] using hu
theorem Sat.readsArrN (h : Sat w0 S w) [p : Pull S b (cells (l.map vv).toArray t) F] (m : Nat) (hl : l.length = m) (hg : ∀ x ∈ l,gd x) (hm : m ≤ maxLen) : BSl w 1 (one vv) gd l (.slice (some ⟨b,0,none⟩) m m) := by
  subst hl
  exact h.readsArr hg hm
theorem split_get {β : Type} {L : List β} {i : Nat} {x : β} (h : L[i]? = some x) : L = L.take i ++ x::L.drop (i + 1) := by
  obtain ⟨hi,rfl⟩ := List.getElem?_eq_some_iff.1 h
  simp
/-- A row of a row of rows, brought out. -/
theorem Sat.rowAt {X : List (Value × List Int)} {j i : Nat} {A : List Int} (h : Sat w0 S w) [q : Pull S j (inn X t) F] (hx : X[i]? = some (v,A)) : Sat w0 ((blk v,sl 1 by8 A t v)::(j,inn (X.take i ++ X.drop (i + 1)) t)::F) w := by
  have h1 := h.pull j (X := inn X t) (F := F)
  rw [split_get hx] at h1
  exact h1.innPull
/-- .. laid back, turned. -/
theorem Sat.rowBack {X : List (Value × List Int)} {j i : Nat} {A B : List Int} {F' : List Chunk} {gv : Nat} (h : Sat w0 S w) [p : PullSl S v gv 1 by8 B t F'] [q : Pull F' j (inn (X.take i ++ X.drop (i + 1)) t) F] (hb : gv = blk v) (hx : X[i]? = some (v,A)) : Sat w0 ((j,inn (X.set i (v,B)) t)::F) w := by
  subst hb
  have h1 : Sat w0 ((blk v,sl 1 by8 B t v)::(j,inn (X.take i ++ X.drop (i + 1)) t)::F) w := h.perm (p.perm.trans (q.perm.cons _))
  have hi : i < X.length := (List.getElem?_eq_some_iff.1 hx).1
  rw [List.set_eq_take_append_cons_drop,if_pos hi]
  exact h1.innBack
end
end Go.Proofs.YtdkimdobcacpfaaDoor.Sl
namespace Go.Proofs.YtdkimdobcacpfaaDoor.Sl
open Go Go.RowKit

section
variable {P : Program} {ops : Array Oper} {o : Oper} {a : Act} {Q : Exit → Act → World → Prop} {w0 w : World} {S F : List Chunk} {I : World → Prop}
variable {b off c0 n i fuel : Nat} {c z : Array Value} {zv v : Value} {t tb e : TypeId} {agg : Bool} {x y : Operand} {D : Array Bool}
/-- An operation that looks at no memory. -/
theorem yRun (hw : Region.wanted o (yielded ops a.tmps) = true) (h : ∀ w,(execOp a.eval o).run P w = .ok (.value v) w) : YieldsIf P ops I o v a := .inl ⟨hw,fun w _ => h w⟩
/-- A cell of an element of the call's own is read. -/
theorem yLoadS {α : Type} {f : α → List Value} {l : List α} {g cap m : Nat} (hI : ∀ w,I w → Sat w0 S w) (hw : Region.wanted o (yielded ops a.tmps) = true) (ho : o.op = .load t x) (hx : a.eval x = .pointer (some ⟨g,off,none⟩))
    [ty : Ty P t false n zv z] [Pull S g (slc m f l cap tb) F] (j k : Nat) (hoff : off = j * m + k) {y : α} (hy : l[j]? = some y) (hv : (f y)[k]? = some v) (hj : k < m) : YieldsIf P ops I o v a :=
  .inl ⟨hw,fun w h => by
    have hS := hI w h
    have h1 : (loadVar t ⟨g,off,none⟩).run P w = .ok v w := run_load1 (by rw [hoff,hS.slcCell (g := g) (n := m) (f := f) (l := l) (cap := cap) (t := tb) hy hj];exact hv)
    simp [execOp,ho,hx,Instr.loadAt,Instr.sureAddr,h1]⟩
/-- A cell of an element that stands anywhere is read. -/
theorem yLoadB {α : Type} {f : α → List Value} {gd : α → Prop} {L : List α} {m : Nat} (hI : ∀ w,I w → BAt w m f gd L b c0) (hw : Region.wanted o (yielded ops a.tmps) = true) (ho : o.op = .load t x) (hx : a.eval x = .pointer (some ⟨b,off,none⟩))
    [ty : Ty P t false n zv z] (j k : Nat) (hoff : off = c0 + j * m + k) {y : α} (hy : L[j]? = some y) (hv : (f y)[k]? = some v) : YieldsIf P ops I o v a :=
  .inl ⟨hw,fun w h => by
    have hB := hI w h
    have h1 : (loadVar t ⟨b,off,none⟩).run P w = .ok v w := run_load1 (by rw [hoff];exact (hB.2 j y hy).2.2 k v hv)
    simp [execOp,ho,hx,Instr.loadAt,Instr.sureAddr,h1]⟩
end
end Go.Proofs.YtdkimdobcacpfaaDoor.Sl
