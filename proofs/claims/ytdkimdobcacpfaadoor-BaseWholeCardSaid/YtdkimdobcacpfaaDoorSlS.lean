/-
  Great values: a struct built of parts that are no cells; an array read out of bytes. It names no program.
  A cell, a part of a block, whose value is known: so said that a wrong one is refused at once. It names no program.
  A quiet region, each operation walked without the others in sight. It names no program.
  Slices of elements of several cells: their shape, parts, opened. It names no program.
  'copy' into the head of an element; a part of a struct's bytes, read. It names no program.
-/
import Derived.Test.YtdkimdobcacpfaaDoorSlB
import Derived.Test.YtdkimdobcacpfaaDoorSlA
set_option linter.unusedSimpArgs false
set_option linter.unusedVariables false
namespace Go.Proofs.YtdkimdobcacpfaaDoor.Sl
open Go Go.RowKit

/-- The segments of a struct, some of them turned. -/
def setSegs (segs : List (List Value)) (ps : List (Nat × List Value)) : List (List Value) := ps.foldl (fun s p => s.set p.1 p.2) segs
def lens (segs : List (List Value)) : List Nat := segs.map List.length
def placesOf : Nat → List Nat → List (Nat × Nat)
  | _,[] => []
  | o,n::r => (o,n)::placesOf (o + n) r
theorem placesOf_get : ∀ (l : List Nat) (o i n : Nat),l[i]? = some n → (placesOf o l)[i]? = some (o + (l.take i).sum,n)
  | [],_,_,_,h => by simp at h
  | a::l,o,0,n,h => by
    have h1 : a = n := by simpa using h
    subst h1
    simp [placesOf]
  | a::l,o,i + 1,n,h => by
    have h1 : l[i]? = some n := by simpa using h
    have := placesOf_get l (o + a) i n h1
    simp only [placesOf,List.getElem?_cons_succ,List.take_succ_cons,List.sum_cons]
    rw [this,Nat.add_assoc]
theorem flatten_set : ∀ {segs : List (List Value)} {i : Nat} {s v : List Value},segs[i]? = some s → v.length = s.length → (segs.set i v).flatten = segs.flatten.take (((lens segs).take i).sum) ++ v ++ segs.flatten.drop (((lens segs).take i).sum + v.length)
  | [],_,_,_,h,_ => by simp at h
  | a::r,0,s,v,h,hl => by
    have h1 : a = s := by simpa using h
    subst h1
    simp only [List.set_cons_zero,List.flatten_cons,List.take_zero,List.sum_nil,Nat.zero_add,List.nil_append]
    rw [hl,List.drop_left]
  | a::r,i + 1,s,v,h,hl => by
    have h1 : r[i]? = some s := by simpa using h
    have ih := flatten_set h1 hl
    simp only [List.set_cons_succ,List.flatten_cons,lens,List.map_cons,List.take_succ_cons,List.sum_cons]
    rw [ih]
    unfold lens
    rw [Nat.add_assoc,List.take_length_add_append,List.drop_length_add_append]
    simp
theorem lens_set {segs : List (List Value)} {i : Nat} {s v : List Value} (h : segs[i]? = some s) (hl : v.length = s.length) : lens (segs.set i v) = lens segs := by
  unfold lens
  rw [List.map_set]
  apply List.ext_getElem?
  intro j
  rw [List.getElem?_set]
  split
  · rename_i e
    subst e
    have hlt := (List.getElem?_eq_some_iff.1 h).1
    simp [hlt,hl,h]
    have := (List.getElem?_eq_some_iff.1 h).2
    rw [this]
  · rfl
theorem lens_flat : ∀ segs : List (List Value),segs.flatten.length = (lens segs).sum
  | [] => rfl
  | a::r => by simp only [List.flatten_cons,List.length_append,lens,List.map_cons,List.sum_cons];rw [lens_flat r];rfl
theorem sum_take_le : ∀ (l : List Nat) (i n : Nat),l[i]? = some n → (l.take i).sum + n ≤ l.sum
  | [],_,_,h => by simp at h
  | a::l,0,n,h => by
    have h1 : a = n := by simpa using h
    subst h1
    simp
  | a::l,i + 1,n,h => by
    have := sum_take_le l i n (by simpa using h)
    simp only [List.take_succ_cons,List.sum_cons]
    omega
theorem fill_segs {place : Nat → Option (Nat × Nat)} {ls : List Nat} (hp : ∀ i n,ls[i]? = some n → place i = some ((ls.take i).sum,n)) : ∀ (ps : List (Nat × Value)) (segs : List (List Value)),lens segs = ls → (∀ p ∈ ps,ls[p.1]? = some p.2.cells.size) →
    Instr.fill place segs.flatten.toArray ps = some (setSegs segs (ps.map fun p => (p.1,p.2.cells.toList))).flatten.toArray
  | [],segs,_,_ => rfl
  | (i,v)::ps,segs,hl,h => by
    have hi : ls[i]? = some v.cells.size := h (i,v) (by simp)
    obtain ⟨s,hs,hsl⟩ : ∃ s,segs[i]? = some s ∧ s.length = v.cells.size := by
      rw [← hl,lens,List.getElem?_map] at hi
      obtain ⟨s,h1,h2⟩ := Option.map_eq_some_iff.1 hi
      exact ⟨s,h1,h2⟩
    have hvl : v.cells.toList.length = s.length := by simp [hsl]
    have hle := sum_take_le ls i _ hi
    have hsum : segs.flatten.length = ls.sum := by rw [lens_flat,hl]
    have hfl := flatten_set hs hvl
    rw [hl] at hfl
    unfold Instr.fill
    rw [hp i _ hi]
    simp only
    rw [if_neg (by simp;rw [← List.length_flatten,hsum];omega)]
    have hfold : (v.cells.zipIdx.foldl (fun cs (p : Value × Nat) => cs.setIfInBounds ((ls.take i).sum + p.2) p.1) segs.flatten.toArray) = (segs.set i v.cells.toList).flatten.toArray := by
      rw [← Array.foldl_toList,Array.toList_zipIdx,foldl_put ((ls.take i).sum) v.cells.toList 0 _ (by simp;rw [← List.length_flatten,hsum];omega),hfl]
      simp
    have ih := fill_segs hp ps (segs.set i v.cells.toList) ((lens_set hs hvl).trans hl) fun p hp2 => h p (by simp [hp2])
    exact (congrArg (fun z => Instr.fill place z ps) hfold).trans ih

section
variable {P : Program} {ops : Array Oper} {rest : List Oper} {o : Oper} {a : Act} {Q : Exit → Act → World → Prop} {w0 w : World} {S F : List Chunk} {I : World → Prop}
variable {b off n : Nat} {z : Array Value} {zv v : Value} {t tb : TypeId} {x : Operand} {agg : Bool}
/-- A struct type, its zero in segments. -/
class StrT (P : Program) (t : TypeId) (segs : outParam (List (List Value))) : Prop where
  run : ∀ (w : World),∃ (fs : Array Field) (zv : Value),P.underlying t = some (.struct fs) ∧ (zeroValue t).run P w = .ok zv w ∧ zv.cells = segs.flatten.toArray ∧
    (fs.mapM (fun f => do pure (f.offset,← sizeOf f.type) : Field → Sem (Nat × Nat))).run P w = .ok (placesOf 0 (lens segs)).toArray w
theorem StrT.mk' {fs : Array Field} {segs : List (List Value)} [ty : Ty P t true n zv z] (hu : P.underlying t = some (.struct fs)) (hz : z = segs.flatten.toArray) {pl : Array (Nat × Nat)}
    (hm : ∀ w,(fs.mapM (fun f => do pure (f.offset,← sizeOf f.type) : Field → Sem (Nat × Nat))).run P w = .ok pl w) (hp : (placesOf 0 (lens segs)).toArray = pl) : StrT P t segs := by
  subst hp
  exact ⟨fun w => ⟨fs,zv,hu,ty.zero w,ty.cells.trans hz,hm w⟩⟩
theorem run_buildS {segs : List (List Value)} [st : StrT P t segs] (ps : Array (Nat × Value)) (h : ∀ p ∈ ps.toList,(lens segs)[p.1]? = some p.2.cells.size) (w : World) :
    (Instr.build t ps).run P w = .ok (.agg (setSegs segs (ps.toList.map fun p => (p.1,p.2.cells.toList))).flatten.toArray) w := by
  obtain ⟨fs,zv,hu,hz,hc,hm⟩ := st.run w
  have hf := fill_segs (place := fun i => (placesOf 0 (lens segs)).toArray[i]?) (ls := lens segs) (fun i n hi => by
    have := placesOf_get (lens segs) 0 i n hi
    rw [Nat.zero_add] at this
    simpa using this) ps.toList segs rfl h
  unfold Instr.build
  simp only [Sem.run_bind,hz,Result.andThen_ok,run_underlying hu w,hm,hc]
  have hf' : Instr.fill (fun x => (placesOf 0 (lens segs)).toArray[x]?) segs.flatten.toArray ps.toList = some (setSegs segs (ps.toList.map fun p => (p.1,p.2.cells.toList))).flatten.toArray := hf
  rw [hf']
  simp
/-- A struct is built of parts. -/
theorem buildS {parts : Array (Nat × Operand)} {segs : List (List Value)} (hw : Region.wanted o (yielded ops a.tmps) = true) (ho : o.op = .build t parts) [st : StrT P t segs] (vs : List (Nat × Value)) (hv : parts.toList.map (fun p => (p.1,a.eval p.2)) = vs)
    (h : ∀ p ∈ vs,(lens segs)[p.1]? = some p.2.cells.size) {out : List Value} (hout : (setSegs segs (vs.map fun p => (p.1,p.2.cells.toList))).flatten = out)
    (k : wpList P ops Q rest (a.put o.dst (.agg out.toArray)) w) : wpList P ops Q (o::rest) a w := by
  refine wp_value hw ?_ k
  have h1 := run_buildS (P := P) (t := t) (parts.map fun p => (p.1,a.eval p.2)) (by rw [Array.toList_map,hv];exact h) w
  rw [Array.toList_map,hv,hout] at h1
  simp only [execOp,ho,h1,Sem.run_bind,Result.andThen_ok,Sem.run_pure]
theorem yBuildS {parts : Array (Nat × Operand)} {segs : List (List Value)} (hw : Region.wanted o (yielded ops a.tmps) = true) (ho : o.op = .build t parts) [st : StrT P t segs] (vs : List (Nat × Value)) (hv : parts.toList.map (fun p => (p.1,a.eval p.2)) = vs)
    (h : ∀ p ∈ vs,(lens segs)[p.1]? = some p.2.cells.size) {out : List Value} (hout : (setSegs segs (vs.map fun p => (p.1,p.2.cells.toList))).flatten = out) : YieldsIf P ops I o (.agg out.toArray) a :=
  .inl ⟨hw,fun w _ => by
    have h1 := run_buildS (P := P) (t := t) (parts.map fun p => (p.1,a.eval p.2)) (by rw [Array.toList_map,hv];exact h) w
    rw [Array.toList_map,hv,hout] at h1
    simp only [execOp,ho,h1,Sem.run_bind,Result.andThen_ok,Sem.run_pure]⟩
/-- A new variable, its zero in a form of one's own. -/
theorem allocS (hS : Sat w0 S w) (hw : Region.wanted o (yielded ops a.tmps) = true) (ho : o.op = .alloc t) [ty : Ty P t agg n zv z] (c : Array Value) (hz : z = c)
    (k : ∀ m w',Sat w0 ((m,cells c t)::S) w' → wpList P ops Q rest (a.put o.dst (.pointer (some ⟨m,0,none⟩))) w') : wpList P ops Q (o::rest) a w := by
  subst hz
  exact alloc hS hw ho k
/-- An array is read out of bytes that stand somewhere. -/
theorem run_loadBA {A : List Int} {q len cap : Nat} {ad : Option Addr} [ty : Ty P t true q zv z] (hR : RB w A (.slice ad len cap)) (b p i : Nat) (had : q = 0 ∨ ad = some ⟨b,p,none⟩) (hi : i + q ≤ A.length) (hl : A.length = len) : (loadVar t ⟨b,p + i,none⟩).run P w = .ok (.agg (((A.drop i).take q).map (Value.int .u8)).toArray) w := by
  have hlen : (((A.drop i).take q).map (Value.int .u8)).length = q := by rw [List.length_map,List.length_take,List.length_drop];omega
  refine run_loadN hlen fun d u hu => ?_
  have hd : d < q := by have := (List.getElem?_eq_some_iff.1 hu).1;omega
  rcases had with h0 | had
  · omega
  rcases hR with ⟨h1,h2⟩ | ⟨b',off',cap',h1,h2,h3,hB⟩
  · rw [h1] at hi;simp at hi;omega
  · rw [had] at h1
    injection h1 with h4 h5 h6
    injection h4 with h7
    injection h7 with h8 h9
    subst h8;subst h9
    rw [List.getElem?_map,List.getElem?_take,if_pos hd,List.getElem?_drop] at hu
    obtain ⟨y,hy,rfl⟩ := Option.map_eq_some_iff.1 hu
    have := (hB.2 (i + d) y hy).2.2 0 (Value.int .u8 y) rfl
    simpa [Nat.add_assoc] using this
end
end Go.Proofs.YtdkimdobcacpfaaDoor.Sl
namespace Go.Proofs.YtdkimdobcacpfaaDoor.Sl
open Go Go.RowKit

structure CellIs (c : Array Value) (i : Nat) (v : Value) : Prop where
  at' : c[i]? = some v
structure PartIs (c : Array Value) (i n : Nat) (l : List Value) : Prop where
  len : l.length = n
  at' : (c.toList.drop i).take n = l
section
variable {P : Program} {ops : Array Oper} {rest : List Oper} {o : Oper} {a : Act} {Q : Exit → Act → World → Prop} {w0 w : World} {S F : List Chunk} {I : World → Prop}
variable {b off n : Nat} {c : Array Value} {z : Array Value} {zv v : Value} {t tb : TypeId} {x : Operand} {l : List Value}
theorem loadC (hS : Sat w0 S w) (hw : Region.wanted o (yielded ops a.tmps) = true) (ho : o.op = .load t x) (hx : a.eval x = .pointer (some ⟨b,off,none⟩))
    [ty : Ty P t false n zv z] [Pull S b (cells c tb) F] (hc : CellIs c off v)
    (k : wpList P ops Q rest (a.put o.dst v) w) : wpList P ops Q (o::rest) a w := load1 hS hw ho hx (b := b) (c := c) (tb := tb) hc.at' k
theorem loadP (hS : Sat w0 S w) (hw : Region.wanted o (yielded ops a.tmps) = true) (ho : o.op = .load t x) (hx : a.eval x = .pointer (some ⟨b,off,none⟩))
    [ty : Ty P t true n zv z] [Pull S b (cells c tb) F] (hc : PartIs c off n l)
    (k : wpList P ops Q rest (a.put o.dst (.agg l.toArray)) w) : wpList P ops Q (o::rest) a w := loadPart hS hw ho hx (b := b) (c := c) (tb := tb) hc.len hc.at' k
theorem yLoadC (hI : ∀ w,I w → Sat w0 S w) (hw : Region.wanted o (yielded ops a.tmps) = true) (ho : o.op = .load t x) (hx : a.eval x = .pointer (some ⟨b,off,none⟩))
    [ty : Ty P t false n zv z] [Pull S b (cells c tb) F] (hc : CellIs c off v) : YieldsIf P ops I o v a := yLoad1 hI hw ho hx (b := b) (c := c) (tb := tb) hc.at'
theorem yLoadP (hI : ∀ w,I w → Sat w0 S w) (hw : Region.wanted o (yielded ops a.tmps) = true) (ho : o.op = .load t x) (hx : a.eval x = .pointer (some ⟨b,off,none⟩))
    [ty : Ty P t true n zv z] [Pull S b (cells c tb) F] (hc : PartIs c off n l) : YieldsIf P ops I o (.agg l.toArray) a := yLoadPart hI hw ho hx (b := b) (c := c) (tb := tb) hc.len hc.at'
/-- A whole element of several cells is read. -/
theorem yLoadSN {α : Type} {f : α → List Value} {L : List α} {g m cap : Nat} (hI : ∀ w,I w → Sat w0 S w) (hw : Region.wanted o (yielded ops a.tmps) = true) (ho : o.op = .load t x) (hx : a.eval x = .pointer (some ⟨g,off,none⟩))
    [ty : Ty P t true m zv z] [Pull S g (slc m f L cap tb) F] (i : Nat) (hoff : off = i * m) {y : α} (hy : L[i]? = some y) {vs : List Value} (hv : f y = vs) : YieldsIf P ops I o (.agg vs.toArray) a :=
  .inl ⟨hw,fun w h => by
    have hS := hI w h
    have hf := (hS.slcFacts (g := g) (n := m) (f := f) (l := L) (cap := cap) (t := tb)).2.2.1 y (List.mem_of_getElem? hy)
    have h1 : (loadVar t ⟨g,off,none⟩).run P w = .ok (.agg vs.toArray) w := run_loadN (by rw [← hv];exact hf) (fun d u hu => by
      have hd : d < m := by have := (List.getElem?_eq_some_iff.1 hu).1;rw [← hv,hf] at this;exact this
      rw [← hv] at hu
      have := hS.slcCell (g := g) (n := m) (f := f) (l := L) (cap := cap) (t := tb) (i := i) (j := d) hy hd
      rw [hoff,this,hu])
    simp [execOp,ho,hx,Instr.loadAt,Instr.sureAddr,h1]⟩
end
end Go.Proofs.YtdkimdobcacpfaaDoor.Sl
namespace Go.Proofs.YtdkimdobcacpfaaDoor.Sl
open Go Go.RowKit

section
variable {P : Program} {ops : Array Oper} {C : World → Prop} {G : Act → Prop} {o : Oper} {rest : List Oper} {a : Act} {v : Value}
/-- An operation that its guard leaves out. -/
theorem quiet_skip (hw : Region.wanted o (yielded ops a.tmps) = false) (h2 : quietW P ops C G rest (a.put o.dst undef)) : quietW P ops C G (o::rest) a :=
  ⟨undef,fun w hc => by
    unfold wpList
    rw [if_neg (by rw [hw];simp)]
    exact ⟨rfl,rfl,hc⟩,h2⟩
/-- A call of a function, by its contract alone. -/
theorem quiet_go {d : Option Tmp} {f : FuncId} {l : List Operand} {lv : List Value} {ats : Array TypeId} {ty : TypeId} {pos : String} {af : Array Edge} {gu : Option (Nat × Bool)} (hw : Region.wanted ⟨d,.call { callee := .value (.func f),args := l.toArray,argTypes := ats },ty,pos,af,gu⟩ (yielded ops a.tmps) = true)
    (eg : ∀ args w,(callFunc f args).run P w = .ok (.enter f args) w) (hv : l.map a.eval = lv)
    (h1 : ∀ w,C w → Calls P f lv.toArray w fun e w' => e = .returned v ∧ C w')
    (h2 : quietW P ops C G rest (a.put d v)) : quietW P ops C G (⟨d,.call { callee := .value (.func f),args := l.toArray,argTypes := ats },ty,pos,af,gu⟩::rest) a :=
  ⟨v,fun w hc => by
    unfold wpList
    rw [if_pos hw]
    left
    unfold Oper.wp
    have e : (execOp a.eval ⟨d,.call { callee := .value (.func f),args := l.toArray,argTypes := ats },ty,pos,af,gu⟩).run P w = .ok (.enter f lv.toArray) w := by
      rw [execOp_call_go,eg]
      simp [hv]
    rw [e,Oper.upon_enter]
    refine (h1 w hc).mono ?_
    rintro e w' ⟨rfl,hc'⟩
    exact ⟨rfl,rfl,hc'⟩,h2⟩
/-- An operation whose value is known. -/
theorem quiet_y (h : YieldsIf P ops C o v a) (h2 : quietW P ops C G rest (a.put o.dst v)) : quietW P ops C G (o::rest) a := by
  rcases h with ⟨hw,h⟩ | ⟨hw,rfl⟩
  · exact ⟨v,fun w hc => wp_value hw (h w hc) ⟨rfl,rfl,hc⟩,h2⟩
  · exact quiet_skip hw h2
end
end Go.Proofs.YtdkimdobcacpfaaDoor.Sl
namespace Go.Proofs.YtdkimdobcacpfaaDoor.Sl
open Go Go.RowKit

theorem shapeN {α : Type} {w0 w : World} {S : List Chunk} {v : Value} {b m n : Nat} {f : α → List Value} {l : List α} {t : TypeId} (h : Sat w0 ((b,sl n f l t v)::S) w) (hl : l.length = m) : ∃ q c,v = .slice q m c := by
  subst hl
  rcases h.slCases with ⟨h1,h2,_⟩ | ⟨c,h1,_⟩
  · exact ⟨_,_,by rw [h1,h2];rfl⟩
  · exact ⟨_,_,h1⟩
theorem drop_at {α : Type} {L : List α} {k : Nat} {x : α} (h : L[k]? = some x) : L.drop k = x::L.drop (k + 1) := by
  obtain ⟨hk,rfl⟩ := List.getElem?_eq_some_iff.1 h
  exact List.drop_eq_getElem_cons hk
/-- 's[k:]' of elements of several cells. -/
def loVn (m : Nat) (q : Option Addr) (n c k : Nat) : Value := .slice (if c = k then q else q.map (·.add (k * m))) (n - k) (c - k)
section
variable {α : Type} {w : World} {m : Nat} {f : α → List Value} {gd : α → Prop} {L : List α} {q : Option Addr} {n c k : Nat}
theorem bslHiN (h : BSl w m f gd L (.slice q n c)) (hk : k ≤ n) : BSl w m f gd (L.take k) (.slice q k c) := by
  rcases h with ⟨rfl,h | ⟨ad,cap,h1,h2⟩⟩ | ⟨b,off,cap,h0,h1,h2,h⟩
  · cases h
    obtain rfl : k = 0 := by omega
    exact .inl ⟨rfl,.inl rfl⟩
  · cases h2
    obtain rfl : k = 0 := by omega
    exact .inl ⟨rfl,.inr ⟨_,_,h1,rfl⟩⟩
  · cases h0
    have e : (L.take k).length = k := by simp;omega
    refine .inr ⟨b,off,c,by rw [e],by rw [e];omega,h2,?_⟩
    have := h.part 0 k
    simpa using this
end
section
variable {P : Program} {ops : Array Oper} {rest : List Oper} {o : Oper} {a : Act} {Q : Exit → Act → World → Prop} {w : World}
variable {n len cap k : Nat} {z : Array Value} {zv : Value} {t e : TypeId} {x lo : Operand} {q : Option Addr} {qk : IntKind} {li : Int} {agg : Bool}
theorem sliceHiV (hw : Region.wanted o (yielded ops a.tmps) = true) (ho : o.op = .slice t x none (some lo) none) (hx : a.eval x = .slice q len cap) (hlo : a.eval lo = .int qk li) [st : SliceTy P t e] [ty : Ty P e agg n zv z] (hli : li = (k : Int)) (hk : k ≤ cap)
    (kk : wpList P ops Q rest (a.put o.dst (.slice q k cap)) w) : wpList P ops Q (o::rest) a w := by
  subst hli
  refine wp_value hw (w' := w) (v := .slice q k cap) ?_ kk
  have h2 : (k : Int) ≤ cap := by omega
  simp [execOp,ho,hx,hlo,Instr.sliceAt,run_underlying st.is,Instr.slice,Instr.sliceBounds,Instr.sliceBound,asIntOf,ty.size,hk]
  intro _
  cases q with
  | none => rfl
  | some ad => simp [add_zero]
theorem sliceLoV (hw : Region.wanted o (yielded ops a.tmps) = true) (ho : o.op = .slice t x (some lo) none none) (hx : a.eval x = .slice q len cap) (hlo : a.eval lo = .int qk li) [st : SliceTy P t e] [ty : Ty P e agg n zv z] (hli : li = (k : Int)) (hk : k ≤ len)
    (kk : wpList P ops Q rest (a.put o.dst (loVn n q len cap k)) w) : wpList P ops Q (o::rest) a w := by
  subst hli
  refine wp_value hw (w' := w) (v := loVn n q len cap k) ?_ kk
  have h2 : (k : Int) ≤ len := by omega
  simp [execOp,ho,hx,hlo,Instr.sliceAt,run_underlying st.is,Instr.slice,Instr.sliceBounds,Instr.sliceBound,asIntOf,ty.size,hk,loVn]
end
theorem openS {α : Type} {w0 w : World} {F : List Chunk} {b m n cap : Nat} {f : α → List Value} {l : List α} {t : TypeId} {q : Option Addr} (h : Sat w0 ((b,sl n f l t (.slice q m cap))::F) w) (hl : l.length = m) (h0 : 0 < m) : ∃ g,q = some ⟨g,0,none⟩ ∧ m ≤ cap ∧ Sat w0 ((g,slc n f l cap t)::F) w := by
  subst hl
  rcases h.slCases with ⟨_,h2,_⟩ | ⟨c,h1,h2⟩
  · rw [h2] at h0
    cases h0
  · have h3 := (h2.slcFacts (g := b) (n := n) (f := f) (l := l) (cap := c) (t := t)).1
    cases h1
    exact ⟨b,rfl,h3,h2⟩
end Go.Proofs.YtdkimdobcacpfaaDoor.Sl
namespace Go.Proofs.YtdkimdobcacpfaaDoor.Sl
open Go Go.RowKit

section
variable {P : Program} {ops : Array Oper} {rest : List Oper} {o : Oper} {a : Act} {Q : Exit → Act → World → Prop} {w0 w : World} {S F : List Chunk}
variable {α : Type} {g n cap bt : Nat} {z : Array Value} {zv : Value} {t tb e : TypeId} {x y : Operand} {gd : α → Prop}
theorem elemCells {f : α → List Value} {L : List α} {cur : List Value} {i : Nat} {y0 : α} (hy : L[i]? = some y0) (hc : cur.take (L.length * n) = L.flatMap f) (hl : ∀ x ∈ L,(f x).length = n) : (cur.drop (i * n)).take n = f y0 := by
  have hi := (List.getElem?_eq_some_iff.1 hy).1
  have hfit : i * n + n ≤ L.length * n := by
    have := Nat.mul_le_mul_right n hi
    rw [Nat.succ_mul] at this;exact this
  have h1 : (cur.drop (i * n)).take n = ((L.flatMap f).drop (i * n)).take n := by
    rw [← hc,List.drop_take,List.take_take,Nat.min_eq_left (by omega)]
  rw [h1]
  have hly := hl y0 (List.mem_of_getElem? hy)
  apply List.ext_getElem?
  intro j
  by_cases hj : j < n
  · rw [List.getElem?_take,if_pos hj,List.getElem?_drop,flatMap_get hl hy hj]
  · rw [List.getElem?_eq_none (by rw [List.length_take];omega),List.getElem?_eq_none (by omega)]
theorem copyE {vv : α → Value} {L : List (List α)} {dLen dCap : Nat} {sT : TypeId} (hS : Sat w0 S w) (hw : Region.wanted o (yielded ops a.tmps) = true) (ho : o.op = .call { callee := .builtin .copy,args := #[x,y],argTypes := #[t,sT] }) (i : Nat) (hx : a.eval x = .slice (some ⟨g,i * n,none⟩) dLen dCap) {sv : Value} (hy : a.eval y = sv)
    [st : SliceTy P t e] [ty : Ty P e false 1 zv z] [by' : Bytes P e bt] [p : Pull S g (slc n (fun r => r.map vv) L cap tb) F] (ys : List α) (hsrc : BSl w 1 (one vv) gd ys sv) (h1 : ∀ x ∈ ys,(vv x).oneCell' = true) (m : Nat) (hm : m = min ys.length dLen) (hmn : m ≤ n) {old : List α} (hold : L[i]? = some old)
    (k : ∀ w',Sat w0 ((g,slc n (fun r => r.map vv) (L.set i (ys.take m ++ old.drop m)) cap tb)::F) w' → wpList P ops Q rest (a.put o.dst (goInt m)) w') : wpList P ops Q (o::rest) a w := by
  obtain ⟨i0,hi,hz,hsz,hby⟩ := ty.info by'
  have hsz1 : (P.info? e).map (·.size) = some 1 := by rw [hi];simp [hsz]
  obtain ⟨sa,scap,rfl,hl,hat⟩ := hsrc.at
  obtain ⟨cur,hcur,k1,k2,k3,k4,k5⟩ := hS.slcOf (g := g) (n := n) (f := fun r : List α => r.map vv) (l := L) (cap := cap) (t := tb)
  have hg := hcur.cellsAt (b := g) (c := cur) (t := tb)
  have hil := (List.getElem?_eq_some_iff.1 hold).1
  have hfit : i * n + n ≤ L.length * n := by
    have := Nat.mul_le_mul_right n hil
    rw [Nat.succ_mul] at this;exact this
  have hfit2 : L.length * n ≤ cap * n := Nat.mul_le_mul_right n k2
  have hol : old.length = n := by have := k5 old (List.mem_of_getElem? hold);simpa using this
  by_cases h0 : m = 0
  · subst h0
    have hrun := run_copy_none (P := P) w t sT o.type e (some ⟨g,i * n,none⟩) sa dLen dCap ys.length scap st.is hsz1 hm.symm
    refine wp_value hw (v := goInt (0 : Nat)) (w' := w) ?_ (k w ?_)
    · simp [execOp,ho,resolve,invoke,builtin,hx,hy,hrun]
    · have e1 : L.set i (ys.take 0 ++ old.drop 0) = L := by
        rw [List.take_zero,List.nil_append,List.drop_zero]
        obtain ⟨h2,h3⟩ := List.getElem?_eq_some_iff.1 hold
        rw [← h3]
        exact List.set_getElem_self h2
      rw [e1]
      exact hcur.toSlc k1 k2 k3 k4 k5
  · have hne : ys ≠ [] := by intro e;subst e;simp at hm;omega
    obtain ⟨sb,so,rfl,hb⟩ := hat hne
    have hlen : ((ys.take m).map vv).length = m := by simp;omega
    have hrun := run_copy_row (P := P) w t sT o.type e g (i * n) dLen dCap ⟨sb,so,none⟩ ys.length scap cur tb ((ys.take m).map vv) st.is hsz1 hg.2 (by rw [hlen,hm]) (fun j v hv => by
      have hadd : (⟨sb,so,none⟩ : Addr).add j = ⟨sb,so + j,none⟩ := by unfold Addr.add;split <;> simp_all
      rw [hadd]
      rw [List.getElem?_map,List.getElem?_take] at hv
      split at hv
      · obtain ⟨x,hx,rfl⟩ := Option.map_eq_some_iff.1 hv
        have := (hb.2 j x hx).2.2 0 (vv x) rfl
        rw [Nat.mul_one] at this
        exact this
      · simp at hv) (by rw [hlen];omega) (fun v hv => by
      obtain ⟨x,hx,rfl⟩ := List.mem_map.1 hv
      exact h1 x (List.mem_of_mem_take hx))
    rw [hlen] at hrun
    have hel := elemCells (cur := cur.toList) hold k4 k5
    have e2 : cur.toList.drop (i * n + m) = (old.drop m).map vv ++ cur.toList.drop (i * n + n) := by
      have h2 : cur.toList.drop (i * n) = old.map vv ++ cur.toList.drop (i * n + n) := by
        rw [← hel,← List.drop_drop,List.take_append_drop]
      rw [← List.drop_drop,h2,List.drop_append,List.length_map,hol,show m - n = 0 by omega,List.drop_zero,List.map_drop]
    have e3 : cur.toList.take (i * n) ++ ((ys.take m).map vv ++ cur.toList.drop (i * n + m)) = cur.toList.take (i * n) ++ (ys.take m ++ old.drop m).map vv ++ cur.toList.drop (i * n + ((ys.take m ++ old.drop m).map vv).length) := by
      have h3 : ((ys.take m ++ old.drop m).map vv).length = n := by simp;omega
      rw [h3,e2]
      simp
    refine wp_value hw (v := goInt (m : Nat)) (w' := w.setRow g (cur.toList.take (i * n) ++ ((ys.take m).map vv ++ cur.toList.drop (i * n + m))).toArray) ?_ (k _ ?_)
    · simp [execOp,ho,resolve,invoke,builtin,hx,hy,hrun]
    · rw [e3]
      have hnl : ((ys.take m ++ old.drop m).map vv).length = n := by simp;omega
      refine (hcur.setRow (b := g) (c := cur) (t := tb) _).toSlc ?_ (by simpa using k2) k3 ?_ ?_
      · simp only [List.size_toArray,List.length_append,List.length_take,List.length_drop,Array.length_toList];omega
      · rw [List.length_set]
        show List.take (L.length * n) (List.take (i * n) cur.toList ++ (ys.take m ++ old.drop m).map vv ++ List.drop (i * n + ((ys.take m ++ old.drop m).map vv).length) cur.toList) = _
        rw [take_splice (by omega) (by simp;omega),k4]
        have h4 := flatMap_set (y := ys.take m ++ old.drop m) k5 hnl hil
        rw [h4,hnl]
      · intro u hu
        rcases List.mem_or_eq_of_mem_set hu with h | h
        · exact k5 u h
        · rw [h];exact hnl
/-- Bytes behind one cell of a block of the call's own. -/
theorem Sat.readsTail {b : Nat} {v0 : Value} {A : List Int} {okb : Int → Prop} {vv : Int → Value} (h : Sat w0 S w) [p : Pull S b (cells (v0::A.map vv).toArray t) F] (k c : Nat) (hk : k ≤ A.length) (hkc : k ≤ c) (hc : c ≤ maxLen) (hA : ∀ x ∈ A,okb x) : BSl w 1 (one vv) okb (A.take k) (.slice (some ⟨b,1,none⟩) k c) := by
  have hl : (A.take k).length = k := by rw [List.length_take];omega
  refine .inr ⟨b,1,c,by rw [hl],by rw [hl];exact hkc,hc,?_,fun j x hx => ⟨hA x (List.mem_of_mem_take (List.mem_of_getElem? hx)),rfl,fun q u hu => ?_⟩⟩
  · have h1 := (h.cellsAt (b := b) (c := (v0::A.map vv).toArray) (t := t)).2
    exact (Array.getElem?_eq_some_iff.1 h1).1
  · match q,hu with
    | 0,hu =>
      have e1 : u = vv x := by simpa [one] using hu.symm
      subst e1
      rw [h.cell (b := b) (c := (v0::A.map vv).toArray) (t := t)]
      rw [List.getElem?_take] at hx
      split at hx
      · rw [Nat.mul_one,Nat.add_zero,Nat.add_comm]
        simp [hx]
      · cases hx
    | q + 1,hu => simp [one] at hu
end
end Go.Proofs.YtdkimdobcacpfaaDoor.Sl
