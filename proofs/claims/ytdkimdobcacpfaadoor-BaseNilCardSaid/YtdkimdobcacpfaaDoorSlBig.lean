/-
  Great values: a struct built of parts that are no cells; an array read out of bytes. It names no program.
-/
import Derived.Test.YtdkimdobcacpfaaDoorSlB
set_option linter.unusedSimpArgs false
set_option linter.unusedVariables false
namespace Go.Proofs.YtdkimdobcacpfaaDoor.Sl
open Go Go.RowKit

/-- The segments of a struct, some of them turned. -/
def setSegs (segs : List (List Value)) (ps : List (Nat × List Value)) : List (List Value) := ps.foldl (fun s p => s.set p.1 p.2) segs
def lens (segs : List (List Value)) : List Nat := segs.map List.length
def placesOf : Nat → List Nat → List (Nat × Nat)
  | _, [] => []
  | o, n :: r => (o, n) :: placesOf (o + n) r
theorem placesOf_get : ∀ (l : List Nat) (o i n : Nat), l[i]? = some n → (placesOf o l)[i]? = some (o + (l.take i).sum, n)
  | [], _, _, _, h => by simp at h
  | a :: l, o, 0, n, h => by
    have h1 : a = n := by simpa using h
    subst h1
    simp [placesOf]
  | a :: l, o, i + 1, n, h => by
    have h1 : l[i]? = some n := by simpa using h
    have := placesOf_get l (o + a) i n h1
    simp only [placesOf, List.getElem?_cons_succ, List.take_succ_cons, List.sum_cons]
    rw [this, Nat.add_assoc]
theorem flatten_set : ∀ {segs : List (List Value)} {i : Nat} {s v : List Value}, segs[i]? = some s → v.length = s.length → (segs.set i v).flatten = segs.flatten.take (((lens segs).take i).sum) ++ v ++ segs.flatten.drop (((lens segs).take i).sum + v.length)
  | [], _, _, _, h, _ => by simp at h
  | a :: r, 0, s, v, h, hl => by
    have h1 : a = s := by simpa using h
    subst h1
    simp only [List.set_cons_zero, List.flatten_cons, List.take_zero, List.sum_nil, Nat.zero_add, List.nil_append]
    rw [hl, List.drop_left]
  | a :: r, i + 1, s, v, h, hl => by
    have h1 : r[i]? = some s := by simpa using h
    have ih := flatten_set h1 hl
    simp only [List.set_cons_succ, List.flatten_cons, lens, List.map_cons, List.take_succ_cons, List.sum_cons]
    rw [ih]
    unfold lens
    rw [Nat.add_assoc, List.take_length_add_append, List.drop_length_add_append]
    simp
theorem lens_set {segs : List (List Value)} {i : Nat} {s v : List Value} (h : segs[i]? = some s) (hl : v.length = s.length) : lens (segs.set i v) = lens segs := by
  unfold lens
  rw [List.map_set]
  apply List.ext_getElem?
  intro j
  rw [List.getElem?_set]
  split
  · rename_i e
    subst e
    have hlt := (List.getElem?_eq_some_iff.1 h).1
    simp [hlt, hl, h]
    have := (List.getElem?_eq_some_iff.1 h).2
    rw [this]
  · rfl
theorem lens_flat : ∀ segs : List (List Value), segs.flatten.length = (lens segs).sum
  | [] => rfl
  | a :: r => by simp only [List.flatten_cons, List.length_append, lens, List.map_cons, List.sum_cons]; rw [lens_flat r]; rfl
theorem sum_take_le : ∀ (l : List Nat) (i n : Nat), l[i]? = some n → (l.take i).sum + n ≤ l.sum
  | [], _, _, h => by simp at h
  | a :: l, 0, n, h => by
    have h1 : a = n := by simpa using h
    subst h1
    simp
  | a :: l, i + 1, n, h => by
    have := sum_take_le l i n (by simpa using h)
    simp only [List.take_succ_cons, List.sum_cons]
    omega
theorem fill_segs {place : Nat → Option (Nat × Nat)} {ls : List Nat} (hp : ∀ i n, ls[i]? = some n → place i = some ((ls.take i).sum, n)) : ∀ (ps : List (Nat × Value)) (segs : List (List Value)), lens segs = ls → (∀ p ∈ ps, ls[p.1]? = some p.2.cells.size) →
    Instr.fill place segs.flatten.toArray ps = some (setSegs segs (ps.map fun p => (p.1, p.2.cells.toList))).flatten.toArray
  | [], segs, _, _ => rfl
  | (i, v) :: ps, segs, hl, h => by
    have hi : ls[i]? = some v.cells.size := h (i, v) (by simp)
    obtain ⟨s, hs, hsl⟩ : ∃ s, segs[i]? = some s ∧ s.length = v.cells.size := by
      rw [← hl, lens, List.getElem?_map] at hi
      obtain ⟨s, h1, h2⟩ := Option.map_eq_some_iff.1 hi
      exact ⟨s, h1, h2⟩
    have hvl : v.cells.toList.length = s.length := by simp [hsl]
    have hle := sum_take_le ls i _ hi
    have hsum : segs.flatten.length = ls.sum := by rw [lens_flat, hl]
    have hfl := flatten_set hs hvl
    rw [hl] at hfl
    unfold Instr.fill
    rw [hp i _ hi]
    simp only
    rw [if_neg (by simp; rw [← List.length_flatten, hsum]; omega)]
    have hfold : (v.cells.zipIdx.foldl (fun cs (p : Value × Nat) => cs.setIfInBounds ((ls.take i).sum + p.2) p.1) segs.flatten.toArray) = (segs.set i v.cells.toList).flatten.toArray := by
      rw [← Array.foldl_toList, Array.toList_zipIdx, foldl_put ((ls.take i).sum) v.cells.toList 0 _ (by simp; rw [← List.length_flatten, hsum]; omega), hfl]
      simp
    have ih := fill_segs hp ps (segs.set i v.cells.toList) ((lens_set hs hvl).trans hl) fun p hp2 => h p (by simp [hp2])
    exact (congrArg (fun z => Instr.fill place z ps) hfold).trans ih

section
variable {P : Program} {ops : Array Oper} {rest : List Oper} {o : Oper} {a : Act} {Q : Exit → Act → World → Prop} {w0 w : World} {S F : List Chunk} {I : World → Prop}
variable {b off n : Nat} {z : Array Value} {zv v : Value} {t tb : TypeId} {x : Operand} {agg : Bool}
/-- A struct type, its zero in segments. -/
class StrT (P : Program) (t : TypeId) (segs : outParam (List (List Value))) : Prop where
  run : ∀ (w : World), ∃ (fs : Array Field) (zv : Value), P.underlying t = some (.struct fs) ∧ (zeroValue t).run P w = .ok zv w ∧ zv.cells = segs.flatten.toArray ∧
    (fs.mapM (fun f => do pure (f.offset, ← sizeOf f.type) : Field → Sem (Nat × Nat))).run P w = .ok (placesOf 0 (lens segs)).toArray w
theorem StrT.mk' {fs : Array Field} {segs : List (List Value)} [ty : Ty P t true n zv z] (hu : P.underlying t = some (.struct fs)) (hz : z = segs.flatten.toArray) {pl : Array (Nat × Nat)}
    (hm : ∀ w, (fs.mapM (fun f => do pure (f.offset, ← sizeOf f.type) : Field → Sem (Nat × Nat))).run P w = .ok pl w) (hp : (placesOf 0 (lens segs)).toArray = pl) : StrT P t segs := by
  subst hp
  exact ⟨fun w => ⟨fs, zv, hu, ty.zero w, ty.cells.trans hz, hm w⟩⟩
theorem run_buildS {segs : List (List Value)} [st : StrT P t segs] (ps : Array (Nat × Value)) (h : ∀ p ∈ ps.toList, (lens segs)[p.1]? = some p.2.cells.size) (w : World) :
    (Instr.build t ps).run P w = .ok (.agg (setSegs segs (ps.toList.map fun p => (p.1, p.2.cells.toList))).flatten.toArray) w := by
  obtain ⟨fs, zv, hu, hz, hc, hm⟩ := st.run w
  have hf := fill_segs (place := fun i => (placesOf 0 (lens segs)).toArray[i]?) (ls := lens segs) (fun i n hi => by
    have := placesOf_get (lens segs) 0 i n hi
    rw [Nat.zero_add] at this
    simpa using this) ps.toList segs rfl h
  unfold Instr.build
  simp only [Sem.run_bind, hz, Result.andThen_ok, run_underlying hu w, hm, hc]
  have hf' : Instr.fill (fun x => (placesOf 0 (lens segs)).toArray[x]?) segs.flatten.toArray ps.toList = some (setSegs segs (ps.toList.map fun p => (p.1, p.2.cells.toList))).flatten.toArray := hf
  rw [hf']
  simp
/-- A struct is built of parts. -/
theorem buildS {parts : Array (Nat × Operand)} {segs : List (List Value)} (hw : Region.wanted o (yielded ops a.tmps) = true) (ho : o.op = .build t parts) [st : StrT P t segs] (vs : List (Nat × Value)) (hv : parts.toList.map (fun p => (p.1, a.eval p.2)) = vs)
    (h : ∀ p ∈ vs, (lens segs)[p.1]? = some p.2.cells.size) {out : List Value} (hout : (setSegs segs (vs.map fun p => (p.1, p.2.cells.toList))).flatten = out)
    (k : wpList P ops Q rest (a.put o.dst (.agg out.toArray)) w) : wpList P ops Q (o :: rest) a w := by
  refine wp_value hw ?_ k
  have h1 := run_buildS (P := P) (t := t) (parts.map fun p => (p.1, a.eval p.2)) (by rw [Array.toList_map, hv]; exact h) w
  rw [Array.toList_map, hv, hout] at h1
  simp only [execOp, ho, h1, Sem.run_bind, Result.andThen_ok, Sem.run_pure]
theorem yBuildS {parts : Array (Nat × Operand)} {segs : List (List Value)} (hw : Region.wanted o (yielded ops a.tmps) = true) (ho : o.op = .build t parts) [st : StrT P t segs] (vs : List (Nat × Value)) (hv : parts.toList.map (fun p => (p.1, a.eval p.2)) = vs)
    (h : ∀ p ∈ vs, (lens segs)[p.1]? = some p.2.cells.size) {out : List Value} (hout : (setSegs segs (vs.map fun p => (p.1, p.2.cells.toList))).flatten = out) : YieldsIf P ops I o (.agg out.toArray) a :=
  .inl ⟨hw, fun w _ => by
    have h1 := run_buildS (P := P) (t := t) (parts.map fun p => (p.1, a.eval p.2)) (by rw [Array.toList_map, hv]; exact h) w
    rw [Array.toList_map, hv, hout] at h1
    simp only [execOp, ho, h1, Sem.run_bind, Result.andThen_ok, Sem.run_pure]⟩
/-- A new variable, its zero in a form of one's own. -/
theorem allocS (hS : Sat w0 S w) (hw : Region.wanted o (yielded ops a.tmps) = true) (ho : o.op = .alloc t) [ty : Ty P t agg n zv z] (c : Array Value) (hz : z = c)
    (k : ∀ m w', Sat w0 ((m, cells c t) :: S) w' → wpList P ops Q rest (a.put o.dst (.pointer (some ⟨m, 0, none⟩))) w') : wpList P ops Q (o :: rest) a w := by
  subst hz
  exact alloc hS hw ho k
/-- An array is read out of bytes that stand somewhere. -/
theorem run_loadBA {A : List Int} {q len cap : Nat} {ad : Option Addr} [ty : Ty P t true q zv z] (hR : RB w A (.slice ad len cap)) (b p i : Nat) (had : q = 0 ∨ ad = some ⟨b, p, none⟩) (hi : i + q ≤ A.length) (hl : A.length = len) : (loadVar t ⟨b, p + i, none⟩).run P w = .ok (.agg (((A.drop i).take q).map (Value.int .u8)).toArray) w := by
  have hlen : (((A.drop i).take q).map (Value.int .u8)).length = q := by rw [List.length_map, List.length_take, List.length_drop]; omega
  refine run_loadN hlen fun d u hu => ?_
  have hd : d < q := by have := (List.getElem?_eq_some_iff.1 hu).1; omega
  rcases had with h0 | had
  · omega
  rcases hR with ⟨h1, h2⟩ | ⟨b', off', cap', h1, h2, h3, hB⟩
  · rw [h1] at hi; simp at hi; omega
  · rw [had] at h1
    injection h1 with h4 h5 h6
    injection h4 with h7
    injection h7 with h8 h9
    subst h8; subst h9
    rw [List.getElem?_map, List.getElem?_take, if_pos hd, List.getElem?_drop] at hu
    obtain ⟨y, hy, rfl⟩ := Option.map_eq_some_iff.1 hu
    have := (hB.2 (i + d) y hy).2.2 0 (Value.int .u8 y) rfl
    simpa [Nat.add_assoc] using this
end
end Go.Proofs.YtdkimdobcacpfaaDoor.Sl
