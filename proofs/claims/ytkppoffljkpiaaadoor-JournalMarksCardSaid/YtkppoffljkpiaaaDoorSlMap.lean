/-
  Maps for the small separation logic: a map is a list of pairs of keys and values, the keys read by an encoding. It names no program.
-/
import Derived.Test.YtkppoffljkpiaaaDoorSl
namespace Go.Proofs.YtkppoffljkpiaaaDoor.Sl
open Go Go.RowKit

def mkeys {κ β : Type} (l : List (κ × β)) : List κ := l.map (·.1)
def stamped (es : Array MapEntry) (clk : Nat) : Prop := (∀ e ∈ es.toList, e.born < clk) ∧ (es.toList.map (·.born)).Nodup
/-- A block that is a map. -/
def mapC {κ β : Type} (enc : κ → Value) (ve : β → Value) (l : List (κ × β)) : K := fun b h =>
  ∃ es clk, h b = some (.map es clk) ∧ es.toList.map (fun e => (e.key, e.val)) = l.map (fun p => (enc p.1, ve p.2)) ∧ stamped es clk ∧ (mkeys l).Nodup

section
variable {κ β : Type} {enc : κ → Value} {ve : β → Value} {w0 w : World} {S F : List Chunk} {b : Nat} {l : List (κ × β)}
theorem Sat.map (h : Sat w0 S w) [Pull S b (mapC enc ve l) F] : ∃ es clk, w.heap[b]? = some (.map es clk) ∧ es.toList.map (fun e => (e.key, e.val)) = l.map (fun p => (enc p.1, ve p.2)) ∧ stamped es clk ∧ (mkeys l).Nodup ∧ w0.heap.size ≤ b := by
  obtain ⟨h1, h2, d, l1, l2, ⟨es, clk, hb, r⟩, _⟩ := (h.pull b).has
  have := own_some (l1 b _ hb)
  exact ⟨es, clk, this.2, r.1, r.2.1, r.2.2, this.1⟩
theorem heap_set (w : World) (b : Nat) (o' : Obj) (h : b < w.heap.size) : ({ w with heap := w.heap.setIfInBounds b o' } : World).heap[b]? = some o' := by
  simp [h]
theorem Sat.setMap (h : Sat w0 S w) [Pull S b (mapC enc ve l) F] {l' : List (κ × β)} {es : Array MapEntry} {clk : Nat}
    (he : es.toList.map (fun e => (e.key, e.val)) = l'.map (fun p => (enc p.1, ve p.2))) (hs : stamped es clk) (hn : (mkeys l').Nodup) :
    Sat w0 ((b, mapC enc ve l') :: F) { w with heap := w.heap.setIfInBounds b (.map es clk) } := by
  obtain ⟨es0, clk0, hb, _, _, _, _⟩ := h.map (b := b) (enc := enc) (ve := ve) (l := l)
  have hlt := (Array.getElem?_eq_some_iff.1 hb).1
  have h' := h.pull b
  obtain ⟨h1, h2, d, l1, l2, ⟨es1, clk1, hb1, r1⟩, hr⟩ := h'.has
  have h'' : Sat w0 ((b, obj (.map es1 clk1)) :: F) w := ⟨h'.base, h1, h2, d, l1, l2, hb1, hr⟩
  refine h''.update (o := .map es1 clk1) (o' := .map es clk) (fun _ hx => hx) (fun i hi => ?_) (heap_set w b _ hlt) (by simp) rfl rfl rfl ⟨es, clk, by simp, he, hs, hn⟩
  simp only [Array.getElem?_setIfInBounds]
  rw [if_neg (fun e => hi e.symm)]
theorem Sat.freshMap (h : Sat w0 S w) (enc : κ → Value) (ve : β → Value) : Sat w0 ((w.heap.size, mapC enc ve []) :: S) (w.alloc (.map #[] 0)) :=
  h.fresh _ ⟨#[], 0, by simp, by simp, ⟨by simp, by simp⟩, by simp [mkeys]⟩
theorem length_of_map {es : List MapEntry} (he : es.map (fun e => (e.key, e.val)) = l.map (fun p => (enc p.1, ve p.2))) : es.length = l.length := by
  have := congrArg List.length he; simpa using this
end

section
variable {κ β : Type} [DecidableEq κ]
/-- The place and the value of a key. -/
def findL : List (κ × β) → κ → Nat → Option (Nat × β)
  | [], _, _ => none
  | (y, v) :: r, x, i => if x = y then some (i, v) else findL r x (i + 1)
/-- What a key has. -/
def mget (l : List (κ × β)) (x : κ) : Option β := (findL l x 0).map (·.2)
def mput (l : List (κ × β)) (x : κ) (v : β) : List (κ × β) :=
  match findL l x 0 with
  | some (i, _) => l.set i (x, v)
  | none => l ++ [(x, v)]
def mdel (l : List (κ × β)) (x : κ) : List (κ × β) := l.filter fun p => p.1 ≠ x
theorem findL_add : ∀ (l : List (κ × β)) (x : κ) (i j : Nat), findL l x (i + j) = (findL l x i).map fun p => (p.1 + j, p.2)
  | [], _, _, _ => rfl
  | (y, v) :: r, x, i, j => by
    unfold findL
    split
    · rfl
    · rw [show i + j + 1 = (i + 1) + j by omega]; exact findL_add r x (i + 1) j
theorem findL_some : ∀ {l : List (κ × β)} {x : κ} {i : Nat} {v : β}, findL l x 0 = some (i, v) → l[i]? = some (x, v)
  | (y, u) :: r, x, i, v, h => by
    unfold findL at h
    split at h
    · rename_i e; cases h; subst e; rfl
    · rw [findL_add r x 0 1] at h
      cases hr : findL r x 0 with
      | none => simp [hr] at h
      | some p =>
        obtain ⟨j, u'⟩ := p
        simp [hr] at h
        obtain ⟨rfl, rfl⟩ := h
        simpa using findL_some hr
theorem findL_none : ∀ {l : List (κ × β)} {x : κ} {i : Nat}, findL l x i = none ↔ x ∉ mkeys l
  | [], _, _ => by simp [findL, mkeys]
  | (y, u) :: r, x, i => by
    unfold findL
    by_cases e : x = y
    · simp [e, mkeys]
    · have := findL_none (l := r) (x := x) (i := i + 1)
      simp [e, this, mkeys]
theorem mget_none {l : List (κ × β)} {x : κ} : mget l x = none ↔ x ∉ mkeys l := by
  unfold mget; rw [Option.map_eq_none_iff]; exact findL_none
theorem mget_cons (y : κ) (v : β) (l : List (κ × β)) (x : κ) : mget ((y, v) :: l) x = if x = y then some v else mget l x := by
  unfold mget
  rw [findL]
  split
  · rfl
  · rw [findL_add l x 0 1]; cases findL l x 0 <;> rfl
@[simp] theorem mget_nil (x : κ) : mget ([] : List (κ × β)) x = none := rfl
theorem mget_mem {l : List (κ × β)} {x : κ} {v : β} (h : mget l x = some v) : (x, v) ∈ l := by
  unfold mget at h
  cases hf : findL l x 0 with
  | none => simp [hf] at h
  | some p =>
    obtain ⟨i, u⟩ := p
    simp [hf] at h
    subst h
    exact List.mem_of_getElem? (findL_some hf)
theorem mget_of_mem : ∀ {l : List (κ × β)} {x : κ} {v : β}, (mkeys l).Nodup → (x, v) ∈ l → mget l x = some v
  | (y, u) :: r, x, v, hn, hm => by
    rw [mget_cons]
    simp only [mkeys, List.map_cons, List.nodup_cons] at hn
    rcases List.mem_cons.1 hm with e | e
    · cases e; simp
    · have : x ≠ y := fun e' => hn.1 (List.mem_map.2 ⟨(x, v), e, e'⟩)
      rw [if_neg this]; exact mget_of_mem hn.2 e
theorem mget_append (l l' : List (κ × β)) (x : κ) : mget (l ++ l') x = (mget l x).or (mget l' x) := by
  induction l with
  | nil => simp
  | cons p r ih => obtain ⟨y, v⟩ := p; rw [List.cons_append, mget_cons, mget_cons]; split <;> simp [ih]
theorem mget_set : ∀ {l : List (κ × β)} {x : κ} {i : Nat} {u v : β}, findL l x 0 = some (i, u) → ∀ y, mget (l.set i (x, v)) y = if y = x then some v else mget l y
  | (z, w) :: r, x, i, u, v, h, y => by
    unfold findL at h
    split at h
    · rename_i e; cases h; subst e
      rw [List.set_cons_zero, mget_cons, mget_cons]; split <;> rfl
    · rename_i hne
      rw [findL_add r x 0 1] at h
      cases hr : findL r x 0 with
      | none => simp [hr] at h
      | some p =>
        obtain ⟨j, u'⟩ := p
        simp [hr] at h
        obtain ⟨rfl, rfl⟩ := h
        rw [List.set_cons_succ, mget_cons, mget_cons, mget_set hr]
        by_cases e1 : y = z
        · subst e1; simp; intro e2; exact absurd e2.symm hne
        · simp [e1]
theorem mget_mput (l : List (κ × β)) (x : κ) (v : β) (y : κ) : mget (mput l x v) y = if y = x then some v else mget l y := by
  unfold mput
  cases hf : findL l x 0 with
  | none =>
    rw [mget_append, mget_cons]
    have h0 : mget l x = none := by unfold mget; rw [hf]; rfl
    by_cases e : y = x
    · subst e; simp [h0]
    · simp [e]
  | some p => obtain ⟨i, u⟩ := p; exact mget_set hf y
theorem mget_mdel (l : List (κ × β)) (x y : κ) : mget (mdel l x) y = if y = x then none else mget l y := by
  induction l with
  | nil => simp [mdel]
  | cons p r ih =>
    obtain ⟨z, v⟩ := p
    unfold mdel at ih ⊢
    rw [List.filter_cons]
    by_cases e : z = x
    · subst e
      simp only [ne_eq, not_true_eq_false, decide_false, Bool.false_eq_true, if_false, ih, mget_cons]
      split <;> rfl
    · simp only [ne_eq, e, not_false_eq_true, decide_true, if_true, mget_cons, ih]
      by_cases e1 : y = z
      · subst e1; simp [e]
      · simp [e1]
theorem mkeys_mput (l : List (κ × β)) (x : κ) (v : β) : mkeys (mput l x v) = if x ∈ mkeys l then mkeys l else mkeys l ++ [x] := by
  unfold mput
  cases hf : findL l x 0 with
  | none => rw [if_neg (findL_none.1 hf)]; simp [mkeys]
  | some p =>
    obtain ⟨i, u⟩ := p
    have hi := findL_some hf
    have hm : x ∈ mkeys l := List.mem_map.2 ⟨(x, u), List.mem_of_getElem? hi, rfl⟩
    rw [if_pos hm]
    unfold mkeys
    rw [List.map_set]
    apply List.ext_getElem?
    intro j
    rw [List.getElem?_set]
    split
    · rename_i e; subst e
      split
      · simp [hi]
      · rename_i hl; rw [List.length_map] at hl; rw [List.getElem?_eq_none (by omega)] at hi; cases hi
    · rfl
theorem mkeys_mdel (l : List (κ × β)) (x : κ) : mkeys (mdel l x) = (mkeys l).filter (· ≠ x) := by
  unfold mkeys mdel; rw [List.filter_map]; rfl
theorem nodup_mput {l : List (κ × β)} (h : (mkeys l).Nodup) (x : κ) (v : β) : (mkeys (mput l x v)).Nodup := by
  rw [mkeys_mput]
  split
  · exact h
  · rename_i hx; rw [List.nodup_append]; refine ⟨h, by simp, ?_⟩; intro a ha b hb; simp at hb; subst hb; exact fun e => hx (e ▸ ha)
theorem nodup_mdel {l : List (κ × β)} (h : (mkeys l).Nodup) (x : κ) : (mkeys (mdel l x)).Nodup := by
  rw [mkeys_mdel]; exact h.filter _
omit [DecidableEq κ] in
theorem length_mkeys (l : List (κ × β)) : (mkeys l).length = l.length := by simp [mkeys]
theorem length_mput (l : List (κ × β)) (x : κ) (v : β) : (mput l x v).length = if x ∈ mkeys l then l.length else l.length + 1 := by
  rw [← length_mkeys (mput l x v), mkeys_mput]
  split
  · rw [length_mkeys]
  · rw [List.length_append, length_mkeys]; rfl

theorem findL_map {γ : Type} (f : β → γ) : ∀ (l : List (κ × β)) (x : κ) (i : Nat), findL (l.map fun p => (p.1, f p.2)) x i = (findL l x i).map fun p => (p.1, f p.2)
  | [], _, _ => rfl
  | (y, v) :: r, x, i => by
    simp only [List.map_cons]
    rw [findL, findL]
    split
    · rfl
    · exact findL_map f r x (i + 1)

/-- The key's type: how its values are read, and that the model finds them so. -/
class KeyEnc {κ : Type} [DecidableEq κ] (P : Program) (k : TypeId) (enc : κ → Value) : Prop where
  check : ∀ e w x, (Instr.checkKey e 10000 k (enc x)).run P w = .ok () w
  find : ∀ w x (l : List (κ × Value)) (es : List MapEntry), es.map (fun e => (e.key, e.val)) = l.map (fun p => (enc p.1, p.2)) → (Instr.findKey k (enc x) es).run P w = .ok (findL l x 0) w
  same : ∀ x, Instr.sameBits 10000 (enc x) (enc x) = true
theorem KeyEnc.findT {κ β : Type} [DecidableEq κ] {P : Program} {k : TypeId} {enc : κ → Value} (ke : KeyEnc P k enc) (ve : β → Value) (w : World) (x : κ) (l : List (κ × β)) (es : List MapEntry)
    (he : es.map (fun e => (e.key, e.val)) = l.map (fun p => (enc p.1, ve p.2))) : (Instr.findKey k (enc x) es).run P w = .ok ((findL l x 0).map fun p => (p.1, ve p.2)) w := by
  rw [ke.find w x (l.map fun p => (p.1, ve p.2)) es (by rw [he, List.map_map]; rfl), findL_map]

end

def encInt (n : Int) : Value := .int .i64 n
theorem findNow_int (q : IntKind) (x : Int) : ∀ (l : List (Int × Value)) (es : List MapEntry) (i : Nat), es.map (fun e => (e.key, e.val)) = l.map (fun p => (Value.int q p.1, p.2)) → Instr.findNow (.int q) (.int q x) es i = some (findL l x i)
  | [], [], _, _ => rfl
  | [], _ :: _, _, h => by simp at h
  | _ :: _, [], _, h => by simp at h
  | (y, v) :: l, e :: es, i, h => by
    simp only [List.map_cons, List.cons.injEq, Prod.mk.injEq] at h
    obtain ⟨⟨hk, hv⟩, hr⟩ := h
    unfold Instr.findNow findL
    rw [hk]
    simp only [Instr.sameNow, if_true]
    by_cases e1 : x = y
    · simp [e1, hv]
    · have : (x == y) = false := by simpa using e1
      simp only [this, if_neg e1]
      exact findNow_int q x l es (i + 1) hr
theorem encInt_ok {P : Program} {k : TypeId} (h : P.underlying k = some (.int .i64)) : KeyEnc P k encInt where
  check e w x := by
    unfold Instr.checkKey
    simp [encInt, run_underlying h]
  find w x l es he := by
    unfold Instr.findKey
    rw [Sem.run_bind, run_underlying h w]
    simp only [Result.andThen_ok, encInt]
    rw [findNow_int .i64 x l es 0 he]
    rfl
  same x := by simp [encInt, Instr.sameBits]

/-- A map's type. -/
class MapTy (P : Program) (t : TypeId) (k e : outParam TypeId) : Prop where
  is : P.underlying t = some (.map k e)

section
variable {κ β : Type} [DecidableEq κ] {enc : κ → Value} {ve : β → Value}
variable {P : Program} {ops : Array Oper} {rest : List Oper} {o : Oper} {a : Act} {Q : Exit → Act → World → Prop} {w0 w : World} {S F : List Chunk}
variable {b n : Nat} {z : Array Value} {zv : Value} {t k e : TypeId} {agg : Bool} {x y m : Operand} {l : List (κ × β)}

/-- 'v, ok := m[k]' and 'm[k]'. -/
theorem run_lookup (h : Sat w0 S w) [mt : MapTy P t k e] [ke : KeyEnc P k enc] [ty : Ty P e agg n zv z] [Pull S b (mapC enc ve l) F] (key : κ) (ok : Bool) :
    (Instr.lookup t (.map (some b)) (enc key) ok).run P w = .ok (if ok then .tuple #[((mget l key).map ve).getD zv, .bool (mget l key).isSome] else ((mget l key).map ve).getD zv) w := by
  obtain ⟨es, clk, hb, he, _, _, _⟩ := h.map (b := b) (enc := enc) (ve := ve) (l := l)
  have hget : (getObj b).run P w = .ok (.map es clk) w := by simp [getObj, Sem.run, hb]
  have hfind := ke.findT ve w key l es.toList he
  unfold Instr.lookup
  simp only [Sem.run_bind, run_underlying mt.is w, Result.andThen_ok, hget, Sem.run_pure, ke.check, hfind]
  unfold mget
  cases findL l key 0 with
  | none => simp [ty.zero]
  | some p => simp
theorem lookup2 (hS : Sat w0 S w) (hw : Region.wanted o (yielded ops a.tmps) = true) (ho : o.op = .lookup t x y true) (key : κ) (hx : a.eval x = .map (some b)) (hy : a.eval y = enc key)
    [MapTy P t k e] [KeyEnc P k enc] [Ty P e agg n zv z] [Pull S b (mapC enc ve l) F] (d : β) (hd : zv = ve d)
    (kk : wpList P ops Q rest (a.put o.dst (.tuple #[ve ((mget l key).getD d), .bool (mget l key).isSome])) w) : wpList P ops Q (o :: rest) a w := by
  refine wp_value hw ?_ kk
  have e1 : ((mget l key).map ve).getD zv = ve ((mget l key).getD d) := by rw [hd]; cases mget l key <;> rfl
  simp [execOp, ho, hx, hy, run_lookup hS (b := b) (l := l) (enc := enc) (ve := ve) key true, e1]
theorem lookup1 (hS : Sat w0 S w) (hw : Region.wanted o (yielded ops a.tmps) = true) (ho : o.op = .lookup t x y false) (key : κ) (hx : a.eval x = .map (some b)) (hy : a.eval y = enc key)
    [MapTy P t k e] [KeyEnc P k enc] [Ty P e agg n zv z] [Pull S b (mapC enc ve l) F] (d : β) (hd : zv = ve d)
    (kk : wpList P ops Q rest (a.put o.dst (ve ((mget l key).getD d))) w) : wpList P ops Q (o :: rest) a w := by
  refine wp_value hw ?_ kk
  have e1 : ((mget l key).map ve).getD zv = ve ((mget l key).getD d) := by rw [hd]; cases mget l key <;> rfl
  simp [execOp, ho, hx, hy, run_lookup hS (b := b) (l := l) (enc := enc) (ve := ve) key false, e1]

theorem run_mapUpdate (h : Sat w0 S w) [mt : MapTy P t k e] [ke : KeyEnc P k enc] [Pull S b (mapC enc ve l) F] (key : κ) (v : β) :
    ∃ w', (Instr.mapUpdate t (.map (some b)) (enc key) (ve v)).run P w = .ok () w' ∧ Sat w0 ((b, mapC enc ve (mput l key v)) :: F) w' := by
  obtain ⟨es, clk, hb, he, hs, hn, _⟩ := h.map (b := b) (enc := enc) (ve := ve) (l := l)
  have hget : (getObj b).run P w = .ok (.map es clk) w := by simp [getObj, Sem.run, hb]
  have hfind := ke.findT ve w key l es.toList he
  have hset : ∀ o' : Obj, (setObj b o').run P w = .ok () { w with heap := w.heap.setIfInBounds b o' } := fun o' => by simp [setObj, Sem.run, hb]
  have hlen := length_of_map he
  cases hf : findL l key 0 with
  | none =>
    refine ⟨_, ?_, h.setMap (b := b) (enc := enc) (ve := ve) (l := l) (l' := mput l key v) (es := es.push { key := enc key, val := ve v, born := clk }) (clk := clk + 1) ?_ ?_ (nodup_mput hn key v)⟩
    · unfold Instr.mapUpdate
      simp [run_underlying mt.is w, hget, ke.check, hfind, hf, hset]
    · simp [mput, hf, he]
    · refine ⟨fun e he' => ?_, ?_⟩
      · simp at he'
        rcases he' with h1 | h1
        · have := hs.1 e (by simpa using h1); omega
        · subst h1; simp
      · simp only [Array.toList_push, List.map_append, List.map_cons, List.map_nil]
        rw [List.nodup_append]
        refine ⟨hs.2, by simp, ?_⟩
        intro x hx y hy
        simp at hy
        subst hy
        obtain ⟨e, hm, rfl⟩ := List.mem_map.1 hx
        have := hs.1 e hm; omega
  | some p =>
    obtain ⟨i, u⟩ := p
    have hi := findL_some hf
    have hkey : (es.toList[i]?).map (·.key) = some (enc key) := by
      have h2 := congrArg (fun L => L[i]?) he
      simp only [List.getElem?_map, hi, Option.map_some] at h2
      cases h3 : es.toList[i]? with
      | none => simp [h3] at h2
      | some e0 => simp [h3] at h2; simp [h2.1]
    have hkey' : ((es[i]?).map (·.key)).getD (enc key) = enc key := by
      rw [Array.getElem?_toList] at hkey; rw [hkey]; rfl
    refine ⟨_, ?_, h.setMap (b := b) (enc := enc) (ve := ve) (l := l) (l' := mput l key v) (es := es.modify i fun e => { e with key := enc key, val := ve v }) (clk := clk) ?_ ?_ (nodup_mput hn key v)⟩
    · unfold Instr.mapUpdate
      simp [run_underlying mt.is w, hget, ke.check, hfind, hf, hkey', Instr.keyThatStays, ke.same, hset]
    · simp only [mput, hf]
      apply List.ext_getElem?
      intro j
      have h2 := congrArg (fun L => L[j]?) he
      simp only [List.getElem?_map] at h2
      simp only [List.getElem?_map, Array.getElem?_toList, Array.getElem?_modify, List.getElem?_set]
      rw [Array.getElem?_toList] at h2
      by_cases e1 : i = j
      · subst e1
        have hlt : i < l.length := (List.getElem?_eq_some_iff.1 hi).1
        have hlt' : i < es.size := by rw [← Array.length_toList]; omega
        simp [hlt, hlt']
      · simp only [e1, if_false]
        exact h2
    · have hb' : (es.modify i fun e => { e with key := enc key, val := ve v }).toList.map (·.born) = es.toList.map (·.born) := by
        apply List.ext_getElem?
        intro j
        simp only [List.getElem?_map, Array.getElem?_toList, Array.getElem?_modify]
        by_cases e1 : i = j
        · subst e1; cases es[i]? <;> simp
        · simp [e1]
      refine ⟨fun e' he' => ?_, by rw [hb']; exact hs.2⟩
      have : e'.born ∈ es.toList.map (·.born) := by rw [← hb']; exact List.mem_map.2 ⟨e', he', rfl⟩
      obtain ⟨e0, h0, h1⟩ := List.mem_map.1 this
      rw [← h1]; exact hs.1 e0 h0
theorem mapUpdate (hS : Sat w0 S w) (hw : Region.wanted o (yielded ops a.tmps) = true) (ho : o.op = .mapUpdate t m x y) (key : κ) (v : β) (hm : a.eval m = .map (some b)) (hx : a.eval x = enc key) (hy : a.eval y = ve v)
    [MapTy P t k e] [KeyEnc P k enc] [Pull S b (mapC enc ve l) F]
    (kk : ∀ w', Sat w0 ((b, mapC enc ve (mput l key v)) :: F) w' → wpList P ops Q rest (a.put o.dst undef) w') : wpList P ops Q (o :: rest) a w := by
  obtain ⟨w', hr, h'⟩ := run_mapUpdate hS (t := t) (b := b) (enc := enc) (ve := ve) (l := l) (P := P) key v
  refine wp_skip' hw ?_ (kk w' h')
  simp [execOp, ho, hm, hx, hy, hr]
omit [DecidableEq κ] in
theorem makeMap (hS : Sat w0 S w) (hw : Region.wanted o (yielded ops a.tmps) = true) (ho : o.op = .makeMap t none) (enc : κ → Value) (ve : β → Value)
    (kk : ∀ m w', Sat w0 ((m, mapC enc ve []) :: S) w' → wpList P ops Q rest (a.put o.dst (.map (some m))) w') : wpList P ops Q (o :: rest) a w := by
  refine wp_value (w' := w.alloc (.map #[] 0)) hw ?_ (kk w.heap.size _ (hS.freshMap enc ve))
  simp [execOp, ho, Instr.makeMap]

theorem run_delete (h : Sat w0 S w) [mt : MapTy P t k e] [ke : KeyEnc P k enc] [Pull S b (mapC enc ve l) F] (key : κ) (t2 ty : TypeId) :
    ∃ w', (Builtin.delete_ #[t, t2] ty #[.map (some b), enc key]).run P w = .ok (.tuple #[]) w' ∧ Sat w0 ((b, mapC enc ve (mdel l key)) :: F) w' := by
  obtain ⟨es, clk, hb, he, hs, hn, _⟩ := h.map (b := b) (enc := enc) (ve := ve) (l := l)
  have hget : (getObj b).run P w = .ok (.map es clk) w := by simp [getObj, Sem.run, hb]
  have hfind := ke.findT ve w key l es.toList he
  have hset : ∀ o' : Obj, (setObj b o').run P w = .ok () { w with heap := w.heap.setIfInBounds b o' } := fun o' => by simp [setObj, Sem.run, hb]
  cases hf : findL l key 0 with
  | none =>
    have hdel : mdel l key = l := by
      unfold mdel
      rw [List.filter_eq_self]
      intro p hp
      have := findL_none.1 hf
      simp
      exact fun e => this (List.mem_map.2 ⟨p, hp, e⟩)
    refine ⟨_, ?_, h.setMap (b := b) (enc := enc) (ve := ve) (l := l) (l' := mdel l key) (es := es) (clk := clk) (by rw [hdel]; exact he) hs (nodup_mdel hn key)⟩
    unfold Builtin.delete_
    simp [run_underlying mt.is w, hget, ke.check, hfind, hf, hset]
  | some p =>
    obtain ⟨i, u⟩ := p
    have hi := findL_some hf
    have hlen := length_of_map he
    have hlt : i < l.length := (List.getElem?_eq_some_iff.1 hi).1
    have hlt' : i < es.size := by rw [← Array.length_toList]; omega
    have herase : (es.eraseIdxIfInBounds i).toList = es.toList.eraseIdx i := by
      simp [Array.eraseIdxIfInBounds, hlt']
    have hdel : mdel l key = l.eraseIdx i := by
      have hlt2 : i < (mkeys l).length := by simpa [mkeys] using hlt
      have hk : (mkeys l)[i] = key := by
        have : l[i] = (key, u) := by have := List.getElem?_eq_some_iff.1 hi; exact this.2
        simp [mkeys, this]
      unfold mdel
      clear hf hfind hget hset he
      -- the key stands at i alone
      have : ∀ (l : List (κ × β)) (i : Nat), (mkeys l).Nodup → l[i]? = some (key, u) → (l.filter fun p => p.1 ≠ key) = l.eraseIdx i := by
        intro l
        induction l with
        | nil => intro i _ h; simp at h
        | cons p r ih =>
          intro i hn hi
          simp only [mkeys, List.map_cons, List.nodup_cons] at hn
          cases i with
          | zero =>
            simp at hi
            subst hi
            simp only [List.eraseIdx_cons_zero, List.filter_cons, ne_eq, not_true_eq_false, decide_false, Bool.false_eq_true, if_false]
            rw [List.filter_eq_self]
            intro q hq
            simp
            exact fun e => hn.1 (List.mem_map.2 ⟨q, hq, e⟩)
          | succ j =>
            simp at hi
            have hne : p.1 ≠ key := fun e => hn.1 (List.mem_map.2 ⟨(key, u), List.mem_of_getElem? hi, e.symm⟩)
            rw [List.eraseIdx_cons_succ, List.filter_cons, if_pos (by simpa using hne), ← ih j hn.2 hi]
      exact this l i hn hi
    have heM : ∀ {α β : Type} (f : α → β) (L : List α) (j : Nat), (L.eraseIdx j).map f = (L.map f).eraseIdx j := by
      intro α β f L
      induction L with
      | nil => intro j; rfl
      | cons y r ih => intro j; cases j with
        | zero => rfl
        | succ j => simp [ih]
    refine ⟨_, ?_, h.setMap (b := b) (enc := enc) (ve := ve) (l := l) (l' := mdel l key) (es := es.eraseIdxIfInBounds i) (clk := clk) ?_ ?_ (nodup_mdel hn key)⟩
    · unfold Builtin.delete_
      simp [run_underlying mt.is w, hget, ke.check, hfind, hf, hset]
    · rw [herase, hdel, heM, heM, he]
    · unfold stamped
      rw [herase]
      refine ⟨fun e' he' => hs.1 e' ((List.eraseIdx_sublist _ _).subset he'), ?_⟩
      exact ((List.eraseIdx_sublist es.toList i).map _).nodup hs.2
theorem delete (hS : Sat w0 S w) (hw : Region.wanted o (yielded ops a.tmps) = true) {t2 : TypeId} (ho : o.op = .call { callee := .builtin .delete, args := #[m, x], argTypes := #[t, t2] }) (key : κ) (hm : a.eval m = .map (some b)) (hx : a.eval x = enc key)
    [MapTy P t k e] [KeyEnc P k enc] [Pull S b (mapC enc ve l) F]
    (kk : ∀ w', Sat w0 ((b, mapC enc ve (mdel l key)) :: F) w' → wpList P ops Q rest (a.put o.dst (.tuple #[])) w') : wpList P ops Q (o :: rest) a w := by
  obtain ⟨w', hr, h'⟩ := run_delete hS (t := t) (b := b) (enc := enc) (ve := ve) (l := l) (P := P) key t2 o.type
  refine wp_value hw ?_ (kk w' h')
  simp [execOp, ho, resolve, invoke, builtin, hm, hx, hr]
omit [DecidableEq κ] in
theorem clearMap (hS : Sat w0 S w) (hw : Region.wanted o (yielded ops a.tmps) = true) (ho : o.op = .call { callee := .builtin .clear, args := #[m], argTypes := #[t] }) (hm : a.eval m = .map (some b))
    [mt : MapTy P t k e] [Pull S b (mapC enc ve l) F]
    (kk : ∀ w', Sat w0 ((b, mapC enc ve []) :: F) w' → wpList P ops Q rest (a.put o.dst (.tuple #[])) w') : wpList P ops Q (o :: rest) a w := by
  obtain ⟨es, clk, hb, he, hs, hn, _⟩ := hS.map (b := b) (enc := enc) (ve := ve) (l := l)
  have hget : (getObj b).run P w = .ok (.map es clk) w := by simp [getObj, Sem.run, hb]
  have hset : ∀ o' : Obj, (setObj b o').run P w = .ok () { w with heap := w.heap.setIfInBounds b o' } := fun o' => by simp [setObj, Sem.run, hb]
  refine wp_value hw ?_ (kk _ (hS.setMap (b := b) (enc := enc) (ve := ve) (l := l) (l' := []) (es := #[]) (clk := clk) (by simp) ⟨by simp, by simp⟩ (by simp [mkeys])))
  simp [execOp, ho, resolve, invoke, builtin, hm, Builtin.clear_, run_underlying mt.is w, hget, hset]
omit [DecidableEq κ] in
theorem lenMap (hS : Sat w0 S w) (hw : Region.wanted o (yielded ops a.tmps) = true) (ho : o.op = .call { callee := .builtin .len, args := #[m], argTypes := #[t] }) (hm : a.eval m = .map (some b))
    [mt : MapTy P t k e] [Pull S b (mapC enc ve l) F]
    (kk : wpList P ops Q rest (a.put o.dst (.int .i64 l.length)) w) : wpList P ops Q (o :: rest) a w := by
  obtain ⟨es, clk, hb, he, hs, hn, _⟩ := hS.map (b := b) (enc := enc) (ve := ve) (l := l)
  have hget : (getObj b).run P w = .ok (.map es clk) w := by simp [getObj, Sem.run, hb]
  have hl := length_of_map he
  simp only [Array.length_toList] at hl
  refine wp_value hw ?_ kk
  simp [execOp, ho, resolve, invoke, builtin, hm, Builtin.len_, run_underlying mt.is w, hget, goInt, hl]
end
end Go.Proofs.YtkppoffljkpiaaaDoor.Sl
