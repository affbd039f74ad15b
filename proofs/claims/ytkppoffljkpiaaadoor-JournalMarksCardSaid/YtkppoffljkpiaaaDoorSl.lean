/-
  A small separation logic over the model's worlds: a list of chunks, each under a key, and rules for the operations that touch memory. It names no program.
-/
import Derived.WalkKit
import Derived.WalkSpells
import Derived.WalkLawsBesides
import Derived.Laws.CopyOwn
import Derived.Lib.Hide
import Derived.Deep.DeepCutAuto
import Derived.Deep.LoopGhost
import Derived.Outline
namespace Go.Proofs.YtkppoffljkpiaaaDoor.Sl
open Go Go.RowKit

abbrev Hp := Nat → Option Obj
abbrev K := Nat → Hp → Prop
abbrev Chunk := Nat × K

def le (h h' : Hp) : Prop := ∀ k o, h k = some o → h' k = some o

theorem le_refl (h : Hp) : le h h := fun _ _ e => e
theorem le_trans {a b c : Hp} (h : le a b) (k : le b c) : le a c := fun i o e => k i o (h i o e)

/-- The chunks hold, each on a part of its own. -/
def holds : List Chunk → Hp → Prop
  | [], _ => True
  | (b, X) :: S, h => ∃ h1 h2 : Hp, (∀ k, h1 k = none ∨ h2 k = none) ∧ le h1 h ∧ le h2 h ∧ X b h1 ∧ holds S h2

theorem holds_mono : ∀ {S : List Chunk} {h h' : Hp}, le h h' → holds S h → holds S h'
  | [], _, _, _, _ => trivial
  | (_, _) :: _, _, _, hl, ⟨h1, h2, d, l1, l2, x, r⟩ => ⟨h1, h2, d, le_trans l1 hl, le_trans l2 hl, x, r⟩

theorem holds_swap {x y : Chunk} {S : List Chunk} {h : Hp} (H : holds (x :: y :: S) h) : holds (y :: x :: S) h := by
  obtain ⟨bx, X⟩ := x
  obtain ⟨b, Y⟩ := y
  obtain ⟨h1, h2, d, l1, l2, hx, h3, h4, d', l3, l4, hy, r⟩ := H
  refine ⟨h3, fun k => (h1 k).or (h4 k), fun k => ?_, le_trans l3 l2, fun k o e => ?_, hy, h1, h4, fun k => ?_, fun k o e => ?_, fun k o e => ?_, hx, r⟩
  · cases e3 : h3 k with
    | none => exact .inl rfl
    | some o =>
      right
      have e1 : h1 k = none := (d k).resolve_right (by rw [l3 k o e3]; simp)
      have e4 : h4 k = none := (d' k).resolve_left (by rw [e3]; simp)
      simp [e1, e4]
  · cases e1 : h1 k with
    | none => simp [e1] at e; exact l2 k o (l4 k o e)
    | some o' => simp [e1] at e; subst e; exact l1 k _ e1
  · cases e1 : h1 k with
    | none => exact .inl rfl
    | some o =>
      right
      cases e4 : h4 k with
      | none => rfl
      | some o' => have := (d k).resolve_right (by rw [l4 k o' e4]; simp); rw [e1] at this; cases this
  · simp [e]
  · cases e1 : h1 k with
    | none => simpa [e1] using e
    | some o' => have := (d k).resolve_left (by rw [e1]; simp); rw [l4 k o e] at this; cases this

theorem holds_perm {S S' : List Chunk} (p : S.Perm S') : ∀ {h : Hp}, holds S h → holds S' h := by
  induction p with
  | nil => exact fun h => h
  | cons x _ ih =>
    intro h H
    obtain ⟨b, X⟩ := x
    obtain ⟨h1, h2, d, l1, l2, hx, r⟩ := H
    exact ⟨h1, h2, d, l1, l2, hx, ih r⟩
  | swap x y l => exact fun H => holds_swap H
  | trans _ _ ih1 ih2 => exact fun H => ih2 (ih1 H)

theorem holds_append : ∀ {S S' : List Chunk} {h : Hp}, holds (S ++ S') h → ∃ h1 h2 : Hp, (∀ k, h1 k = none ∨ h2 k = none) ∧ le h1 h ∧ le h2 h ∧ holds S h1 ∧ holds S' h2
  | [], _, h, H => ⟨fun _ => none, h, fun _ => .inl rfl, (fun k o e => by simp at e), le_refl h, trivial, H⟩
  | (b, X) :: S, S', h, ⟨h1, h2, d, l1, l2, hx, r⟩ => by
    obtain ⟨h3, h4, d', l3, l4, H3, H4⟩ := holds_append r
    refine ⟨fun k => (h1 k).or (h3 k), h4, fun k => ?_, fun k o e => ?_, le_trans l4 l2, ⟨h1, h3, fun k => ?_, fun k o e => by simp [e], fun k o e => ?_, hx, H3⟩, H4⟩
    · cases e4 : h4 k with
      | none => exact .inr rfl
      | some o =>
        left
        have e1 : h1 k = none := (d k).resolve_right (by rw [l4 k o e4]; simp)
        have e3 : h3 k = none := (d' k).resolve_right (by rw [e4]; simp)
        simp [e1, e3]
    · cases e1 : h1 k with
      | none => simp [e1] at e; exact l2 k o (l3 k o e)
      | some o' => simp [e1] at e; subst e; exact l1 k _ e1
    · cases e1 : h1 k with
      | none => exact .inl rfl
      | some o =>
        right
        cases e3 : h3 k with
        | none => rfl
        | some o' => have := (d k).resolve_right (by rw [l3 k o' e3]; simp); rw [e1] at this; cases this
    · cases e1 : h1 k with
      | none => simpa [e1] using e
      | some o' => have := (d k).resolve_left (by rw [e1]; simp); rw [l3 k o e] at this; cases this

theorem holds_join : ∀ {S S' : List Chunk} {h h1 h2 : Hp}, (∀ k, h1 k = none ∨ h2 k = none) → le h1 h → le h2 h → holds S h1 → holds S' h2 → holds (S ++ S') h
  | [], _, _, _, _, _, _, l2, _, H2 => holds_mono l2 H2
  | (b, X) :: S, S', h, h1, h2, d, l1, l2, ⟨h3, h4, d', l3, l4, hx, r⟩, H2 => by
    refine ⟨h3, fun k => (h4 k).or (h2 k), fun k => ?_, le_trans l3 l1, fun k o e => ?_, hx, holds_join (h1 := h4) (h2 := h2) (fun k => ?_) (fun k o e => by simp [e]) (fun k o e => ?_) r H2⟩
    · cases e3 : h3 k with
      | none => exact .inl rfl
      | some o =>
        right
        have e4 : h4 k = none := (d' k).resolve_left (by rw [e3]; simp)
        have e2 : h2 k = none := (d k).resolve_left (by rw [l3 k o e3]; simp)
        simp [e4, e2]
    · cases e4 : h4 k with
      | none => simp [e4] at e; exact l2 k o e
      | some o' => simp [e4] at e; subst e; exact l1 k _ (l4 k _ e4)
    · cases e4 : h4 k with
      | none => exact .inl rfl
      | some o => right; exact (d k).resolve_left (by rw [l4 k o e4]; simp)
    · cases e4 : h4 k with
      | none => simpa [e4] using e
      | some o' => have := (d k).resolve_left (by rw [l4 k o' e4]; simp); rw [e] at this; cases this

/-- A chunk that is itself made of chunks. -/
theorem holds_open {b : Nat} {X : K} {T F : List Chunk} {h : Hp} (H : holds ((b, X) :: F) h) (hX : ∀ h1, X b h1 → holds T h1) : holds (T ++ F) h := by
  obtain ⟨h1, h2, d, l1, l2, hx, r⟩ := H
  exact holds_join d l1 l2 (hX h1 hx) r
theorem holds_close {b : Nat} {X : K} {T F : List Chunk} {h : Hp} (H : holds (T ++ F) h) (hX : ∀ h1, holds T h1 → X b h1) : holds ((b, X) :: F) h := by
  obtain ⟨h1, h2, d, l1, l2, hx, r⟩ := holds_append H
  exact ⟨h1, h2, d, l1, l2, hX h1 hx, r⟩

/-- What the call itself has made: the blocks from B on. -/
def own (B : Nat) (w : World) : Hp := fun k => if k < B then none else w.heap[k]?

structure Sat (w0 : World) (S : List Chunk) (w : World) : Prop where
  base : Below w0.heap.size w0 w
  has : holds S (own w0.heap.size w)

/-- Where the chunk under a key stands, and what stands beside it. -/
class Pull (S : List Chunk) (b : Nat) (X : outParam K) (F : outParam (List Chunk)) : Prop where
  perm : S.Perm ((b, X) :: F)
instance pullHere (F : List Chunk) (b : Nat) (X : K) : Pull ((b, X) :: F) b X F := ⟨.refl _⟩
instance pullThere (F F' : List Chunk) (b : Nat) (X : K) (y : Chunk) [p : Pull F b X F'] : Pull (y :: F) b X (y :: F') :=
  ⟨(List.Perm.cons y p.perm).trans (List.Perm.swap _ _ _)⟩

section
variable {w0 w : World} {S F T : List Chunk} {b : Nat} {X Y : K}
theorem Sat.perm (h : Sat w0 S w) (p : S.Perm F) : Sat w0 F w := ⟨h.base, holds_perm p h.has⟩
theorem Sat.pull (b : Nat) [p : Pull S b X F] (h : Sat w0 S w) : Sat w0 ((b, X) :: F) w := h.perm p.perm
theorem Sat.tail {x : Chunk} (h : Sat w0 (x :: F) w) : Sat w0 F w := by
  obtain ⟨b, X⟩ := x
  obtain ⟨h1, h2, _, _, l2, _, r⟩ := h.has
  exact ⟨h.base, holds_mono l2 r⟩
theorem Sat.drop (b : Nat) [Pull S b X F] (h : Sat w0 S w) : Sat w0 F w := (h.pull b).tail
theorem Sat.nothing (h : Sat w0 S w) : Sat w0 [] w := ⟨h.base, trivial⟩
theorem Sat.open (h : Sat w0 ((b, X) :: F) w) (hX : ∀ h1, X b h1 → holds T h1) : Sat w0 (T ++ F) w := ⟨h.base, holds_open h.has hX⟩
theorem Sat.close (h : Sat w0 (T ++ F) w) (hX : ∀ h1, holds T h1 → X b h1) : Sat w0 ((b, X) :: F) w := ⟨h.base, holds_close h.has hX⟩
theorem Sat.turn (h : Sat w0 ((b, X) :: F) w) {b' : Nat} (hX : ∀ h1, X b h1 → Y b' h1) : Sat w0 ((b', Y) :: F) w := by
  obtain ⟨h1, h2, d, l1, l2, hx, r⟩ := h.has
  exact ⟨h.base, h1, h2, d, l1, l2, hX h1 hx, r⟩
theorem Sat.fact (h : Sat w0 ((b, X) :: F) w) {p : Prop} (hX : ∀ h1, X b h1 → p) : p := by
  obtain ⟨h1, h2, d, l1, l2, hx, r⟩ := h.has
  exact hX h1 hx
/-- A pure fact or an unknown of a chunk, brought out. -/
theorem Sat.ex {α : Sort _} {Z : α → K} (h : Sat w0 ((b, X) :: F) w) (hX : ∀ h1, X b h1 → ∃ x, Z x b h1) : ∃ x, Sat w0 ((b, Z x) :: F) w := by
  obtain ⟨h1, h2, d, l1, l2, hx, r⟩ := h.has
  obtain ⟨x, hz⟩ := hX h1 hx
  exact ⟨x, h.base, h1, h2, d, l1, l2, hz, r⟩
theorem Sat.and (h : Sat w0 ((b, X) :: F) w) {p : Prop} (hX : ∀ h1, X b h1 → p ∧ Y b h1) : p ∧ Sat w0 ((b, Y) :: F) w := by
  obtain ⟨h1, h2, d, l1, l2, hx, r⟩ := h.has
  exact ⟨(hX h1 hx).1, h.base, h1, h2, d, l1, l2, (hX h1 hx).2, r⟩
theorem Sat.nilChunk (h : Sat w0 F w) (b : Nat) (hX : X b (fun _ => Option.none)) : Sat w0 ((b, X) :: F) w :=
  ⟨h.base, fun _ => Option.none, own w0.heap.size w, fun _ => .inl rfl, (fun k o e => by simp at e), le_refl _, hX, h.has⟩
theorem Sat.refl (w : World) : Sat w [] w := ⟨Below.refl _ _, trivial⟩
theorem Sat.drew (h : Sat w0 S w) : Sat w0 S w.drew := ⟨h.base.drew, h.has⟩
theorem Sat.drewN (h : Sat w0 S w) (n : Nat) : Sat w0 S (w.drewN n) := ⟨h.base.trans ⟨rfl, rfl, rfl, Nat.le_refl _, fun _ _ => rfl⟩, h.has⟩
theorem Sat.le (h : Sat w0 S w) : w0.heap.size ≤ w.heap.size := h.base.size
end

/-- The rules by which a frame's slots are written out. -/
theorem putW : (∀ (a : Act) (v : Value), a.put none v = a) ∧ (∀ (a : Act) (d : Tmp) (v : Value), a.put (some d) v = ⟨a.tmps.setIfInBounds d v, a.defers⟩) ∧
    (∀ (l : List Value) (i : Nat) (v : Value), l.toArray.setIfInBounds i v = (l.set i v).toArray) ∧ (∀ (x : Value) (l : List Value) (i : Nat) (v : Value), (x :: l).set (i + 1) v = x :: l.set i v) ∧
    (∀ (x : Value) (l : List Value) (v : Value), (x :: l).set 0 v = v :: l) ∧ (∀ (l : List Value) (i : Nat) (h : i < l.toArray.size), l.toArray[i] = l[i]'(by simpa using h)) ∧
    (∀ (x : Value) (l : List Value) (i : Nat) (h : i + 1 < (x :: l).length), (x :: l)[i + 1] = l[i]'(by simpa using h)) ∧ (∀ (x : Value) (l : List Value) (h : 0 < (x :: l).length), (x :: l)[0] = x) :=
  ⟨fun _ _ => rfl, fun _ _ _ => rfl, fun _ _ _ => by simp, fun _ _ _ _ => rfl, fun _ _ _ => rfl, fun _ _ _ => rfl, fun _ _ _ _ => rfl, fun _ _ _ => rfl⟩
/-- .. and a slot is read. -/
theorem evW : (∀ (a : Act) (t : Tmp), a.eval (.tmp t) = a.tmps.getD t undef) ∧ (∀ (a : Act) (v : Value), a.eval (.const v) = v) ∧ (∀ (a : Act) (g : Nat), a.eval (.global g) = .pointer (some ⟨g, 0, none⟩)) ∧
    (∀ (a : Act) (f : FuncId), a.eval (.func f) = .func (.func f) #[] #[]) ∧ (∀ (l : Array Value) (i : Nat) (d : Value), l.getD i d = l[i]?.getD d) ∧ (∀ (l : List Value) (i : Nat), l.toArray[i]? = l[i]?) ∧
    (∀ (x : Value) (l : List Value) (i : Nat), (x :: l)[i + 1]? = l[i]?) ∧ (∀ (x : Value) (l : List Value), (x :: l)[0]? = some x) ∧ (∀ (x d : Value), (some x).getD d = x) :=
  ⟨fun _ _ => rfl, fun _ _ => rfl, fun _ _ => rfl, fun _ _ => rfl, fun _ _ _ => Array.getD_eq_getD_getElem?, fun _ _ => by simp, fun _ _ _ => rfl, fun _ _ => rfl, fun _ _ => rfl⟩

/-- Where a walk is to stop. -/
structure Stopped (p : Prop) : Prop where
  out : p

/-- From one list of chunks to another. -/
class Ent (S S' : List Chunk) : Prop where
  gives : ∀ h, holds S h → holds S' h
instance (priority := low) entNil (S : List Chunk) : Ent S [] := ⟨fun _ _ => trivial⟩
instance (priority := high) entRefl (S : List Chunk) : Ent S S := ⟨fun _ h => h⟩
instance entCons (S F S' : List Chunk) (b : Nat) (X : K) [p : Pull S b X F] [e : Ent F S'] : Ent S ((b, X) :: S') :=
  ⟨fun h H => by
    obtain ⟨h1, h2, d, l1, l2, hx, r⟩ := holds_perm p.perm H
    exact ⟨h1, h2, d, l1, l2, hx, e.gives _ r⟩⟩
instance (priority := low) entSkip (S S' : List Chunk) (x : Chunk) [e : Ent S S'] : Ent (x :: S) S' :=
  ⟨fun h H => by
    obtain ⟨b, X⟩ := x
    obtain ⟨h1, h2, d, l1, l2, hx, r⟩ := H
    exact holds_mono l2 (e.gives _ r)⟩
theorem Sat.conv {w0 w : World} {S S' : List Chunk} (h : Sat w0 S w) [e : Ent S S'] : Sat w0 S' w := ⟨h.base, e.gives _ h.has⟩

/-! ### The plain chunks -/
/-- A block of cells, known whole. -/
def cells (c : Array Value) (t : TypeId) : K := fun b h => h b = some (.cells c t (0, 0))
/-- Any one object. -/
def obj (o : Obj) : K := fun b h => h b = some o

section
variable {w0 w : World} {S F : List Chunk} {b : Nat} {X Y : K} {c : Array Value} {t : TypeId} {o o' : Obj}

theorem own_some {B k : Nat} (h : own B w k = some o) : B ≤ k ∧ w.heap[k]? = some o := by
  unfold own at h
  split at h
  · cases h
  · exact ⟨by omega, h⟩
theorem Sat.heap (h : Sat w0 ((b, X) :: F) w) (hX : ∀ h1, X b h1 → h1 b = some o) : w0.heap.size ≤ b ∧ w.heap[b]? = some o := by
  obtain ⟨h1, h2, d, l1, l2, hx, r⟩ := h.has
  exact own_some (l1 b o (hX h1 hx))
theorem Sat.cellsAt (h : Sat w0 S w) [Pull S b (cells c t) F] : w0.heap.size ≤ b ∧ w.heap[b]? = some (.cells c t (0, 0)) :=
  (h.pull b).heap fun _ hx => hx
theorem Sat.cell (h : Sat w0 S w) [Pull S b (cells c t) F] (i : Nat) : w.cell? ⟨b, i, none⟩ = c[i]? := cell_of_row w b i c t (0, 0) h.cellsAt.2
theorem Sat.free (h : Sat w0 S w) [Pull S b (cells c t) F] (i : Nat) : w.frozen? ⟨b, i, none⟩ = false := frozen_of_row w b i c t h.cellsAt.2

/-- The block under the key turns. -/
theorem Sat.update (h : Sat w0 ((b, X) :: F) w) {w' : World} (hX : ∀ h1, X b h1 → h1 b = some o)
    (hsame : ∀ k, k ≠ b → w'.heap[k]? = w.heap[k]?) (hnew : w'.heap[b]? = some o') (hsz : w.heap.size ≤ w'.heap.size) (hos : w'.os = w.os) (htape : w'.tape = w.tape) (hout : w'.output = w.output)
    (hY : Y b (fun k => if k = b then some o' else Option.none)) : Sat w0 ((b, Y) :: F) w' := by
  have hb := h.heap hX
  obtain ⟨h1, h2, d, l1, l2, hx, r⟩ := h.has
  refine ⟨h.base.trans ⟨hos, htape, hout, hsz, fun k hk => hsame k (by omega)⟩, _, h2, fun k => ?_, fun k o2 e => ?_, fun k o2 e => ?_, hY, r⟩
  · by_cases hk : k = b
    · right; subst hk; exact (d k).resolve_left (by rw [hX h1 hx]; simp)
    · left; simp [hk]
  · by_cases hk : k = b
    · subst hk
      simp at e
      subst e
      unfold own
      rw [if_neg (by omega)]
      exact hnew
    · simp [hk] at e
  · by_cases hk : k = b
    · subst hk
      have := (d k).resolve_left (by rw [hX h1 hx]; simp)
      rw [this] at e; cases e
    · have := own_some (l2 k o2 e)
      unfold own
      rw [if_neg (by omega), hsame k hk]
      exact this.2

theorem Sat.setRow (h : Sat w0 S w) [Pull S b (cells c t) F] (c' : Array Value) : Sat w0 ((b, cells c' t) :: F) (w.setRow b c') := by
  have hb := h.cellsAt (b := b) (c := c) (t := t)
  refine (h.pull b).update (o := .cells c t (0, 0)) (fun _ hx => hx) (fun k hk => setRow_other w b k c' (by omega)) (setRow_heap w b c c' t (0, 0) hb.2) (by simp [World.setRow]) rfl rfl rfl ?_
  simp [cells]
theorem Sat.setCell (h : Sat w0 S w) [Pull S b (cells c t) F] (i : Nat) (v : Value) : Sat w0 ((b, cells (c.setIfInBounds i v) t) :: F) (w.setCell ⟨b, i, none⟩ v) := by
  have hb := h.cellsAt (b := b) (c := c) (t := t)
  rw [setCell_eq_setRow w b i c t (0, 0) v hb.2]
  exact h.setRow _

/-- A new block. -/
theorem Sat.fresh (h : Sat w0 S w) (o : Obj) (hY : Y w.heap.size (fun k => if k = w.heap.size then some o else Option.none)) : Sat w0 ((w.heap.size, Y) :: S) (w.alloc o) := by
  have hle := h.le
  refine ⟨h.base.alloc h.base.size o, _, own w0.heap.size w, fun k => ?_, fun k o2 e => ?_, fun k o2 e => ?_, hY, h.has⟩
  · by_cases hk : k = w.heap.size
    · right; subst hk; unfold own; split <;> simp
    · left; simp [hk]
  · by_cases hk : k = w.heap.size
    · subst hk; simp at e; subst e; unfold own; rw [if_neg (by omega)]; exact heap_alloc_new w o
    · simp [hk] at e
  · have := own_some e
    have hlt : k < w.heap.size := (Array.getElem?_eq_some_iff.1 this.2).1
    unfold own; rw [if_neg (by omega), Below.heap_alloc w o k hlt]; exact this.2
theorem Sat.freshCells (h : Sat w0 S w) (c : Array Value) (t : TypeId) : Sat w0 ((w.heap.size, cells c t) :: S) (w.alloc (.cells c t)) := h.fresh _ (by simp [cells])
end

/-! ### The operations -/
/-- The shape of a type: an aggregate? how many cells? its zero. -/
class Ty (P : Program) (t : TypeId) (agg : outParam Bool) (n : outParam Nat) (zv : outParam Value) (z : outParam (Array Value)) : Prop where
  isAgg : ∀ w, (isAgg t).run P w = .ok agg w
  size : ∀ w, (sizeOf t).run P w = .ok n w
  zero : ∀ w, (zeroValue t).run P w = .ok zv w
  cells : zv.cells = z
  len : z.size = n
def tyOk (P : Program) (t : TypeId) : Option (Bool × Nat × Option Value) :=
  match P.underlying t, P.info? t with
  | some d, some i => some ((match d with | .struct _ | .array _ _ => true | _ => false), i.size, i.zero)
  | _, _ => none
theorem Ty.mk' {P : Program} {t : TypeId} {agg : Bool} {n : Nat} {v : Value} {z : Array Value} (h : tyOk P t = some (agg, n, some v)) (hz : v.cells = z) (hl : z.size = n) : Ty P t agg n v z := by
  unfold tyOk at h
  split at h
  · rename_i d i hd hi
    simp only [Option.some.injEq, Prod.mk.injEq] at h
    obtain ⟨h1, h2, h3⟩ := h
    refine ⟨fun w => ?_, fun w => ?_, fun w => ?_, hz, hl⟩
    · unfold Go.isAgg
      rw [Sem.run_bind, run_underlying hd w]
      cases d <;> simp_all
    · simp [sizeOf, typeInfo, hi, h2]
    · simp [zeroValue, typeInfo, hi, h3]
  · cases h

section
variable {P : Program} {ops : Array Oper} {rest : List Oper} {o : Oper} {a : Act} {Q : Exit → Act → World → Prop} {w0 w : World} {S F : List Chunk}
variable {b off n : Nat} {c z : Array Value} {zv : Value} {t tb : TypeId} {agg : Bool} {x y : Operand}

theorem wp_value {v : Value} {w' : World} (hw : Region.wanted o (yielded ops a.tmps) = true) (hrun : (execOp a.eval o).run P w = .ok (.value v) w')
    (k : wpList P ops Q rest (a.put o.dst v) w') : wpList P ops Q (o :: rest) a w := by
  unfold wpList
  rw [if_pos hw]
  left
  unfold Oper.wp
  rw [hrun]
  exact k
theorem wp_skip' {w' : World} (hw : Region.wanted o (yielded ops a.tmps) = true) (hrun : (execOp a.eval o).run P w = .ok .skip w')
    (k : wpList P ops Q rest (a.put o.dst undef) w') : wpList P ops Q (o :: rest) a w := by
  unfold wpList
  rw [if_pos hw]
  left
  unfold Oper.wp
  rw [hrun]
  exact k

theorem run_load1 [ty : Ty P t false n zv z] {v : Value} {ad : Addr} (hc : w.cell? ad = some v) : (loadVar t ad).run P w = .ok v w := by
  simp [loadVar, ty.isAgg, hc]
theorem run_loadN [ty : Ty P t true n zv z] {l : List Value} (hn : l.length = n) (hc : ∀ j v, l[j]? = some v → w.cell? ⟨b, off + j, none⟩ = some v) : (loadVar t ⟨b, off, none⟩).run P w = .ok (.agg l.toArray) w := by
  have hl : (loadCells ⟨b, off, none⟩ n).run P w = .ok l.toArray w := by
    rw [← hn]
    exact run_loadCells_list (P := P) w ⟨b, off, none⟩ l (fun j v hv => by
      have hadd : (⟨b, off, none⟩ : Addr).add j = ⟨b, off + j, none⟩ := by unfold Addr.add; split <;> simp_all
      rw [hadd]; exact hc j v hv)
  simp [loadVar, ty.isAgg, ty.size, hl]

/-- A cell is read. -/
theorem load1 (hS : Sat w0 S w) (hw : Region.wanted o (yielded ops a.tmps) = true) (ho : o.op = .load t x) (hx : a.eval x = .pointer (some ⟨b, off, none⟩))
    [ty : Ty P t false n zv z] [Pull S b (cells c tb) F] {v : Value} (hc : c[off]? = some v)
    (k : wpList P ops Q rest (a.put o.dst v) w) : wpList P ops Q (o :: rest) a w := by
  refine wp_value hw ?_ k
  have h1 : (loadVar t ⟨b, off, none⟩).run P w = .ok v w := run_load1 (by rw [hS.cell (b := b) (c := c) (t := tb)]; exact hc)
  simp [execOp, ho, hx, Instr.loadAt, Instr.sureAddr, h1]
/-- A whole variable of several cells is read. -/
theorem loadAll (hS : Sat w0 S w) (hw : Region.wanted o (yielded ops a.tmps) = true) (ho : o.op = .load t x) (hx : a.eval x = .pointer (some ⟨b, 0, none⟩))
    [ty : Ty P t true n zv z] [Pull S b (cells c tb) F] (hn : c.size = n)
    (k : wpList P ops Q rest (a.put o.dst (.agg c)) w) : wpList P ops Q (o :: rest) a w := by
  refine wp_value hw ?_ k
  have h1 : (loadVar t ⟨b, 0, none⟩).run P w = .ok (.agg c) w := by
    have := run_loadN (P := P) (w := w) (t := t) (b := b) (off := 0) (l := c.toList) (by simpa using hn) (fun j v hv => by
      rw [hS.cell (b := b) (c := c) (t := tb)]; simpa using hv)
    simpa using this
  simp [execOp, ho, hx, Instr.loadAt, Instr.sureAddr, h1]
/-- A part of several cells is read. -/
theorem loadPart (hS : Sat w0 S w) (hw : Region.wanted o (yielded ops a.tmps) = true) (ho : o.op = .load t x) (hx : a.eval x = .pointer (some ⟨b, off, none⟩))
    [ty : Ty P t true n zv z] [Pull S b (cells c tb) F] {l : List Value} (hn : l.length = n) (hl : (c.toList.drop off).take n = l)
    (k : wpList P ops Q rest (a.put o.dst (.agg l.toArray)) w) : wpList P ops Q (o :: rest) a w := by
  refine wp_value hw ?_ k
  have h1 : (loadVar t ⟨b, off, none⟩).run P w = .ok (.agg l.toArray) w := run_loadN hn (fun j v hv => by
      rw [hS.cell (b := b) (c := c) (t := tb)]
      rw [← hl, List.getElem?_take] at hv
      split at hv
      · rw [List.getElem?_drop] at hv; simpa using hv
      · cases hv)
  simp [execOp, ho, hx, Instr.loadAt, Instr.sureAddr, h1]

theorem run_loadAll (hS : Sat w0 S w) (b : Nat) (t : TypeId) [ty : Ty P t true n zv z] [Pull S b (cells c tb) F] (hn : c.size = n) : (loadVar t ⟨b, 0, none⟩).run P w = .ok (.agg c) w := by
  have := run_loadN (P := P) (w := w) (t := t) (b := b) (off := 0) (l := c.toList) (by simpa using hn) (fun j v hv => by
    rw [hS.cell (b := b) (c := c) (t := tb)]; simpa using hv)
  simpa using this

theorem setIf_eq (c : Array Value) (i : Nat) (v : Value) (hi : i < c.size) : (c.toList.take i ++ [v] ++ c.toList.drop (i + 1)).toArray = c.setIfInBounds i v := by
  apply Array.ext'
  simp only [Array.toList_setIfInBounds]
  rw [List.set_eq_take_append_cons_drop]
  simp [hi]

/-- A cell is written. -/
theorem store1 (hS : Sat w0 S w) (hw : Region.wanted o (yielded ops a.tmps) = true) (ho : o.op = .store t x y) (hx : a.eval x = .pointer (some ⟨b, off, none⟩))
    [ty : Ty P t agg 1 zv z] {v : Value} (hy : a.eval y = v) (hv : v.oneCell' = true) [Pull S b (cells c tb) F] (hoff : off < c.size)
    (k : ∀ w', Sat w0 ((b, cells (c.setIfInBounds off v) tb) :: F) w' → wpList P ops Q rest (a.put o.dst undef) w') : wpList P ops Q (o :: rest) a w := by
  have hcs : v.cells = #[v] := by cases v <;> simp_all [Value.cells, Value.oneCell']
  have hg := hS.cellsAt (b := b) (c := c) (t := tb)
  have hst := run_storeCells_at (P := P) b off tb [v] 0 c w hg.2 (by simp; omega) (by simpa using hv)
  simp only [Nat.add_zero, List.length_cons, List.length_nil, Nat.zero_add] at hst
  have e1 := setIf_eq c off v hoff
  simp only [List.append_assoc] at e1 hst
  rw [e1] at hst
  refine wp_skip' (w' := w.setRow b (c.setIfInBounds off v)) hw ?_ (k _ (hS.setRow _))
  simp [execOp, ho, hx, hy, Instr.storeAt, Instr.sureAddr, storeVar, ty.size, hcs, hst]
/-- Several cells are written. -/
theorem storeN (hS : Sat w0 S w) (hw : Region.wanted o (yielded ops a.tmps) = true) (ho : o.op = .store t x y) (hx : a.eval x = .pointer (some ⟨b, off, none⟩))
    [ty : Ty P t agg n zv z] {cs : Array Value} (hy : a.eval y = .agg cs) (hn : cs.size = n) (hv : ∀ v ∈ cs.toList, v.oneCell' = true) [Pull S b (cells c tb) F] (hoff : off + n ≤ c.size)
    (k : ∀ w', Sat w0 ((b, cells (c.toList.take off ++ cs.toList ++ c.toList.drop (off + n)).toArray tb) :: F) w' → wpList P ops Q rest (a.put o.dst undef) w') : wpList P ops Q (o :: rest) a w := by
  have hg := hS.cellsAt (b := b) (c := c) (t := tb)
  have hst := run_storeCells_at (P := P) b off tb cs.toList 0 c w hg.2 (by simp; omega) hv
  simp only [Nat.add_zero, Array.length_toList, hn] at hst
  refine wp_skip' (w' := w.setRow b _) hw ?_ (k _ (hS.setRow _))
  have hcs : (Value.agg cs).cells = cs := rfl
  simp [execOp, ho, hx, hy, Instr.storeAt, Instr.sureAddr, storeVar, ty.size, hcs, hn]
  simp at hst
  rw [hst]
  rfl
/-- .. all the cells of a block. -/
theorem storeAll (hS : Sat w0 S w) (hw : Region.wanted o (yielded ops a.tmps) = true) (ho : o.op = .store t x y) (hx : a.eval x = .pointer (some ⟨b, 0, none⟩))
    [ty : Ty P t agg n zv z] {cs : Array Value} (hy : a.eval y = .agg cs) (hn : cs.size = n) (hv : ∀ v ∈ cs.toList, v.oneCell' = true) [Pull S b (cells c tb) F] (hc : c.size = n)
    (k : ∀ w', Sat w0 ((b, cells cs tb) :: F) w' → wpList P ops Q rest (a.put o.dst undef) w') : wpList P ops Q (o :: rest) a w := by
  refine storeN hS hw ho hx hy hn hv (b := b) (c := c) (tb := tb) (by omega) fun w' h => k w' ?_
  have e : c.toList.drop (0 + n) = [] := List.drop_eq_nil_of_le (by simp; omega)
  simp only [e, List.take_zero, List.nil_append, List.append_nil, Array.toArray_toList] at h
  exact h
/-- A new variable. -/
theorem alloc (hS : Sat w0 S w) (hw : Region.wanted o (yielded ops a.tmps) = true) (ho : o.op = .alloc t) [ty : Ty P t agg n zv z]
    (k : ∀ m w', Sat w0 ((m, cells z t) :: S) w' → wpList P ops Q rest (a.put o.dst (.pointer (some ⟨m, 0, none⟩))) w') : wpList P ops Q (o :: rest) a w := by
  refine wp_value (w' := w.alloc (.cells z t)) hw ?_ (k w.heap.size _ (hS.freshCells z t))
  simp [execOp, ho, Instr.alloc, ty.zero, newVar, newRow, ty.cells]
theorem box1 (hS : Sat w0 S w) (hw : Region.wanted o (yielded ops a.tmps) = true) (ho : o.op = .box t x) {v : Value} (hx : a.eval x = v) (hv : v.oneCell' = true)
    (k : ∀ m w', Sat w0 ((m, cells #[v] t) :: S) w' → wpList P ops Q rest (a.put o.dst (.pointer (some ⟨m, 0, none⟩))) w') : wpList P ops Q (o :: rest) a w := by
  have hcs : v.cells = #[v] := by cases v <;> simp_all [Value.cells, Value.oneCell']
  refine wp_value (w' := w.alloc (.cells #[v] t)) hw ?_ (k w.heap.size _ (hS.freshCells _ t))
  simp [execOp, ho, hx, Instr.box, newVar, newRow, hcs]
theorem boxN (hS : Sat w0 S w) (hw : Region.wanted o (yielded ops a.tmps) = true) (ho : o.op = .box t x) {cs : Array Value} (hx : a.eval x = .agg cs)
    (k : ∀ m w', Sat w0 ((m, cells cs t) :: S) w' → wpList P ops Q rest (a.put o.dst (.pointer (some ⟨m, 0, none⟩))) w') : wpList P ops Q (o :: rest) a w := by
  refine wp_value (w' := w.alloc (.cells cs t)) hw ?_ (k w.heap.size _ (hS.freshCells _ t))
  simp [execOp, ho, hx, Instr.box, newVar, newRow, Value.cells]
end
end Go.Proofs.YtkppoffljkpiaaaDoor.Sl
