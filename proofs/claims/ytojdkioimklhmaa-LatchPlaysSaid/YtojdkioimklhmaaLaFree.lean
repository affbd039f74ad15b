/-
  latch: Free.
-/
import Derived.Test.YtojdkioimklhmaaLaAsk
import Derived.Test.YtojdkioimklhmaaSlItDel
import Derived.Test.YtojdkioimklhmaaShelf
import Derived.Test.YtojdkioimklhmaaSlSort
set_option linter.unusedSimpArgs false
set_option linter.unusedVariables false
namespace Go.Proofs.Ytojdkioimklhmaa
open Go.RowKit Go.Shelf Go.Proofs.Ytojdkioimklhmaa.Sl

/-- What is granted, one behind the other. -/
def settle : Nat → LtP → List Int × LtP
  | 0, P => ([], P)
  | n + 1, P => match grantP P with
    | none => ([], P)
    | some x => (x.1 :: (settle n x.2).1, (settle n x.2).2)
theorem grant_len {P P' : LtP} {k : Int} (h : grantP P = some (k, P')) : P'.queue.length + 1 = P.queue.length := by
  unfold grantP at h
  split at h
  · cases h
  · rename_i r q hq
    split at h
    · cases h
    · cases h
      rw [hq]
      rfl
theorem grant_end {P : LtP} (h : P.queue.length = 0) : grantP P = none := by
  unfold grantP
  rw [List.eq_nil_of_length_eq_zero h]
/-- A latch without a task. -/
def without (P : LtP) (task : Int) : LtP := ⟨mdel P.has task, if (mget P.has task).isSome then false else P.alone, others P.queue task⟩
def freeP (P : LtP) (task : Int) : List Int × LtP := settle (others P.queue task).length (without P task)
theorem settle_none {P : LtP} (h : grantP P = none) : ∀ n, settle n P = ([], P)
  | 0 => rfl
  | n + 1 => by unfold settle; rw [h]
theorem settle_some {P P' : LtP} {k : Int} (h : grantP P = some (k, P')) (n : Nat) : settle (n + 1) P = (k :: (settle n P').1, (settle n P').2) := by
  rw [settle, h]
/-- What waits no more. -/
def unwait (W : Wts) (l : List Int) : Wts := l.foldl (fun W k => mdel W k) W
theorem unwait_app (W : Wts) (l m : List Int) : unwait W (l ++ m) = unwait (unwait W l) m := List.foldl_append
section
variable {w0 w : World} {K F S : List Chunk} {a t tb wm : Nat} {P : LtP} {PL : PLts} {LL L1 L2 : Lts} {W : Wts} {key task : Int} {al : Bool} {v : Value} {L : List Int}
/-- The block under the key turns, and new blocks come. -/
theorem satGrown {g : Nat} {X Y : Sl.K} {w' : World} {o o' : Obj} (h : Sat w0 ((g, X) :: F) w) (hX : ∀ h1, X g h1 → h1 g = some o) (hg : w.grownBy w' (some g)) (hnew : w'.heap[g]? = some o') (hY : Y g (fun k => if k = g then some o' else none)) : Sat w0 ((g, Y) :: F) w' := by
  have hb := h.heap hX
  obtain ⟨h1, h2, d, l1, l2, hx, r⟩ := h.has
  refine ⟨h.base.trans ⟨hg.os, hg.tape, hg.output, hg.size, fun k hk => hg.block k (Nat.lt_of_lt_of_le hk h.base.size) (by intro e; cases e; omega)⟩, _, h2, fun k => ?_, fun k o2 e => ?_, fun k o2 e => ?_, hY, r⟩
  · by_cases hk : k = g
    · right; subst hk; exact (d k).resolve_left (by rw [hX h1 hx]; simp)
    · left; simp [hk]
  · by_cases hk : k = g
    · subst hk
      simp at e
      subst e
      unfold own
      rw [if_neg (by omega)]
      exact hnew
    · simp [hk] at e
  · by_cases hk : k = g
    · subst hk
      have := (d k).resolve_left (by rw [hX h1 hx]; simp)
      rw [this] at e; cases e
    · have h3 := own_some (l2 k o2 e)
      have h4 : k < w.heap.size := (Array.getElem?_eq_some_iff.1 h3.2).1
      unfold own
      rw [if_neg (by omega), hg.block k h4 (by intro e2; cases e2; exact hk rfl)]
      exact h3.2
theorem flat64 : ∀ L : List Int, L.flatMap i64 = L.map (Value.int .i64)
  | [] => rfl
  | x :: L => by
    rw [List.flatMap_cons, flat64 L]
    rfl
/-- slices.Sort of a slice of the call's own. -/
theorem sort_any (hl : L.length ≤ 1000000) (hS : Sat w0 ((blk v, sl 1 i64 L 3 v) :: K) w) : Calls Try.prog 24 #[v] w fun e w' => e = .returned (.tuple #[]) ∧ Sat w0 ((blk v, sl 1 i64 (sortI L) 3 v) :: K) w' := by
  obtain ⟨b0, hb0⟩ : ∃ b0, blk v = b0 := ⟨_, rfl⟩
  rw [hb0] at hS ⊢
  rcases hS.slCases with ⟨rfl, rfl, hF⟩ | ⟨cap, rfl, hC⟩
  · refine Calls.mono (AnyM.slices_Sort_int_none sortA none 0 w) ?_
    rintro e w' ⟨rfl, rfl⟩
    exact ⟨rfl, by rw [show sortI [] = [] by simp [sortI]]; exact hS⟩
  · obtain ⟨cur, hcur, k1, k2, k3, k4, k5⟩ := hC.slcOf (g := b0) (n := 1) (f := i64) (l := L) (cap := cap) (t := 3)
    have hg := hcur.cellsAt (b := b0) (c := cur) (t := 3)
    have hlt : b0 < w.heap.size := (Array.getElem?_eq_some_iff.1 hg.2).1
    rw [flat64, Nat.mul_one] at k4
    have hH := holds_of_block_i hg.2 k4
    refine Calls.mono (AnyM.slices_Sort_int sortA b0 0 cap L w hH hlt (by omega)) ?_
    rintro e w' ⟨rfl, n, os, rfl⟩
    refine ⟨rfl, ?_⟩
    have hnew := heap_sorted_i (n := n) (os := os) (sortI L).toArray hg.2
    have h1 : Sat w0 ((b0, cells (Sort.putCells encZ 0 (sortI L).toArray cur) 3) :: K) _ := satGrown hcur (fun _ h => h) (grownBy_sorted_i (n := n) (os := os) (sortI L).toArray) hnew (by simp [cells])
    have hls : (sortI L).length = L.length := sortI_len L
    have h2 := h1.toSlc (l := sortI L) (cap := cap) (n := 1) (f := i64) (by simp [Sort.putCells, k1]) (by rw [hls]; exact k2) k3 (by rw [flat64, Nat.mul_one]; exact take_putCells_i cur (sortI L) (by rw [hls, k1]; omega)) (fun _ _ => rfl)
    have h3 := h2.slOfSlc
    rw [hls] at h3
    exact h3
end
end Go.Proofs.Ytojdkioimklhmaa
