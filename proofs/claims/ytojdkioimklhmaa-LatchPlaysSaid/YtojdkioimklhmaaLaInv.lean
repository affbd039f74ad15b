/-
  latch: what holds of every table: sizes, and a latch that is had alone is had by one.
-/
import Derived.Test.YtojdkioimklhmaaLaAwake
set_option linter.unusedSimpArgs false
set_option linter.unusedVariables false
namespace Go.Proofs.Ytojdkioimklhmaa
open Go.RowKit Go.Proofs.Ytojdkioimklhmaa.Sl

/-- A latch that is had alone is had by one at most. -/
def LtInv (P : LtP) : Prop := P.alone = true → P.has.length ≤ 1
theorem grant_inv {P P' : LtP} {k : Int} (h : grantP P = some (k, P')) : LtInv P' := by
  unfold grantP at h
  split at h
  · cases h
  · rename_i r q hq
    split at h
    · cases h
    · rename_i hn
      cases h
      intro hal
      have hal2 : r.2 = true := hal
      have h0 : P.has.length = 0 := by
        rcases Nat.eq_zero_or_pos P.has.length with h | h
        · exact h
        · exact absurd (.inr ⟨hal2, h⟩) hn
      show (mput P.has r.1 ()).length ≤ 1
      rw [List.eq_nil_of_length_eq_zero h0]
      exact Nat.le_refl 1
theorem settle_inv : ∀ (n : Nat) {P : LtP}, LtInv P → LtInv (settle n P).2
  | 0, _, h => h
  | n + 1, P, h => by
    cases hg : grantP P with
    | none => rw [settle_none hg]; exact h
    | some x =>
      obtain ⟨k, P'⟩ := x
      rw [settle_some hg]
      exact settle_inv n (grant_inv hg)
theorem without_inv {P : LtP} {task : Int} (h : LtInv P) : LtInv (without P task) := by
  intro hal
  unfold without at hal ⊢
  simp only at hal ⊢
  by_cases hb : (mget P.has task).isSome = true
  · rw [if_pos hb] at hal
    cases hal
  · rw [if_neg hb] at hal
    exact Nat.le_trans (List.length_filter_le _ _) (h hal)
theorem free_inv {P : LtP} {task : Int} (h : LtInv P) : LtInv (freeP P task).2 := settle_inv _ (without_inv h)
theorem queued_inv {P : LtP} {task : Int} {al : Bool} (h : LtInv P) : LtInv (queued P task al) := h
theorem ask_inv {P : LtP} {task : Int} {al : Bool} (h : LtInv P) : LtInv (askL P task al).2 := by
  unfold askL
  split
  · cases hg : grantP (queued P task al) with
    | none => exact queued_inv h
    | some x => exact grant_inv hg
  · exact queued_inv h
theorem lt0_inv : LtInv lt0P := fun h => by cases h
/-- The queue grows by one at most. -/
theorem settle_q : ∀ (n : Nat) (P : LtP), (settle n P).2.queue.length ≤ P.queue.length
  | 0, _ => Nat.le_refl _
  | n + 1, P => by
    cases hg : grantP P with
    | none => rw [settle_none hg]; exact Nat.le_refl _
    | some x =>
      obtain ⟨k, P'⟩ := x
      rw [settle_some hg]
      have h1 := settle_q n P'
      have h2 := grant_len hg
      show (settle n P').2.queue.length ≤ _
      omega
theorem free_q (P : LtP) (task : Int) : (freeP P task).2.queue.length ≤ P.queue.length :=
  Nat.le_trans (settle_q _ _) (List.length_filter_le _ _)
theorem ask_q (P : LtP) (task : Int) (al : Bool) : (askL P task al).2.queue.length ≤ P.queue.length + 1 := by
  have hq : (queued P task al).queue.length = P.queue.length + 1 := by simp [queued]
  unfold askL
  split
  · cases hg : grantP (queued P task al) with
    | none => exact Nat.le_of_eq hq
    | some x =>
      have := grant_len (P := queued P task al) (P' := x.2) (k := x.1) hg
      show x.2.queue.length ≤ _
      omega
  · exact Nat.le_of_eq hq
/-- The sizes, behind i acts. -/
structure Sized (PL : PLts) (i : Nat) : Prop where
  num : PL.length ≤ i
  que : ∀ e ∈ PL, e.2.queue.length ≤ i
theorem Sized.start : Sized [] 0 := ⟨Nat.le_refl _, fun e he => by cases he⟩
theorem Sized.up {PL : PLts} {i : Nat} (h : Sized PL i) : Sized PL (i + 1) := ⟨Nat.le_succ_of_le h.num, fun e he => Nat.le_succ_of_le (h.que e he)⟩
theorem mem_put {PL : PLts} {key : Int} {l : LtP} {e : Int × LtP} (he : e ∈ mput PL key l) : e ∈ PL ∨ e = (key, l) := by
  unfold mput at he
  split at he
  · rcases List.mem_or_eq_of_mem_set he with h | h
    · exact .inl h
    · exact .inr h
  · rcases List.mem_append.1 he with h | h
    · exact .inl h
    · exact .inr (List.mem_singleton.1 h)
theorem at_mem {PL : PLts} {key : Int} : (key, atKey PL key) ∈ PL ∨ atKey PL key = lt0P := by
  unfold atKey
  cases h : mget PL key with
  | none => exact .inr rfl
  | some x => exact .inl (mget_mem h)
theorem at_que {PL : PLts} {key : Int} {i : Nat} (h : Sized PL i) : (atKey PL key).queue.length ≤ i := by
  rcases at_mem (PL := PL) (key := key) with h1 | h1
  · exact h.que _ h1
  · rw [h1]; exact Nat.zero_le _
theorem Sized.ask {PL : PLts} {i : Nat} {key task : Int} {al : Bool} (h : Sized PL i) : Sized (mput PL key (askL (atKey PL key) task al).2) (i + 1) := by
  refine ⟨?_, fun e he => ?_⟩
  · rw [length_mput]
    have := h.num
    split <;> omega
  · rcases mem_put he with h1 | rfl
    · exact Nat.le_succ_of_le (h.que e h1)
    · have h1 := ask_q (atKey PL key) task al
      have h2 := at_que (key := key) h
      show (askL (atKey PL key) task al).2.queue.length ≤ i + 1
      omega
theorem Sized.free {PL : PLts} {i : Nat} {task : Int} (h : Sized PL i) : Sized (freeAll task PL) (i + 1) := by
  refine ⟨?_, fun e he => ?_⟩
  · unfold freeAll
    rw [List.length_map]
    exact Nat.le_succ_of_le h.num
  · obtain ⟨x, hx, rfl⟩ := List.mem_map.1 he
    have h1 := free_q x.2 task
    have h2 := h.que x hx
    show (freeP x.2 task).2.queue.length ≤ i + 1
    omega
def AllInv (PL : PLts) : Prop := ∀ e ∈ PL, LtInv e.2
theorem at_inv {PL : PLts} {key : Int} (h : AllInv PL) : LtInv (atKey PL key) := by
  rcases at_mem (PL := PL) (key := key) with h1 | h1
  · exact h _ h1
  · rw [h1]; exact lt0_inv
theorem AllInv.ask {PL : PLts} {key task : Int} {al : Bool} (h : AllInv PL) : AllInv (mput PL key (askL (atKey PL key) task al).2) := fun e he => by
  rcases mem_put he with h1 | rfl
  · exact h e h1
  · exact ask_inv (at_inv h)
theorem AllInv.free {PL : PLts} {task : Int} (h : AllInv PL) : AllInv (freeAll task PL) := fun e he => by
  obtain ⟨x, hx, rfl⟩ := List.mem_map.1 he
  exact free_inv (h x hx)
theorem holds_one {PL : PLts} {t1 t2 key : Int} (h : AllInv PL) (h1 : holdsP PL t1 key = 2) (h2 : 0 < holdsP PL t2 key) : t1 = t2 := by
  unfold holdsP at h1 h2
  cases hg : mget PL key with
  | none => rw [hg] at h1; cases h1
  | some P =>
    rw [hg] at h1 h2
    simp only at h1 h2
    by_cases b1 : (mget P.has t1).isSome = true
    · rw [if_pos b1] at h1
      by_cases b2 : (mget P.has t2).isSome = true
      · by_cases ba : P.alone = true
        · have hl := h _ (mget_mem hg) ba
          obtain ⟨u1, e1⟩ := Option.isSome_iff_exists.1 b1
          obtain ⟨u2, e2⟩ := Option.isSome_iff_exists.1 b2
          have m1 := mget_mem e1
          have m2 := mget_mem e2
          match hh : P.has, hl with
          | [], _ => rw [hh] at m1; cases m1
          | [p], _ =>
            rw [hh] at m1 m2
            have a1 := List.mem_singleton.1 m1
            have a2 := List.mem_singleton.1 m2
            have := a1.trans a2.symm
            cases this
            rfl
        · rw [if_neg ba] at h1
          cases h1
      · rw [if_neg b2] at h2
        cases h2
    · rw [if_neg b1] at h1
      cases h1
theorem holds_range (PL : PLts) (task key : Int) : 0 ≤ holdsP PL task key ∧ holdsP PL task key ≤ 2 := by
  unfold holdsP
  split
  · decide
  · split
    · split <;> decide
    · decide
end Go.Proofs.Ytojdkioimklhmaa
