/-
  latch: nobody waits for a latch that nobody has: the plain law.
-/
import Derived.Test.YtojdkioimklhmaaLaInv
set_option linter.unusedSimpArgs false
set_option linter.unusedVariables false
namespace Go.Proofs.Ytojdkioimklhmaa
open Go.RowKit Go.Proofs.Ytojdkioimklhmaa.Sl

/-- Nothing more can be granted, and what is had alone is had. -/
structure Settled (P : LtP) : Prop where
  fin : grantP P = none
  had : P.alone = true → P.has ≠ []
theorem Settled.holder {P : LtP} (h : Settled P) (hq : P.queue ≠ []) : P.has ≠ [] := by
  have h1 := h.fin
  unfold grantP at h1
  split at h1
  · rename_i hq2
    exact absurd hq2 hq
  · rename_i r q hq2
    split at h1
    · rename_i hc
      rcases hc with hc | ⟨-, hc⟩
      · exact h.had hc
      · intro e
        rw [e] at hc
        cases hc
    · cases h1
theorem lt0_settled : Settled lt0P := ⟨rfl, fun h => by cases h⟩
theorem mput_ne {has : List (Int × Unit)} {k : Int} : mput has k () ≠ [] := by
  intro e
  have := mget_mput has k () k
  rw [e, if_pos rfl] at this
  cases this
theorem grant_had {P P' : LtP} {k : Int} (h : grantP P = some (k, P')) : P'.alone = true → P'.has ≠ [] := by
  unfold grantP at h
  split at h
  · cases h
  · split at h
    · cases h
    · cases h
      exact fun _ => mput_ne
theorem settle_settled : ∀ (n : Nat) {P : LtP}, P.queue.length ≤ n → (P.alone = true → P.has ≠ []) → Settled (settle n P).2
  | 0, P, hq, hh => ⟨grant_end (Nat.le_zero.1 hq), hh⟩
  | n + 1, P, hq, hh => by
    cases hg : grantP P with
    | none => rw [settle_none hg]; exact ⟨hg, hh⟩
    | some x =>
      obtain ⟨k, P'⟩ := x
      rw [settle_some hg]
      have hl := grant_len hg
      exact settle_settled n (by omega) (grant_had hg)
theorem free_settled {P : LtP} {task : Int} (h : Settled P) : Settled (freeP P task).2 := by
  refine settle_settled _ (Nat.le_refl _) fun hal => ?_
  unfold without at hal ⊢
  simp only at hal ⊢
  by_cases hb : (mget P.has task).isSome = true
  · rw [if_pos hb] at hal
    cases hal
  · rw [if_neg hb] at hal
    rw [mdel_absent (by simpa using hb)]
    exact h.had hal
theorem ask_settled {P : LtP} {task : Int} {al : Bool} (h : Settled P) : Settled (askL P task al).2 := by
  unfold askL
  split
  · rename_i hq
    cases hg : grantP (queued P task al) with
    | none => exact ⟨hg, h.had⟩
    | some x =>
      obtain ⟨k, P'⟩ := x
      have hl := grant_len hg
      have h0 : P'.queue.length = 0 := by
        have : (queued P task al).queue.length = 1 := by simp [queued, hq]
        omega
      exact ⟨grant_end h0, grant_had hg⟩
  · rename_i hq
    refine ⟨?_, h.had⟩
    have h1 := h.fin
    unfold grantP at h1 ⊢
    unfold queued
    simp only
    cases hP : P.queue with
    | nil => exact absurd hP hq
    | cons r q =>
      rw [hP] at h1
      simp only [List.cons_append] at h1 ⊢
      split at h1
      · rename_i hc
        rw [if_pos hc]
      · cases h1
/-- Who is in a latch. -/
def inLt (P : LtP) (task : Int) : Prop := (mget P.has task).isSome = true ∨ ∃ b, (task, b) ∈ P.queue
theorem grant_in {P P' : LtP} {k task : Int} (h : grantP P = some (k, P')) : inLt P' task → inLt P task := by
  unfold grantP at h
  split at h
  · cases h
  · rename_i r q hq
    split at h
    · cases h
    · cases h
      rintro (h1 | ⟨b, h1⟩)
      · have h2 := mget_mput P.has r.1 () task
        rw [show (mget (mput P.has r.1 ()) task) = _ from h2] at h1
        by_cases e : task = r.1
        · refine .inr ⟨r.2, ?_⟩
          rw [hq, e]
          exact List.mem_cons_self ..
        · rw [if_neg e] at h1
          exact .inl h1
      · refine .inr ⟨b, ?_⟩
        rw [hq]
        exact List.mem_cons_of_mem _ h1
theorem settle_in : ∀ (n : Nat) {P : LtP} {task : Int}, inLt (settle n P).2 task → inLt P task
  | 0, _, _, h => h
  | n + 1, P, task, h => by
    cases hg : grantP P with
    | none => rw [settle_none hg] at h; exact h
    | some x =>
      obtain ⟨k, P'⟩ := x
      rw [settle_some hg] at h
      exact grant_in hg (settle_in n h)
theorem without_in {P : LtP} {t task : Int} (h : inLt (without P t) task) : inLt P task ∧ task ≠ t := by
  unfold without at h
  rcases h with h | ⟨b, h⟩
  · have h2 : (mget (mdel P.has t) task).isSome = true := h
    rw [mget_mdel] at h2
    by_cases e : task = t
    · rw [if_pos e] at h2; cases h2
    · rw [if_neg e] at h2
      exact ⟨.inl h2, e⟩
  · have h2 : (task, b) ∈ others P.queue t := h
    have h3 := List.mem_filter.1 h2
    exact ⟨.inr ⟨b, h3.1⟩, by simpa using h3.2⟩
theorem free_in {P : LtP} {t task : Int} (h : inLt (freeP P t).2 task) : inLt P task ∧ task ≠ t := without_in (settle_in _ h)
theorem queued_in {P : LtP} {t task : Int} {al : Bool} (h : inLt (queued P t al) task) : inLt P task ∨ task = t := by
  rcases h with h | ⟨b, h⟩
  · exact .inl (.inl h)
  · rcases List.mem_append.1 (show (task, b) ∈ P.queue ++ [(t, al)] from h) with h | h
    · exact .inl (.inr ⟨b, h⟩)
    · have := List.mem_singleton.1 h
      cases this
      exact .inr rfl
theorem ask_in {P : LtP} {t task : Int} {al : Bool} (h : inLt (askL P t al).2 task) : inLt P task ∨ task = t := by
  unfold askL at h
  split at h
  · cases hg : grantP (queued P t al) with
    | none => rw [hg] at h; exact queued_in h
    | some x =>
      obtain ⟨k, P'⟩ := x
      rw [hg] at h
      exact queued_in (grant_in hg h)
  · exact queued_in h
end Go.Proofs.Ytojdkioimklhmaa
