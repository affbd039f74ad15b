/-
  The slots and the document's list of slots: how they hang together.
-/
import Derived.Test.YthlcjefkhlfkpaaSpAwake
import Derived.Test.YthlcjefkhlfkpaaSlA
set_option linter.unusedSimpArgs false
set_option linter.unusedVariables false
namespace Go.Proofs.Ythlcjefkhlfkpaa
open Go.RowKit Go.Proofs.Ythlcjefkhlfkpaa.Sl

theorem findIdx_unique {α : Type} {p : α → Bool} {L : List α} {i : Nat} (hi : ∃ s, L[i]? = some s ∧ p s = true) (hu : ∀ j s, L[j]? = some s → p s = true → j = i) : L.findIdx? p = some i := by
  cases h : L.findIdx? p with
  | none =>
    obtain ⟨s, h1, h2⟩ := hi
    have := List.findIdx?_eq_none_iff.1 h s (List.mem_of_getElem? h1)
    simp [h2] at this
  | some j =>
    obtain ⟨hj, hp, _⟩ := List.findIdx?_eq_some_iff_getElem.1 h
    rw [hu j _ (List.getElem?_eq_getElem hj) hp]

structure Tie (n : Nat) (fl : List Bool) (m : List (Int × (Nat × En))) (R : List Rs) : Prop where
  len : R.length = n
  free : fl = R.map Rs.free
  has : ∀ page i x, mget m page = some (i, x) ↔ R[i]? = some ⟨false, page, x⟩

theorem Tie.start (n : Nat) : Tie n (List.replicate n true) [] (List.replicate n freeRs) := by
  refine ⟨by simp, by simp [freeRs], fun page i x => ?_⟩
  rw [List.getElem?_replicate]
  simp [freeRs]
section
variable {n : Nat} {fl : List Bool} {m : List (Int × (Nat × En))} {R : List Rs}
theorem Tie.of_some (h : Tie n fl m R) {page : Int} {i : Nat} {x : En} (hm : mget m page = some (i, x)) : ofFrom R page 0 = i ∧ R[i]? = some ⟨false, page, x⟩ ∧ i < n := by
  have hi := (h.has page i x).1 hm
  refine ⟨?_, hi, by rw [← h.len]; exact (List.getElem?_eq_some_iff.1 hi).1⟩
  unfold ofFrom
  rw [List.drop_zero, findIdx_unique (i := i) ⟨_, hi, by simp⟩ fun j s hj hp => ?_]
  · simp
  · obtain ⟨fr, pg, y⟩ := s
    simp only [Bool.and_eq_true, Bool.not_eq_true', beq_iff_eq] at hp
    obtain ⟨rfl, rfl⟩ := hp
    have := (h.has pg j y).2 hj
    rw [hm] at this
    simp at this
    exact this.1.symm
theorem Tie.of_none (h : Tie n fl m R) {page : Int} (hm : mget m page = none) : ofFrom R page 0 = -1 := by
  unfold ofFrom
  have : (R.drop 0).findIdx? (fun s => !s.free && s.page == page) = none := by
    rw [List.drop_zero, List.findIdx?_eq_none_iff]
    intro s hs
    obtain ⟨j, hj⟩ := List.mem_iff_getElem?.1 hs
    obtain ⟨fr, pg, y⟩ := s
    cases fr
    · by_cases e : pg = page
      · subst e
        have := (h.has pg j y).2 hj
        rw [hm] at this
        cases this
      · simpa using e
    · simp
  rw [this]
theorem Tie.index (h : Tie n fl m R) : idxFrom fl true 0 = freeFrom R 0 := by
  unfold idxFrom freeFrom
  rw [h.free, List.drop_zero, List.drop_zero, List.findIdx?_map]
  have : ((fun s => true == s) ∘ Rs.free) = fun s : Rs => s.free := by funext s; simp
  rw [this]
theorem freeFrom_range (R : List Rs) : freeFrom R 0 = -1 ∨ ∃ j : Nat, freeFrom R 0 = j ∧ j < R.length ∧ ∃ pg x, R[j]? = some ⟨true, pg, x⟩ := by
  unfold freeFrom
  rw [List.drop_zero]
  cases h : R.findIdx? (fun s => s.free) with
  | none => exact .inl rfl
  | some j =>
    obtain ⟨hj, hp, _⟩ := List.findIdx?_eq_some_iff_getElem.1 h
    refine .inr ⟨j, by simp, hj, R[j].page, R[j].x, ?_⟩
    rw [List.getElem?_eq_getElem hj]
    congr 1
    cases hR : R[j]
    rw [hR] at hp
    simp at hp
    simp [hp]
theorem Tie.freed (h : Tie n fl m R) {page : Int} {i : Nat} {x : En} (hm : mget m page = some (i, x)) : Tie n (fl.set i true) (mdel m page) (R.set i freeRs) := by
  obtain ⟨_, hi, hlt⟩ := h.of_some hm
  have hl := h.len
  refine ⟨by simp [hl], by rw [h.free, List.map_set]; rfl, fun page' i' x' => ?_⟩
  rw [mget_mdel, List.getElem?_set]
  by_cases e : page' = page
  · subst e
    by_cases e2 : i = i'
    · subst e2
      simp [freeRs, hl, hlt]
    · simp only [if_true, if_neg e2]
      rw [← h.has, hm]
      simp only [Option.some.injEq, Prod.mk.injEq, reduceCtorEq, false_iff]
      exact fun hc => e2 hc.1
  · rw [if_neg e]
    by_cases e2 : i = i'
    · subst e2
      rw [if_pos rfl, h.has, hi]
      simp only [Option.some.injEq, Rs.mk.injEq, hl, hlt, if_true, freeRs]
      constructor
      · rintro ⟨_, h2, _⟩; exact absurd h2.symm e
      · rintro ⟨h2, _⟩; cases h2
    · rw [if_neg e2, h.has]
theorem Tie.given (h : Tie n fl m R) {page : Int} {j : Nat} (x : En) (hlt : j < n) (hj : (∃ y, mget m page = some (j, y)) ∨ (mget m page = none ∧ ∃ pg y, R[j]? = some ⟨true, pg, y⟩)) : Tie n (fl.set j false) (mput m page (j, x)) (R.set j ⟨false, page, x⟩) := by
  have hl := h.len
  refine ⟨by simp [hl], by rw [h.free, List.map_set], fun page' i' x' => ?_⟩
  rw [mget_mput, List.getElem?_set]
  by_cases e : page' = page
  · subst e
    rw [if_pos rfl]
    by_cases e2 : j = i'
    · subst e2
      simp [hl, hlt]
    · rw [if_neg e2, ← h.has]
      rcases hj with ⟨y, hy⟩ | ⟨hy, _⟩ <;> rw [hy] <;> simp [e2]
  · rw [if_neg e]
    by_cases e2 : j = i'
    · subst e2
      rw [if_pos rfl, h.has]
      have e3 : ¬ page = page' := fun e4 => e e4.symm
      rcases hj with ⟨y, hy⟩ | ⟨_, pg, y, hy⟩
      · rw [(h.has _ _ _).1 hy]; simp [hl, hlt, e3]
      · rw [hy]; simp [hl, hlt, e3]
    · rw [if_neg e2, h.has]
end
end Go.Proofs.Ythlcjefkhlfkpaa
