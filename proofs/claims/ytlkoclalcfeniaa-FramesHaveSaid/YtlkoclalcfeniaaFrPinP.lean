/-
  FramesPins: the plain law.
-/
import Derived.Test.YtlkoclalcfeniaaFrDrop
set_option linter.unusedSimpArgs false
set_option linter.unusedVariables false
namespace Go.Proofs.Ytlkoclalcfeniaa
open Go.RowKit Go.Proofs.Ytlkoclalcfeniaa.Sl Go.Proofs.Ytlkoclalcfeniaa.Jp

section
variable {P : Program} {ops : Array Oper} {rest : List Oper} {o : Oper} {a : Act} {Q : Exit → Act → World → Prop} {w : World}
/-- A whole number as a float: some float. -/
theorem opIntFloat {src dst : TypeId} {x : Operand} {n : Int} {k k' : IntKind} (hw : Region.wanted o (yielded ops a.tmps) = true) (ho : o.op = .convert src dst x) (hx : a.eval x = .int k' n) (hs : P.underlying src = some (.int k)) (hd : P.underlying dst = some (.float .f64))
    (kk : ∀ r, wpList P ops Q rest (a.put o.dst (.float .f64 r)) w) : wpList P ops Q (o :: rest) a w := by
  have h1 : ∃ r, (convert src dst (.int k' n)).run P w = .ok (.float .f64 r) w := by
    refine ⟨FloatKind.f64.nearest n, ?_⟩
    unfold convert
    simp [run_underlying hs w, run_underlying hd w, Conv.intToFloat]
  obtain ⟨r, hr⟩ := h1
  refine wp_value hw ?_ (kk r)
  simp [execOp, ho, hx, hr]
end
/-- The keys 0, 1, .. below j. -/
def keysN (j : Nat) : List Int := (List.range j).map fun (i : Nat) => (i : Int)
theorem keysN_next (j : Nat) : keysN (j + 1) = keysN j ++ [(j : Int)] := by simp [keysN, List.range_succ]
theorem keysN_none {FL : Frs} {j : Nat} (h : mkeys FL = keysN j) : mget FL (j : Int) = none := by
  rw [mget_none, h]
  unfold keysN
  intro hm
  obtain ⟨i, hi, e⟩ := List.mem_map.1 hm
  have := List.mem_range.1 hi
  omega
theorem keysN_len {FL : Frs} {j : Nat} (h : mkeys FL = keysN j) : (FL.length : Int) = j := by
  rw [← length_mkeys, h]
  simp [keysN]
theorem keysN_len2 {FL : Frs} {j : Nat} (h : mkeys FL = keysN j) : FL.length = j := by
  rw [← length_mkeys, h]
  simp [keysN]
theorem keysN_some {FL : Frs} {j i : Nat} (h : mkeys FL = keysN j) (hi : i < j) : (mget FL (i : Int)).isSome = true := by
  cases hg : mget FL (i : Int) with
  | some x => rfl
  | none =>
    rw [mget_none, h] at hg
    exact absurd (List.mem_map.2 ⟨i, List.mem_range.2 hi, rfl⟩) hg
/-- What the victim is, while key 0 is pinned. -/
theorem vicRes {FL : Frs} {j n1 : Nat} {sp : Spots} {PL : Pins} {L : List Int} {e : Ending} (hk : mkeys FL = keysN j) (hp : pinnedB PL 0 = true) (hL : L.Perm (loose PL (mkeys FL)))
    (h : (L = [] ∧ e = .returned (.tuple #[.int .i64 0, .int .i64 12])) ∨ ∃ k bh, L ≠ [] ∧ ColdIs n1 sp L L.length k bh ∧ e = .returned (.tuple #[.int .i64 k, .int .i64 0])) :
    ∃ (kk ff : Int), e = .returned (.tuple #[.int .i64 kk, .int .i64 ff]) ∧ (ff = 0 → decide (kk = 0) = false) ∧ (j = 1 → decide (ff = 12) = true) := by
  rcases h with ⟨-, rfl⟩ | ⟨k, bh, hne, hc, rfl⟩
  · exact ⟨0, 12, rfl, fun h => absurd h (by decide), fun _ => rfl⟩
  · refine ⟨k, 0, rfl, fun _ => decide_eq_false fun h0 => ?_, fun hj => ?_⟩
    · have h1 := hc.mem (fun h => hne (List.eq_nil_of_length_eq_zero h))
      have h2 := hL.subset (List.mem_of_mem_take h1)
      have h3 := (List.mem_filter.1 h2).2
      rw [h0, hp] at h3
      cases h3
    · subst hj
      rw [hk] at hL
      have e1 : loose PL (keysN 1) = [] := by
        show loose PL [0] = []
        unfold loose
        rw [List.filter_cons, hp]
        rfl
      rw [e1] at hL
      exact absurd hL.eq_nil hne
/-- The pins of some tasks (of the first N, without the first i) on key 0. -/
def PinsAt (PL : PinsW) (A : List Int) (N i : Nat) : Prop := ∀ p : PinW, p ∈ mkeys PL ↔ p.1.2 = 0 ∧ p.1.1 ∈ A.take N ∧ p.1.1 ∉ A.take i
theorem PinsAt.nil (A : List Int) : PinsAt [] A 0 0 := fun p => by simp [mkeys]
theorem take_mem {A : List Int} {j : Nat} {y x : Int} (hy : A[j]? = some y) : x ∈ A.take (j + 1) ↔ x ∈ A.take j ∨ x = y := by
  rw [List.take_add_one, hy]
  simp
theorem okI0 : okI 0 := ⟨by decide, by decide⟩
theorem PinsAt.pin {PL : PinsW} {A : List Int} {j : Nat} {y : Int} (hy : A[j]? = some y) (hok : okI y) (h : PinsAt PL A j 0) : PinsAt (mput PL ⟨(y, 0), hok, okI0⟩ ()) A (j + 1) 0 := fun p => by
  have h1 : p ∈ mkeys (mput PL ⟨(y, 0), hok, okI0⟩ ()) ↔ p ∈ mkeys PL ∨ p = ⟨(y, 0), hok, okI0⟩ := by
    rw [mkeys_mput]
    split
    · rename_i hm
      exact ⟨.inl, fun h => h.elim id fun e => e ▸ hm⟩
    · simp
  rw [h1, h p, take_mem hy]
  have h2 : p = ⟨(y, 0), hok, okI0⟩ ↔ p.1.2 = 0 ∧ p.1.1 = y := by
    constructor
    · intro e
      rw [e]
      exact ⟨rfl, rfl⟩
    · rintro ⟨e1, e2⟩
      exact Subtype.ext (Prod.ext e2 e1)
  rw [h2]
  simp only [List.take_zero, List.not_mem_nil, not_false_eq_true, and_true]
  constructor
  · rintro (⟨h1, h2⟩ | ⟨h1, h2⟩)
    · exact ⟨h1, .inl h2⟩
    · exact ⟨h1, .inr h2⟩
  · rintro ⟨h1, h2 | h2⟩
    · exact .inl ⟨h1, h2⟩
    · exact .inr ⟨h1, h2⟩
theorem PinsAt.free {PL PL2 : PinsW} {A : List Int} {N i : Nat} {y : Int} (hy : A[i]? = some y) (h : PinsAt PL A N i) (hg : Gone PL PL2 [] y) : PinsAt PL2 A N (i + 1) := fun p => by
  have h1 := hg.2 p
  simp only [mkeys, List.map_nil, List.not_mem_nil, false_or] at h1
  rw [show p ∈ mkeys PL2 ↔ p ∈ mkeys PL ∧ p.1.1 ≠ y from h1, h p, take_mem hy]
  constructor
  · rintro ⟨⟨a1, a2, a3⟩, a4⟩
    exact ⟨a1, a2, fun h => h.elim a3 a4⟩
  · rintro ⟨a1, a2, a3⟩
    exact ⟨⟨a1, a2, fun h => a3 (.inl h)⟩, fun h => a3 (.inr h)⟩
/-- Is each later task one of those that are free? -/
def lastB (A : List Int) (i m : Nat) : Bool := ((A.take m).drop (i + 1)).all fun x => (A.take (i + 1)).contains x
theorem lastB_start (A : List Int) (i : Nat) : lastB A i (i + 1) = true := by
  unfold lastB
  rw [List.drop_eq_nil_of_le (by rw [List.length_take]; omega)]
  rfl
theorem lastB_next {A : List Int} {i m : Nat} {y : Int} (hy : A[m]? = some y) (hm : i + 1 ≤ m) : lastB A i (m + 1) = (lastB A i m && (A.take (i + 1)).contains y) := by
  have hl := (List.getElem?_eq_some_iff.1 hy).1
  unfold lastB
  rw [List.take_add_one, hy, Option.toList_some, List.drop_append_of_le_length (by rw [List.length_take]; omega), List.all_append]
  simp
theorem goneB_next {A : List Int} {k : Nat} {x y : Int} (hx : A[k]? = some x) : (A.take (k + 1)).contains y = ((A.take k).contains y || decide (x = y)) := by
  rw [List.take_add_one, hx, Option.toList_some]
  rw [Bool.eq_iff_iff]
  simp only [List.contains_iff_mem, List.mem_append, List.mem_singleton, Bool.or_eq_true, decide_eq_true_eq]
  exact or_congr Iff.rfl eq_comm
theorem PinsAt.pinned {PL : PinsW} {A : List Int} {N i : Nat} (hok : ∀ x ∈ A, okI x) (h : PinsAt PL A N (i + 1)) : pinnedB (low PL) 0 = !lastB A i N := by
  rw [Bool.eq_iff_iff, pinned_low]
  have h1 : (!lastB A i N) = true ↔ ∃ x ∈ A.take N, x ∉ A.take (i + 1) := by
    unfold lastB
    rw [Bool.not_eq_true', ← Bool.not_eq_true, List.all_eq_true]
    constructor
    · intro h2
      by_cases h3 : ∃ x ∈ A.take N, x ∉ A.take (i + 1)
      · exact h3
      · refine absurd (fun x hx => ?_) h2
        have hx2 : x ∈ A.take N := List.mem_of_mem_drop hx
        by_cases h4 : x ∈ A.take (i + 1)
        · simpa using h4
        · exact absurd ⟨x, hx2, h4⟩ h3
    · rintro ⟨x, hx, hn⟩ h2
      have hx2 : x ∈ (A.take N).drop (i + 1) := by
        have h5 : A.take N = (A.take N).take (i + 1) ++ (A.take N).drop (i + 1) := (List.take_append_drop _ _).symm
        rw [h5] at hx
        rcases List.mem_append.1 hx with h6 | h6
        · rw [List.take_take] at h6
          exact absurd ((List.take_subset_take_left A (Nat.min_le_left _ _)) h6) hn
        · exact h6
      have := h2 x hx2
      exact hn (by simpa using this)
  rw [h1]
  constructor
  · rintro ⟨q, hq, -⟩
    obtain ⟨-, a2, a3⟩ := (h q).1 hq
    exact ⟨_, a2, a3⟩
  · rintro ⟨x, hx, hn⟩
    have hox := hok x (List.mem_of_mem_take hx)
    exact ⟨⟨(x, 0), hox, okI0⟩, (h _).2 ⟨rfl, hx, hn⟩, rfl⟩
theorem PinsAt.first {PL : PinsW} {A : List Int} {N : Nat} (hok : ∀ x ∈ A, okI x) (h : PinsAt PL A N 0) (hN : 0 < N) (hl : N ≤ A.length) : pinnedB (low PL) 0 = true := by
  rw [pinned_low]
  obtain ⟨y, hy⟩ : ∃ y, A[0]? = some y := ⟨_, List.getElem?_eq_getElem (by omega)⟩
  have hm : y ∈ A.take N := by
    have : (A.take N)[0]? = some y := by rw [List.getElem?_take, if_pos hN, hy]
    exact List.mem_of_getElem? this
  exact ⟨⟨(y, 0), hok y (List.mem_of_getElem? hy), okI0⟩, (h _).2 ⟨rfl, hm, by simp⟩, rfl⟩
theorem PinsAt.over {PL : PinsW} {A : List Int} {N : Nat} (h : PinsAt PL A N N) : pinnedB (low PL) 0 = false := by
  rw [← Bool.not_eq_true, pinned_low]
  rintro ⟨q, hq, -⟩
  obtain ⟨-, a2, a3⟩ := (h q).1 hq
  exact a3 a2
end Go.Proofs.Ytlkoclalcfeniaa
