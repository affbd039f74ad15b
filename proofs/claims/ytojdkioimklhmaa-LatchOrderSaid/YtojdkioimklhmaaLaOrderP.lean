/-
  LatchOrder, the plain law: who is woken, in which order, as the group ahead lets go.
-/
import Derived.Test.YtojdkioimklhmaaLaShared
set_option linter.unusedSimpArgs false
set_option linter.unusedVariables false
namespace Go.Proofs.Ytojdkioimklhmaa.LaOrder
open Go.Proofs.Ytojdkioimklhmaa Go.Proofs.Ytojdkioimklhmaa.Sl Go.Proofs.Ytojdkioimklhmaa.LatchSharedDone

/-- The requests a, a + 1, .. (d of them). -/
def qN (f : Nat → Bool) : Nat → Nat → List Rq
  | 0, _ => []
  | d + 1, a => ((a : Int), f a) :: qN f d (a + 1)
def tk : Nat → Nat → List Int
  | 0, _ => []
  | d + 1, a => (a : Int) :: tk d (a + 1)
theorem qN_len (f : Nat → Bool) : ∀ d a : Nat, (qN f d a).length = d
  | 0, _ => rfl
  | d + 1, a => by rw [qN, List.length_cons, qN_len f d (a + 1)]
theorem tk_len : ∀ d a : Nat, (tk d a).length = d
  | 0, _ => rfl
  | d + 1, a => by rw [tk, List.length_cons, tk_len d (a + 1)]
theorem qN_end (f : Nat → Bool) : ∀ d a : Nat, qN f (d + 1) a = qN f d a ++ [(((a + d : Nat) : Int), f (a + d))]
  | 0, a => rfl
  | d + 1, a => by
    rw [qN, qN_end f d (a + 1), qN, List.cons_append, show a + 1 + d = a + (d + 1) by omega]
theorem qN_mem (f : Nat → Bool) : ∀ (d a : Nat) (x : Rq), x ∈ qN f d a → (a : Int) ≤ x.1
  | 0, _, _, h => by cases h
  | d + 1, a, x, h => by
    rcases List.mem_cons.1 h with rfl | h
    · exact Int.le_refl _
    · have := qN_mem f d (a + 1) x h
      omega
theorem tk_mem : ∀ (d a : Nat) (x : Int), x ∈ tk d a → (a : Int) ≤ x
  | 0, _, _, h => by cases h
  | d + 1, a, x, h => by
    rcases List.mem_cons.1 h with rfl | h
    · exact Int.le_refl _
    · have := tk_mem d (a + 1) x h
      omega
theorem tk_le : ∀ d a : Nat, (tk d a).Pairwise fun x y => x ≤ y
  | 0, _ => List.Pairwise.nil
  | d + 1, a => List.Pairwise.cons (fun x hx => by have := tk_mem d (a + 1) x hx; omega) (tk_le d (a + 1))
theorem tk_sort (d a : Nat) : sortI (tk d a) = tk d a := (sortI_unique (List.Perm.refl _) (tk_le d a)).symm
theorem tk_get : ∀ (d a i : Nat), i < d → (tk d a)[i]? = some ((a + i : Nat) : Int)
  | 0, _, _, h => by omega
  | d + 1, a, 0, _ => rfl
  | d + 1, a, i + 1, h => by
    rw [tk, List.getElem?_cons_succ, tk_get d (a + 1) i (by omega), show a + 1 + i = a + (i + 1) by omega]
theorem settle_run (f : Nat → Bool) : ∀ d h b : Nat, 0 < h → ∃ g, g ≤ d ∧ (g < d → f (b + h + g) = true) ∧ settle d ⟨hasN h b, false, qN f d (b + h)⟩ = (tk g (b + h), ⟨hasN (h + g) b, false, qN f (d - g) (b + h + g)⟩)
  | 0, h, b, _ => ⟨0, Nat.le_refl _, fun e => by omega, rfl⟩
  | d + 1, h, b, h0 => by
    by_cases hf : f (b + h) = true
    · refine ⟨0, Nat.zero_le _, fun _ => hf, settle_none ?_ _⟩
      unfold grantP
      simp only [qN]
      rw [if_pos (.inr ⟨hf, by rw [hasN_len]; exact h0⟩)]
    · have hf2 : f (b + h) = false := by simpa using hf
      obtain ⟨g, h1, h2, h3⟩ := settle_run f d (h + 1) b (by omega)
      have hg : grantP ⟨hasN h b, false, qN f (d + 1) (b + h)⟩ = some (((b + h : Nat) : Int), ⟨hasN (h + 1) b, false, qN f d (b + h + 1)⟩) := by
        unfold grantP
        simp only [qN]
        rw [if_neg (by simp [hf2]), hasN_put, hf2]
      refine ⟨g + 1, by omega, fun e => ?_, ?_⟩
      · rw [show b + h + (g + 1) = b + (h + 1) + g by omega]
        exact h2 (by omega)
      · rw [settle_some hg, show b + h + 1 = b + (h + 1) by omega, h3, show h + (g + 1) = h + 1 + g by omega, show b + h + (g + 1) = b + (h + 1) + g by omega, show d + 1 - (g + 1) = d - g by omega, tk, show b + h + 1 = b + (h + 1) by omega]
theorem others_q (f : Nat → Bool) {d a k : Nat} (h : k < a) : others (qN f d a) (k : Int) = qN f d a := others_none fun x hx => by have := qN_mem f d a x hx; omega
theorem free_mid (f : Nat → Bool) {k n d : Nat} (h1 : k + 1 < n) (hd : 0 < d) (hf : f n = true) : freeP ⟨hasN (n - k) k, false, qN f d n⟩ (k : Int) = ([], ⟨hasN (n - (k + 1)) (k + 1), false, qN f d n⟩) := by
  obtain ⟨m, hm⟩ : ∃ m, n - k = m + 1 := ⟨n - k - 1, by omega⟩
  have hm2 : n - (k + 1) = m := by omega
  have ho := others_q f (d := d) (a := n) (k := k) (by omega)
  have hw : without ⟨hasN (n - k) k, false, qN f d n⟩ (k : Int) = ⟨hasN (n - (k + 1)) (k + 1), false, qN f d n⟩ := by
    unfold without
    simp only [ho]
    rw [hm, hm2, hasN_del]
    simp
  unfold freeP
  rw [hw]
  obtain ⟨e, rfl⟩ : ∃ e, d = e + 1 := ⟨d - 1, by omega⟩
  exact settle_none (by
    unfold grantP
    simp only [qN]
    rw [if_pos (.inr ⟨hf, by rw [hasN_len]; omega⟩)]) _
theorem free_end (f : Nat → Bool) {k c : Nat} (A : Bool) (hc : k + 1 < c) : ∃ n2 A2, k + 1 < n2 ∧ n2 ≤ c ∧ (A2 = true → n2 = k + 1 + 1) ∧ (A2 = false → n2 < c → f n2 = true) ∧ freeP ⟨hasN 1 k, A, qN f (c - (k + 1)) (k + 1)⟩ (k : Int) = (tk (n2 - (k + 1)) (k + 1), ⟨hasN (n2 - (k + 1)) (k + 1), A2, qN f (c - n2) n2⟩) := by
  obtain ⟨d, hd⟩ : ∃ d, c - (k + 1) = d + 1 := ⟨c - (k + 1) - 1, by omega⟩
  have ho := others_q f (d := c - (k + 1)) (a := k + 1) (k := k) (by omega)
  have hw : without ⟨hasN 1 k, A, qN f (c - (k + 1)) (k + 1)⟩ (k : Int) = ⟨[], false, qN f (c - (k + 1)) (k + 1)⟩ := by
    unfold without
    simp only [ho]
    rw [show (1 : Nat) = 0 + 1 from rfl, hasN_del]
    simp [hasN, mget_cons]
  unfold freeP
  rw [hw, ho, qN_len, hd]
  have hg : grantP ⟨[], false, qN f (d + 1) (k + 1)⟩ = some (((k + 1 : Nat) : Int), ⟨hasN 1 (k + 1), f (k + 1), qN f d (k + 1 + 1)⟩) := by
    unfold grantP
    simp only [qN]
    rw [if_neg (by simp)]
    rfl
  rw [settle_some hg]
  cases hf : f (k + 1) with
  | true =>
    refine ⟨k + 1 + 1, true, by omega, by omega, fun _ => rfl, fun e => (by cases e), ?_⟩
    have hn : grantP ⟨hasN 1 (k + 1), true, qN f d (k + 1 + 1)⟩ = none := by
      unfold grantP
      cases d with
      | zero => rfl
      | succ d => simp only [qN]; rw [if_pos (.inl trivial)]
    rw [settle_none hn, show k + 1 + 1 - (k + 1) = 1 by omega, show c - (k + 1 + 1) = d by omega]
    rfl
  | false =>
    obtain ⟨g, h1, h2, h3⟩ := settle_run f d 1 (k + 1) (by omega)
    refine ⟨k + 1 + 1 + g, false, by omega, by omega, fun e => by (cases e), fun _ e => h2 (by omega), ?_⟩
    rw [h3, show k + 1 + 1 + g - (k + 1) = g + 1 by omega, show c - (k + 1 + 1 + g) = d - g by omega, show 1 + g = g + 1 by omega]
    rfl
end Go.Proofs.Ytojdkioimklhmaa.LaOrder
