/-
  What the loop of journal.Open keeps.
-/
import Derived.Test.YtkppoffljkpiaaaJNum
import Derived.Test.YtkppoffljkpiaaaJJoin
import Derived.Test.YtkppoffljkpiaaaJHeadN
namespace Go.Proofs.Ytkppoffljkpiaaa
open Go.RowKit Go.Proofs.Ytkppoffljkpiaaa.Sl Go.Proofs.Ytkppoffljkpiaaa.Jp

theorem cut_byt {all : List Int} {n : Nat} (h : ∀ b ∈ all, okByte b) {l : List Int} (hl : l ∈ cut all n) : ∀ b ∈ l, okByte b := by
  unfold cut at hl
  obtain ⟨i, _, rfl⟩ := List.mem_map.1 hl
  intro b hb
  exact h b (List.mem_of_mem_drop (List.mem_of_mem_take hb))
theorem nums4_succ (B : List Int) (k : Nat) : nums4 B (k + 1) = nums4 B k ++ [num ((B.drop (12 + 4 * k)).take 4)] := by
  unfold nums4; rw [List.range_succ, List.map_append]; rfl
theorem nums4_length (B : List Int) (k : Nat) : (nums4 B k).length = k := by simp [nums4]

theorem nextS_some (B : List Int) (s k : Nat) : nextS B s (some k) = if k + s ≤ B.length then (num ((B.drop k).take s), some (k + s)) else (0, none) := rfl
theorem start_facts {B : List Int} (hB : ∀ b ∈ B, okByte b) : ∃ (vn cN : Nat) (st : Option Nat), (nextS B 8 (some 0)).1 = vn ∧ (nextS B 4 (nextS B 8 (some 0)).2).1 = cN ∧ (nextS B 4 (nextS B 8 (some 0)).2).2 = st ∧ vn < 18446744073709551616 ∧ cN < 4294967296 ∧
    ((12 ≤ B.length ∧ st = some 12 ∧ (vn : Int) = ver B ∧ (cN : Int) = cnt B) ∨ (B.length < 12 ∧ st = none)) := by
  have b1 := nextS_bound (B := B) (s := 8) (st := some 0) hB
  have b2 := nextS_bound (B := B) (s := 4) (st := (nextS B 8 (some 0)).2) hB
  refine ⟨(nextS B 8 (some 0)).1.toNat, (nextS B 4 (nextS B 8 (some 0)).2).1.toNat, _, by omega, by omega, rfl, by omega, by omega, ?_⟩
  by_cases h12 : 12 ≤ B.length
  · left
    have e8 : nextS B 8 (some 0) = (num ((B.drop 0).take 8), some (0 + 8)) := by rw [nextS_some, if_pos (by omega)]
    have e4 : nextS B 4 (some 8) = (num ((B.drop 8).take 4), some (8 + 4)) := by rw [nextS_some, if_pos (by omega)]
    rw [e8] at b1 b2 ⊢
    simp only [Nat.zero_add] at b2 ⊢
    rw [e4] at b2 ⊢
    refine ⟨h12, rfl, ?_, ?_⟩
    · rw [Int.toNat_of_nonneg b1.1]; unfold ver; rw [List.drop_zero]
    · rw [Int.toNat_of_nonneg b2.1]; rfl
  · right
    refine ⟨by omega, ?_⟩
    by_cases h8 : 0 + 8 ≤ B.length
    · rw [nextS_some, if_pos h8, nextS_some, if_neg (by omega)]
    · rw [nextS_some, if_neg h8]; rfl
/-- What the loop over the block numbers keeps. -/
def loopI (B : List Int) (cN k : Nat) (L : List Int) (st : Option Nat) : Prop :=
  (st = some (12 + 4 * k) ∧ L = nums4 B k ∧ k ≤ cN ∧ 12 + 4 * k ≤ B.length) ∨ (st = none ∧ ¬ (12 + 4 * (cnt B).toNat ≤ B.length) ∧ L.length ≤ B.length + 1 ∧ k ≤ B.length + 1)
theorem loopI_len {B : List Int} {cN k : Nat} {L : List Int} {st : Option Nat} (h : loopI B cN k L st) : L.length ≤ B.length + 1 ∧ k ≤ B.length + 1 := by
  rcases h with ⟨_, rfl, _, h⟩ | ⟨_, _, h1, h2⟩
  · rw [nums4_length]; omega
  · exact ⟨h1, h2⟩
theorem loopI_next {B : List Int} {cN k : Nat} {L : List Int} {p : Nat} (h : loopI B cN k L (some p)) (hlt : k < cN) (hc : (cN : Int) = cnt B) :
    loopI B cN (k + 1) (L ++ [(nextS B 4 (some p)).1]) (nextS B 4 (some p)).2 := by
  rcases h with ⟨hp, rfl, hk, hB⟩ | ⟨h, _⟩
  · have hp := Option.some.inj hp
    subst hp
    rw [nextS_some]
    by_cases h4 : 12 + 4 * k + 4 ≤ B.length
    · rw [if_pos h4]
      exact .inl ⟨by rw [Nat.mul_add, Nat.add_assoc], by rw [nums4_succ], by omega, by omega⟩
    · rw [if_neg h4]
      exact .inr ⟨rfl, by omega, by rw [List.length_append, nums4_length]; simp; omega, by omega⟩
  · cases h
theorem no_open1 {H : List (List Int)} {b : Int} (h : ¬ (12 + 4 * (cnt H.flatten).toNat ≤ H.flatten.length)) : ¬ openOk H b := fun h2 => h h2.1
theorem no_open2 {H : List (List Int)} {b : Int} {cN : Nat} (hc : (cN : Int) = cnt H.flatten) (h : ¬ okL (nums4 H.flatten cN) b) : ¬ openOk H b := fun h2 => by
  have h3 := h2.2
  rw [← hc, Int.toNat_natCast, headOf_none h] at h3
  cases h3
theorem open_iff {H : List (List Int)} {b : Int} {cN vn : Nat} (hc : (cN : Int) = cnt H.flatten) (hv : (vn : Int) = ver H.flatten) (hl : 12 + 4 * cN ≤ H.flatten.length) (h : okL (nums4 H.flatten cN) b) :
    openOk H b ↔ cut (full vn (nums4 H.flatten cN) b) (heads b) = H := by
  unfold openOk
  rw [← hc, ← hv, Int.toNat_natCast, headOf_some h]
  exact ⟨fun h2 => Option.some.inj h2.2, fun h2 => ⟨hl, by rw [h2]⟩⟩
end Go.Proofs.Ytkppoffljkpiaaa
