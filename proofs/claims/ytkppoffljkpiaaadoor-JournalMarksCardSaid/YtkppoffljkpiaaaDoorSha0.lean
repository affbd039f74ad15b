/-
  Words of 32 bits, turned to the right: the two ways in which the program writes it. No program in sight.
-/
import Derived.WalkKit
import Derived.Lib.EndianBits
namespace Go.Proofs.YtkppoffljkpiaaaDoor.Sha
open Go

/-- A word of 32 bits. -/
def In32 (x : Int) : Prop := 0 ≤ x ∧ x < 4294967296
/-- A word turned to the right by n. -/
def ror (x : Int) (n : Nat) : Int := x / 2 ^ n + (x * 2 ^ (32 - n)) % 4294967296
theorem ror_parts {x : Int} {n : Nat} (h1 : 1 ≤ n) (h2 : n ≤ 31) (hx : 0 ≤ x) (hx2 : x < 4294967296) :
    0 ≤ x / 2 ^ n ∧ x / 2 ^ n < 2 ^ (32 - n) ∧ x / 2 ^ n < 2 ^ 32 ∧ 0 ≤ (x * 2 ^ (32 - n)) % 4294967296 ∧ ((x * 2 ^ (32 - n)) % 4294967296) % 2 ^ (32 - n) = 0 ∧ (x * 2 ^ (32 - n)) % 4294967296 < 2 ^ 32 := by
  have e : (2 : Int) ^ 32 = 2 ^ n * 2 ^ (32 - n) := by rw [← Int.pow_add]; congr 1; omega
  have p1 : (0 : Int) < 2 ^ n := Int.pow_pos (by decide)
  have p2 : (0 : Int) < 2 ^ (32 - n) := Int.pow_pos (by decide)
  have e32 : (2 : Int) ^ 32 = 4294967296 := by decide
  refine ⟨Int.ediv_nonneg hx (Int.le_of_lt p1), ?_, ?_, Int.emod_nonneg _ (by decide), ?_, ?_⟩
  · rw [Int.ediv_lt_iff_lt_mul p1, Int.mul_comm, ← e, e32]; exact hx2
  · exact Int.lt_of_le_of_lt (Int.ediv_le_self _ hx) (by rw [e32]; exact hx2)
  · rw [← e32, e, Int.mul_comm x, Int.mul_comm (2 ^ n) (2 ^ (32 - n)), Int.mul_emod_mul_of_pos _ _ p2, Int.mul_emod_right]
  · rw [e32]; exact Int.emod_lt_of_pos _ (by decide)
theorem ror_low {x : Int} {n : Nat} (h1 : 1 ≤ n) (h2 : n ≤ 31) (hx : 0 ≤ x) (hx2 : x < 4294967296) : bits .or .u32 (x / 2 ^ n) ((x * 2 ^ (32 - n)) % 4294967296) = ror x n := by
  obtain ⟨a, b, c, d, e, f⟩ := ror_parts h1 h2 hx hx2
  exact bits_join_low .u32 32 (by decide) wraps_u32 (32 - n) _ _ a b c d e f
theorem ror_high {x : Int} {n : Nat} (h1 : 1 ≤ n) (h2 : n ≤ 31) (hx : 0 ≤ x) (hx2 : x < 4294967296) : bits .or .u32 ((x * 2 ^ (32 - n)) % 4294967296) (x / 2 ^ n) = ror x n := by
  obtain ⟨a, b, c, d, e, f⟩ := ror_parts h1 h2 hx hx2
  rw [bits_join .u32 32 (by decide) wraps_u32 (32 - n) _ _ d e f a b c]
  unfold ror; omega
theorem ror_range {x : Int} {n : Nat} (h1 : 1 ≤ n) (h2 : n ≤ 31) (hx : 0 ≤ x) (hx2 : x < 4294967296) : 0 ≤ ror x n ∧ ror x n < 4294967296 := by
  obtain ⟨a, b, c, d, e, f⟩ := ror_parts h1 h2 hx hx2
  have e0 : (2 : Int) ^ 32 = 2 ^ n * 2 ^ (32 - n) := by rw [← Int.pow_add]; congr 1; omega
  have e32 : (2 : Int) ^ 32 = 4294967296 := by decide
  have p2 : (0 : Int) < 2 ^ (32 - n) := Int.pow_pos (by decide)
  unfold ror
  refine ⟨by omega, ?_⟩
  obtain ⟨k, hk⟩ := Int.dvd_of_emod_eq_zero e
  rw [hk] at f ⊢
  have hk1 : k < 2 ^ n := by
    have : 2 ^ (32 - n) * k < 2 ^ (32 - n) * 2 ^ n := by rw [Int.mul_comm (2 ^ (32 - n)) (2 ^ n), ← e0]; exact f
    exact Int.lt_of_mul_lt_mul_left this (Int.le_of_lt p2)
  have : 2 ^ (32 - n) * k + 2 ^ (32 - n) ≤ 2 ^ (32 - n) * 2 ^ n := by
    have h3 : 2 ^ (32 - n) * (k + 1) ≤ 2 ^ (32 - n) * 2 ^ n := Int.mul_le_mul_of_nonneg_left (by omega) (Int.le_of_lt p2)
    rw [Int.mul_add, Int.mul_one] at h3
    exact h3
  rw [Int.mul_comm (2 ^ (32 - n)) (2 ^ n), ← e0, e32] at this
  omega
/-- A word of four bytes. -/
theorem word_or {a b c d : Int} (ha : 0 ≤ a ∧ a < 256) (hb : 0 ≤ b ∧ b < 256) (hc : 0 ≤ c ∧ c < 256) (hd : 0 ≤ d ∧ d < 256) :
    bits .or .u32 (bits .or .u32 (bits .or .u32 (a * 16777216) (b * 65536)) (c * 256)) d = a * 16777216 + b * 65536 + c * 256 + d := by
  rw [bits_join .u32 32 (by decide) wraps_u32 24 (a * 16777216) (b * 65536) (by omega) (by omega) (by omega) (by omega) (by omega) (by omega),
    bits_join .u32 32 (by decide) wraps_u32 16 _ (c * 256) (by omega) (by omega) (by omega) (by omega) (by omega) (by omega),
    bits_join .u32 32 (by decide) wraps_u32 8 _ d (by omega) (by omega) (by omega) (by omega) (by omega) (by omega)]
end Go.Proofs.YtkppoffljkpiaaaDoor.Sha
