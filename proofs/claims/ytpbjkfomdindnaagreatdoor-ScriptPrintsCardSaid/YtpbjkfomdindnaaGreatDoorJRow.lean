/-
  bytes.Clone, bytes.Equal; row.Put.
-/
import Derived.Test.YtpbjkfomdindnaaGreatDoorTab
import Derived.Test.YtpbjkfomdindnaaGreatDoorSlB
import Derived.Test.YtpbjkfomdindnaaGreatDoorJPlain
import Derived.Lib.Bytes
set_option linter.unusedSimpArgs false
set_option linter.unusedVariables false
namespace Go.Proofs.YtpbjkfomdindnaaGreatDoor
open Go.RowKit Go.Proofs.YtpbjkfomdindnaaGreatDoor.Sl Go.Proofs.YtpbjkfomdindnaaGreatDoor.Jp

section
variable {w0 : World} {A B : List Int} {va vb : Value}
theorem byte_at (N k : Nat) : (N : Int) / 2 ^ (8 * k) % 256 = ((N / 256 ^ k % 256 : Nat) : Int) := by
  rw [Int.pow_mul, show ((2 : Int) ^ 8) = ((256 : Nat) : Int) from rfl, ← Int.natCast_pow]
  rfl
theorem bytes_back {A : List Int} (ha : ∀ b ∈ A, okByte b) : (Lib.bytesOf A).map (fun b => (b.toNat : Int)) = A := by
  unfold Lib.bytesOf
  rw [List.map_map]
  conv => rhs; rw [← List.map_id A]
  refine List.map_congr_left fun b hb => ?_
  obtain ⟨h1, h2⟩ := ha b hb
  show (((UInt8.ofNat b.toNat).toNat : Nat) : Int) = b
  rw [UInt8.toNat_ofNat']
  omega
theorem strOfNums_inj {A B : List Int} (ha : ∀ b ∈ A, okByte b) (hb : ∀ b ∈ B, okByte b) : ((strOfNums A).toList == (strOfNums B).toList) = decide (A = B) := by
  rw [Lib.strOfNums_toList, Lib.strOfNums_toList]
  by_cases h : A = B
  · subst h; simp
  · have : ¬ Lib.bytesOf A = Lib.bytesOf B := fun e => h (by rw [← bytes_back ha, ← bytes_back hb, e])
    simp [h, this]
end
end Go.Proofs.YtpbjkfomdindnaaGreatDoor
