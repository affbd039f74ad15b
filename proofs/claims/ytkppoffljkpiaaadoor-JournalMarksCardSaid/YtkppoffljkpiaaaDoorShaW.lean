/-
  The words of sha and of thimbleref03, turned.
-/
import Derived.Test.YtkppoffljkpiaaaDoorTab
import Derived.Test.YtkppoffljkpiaaaDoorSlRd
import Derived.Test.YtkppoffljkpiaaaDoorSlArr
import Derived.Test.YtkppoffljkpiaaaDoorSha0
namespace Go.Proofs.YtkppoffljkpiaaaDoor
open Go.RowKit Go.Proofs.YtkppoffljkpiaaaDoor.Sl Go.Proofs.YtkppoffljkpiaaaDoor.Sha

section
variable {w0 : World}
theorem rotr_any (x : Int) (n : Nat) (h1 : 1 ≤ n) (h2 : n ≤ 31) (hx : 0 ≤ x) (hx2 : x < 4294967296) : Calls Tryd.prog 27 #[.int .u32 x, .int .u64 (n : Int)] w0 fun e w' => e = .returned (.int .u32 (ror x n)) ∧ Sat w0 [] w' := by
  have e := ror_low h1 h2 hx hx2
  have E : Hid _ := e
  clear e
  go_enter Tryd.func27, Tryd.ntmps27
  go_wp2
  go_ret
  exact ⟨by rw [← E.out]; rfl, Sat.refl w0⟩
theorem turn_any (x : Int) (n : Nat) (h1 : 1 ≤ n) (h2 : n ≤ 31) (hx : 0 ≤ x) (hx2 : x < 4294967296) : Calls Tryd.prog 34 #[.int .u32 x, .int .i64 (n : Int)] w0 fun e w' => e = .returned (.int .u32 (ror x n)) ∧ Sat w0 [] w' := by
  have hand : ∀ k : Fin 32, 1 ≤ k.val → bits .and .u64 (IntKind.u64.wrap (-(k.val : Int))) 31 = ((32 - k.val : Nat) : Int) := by decide +kernel
  have hm := hand ⟨n, by omega⟩ h1
  simp only at hm
  have e := ror_high h1 h2 hx hx2
  obtain ⟨m, rfl, hm1, hm2⟩ : ∃ m : Nat, n = 32 - m ∧ 1 ≤ m ∧ m ≤ 31 := ⟨32 - n, by omega, by omega, by omega⟩
  rw [show 32 - (32 - m) = m by omega] at hm e
  have E : Hid _ := e
  clear e hand
  go_enter Tryd.func34, Tryd.ntmps34
  go_wp2
  go_ret
  exact ⟨by rw [← E.out]; rfl, Sat.refl w0⟩
/-- The same, the number as it stands at a call. -/
theorem rotr_z (x z : Int) (hz : 1 ≤ z ∧ z ≤ 31) (hx : In32 x) : Calls Tryd.prog 27 #[.int .u32 x, .int .u64 z] w0 fun e w' => e = .returned (.int .u32 (ror x z.toNat)) ∧ Sat w0 [] w' := by
  obtain ⟨n, rfl⟩ : ∃ n : Nat, z = n := ⟨z.toNat, by omega⟩
  exact rotr_any x n (by omega) (by omega) hx.1 hx.2
theorem turn_z (x z : Int) (hz : 1 ≤ z ∧ z ≤ 31) (hx : In32 x) : Calls Tryd.prog 34 #[.int .u32 x, .int .i64 z] w0 fun e w' => e = .returned (.int .u32 (ror x z.toNat)) ∧ Sat w0 [] w' := by
  obtain ⟨n, rfl⟩ : ∃ n : Nat, z = n := ⟨z.toNat, by omega⟩
  exact turn_any x n (by omega) (by omega) hx.1 hx.2
end
end Go.Proofs.YtkppoffljkpiaaaDoor
