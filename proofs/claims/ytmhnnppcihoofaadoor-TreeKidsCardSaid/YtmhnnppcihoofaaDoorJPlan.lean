/-
  plan.Of and thimbleref16.Of at one page: what the plan of a journal says of its heads.
-/
import Derived.Test.YtmhnnppcihoofaaDoorTab
import Derived.Test.YtmhnnppcihoofaaDoorSlB
import Derived.Test.YtmhnnppcihoofaaDoorShA
set_option linter.unusedSimpArgs false
set_option linter.unusedVariables false
namespace Go.Proofs.YtmhnnppcihoofaaDoor
open Go.RowKit Go.Proofs.YtmhnnppcihoofaaDoor.Sl Go.Proofs.YtmhnnppcihoofaaDoor.Jp

/-- How many parts of a size n things begin. -/
def ceil (n s : Nat) : Nat := (n + s - 1) / s
theorem ceil_lt {n s k : Nat} (hs : 0 < s) : k * s < n ↔ k < ceil n s := by
  unfold ceil
  rw [← Nat.succ_le_iff (n := (n + s - 1) / s), Nat.le_div_iff_mul_le hs, Nat.succ_eq_add_one, Nat.add_mul]
  omega
/-- The plan's cells. -/
def planL (b : Int) (lv : Value) : List Value :=
  [.int .i64 1, .int .i64 b, .int .i64 1, lv, .int .i64 1, .int .i64 3, .int .i64 (heads b), .int .i64 (3 + heads b), .int .i64 (3 + heads b + b), .int .i64 (3 + heads b + b + b)]
abbrev noPlan : List Value := [.int .i64 0, .int .i64 0, .int .i64 0, .slice none 0 0, .int .i64 0, .int .i64 0, .int .i64 0, .int .i64 0, .int .i64 0, .int .i64 0]

section
variable {w0 w : World} {S : List Chunk}
theorem begun_any (n s : Nat) (hn : n ≤ 1000000) (hs : 0 < s) (hs2 : s ≤ 1000) :
    Calls Tryd.prog 23 #[.int .i64 n, .int .i64 s] w fun e w' => e = .returned (.int .i64 (ceil n s : Nat)) ∧ Sat w [] w' := by
  have hc : ceil n s ≤ 1001000 := by unfold ceil; exact Nat.le_trans (Nat.div_le_self _ _) (by omega)
  have HC : Hid (∀ k, k * s < n ↔ k < ceil n s) := fun k => ceil_lt hs
  go_enter Tryd.func23, Tryd.ntmps23
  go_wp2
  go_loopw [5] (fun i wr => ∃ k : Nat, k ≤ ceil n s ∧ i = .int .i64 k ∧ Sat w [] wr) (fun i _ => ceil n s - (intOf i).toNat)
  case atStart => exact ⟨0, Nat.zero_le _, rfl, Sat.refl w⟩
  case round =>
    obtain ⟨k, hk, rfl, hS⟩ := hrel
    have hm : ((k * s : Nat) : Int) = (k : Int) * (s : Int) := by push_cast; rfl
    have hb : k * s ≤ 1001000 * 1000 := Nat.mul_le_mul (by omega) hs2
    have hlt := HC.out k
    by_cases h : k < ceil n s
    · have h1 : (k : Int) * (s : Int) < n := by rw [← hm]; have := hlt.2 h; omega
      have hb1 : (k : Int) * (s : Int) ≤ 1001000000 := by rw [← hm]; omega
      have hb0 : 0 ≤ (k : Int) * (s : Int) := by rw [← hm]; omega
      clear hlt hm
      go_wp2
      go_roundw
      case rel => exact ⟨k + 1, by omega, by go_num, hS⟩
      case measure => simp [intOf]; omega
    · have h1 : ¬ ((k : Int) * (s : Int) < n) := by rw [← hm]; have := mt hlt.1 h; omega
      have hb1 : (k : Int) * (s : Int) ≤ 1001000000 := by rw [← hm]; omega
      have hb0 : 0 ≤ (k : Int) * (s : Int) := by rw [← hm]; omega
      have HK : Hid (k = ceil n s) := by show k = ceil n s; omega
      clear hlt hm
      go_wp2
      go_ret
      exact ⟨by rw [← HK.out]; rfl, hS⟩

theorem heads_ceil (n : Nat) : heads (n : Int) = ceil (12 + 4 * n) 256 := by unfold heads ceil; rw [Int.toNat_natCast]; rfl
theorem heads_le (n : Nat) (h : n ≤ 256) : heads (n : Int) ≤ 5 := by unfold heads; rw [Int.toNat_natCast]; omega
def lvM (w : World) (m : Nat) : Nat := match w.cell? ⟨m, 3, none⟩ with | some (.slice none _ _) => 1 | _ => 0
end
end Go.Proofs.YtmhnnppcihoofaaDoor
