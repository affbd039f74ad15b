/-
  thimbleref02.Pick, thimbleref14.SameInts.
-/
import Derived.Test.YtdkimdobcacpfaaDoorTab
import Derived.Test.YtdkimdobcacpfaaDoorSlA
set_option linter.unusedSimpArgs false
set_option linter.unusedVariables false
namespace Go.Proofs.YtdkimdobcacpfaaDoor
open Go.RowKit Go.Proofs.YtdkimdobcacpfaaDoor.Sl

theorem tmod_fix (x n : Int) (h : 1 ≤ n) : (x.tmod n < 0 → x.tmod n + n = x % n) ∧ (0 ≤ x.tmod n → x.tmod n = x % n) ∧ -n < x.tmod n ∧ x.tmod n < n := by
  have h1 := Int.tmod_eq_emod (a := x) (b := n)
  have h2 := Int.emod_nonneg x (show n ≠ 0 by omega)
  have h3 := Int.emod_lt_of_pos x (show 0 < n by omega)
  have h4 : (n.natAbs : Int) = n := by omega
  split at h1
  · refine ⟨?_,?_,?_,?_⟩ <;> omega
  · rename_i hc
    have h5 : x % n ≠ 0 := fun e => hc (.inr (Int.dvd_of_emod_eq_zero e))
    refine ⟨?_,?_,?_,?_⟩ <;> omega

set_option maxHeartbeats 400000 in
theorem pick_any {w : World} (x n : Int) (h1 : 1 ≤ n) (h2 : n ≤ 4611686018427387904) :
    Calls Tryd.prog 14 #[.int .i64 x,.int .i64 n] w fun e w' => e = .returned (.int .i64 (x % n)) ∧ w = w' := by
  obtain ⟨a1,a2,a3,a4⟩ := tmod_fix x n h1
  have A1 := Lib.hid a1
  have A2 := Lib.hid a2
  clear a1 a2
  by_cases hneg : x.tmod n < 0
  · go_enter Tryd.func14,Tryd.ntmps14
    go_wp2
    go_ret
    exact ⟨by rw [A1.out hneg];rfl,rfl⟩
  · go_enter Tryd.func14,Tryd.ntmps14
    go_wp2
    go_ret
    exact ⟨by rw [A2.out (by omega)];rfl,rfl⟩
theorem pick_sat {w0 w : World} {S : List Chunk} (x n : Int) (h1 : 1 ≤ n) (h2 : n ≤ 4611686018427387904) (hS : Sat w0 S w) :
    Calls Tryd.prog 14 #[.int .i64 x,.int .i64 n] w fun e w' => e = .returned (.int .i64 (x % n)) ∧ Sat w0 S w' :=
  (pick_any x n h1 h2).mono fun _ _ ⟨h,e⟩ => ⟨h,e ▸ hS⟩
end Go.Proofs.YtdkimdobcacpfaaDoor
