/-
  plan.Parent at a tree's plan.
-/
import Derived.Test.YtdkimdobcacpfaaDoorTrSt
import Derived.Test.YtdkimdobcacpfaaDoorSlB
set_option linter.unusedSimpArgs false
set_option linter.unusedVariables false
namespace Go.Proofs.YtdkimdobcacpfaaDoor
open Go.RowKit Go.Proofs.YtdkimdobcacpfaaDoor.Sl Go.Proofs.YtdkimdobcacpfaaDoor.Jp Go.Proofs.YtdkimdobcacpfaaDoor.Tr

def fan : Nat → Nat
  | 0 => 16
  | _ => 8
theorem num_par (fr y i q : Nat) (hq : 0 < q) (h1 : fr ≤ 1000000) (h2 : y ≤ 1000000) (h3 : i ≤ 1000000) : IntKind.i64.wrap (IntKind.i64.wrap ((fr : Int) + y) + IntKind.i64.wrap ((IntKind.i64.wrap ((fr : Int) + i - fr)).tdiv q)) = ((fr + y + i / q : Nat) : Int) ∧ (IntKind.i64.wrap ((fr : Int) + i - fr)).tmod q = ((i % q : Nat) : Int) := by
  have e1 : IntKind.i64.wrap ((fr : Int) + i - fr) = i := by rw [IntKind.wrap_i64];omega
  have e2 : IntKind.i64.wrap ((fr : Int) + y) = (fr : Int) + y := by rw [IntKind.wrap_i64];omega
  have e3 : ((i : Int)).tdiv q = ((i / q : Nat) : Int) := by rw [Int.tdiv_eq_ediv_of_nonneg (by omega)];rfl
  have e4 : i / q ≤ i := Nat.div_le_self _ _
  have e5 : IntKind.i64.wrap ((i / q : Nat) : Int) = ((i / q : Nat) : Int) := by rw [IntKind.wrap_i64];generalize i / q = z at *;omega
  refine ⟨?_,?_⟩
  · rw [e1,e2,e3,e5,IntKind.wrap_i64]
    generalize i / q = z at *
    omega
  · rw [e1,Int.tmod_eq_emod_of_nonneg (by omega)];rfl
section
variable {w0 w : World} {lv : Value} {b hd J s t : Int} {P C n1 N : Nat}
set_option maxHeartbeats 1000000 in
theorem top_any {P b C N H hd J s t : Int} (h : 0 ≤ H ∧ H ≤ 1000000) : Calls Tryd.prog 32 #[.agg (plL P b C lv N H hd J s t).toArray] w0 fun e w' => e = .returned (.int .i64 (H - 1)) ∧ Sat w0 [] w' := by
  have hS := Sat.refl w0
  go_enter Tryd.func32,Tryd.ntmps32
  go_wp2_with (first | (refine load1 hS rfl rfl rfl rfl ?_;simp only [putW]) | (refine boxN hS rfl rfl rfl ?_;clear hS;intro mb w hS;simp only [putW]))
  go_ret
  exact ⟨rfl,hS.nothing⟩
end
end Go.Proofs.YtdkimdobcacpfaaDoor
