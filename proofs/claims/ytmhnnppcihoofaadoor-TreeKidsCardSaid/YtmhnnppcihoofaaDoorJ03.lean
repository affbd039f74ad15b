/-
  thimbleref02: Copy, Num, Put; thimbleref03.Join.
-/
import Derived.Test.YtmhnnppcihoofaaDoorTab
import Derived.Test.YtmhnnppcihoofaaDoorSlB
import Derived.Test.YtmhnnppcihoofaaDoorShA
set_option linter.unusedSimpArgs false
set_option linter.unusedVariables false
namespace Go.Proofs.YtmhnnppcihoofaaDoor
open Go.RowKit Go.Proofs.YtmhnnppcihoofaaDoor.Sl Go.Proofs.YtmhnnppcihoofaaDoor.Jp

section
variable {w0 : World} {A : List Int} {va : Value}
/-- The bytes of a number, the least first. -/
def le (N k : Nat) : List Int := (List.range k).map fun j => ((N / 256 ^ j % 256 : Nat) : Int)
theorem le_succ (N k : Nat) : le N (k + 1) = le N k ++ [((N / 256 ^ k % 256 : Nat) : Int)] := by unfold le; rw [List.range_succ, List.map_append]; rfl
theorem le_get {N k j : Nat} (h : j < k) : (le N k)[j]? = some ((N / 256 ^ j % 256 : Nat) : Int) := by unfold le; simp [h]
theorem le_length (N k : Nat) : (le N k).length = k := by simp [le]
end
end Go.Proofs.YtmhnnppcihoofaaDoor
