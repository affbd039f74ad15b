/-
  Rows joined, up to a place. No program in sight.
-/
import Derived.Test.YtkppoffljkpiaaaDoorSlRd
namespace Go.Proofs.YtkppoffljkpiaaaDoor
open Go.RowKit Go.Proofs.YtkppoffljkpiaaaDoor.Sl

theorem take_get {α : Type} {A : List α} {k : Nat} {x : α} (hx : A[k]? = some x) : A.take (k + 1) = A.take k ++ [x] := by rw [List.take_add_one, hx]; rfl
theorem cat_take {X : List (Value × List Int)} {k : Nat} {x : Value × List Int} (hx : X[k]? = some x) : cat (X.take (k + 1)) = cat (X.take k) ++ x.2 := by
  unfold cat; rw [take_get hx, List.map_append, List.flatten_append]; simp
theorem cat_take_le (X : List (Value × List Int)) (k : Nat) : (cat (X.take k)).length ≤ (cat X).length := by
  have : cat X = cat (X.take k) ++ cat (X.drop k) := by unfold cat; rw [← List.flatten_append, ← List.map_append, List.take_append_drop]
  rw [this, List.length_append]; omega

end Go.Proofs.YtkppoffljkpiaaaDoor
