/-
  thimbleref16: Level, First, Parent, Of at a tree's plan.
-/
import Derived.Test.YtmhnnppcihoofaaDoorJPlan
import Derived.Test.YtmhnnppcihoofaaDoorTrPlain
import Derived.Test.YtmhnnppcihoofaaDoorSlB
set_option linter.unusedSimpArgs false
set_option linter.unusedVariables false
namespace Go.Proofs.YtmhnnppcihoofaaDoor
open Go.RowKit Go.Proofs.YtmhnnppcihoofaaDoor.Sl Go.Proofs.YtmhnnppcihoofaaDoor.Jp Go.Proofs.YtmhnnppcihoofaaDoor.Tr

/-- A plan's cells. -/
abbrev plL (P b C : Int) (lv : Value) (N H hd J s t : Int) : List Value := [.int .i64 P, .int .i64 b, .int .i64 C, lv, .int .i64 N, .int .i64 H, .int .i64 hd, .int .i64 J, .int .i64 s, .int .i64 t]
/-- In which level a block stands, and where in it. -/
def lvlF : List Int → Int → Int → Int × Int
  | [], _, _ => (-1, 0)
  | a :: l, i, t => if t < a then (i, t) else lvlF l (i + 1) (t - a)
theorem lvlF_drop {A : List Int} {k : Nat} {x : Int} (h : A[k]? = some x) (t : Int) : lvlF (A.drop k) k t = if t < x then ((k : Int), t) else lvlF (A.drop (k + 1)) ((k + 1 : Nat) : Int) (t - x) := by
  obtain ⟨hk, he⟩ := List.getElem?_eq_some_iff.1 h
  rw [List.drop_eq_getElem_cons hk, he, lvlF]
  push_cast
  rfl
section
variable {w0 w : World} {S : List Chunk} {A : List Int} {lv : Value} {P b C N H hd J s t : Int}
end
end Go.Proofs.YtmhnnppcihoofaaDoor
