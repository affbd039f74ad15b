/-
  thimbleref16: First, Parent at a tree's plan.
-/
import Derived.Test.YtmhnnppcihoofaaDoorTrR16
set_option linter.unusedSimpArgs false
set_option linter.unusedVariables false
namespace Go.Proofs.YtmhnnppcihoofaaDoor
open Go.RowKit Go.Proofs.YtmhnnppcihoofaaDoor.Sl Go.Proofs.YtmhnnppcihoofaaDoor.Jp Go.Proofs.YtmhnnppcihoofaaDoor.Tr

/-- The levels of nodes. -/
def lvs (n1 N : Nat) : List Int := if N = n1 then [(n1 : Int)] else [(n1 : Int), 1]
/-- Where what stands in a block is told. -/
def parP (P C n1 N k : Nat) : Option (Nat × Nat) := if k < P then some (P + k / 16, k % 16) else (par C n1 N (k - P)).map fun x => (P + x.1, x.2)
section
variable {w0 w : World} {S : List Chunk} {A : List Int} {lv : Value} {b N H hd J s t : Int} {P C : Nat}
/-- A place, or that there is none. -/
def parV : Option (Nat × Nat) → Value
  | some x => .tuple #[.agg #[.int .i64 (x.1 : Int), .int .i64 (x.2 : Int)], .int .i64 0]
  | none => .tuple #[.agg #[.int .i64 0, .int .i64 0], .int .i64 5]
end
end Go.Proofs.YtmhnnppcihoofaaDoor
