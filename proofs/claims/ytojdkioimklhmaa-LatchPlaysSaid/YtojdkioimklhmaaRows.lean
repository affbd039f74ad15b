/-
  No cell of these rows narrows 'for every input' (looked for: loops, veiled, ifaces, maps, wideKeys, modest, calm, conditions, laid).
  DERIVED. THE GIVEN ROWS OF THIS SEAT. 6 by the template 'for every input the law returns true; each argument reads behind the call as it read before'; 0 by the template 'total and deterministic' (their statements: YtojdkioimklhmaaTotals.lean).
  GIVEN WITH THE SEED: the statements are not yours to turn. If you find one false, say at which input.
  Laid BY PROGRAM, IN A SANDBOX (cutbox-rows.mjs): the forced cells as the released guide's own fill.sh prints them over the translation 8e64db9b8e3432e8… (all of the seat's roots in one cut). By AI agents, Wed Nov 11 2026. No macro, syntax, notation, axiom, sorry.
-/
import Derived.Test.YtojdkioimklhmaaChecked
import GoSem.Claim
import GoSem.ClaimJoined
import GoSem.ClaimMapViews
import Derived.JoinedTies
import Derived.KernelRfl
namespace Go.Proofs.Ytojdkioimklhmaa
/- THE CELL 'sum', in the pinned program and in every row, IS THE sha256 OF THE DUMP (.gsa) THAT YtojdkioimklhmaaProg.lean LOADS. Nothing in Lean hashes anything: it is a label: what it is worth is what the hold of that sum in a sandbox is worth. -/
noncomputable def Try.pinned : Pinned := { name := "ytojdkioimklhmaa", sum := "8e64db9b8e3432e88c039d07efd8b90e95c3c8fd50f229c258e67d565558e8f2", checked := Try.checked }
namespace Rows
def none {H : Type} : Left H := { results := [], args := [] }

/-- 'thimblelaw14.LatchAlone': WHATEVER THE INPUT: true; the input reads as it did. -/
def latchAloneSpec : ChangeSpec := { name := "latchAlone", fn := fun _ => fun
  | [d] => { results := [.lit (.bool true)], args := [d] }
  | _ => none }
def latchAloneRow : OpenClaim := { program := "ytojdkioimklhmaa", sum := "8e64db9b8e3432e88c039d07efd8b90e95c3c8fd50f229c258e67d565558e8f2", func := "thimble/thimblelaw14.LatchAlone", spec := "latchAlone", unfollowed := true, recurses := true, apart := false }
def LatchAloneSaid : Prop := latchAloneRow.holds Try.pinned (OpenSpec.ofChange latchAloneSpec)

/-- ITS FALSE NEIGHBOUR: 'it returns false'. Refute it at one input. -/
def latchAloneWrong : ChangeSpec := { name := "latchAlone", fn := fun _ => fun
  | [d] => { results := [.lit (.bool false)], args := [d] }
  | _ => none }
def LatchAloneWrongFalsely : Prop := latchAloneRow.holds Try.pinned (OpenSpec.ofChange latchAloneWrong)

/-- 'thimblelaw14.LatchOrder': WHATEVER THE INPUT: true; the input reads as it did. -/
def latchOrderSpec : ChangeSpec := { name := "latchOrder", fn := fun _ => fun
  | [d1, d2, d3] => { results := [.lit (.bool true)], args := [d1, d2, d3] }
  | _ => none }
def latchOrderRow : OpenClaim := { program := "ytojdkioimklhmaa", sum := "8e64db9b8e3432e88c039d07efd8b90e95c3c8fd50f229c258e67d565558e8f2", func := "thimble/thimblelaw14.LatchOrder", spec := "latchOrder", unfollowed := true, recurses := true, apart := false }
def LatchOrderSaid : Prop := latchOrderRow.holds Try.pinned (OpenSpec.ofChange latchOrderSpec)

/-- ITS FALSE NEIGHBOUR: 'it returns false'. Refute it at one input. -/
def latchOrderWrong : ChangeSpec := { name := "latchOrder", fn := fun _ => fun
  | [d1, d2, d3] => { results := [.lit (.bool false)], args := [d1, d2, d3] }
  | _ => none }
def LatchOrderWrongFalsely : Prop := latchOrderRow.holds Try.pinned (OpenSpec.ofChange latchOrderWrong)

/-- 'thimblelaw14.LatchShared': WHATEVER THE INPUT: true; the input reads as it did. -/
def latchSharedSpec : ChangeSpec := { name := "latchShared", fn := fun _ => fun
  | [d1, d2] => { results := [.lit (.bool true)], args := [d1, d2] }
  | _ => none }
def latchSharedRow : OpenClaim := { program := "ytojdkioimklhmaa", sum := "8e64db9b8e3432e88c039d07efd8b90e95c3c8fd50f229c258e67d565558e8f2", func := "thimble/thimblelaw14.LatchShared", spec := "latchShared", unfollowed := true, recurses := true, apart := false }
def LatchSharedSaid : Prop := latchSharedRow.holds Try.pinned (OpenSpec.ofChange latchSharedSpec)

/-- ITS FALSE NEIGHBOUR: 'it returns false'. Refute it at one input. -/
def latchSharedWrong : ChangeSpec := { name := "latchShared", fn := fun _ => fun
  | [d1, d2] => { results := [.lit (.bool false)], args := [d1, d2] }
  | _ => none }
def LatchSharedWrongFalsely : Prop := latchSharedRow.holds Try.pinned (OpenSpec.ofChange latchSharedWrong)

/-- 'thimblelaw14.LatchPlays': WHATEVER THE INPUT: true; the input reads as it did. -/
def latchPlaysSpec : ChangeSpec := { name := "latchPlays", fn := fun _ => fun
  | [d] => { results := [.lit (.bool true)], args := [d] }
  | _ => none }
def latchPlaysRow : OpenClaim := { program := "ytojdkioimklhmaa", sum := "8e64db9b8e3432e88c039d07efd8b90e95c3c8fd50f229c258e67d565558e8f2", func := "thimble/thimblelaw14.LatchPlays", spec := "latchPlays", unfollowed := true, recurses := true, apart := false }
def LatchPlaysSaid : Prop := latchPlaysRow.holds Try.pinned (OpenSpec.ofChange latchPlaysSpec)

/-- ITS FALSE NEIGHBOUR: 'it returns false'. Refute it at one input. -/
def latchPlaysWrong : ChangeSpec := { name := "latchPlays", fn := fun _ => fun
  | [d] => { results := [.lit (.bool false)], args := [d] }
  | _ => none }
def LatchPlaysWrongFalsely : Prop := latchPlaysRow.holds Try.pinned (OpenSpec.ofChange latchPlaysWrong)

/-- 'thimblelaw14.LatchNobody': WHATEVER THE INPUT: true; the input reads as it did. -/
def latchNobodySpec : ChangeSpec := { name := "latchNobody", fn := fun _ => fun
  | [d] => { results := [.lit (.bool true)], args := [d] }
  | _ => none }
def latchNobodyRow : OpenClaim := { program := "ytojdkioimklhmaa", sum := "8e64db9b8e3432e88c039d07efd8b90e95c3c8fd50f229c258e67d565558e8f2", func := "thimble/thimblelaw14.LatchNobody", spec := "latchNobody", unfollowed := true, recurses := true, apart := false }
def LatchNobodySaid : Prop := latchNobodyRow.holds Try.pinned (OpenSpec.ofChange latchNobodySpec)

/-- ITS FALSE NEIGHBOUR: 'it returns false'. Refute it at one input. -/
def latchNobodyWrong : ChangeSpec := { name := "latchNobody", fn := fun _ => fun
  | [d] => { results := [.lit (.bool false)], args := [d] }
  | _ => none }
def LatchNobodyWrongFalsely : Prop := latchNobodyRow.holds Try.pinned (OpenSpec.ofChange latchNobodyWrong)

/-- 'thimblelaw14.LatchNil': WHATEVER THE INPUT: true; the input reads as it did. -/
def latchNilSpec : ChangeSpec := { name := "latchNil", fn := fun _ => fun
  | [d1, d2, d3] => { results := [.lit (.bool true)], args := [d1, d2, d3] }
  | _ => none }
def latchNilRow : OpenClaim := { program := "ytojdkioimklhmaa", sum := "8e64db9b8e3432e88c039d07efd8b90e95c3c8fd50f229c258e67d565558e8f2", func := "thimble/thimblelaw14.LatchNil", spec := "latchNil", unfollowed := true, recurses := true, apart := false }
def LatchNilSaid : Prop := latchNilRow.holds Try.pinned (OpenSpec.ofChange latchNilSpec)

/-- ITS FALSE NEIGHBOUR: 'it returns false'. Refute it at one input. -/
def latchNilWrong : ChangeSpec := { name := "latchNil", fn := fun _ => fun
  | [d1, d2, d3] => { results := [.lit (.bool false)], args := [d1, d2, d3] }
  | _ => none }
def LatchNilWrongFalsely : Prop := latchNilRow.holds Try.pinned (OpenSpec.ofChange latchNilWrong)

/- THE SECOND FORM. 'bulk': how many values and letters a reading holds, each counted each time it is reached (what is shared counts as often as it is met; a slice's spare places count too). A statement '..UptoSaid' is the law's where the arguments, and the package variables that the reading takes, are together of bulk at most 1048576: NARROWER than '..Said'. Prove '..Said' where nothing that the law and all that it calls make is longer than what came in: it says more and counts as full. Else prove '..UptoSaid'. A law counts once. -/
mutual
def uptoBulk {H : Type} : DataW H → Nat
  | .lit (.string bytes) => bytes.length + 1
  | .lit _ => 1
  | .nil => 1
  | .ptr d => uptoBulk d + 1
  | .slice elems spare => uptoBulkAll elems + uptoBulkAll spare + 1
  | .agg parts => uptoBulkAll parts + 1
  | .iface _ d => uptoBulk d + 1
  | .map entries => uptoBulkEntries entries + 1
  | .held _ => 1
def uptoBulkAll {H : Type} : List (DataW H) → Nat
  | [] => 0
  | d :: r => uptoBulk d + uptoBulkAll r
def uptoBulkEntries {H : Type} : List (Lit × DataW H) → Nat
  | [] => 0
  | x :: r => uptoBulkEntry x + uptoBulkEntries r
def uptoBulkEntry {H : Type} : Lit × DataW H → Nat
  | (.string bytes, d) => bytes.length + uptoBulk d + 1
  | (_, d) => uptoBulk d + 1
 end
def uptoSmall : (H : Type) → List (DataW H) → Bool := fun _ ds => decide (uptoBulkAll ds ≤ 1048576)
def OpenSpec.upto (s : _root_.Go.ChangeSpec) : _root_.Go.OpenSpec := { _root_.Go.OpenSpec.ofChange s with cond := some uptoSmall }

/-- 'thimblelaw14.LatchAlone', WHERE WHAT IT READS IS OF BULK AT MOST 1048576: true; the input reads as it did. -/
def latchAloneUptoRow : OpenClaim := { program := "ytojdkioimklhmaa", sum := "8e64db9b8e3432e88c039d07efd8b90e95c3c8fd50f229c258e67d565558e8f2", func := "thimble/thimblelaw14.LatchAlone", spec := "latchAlone", unfollowed := true, recurses := true, apart := false, narrowed := true }
def LatchAloneUptoSaid : Prop := latchAloneUptoRow.holds Try.pinned (OpenSpec.upto latchAloneSpec)

/-- 'thimblelaw14.LatchOrder', WHERE WHAT IT READS IS OF BULK AT MOST 1048576: true; the input reads as it did. -/
def latchOrderUptoRow : OpenClaim := { program := "ytojdkioimklhmaa", sum := "8e64db9b8e3432e88c039d07efd8b90e95c3c8fd50f229c258e67d565558e8f2", func := "thimble/thimblelaw14.LatchOrder", spec := "latchOrder", unfollowed := true, recurses := true, apart := false, narrowed := true }
def LatchOrderUptoSaid : Prop := latchOrderUptoRow.holds Try.pinned (OpenSpec.upto latchOrderSpec)

/-- 'thimblelaw14.LatchShared', WHERE WHAT IT READS IS OF BULK AT MOST 1048576: true; the input reads as it did. -/
def latchSharedUptoRow : OpenClaim := { program := "ytojdkioimklhmaa", sum := "8e64db9b8e3432e88c039d07efd8b90e95c3c8fd50f229c258e67d565558e8f2", func := "thimble/thimblelaw14.LatchShared", spec := "latchShared", unfollowed := true, recurses := true, apart := false, narrowed := true }
def LatchSharedUptoSaid : Prop := latchSharedUptoRow.holds Try.pinned (OpenSpec.upto latchSharedSpec)

/-- 'thimblelaw14.LatchPlays', WHERE WHAT IT READS IS OF BULK AT MOST 1048576: true; the input reads as it did. -/
def latchPlaysUptoRow : OpenClaim := { program := "ytojdkioimklhmaa", sum := "8e64db9b8e3432e88c039d07efd8b90e95c3c8fd50f229c258e67d565558e8f2", func := "thimble/thimblelaw14.LatchPlays", spec := "latchPlays", unfollowed := true, recurses := true, apart := false, narrowed := true }
def LatchPlaysUptoSaid : Prop := latchPlaysUptoRow.holds Try.pinned (OpenSpec.upto latchPlaysSpec)

/-- 'thimblelaw14.LatchNobody', WHERE WHAT IT READS IS OF BULK AT MOST 1048576: true; the input reads as it did. -/
def latchNobodyUptoRow : OpenClaim := { program := "ytojdkioimklhmaa", sum := "8e64db9b8e3432e88c039d07efd8b90e95c3c8fd50f229c258e67d565558e8f2", func := "thimble/thimblelaw14.LatchNobody", spec := "latchNobody", unfollowed := true, recurses := true, apart := false, narrowed := true }
def LatchNobodyUptoSaid : Prop := latchNobodyUptoRow.holds Try.pinned (OpenSpec.upto latchNobodySpec)

/-- 'thimblelaw14.LatchNil', WHERE WHAT IT READS IS OF BULK AT MOST 1048576: true; the input reads as it did. -/
def latchNilUptoRow : OpenClaim := { program := "ytojdkioimklhmaa", sum := "8e64db9b8e3432e88c039d07efd8b90e95c3c8fd50f229c258e67d565558e8f2", func := "thimble/thimblelaw14.LatchNil", spec := "latchNil", unfollowed := true, recurses := true, apart := false, narrowed := true }
def LatchNilUptoSaid : Prop := latchNilUptoRow.holds Try.pinned (OpenSpec.upto latchNilSpec)

end Rows
end Go.Proofs.Ytojdkioimklhmaa
