/-
  No cell of these rows narrows 'for every input' (looked for: loops, veiled, ifaces, maps, wideKeys, modest, calm, conditions, laid).
  DERIVED. THE GIVEN ROWS OF THIS SEAT. 5 by the template 'for every input the law returns true; each argument reads behind the call as it read before'; 0 by the template 'total and deterministic' (their statements: YtlkoclalcfeniaaTotals.lean).
  GIVEN WITH THE SEED: the statements are not yours to turn. If you find one false, say at which input.
  Laid BY PROGRAM, IN A SANDBOX (cutbox-rows.mjs): the forced cells as the released guide's own fill.sh prints them over the translation 141b76a377b0ca80… (all of the seat's roots in one cut). By AI agents, Wed Nov 11 2026. No macro, syntax, notation, axiom, sorry.
-/
import Derived.Test.YtlkoclalcfeniaaChecked
import GoSem.Claim
import GoSem.ClaimJoined
import GoSem.ClaimMapViews
import Derived.JoinedTies
import Derived.KernelRfl
namespace Go.Proofs.Ytlkoclalcfeniaa
/- THE CELL 'sum', in the pinned program and in every row, IS THE sha256 OF THE DUMP (.gsa) THAT YtlkoclalcfeniaaProg.lean LOADS. Nothing in Lean hashes anything: it is a label: what it is worth is what the hold of that sum in a sandbox is worth. -/
noncomputable def Try.pinned : Pinned := { name := "ytlkoclalcfeniaa", sum := "141b76a377b0ca80ccbeb2f21afa9e77e766bb633b33fd5f7b94718510a06c99", checked := Try.checked }
namespace Rows
def none {H : Type} : Left H := { results := [], args := [] }

/-- 'thimblelaw13.FramesPins': WHATEVER THE INPUT: true; the input reads as it did. -/
def framesPinsSpec : ChangeSpec := { name := "framesPins", fn := fun _ => fun
  | [d1, d2, d3] => { results := [.lit (.bool true)], args := [d1, d2, d3] }
  | _ => none }
def framesPinsRow : OpenClaim := { program := "ytlkoclalcfeniaa", sum := "141b76a377b0ca80ccbeb2f21afa9e77e766bb633b33fd5f7b94718510a06c99", func := "thimble/thimblelaw13.FramesPins", spec := "framesPins", inPlace := ["math.Float64bits"], unfollowed := true, recurses := true, plainKeys := false, apart := false }
def FramesPinsSaid : Prop := framesPinsRow.holds Try.pinned (OpenSpec.ofChange framesPinsSpec)

/-- ITS FALSE NEIGHBOUR: 'it returns false'. Refute it at one input. -/
def framesPinsWrong : ChangeSpec := { name := "framesPins", fn := fun _ => fun
  | [d1, d2, d3] => { results := [.lit (.bool false)], args := [d1, d2, d3] }
  | _ => none }
def FramesPinsWrongFalsely : Prop := framesPinsRow.holds Try.pinned (OpenSpec.ofChange framesPinsWrong)

/-- 'thimblelaw13.FramesShares': WHATEVER THE INPUT: true; the input reads as it did. -/
def framesSharesSpec : ChangeSpec := { name := "framesShares", fn := fun _ => fun
  | [d1, d2] => { results := [.lit (.bool true)], args := [d1, d2] }
  | _ => none }
def framesSharesRow : OpenClaim := { program := "ytlkoclalcfeniaa", sum := "141b76a377b0ca80ccbeb2f21afa9e77e766bb633b33fd5f7b94718510a06c99", func := "thimble/thimblelaw13.FramesShares", spec := "framesShares", inPlace := ["math.Float64bits"], unfollowed := true, recurses := true, plainKeys := false, apart := false }
def FramesSharesSaid : Prop := framesSharesRow.holds Try.pinned (OpenSpec.ofChange framesSharesSpec)

/-- ITS FALSE NEIGHBOUR: 'it returns false'. Refute it at one input. -/
def framesSharesWrong : ChangeSpec := { name := "framesShares", fn := fun _ => fun
  | [d1, d2] => { results := [.lit (.bool false)], args := [d1, d2] }
  | _ => none }
def FramesSharesWrongFalsely : Prop := framesSharesRow.holds Try.pinned (OpenSpec.ofChange framesSharesWrong)

/-- 'thimblelaw13.FramesHave': WHATEVER THE INPUT: true; the input reads as it did. -/
def framesHaveSpec : ChangeSpec := { name := "framesHave", fn := fun _ => fun
  | [d1, d2] => { results := [.lit (.bool true)], args := [d1, d2] }
  | _ => none }
def framesHaveRow : OpenClaim := { program := "ytlkoclalcfeniaa", sum := "141b76a377b0ca80ccbeb2f21afa9e77e766bb633b33fd5f7b94718510a06c99", func := "thimble/thimblelaw13.FramesHave", spec := "framesHave", inPlace := ["math.Float64bits"], unfollowed := true, recurses := true, plainKeys := false, apart := false }
def FramesHaveSaid : Prop := framesHaveRow.holds Try.pinned (OpenSpec.ofChange framesHaveSpec)

/-- ITS FALSE NEIGHBOUR: 'it returns false'. Refute it at one input. -/
def framesHaveWrong : ChangeSpec := { name := "framesHave", fn := fun _ => fun
  | [d1, d2] => { results := [.lit (.bool false)], args := [d1, d2] }
  | _ => none }
def FramesHaveWrongFalsely : Prop := framesHaveRow.holds Try.pinned (OpenSpec.ofChange framesHaveWrong)

/-- 'thimblelaw13.FramesNil': WHATEVER THE INPUT: true; the input reads as it did. -/
def framesNilSpec : ChangeSpec := { name := "framesNil", fn := fun _ => fun
  | [d1, d2] => { results := [.lit (.bool true)], args := [d1, d2] }
  | _ => none }
def framesNilRow : OpenClaim := { program := "ytlkoclalcfeniaa", sum := "141b76a377b0ca80ccbeb2f21afa9e77e766bb633b33fd5f7b94718510a06c99", func := "thimble/thimblelaw13.FramesNil", spec := "framesNil", inPlace := ["math.Float64bits"], unfollowed := true, recurses := true, plainKeys := false, apart := false }
def FramesNilSaid : Prop := framesNilRow.holds Try.pinned (OpenSpec.ofChange framesNilSpec)

/-- ITS FALSE NEIGHBOUR: 'it returns false'. Refute it at one input. -/
def framesNilWrong : ChangeSpec := { name := "framesNil", fn := fun _ => fun
  | [d1, d2] => { results := [.lit (.bool false)], args := [d1, d2] }
  | _ => none }
def FramesNilWrongFalsely : Prop := framesNilRow.holds Try.pinned (OpenSpec.ofChange framesNilWrong)

/-- 'thimblelaw13.FramesPlays': WHATEVER THE INPUT: true; the input reads as it did. -/
def framesPlaysSpec : ChangeSpec := { name := "framesPlays", fn := fun _ => fun
  | [d1, d2] => { results := [.lit (.bool true)], args := [d1, d2] }
  | _ => none }
def framesPlaysRow : OpenClaim := { program := "ytlkoclalcfeniaa", sum := "141b76a377b0ca80ccbeb2f21afa9e77e766bb633b33fd5f7b94718510a06c99", func := "thimble/thimblelaw13.FramesPlays", spec := "framesPlays", inPlace := ["math.Float64bits", "math.Float64frombits"], unfollowed := true, recurses := true, plainKeys := false, apart := false }
def FramesPlaysSaid : Prop := framesPlaysRow.holds Try.pinned (OpenSpec.ofChange framesPlaysSpec)

/-- ITS FALSE NEIGHBOUR: 'it returns false'. Refute it at one input. -/
def framesPlaysWrong : ChangeSpec := { name := "framesPlays", fn := fun _ => fun
  | [d1, d2] => { results := [.lit (.bool false)], args := [d1, d2] }
  | _ => none }
def FramesPlaysWrongFalsely : Prop := framesPlaysRow.holds Try.pinned (OpenSpec.ofChange framesPlaysWrong)

/- THE SECOND FORM. 'bulk': how many values and letters a reading holds, each counted each time it is reached (what is shared counts as often as it is met; a slice's spare places count too). A statement '..UptoSaid' is the law's where the arguments, and the package variables that the reading takes, are together of bulk at most 1048576: NARROWER than '..Said'. Prove '..Said' where nothing that the law and all that it calls make is longer than what came in: it says more and counts as full. Else prove '..UptoSaid'. A law counts once. -/
mutual
def uptoBulk {H : Type} : DataW H → Nat
  | .lit (.string bytes) => bytes.length + 1
  | .lit _ => 1
  | .nil => 1
  | .ptr d => uptoBulk d + 1
  | .slice elems spare => uptoBulkAll elems + uptoBulkAll spare + 1
  | .agg parts => uptoBulkAll parts + 1
  | .iface _ d => uptoBulk d + 1
  | .map entries => uptoBulkEntries entries + 1
  | .held _ => 1
def uptoBulkAll {H : Type} : List (DataW H) → Nat
  | [] => 0
  | d :: r => uptoBulk d + uptoBulkAll r
def uptoBulkEntries {H : Type} : List (Lit × DataW H) → Nat
  | [] => 0
  | x :: r => uptoBulkEntry x + uptoBulkEntries r
def uptoBulkEntry {H : Type} : Lit × DataW H → Nat
  | (.string bytes, d) => bytes.length + uptoBulk d + 1
  | (_, d) => uptoBulk d + 1
 end
def uptoSmall : (H : Type) → List (DataW H) → Bool := fun _ ds => decide (uptoBulkAll ds ≤ 1048576)
def OpenSpec.upto (s : _root_.Go.ChangeSpec) : _root_.Go.OpenSpec := { _root_.Go.OpenSpec.ofChange s with cond := some uptoSmall }

/-- 'thimblelaw13.FramesPins', WHERE WHAT IT READS IS OF BULK AT MOST 1048576: true; the input reads as it did. -/
def framesPinsUptoRow : OpenClaim := { program := "ytlkoclalcfeniaa", sum := "141b76a377b0ca80ccbeb2f21afa9e77e766bb633b33fd5f7b94718510a06c99", func := "thimble/thimblelaw13.FramesPins", spec := "framesPins", inPlace := ["math.Float64bits"], unfollowed := true, recurses := true, plainKeys := false, apart := false, narrowed := true }
def FramesPinsUptoSaid : Prop := framesPinsUptoRow.holds Try.pinned (OpenSpec.upto framesPinsSpec)

/-- 'thimblelaw13.FramesShares', WHERE WHAT IT READS IS OF BULK AT MOST 1048576: true; the input reads as it did. -/
def framesSharesUptoRow : OpenClaim := { program := "ytlkoclalcfeniaa", sum := "141b76a377b0ca80ccbeb2f21afa9e77e766bb633b33fd5f7b94718510a06c99", func := "thimble/thimblelaw13.FramesShares", spec := "framesShares", inPlace := ["math.Float64bits"], unfollowed := true, recurses := true, plainKeys := false, apart := false, narrowed := true }
def FramesSharesUptoSaid : Prop := framesSharesUptoRow.holds Try.pinned (OpenSpec.upto framesSharesSpec)

/-- 'thimblelaw13.FramesHave', WHERE WHAT IT READS IS OF BULK AT MOST 1048576: true; the input reads as it did. -/
def framesHaveUptoRow : OpenClaim := { program := "ytlkoclalcfeniaa", sum := "141b76a377b0ca80ccbeb2f21afa9e77e766bb633b33fd5f7b94718510a06c99", func := "thimble/thimblelaw13.FramesHave", spec := "framesHave", inPlace := ["math.Float64bits"], unfollowed := true, recurses := true, plainKeys := false, apart := false, narrowed := true }
def FramesHaveUptoSaid : Prop := framesHaveUptoRow.holds Try.pinned (OpenSpec.upto framesHaveSpec)

/-- 'thimblelaw13.FramesNil', WHERE WHAT IT READS IS OF BULK AT MOST 1048576: true; the input reads as it did. -/
def framesNilUptoRow : OpenClaim := { program := "ytlkoclalcfeniaa", sum := "141b76a377b0ca80ccbeb2f21afa9e77e766bb633b33fd5f7b94718510a06c99", func := "thimble/thimblelaw13.FramesNil", spec := "framesNil", inPlace := ["math.Float64bits"], unfollowed := true, recurses := true, plainKeys := false, apart := false, narrowed := true }
def FramesNilUptoSaid : Prop := framesNilUptoRow.holds Try.pinned (OpenSpec.upto framesNilSpec)

/-- 'thimblelaw13.FramesPlays', WHERE WHAT IT READS IS OF BULK AT MOST 1048576: true; the input reads as it did. -/
def framesPlaysUptoRow : OpenClaim := { program := "ytlkoclalcfeniaa", sum := "141b76a377b0ca80ccbeb2f21afa9e77e766bb633b33fd5f7b94718510a06c99", func := "thimble/thimblelaw13.FramesPlays", spec := "framesPlays", inPlace := ["math.Float64bits", "math.Float64frombits"], unfollowed := true, recurses := true, plainKeys := false, apart := false, narrowed := true }
def FramesPlaysUptoSaid : Prop := framesPlaysUptoRow.holds Try.pinned (OpenSpec.upto framesPlaysSpec)

end Rows
end Go.Proofs.Ytlkoclalcfeniaa
