/-
  No cell of these rows narrows 'for every input' (looked for: loops, veiled, ifaces, maps, wideKeys, modest, calm, conditions, laid).
  DERIVED. THE GIVEN ROWS OF THIS SEAT. 4 by the template 'for every input the law returns true; each argument reads behind the call as it read before'; 0 by the template 'total and deterministic' (their statements: YthlcjefkhlfkpaaTotals.lean).
  GIVEN WITH THE SEED: the statements are not yours to turn. If you find one false, say at which input.
  Laid BY PROGRAM, IN A SANDBOX (cutbox-rows.mjs): the forced cells as the released guide's own fill.sh prints them over the translation cf15d57511da0b1b… (all of the seat's roots in one cut). By AI agents, Wed Nov 11 2026. No macro, syntax, notation, axiom, sorry.
-/
import Derived.Test.YthlcjefkhlfkpaaChecked
import GoSem.Claim
import GoSem.ClaimJoined
import GoSem.ClaimMapViews
import Derived.JoinedTies
import Derived.KernelRfl
namespace Go.Proofs.Ythlcjefkhlfkpaa
/- THE CELL 'sum', in the pinned program and in every row, IS THE sha256 OF THE DUMP (.gsa) THAT YthlcjefkhlfkpaaProg.lean LOADS. Nothing in Lean hashes anything: it is a label: what it is worth is what the hold of that sum in a sandbox is worth. -/
noncomputable def Try.pinned : Pinned := { name := "ythlcjefkhlfkpaa", sum := "cf15d57511da0b1b1180775549455ea616a7ba69481a4defc5c077aa7dde4767", checked := Try.checked }
namespace Rows
def none {H : Type} : Left H := { results := [], args := [] }

/-- 'thimblelaw20.SpillPlays': WHATEVER THE INPUT: true; the input reads as it did. -/
def spillPlaysSpec : ChangeSpec := { name := "spillPlays", fn := fun _ => fun
  | [d1, d2] => { results := [.lit (.bool true)], args := [d1, d2] }
  | _ => none }
def spillPlaysRow : OpenClaim := { program := "ythlcjefkhlfkpaa", sum := "cf15d57511da0b1b1180775549455ea616a7ba69481a4defc5c077aa7dde4767", func := "thimble/thimblelaw20.SpillPlays", spec := "spillPlays", apart := false }
def SpillPlaysSaid : Prop := spillPlaysRow.holds Try.pinned (OpenSpec.ofChange spillPlaysSpec)

/-- ITS FALSE NEIGHBOUR: 'it returns false'. Refute it at one input. -/
def spillPlaysWrong : ChangeSpec := { name := "spillPlays", fn := fun _ => fun
  | [d1, d2] => { results := [.lit (.bool false)], args := [d1, d2] }
  | _ => none }
def SpillPlaysWrongFalsely : Prop := spillPlaysRow.holds Try.pinned (OpenSpec.ofChange spillPlaysWrong)

/-- 'thimblelaw20.SpillAll': WHATEVER THE INPUT: true; the input reads as it did. -/
def spillAllSpec : ChangeSpec := { name := "spillAll", fn := fun _ => fun
  | [d1, d2, d3] => { results := [.lit (.bool true)], args := [d1, d2, d3] }
  | _ => none }
def spillAllRow : OpenClaim := { program := "ythlcjefkhlfkpaa", sum := "cf15d57511da0b1b1180775549455ea616a7ba69481a4defc5c077aa7dde4767", func := "thimble/thimblelaw20.SpillAll", spec := "spillAll", unfollowed := true, recurses := true, apart := false }
def SpillAllSaid : Prop := spillAllRow.holds Try.pinned (OpenSpec.ofChange spillAllSpec)

/-- ITS FALSE NEIGHBOUR: 'it returns false'. Refute it at one input. -/
def spillAllWrong : ChangeSpec := { name := "spillAll", fn := fun _ => fun
  | [d1, d2, d3] => { results := [.lit (.bool false)], args := [d1, d2, d3] }
  | _ => none }
def SpillAllWrongFalsely : Prop := spillAllRow.holds Try.pinned (OpenSpec.ofChange spillAllWrong)

/-- 'thimblelaw20.SpillOnce': WHATEVER THE INPUT: true; the input reads as it did. -/
def spillOnceSpec : ChangeSpec := { name := "spillOnce", fn := fun _ => fun
  | [d1, d2] => { results := [.lit (.bool true)], args := [d1, d2] }
  | _ => none }
def spillOnceRow : OpenClaim := { program := "ythlcjefkhlfkpaa", sum := "cf15d57511da0b1b1180775549455ea616a7ba69481a4defc5c077aa7dde4767", func := "thimble/thimblelaw20.SpillOnce", spec := "spillOnce", unfollowed := true, recurses := true, apart := false }
def SpillOnceSaid : Prop := spillOnceRow.holds Try.pinned (OpenSpec.ofChange spillOnceSpec)

/-- ITS FALSE NEIGHBOUR: 'it returns false'. Refute it at one input. -/
def spillOnceWrong : ChangeSpec := { name := "spillOnce", fn := fun _ => fun
  | [d1, d2] => { results := [.lit (.bool false)], args := [d1, d2] }
  | _ => none }
def SpillOnceWrongFalsely : Prop := spillOnceRow.holds Try.pinned (OpenSpec.ofChange spillOnceWrong)

/-- 'thimblelaw20.SpillNil': WHATEVER THE INPUT: true; the input reads as it did. -/
def spillNilSpec : ChangeSpec := { name := "spillNil", fn := fun _ => fun
  | [d1, d2] => { results := [.lit (.bool true)], args := [d1, d2] }
  | _ => none }
def spillNilRow : OpenClaim := { program := "ythlcjefkhlfkpaa", sum := "cf15d57511da0b1b1180775549455ea616a7ba69481a4defc5c077aa7dde4767", func := "thimble/thimblelaw20.SpillNil", spec := "spillNil", unfollowed := true, recurses := true, apart := false }
def SpillNilSaid : Prop := spillNilRow.holds Try.pinned (OpenSpec.ofChange spillNilSpec)

/-- ITS FALSE NEIGHBOUR: 'it returns false'. Refute it at one input. -/
def spillNilWrong : ChangeSpec := { name := "spillNil", fn := fun _ => fun
  | [d1, d2] => { results := [.lit (.bool false)], args := [d1, d2] }
  | _ => none }
def SpillNilWrongFalsely : Prop := spillNilRow.holds Try.pinned (OpenSpec.ofChange spillNilWrong)

/- THE SECOND FORM. 'bulk': how many values and letters a reading holds, each counted each time it is reached (what is shared counts as often as it is met; a slice's spare places count too). A statement '..UptoSaid' is the law's where the arguments, and the package variables that the reading takes, are together of bulk at most 1048576: NARROWER than '..Said'. Prove '..Said' where nothing that the law and all that it calls make is longer than what came in: it says more and counts as full. Else prove '..UptoSaid'. A law counts once. -/
mutual
def uptoBulk {H : Type} : DataW H → Nat
  | .lit (.string bytes) => bytes.length + 1
  | .lit _ => 1
  | .nil => 1
  | .ptr d => uptoBulk d + 1
  | .slice elems spare => uptoBulkAll elems + uptoBulkAll spare + 1
  | .agg parts => uptoBulkAll parts + 1
  | .iface _ d => uptoBulk d + 1
  | .map entries => uptoBulkEntries entries + 1
  | .held _ => 1
def uptoBulkAll {H : Type} : List (DataW H) → Nat
  | [] => 0
  | d :: r => uptoBulk d + uptoBulkAll r
def uptoBulkEntries {H : Type} : List (Lit × DataW H) → Nat
  | [] => 0
  | x :: r => uptoBulkEntry x + uptoBulkEntries r
def uptoBulkEntry {H : Type} : Lit × DataW H → Nat
  | (.string bytes, d) => bytes.length + uptoBulk d + 1
  | (_, d) => uptoBulk d + 1
 end
def uptoSmall : (H : Type) → List (DataW H) → Bool := fun _ ds => decide (uptoBulkAll ds ≤ 1048576)
def OpenSpec.upto (s : _root_.Go.ChangeSpec) : _root_.Go.OpenSpec := { _root_.Go.OpenSpec.ofChange s with cond := some uptoSmall }

/-- 'thimblelaw20.SpillPlays', WHERE WHAT IT READS IS OF BULK AT MOST 1048576: true; the input reads as it did. -/
def spillPlaysUptoRow : OpenClaim := { program := "ythlcjefkhlfkpaa", sum := "cf15d57511da0b1b1180775549455ea616a7ba69481a4defc5c077aa7dde4767", func := "thimble/thimblelaw20.SpillPlays", spec := "spillPlays", apart := false, narrowed := true }
def SpillPlaysUptoSaid : Prop := spillPlaysUptoRow.holds Try.pinned (OpenSpec.upto spillPlaysSpec)

/-- 'thimblelaw20.SpillAll', WHERE WHAT IT READS IS OF BULK AT MOST 1048576: true; the input reads as it did. -/
def spillAllUptoRow : OpenClaim := { program := "ythlcjefkhlfkpaa", sum := "cf15d57511da0b1b1180775549455ea616a7ba69481a4defc5c077aa7dde4767", func := "thimble/thimblelaw20.SpillAll", spec := "spillAll", unfollowed := true, recurses := true, apart := false, narrowed := true }
def SpillAllUptoSaid : Prop := spillAllUptoRow.holds Try.pinned (OpenSpec.upto spillAllSpec)

/-- 'thimblelaw20.SpillOnce', WHERE WHAT IT READS IS OF BULK AT MOST 1048576: true; the input reads as it did. -/
def spillOnceUptoRow : OpenClaim := { program := "ythlcjefkhlfkpaa", sum := "cf15d57511da0b1b1180775549455ea616a7ba69481a4defc5c077aa7dde4767", func := "thimble/thimblelaw20.SpillOnce", spec := "spillOnce", unfollowed := true, recurses := true, apart := false, narrowed := true }
def SpillOnceUptoSaid : Prop := spillOnceUptoRow.holds Try.pinned (OpenSpec.upto spillOnceSpec)

/-- 'thimblelaw20.SpillNil', WHERE WHAT IT READS IS OF BULK AT MOST 1048576: true; the input reads as it did. -/
def spillNilUptoRow : OpenClaim := { program := "ythlcjefkhlfkpaa", sum := "cf15d57511da0b1b1180775549455ea616a7ba69481a4defc5c077aa7dde4767", func := "thimble/thimblelaw20.SpillNil", spec := "spillNil", unfollowed := true, recurses := true, apart := false, narrowed := true }
def SpillNilUptoSaid : Prop := spillNilUptoRow.holds Try.pinned (OpenSpec.upto spillNilSpec)

end Rows
end Go.Proofs.Ythlcjefkhlfkpaa
