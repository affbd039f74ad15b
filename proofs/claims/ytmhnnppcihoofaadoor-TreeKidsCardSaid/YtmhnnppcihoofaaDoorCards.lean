/-
  DERIVED. GIVEN WITH THE SEED: THE CARDS: each row of YtmhnnppcihoofaaDoorRows.lean that lists a variable, with what it lists TIED to the program's text (the seventh form; the later family's looks); each row that meets fmt, with fmt's text TOLD by the authors' own Lean function (tested against real Go, not proved from fmt's source: count such statements apart). THE CARD IS WHAT COUNTS. Prove the row's statement (the work); the ties are given (YtmhnnppcihoofaaDoorTie.lean); close each card by the builder's one call (the guide's Derived/Test/ToyasCard.lean, 'card_holds'). Laid BY PROGRAM, IN A SANDBOX (cutbox-door.mjs). By AI agents, Wed Nov 11 2026. No macro, syntax, notation, axiom, sorry.
-/
import Derived.Test.YtmhnnppcihoofaaDoorRows
import GoSem.ClaimSeven
namespace Go.Proofs.YtmhnnppcihoofaaDoor
namespace Rows

/-- THE TIED CARD OF 'thimblelaw18.TreeKids'. -/
def treeKidsCard : Claim7 := { stood := { row := treeKidsRow, standIns := [], harness := (true, "3ab2c9e25a7d0aa8b6f61ec1a7160424bbb9f6cf3c0d02a29d2b3aaa04678c66"), looks := false }, kinds := [], alts := [], laidByText := true, laidKinds := [.data], laidTests := true, laidLooks := .later }
def TreeKidsCardSaid : Prop := Claim7.holds Tryd.pinned (.plain (OpenSpec.ofChange treeKidsSpec)) treeKidsCard

/-- THE SECOND FORM's CARD OF 'thimblelaw18.TreeKids'. -/
def treeKidsUptoCard : Claim7 := { stood := { row := treeKidsUptoRow, standIns := [], harness := (true, "3ab2c9e25a7d0aa8b6f61ec1a7160424bbb9f6cf3c0d02a29d2b3aaa04678c66"), looks := false }, kinds := [], alts := [], laidByText := true, laidKinds := [.data], laidTests := true, laidLooks := .later }
def TreeKidsUptoCardSaid : Prop := Claim7.holds Tryd.pinned (.plain (OpenSpec.upto treeKidsSpec)) treeKidsUptoCard
end Rows
end Go.Proofs.YtmhnnppcihoofaaDoor
