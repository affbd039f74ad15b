/-
  DERIVED. GIVEN WITH THE SEED: THE CARDS: each row of YtdkimdobcacpfaaDoorRows.lean that lists a variable, with what it lists TIED to the program's text (the seventh form; the later family's looks); each row that meets fmt, with fmt's text TOLD by the authors' own Lean function (tested against real Go, not proved from fmt's source: count such statements apart). THE CARD IS WHAT COUNTS. Prove the row's statement (the work); the ties are given (YtdkimdobcacpfaaDoorTie.lean); close each card by the builder's one call (the guide's Derived/Test/ToyasCard.lean, 'card_holds'). Laid BY PROGRAM, IN A SANDBOX (cutbox-door.mjs). By AI agents, Wed Nov 11 2026. No macro, syntax, notation, axiom, sorry.
-/
import Derived.Test.YtdkimdobcacpfaaDoorRows
import GoSem.ClaimSeven
namespace Go.Proofs.YtdkimdobcacpfaaDoor
namespace Rows

/-- THE TIED CARD OF 'thimblelaw22.BaseNil'. -/
def baseNilCard : Claim7 := { stood := { row := baseNilRow, standIns := [], harness := (true, "bd29a54d970b80430fe1aa8952bd209bccfd7de9b3f93e9731a196a338ac3778"), looks := true }, kinds := [], alts := [], laidByText := true, laidKinds := [.data], laidTests := true, laidLooks := .later }
def BaseNilCardSaid : Prop := Claim7.holds Tryd.pinned (.plain (OpenSpec.ofChange baseNilSpec)) baseNilCard

/-- THE TIED CARD OF 'thimblelaw22.BaseWhole'. -/
def baseWholeCard : Claim7 := { stood := { row := baseWholeRow, standIns := [], harness := (true, "bd29a54d970b80430fe1aa8952bd209bccfd7de9b3f93e9731a196a338ac3778"), looks := true }, kinds := [], alts := [], laidByText := true, laidKinds := [.data], laidTests := true, laidLooks := .later }
def BaseWholeCardSaid : Prop := Claim7.holds Tryd.pinned (.plain (OpenSpec.ofChange baseWholeSpec)) baseWholeCard

/-- THE SECOND FORM's CARD OF 'thimblelaw22.BaseNil'. -/
def baseNilUptoCard : Claim7 := { stood := { row := baseNilUptoRow, standIns := [], harness := (true, "bd29a54d970b80430fe1aa8952bd209bccfd7de9b3f93e9731a196a338ac3778"), looks := true }, kinds := [], alts := [], laidByText := true, laidKinds := [.data], laidTests := true, laidLooks := .later }
def BaseNilUptoCardSaid : Prop := Claim7.holds Tryd.pinned (.plain (OpenSpec.upto baseNilSpec)) baseNilUptoCard

/-- THE SECOND FORM's CARD OF 'thimblelaw22.BaseWhole'. -/
def baseWholeUptoCard : Claim7 := { stood := { row := baseWholeUptoRow, standIns := [], harness := (true, "bd29a54d970b80430fe1aa8952bd209bccfd7de9b3f93e9731a196a338ac3778"), looks := true }, kinds := [], alts := [], laidByText := true, laidKinds := [.data], laidTests := true, laidLooks := .later }
def BaseWholeUptoCardSaid : Prop := Claim7.holds Tryd.pinned (.plain (OpenSpec.upto baseWholeSpec)) baseWholeUptoCard
end Rows
end Go.Proofs.YtdkimdobcacpfaaDoor
