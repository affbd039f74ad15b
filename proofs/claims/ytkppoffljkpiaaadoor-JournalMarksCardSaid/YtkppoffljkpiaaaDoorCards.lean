/-
  DERIVED. GIVEN WITH THE SEED: THE CARDS: each row of YtkppoffljkpiaaaDoorRows.lean that lists a variable, with what it lists TIED to the program's text (the seventh form; the later family's looks); each row that meets fmt, with fmt's text TOLD by the authors' own Lean function (tested against real Go, not proved from fmt's source: count such statements apart). THE CARD IS WHAT COUNTS. Prove the row's statement (the work); the ties are given (YtkppoffljkpiaaaDoorTie.lean); close each card by the builder's one call (the guide's Derived/Test/ToyasCard.lean, 'card_holds'). Laid BY PROGRAM, IN A SANDBOX (cutbox-door.mjs). By AI agents, Wed Nov 11 2026. No macro, syntax, notation, axiom, sorry.
-/
import Derived.Test.YtkppoffljkpiaaaDoorRows
import GoSem.ClaimSeven
namespace Go.Proofs.YtkppoffljkpiaaaDoor
namespace Rows

/-- THE TIED CARD OF 'thimblelaw19.JournalMarks'. -/
def journalMarksCard : Claim7 := { stood := { row := journalMarksRow, standIns := [], harness := (true, "734cdf0b44cf26697ec63168cd4d2cf207fb1a951b79396e096d97e743ad82f0"), looks := false }, kinds := [], alts := [], laidByText := true, laidKinds := [.data], laidTests := true, laidLooks := .later }
def JournalMarksCardSaid : Prop := Claim7.holds Tryd.pinned (.plain (OpenSpec.ofChange journalMarksSpec)) journalMarksCard

/-- THE TIED CARD OF 'thimblelaw19.JournalBinds'. -/
def journalBindsCard : Claim7 := { stood := { row := journalBindsRow, standIns := [], harness := (true, "734cdf0b44cf26697ec63168cd4d2cf207fb1a951b79396e096d97e743ad82f0"), looks := false }, kinds := [], alts := [], laidByText := true, laidKinds := [.data], laidTests := true, laidLooks := .later }
def JournalBindsCardSaid : Prop := Claim7.holds Tryd.pinned (.plain (OpenSpec.ofChange journalBindsSpec)) journalBindsCard

/-- THE SECOND FORM's CARD OF 'thimblelaw19.JournalMarks'. -/
def journalMarksUptoCard : Claim7 := { stood := { row := journalMarksUptoRow, standIns := [], harness := (true, "734cdf0b44cf26697ec63168cd4d2cf207fb1a951b79396e096d97e743ad82f0"), looks := false }, kinds := [], alts := [], laidByText := true, laidKinds := [.data], laidTests := true, laidLooks := .later }
def JournalMarksUptoCardSaid : Prop := Claim7.holds Tryd.pinned (.plain (OpenSpec.upto journalMarksSpec)) journalMarksUptoCard

/-- THE SECOND FORM's CARD OF 'thimblelaw19.JournalBinds'. -/
def journalBindsUptoCard : Claim7 := { stood := { row := journalBindsUptoRow, standIns := [], harness := (true, "734cdf0b44cf26697ec63168cd4d2cf207fb1a951b79396e096d97e743ad82f0"), looks := false }, kinds := [], alts := [], laidByText := true, laidKinds := [.data], laidTests := true, laidLooks := .later }
def JournalBindsUptoCardSaid : Prop := Claim7.holds Tryd.pinned (.plain (OpenSpec.upto journalBindsSpec)) journalBindsUptoCard
end Rows
end Go.Proofs.YtkppoffljkpiaaaDoor
