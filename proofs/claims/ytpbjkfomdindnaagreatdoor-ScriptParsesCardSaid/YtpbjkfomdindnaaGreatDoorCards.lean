/-
  DERIVED. GIVEN WITH THE SEED: THE CARDS: each row of YtpbjkfomdindnaaGreatDoorRows.lean that lists a variable, with what it lists TIED to the program's text (the seventh form; the later family's looks); each row that meets fmt, with fmt's text TOLD by the authors' own Lean function (tested against real Go, not proved from fmt's source: count such statements apart). THE CARD IS WHAT COUNTS. Prove the row's statement (the work); the ties are given (YtpbjkfomdindnaaGreatDoorTie.lean); close each card by the builder's one call (the guide's Derived/Test/ToyasCard.lean, 'card_holds'). Laid BY PROGRAM, IN A SANDBOX (cutbox-door.mjs). By AI agents, Wed Nov 11 2026. No macro, syntax, notation, axiom, sorry.
-/
import Derived.Test.YtpbjkfomdindnaaGreatDoorRows
import GoSem.ClaimSeven
namespace Go.Proofs.YtpbjkfomdindnaaGreatDoor
namespace Rows

/-- THE TIED CARD OF 'thimblelaw25.ScriptParses'. -/
def scriptParsesCard : Claim7 := { stood := { row := scriptParsesRow, standIns := [], harness := (true, "5e4e259bc06621afe306c0d5d9e788c7230dc51e3dc1e2b3ca8f0bcc75ce84ce"), looks := true }, kinds := [], alts := [], laidByText := true, laidKinds := [.data, .data, .data, .data, .sentinel, .sentinel, .pinned], laidTests := true, laidLooks := .later }
def ScriptParsesCardSaid : Prop := Claim7.holds Tryz.pinned (.plain (OpenSpec.ofChange scriptParsesSpec)) scriptParsesCard

/-- THE TIED CARD OF 'thimblelaw25.ScriptDecodes'. -/
def scriptDecodesCard : Claim7 := { stood := { row := scriptDecodesRow, standIns := [], harness := (true, "5e4e259bc06621afe306c0d5d9e788c7230dc51e3dc1e2b3ca8f0bcc75ce84ce"), looks := true }, kinds := [], alts := [], laidByText := true, laidKinds := [.data, .data, .data, .data, .sentinel, .sentinel, .pinned], laidTests := true, laidLooks := .later }
def ScriptDecodesCardSaid : Prop := Claim7.holds Tryz.pinned (.plain (OpenSpec.ofChange scriptDecodesSpec)) scriptDecodesCard

/-- THE TIED CARD OF 'thimblelaw25.ScriptLines'. -/
def scriptLinesCard : Claim7 := { stood := { row := scriptLinesRow, standIns := [], harness := (true, "5e4e259bc06621afe306c0d5d9e788c7230dc51e3dc1e2b3ca8f0bcc75ce84ce"), looks := true }, kinds := [], alts := [], laidByText := true, laidKinds := [.data, .data, .data, .data, .sentinel, .sentinel, .pinned], laidTests := true, laidLooks := .later }
def ScriptLinesCardSaid : Prop := Claim7.holds Tryz.pinned (.plain (OpenSpec.ofChange scriptLinesSpec)) scriptLinesCard

/-- THE TIED CARD OF 'thimblelaw25.ScriptPrints'. -/
def scriptPrintsCard : Claim7 := { stood := { row := scriptPrintsRow, standIns := [], harness := (true, "5e4e259bc06621afe306c0d5d9e788c7230dc51e3dc1e2b3ca8f0bcc75ce84ce"), looks := true }, kinds := [], alts := [], laidByText := true, laidKinds := [.data, .data, .data, .data, .sentinel, .sentinel, .pinned], laidTests := true, laidLooks := .later }
def ScriptPrintsCardSaid : Prop := Claim7.holds Tryz.pinned (.plain (OpenSpec.ofChange scriptPrintsSpec)) scriptPrintsCard

/-- THE TIED CARD OF 'thimblelaw25.ScriptBack'. -/
def scriptBackCard : Claim7 := { stood := { row := scriptBackRow, standIns := [], harness := (true, "5e4e259bc06621afe306c0d5d9e788c7230dc51e3dc1e2b3ca8f0bcc75ce84ce"), looks := true }, kinds := [], alts := [], laidByText := true, laidKinds := [.data, .data, .data, .data, .sentinel, .sentinel, .pinned], laidTests := true, laidLooks := .later }
def ScriptBackCardSaid : Prop := Claim7.holds Tryz.pinned (.plain (OpenSpec.ofChange scriptBackSpec)) scriptBackCard

/-- THE TIED CARD OF 'thimblelaw25.ScriptTotal'. -/
def scriptTotalCard : Claim7 := { stood := { row := scriptTotalRow, standIns := [], harness := (true, "5e4e259bc06621afe306c0d5d9e788c7230dc51e3dc1e2b3ca8f0bcc75ce84ce"), looks := true }, kinds := [], alts := [], laidByText := true, laidKinds := [.data, .data, .data, .data, .sentinel, .sentinel, .pinned], laidTests := true, laidLooks := .later }
def ScriptTotalCardSaid : Prop := Claim7.holds Tryz.pinned (.plain (OpenSpec.ofChange scriptTotalSpec)) scriptTotalCard

/-- THE SECOND FORM's CARD OF 'thimblelaw25.ScriptParses'. -/
def scriptParsesUptoCard : Claim7 := { stood := { row := scriptParsesUptoRow, standIns := [], harness := (true, "5e4e259bc06621afe306c0d5d9e788c7230dc51e3dc1e2b3ca8f0bcc75ce84ce"), looks := true }, kinds := [], alts := [], laidByText := true, laidKinds := [.data, .data, .data, .data, .sentinel, .sentinel, .pinned], laidTests := true, laidLooks := .later }
def ScriptParsesUptoCardSaid : Prop := Claim7.holds Tryz.pinned (.plain (OpenSpec.upto scriptParsesSpec)) scriptParsesUptoCard

/-- THE SECOND FORM's CARD OF 'thimblelaw25.ScriptDecodes'. -/
def scriptDecodesUptoCard : Claim7 := { stood := { row := scriptDecodesUptoRow, standIns := [], harness := (true, "5e4e259bc06621afe306c0d5d9e788c7230dc51e3dc1e2b3ca8f0bcc75ce84ce"), looks := true }, kinds := [], alts := [], laidByText := true, laidKinds := [.data, .data, .data, .data, .sentinel, .sentinel, .pinned], laidTests := true, laidLooks := .later }
def ScriptDecodesUptoCardSaid : Prop := Claim7.holds Tryz.pinned (.plain (OpenSpec.upto scriptDecodesSpec)) scriptDecodesUptoCard

/-- THE SECOND FORM's CARD OF 'thimblelaw25.ScriptLines'. -/
def scriptLinesUptoCard : Claim7 := { stood := { row := scriptLinesUptoRow, standIns := [], harness := (true, "5e4e259bc06621afe306c0d5d9e788c7230dc51e3dc1e2b3ca8f0bcc75ce84ce"), looks := true }, kinds := [], alts := [], laidByText := true, laidKinds := [.data, .data, .data, .data, .sentinel, .sentinel, .pinned], laidTests := true, laidLooks := .later }
def ScriptLinesUptoCardSaid : Prop := Claim7.holds Tryz.pinned (.plain (OpenSpec.upto scriptLinesSpec)) scriptLinesUptoCard

/-- THE SECOND FORM's CARD OF 'thimblelaw25.ScriptPrints'. -/
def scriptPrintsUptoCard : Claim7 := { stood := { row := scriptPrintsUptoRow, standIns := [], harness := (true, "5e4e259bc06621afe306c0d5d9e788c7230dc51e3dc1e2b3ca8f0bcc75ce84ce"), looks := true }, kinds := [], alts := [], laidByText := true, laidKinds := [.data, .data, .data, .data, .sentinel, .sentinel, .pinned], laidTests := true, laidLooks := .later }
def ScriptPrintsUptoCardSaid : Prop := Claim7.holds Tryz.pinned (.plain (OpenSpec.upto scriptPrintsSpec)) scriptPrintsUptoCard

/-- THE SECOND FORM's CARD OF 'thimblelaw25.ScriptBack'. -/
def scriptBackUptoCard : Claim7 := { stood := { row := scriptBackUptoRow, standIns := [], harness := (true, "5e4e259bc06621afe306c0d5d9e788c7230dc51e3dc1e2b3ca8f0bcc75ce84ce"), looks := true }, kinds := [], alts := [], laidByText := true, laidKinds := [.data, .data, .data, .data, .sentinel, .sentinel, .pinned], laidTests := true, laidLooks := .later }
def ScriptBackUptoCardSaid : Prop := Claim7.holds Tryz.pinned (.plain (OpenSpec.upto scriptBackSpec)) scriptBackUptoCard

/-- THE SECOND FORM's CARD OF 'thimblelaw25.ScriptTotal'. -/
def scriptTotalUptoCard : Claim7 := { stood := { row := scriptTotalUptoRow, standIns := [], harness := (true, "5e4e259bc06621afe306c0d5d9e788c7230dc51e3dc1e2b3ca8f0bcc75ce84ce"), looks := true }, kinds := [], alts := [], laidByText := true, laidKinds := [.data, .data, .data, .data, .sentinel, .sentinel, .pinned], laidTests := true, laidLooks := .later }
def ScriptTotalUptoCardSaid : Prop := Claim7.holds Tryz.pinned (.plain (OpenSpec.upto scriptTotalSpec)) scriptTotalUptoCard
end Rows
end Go.Proofs.YtpbjkfomdindnaaGreatDoor
