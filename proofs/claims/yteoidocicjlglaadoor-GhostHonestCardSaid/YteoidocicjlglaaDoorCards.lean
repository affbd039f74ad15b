/-
  DERIVED. GIVEN WITH THE SEED: THE CARDS: each row of YteoidocicjlglaaDoorRows.lean that lists a variable, with what it lists TIED to the program's text (the seventh form; the later family's looks); each row that meets fmt, with fmt's text TOLD by the authors' own Lean function (tested against real Go, not proved from fmt's source: count such statements apart). THE CARD IS WHAT COUNTS. Prove the row's statement (the work); the ties are given (YteoidocicjlglaaDoorTie.lean); close each card by the builder's one call (the guide's Derived/Test/ToyasCard.lean, 'card_holds'). Laid BY PROGRAM, IN A SANDBOX (cutbox-door.mjs). By AI agents, Wed Nov 11 2026. No macro, syntax, notation, axiom, sorry.
-/
import Derived.Test.YteoidocicjlglaaDoorRows
import GoSem.ClaimSeven
namespace Go.Proofs.YteoidocicjlglaaDoor
namespace Rows

/-- THE TIED CARD OF 'thimblelaw09.GhostClashes'. -/
def ghostClashesCard : Claim7 := { stood := { row := ghostClashesRow, standIns := [], harness := (true, "f5b084782956f037a4ddaff5447a15ae2cada8686953d38ee23bb9f1a71dc581"), looks := false }, kinds := [], alts := [], laidByText := true, laidKinds := [.data], laidTests := true, laidLooks := .later }
def GhostClashesCardSaid : Prop := Claim7.holds Tryd.pinned (.plain (OpenSpec.ofChange ghostClashesSpec)) ghostClashesCard

/-- THE TIED CARD OF 'thimblelaw09.GhostForges'. -/
def ghostForgesCard : Claim7 := { stood := { row := ghostForgesRow, standIns := [], harness := (true, "f5b084782956f037a4ddaff5447a15ae2cada8686953d38ee23bb9f1a71dc581"), looks := false }, kinds := [], alts := [], laidByText := true, laidKinds := [.data], laidTests := true, laidLooks := .later }
def GhostForgesCardSaid : Prop := Claim7.holds Tryd.pinned (.plain (OpenSpec.ofChange ghostForgesSpec)) ghostForgesCard

/-- THE TIED CARD OF 'thimblelaw09.GhostHonest'. -/
def ghostHonestCard : Claim7 := { stood := { row := ghostHonestRow, standIns := [], harness := (true, "f5b084782956f037a4ddaff5447a15ae2cada8686953d38ee23bb9f1a71dc581"), looks := false }, kinds := [], alts := [], laidByText := true, laidKinds := [.data], laidTests := true, laidLooks := .later }
def GhostHonestCardSaid : Prop := Claim7.holds Tryd.pinned (.plain (OpenSpec.ofChange ghostHonestSpec)) ghostHonestCard

/-- THE TIED CARD OF 'thimblelaw09.GhostTwice'. -/
def ghostTwiceCard : Claim7 := { stood := { row := ghostTwiceRow, standIns := [], harness := (true, "f5b084782956f037a4ddaff5447a15ae2cada8686953d38ee23bb9f1a71dc581"), looks := false }, kinds := [], alts := [], laidByText := true, laidKinds := [.data], laidTests := true, laidLooks := .later }
def GhostTwiceCardSaid : Prop := Claim7.holds Tryd.pinned (.plain (OpenSpec.ofChange ghostTwiceSpec)) ghostTwiceCard

/-- THE TIED CARD OF 'thimblelaw09.GhostKeeps'. -/
def ghostKeepsCard : Claim7 := { stood := { row := ghostKeepsRow, standIns := [], harness := (true, "f5b084782956f037a4ddaff5447a15ae2cada8686953d38ee23bb9f1a71dc581"), looks := false }, kinds := [], alts := [], laidByText := true, laidKinds := [.data], laidTests := true, laidLooks := .later }
def GhostKeepsCardSaid : Prop := Claim7.holds Tryd.pinned (.plain (OpenSpec.ofChange ghostKeepsSpec)) ghostKeepsCard

/-- THE TIED CARD OF 'thimblelaw09.GhostNil'. -/
def ghostNilCard : Claim7 := { stood := { row := ghostNilRow, standIns := [], harness := (true, "f5b084782956f037a4ddaff5447a15ae2cada8686953d38ee23bb9f1a71dc581"), looks := false }, kinds := [], alts := [], laidByText := true, laidKinds := [.data], laidTests := true, laidLooks := .later }
def GhostNilCardSaid : Prop := Claim7.holds Tryd.pinned (.plain (OpenSpec.ofChange ghostNilSpec)) ghostNilCard

/-- THE SECOND FORM's CARD OF 'thimblelaw09.GhostClashes'. -/
def ghostClashesUptoCard : Claim7 := { stood := { row := ghostClashesUptoRow, standIns := [], harness := (true, "f5b084782956f037a4ddaff5447a15ae2cada8686953d38ee23bb9f1a71dc581"), looks := false }, kinds := [], alts := [], laidByText := true, laidKinds := [.data], laidTests := true, laidLooks := .later }
def GhostClashesUptoCardSaid : Prop := Claim7.holds Tryd.pinned (.plain (OpenSpec.upto ghostClashesSpec)) ghostClashesUptoCard

/-- THE SECOND FORM's CARD OF 'thimblelaw09.GhostForges'. -/
def ghostForgesUptoCard : Claim7 := { stood := { row := ghostForgesUptoRow, standIns := [], harness := (true, "f5b084782956f037a4ddaff5447a15ae2cada8686953d38ee23bb9f1a71dc581"), looks := false }, kinds := [], alts := [], laidByText := true, laidKinds := [.data], laidTests := true, laidLooks := .later }
def GhostForgesUptoCardSaid : Prop := Claim7.holds Tryd.pinned (.plain (OpenSpec.upto ghostForgesSpec)) ghostForgesUptoCard

/-- THE SECOND FORM's CARD OF 'thimblelaw09.GhostHonest'. -/
def ghostHonestUptoCard : Claim7 := { stood := { row := ghostHonestUptoRow, standIns := [], harness := (true, "f5b084782956f037a4ddaff5447a15ae2cada8686953d38ee23bb9f1a71dc581"), looks := false }, kinds := [], alts := [], laidByText := true, laidKinds := [.data], laidTests := true, laidLooks := .later }
def GhostHonestUptoCardSaid : Prop := Claim7.holds Tryd.pinned (.plain (OpenSpec.upto ghostHonestSpec)) ghostHonestUptoCard

/-- THE SECOND FORM's CARD OF 'thimblelaw09.GhostTwice'. -/
def ghostTwiceUptoCard : Claim7 := { stood := { row := ghostTwiceUptoRow, standIns := [], harness := (true, "f5b084782956f037a4ddaff5447a15ae2cada8686953d38ee23bb9f1a71dc581"), looks := false }, kinds := [], alts := [], laidByText := true, laidKinds := [.data], laidTests := true, laidLooks := .later }
def GhostTwiceUptoCardSaid : Prop := Claim7.holds Tryd.pinned (.plain (OpenSpec.upto ghostTwiceSpec)) ghostTwiceUptoCard

/-- THE SECOND FORM's CARD OF 'thimblelaw09.GhostKeeps'. -/
def ghostKeepsUptoCard : Claim7 := { stood := { row := ghostKeepsUptoRow, standIns := [], harness := (true, "f5b084782956f037a4ddaff5447a15ae2cada8686953d38ee23bb9f1a71dc581"), looks := false }, kinds := [], alts := [], laidByText := true, laidKinds := [.data], laidTests := true, laidLooks := .later }
def GhostKeepsUptoCardSaid : Prop := Claim7.holds Tryd.pinned (.plain (OpenSpec.upto ghostKeepsSpec)) ghostKeepsUptoCard

/-- THE SECOND FORM's CARD OF 'thimblelaw09.GhostNil'. -/
def ghostNilUptoCard : Claim7 := { stood := { row := ghostNilUptoRow, standIns := [], harness := (true, "f5b084782956f037a4ddaff5447a15ae2cada8686953d38ee23bb9f1a71dc581"), looks := false }, kinds := [], alts := [], laidByText := true, laidKinds := [.data], laidTests := true, laidLooks := .later }
def GhostNilUptoCardSaid : Prop := Claim7.holds Tryd.pinned (.plain (OpenSpec.upto ghostNilSpec)) ghostNilUptoCard
end Rows
end Go.Proofs.YteoidocicjlglaaDoor
