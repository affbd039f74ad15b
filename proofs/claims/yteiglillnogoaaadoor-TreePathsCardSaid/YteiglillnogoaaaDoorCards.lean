/-
  DERIVED. GIVEN WITH THE SEED: THE CARDS: each row of YteiglillnogoaaaDoorRows.lean that lists a variable, with what it lists TIED to the program's text (the seventh form; the later family's looks); each row that meets fmt, with fmt's text TOLD by the authors' own Lean function (tested against real Go, not proved from fmt's source: count such statements apart). THE CARD IS WHAT COUNTS. Prove the row's statement (the work); the ties are given (YteiglillnogoaaaDoorTie.lean); close each card by the builder's one call (the guide's Derived/Test/ToyasCard.lean, 'card_holds'). Laid BY PROGRAM, IN A SANDBOX (cutbox-door.mjs). By AI agents, Wed Nov 11 2026. No macro, syntax, notation, axiom, sorry.
-/
import Derived.Test.YteiglillnogoaaaDoorRows
import GoSem.ClaimSeven
namespace Go.Proofs.YteiglillnogoaaaDoor
namespace Rows

/-- THE TIED CARD OF 'thimblelaw18.TreeBuilds'. -/
def treeBuildsCard : Claim7 := { stood := { row := treeBuildsRow, standIns := [], harness := (true, "90eef143fd93a875f6a9d29d410f8c44d2650b22b117c7f1c16ea711fcd3296d"), looks := false }, kinds := [], alts := [], laidByText := true, laidKinds := [.data], laidTests := true, laidLooks := .later }
def TreeBuildsCardSaid : Prop := Claim7.holds Tryd.pinned (.plain (OpenSpec.ofChange treeBuildsSpec)) treeBuildsCard

/-- THE TIED CARD OF 'thimblelaw18.TreeDigests'. -/
def treeDigestsCard : Claim7 := { stood := { row := treeDigestsRow, standIns := [], harness := (true, "90eef143fd93a875f6a9d29d410f8c44d2650b22b117c7f1c16ea711fcd3296d"), looks := false }, kinds := [], alts := [], laidByText := true, laidKinds := [.data], laidTests := true, laidLooks := .later }
def TreeDigestsCardSaid : Prop := Claim7.holds Tryd.pinned (.plain (OpenSpec.ofChange treeDigestsSpec)) treeDigestsCard

/-- THE TIED CARD OF 'thimblelaw18.TreeKids'. -/
def treeKidsCard : Claim7 := { stood := { row := treeKidsRow, standIns := [], harness := (true, "90eef143fd93a875f6a9d29d410f8c44d2650b22b117c7f1c16ea711fcd3296d"), looks := false }, kinds := [], alts := [], laidByText := true, laidKinds := [.data], laidTests := true, laidLooks := .later }
def TreeKidsCardSaid : Prop := Claim7.holds Tryd.pinned (.plain (OpenSpec.ofChange treeKidsSpec)) treeKidsCard

/-- THE TIED CARD OF 'thimblelaw18.TreeChecks'. -/
def treeChecksCard : Claim7 := { stood := { row := treeChecksRow, standIns := [], harness := (true, "90eef143fd93a875f6a9d29d410f8c44d2650b22b117c7f1c16ea711fcd3296d"), looks := false }, kinds := [], alts := [], laidByText := true, laidKinds := [.data], laidTests := true, laidLooks := .later }
def TreeChecksCardSaid : Prop := Claim7.holds Tryd.pinned (.plain (OpenSpec.ofChange treeChecksSpec)) treeChecksCard

/-- THE TIED CARD OF 'thimblelaw18.TreePaths'. -/
def treePathsCard : Claim7 := { stood := { row := treePathsRow, standIns := [], harness := (true, "90eef143fd93a875f6a9d29d410f8c44d2650b22b117c7f1c16ea711fcd3296d"), looks := false }, kinds := [], alts := [], laidByText := true, laidKinds := [.data], laidTests := true, laidLooks := .later }
def TreePathsCardSaid : Prop := Claim7.holds Tryd.pinned (.plain (OpenSpec.ofChange treePathsSpec)) treePathsCard

/-- THE SECOND FORM's CARD OF 'thimblelaw18.TreeBuilds'. -/
def treeBuildsUptoCard : Claim7 := { stood := { row := treeBuildsUptoRow, standIns := [], harness := (true, "90eef143fd93a875f6a9d29d410f8c44d2650b22b117c7f1c16ea711fcd3296d"), looks := false }, kinds := [], alts := [], laidByText := true, laidKinds := [.data], laidTests := true, laidLooks := .later }
def TreeBuildsUptoCardSaid : Prop := Claim7.holds Tryd.pinned (.plain (OpenSpec.upto treeBuildsSpec)) treeBuildsUptoCard

/-- THE SECOND FORM's CARD OF 'thimblelaw18.TreeDigests'. -/
def treeDigestsUptoCard : Claim7 := { stood := { row := treeDigestsUptoRow, standIns := [], harness := (true, "90eef143fd93a875f6a9d29d410f8c44d2650b22b117c7f1c16ea711fcd3296d"), looks := false }, kinds := [], alts := [], laidByText := true, laidKinds := [.data], laidTests := true, laidLooks := .later }
def TreeDigestsUptoCardSaid : Prop := Claim7.holds Tryd.pinned (.plain (OpenSpec.upto treeDigestsSpec)) treeDigestsUptoCard

/-- THE SECOND FORM's CARD OF 'thimblelaw18.TreeKids'. -/
def treeKidsUptoCard : Claim7 := { stood := { row := treeKidsUptoRow, standIns := [], harness := (true, "90eef143fd93a875f6a9d29d410f8c44d2650b22b117c7f1c16ea711fcd3296d"), looks := false }, kinds := [], alts := [], laidByText := true, laidKinds := [.data], laidTests := true, laidLooks := .later }
def TreeKidsUptoCardSaid : Prop := Claim7.holds Tryd.pinned (.plain (OpenSpec.upto treeKidsSpec)) treeKidsUptoCard

/-- THE SECOND FORM's CARD OF 'thimblelaw18.TreeChecks'. -/
def treeChecksUptoCard : Claim7 := { stood := { row := treeChecksUptoRow, standIns := [], harness := (true, "90eef143fd93a875f6a9d29d410f8c44d2650b22b117c7f1c16ea711fcd3296d"), looks := false }, kinds := [], alts := [], laidByText := true, laidKinds := [.data], laidTests := true, laidLooks := .later }
def TreeChecksUptoCardSaid : Prop := Claim7.holds Tryd.pinned (.plain (OpenSpec.upto treeChecksSpec)) treeChecksUptoCard

/-- THE SECOND FORM's CARD OF 'thimblelaw18.TreePaths'. -/
def treePathsUptoCard : Claim7 := { stood := { row := treePathsUptoRow, standIns := [], harness := (true, "90eef143fd93a875f6a9d29d410f8c44d2650b22b117c7f1c16ea711fcd3296d"), looks := false }, kinds := [], alts := [], laidByText := true, laidKinds := [.data], laidTests := true, laidLooks := .later }
def TreePathsUptoCardSaid : Prop := Claim7.holds Tryd.pinned (.plain (OpenSpec.upto treePathsSpec)) treePathsUptoCard
end Rows
end Go.Proofs.YteiglillnogoaaaDoor
