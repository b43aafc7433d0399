/-
  DERIVED. GIVEN WITH THE SEED: THE CARDS: each row of YteennpofimiliaaGreatDoorRows.lean that lists a variable, with what it lists TIED to the program's text (the seventh form; the later family's looks); each row that meets fmt, with fmt's text TOLD by the authors' own Lean function (tested against real Go, not proved from fmt's source: count such statements apart). THE CARD IS WHAT COUNTS. Prove the row's statement (the work); the ties are given (YteennpofimiliaaGreatDoorTie.lean); close each card by the builder's one call (the guide's Derived/Test/ToyasCard.lean, 'card_holds'). Laid BY PROGRAM, IN A SANDBOX (cutbox-door.mjs). By AI agents, Wed Nov 11 2026. No macro, syntax, notation, axiom, sorry.
-/
import Derived.Test.YteennpofimiliaaGreatDoorRows
import GoSem.ClaimSeven
namespace Go.Proofs.YteennpofimiliaaGreatDoor
namespace Rows

/-- THE TIED CARD OF 'putloglaw03.LayoutProofs'. -/
def layoutProofsCard : Claim7 := { stood := { row := layoutProofsRow, standIns := [], harness := (true, "7af7feb27f8e75807eb26c0badf047397f1e7602b11861a283e3ca3aab463a61"), looks := false }, kinds := [], alts := [], laidByText := true, laidKinds := [.data], laidTests := true, laidLooks := .later }
def LayoutProofsCardSaid : Prop := Claim7.holds Tryz.pinned (.plain (OpenSpec.ofChange layoutProofsSpec)) layoutProofsCard

/-- THE TIED CARD OF 'putloglaw03.LayoutBest'. -/
def layoutBestCard : Claim7 := { stood := { row := layoutBestRow, standIns := [], harness := (true, "7af7feb27f8e75807eb26c0badf047397f1e7602b11861a283e3ca3aab463a61"), looks := false }, kinds := [], alts := [], laidByText := true, laidKinds := [.data], laidTests := true, laidLooks := .later }
def LayoutBestCardSaid : Prop := Claim7.holds Tryz.pinned (.plain (OpenSpec.ofChange layoutBestSpec)) layoutBestCard

/-- THE SECOND FORM's CARD OF 'putloglaw03.LayoutProofs'. -/
def layoutProofsUptoCard : Claim7 := { stood := { row := layoutProofsUptoRow, standIns := [], harness := (true, "7af7feb27f8e75807eb26c0badf047397f1e7602b11861a283e3ca3aab463a61"), looks := false }, kinds := [], alts := [], laidByText := true, laidKinds := [.data], laidTests := true, laidLooks := .later }
def LayoutProofsUptoCardSaid : Prop := Claim7.holds Tryz.pinned (.plain (OpenSpec.upto layoutProofsSpec)) layoutProofsUptoCard

/-- THE SECOND FORM's CARD OF 'putloglaw03.LayoutBest'. -/
def layoutBestUptoCard : Claim7 := { stood := { row := layoutBestUptoRow, standIns := [], harness := (true, "7af7feb27f8e75807eb26c0badf047397f1e7602b11861a283e3ca3aab463a61"), looks := false }, kinds := [], alts := [], laidByText := true, laidKinds := [.data], laidTests := true, laidLooks := .later }
def LayoutBestUptoCardSaid : Prop := Claim7.holds Tryz.pinned (.plain (OpenSpec.upto layoutBestSpec)) layoutBestUptoCard
end Rows
end Go.Proofs.YteennpofimiliaaGreatDoor
