/-
  DERIVED. GIVEN WITH THE SEED: THE CARDS: each row of YtoinjphpfpklmaaGreatDoorRows.lean that lists a variable, with what it lists TIED to the program's text (the seventh form; the later family's looks); each row that meets fmt, with fmt's text TOLD by the authors' own Lean function (tested against real Go, not proved from fmt's source: count such statements apart). THE CARD IS WHAT COUNTS. Prove the row's statement (the work); the ties are given (YtoinjphpfpklmaaGreatDoorTie.lean); close each card by the builder's one call (the guide's Derived/Test/ToyasCard.lean, 'card_holds'). Laid BY PROGRAM, IN A SANDBOX (cutbox-door.mjs). By AI agents, Wed Nov 11 2026. No macro, syntax, notation, axiom, sorry.
-/
import Derived.Test.YtoinjphpfpklmaaGreatDoorRows
import GoSem.ClaimSeven
namespace Go.Proofs.YtoinjphpfpklmaaGreatDoor
namespace Rows

/-- THE TIED CARD OF 'putlogtop.TopRunsClose'. -/
def topRunsCloseCard : Claim7 := { stood := { row := topRunsCloseRow, standIns := [], harness := (true, "7a6432057ff91c4ff75eaa129e458eb4eeabbdeb62f38c8e3e275ceeba956eea"), looks := false }, kinds := [], alts := [], laidByText := true, laidKinds := [.data], laidTests := true, laidLooks := .later }
def TopRunsCloseCardSaid : Prop := Claim7.holds Tryz.pinned (.plain (OpenSpec.ofChange topRunsCloseSpec)) topRunsCloseCard

/-- THE TIED CARD OF 'putlogtop.TopFewestOddParts'. -/
def topFewestOddPartsCard : Claim7 := { stood := { row := topFewestOddPartsRow, standIns := [], harness := (true, "7a6432057ff91c4ff75eaa129e458eb4eeabbdeb62f38c8e3e275ceeba956eea"), looks := false }, kinds := [], alts := [], laidByText := true, laidKinds := [.data], laidTests := true, laidLooks := .later }
def TopFewestOddPartsCardSaid : Prop := Claim7.holds Tryz.pinned (.plain (OpenSpec.ofChange topFewestOddPartsSpec)) topFewestOddPartsCard

/-- THE TIED CARD OF 'putloglaw03.LayoutTurned'. -/
def layoutTurnedCard : Claim7 := { stood := { row := layoutTurnedRow, standIns := [], harness := (true, "7a6432057ff91c4ff75eaa129e458eb4eeabbdeb62f38c8e3e275ceeba956eea"), looks := false }, kinds := [], alts := [], laidByText := true, laidKinds := [.data], laidTests := true, laidLooks := .later }
def LayoutTurnedCardSaid : Prop := Claim7.holds Tryz.pinned (.plain (OpenSpec.ofChange layoutTurnedSpec)) layoutTurnedCard

/-- THE SECOND FORM's CARD OF 'putlogtop.TopRunsClose'. -/
def topRunsCloseUptoCard : Claim7 := { stood := { row := topRunsCloseUptoRow, standIns := [], harness := (true, "7a6432057ff91c4ff75eaa129e458eb4eeabbdeb62f38c8e3e275ceeba956eea"), looks := false }, kinds := [], alts := [], laidByText := true, laidKinds := [.data], laidTests := true, laidLooks := .later }
def TopRunsCloseUptoCardSaid : Prop := Claim7.holds Tryz.pinned (.plain (OpenSpec.upto topRunsCloseSpec)) topRunsCloseUptoCard

/-- THE SECOND FORM's CARD OF 'putlogtop.TopFewestOddParts'. -/
def topFewestOddPartsUptoCard : Claim7 := { stood := { row := topFewestOddPartsUptoRow, standIns := [], harness := (true, "7a6432057ff91c4ff75eaa129e458eb4eeabbdeb62f38c8e3e275ceeba956eea"), looks := false }, kinds := [], alts := [], laidByText := true, laidKinds := [.data], laidTests := true, laidLooks := .later }
def TopFewestOddPartsUptoCardSaid : Prop := Claim7.holds Tryz.pinned (.plain (OpenSpec.upto topFewestOddPartsSpec)) topFewestOddPartsUptoCard

/-- THE SECOND FORM's CARD OF 'putloglaw03.LayoutTurned'. -/
def layoutTurnedUptoCard : Claim7 := { stood := { row := layoutTurnedUptoRow, standIns := [], harness := (true, "7a6432057ff91c4ff75eaa129e458eb4eeabbdeb62f38c8e3e275ceeba956eea"), looks := false }, kinds := [], alts := [], laidByText := true, laidKinds := [.data], laidTests := true, laidLooks := .later }
def LayoutTurnedUptoCardSaid : Prop := Claim7.holds Tryz.pinned (.plain (OpenSpec.upto layoutTurnedSpec)) layoutTurnedUptoCard
end Rows
end Go.Proofs.YtoinjphpfpklmaaGreatDoor
