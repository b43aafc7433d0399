/-
  DERIVED. GIVEN WITH THE SEED: THE CARDS: each row of YtagpmenaaekdeaaGreatDoorRows.lean that lists a variable, with what it lists TIED to the program's text (the seventh form; the later family's looks); each row that meets fmt, with fmt's text TOLD by the authors' own Lean function (tested against real Go, not proved from fmt's source: count such statements apart). THE CARD IS WHAT COUNTS. Prove the row's statement (the work); the ties are given (YtagpmenaaekdeaaGreatDoorTie.lean); close each card by the builder's one call (the guide's Derived/Test/ToyasCard.lean, 'card_holds'). Laid BY PROGRAM, IN A SANDBOX (cutbox-door.mjs). By AI agents, Wed Nov 11 2026. No macro, syntax, notation, axiom, sorry.
-/
import Derived.Test.YtagpmenaaekdeaaGreatDoorRows
import GoSem.ClaimSeven
namespace Go.Proofs.YtagpmenaaekdeaaGreatDoor
namespace Rows

/-- THE TIED CARD OF 'putloglaw03.LayoutRings'. -/
def layoutRingsCard : Claim7 := { stood := { row := layoutRingsRow, standIns := [], harness := (true, "3dd425ff92971ccce5bdeac9e0e966cfd5fb33a64f99a4dea63545793e575261"), looks := false }, kinds := [], alts := [], laidByText := true, laidKinds := [.data], laidTests := true, laidLooks := .later }
def LayoutRingsCardSaid : Prop := Claim7.holds Tryz.pinned (.plain (OpenSpec.ofChange layoutRingsSpec)) layoutRingsCard

/-- THE TIED CARD OF 'putloglaw03.LayoutRuns'. -/
def layoutRunsCard : Claim7 := { stood := { row := layoutRunsRow, standIns := [], harness := (true, "3dd425ff92971ccce5bdeac9e0e966cfd5fb33a64f99a4dea63545793e575261"), looks := false }, kinds := [], alts := [], laidByText := true, laidKinds := [.data], laidTests := true, laidLooks := .later }
def LayoutRunsCardSaid : Prop := Claim7.holds Tryz.pinned (.plain (OpenSpec.ofChange layoutRunsSpec)) layoutRunsCard

/-- THE TIED CARD OF 'putloglaw03.LayoutBlocked'. -/
def layoutBlockedCard : Claim7 := { stood := { row := layoutBlockedRow, standIns := [], harness := (true, "3dd425ff92971ccce5bdeac9e0e966cfd5fb33a64f99a4dea63545793e575261"), looks := false }, kinds := [], alts := [], laidByText := true, laidKinds := [.data], laidTests := true, laidLooks := .later }
def LayoutBlockedCardSaid : Prop := Claim7.holds Tryz.pinned (.plain (OpenSpec.ofChange layoutBlockedSpec)) layoutBlockedCard

/-- THE TIED CARD OF 'putloglaw03.LayoutChecks'. -/
def layoutChecksCard : Claim7 := { stood := { row := layoutChecksRow, standIns := [], harness := (true, "3dd425ff92971ccce5bdeac9e0e966cfd5fb33a64f99a4dea63545793e575261"), looks := false }, kinds := [], alts := [], laidByText := true, laidKinds := [.data], laidTests := true, laidLooks := .later }
def LayoutChecksCardSaid : Prop := Claim7.holds Tryz.pinned (.plain (OpenSpec.ofChange layoutChecksSpec)) layoutChecksCard

/-- THE TIED CARD OF 'putloglaw03.LayoutSpaces'. -/
def layoutSpacesCard : Claim7 := { stood := { row := layoutSpacesRow, standIns := [], harness := (true, "3dd425ff92971ccce5bdeac9e0e966cfd5fb33a64f99a4dea63545793e575261"), looks := false }, kinds := [], alts := [], laidByText := true, laidKinds := [.data], laidTests := true, laidLooks := .later }
def LayoutSpacesCardSaid : Prop := Claim7.holds Tryz.pinned (.plain (OpenSpec.ofChange layoutSpacesSpec)) layoutSpacesCard

/-- THE SECOND FORM's CARD OF 'putloglaw03.LayoutRings'. -/
def layoutRingsUptoCard : Claim7 := { stood := { row := layoutRingsUptoRow, standIns := [], harness := (true, "3dd425ff92971ccce5bdeac9e0e966cfd5fb33a64f99a4dea63545793e575261"), looks := false }, kinds := [], alts := [], laidByText := true, laidKinds := [.data], laidTests := true, laidLooks := .later }
def LayoutRingsUptoCardSaid : Prop := Claim7.holds Tryz.pinned (.plain (OpenSpec.upto layoutRingsSpec)) layoutRingsUptoCard

/-- THE SECOND FORM's CARD OF 'putloglaw03.LayoutRuns'. -/
def layoutRunsUptoCard : Claim7 := { stood := { row := layoutRunsUptoRow, standIns := [], harness := (true, "3dd425ff92971ccce5bdeac9e0e966cfd5fb33a64f99a4dea63545793e575261"), looks := false }, kinds := [], alts := [], laidByText := true, laidKinds := [.data], laidTests := true, laidLooks := .later }
def LayoutRunsUptoCardSaid : Prop := Claim7.holds Tryz.pinned (.plain (OpenSpec.upto layoutRunsSpec)) layoutRunsUptoCard

/-- THE SECOND FORM's CARD OF 'putloglaw03.LayoutBlocked'. -/
def layoutBlockedUptoCard : Claim7 := { stood := { row := layoutBlockedUptoRow, standIns := [], harness := (true, "3dd425ff92971ccce5bdeac9e0e966cfd5fb33a64f99a4dea63545793e575261"), looks := false }, kinds := [], alts := [], laidByText := true, laidKinds := [.data], laidTests := true, laidLooks := .later }
def LayoutBlockedUptoCardSaid : Prop := Claim7.holds Tryz.pinned (.plain (OpenSpec.upto layoutBlockedSpec)) layoutBlockedUptoCard

/-- THE SECOND FORM's CARD OF 'putloglaw03.LayoutChecks'. -/
def layoutChecksUptoCard : Claim7 := { stood := { row := layoutChecksUptoRow, standIns := [], harness := (true, "3dd425ff92971ccce5bdeac9e0e966cfd5fb33a64f99a4dea63545793e575261"), looks := false }, kinds := [], alts := [], laidByText := true, laidKinds := [.data], laidTests := true, laidLooks := .later }
def LayoutChecksUptoCardSaid : Prop := Claim7.holds Tryz.pinned (.plain (OpenSpec.upto layoutChecksSpec)) layoutChecksUptoCard

/-- THE SECOND FORM's CARD OF 'putloglaw03.LayoutSpaces'. -/
def layoutSpacesUptoCard : Claim7 := { stood := { row := layoutSpacesUptoRow, standIns := [], harness := (true, "3dd425ff92971ccce5bdeac9e0e966cfd5fb33a64f99a4dea63545793e575261"), looks := false }, kinds := [], alts := [], laidByText := true, laidKinds := [.data], laidTests := true, laidLooks := .later }
def LayoutSpacesUptoCardSaid : Prop := Claim7.holds Tryz.pinned (.plain (OpenSpec.upto layoutSpacesSpec)) layoutSpacesUptoCard
end Rows
end Go.Proofs.YtagpmenaaekdeaaGreatDoor
