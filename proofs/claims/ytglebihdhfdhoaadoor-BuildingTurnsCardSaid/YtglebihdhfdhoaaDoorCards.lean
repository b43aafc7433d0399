/-
  DERIVED. GIVEN WITH THE SEED: THE CARDS: each row of YtglebihdhfdhoaaDoorRows.lean that lists a variable, with what it lists TIED to the program's text (the seventh form; the later family's looks); each row that meets fmt, with fmt's text TOLD by the authors' own Lean function (tested against real Go, not proved from fmt's source: count such statements apart). THE CARD IS WHAT COUNTS. Prove the row's statement (the work); the ties are given (YtglebihdhfdhoaaDoorTie.lean); close each card by the builder's one call (the guide's Derived/Test/ToyasCard.lean, 'card_holds'). Laid BY PROGRAM, IN A SANDBOX (cutbox-door.mjs). By AI agents, Wed Nov 11 2026. No macro, syntax, notation, axiom, sorry.
-/
import Derived.Test.YtglebihdhfdhoaaDoorRows
import GoSem.ClaimSeven
namespace Go.Proofs.YtglebihdhfdhoaaDoor
namespace Rows

/-- THE TIED CARD OF 'putloglaw02.BuildingDepths'. -/
def buildingDepthsCard : Claim7 := { stood := { row := buildingDepthsRow, standIns := [], harness := (true, "4ffd9f3953f0b0746e4bbb9a29470249bf87a741e5ccd5554ce098adb09acb37"), looks := false }, kinds := [], alts := [], laidByText := true, laidKinds := [.data], laidTests := true, laidLooks := .later }
def BuildingDepthsCardSaid : Prop := Claim7.holds Tryd.pinned (.plain (OpenSpec.ofChange buildingDepthsSpec)) buildingDepthsCard

/-- THE TIED CARD OF 'putloglaw02.BuildingOpenings'. -/
def buildingOpeningsCard : Claim7 := { stood := { row := buildingOpeningsRow, standIns := [], harness := (true, "4ffd9f3953f0b0746e4bbb9a29470249bf87a741e5ccd5554ce098adb09acb37"), looks := false }, kinds := [], alts := [], laidByText := true, laidKinds := [.data], laidTests := true, laidLooks := .later }
def BuildingOpeningsCardSaid : Prop := Claim7.holds Tryd.pinned (.plain (OpenSpec.ofChange buildingOpeningsSpec)) buildingOpeningsCard

/-- THE TIED CARD OF 'putloglaw02.BuildingTurns'. -/
def buildingTurnsCard : Claim7 := { stood := { row := buildingTurnsRow, standIns := [], harness := (true, "4ffd9f3953f0b0746e4bbb9a29470249bf87a741e5ccd5554ce098adb09acb37"), looks := false }, kinds := [], alts := [], laidByText := true, laidKinds := [.data], laidTests := true, laidLooks := .later }
def BuildingTurnsCardSaid : Prop := Claim7.holds Tryd.pinned (.plain (OpenSpec.ofChange buildingTurnsSpec)) buildingTurnsCard

/-- THE SECOND FORM's CARD OF 'putloglaw02.BuildingDepths'. -/
def buildingDepthsUptoCard : Claim7 := { stood := { row := buildingDepthsUptoRow, standIns := [], harness := (true, "4ffd9f3953f0b0746e4bbb9a29470249bf87a741e5ccd5554ce098adb09acb37"), looks := false }, kinds := [], alts := [], laidByText := true, laidKinds := [.data], laidTests := true, laidLooks := .later }
def BuildingDepthsUptoCardSaid : Prop := Claim7.holds Tryd.pinned (.plain (OpenSpec.upto buildingDepthsSpec)) buildingDepthsUptoCard

/-- THE SECOND FORM's CARD OF 'putloglaw02.BuildingOpenings'. -/
def buildingOpeningsUptoCard : Claim7 := { stood := { row := buildingOpeningsUptoRow, standIns := [], harness := (true, "4ffd9f3953f0b0746e4bbb9a29470249bf87a741e5ccd5554ce098adb09acb37"), looks := false }, kinds := [], alts := [], laidByText := true, laidKinds := [.data], laidTests := true, laidLooks := .later }
def BuildingOpeningsUptoCardSaid : Prop := Claim7.holds Tryd.pinned (.plain (OpenSpec.upto buildingOpeningsSpec)) buildingOpeningsUptoCard

/-- THE SECOND FORM's CARD OF 'putloglaw02.BuildingTurns'. -/
def buildingTurnsUptoCard : Claim7 := { stood := { row := buildingTurnsUptoRow, standIns := [], harness := (true, "4ffd9f3953f0b0746e4bbb9a29470249bf87a741e5ccd5554ce098adb09acb37"), looks := false }, kinds := [], alts := [], laidByText := true, laidKinds := [.data], laidTests := true, laidLooks := .later }
def BuildingTurnsUptoCardSaid : Prop := Claim7.holds Tryd.pinned (.plain (OpenSpec.upto buildingTurnsSpec)) buildingTurnsUptoCard
end Rows
end Go.Proofs.YtglebihdhfdhoaaDoor
