/-
  DERIVED. GIVEN WITH THE SEED: THE CARDS: each row of YtcgfcahljfmipaaDoorRows.lean that lists a variable, with what it lists TIED to the program's text (the seventh form; the later family's looks); each row that meets fmt, with fmt's text TOLD by the authors' own Lean function (tested against real Go, not proved from fmt's source: count such statements apart). THE CARD IS WHAT COUNTS. Prove the row's statement (the work); the ties are given (YtcgfcahljfmipaaDoorTie.lean); close each card by the builder's one call (the guide's Derived/Test/ToyasCard.lean, 'card_holds'). Laid BY PROGRAM, IN A SANDBOX (cutbox-door.mjs). By AI agents, Wed Nov 11 2026. No macro, syntax, notation, axiom, sorry.
-/
import Derived.Test.YtcgfcahljfmipaaDoorRows
import GoSem.ClaimSeven
namespace Go.Proofs.YtcgfcahljfmipaaDoor
namespace Rows

/-- THE TIED CARD OF 'putloglaw02.BuildingOffsets'. -/
def buildingOffsetsCard : Claim7 := { stood := { row := buildingOffsetsRow, standIns := [], harness := (true, "10fbb091405f8351d059c0e5252b1a23414230bc3c5653e0b370f335659449df"), looks := false }, kinds := [], alts := [], laidByText := true, laidKinds := [.data], laidTests := true, laidLooks := .later }
def BuildingOffsetsCardSaid : Prop := Claim7.holds Tryd.pinned (.plain (OpenSpec.ofChange buildingOffsetsSpec)) buildingOffsetsCard

/-- THE TIED CARD OF 'putloglaw02.BuildingDistances'. -/
def buildingDistancesCard : Claim7 := { stood := { row := buildingDistancesRow, standIns := [], harness := (true, "10fbb091405f8351d059c0e5252b1a23414230bc3c5653e0b370f335659449df"), looks := false }, kinds := [], alts := [], laidByText := true, laidKinds := [.data], laidTests := true, laidLooks := .later }
def BuildingDistancesCardSaid : Prop := Claim7.holds Tryd.pinned (.plain (OpenSpec.ofChange buildingDistancesSpec)) buildingDistancesCard

/-- THE SECOND FORM's CARD OF 'putloglaw02.BuildingOffsets'. -/
def buildingOffsetsUptoCard : Claim7 := { stood := { row := buildingOffsetsUptoRow, standIns := [], harness := (true, "10fbb091405f8351d059c0e5252b1a23414230bc3c5653e0b370f335659449df"), looks := false }, kinds := [], alts := [], laidByText := true, laidKinds := [.data], laidTests := true, laidLooks := .later }
def BuildingOffsetsUptoCardSaid : Prop := Claim7.holds Tryd.pinned (.plain (OpenSpec.upto buildingOffsetsSpec)) buildingOffsetsUptoCard

/-- THE SECOND FORM's CARD OF 'putloglaw02.BuildingDistances'. -/
def buildingDistancesUptoCard : Claim7 := { stood := { row := buildingDistancesUptoRow, standIns := [], harness := (true, "10fbb091405f8351d059c0e5252b1a23414230bc3c5653e0b370f335659449df"), looks := false }, kinds := [], alts := [], laidByText := true, laidKinds := [.data], laidTests := true, laidLooks := .later }
def BuildingDistancesUptoCardSaid : Prop := Claim7.holds Tryd.pinned (.plain (OpenSpec.upto buildingDistancesSpec)) buildingDistancesUptoCard
end Rows
end Go.Proofs.YtcgfcahljfmipaaDoor
