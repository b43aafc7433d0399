/-
  DERIVED. GIVEN WITH THE SEED: THE CARDS: each row of YtmcgfoacmalbjaaGreatDoorRows.lean that lists a variable, with what it lists TIED to the program's text (the seventh form; the later family's looks); each row that meets fmt, with fmt's text TOLD by the authors' own Lean function (tested against real Go, not proved from fmt's source: count such statements apart). THE CARD IS WHAT COUNTS. Prove the row's statement (the work); the ties are given (YtmcgfoacmalbjaaGreatDoorTie.lean); close each card by the builder's one call (the guide's Derived/Test/ToyasCard.lean, 'card_holds'). Laid BY PROGRAM, IN A SANDBOX (cutbox-door.mjs). By AI agents, Wed Nov 11 2026. No macro, syntax, notation, axiom, sorry.
-/
import Derived.Test.YtmcgfoacmalbjaaGreatDoorRows
import GoSem.ClaimSeven
namespace Go.Proofs.YtmcgfoacmalbjaaGreatDoor
namespace Rows

/-- THE TIED CARD OF 'putloglaw04.PartsTexts'. -/
def partsTextsCard : Claim7 := { stood := { row := partsTextsRow, standIns := [], harness := (true, "9ca1a0df938d4af4fc501225b38e417244b70841cf4518253c314ded53fa942a"), looks := true }, kinds := [], alts := [], laidByText := true, laidKinds := [.data, .data, .data, .data, .sentinel, .sentinel, .pinned], laidTests := true, laidLooks := .later }
def PartsTextsCardSaid : Prop := Claim7.holds Tryz.pinned (.plain (OpenSpec.ofChange partsTextsSpec)) partsTextsCard

/-- THE SECOND FORM's CARD OF 'putloglaw04.PartsTexts'. -/
def partsTextsUptoCard : Claim7 := { stood := { row := partsTextsUptoRow, standIns := [], harness := (true, "9ca1a0df938d4af4fc501225b38e417244b70841cf4518253c314ded53fa942a"), looks := true }, kinds := [], alts := [], laidByText := true, laidKinds := [.data, .data, .data, .data, .sentinel, .sentinel, .pinned], laidTests := true, laidLooks := .later }
def PartsTextsUptoCardSaid : Prop := Claim7.holds Tryz.pinned (.plain (OpenSpec.upto partsTextsSpec)) partsTextsUptoCard
end Rows
end Go.Proofs.YtmcgfoacmalbjaaGreatDoor
