/-
  DERIVED. GIVEN WITH THE SEED: THE CARDS: each row of YtdhnfeoigmeopaaDoorRows.lean that lists a variable, with what it lists TIED to the program's text (the seventh form; the later family's looks); each row that meets fmt, with fmt's text TOLD by the authors' own Lean function (tested against real Go, not proved from fmt's source: count such statements apart). THE CARD IS WHAT COUNTS. Prove the row's statement (the work); the ties are given (YtdhnfeoigmeopaaDoorTie.lean); close each card by the builder's one call (the guide's Derived/Test/ToyasCard.lean, 'card_holds'). Laid BY PROGRAM, IN A SANDBOX (cutbox-door.mjs). By AI agents, Wed Nov 11 2026. No macro, syntax, notation, axiom, sorry.
-/
import Derived.Test.YtdhnfeoigmeopaaDoorRows
import GoSem.ClaimSeven
namespace Go.Proofs.YtdhnfeoigmeopaaDoor
namespace Rows

/-- THE TIED CARD OF 'putloglaw03.LayoutTexts'. -/
def layoutTextsCard : Claim7 := { stood := { row := layoutTextsRow, standIns := [], harness := (true, "8d79c2325538c8bc6641194171d199eda3805f04db4128b0678edb01cf775347"), looks := true }, kinds := [], alts := [], laidByText := true, laidKinds := [.data, .data, .data, .data, .sentinel, .sentinel, .pinned], laidTests := true, laidLooks := .later }
def LayoutTextsCardSaid : Prop := Claim7.holds Tryd.pinned (.plain (OpenSpec.ofChange layoutTextsSpec)) layoutTextsCard

/-- THE SECOND FORM's CARD OF 'putloglaw03.LayoutTexts'. -/
def layoutTextsUptoCard : Claim7 := { stood := { row := layoutTextsUptoRow, standIns := [], harness := (true, "8d79c2325538c8bc6641194171d199eda3805f04db4128b0678edb01cf775347"), looks := true }, kinds := [], alts := [], laidByText := true, laidKinds := [.data, .data, .data, .data, .sentinel, .sentinel, .pinned], laidTests := true, laidLooks := .later }
def LayoutTextsUptoCardSaid : Prop := Claim7.holds Tryd.pinned (.plain (OpenSpec.upto layoutTextsSpec)) layoutTextsUptoCard
end Rows
end Go.Proofs.YtdhnfeoigmeopaaDoor
