/-
  DERIVED. GIVEN WITH THE SEED: THE CARDS: each row of YtdhnfeoigmeopaaGreatDoorRows.lean that lists a variable, with what it lists TIED to the program's text (the seventh form; the later family's looks); each row that meets fmt, with fmt's text TOLD by the authors' own Lean function (tested against real Go, not proved from fmt's source: count such statements apart). THE CARD IS WHAT COUNTS. Prove the row's statement (the work); the ties are given (YtdhnfeoigmeopaaGreatDoorTie.lean); close each card by the builder's one call (the guide's Derived/Test/ToyasCard.lean, 'card_holds'). Laid BY PROGRAM, IN A SANDBOX (cutbox-door.mjs). By AI agents, Wed Nov 11 2026. No macro, syntax, notation, axiom, sorry.
-/
import Derived.Test.YtdhnfeoigmeopaaGreatDoorRows
import GoSem.ClaimSeven
namespace Go.Proofs.YtdhnfeoigmeopaaGreatDoor
namespace Rows

/-- THE TIED CARD OF 'putloglaw03.LayoutSystems'. -/
def layoutSystemsCard : Claim7 := { stood := { row := layoutSystemsRow, standIns := [], harness := (true, "91ae9a7327924eebe0fc4f147326e600b9d3bdaf2b0fe733f24a9d19ca685a05"), looks := true }, kinds := [], alts := [], laidByText := true, laidKinds := [.data, .data, .data, .data, .sentinel, .sentinel, .pinned], laidTests := true, laidLooks := .later }
def LayoutSystemsCardSaid : Prop := Claim7.holds Tryz.pinned (.plain (OpenSpec.ofChange layoutSystemsSpec)) layoutSystemsCard

/-- THE SECOND FORM's CARD OF 'putloglaw03.LayoutSystems'. -/
def layoutSystemsUptoCard : Claim7 := { stood := { row := layoutSystemsUptoRow, standIns := [], harness := (true, "91ae9a7327924eebe0fc4f147326e600b9d3bdaf2b0fe733f24a9d19ca685a05"), looks := true }, kinds := [], alts := [], laidByText := true, laidKinds := [.data, .data, .data, .data, .sentinel, .sentinel, .pinned], laidTests := true, laidLooks := .later }
def LayoutSystemsUptoCardSaid : Prop := Claim7.holds Tryz.pinned (.plain (OpenSpec.upto layoutSystemsSpec)) layoutSystemsUptoCard
end Rows
end Go.Proofs.YtdhnfeoigmeopaaGreatDoor
