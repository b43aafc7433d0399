/-
  No cell of these rows narrows 'for every input' (looked for: loops, veiled, ifaces, maps, wideKeys, modest, calm, conditions, laid).
  DERIVED. THE GIVEN ROWS OF THIS SEAT. 7 by the template 'for every input the law returns true; each argument reads behind the call as it read before'; 0 by the template 'total and deterministic' (their statements: YtgdmnlenkciklaaTotals.lean).
  GIVEN WITH THE SEED: the statements are not yours to turn. If you find one false, say at which input.
  Laid BY PROGRAM, IN A SANDBOX (cutbox-rows.mjs): the forced cells as the released guide's own fill.sh prints them over the translation 23eff104f45d0800… (all of the seat's roots in one cut). By AI agents, Wed Nov 11 2026. No macro, syntax, notation, axiom, sorry.
-/
import Derived.Test.YtgdmnlenkciklaaChecked
import GoSem.Claim
import GoSem.ClaimJoined
import GoSem.ClaimMapViews
import Derived.JoinedTies
import Derived.KernelRfl
namespace Go.Proofs.Ytgdmnlenkciklaa
/- THE CELL 'sum', in the pinned program and in every row, IS THE sha256 OF THE DUMP (.gsa) THAT YtgdmnlenkciklaaProg.lean LOADS. Nothing in Lean hashes anything: it is a label: what it is worth is what the hold of that sum in a sandbox is worth. -/
noncomputable def Try.pinned : Pinned := { name := "ytgdmnlenkciklaa", sum := "23eff104f45d080024eb02b639d8fefe501ae9e15abe3874589efc3edf7fd88b", checked := Try.checked }
namespace Rows
def none {H : Type} : Left H := { results := [], args := [] }

/-- 'putloglaw02.BuildingPlaces': WHATEVER THE INPUT: true; the input reads as it did. -/
def buildingPlacesSpec : ChangeSpec := { name := "buildingPlaces", fn := fun _ => fun
  | [d1, d2] => { results := [.lit (.bool true)], args := [d1, d2] }
  | _ => none }
def buildingPlacesRow : OpenClaim := { program := "ytgdmnlenkciklaa", sum := "23eff104f45d080024eb02b639d8fefe501ae9e15abe3874589efc3edf7fd88b", func := "putlog/putloglaw02.BuildingPlaces", spec := "buildingPlaces", unfollowed := true, recurses := true, apart := false }
def BuildingPlacesSaid : Prop := buildingPlacesRow.holds Try.pinned (OpenSpec.ofChange buildingPlacesSpec)

/-- ITS FALSE NEIGHBOUR: 'it returns false'. Refute it at one input. -/
def buildingPlacesWrong : ChangeSpec := { name := "buildingPlaces", fn := fun _ => fun
  | [d1, d2] => { results := [.lit (.bool false)], args := [d1, d2] }
  | _ => none }
def BuildingPlacesWrongFalsely : Prop := buildingPlacesRow.holds Try.pinned (OpenSpec.ofChange buildingPlacesWrong)

/-- 'putloglaw02.BuildingOutlines': WHATEVER THE INPUT: true; the input reads as it did. -/
def buildingOutlinesSpec : ChangeSpec := { name := "buildingOutlines", fn := fun _ => fun
  | [d] => { results := [.lit (.bool true)], args := [d] }
  | _ => none }
def buildingOutlinesRow : OpenClaim := { program := "ytgdmnlenkciklaa", sum := "23eff104f45d080024eb02b639d8fefe501ae9e15abe3874589efc3edf7fd88b", func := "putlog/putloglaw02.BuildingOutlines", spec := "buildingOutlines", unfollowed := true, recurses := true, apart := false }
def BuildingOutlinesSaid : Prop := buildingOutlinesRow.holds Try.pinned (OpenSpec.ofChange buildingOutlinesSpec)

/-- ITS FALSE NEIGHBOUR: 'it returns false'. Refute it at one input. -/
def buildingOutlinesWrong : ChangeSpec := { name := "buildingOutlines", fn := fun _ => fun
  | [d] => { results := [.lit (.bool false)], args := [d] }
  | _ => none }
def BuildingOutlinesWrongFalsely : Prop := buildingOutlinesRow.holds Try.pinned (OpenSpec.ofChange buildingOutlinesWrong)

/-- 'putloglaw02.BuildingBoxes': WHATEVER THE INPUT: true; the input reads as it did. -/
def buildingBoxesSpec : ChangeSpec := { name := "buildingBoxes", fn := fun _ => fun
  | [d1, d2] => { results := [.lit (.bool true)], args := [d1, d2] }
  | _ => none }
def buildingBoxesRow : OpenClaim := { program := "ytgdmnlenkciklaa", sum := "23eff104f45d080024eb02b639d8fefe501ae9e15abe3874589efc3edf7fd88b", func := "putlog/putloglaw02.BuildingBoxes", spec := "buildingBoxes", unfollowed := true, recurses := true, apart := false }
def BuildingBoxesSaid : Prop := buildingBoxesRow.holds Try.pinned (OpenSpec.ofChange buildingBoxesSpec)

/-- ITS FALSE NEIGHBOUR: 'it returns false'. Refute it at one input. -/
def buildingBoxesWrong : ChangeSpec := { name := "buildingBoxes", fn := fun _ => fun
  | [d1, d2] => { results := [.lit (.bool false)], args := [d1, d2] }
  | _ => none }
def BuildingBoxesWrongFalsely : Prop := buildingBoxesRow.holds Try.pinned (OpenSpec.ofChange buildingBoxesWrong)

/-- 'putloglaw02.BuildingPierces': WHATEVER THE INPUT: true; the input reads as it did. -/
def buildingPiercesSpec : ChangeSpec := { name := "buildingPierces", fn := fun _ => fun
  | [d1, d2, d3] => { results := [.lit (.bool true)], args := [d1, d2, d3] }
  | _ => none }
def buildingPiercesRow : OpenClaim := { program := "ytgdmnlenkciklaa", sum := "23eff104f45d080024eb02b639d8fefe501ae9e15abe3874589efc3edf7fd88b", func := "putlog/putloglaw02.BuildingPierces", spec := "buildingPierces", unfollowed := true, recurses := true, apart := false }
def BuildingPiercesSaid : Prop := buildingPiercesRow.holds Try.pinned (OpenSpec.ofChange buildingPiercesSpec)

/-- ITS FALSE NEIGHBOUR: 'it returns false'. Refute it at one input. -/
def buildingPiercesWrong : ChangeSpec := { name := "buildingPierces", fn := fun _ => fun
  | [d1, d2, d3] => { results := [.lit (.bool false)], args := [d1, d2, d3] }
  | _ => none }
def BuildingPiercesWrongFalsely : Prop := buildingPiercesRow.holds Try.pinned (OpenSpec.ofChange buildingPiercesWrong)

/-- 'putloglaw02.BuildingCovers': WHATEVER THE INPUT: true; the input reads as it did. -/
def buildingCoversSpec : ChangeSpec := { name := "buildingCovers", fn := fun _ => fun
  | [d1, d2] => { results := [.lit (.bool true)], args := [d1, d2] }
  | _ => none }
def buildingCoversRow : OpenClaim := { program := "ytgdmnlenkciklaa", sum := "23eff104f45d080024eb02b639d8fefe501ae9e15abe3874589efc3edf7fd88b", func := "putlog/putloglaw02.BuildingCovers", spec := "buildingCovers", unfollowed := true, recurses := true, apart := false }
def BuildingCoversSaid : Prop := buildingCoversRow.holds Try.pinned (OpenSpec.ofChange buildingCoversSpec)

/-- ITS FALSE NEIGHBOUR: 'it returns false'. Refute it at one input. -/
def buildingCoversWrong : ChangeSpec := { name := "buildingCovers", fn := fun _ => fun
  | [d1, d2] => { results := [.lit (.bool false)], args := [d1, d2] }
  | _ => none }
def BuildingCoversWrongFalsely : Prop := buildingCoversRow.holds Try.pinned (OpenSpec.ofChange buildingCoversWrong)

/-- 'putloglaw02.BuildingChecks': WHATEVER THE INPUT: true; the input reads as it did. -/
def buildingChecksSpec : ChangeSpec := { name := "buildingChecks", fn := fun _ => fun
  | [d1, d2] => { results := [.lit (.bool true)], args := [d1, d2] }
  | _ => none }
def buildingChecksRow : OpenClaim := { program := "ytgdmnlenkciklaa", sum := "23eff104f45d080024eb02b639d8fefe501ae9e15abe3874589efc3edf7fd88b", func := "putlog/putloglaw02.BuildingChecks", spec := "buildingChecks", unfollowed := true, recurses := true, apart := false }
def BuildingChecksSaid : Prop := buildingChecksRow.holds Try.pinned (OpenSpec.ofChange buildingChecksSpec)

/-- ITS FALSE NEIGHBOUR: 'it returns false'. Refute it at one input. -/
def buildingChecksWrong : ChangeSpec := { name := "buildingChecks", fn := fun _ => fun
  | [d1, d2] => { results := [.lit (.bool false)], args := [d1, d2] }
  | _ => none }
def BuildingChecksWrongFalsely : Prop := buildingChecksRow.holds Try.pinned (OpenSpec.ofChange buildingChecksWrong)

/-- 'putloglaw02.BuildingBlocks': WHATEVER THE INPUT: true; the input reads as it did. -/
def buildingBlocksSpec : ChangeSpec := { name := "buildingBlocks", fn := fun _ => fun
  | [d1, d2] => { results := [.lit (.bool true)], args := [d1, d2] }
  | _ => none }
def buildingBlocksRow : OpenClaim := { program := "ytgdmnlenkciklaa", sum := "23eff104f45d080024eb02b639d8fefe501ae9e15abe3874589efc3edf7fd88b", func := "putlog/putloglaw02.BuildingBlocks", spec := "buildingBlocks", unfollowed := true, recurses := true, apart := false }
def BuildingBlocksSaid : Prop := buildingBlocksRow.holds Try.pinned (OpenSpec.ofChange buildingBlocksSpec)

/-- ITS FALSE NEIGHBOUR: 'it returns false'. Refute it at one input. -/
def buildingBlocksWrong : ChangeSpec := { name := "buildingBlocks", fn := fun _ => fun
  | [d1, d2] => { results := [.lit (.bool false)], args := [d1, d2] }
  | _ => none }
def BuildingBlocksWrongFalsely : Prop := buildingBlocksRow.holds Try.pinned (OpenSpec.ofChange buildingBlocksWrong)

/- THE SECOND FORM. 'bulk': how many values and letters a reading holds, each counted each time it is reached (what is shared counts as often as it is met; a slice's spare places count too). A statement '..UptoSaid' is the law's where the arguments, and the package variables that the reading takes, are together of bulk at most 1048576: NARROWER than '..Said'. Prove '..Said' where nothing that the law and all that it calls make is longer than what came in: it says more and counts as full. Else prove '..UptoSaid'. A law counts once. -/
mutual
def uptoBulk {H : Type} : DataW H → Nat
  | .lit (.string bytes) => bytes.length + 1
  | .lit _ => 1
  | .nil => 1
  | .ptr d => uptoBulk d + 1
  | .slice elems spare => uptoBulkAll elems + uptoBulkAll spare + 1
  | .agg parts => uptoBulkAll parts + 1
  | .iface _ d => uptoBulk d + 1
  | .map entries => uptoBulkEntries entries + 1
  | .held _ => 1
def uptoBulkAll {H : Type} : List (DataW H) → Nat
  | [] => 0
  | d :: r => uptoBulk d + uptoBulkAll r
def uptoBulkEntries {H : Type} : List (Lit × DataW H) → Nat
  | [] => 0
  | x :: r => uptoBulkEntry x + uptoBulkEntries r
def uptoBulkEntry {H : Type} : Lit × DataW H → Nat
  | (.string bytes, d) => bytes.length + uptoBulk d + 1
  | (_, d) => uptoBulk d + 1
 end
def uptoSmall : (H : Type) → List (DataW H) → Bool := fun _ ds => decide (uptoBulkAll ds ≤ 1048576)
def OpenSpec.upto (s : _root_.Go.ChangeSpec) : _root_.Go.OpenSpec := { _root_.Go.OpenSpec.ofChange s with cond := some uptoSmall }

/-- 'putloglaw02.BuildingPlaces', WHERE WHAT IT READS IS OF BULK AT MOST 1048576: true; the input reads as it did. -/
def buildingPlacesUptoRow : OpenClaim := { program := "ytgdmnlenkciklaa", sum := "23eff104f45d080024eb02b639d8fefe501ae9e15abe3874589efc3edf7fd88b", func := "putlog/putloglaw02.BuildingPlaces", spec := "buildingPlaces", unfollowed := true, recurses := true, apart := false, narrowed := true }
def BuildingPlacesUptoSaid : Prop := buildingPlacesUptoRow.holds Try.pinned (OpenSpec.upto buildingPlacesSpec)

/-- 'putloglaw02.BuildingOutlines', WHERE WHAT IT READS IS OF BULK AT MOST 1048576: true; the input reads as it did. -/
def buildingOutlinesUptoRow : OpenClaim := { program := "ytgdmnlenkciklaa", sum := "23eff104f45d080024eb02b639d8fefe501ae9e15abe3874589efc3edf7fd88b", func := "putlog/putloglaw02.BuildingOutlines", spec := "buildingOutlines", unfollowed := true, recurses := true, apart := false, narrowed := true }
def BuildingOutlinesUptoSaid : Prop := buildingOutlinesUptoRow.holds Try.pinned (OpenSpec.upto buildingOutlinesSpec)

/-- 'putloglaw02.BuildingBoxes', WHERE WHAT IT READS IS OF BULK AT MOST 1048576: true; the input reads as it did. -/
def buildingBoxesUptoRow : OpenClaim := { program := "ytgdmnlenkciklaa", sum := "23eff104f45d080024eb02b639d8fefe501ae9e15abe3874589efc3edf7fd88b", func := "putlog/putloglaw02.BuildingBoxes", spec := "buildingBoxes", unfollowed := true, recurses := true, apart := false, narrowed := true }
def BuildingBoxesUptoSaid : Prop := buildingBoxesUptoRow.holds Try.pinned (OpenSpec.upto buildingBoxesSpec)

/-- 'putloglaw02.BuildingPierces', WHERE WHAT IT READS IS OF BULK AT MOST 1048576: true; the input reads as it did. -/
def buildingPiercesUptoRow : OpenClaim := { program := "ytgdmnlenkciklaa", sum := "23eff104f45d080024eb02b639d8fefe501ae9e15abe3874589efc3edf7fd88b", func := "putlog/putloglaw02.BuildingPierces", spec := "buildingPierces", unfollowed := true, recurses := true, apart := false, narrowed := true }
def BuildingPiercesUptoSaid : Prop := buildingPiercesUptoRow.holds Try.pinned (OpenSpec.upto buildingPiercesSpec)

/-- 'putloglaw02.BuildingCovers', WHERE WHAT IT READS IS OF BULK AT MOST 1048576: true; the input reads as it did. -/
def buildingCoversUptoRow : OpenClaim := { program := "ytgdmnlenkciklaa", sum := "23eff104f45d080024eb02b639d8fefe501ae9e15abe3874589efc3edf7fd88b", func := "putlog/putloglaw02.BuildingCovers", spec := "buildingCovers", unfollowed := true, recurses := true, apart := false, narrowed := true }
def BuildingCoversUptoSaid : Prop := buildingCoversUptoRow.holds Try.pinned (OpenSpec.upto buildingCoversSpec)

/-- 'putloglaw02.BuildingChecks', WHERE WHAT IT READS IS OF BULK AT MOST 1048576: true; the input reads as it did. -/
def buildingChecksUptoRow : OpenClaim := { program := "ytgdmnlenkciklaa", sum := "23eff104f45d080024eb02b639d8fefe501ae9e15abe3874589efc3edf7fd88b", func := "putlog/putloglaw02.BuildingChecks", spec := "buildingChecks", unfollowed := true, recurses := true, apart := false, narrowed := true }
def BuildingChecksUptoSaid : Prop := buildingChecksUptoRow.holds Try.pinned (OpenSpec.upto buildingChecksSpec)

/-- 'putloglaw02.BuildingBlocks', WHERE WHAT IT READS IS OF BULK AT MOST 1048576: true; the input reads as it did. -/
def buildingBlocksUptoRow : OpenClaim := { program := "ytgdmnlenkciklaa", sum := "23eff104f45d080024eb02b639d8fefe501ae9e15abe3874589efc3edf7fd88b", func := "putlog/putloglaw02.BuildingBlocks", spec := "buildingBlocks", unfollowed := true, recurses := true, apart := false, narrowed := true }
def BuildingBlocksUptoSaid : Prop := buildingBlocksUptoRow.holds Try.pinned (OpenSpec.upto buildingBlocksSpec)

end Rows
end Go.Proofs.Ytgdmnlenkciklaa
