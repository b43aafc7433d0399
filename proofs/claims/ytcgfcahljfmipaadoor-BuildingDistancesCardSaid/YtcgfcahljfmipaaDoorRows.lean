/-
  NARROWER THAN 'FOR EVERY INPUT', by the rows' own cells (each row's printed sentence says how): BuildingOffsets: laid · BuildingDistances: laid.
  DERIVED. THE GIVEN ROWS OF THIS SEAT. 2 by the template 'for every input the law returns true; each argument reads behind the call as it read before'; 0 by the template 'total and deterministic' (their statements: YtcgfcahljfmipaaDoorTotals.lean).
  GIVEN WITH THE SEED: the statements are not yours to turn. If you find one false, say at which input.
  Laid BY PROGRAM, IN A SANDBOX (cutbox-rows.mjs): the forced cells as the released guide's own fill.sh prints them over the translation a2d99e12423263e6… (all of the seat's roots in one cut). By AI agents, Wed Nov 11 2026. No macro, syntax, notation, axiom, sorry.
-/
import Derived.Test.YtcgfcahljfmipaaDoorChecked
import GoSem.Claim
import GoSem.ClaimJoined
import GoSem.ClaimMapViews
import Derived.JoinedTies
import Derived.KernelRfl
namespace Go.Proofs.YtcgfcahljfmipaaDoor
/- THE CELL 'sum', in the pinned program and in every row, IS THE sha256 OF THE DUMP (.gsa) THAT YtcgfcahljfmipaaDoorProg.lean LOADS. Nothing in Lean hashes anything: it is a label: what it is worth is what the hold of that sum in a sandbox is worth. -/
noncomputable def Tryd.pinned : Pinned := { name := "ytcgfcahljfmipaadoor", sum := "a2d99e12423263e64eb653202dc361568706dc74440b03ba1619334c54a6cbb5", checked := Tryd.checked }
namespace Rows
def none {H : Type} : Left H := { results := [], args := [] }

/- WHAT THE LISTED PACKAGE-LEVEL VARIABLES READ AS WHEN THE CALL BEGINS. Each datum BY PROGRAM (the guide's laid-datum.mjs) off the statement by which the dump's own 'gosem.cut.vars' lays the variable. In a bare row this is a premise. The card (YtcgfcahljfmipaaDoorCards.lean) ties it to the program's text. -/
def laid_putlog_building_steps {H : Type} : DataW H := .agg [.agg [.lit (.int .i64 1), .lit (.int .i64 0)], .agg [.lit (.int .i64 0), .lit (.int .i64 1)], .agg [.lit (.int .i64 (-1)), .lit (.int .i64 0)], .agg [.lit (.int .i64 0), .lit (.int .i64 (-1))]]

/-- 'putloglaw02.BuildingOffsets': WHATEVER THE INPUT: true; the input reads as it did. -/
def buildingOffsetsSpec : ChangeSpec := { name := "buildingOffsets", fn := fun _ => fun
  | [d1, d2] => { results := [.lit (.bool true)], args := [d1, d2] }
  | _ => none }
def buildingOffsetsRow : OpenClaim := { program := "ytcgfcahljfmipaadoor", sum := "a2d99e12423263e64eb653202dc361568706dc74440b03ba1619334c54a6cbb5", func := "putlog/putloglaw02.BuildingOffsets", spec := "buildingOffsets", unfollowed := true, recurses := true, named := ["putlog/building.steps"], apart := false, laid := [("putlog/building.steps", laid_putlog_building_steps)] }
def BuildingOffsetsSaid : Prop := buildingOffsetsRow.holds Tryd.pinned (OpenSpec.ofChange buildingOffsetsSpec)

/-- ITS FALSE NEIGHBOUR: 'it returns false'. Refute it at one input. -/
def buildingOffsetsWrong : ChangeSpec := { name := "buildingOffsets", fn := fun _ => fun
  | [d1, d2] => { results := [.lit (.bool false)], args := [d1, d2] }
  | _ => none }
def BuildingOffsetsWrongFalsely : Prop := buildingOffsetsRow.holds Tryd.pinned (OpenSpec.ofChange buildingOffsetsWrong)

/-- 'putloglaw02.BuildingDistances': WHATEVER THE INPUT: true; the input reads as it did. -/
def buildingDistancesSpec : ChangeSpec := { name := "buildingDistances", fn := fun _ => fun
  | [d1, d2, d3] => { results := [.lit (.bool true)], args := [d1, d2, d3] }
  | _ => none }
def buildingDistancesRow : OpenClaim := { program := "ytcgfcahljfmipaadoor", sum := "a2d99e12423263e64eb653202dc361568706dc74440b03ba1619334c54a6cbb5", func := "putlog/putloglaw02.BuildingDistances", spec := "buildingDistances", unfollowed := true, recurses := true, named := ["putlog/building.steps"], apart := false, laid := [("putlog/building.steps", laid_putlog_building_steps)] }
def BuildingDistancesSaid : Prop := buildingDistancesRow.holds Tryd.pinned (OpenSpec.ofChange buildingDistancesSpec)

/-- ITS FALSE NEIGHBOUR: 'it returns false'. Refute it at one input. -/
def buildingDistancesWrong : ChangeSpec := { name := "buildingDistances", fn := fun _ => fun
  | [d1, d2, d3] => { results := [.lit (.bool false)], args := [d1, d2, d3] }
  | _ => none }
def BuildingDistancesWrongFalsely : Prop := buildingDistancesRow.holds Tryd.pinned (OpenSpec.ofChange buildingDistancesWrong)

/- THE SECOND FORM. 'bulk': how many values and letters a reading holds, each counted each time it is reached (what is shared counts as often as it is met; a slice's spare places count too). A statement '..UptoSaid' is the law's where the arguments, and the package variables that the reading takes, are together of bulk at most 1048576: NARROWER than '..Said'. Prove '..Said' where nothing that the law and all that it calls make is longer than what came in: it says more and counts as full. Else prove '..UptoSaid'. A law counts once. -/
mutual
def uptoBulk {H : Type} : DataW H → Nat
  | .lit (.string bytes) => bytes.length + 1
  | .lit _ => 1
  | .nil => 1
  | .ptr d => uptoBulk d + 1
  | .slice elems spare => uptoBulkAll elems + uptoBulkAll spare + 1
  | .agg parts => uptoBulkAll parts + 1
  | .iface _ d => uptoBulk d + 1
  | .map entries => uptoBulkEntries entries + 1
  | .held _ => 1
def uptoBulkAll {H : Type} : List (DataW H) → Nat
  | [] => 0
  | d :: r => uptoBulk d + uptoBulkAll r
def uptoBulkEntries {H : Type} : List (Lit × DataW H) → Nat
  | [] => 0
  | x :: r => uptoBulkEntry x + uptoBulkEntries r
def uptoBulkEntry {H : Type} : Lit × DataW H → Nat
  | (.string bytes, d) => bytes.length + uptoBulk d + 1
  | (_, d) => uptoBulk d + 1
 end
def uptoSmall : (H : Type) → List (DataW H) → Bool := fun _ ds => decide (uptoBulkAll ds ≤ 1048576)
def OpenSpec.upto (s : _root_.Go.ChangeSpec) : _root_.Go.OpenSpec := { _root_.Go.OpenSpec.ofChange s with cond := some uptoSmall }

/-- 'putloglaw02.BuildingOffsets', WHERE WHAT IT READS IS OF BULK AT MOST 1048576: true; the input reads as it did. -/
def buildingOffsetsUptoRow : OpenClaim := { program := "ytcgfcahljfmipaadoor", sum := "a2d99e12423263e64eb653202dc361568706dc74440b03ba1619334c54a6cbb5", func := "putlog/putloglaw02.BuildingOffsets", spec := "buildingOffsets", unfollowed := true, recurses := true, named := ["putlog/building.steps"], apart := false, laid := [("putlog/building.steps", laid_putlog_building_steps)], narrowed := true }
def BuildingOffsetsUptoSaid : Prop := buildingOffsetsUptoRow.holds Tryd.pinned (OpenSpec.upto buildingOffsetsSpec)

/-- 'putloglaw02.BuildingDistances', WHERE WHAT IT READS IS OF BULK AT MOST 1048576: true; the input reads as it did. -/
def buildingDistancesUptoRow : OpenClaim := { program := "ytcgfcahljfmipaadoor", sum := "a2d99e12423263e64eb653202dc361568706dc74440b03ba1619334c54a6cbb5", func := "putlog/putloglaw02.BuildingDistances", spec := "buildingDistances", unfollowed := true, recurses := true, named := ["putlog/building.steps"], apart := false, laid := [("putlog/building.steps", laid_putlog_building_steps)], narrowed := true }
def BuildingDistancesUptoSaid : Prop := buildingDistancesUptoRow.holds Tryd.pinned (OpenSpec.upto buildingDistancesSpec)

end Rows
end Go.Proofs.YtcgfcahljfmipaaDoor
