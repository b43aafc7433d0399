/-
  NARROWER THAN 'FOR EVERY INPUT', by the rows' own cells (each row's printed sentence says how): BuildingDepths: laid · BuildingOpenings: laid · BuildingTurns: laid.
  DERIVED. THE GIVEN ROWS OF THIS SEAT. 3 by the template 'for every input the law returns true; each argument reads behind the call as it read before'; 0 by the template 'total and deterministic' (their statements: YtglebihdhfdhoaaDoorTotals.lean).
  GIVEN WITH THE SEED: the statements are not yours to turn. If you find one false, say at which input.
  Laid BY PROGRAM, IN A SANDBOX (cutbox-rows.mjs): the forced cells as the released guide's own fill.sh prints them over the translation 05f5b21b4795e786… (all of the seat's roots in one cut). By AI agents, Wed Nov 11 2026. No macro, syntax, notation, axiom, sorry.
-/
import Derived.Test.YtglebihdhfdhoaaDoorChecked
import GoSem.Claim
import GoSem.ClaimJoined
import GoSem.ClaimMapViews
import Derived.JoinedTies
import Derived.KernelRfl
namespace Go.Proofs.YtglebihdhfdhoaaDoor
/- THE CELL 'sum', in the pinned program and in every row, IS THE sha256 OF THE DUMP (.gsa) THAT YtglebihdhfdhoaaDoorProg.lean LOADS. Nothing in Lean hashes anything: it is a label: what it is worth is what the hold of that sum in a sandbox is worth. -/
noncomputable def Tryd.pinned : Pinned := { name := "ytglebihdhfdhoaadoor", sum := "05f5b21b4795e786fe6369a1ac35d2b5a143b18350197214541d7826d2f6e30d", checked := Tryd.checked }
namespace Rows
def none {H : Type} : Left H := { results := [], args := [] }

/- WHAT THE LISTED PACKAGE-LEVEL VARIABLES READ AS WHEN THE CALL BEGINS. Each datum BY PROGRAM (the guide's laid-datum.mjs) off the statement by which the dump's own 'gosem.cut.vars' lays the variable. In a bare row this is a premise. The card (YtglebihdhfdhoaaDoorCards.lean) ties it to the program's text. -/
def laid_putlog_building_steps {H : Type} : DataW H := .agg [.agg [.lit (.int .i64 1), .lit (.int .i64 0)], .agg [.lit (.int .i64 0), .lit (.int .i64 1)], .agg [.lit (.int .i64 (-1)), .lit (.int .i64 0)], .agg [.lit (.int .i64 0), .lit (.int .i64 (-1))]]

/-- 'putloglaw02.BuildingDepths': WHATEVER THE INPUT: true; the input reads as it did. -/
def buildingDepthsSpec : ChangeSpec := { name := "buildingDepths", fn := fun _ => fun
  | [d1, d2] => { results := [.lit (.bool true)], args := [d1, d2] }
  | _ => none }
def buildingDepthsRow : OpenClaim := { program := "ytglebihdhfdhoaadoor", sum := "05f5b21b4795e786fe6369a1ac35d2b5a143b18350197214541d7826d2f6e30d", func := "putlog/putloglaw02.BuildingDepths", spec := "buildingDepths", unfollowed := true, recurses := true, named := ["putlog/building.steps"], apart := false, laid := [("putlog/building.steps", laid_putlog_building_steps)] }
def BuildingDepthsSaid : Prop := buildingDepthsRow.holds Tryd.pinned (OpenSpec.ofChange buildingDepthsSpec)

/-- ITS FALSE NEIGHBOUR: 'it returns false'. Refute it at one input. -/
def buildingDepthsWrong : ChangeSpec := { name := "buildingDepths", fn := fun _ => fun
  | [d1, d2] => { results := [.lit (.bool false)], args := [d1, d2] }
  | _ => none }
def BuildingDepthsWrongFalsely : Prop := buildingDepthsRow.holds Tryd.pinned (OpenSpec.ofChange buildingDepthsWrong)

/-- 'putloglaw02.BuildingOpenings': WHATEVER THE INPUT: true; the input reads as it did. -/
def buildingOpeningsSpec : ChangeSpec := { name := "buildingOpenings", fn := fun _ => fun
  | [d1, d2, d3] => { results := [.lit (.bool true)], args := [d1, d2, d3] }
  | _ => none }
def buildingOpeningsRow : OpenClaim := { program := "ytglebihdhfdhoaadoor", sum := "05f5b21b4795e786fe6369a1ac35d2b5a143b18350197214541d7826d2f6e30d", func := "putlog/putloglaw02.BuildingOpenings", spec := "buildingOpenings", unfollowed := true, recurses := true, named := ["putlog/building.steps"], apart := false, laid := [("putlog/building.steps", laid_putlog_building_steps)] }
def BuildingOpeningsSaid : Prop := buildingOpeningsRow.holds Tryd.pinned (OpenSpec.ofChange buildingOpeningsSpec)

/-- ITS FALSE NEIGHBOUR: 'it returns false'. Refute it at one input. -/
def buildingOpeningsWrong : ChangeSpec := { name := "buildingOpenings", fn := fun _ => fun
  | [d1, d2, d3] => { results := [.lit (.bool false)], args := [d1, d2, d3] }
  | _ => none }
def BuildingOpeningsWrongFalsely : Prop := buildingOpeningsRow.holds Tryd.pinned (OpenSpec.ofChange buildingOpeningsWrong)

/-- 'putloglaw02.BuildingTurns': WHATEVER THE INPUT: true; the input reads as it did. -/
def buildingTurnsSpec : ChangeSpec := { name := "buildingTurns", fn := fun _ => fun
  | [d1, d2, d3] => { results := [.lit (.bool true)], args := [d1, d2, d3] }
  | _ => none }
def buildingTurnsRow : OpenClaim := { program := "ytglebihdhfdhoaadoor", sum := "05f5b21b4795e786fe6369a1ac35d2b5a143b18350197214541d7826d2f6e30d", func := "putlog/putloglaw02.BuildingTurns", spec := "buildingTurns", unfollowed := true, recurses := true, named := ["putlog/building.steps"], apart := false, laid := [("putlog/building.steps", laid_putlog_building_steps)] }
def BuildingTurnsSaid : Prop := buildingTurnsRow.holds Tryd.pinned (OpenSpec.ofChange buildingTurnsSpec)

/-- ITS FALSE NEIGHBOUR: 'it returns false'. Refute it at one input. -/
def buildingTurnsWrong : ChangeSpec := { name := "buildingTurns", fn := fun _ => fun
  | [d1, d2, d3] => { results := [.lit (.bool false)], args := [d1, d2, d3] }
  | _ => none }
def BuildingTurnsWrongFalsely : Prop := buildingTurnsRow.holds Tryd.pinned (OpenSpec.ofChange buildingTurnsWrong)

/- THE SECOND FORM. 'bulk': how many values and letters a reading holds, each counted each time it is reached (what is shared counts as often as it is met; a slice's spare places count too). A statement '..UptoSaid' is the law's where the arguments, and the package variables that the reading takes, are together of bulk at most 1048576: NARROWER than '..Said'. Prove '..Said' where nothing that the law and all that it calls make is longer than what came in: it says more and counts as full. Else prove '..UptoSaid'. A law counts once. -/
mutual
def uptoBulk {H : Type} : DataW H → Nat
  | .lit (.string bytes) => bytes.length + 1
  | .lit _ => 1
  | .nil => 1
  | .ptr d => uptoBulk d + 1
  | .slice elems spare => uptoBulkAll elems + uptoBulkAll spare + 1
  | .agg parts => uptoBulkAll parts + 1
  | .iface _ d => uptoBulk d + 1
  | .map entries => uptoBulkEntries entries + 1
  | .held _ => 1
def uptoBulkAll {H : Type} : List (DataW H) → Nat
  | [] => 0
  | d :: r => uptoBulk d + uptoBulkAll r
def uptoBulkEntries {H : Type} : List (Lit × DataW H) → Nat
  | [] => 0
  | x :: r => uptoBulkEntry x + uptoBulkEntries r
def uptoBulkEntry {H : Type} : Lit × DataW H → Nat
  | (.string bytes, d) => bytes.length + uptoBulk d + 1
  | (_, d) => uptoBulk d + 1
 end
def uptoSmall : (H : Type) → List (DataW H) → Bool := fun _ ds => decide (uptoBulkAll ds ≤ 1048576)
def OpenSpec.upto (s : _root_.Go.ChangeSpec) : _root_.Go.OpenSpec := { _root_.Go.OpenSpec.ofChange s with cond := some uptoSmall }

/-- 'putloglaw02.BuildingDepths', WHERE WHAT IT READS IS OF BULK AT MOST 1048576: true; the input reads as it did. -/
def buildingDepthsUptoRow : OpenClaim := { program := "ytglebihdhfdhoaadoor", sum := "05f5b21b4795e786fe6369a1ac35d2b5a143b18350197214541d7826d2f6e30d", func := "putlog/putloglaw02.BuildingDepths", spec := "buildingDepths", unfollowed := true, recurses := true, named := ["putlog/building.steps"], apart := false, laid := [("putlog/building.steps", laid_putlog_building_steps)], narrowed := true }
def BuildingDepthsUptoSaid : Prop := buildingDepthsUptoRow.holds Tryd.pinned (OpenSpec.upto buildingDepthsSpec)

/-- 'putloglaw02.BuildingOpenings', WHERE WHAT IT READS IS OF BULK AT MOST 1048576: true; the input reads as it did. -/
def buildingOpeningsUptoRow : OpenClaim := { program := "ytglebihdhfdhoaadoor", sum := "05f5b21b4795e786fe6369a1ac35d2b5a143b18350197214541d7826d2f6e30d", func := "putlog/putloglaw02.BuildingOpenings", spec := "buildingOpenings", unfollowed := true, recurses := true, named := ["putlog/building.steps"], apart := false, laid := [("putlog/building.steps", laid_putlog_building_steps)], narrowed := true }
def BuildingOpeningsUptoSaid : Prop := buildingOpeningsUptoRow.holds Tryd.pinned (OpenSpec.upto buildingOpeningsSpec)

/-- 'putloglaw02.BuildingTurns', WHERE WHAT IT READS IS OF BULK AT MOST 1048576: true; the input reads as it did. -/
def buildingTurnsUptoRow : OpenClaim := { program := "ytglebihdhfdhoaadoor", sum := "05f5b21b4795e786fe6369a1ac35d2b5a143b18350197214541d7826d2f6e30d", func := "putlog/putloglaw02.BuildingTurns", spec := "buildingTurns", unfollowed := true, recurses := true, named := ["putlog/building.steps"], apart := false, laid := [("putlog/building.steps", laid_putlog_building_steps)], narrowed := true }
def BuildingTurnsUptoSaid : Prop := buildingTurnsUptoRow.holds Tryd.pinned (OpenSpec.upto buildingTurnsSpec)

end Rows
end Go.Proofs.YtglebihdhfdhoaaDoor
