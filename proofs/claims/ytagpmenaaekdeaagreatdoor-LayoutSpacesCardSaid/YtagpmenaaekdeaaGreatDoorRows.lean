/-
  NARROWER THAN 'FOR EVERY INPUT', by the rows' own cells (each row's printed sentence says how): LayoutRings: laid · LayoutRuns: laid · LayoutBlocked: laid · LayoutChecks: laid · LayoutSpaces: laid.
  DERIVED. THE GIVEN ROWS OF THIS SEAT. 5 by the template 'for every input the law returns true; each argument reads behind the call as it read before'; 0 by the template 'total and deterministic' (their statements: YtagpmenaaekdeaaGreatDoorTotals.lean).
  GIVEN WITH THE SEED: the statements are not yours to turn. If you find one false, say at which input.
  Laid BY PROGRAM, IN A SANDBOX (cutbox-rows.mjs): the forced cells as the released guide's own fill.sh prints them over the translation 5bfe7e7a8df0bc24… (all of the seat's roots in one cut). By AI agents, Wed Nov 11 2026. No macro, syntax, notation, axiom, sorry.
-/
import Derived.Test.YtagpmenaaekdeaaGreatDoorChecked
import GoSem.Claim
import GoSem.ClaimJoined
import GoSem.ClaimMapViews
import Derived.JoinedTies
import Derived.KernelRfl
namespace Go.Proofs.YtagpmenaaekdeaaGreatDoor
/- THE CELL 'sum', in the pinned program and in every row, IS THE sha256 OF THE DUMP (.gsa) THAT YtagpmenaaekdeaaGreatDoorProg.lean LOADS. Nothing in Lean hashes anything: it is a label: what it is worth is what the hold of that sum in a sandbox is worth. -/
noncomputable def Tryz.pinned : Pinned := { name := "ytagpmenaaekdeaagreatdoor", sum := "5bfe7e7a8df0bc24a4ff18f4241cc5d24c1c5f9d9c8c70ceb0c372945346df5c", checked := Tryz.checked }
namespace Rows
def none {H : Type} : Left H := { results := [], args := [] }

/- WHAT THE LISTED PACKAGE-LEVEL VARIABLES READ AS WHEN THE CALL BEGINS. Each datum BY PROGRAM (the guide's laid-datum.mjs) off the statement by which the dump's own 'gosem.cut.vars' lays the variable. In a bare row this is a premise. The card (YtagpmenaaekdeaaGreatDoorCards.lean) ties it to the program's text. -/
def laid_putlog_building_steps {H : Type} : DataW H := .agg [.agg [.lit (.int .i64 1), .lit (.int .i64 0)], .agg [.lit (.int .i64 0), .lit (.int .i64 1)], .agg [.lit (.int .i64 (-1)), .lit (.int .i64 0)], .agg [.lit (.int .i64 0), .lit (.int .i64 (-1))]]

/-- 'putloglaw03.LayoutRings': WHATEVER THE INPUT: true; the input reads as it did. -/
def layoutRingsSpec : ChangeSpec := { name := "layoutRings", fn := fun _ => fun
  | [d] => { results := [.lit (.bool true)], args := [d] }
  | _ => none }
def layoutRingsRow : OpenClaim := { program := "ytagpmenaaekdeaagreatdoor", sum := "5bfe7e7a8df0bc24a4ff18f4241cc5d24c1c5f9d9c8c70ceb0c372945346df5c", func := "putlog/putloglaw03.LayoutRings", spec := "layoutRings", unfollowed := true, recurses := true, named := ["putlog/building.steps"], apart := false, laid := [("putlog/building.steps", laid_putlog_building_steps)] }
def LayoutRingsSaid : Prop := layoutRingsRow.holds Tryz.pinned (OpenSpec.ofChange layoutRingsSpec)

/-- ITS FALSE NEIGHBOUR: 'it returns false'. Refute it at one input. -/
def layoutRingsWrong : ChangeSpec := { name := "layoutRings", fn := fun _ => fun
  | [d] => { results := [.lit (.bool false)], args := [d] }
  | _ => none }
def LayoutRingsWrongFalsely : Prop := layoutRingsRow.holds Tryz.pinned (OpenSpec.ofChange layoutRingsWrong)

/-- 'putloglaw03.LayoutRuns': WHATEVER THE INPUT: true; the input reads as it did. -/
def layoutRunsSpec : ChangeSpec := { name := "layoutRuns", fn := fun _ => fun
  | [d1, d2] => { results := [.lit (.bool true)], args := [d1, d2] }
  | _ => none }
def layoutRunsRow : OpenClaim := { program := "ytagpmenaaekdeaagreatdoor", sum := "5bfe7e7a8df0bc24a4ff18f4241cc5d24c1c5f9d9c8c70ceb0c372945346df5c", func := "putlog/putloglaw03.LayoutRuns", spec := "layoutRuns", unfollowed := true, recurses := true, named := ["putlog/building.steps"], apart := false, laid := [("putlog/building.steps", laid_putlog_building_steps)] }
def LayoutRunsSaid : Prop := layoutRunsRow.holds Tryz.pinned (OpenSpec.ofChange layoutRunsSpec)

/-- ITS FALSE NEIGHBOUR: 'it returns false'. Refute it at one input. -/
def layoutRunsWrong : ChangeSpec := { name := "layoutRuns", fn := fun _ => fun
  | [d1, d2] => { results := [.lit (.bool false)], args := [d1, d2] }
  | _ => none }
def LayoutRunsWrongFalsely : Prop := layoutRunsRow.holds Tryz.pinned (OpenSpec.ofChange layoutRunsWrong)

/-- 'putloglaw03.LayoutBlocked': WHATEVER THE INPUT: true; the input reads as it did. -/
def layoutBlockedSpec : ChangeSpec := { name := "layoutBlocked", fn := fun _ => fun
  | [d] => { results := [.lit (.bool true)], args := [d] }
  | _ => none }
def layoutBlockedRow : OpenClaim := { program := "ytagpmenaaekdeaagreatdoor", sum := "5bfe7e7a8df0bc24a4ff18f4241cc5d24c1c5f9d9c8c70ceb0c372945346df5c", func := "putlog/putloglaw03.LayoutBlocked", spec := "layoutBlocked", unfollowed := true, recurses := true, named := ["putlog/building.steps"], apart := false, laid := [("putlog/building.steps", laid_putlog_building_steps)] }
def LayoutBlockedSaid : Prop := layoutBlockedRow.holds Tryz.pinned (OpenSpec.ofChange layoutBlockedSpec)

/-- ITS FALSE NEIGHBOUR: 'it returns false'. Refute it at one input. -/
def layoutBlockedWrong : ChangeSpec := { name := "layoutBlocked", fn := fun _ => fun
  | [d] => { results := [.lit (.bool false)], args := [d] }
  | _ => none }
def LayoutBlockedWrongFalsely : Prop := layoutBlockedRow.holds Tryz.pinned (OpenSpec.ofChange layoutBlockedWrong)

/-- 'putloglaw03.LayoutChecks': WHATEVER THE INPUT: true; the input reads as it did. -/
def layoutChecksSpec : ChangeSpec := { name := "layoutChecks", fn := fun _ => fun
  | [d1, d2] => { results := [.lit (.bool true)], args := [d1, d2] }
  | _ => none }
def layoutChecksRow : OpenClaim := { program := "ytagpmenaaekdeaagreatdoor", sum := "5bfe7e7a8df0bc24a4ff18f4241cc5d24c1c5f9d9c8c70ceb0c372945346df5c", func := "putlog/putloglaw03.LayoutChecks", spec := "layoutChecks", unfollowed := true, recurses := true, named := ["putlog/building.steps"], apart := false, laid := [("putlog/building.steps", laid_putlog_building_steps)] }
def LayoutChecksSaid : Prop := layoutChecksRow.holds Tryz.pinned (OpenSpec.ofChange layoutChecksSpec)

/-- ITS FALSE NEIGHBOUR: 'it returns false'. Refute it at one input. -/
def layoutChecksWrong : ChangeSpec := { name := "layoutChecks", fn := fun _ => fun
  | [d1, d2] => { results := [.lit (.bool false)], args := [d1, d2] }
  | _ => none }
def LayoutChecksWrongFalsely : Prop := layoutChecksRow.holds Tryz.pinned (OpenSpec.ofChange layoutChecksWrong)

/-- 'putloglaw03.LayoutSpaces': WHATEVER THE INPUT: true; the input reads as it did. -/
def layoutSpacesSpec : ChangeSpec := { name := "layoutSpaces", fn := fun _ => fun
  | [d1, d2, d3] => { results := [.lit (.bool true)], args := [d1, d2, d3] }
  | _ => none }
def layoutSpacesRow : OpenClaim := { program := "ytagpmenaaekdeaagreatdoor", sum := "5bfe7e7a8df0bc24a4ff18f4241cc5d24c1c5f9d9c8c70ceb0c372945346df5c", func := "putlog/putloglaw03.LayoutSpaces", spec := "layoutSpaces", unfollowed := true, recurses := true, named := ["putlog/building.steps"], apart := false, laid := [("putlog/building.steps", laid_putlog_building_steps)] }
def LayoutSpacesSaid : Prop := layoutSpacesRow.holds Tryz.pinned (OpenSpec.ofChange layoutSpacesSpec)

/-- ITS FALSE NEIGHBOUR: 'it returns false'. Refute it at one input. -/
def layoutSpacesWrong : ChangeSpec := { name := "layoutSpaces", fn := fun _ => fun
  | [d1, d2, d3] => { results := [.lit (.bool false)], args := [d1, d2, d3] }
  | _ => none }
def LayoutSpacesWrongFalsely : Prop := layoutSpacesRow.holds Tryz.pinned (OpenSpec.ofChange layoutSpacesWrong)

/- THE SECOND FORM. 'bulk': how many values and letters a reading holds, each counted each time it is reached (what is shared counts as often as it is met; a slice's spare places count too). A statement '..UptoSaid' is the law's where the arguments, and the package variables that the reading takes, are together of bulk at most 1048576: NARROWER than '..Said'. Prove '..Said' where nothing that the law and all that it calls make is longer than what came in: it says more and counts as full. Else prove '..UptoSaid'. A law counts once. -/
mutual
def uptoBulk {H : Type} : DataW H → Nat
  | .lit (.string bytes) => bytes.length + 1
  | .lit _ => 1
  | .nil => 1
  | .ptr d => uptoBulk d + 1
  | .slice elems spare => uptoBulkAll elems + uptoBulkAll spare + 1
  | .agg parts => uptoBulkAll parts + 1
  | .iface _ d => uptoBulk d + 1
  | .map entries => uptoBulkEntries entries + 1
  | .held _ => 1
def uptoBulkAll {H : Type} : List (DataW H) → Nat
  | [] => 0
  | d :: r => uptoBulk d + uptoBulkAll r
def uptoBulkEntries {H : Type} : List (Lit × DataW H) → Nat
  | [] => 0
  | x :: r => uptoBulkEntry x + uptoBulkEntries r
def uptoBulkEntry {H : Type} : Lit × DataW H → Nat
  | (.string bytes, d) => bytes.length + uptoBulk d + 1
  | (_, d) => uptoBulk d + 1
 end
def uptoSmall : (H : Type) → List (DataW H) → Bool := fun _ ds => decide (uptoBulkAll ds ≤ 1048576)
def OpenSpec.upto (s : _root_.Go.ChangeSpec) : _root_.Go.OpenSpec := { _root_.Go.OpenSpec.ofChange s with cond := some uptoSmall }

/-- 'putloglaw03.LayoutRings', WHERE WHAT IT READS IS OF BULK AT MOST 1048576: true; the input reads as it did. -/
def layoutRingsUptoRow : OpenClaim := { program := "ytagpmenaaekdeaagreatdoor", sum := "5bfe7e7a8df0bc24a4ff18f4241cc5d24c1c5f9d9c8c70ceb0c372945346df5c", func := "putlog/putloglaw03.LayoutRings", spec := "layoutRings", unfollowed := true, recurses := true, named := ["putlog/building.steps"], apart := false, laid := [("putlog/building.steps", laid_putlog_building_steps)], narrowed := true }
def LayoutRingsUptoSaid : Prop := layoutRingsUptoRow.holds Tryz.pinned (OpenSpec.upto layoutRingsSpec)

/-- 'putloglaw03.LayoutRuns', WHERE WHAT IT READS IS OF BULK AT MOST 1048576: true; the input reads as it did. -/
def layoutRunsUptoRow : OpenClaim := { program := "ytagpmenaaekdeaagreatdoor", sum := "5bfe7e7a8df0bc24a4ff18f4241cc5d24c1c5f9d9c8c70ceb0c372945346df5c", func := "putlog/putloglaw03.LayoutRuns", spec := "layoutRuns", unfollowed := true, recurses := true, named := ["putlog/building.steps"], apart := false, laid := [("putlog/building.steps", laid_putlog_building_steps)], narrowed := true }
def LayoutRunsUptoSaid : Prop := layoutRunsUptoRow.holds Tryz.pinned (OpenSpec.upto layoutRunsSpec)

/-- 'putloglaw03.LayoutBlocked', WHERE WHAT IT READS IS OF BULK AT MOST 1048576: true; the input reads as it did. -/
def layoutBlockedUptoRow : OpenClaim := { program := "ytagpmenaaekdeaagreatdoor", sum := "5bfe7e7a8df0bc24a4ff18f4241cc5d24c1c5f9d9c8c70ceb0c372945346df5c", func := "putlog/putloglaw03.LayoutBlocked", spec := "layoutBlocked", unfollowed := true, recurses := true, named := ["putlog/building.steps"], apart := false, laid := [("putlog/building.steps", laid_putlog_building_steps)], narrowed := true }
def LayoutBlockedUptoSaid : Prop := layoutBlockedUptoRow.holds Tryz.pinned (OpenSpec.upto layoutBlockedSpec)

/-- 'putloglaw03.LayoutChecks', WHERE WHAT IT READS IS OF BULK AT MOST 1048576: true; the input reads as it did. -/
def layoutChecksUptoRow : OpenClaim := { program := "ytagpmenaaekdeaagreatdoor", sum := "5bfe7e7a8df0bc24a4ff18f4241cc5d24c1c5f9d9c8c70ceb0c372945346df5c", func := "putlog/putloglaw03.LayoutChecks", spec := "layoutChecks", unfollowed := true, recurses := true, named := ["putlog/building.steps"], apart := false, laid := [("putlog/building.steps", laid_putlog_building_steps)], narrowed := true }
def LayoutChecksUptoSaid : Prop := layoutChecksUptoRow.holds Tryz.pinned (OpenSpec.upto layoutChecksSpec)

/-- 'putloglaw03.LayoutSpaces', WHERE WHAT IT READS IS OF BULK AT MOST 1048576: true; the input reads as it did. -/
def layoutSpacesUptoRow : OpenClaim := { program := "ytagpmenaaekdeaagreatdoor", sum := "5bfe7e7a8df0bc24a4ff18f4241cc5d24c1c5f9d9c8c70ceb0c372945346df5c", func := "putlog/putloglaw03.LayoutSpaces", spec := "layoutSpaces", unfollowed := true, recurses := true, named := ["putlog/building.steps"], apart := false, laid := [("putlog/building.steps", laid_putlog_building_steps)], narrowed := true }
def LayoutSpacesUptoSaid : Prop := layoutSpacesUptoRow.holds Tryz.pinned (OpenSpec.upto layoutSpacesSpec)

end Rows
end Go.Proofs.YtagpmenaaekdeaaGreatDoor
