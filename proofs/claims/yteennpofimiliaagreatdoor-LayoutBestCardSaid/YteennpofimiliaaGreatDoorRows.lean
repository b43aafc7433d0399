/-
  NARROWER THAN 'FOR EVERY INPUT', by the rows' own cells (each row's printed sentence says how): LayoutProofs: laid · LayoutBest: laid.
  DERIVED. THE GIVEN ROWS OF THIS SEAT. 2 by the template 'for every input the law returns true; each argument reads behind the call as it read before'; 0 by the template 'total and deterministic' (their statements: YteennpofimiliaaGreatDoorTotals.lean).
  GIVEN WITH THE SEED: the statements are not yours to turn. If you find one false, say at which input.
  Laid BY PROGRAM, IN A SANDBOX (cutbox-rows.mjs): the forced cells as the released guide's own fill.sh prints them over the translation e49c802f2e3b69c7… (all of the seat's roots in one cut). By AI agents, Wed Nov 11 2026. No macro, syntax, notation, axiom, sorry.
-/
import Derived.Test.YteennpofimiliaaGreatDoorChecked
import GoSem.Claim
import GoSem.ClaimJoined
import GoSem.ClaimMapViews
import Derived.JoinedTies
import Derived.KernelRfl
namespace Go.Proofs.YteennpofimiliaaGreatDoor
/- THE CELL 'sum', in the pinned program and in every row, IS THE sha256 OF THE DUMP (.gsa) THAT YteennpofimiliaaGreatDoorProg.lean LOADS. Nothing in Lean hashes anything: it is a label: what it is worth is what the hold of that sum in a sandbox is worth. -/
noncomputable def Tryz.pinned : Pinned := { name := "yteennpofimiliaagreatdoor", sum := "e49c802f2e3b69c7dca7b6628a7aaae1e0a5f0ef286eeb46d71d26cecd58608f", checked := Tryz.checked }
namespace Rows
def none {H : Type} : Left H := { results := [], args := [] }

/- WHAT THE LISTED PACKAGE-LEVEL VARIABLES READ AS WHEN THE CALL BEGINS. Each datum BY PROGRAM (the guide's laid-datum.mjs) off the statement by which the dump's own 'gosem.cut.vars' lays the variable. In a bare row this is a premise. The card (YteennpofimiliaaGreatDoorCards.lean) ties it to the program's text. -/
def laid_putlog_building_steps {H : Type} : DataW H := .agg [.agg [.lit (.int .i64 1), .lit (.int .i64 0)], .agg [.lit (.int .i64 0), .lit (.int .i64 1)], .agg [.lit (.int .i64 (-1)), .lit (.int .i64 0)], .agg [.lit (.int .i64 0), .lit (.int .i64 (-1))]]

/-- 'putloglaw03.LayoutProofs': WHATEVER THE INPUT: true; the input reads as it did. -/
def layoutProofsSpec : ChangeSpec := { name := "layoutProofs", fn := fun _ => fun
  | [d1, d2, d3] => { results := [.lit (.bool true)], args := [d1, d2, d3] }
  | _ => none }
def layoutProofsRow : OpenClaim := { program := "yteennpofimiliaagreatdoor", sum := "e49c802f2e3b69c7dca7b6628a7aaae1e0a5f0ef286eeb46d71d26cecd58608f", func := "putlog/putloglaw03.LayoutProofs", spec := "layoutProofs", unfollowed := true, recurses := true, named := ["putlog/building.steps"], apart := false, laid := [("putlog/building.steps", laid_putlog_building_steps)] }
def LayoutProofsSaid : Prop := layoutProofsRow.holds Tryz.pinned (OpenSpec.ofChange layoutProofsSpec)

/-- ITS FALSE NEIGHBOUR: 'it returns false'. Refute it at one input. -/
def layoutProofsWrong : ChangeSpec := { name := "layoutProofs", fn := fun _ => fun
  | [d1, d2, d3] => { results := [.lit (.bool false)], args := [d1, d2, d3] }
  | _ => none }
def LayoutProofsWrongFalsely : Prop := layoutProofsRow.holds Tryz.pinned (OpenSpec.ofChange layoutProofsWrong)

/-- 'putloglaw03.LayoutBest': WHATEVER THE INPUT: true; the input reads as it did. -/
def layoutBestSpec : ChangeSpec := { name := "layoutBest", fn := fun _ => fun
  | [d] => { results := [.lit (.bool true)], args := [d] }
  | _ => none }
def layoutBestRow : OpenClaim := { program := "yteennpofimiliaagreatdoor", sum := "e49c802f2e3b69c7dca7b6628a7aaae1e0a5f0ef286eeb46d71d26cecd58608f", func := "putlog/putloglaw03.LayoutBest", spec := "layoutBest", unfollowed := true, recurses := true, named := ["putlog/building.steps"], apart := false, laid := [("putlog/building.steps", laid_putlog_building_steps)] }
def LayoutBestSaid : Prop := layoutBestRow.holds Tryz.pinned (OpenSpec.ofChange layoutBestSpec)

/-- ITS FALSE NEIGHBOUR: 'it returns false'. Refute it at one input. -/
def layoutBestWrong : ChangeSpec := { name := "layoutBest", fn := fun _ => fun
  | [d] => { results := [.lit (.bool false)], args := [d] }
  | _ => none }
def LayoutBestWrongFalsely : Prop := layoutBestRow.holds Tryz.pinned (OpenSpec.ofChange layoutBestWrong)

/- THE SECOND FORM. 'bulk': how many values and letters a reading holds, each counted each time it is reached (what is shared counts as often as it is met; a slice's spare places count too). A statement '..UptoSaid' is the law's where the arguments, and the package variables that the reading takes, are together of bulk at most 1048576: NARROWER than '..Said'. Prove '..Said' where nothing that the law and all that it calls make is longer than what came in: it says more and counts as full. Else prove '..UptoSaid'. A law counts once. -/
mutual
def uptoBulk {H : Type} : DataW H → Nat
  | .lit (.string bytes) => bytes.length + 1
  | .lit _ => 1
  | .nil => 1
  | .ptr d => uptoBulk d + 1
  | .slice elems spare => uptoBulkAll elems + uptoBulkAll spare + 1
  | .agg parts => uptoBulkAll parts + 1
  | .iface _ d => uptoBulk d + 1
  | .map entries => uptoBulkEntries entries + 1
  | .held _ => 1
def uptoBulkAll {H : Type} : List (DataW H) → Nat
  | [] => 0
  | d :: r => uptoBulk d + uptoBulkAll r
def uptoBulkEntries {H : Type} : List (Lit × DataW H) → Nat
  | [] => 0
  | x :: r => uptoBulkEntry x + uptoBulkEntries r
def uptoBulkEntry {H : Type} : Lit × DataW H → Nat
  | (.string bytes, d) => bytes.length + uptoBulk d + 1
  | (_, d) => uptoBulk d + 1
 end
def uptoSmall : (H : Type) → List (DataW H) → Bool := fun _ ds => decide (uptoBulkAll ds ≤ 1048576)
def OpenSpec.upto (s : _root_.Go.ChangeSpec) : _root_.Go.OpenSpec := { _root_.Go.OpenSpec.ofChange s with cond := some uptoSmall }

/-- 'putloglaw03.LayoutProofs', WHERE WHAT IT READS IS OF BULK AT MOST 1048576: true; the input reads as it did. -/
def layoutProofsUptoRow : OpenClaim := { program := "yteennpofimiliaagreatdoor", sum := "e49c802f2e3b69c7dca7b6628a7aaae1e0a5f0ef286eeb46d71d26cecd58608f", func := "putlog/putloglaw03.LayoutProofs", spec := "layoutProofs", unfollowed := true, recurses := true, named := ["putlog/building.steps"], apart := false, laid := [("putlog/building.steps", laid_putlog_building_steps)], narrowed := true }
def LayoutProofsUptoSaid : Prop := layoutProofsUptoRow.holds Tryz.pinned (OpenSpec.upto layoutProofsSpec)

/-- 'putloglaw03.LayoutBest', WHERE WHAT IT READS IS OF BULK AT MOST 1048576: true; the input reads as it did. -/
def layoutBestUptoRow : OpenClaim := { program := "yteennpofimiliaagreatdoor", sum := "e49c802f2e3b69c7dca7b6628a7aaae1e0a5f0ef286eeb46d71d26cecd58608f", func := "putlog/putloglaw03.LayoutBest", spec := "layoutBest", unfollowed := true, recurses := true, named := ["putlog/building.steps"], apart := false, laid := [("putlog/building.steps", laid_putlog_building_steps)], narrowed := true }
def LayoutBestUptoSaid : Prop := layoutBestUptoRow.holds Tryz.pinned (OpenSpec.upto layoutBestSpec)

end Rows
end Go.Proofs.YteennpofimiliaaGreatDoor
