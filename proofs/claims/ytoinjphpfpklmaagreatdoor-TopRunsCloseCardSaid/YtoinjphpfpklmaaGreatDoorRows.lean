/-
  NARROWER THAN 'FOR EVERY INPUT', by the rows' own cells (each row's printed sentence says how): TopRunsClose: laid · TopFewestOddParts: laid · LayoutTurned: laid.
  DERIVED. THE GIVEN ROWS OF THIS SEAT. 3 by the template 'for every input the law returns true; each argument reads behind the call as it read before'; 0 by the template 'total and deterministic' (their statements: YtoinjphpfpklmaaGreatDoorTotals.lean).
  GIVEN WITH THE SEED: the statements are not yours to turn. If you find one false, say at which input.
  Laid BY PROGRAM, IN A SANDBOX (cutbox-rows.mjs): the forced cells as the released guide's own fill.sh prints them over the translation f803dfebce66a315… (all of the seat's roots in one cut). By AI agents, Wed Nov 11 2026. No macro, syntax, notation, axiom, sorry.
-/
import Derived.Test.YtoinjphpfpklmaaGreatDoorChecked
import GoSem.Claim
import GoSem.ClaimJoined
import GoSem.ClaimMapViews
import Derived.JoinedTies
import Derived.KernelRfl
namespace Go.Proofs.YtoinjphpfpklmaaGreatDoor
/- THE CELL 'sum', in the pinned program and in every row, IS THE sha256 OF THE DUMP (.gsa) THAT YtoinjphpfpklmaaGreatDoorProg.lean LOADS. Nothing in Lean hashes anything: it is a label: what it is worth is what the hold of that sum in a sandbox is worth. -/
noncomputable def Tryz.pinned : Pinned := { name := "ytoinjphpfpklmaagreatdoor", sum := "f803dfebce66a31598fcfe712842f425f66aa6d5b5596765565c97e9943841c7", checked := Tryz.checked }
namespace Rows
def none {H : Type} : Left H := { results := [], args := [] }

/- WHAT THE LISTED PACKAGE-LEVEL VARIABLES READ AS WHEN THE CALL BEGINS. Each datum BY PROGRAM (the guide's laid-datum.mjs) off the statement by which the dump's own 'gosem.cut.vars' lays the variable. In a bare row this is a premise. The card (YtoinjphpfpklmaaGreatDoorCards.lean) ties it to the program's text. -/
def laid_putlog_building_steps {H : Type} : DataW H := .agg [.agg [.lit (.int .i64 1), .lit (.int .i64 0)], .agg [.lit (.int .i64 0), .lit (.int .i64 1)], .agg [.lit (.int .i64 (-1)), .lit (.int .i64 0)], .agg [.lit (.int .i64 0), .lit (.int .i64 (-1))]]

/-- 'putlogtop.TopRunsClose': WHATEVER THE INPUT: true; the input reads as it did. -/
def topRunsCloseSpec : ChangeSpec := { name := "topRunsClose", fn := fun _ => fun
  | [d] => { results := [.lit (.bool true)], args := [d] }
  | _ => none }
def topRunsCloseRow : OpenClaim := { program := "ytoinjphpfpklmaagreatdoor", sum := "f803dfebce66a31598fcfe712842f425f66aa6d5b5596765565c97e9943841c7", func := "putlog/putlogtop.TopRunsClose", spec := "topRunsClose", unfollowed := true, recurses := true, named := ["putlog/building.steps"], apart := false, laid := [("putlog/building.steps", laid_putlog_building_steps)] }
def TopRunsCloseSaid : Prop := topRunsCloseRow.holds Tryz.pinned (OpenSpec.ofChange topRunsCloseSpec)

/-- ITS FALSE NEIGHBOUR: 'it returns false'. Refute it at one input. -/
def topRunsCloseWrong : ChangeSpec := { name := "topRunsClose", fn := fun _ => fun
  | [d] => { results := [.lit (.bool false)], args := [d] }
  | _ => none }
def TopRunsCloseWrongFalsely : Prop := topRunsCloseRow.holds Tryz.pinned (OpenSpec.ofChange topRunsCloseWrong)

/-- 'putlogtop.TopFewestOddParts': WHATEVER THE INPUT: true; the input reads as it did. -/
def topFewestOddPartsSpec : ChangeSpec := { name := "topFewestOddParts", fn := fun _ => fun
  | [d1, d2] => { results := [.lit (.bool true)], args := [d1, d2] }
  | _ => none }
def topFewestOddPartsRow : OpenClaim := { program := "ytoinjphpfpklmaagreatdoor", sum := "f803dfebce66a31598fcfe712842f425f66aa6d5b5596765565c97e9943841c7", func := "putlog/putlogtop.TopFewestOddParts", spec := "topFewestOddParts", unfollowed := true, recurses := true, named := ["putlog/building.steps"], apart := false, laid := [("putlog/building.steps", laid_putlog_building_steps)] }
def TopFewestOddPartsSaid : Prop := topFewestOddPartsRow.holds Tryz.pinned (OpenSpec.ofChange topFewestOddPartsSpec)

/-- ITS FALSE NEIGHBOUR: 'it returns false'. Refute it at one input. -/
def topFewestOddPartsWrong : ChangeSpec := { name := "topFewestOddParts", fn := fun _ => fun
  | [d1, d2] => { results := [.lit (.bool false)], args := [d1, d2] }
  | _ => none }
def TopFewestOddPartsWrongFalsely : Prop := topFewestOddPartsRow.holds Tryz.pinned (OpenSpec.ofChange topFewestOddPartsWrong)

/-- 'putloglaw03.LayoutTurned': WHATEVER THE INPUT: true; the input reads as it did. -/
def layoutTurnedSpec : ChangeSpec := { name := "layoutTurned", fn := fun _ => fun
  | [d1, d2, d3] => { results := [.lit (.bool true)], args := [d1, d2, d3] }
  | _ => none }
def layoutTurnedRow : OpenClaim := { program := "ytoinjphpfpklmaagreatdoor", sum := "f803dfebce66a31598fcfe712842f425f66aa6d5b5596765565c97e9943841c7", func := "putlog/putloglaw03.LayoutTurned", spec := "layoutTurned", unfollowed := true, recurses := true, named := ["putlog/building.steps"], apart := false, laid := [("putlog/building.steps", laid_putlog_building_steps)] }
def LayoutTurnedSaid : Prop := layoutTurnedRow.holds Tryz.pinned (OpenSpec.ofChange layoutTurnedSpec)

/-- ITS FALSE NEIGHBOUR: 'it returns false'. Refute it at one input. -/
def layoutTurnedWrong : ChangeSpec := { name := "layoutTurned", fn := fun _ => fun
  | [d1, d2, d3] => { results := [.lit (.bool false)], args := [d1, d2, d3] }
  | _ => none }
def LayoutTurnedWrongFalsely : Prop := layoutTurnedRow.holds Tryz.pinned (OpenSpec.ofChange layoutTurnedWrong)

/- THE SECOND FORM. 'bulk': how many values and letters a reading holds, each counted each time it is reached (what is shared counts as often as it is met; a slice's spare places count too). A statement '..UptoSaid' is the law's where the arguments, and the package variables that the reading takes, are together of bulk at most 1048576: NARROWER than '..Said'. Prove '..Said' where nothing that the law and all that it calls make is longer than what came in: it says more and counts as full. Else prove '..UptoSaid'. A law counts once. -/
mutual
def uptoBulk {H : Type} : DataW H → Nat
  | .lit (.string bytes) => bytes.length + 1
  | .lit _ => 1
  | .nil => 1
  | .ptr d => uptoBulk d + 1
  | .slice elems spare => uptoBulkAll elems + uptoBulkAll spare + 1
  | .agg parts => uptoBulkAll parts + 1
  | .iface _ d => uptoBulk d + 1
  | .map entries => uptoBulkEntries entries + 1
  | .held _ => 1
def uptoBulkAll {H : Type} : List (DataW H) → Nat
  | [] => 0
  | d :: r => uptoBulk d + uptoBulkAll r
def uptoBulkEntries {H : Type} : List (Lit × DataW H) → Nat
  | [] => 0
  | x :: r => uptoBulkEntry x + uptoBulkEntries r
def uptoBulkEntry {H : Type} : Lit × DataW H → Nat
  | (.string bytes, d) => bytes.length + uptoBulk d + 1
  | (_, d) => uptoBulk d + 1
 end
def uptoSmall : (H : Type) → List (DataW H) → Bool := fun _ ds => decide (uptoBulkAll ds ≤ 1048576)
def OpenSpec.upto (s : _root_.Go.ChangeSpec) : _root_.Go.OpenSpec := { _root_.Go.OpenSpec.ofChange s with cond := some uptoSmall }

/-- 'putlogtop.TopRunsClose', WHERE WHAT IT READS IS OF BULK AT MOST 1048576: true; the input reads as it did. -/
def topRunsCloseUptoRow : OpenClaim := { program := "ytoinjphpfpklmaagreatdoor", sum := "f803dfebce66a31598fcfe712842f425f66aa6d5b5596765565c97e9943841c7", func := "putlog/putlogtop.TopRunsClose", spec := "topRunsClose", unfollowed := true, recurses := true, named := ["putlog/building.steps"], apart := false, laid := [("putlog/building.steps", laid_putlog_building_steps)], narrowed := true }
def TopRunsCloseUptoSaid : Prop := topRunsCloseUptoRow.holds Tryz.pinned (OpenSpec.upto topRunsCloseSpec)

/-- 'putlogtop.TopFewestOddParts', WHERE WHAT IT READS IS OF BULK AT MOST 1048576: true; the input reads as it did. -/
def topFewestOddPartsUptoRow : OpenClaim := { program := "ytoinjphpfpklmaagreatdoor", sum := "f803dfebce66a31598fcfe712842f425f66aa6d5b5596765565c97e9943841c7", func := "putlog/putlogtop.TopFewestOddParts", spec := "topFewestOddParts", unfollowed := true, recurses := true, named := ["putlog/building.steps"], apart := false, laid := [("putlog/building.steps", laid_putlog_building_steps)], narrowed := true }
def TopFewestOddPartsUptoSaid : Prop := topFewestOddPartsUptoRow.holds Tryz.pinned (OpenSpec.upto topFewestOddPartsSpec)

/-- 'putloglaw03.LayoutTurned', WHERE WHAT IT READS IS OF BULK AT MOST 1048576: true; the input reads as it did. -/
def layoutTurnedUptoRow : OpenClaim := { program := "ytoinjphpfpklmaagreatdoor", sum := "f803dfebce66a31598fcfe712842f425f66aa6d5b5596765565c97e9943841c7", func := "putlog/putloglaw03.LayoutTurned", spec := "layoutTurned", unfollowed := true, recurses := true, named := ["putlog/building.steps"], apart := false, laid := [("putlog/building.steps", laid_putlog_building_steps)], narrowed := true }
def LayoutTurnedUptoSaid : Prop := layoutTurnedUptoRow.holds Tryz.pinned (OpenSpec.upto layoutTurnedSpec)

end Rows
end Go.Proofs.YtoinjphpfpklmaaGreatDoor
