/-
  No cell of these rows narrows 'for every input' (looked for: loops, veiled, ifaces, maps, wideKeys, modest, calm, conditions, laid).
  DERIVED. THE GIVEN ROWS OF THIS SEAT. 8 by the template 'for every input the law returns true; each argument reads behind the call as it read before'; 0 by the template 'total and deterministic' (their statements: YtcncodgbneppfaaTotals.lean).
  GIVEN WITH THE SEED: the statements are not yours to turn. If you find one false, say at which input.
  Laid BY PROGRAM, IN A SANDBOX (cutbox-rows.mjs): the forced cells as the released guide's own fill.sh prints them over the translation da5a6750f07334aa… (all of the seat's roots in one cut). By AI agents, Wed Nov 11 2026. No macro, syntax, notation, axiom, sorry.
-/
import Derived.Test.YtcncodgbneppfaaChecked
import GoSem.Claim
import GoSem.ClaimJoined
import GoSem.ClaimMapViews
import Derived.JoinedTies
import Derived.KernelRfl
namespace Go.Proofs.Ytcncodgbneppfaa
/- THE CELL 'sum', in the pinned program and in every row, IS THE sha256 OF THE DUMP (.gsa) THAT YtcncodgbneppfaaProg.lean LOADS. Nothing in Lean hashes anything: it is a label: what it is worth is what the hold of that sum in a sandbox is worth. -/
noncomputable def Try.pinned : Pinned := { name := "ytcncodgbneppfaa", sum := "da5a6750f07334aa06563aa82f42120890e0e7450f95e8eeb17f17492097bc42", checked := Try.checked }
namespace Rows
def none {H : Type} : Left H := { results := [], args := [] }

/-- 'putloglaw03.LayoutWays': WHATEVER THE INPUT: true; the input reads as it did. -/
def layoutWaysSpec : ChangeSpec := { name := "layoutWays", fn := fun _ => fun
  | [d1, d2] => { results := [.lit (.bool true)], args := [d1, d2] }
  | _ => none }
def layoutWaysRow : OpenClaim := { program := "ytcncodgbneppfaa", sum := "da5a6750f07334aa06563aa82f42120890e0e7450f95e8eeb17f17492097bc42", func := "putlog/putloglaw03.LayoutWays", spec := "layoutWays", unfollowed := true, recurses := true, plainKeys := false, apart := false }
def LayoutWaysSaid : Prop := layoutWaysRow.holds Try.pinned (OpenSpec.ofChange layoutWaysSpec)

/-- ITS FALSE NEIGHBOUR: 'it returns false'. Refute it at one input. -/
def layoutWaysWrong : ChangeSpec := { name := "layoutWays", fn := fun _ => fun
  | [d1, d2] => { results := [.lit (.bool false)], args := [d1, d2] }
  | _ => none }
def LayoutWaysWrongFalsely : Prop := layoutWaysRow.holds Try.pinned (OpenSpec.ofChange layoutWaysWrong)

/-- 'putloglaw03.LayoutTables': WHATEVER THE INPUT: true; the input reads as it did. -/
def layoutTablesSpec : ChangeSpec := { name := "layoutTables", fn := fun _ => fun
  | [d1, d2] => { results := [.lit (.bool true)], args := [d1, d2] }
  | _ => none }
def layoutTablesRow : OpenClaim := { program := "ytcncodgbneppfaa", sum := "da5a6750f07334aa06563aa82f42120890e0e7450f95e8eeb17f17492097bc42", func := "putlog/putloglaw03.LayoutTables", spec := "layoutTables", unfollowed := true, recurses := true, plainKeys := false, apart := false }
def LayoutTablesSaid : Prop := layoutTablesRow.holds Try.pinned (OpenSpec.ofChange layoutTablesSpec)

/-- ITS FALSE NEIGHBOUR: 'it returns false'. Refute it at one input. -/
def layoutTablesWrong : ChangeSpec := { name := "layoutTables", fn := fun _ => fun
  | [d1, d2] => { results := [.lit (.bool false)], args := [d1, d2] }
  | _ => none }
def LayoutTablesWrongFalsely : Prop := layoutTablesRow.holds Try.pinned (OpenSpec.ofChange layoutTablesWrong)

/-- 'putloglaw04.PartsReaches': WHATEVER THE INPUT: true; the input reads as it did. -/
def partsReachesSpec : ChangeSpec := { name := "partsReaches", fn := fun _ => fun
  | [d1, d2] => { results := [.lit (.bool true)], args := [d1, d2] }
  | _ => none }
def partsReachesRow : OpenClaim := { program := "ytcncodgbneppfaa", sum := "da5a6750f07334aa06563aa82f42120890e0e7450f95e8eeb17f17492097bc42", func := "putlog/putloglaw04.PartsReaches", spec := "partsReaches", unfollowed := true, recurses := true, plainKeys := false, apart := false }
def PartsReachesSaid : Prop := partsReachesRow.holds Try.pinned (OpenSpec.ofChange partsReachesSpec)

/-- ITS FALSE NEIGHBOUR: 'it returns false'. Refute it at one input. -/
def partsReachesWrong : ChangeSpec := { name := "partsReaches", fn := fun _ => fun
  | [d1, d2] => { results := [.lit (.bool false)], args := [d1, d2] }
  | _ => none }
def PartsReachesWrongFalsely : Prop := partsReachesRow.holds Try.pinned (OpenSpec.ofChange partsReachesWrong)

/-- 'putloglaw03.LayoutClosings': WHATEVER THE INPUT: true; the input reads as it did. -/
def layoutClosingsSpec : ChangeSpec := { name := "layoutClosings", fn := fun _ => fun
  | [d1, d2, d3] => { results := [.lit (.bool true)], args := [d1, d2, d3] }
  | _ => none }
def layoutClosingsRow : OpenClaim := { program := "ytcncodgbneppfaa", sum := "da5a6750f07334aa06563aa82f42120890e0e7450f95e8eeb17f17492097bc42", func := "putlog/putloglaw03.LayoutClosings", spec := "layoutClosings", unfollowed := true, recurses := true, plainKeys := false, apart := false }
def LayoutClosingsSaid : Prop := layoutClosingsRow.holds Try.pinned (OpenSpec.ofChange layoutClosingsSpec)

/-- ITS FALSE NEIGHBOUR: 'it returns false'. Refute it at one input. -/
def layoutClosingsWrong : ChangeSpec := { name := "layoutClosings", fn := fun _ => fun
  | [d1, d2, d3] => { results := [.lit (.bool false)], args := [d1, d2, d3] }
  | _ => none }
def LayoutClosingsWrongFalsely : Prop := layoutClosingsRow.holds Try.pinned (OpenSpec.ofChange layoutClosingsWrong)

/-- 'putloglaw04.PartsMonotone': WHATEVER THE INPUT: true; the input reads as it did. -/
def partsMonotoneSpec : ChangeSpec := { name := "partsMonotone", fn := fun _ => fun
  | [d1, d2, d3] => { results := [.lit (.bool true)], args := [d1, d2, d3] }
  | _ => none }
def partsMonotoneRow : OpenClaim := { program := "ytcncodgbneppfaa", sum := "da5a6750f07334aa06563aa82f42120890e0e7450f95e8eeb17f17492097bc42", func := "putlog/putloglaw04.PartsMonotone", spec := "partsMonotone", unfollowed := true, recurses := true, plainKeys := false, apart := false }
def PartsMonotoneSaid : Prop := partsMonotoneRow.holds Try.pinned (OpenSpec.ofChange partsMonotoneSpec)

/-- ITS FALSE NEIGHBOUR: 'it returns false'. Refute it at one input. -/
def partsMonotoneWrong : ChangeSpec := { name := "partsMonotone", fn := fun _ => fun
  | [d1, d2, d3] => { results := [.lit (.bool false)], args := [d1, d2, d3] }
  | _ => none }
def PartsMonotoneWrongFalsely : Prop := partsMonotoneRow.holds Try.pinned (OpenSpec.ofChange partsMonotoneWrong)

/-- 'putloglaw04.PartsChecks': WHATEVER THE INPUT: true; the input reads as it did. -/
def partsChecksSpec : ChangeSpec := { name := "partsChecks", fn := fun _ => fun
  | [d1, d2] => { results := [.lit (.bool true)], args := [d1, d2] }
  | _ => none }
def partsChecksRow : OpenClaim := { program := "ytcncodgbneppfaa", sum := "da5a6750f07334aa06563aa82f42120890e0e7450f95e8eeb17f17492097bc42", func := "putlog/putloglaw04.PartsChecks", spec := "partsChecks", unfollowed := true, recurses := true, plainKeys := false, apart := false }
def PartsChecksSaid : Prop := partsChecksRow.holds Try.pinned (OpenSpec.ofChange partsChecksSpec)

/-- ITS FALSE NEIGHBOUR: 'it returns false'. Refute it at one input. -/
def partsChecksWrong : ChangeSpec := { name := "partsChecks", fn := fun _ => fun
  | [d1, d2] => { results := [.lit (.bool false)], args := [d1, d2] }
  | _ => none }
def PartsChecksWrongFalsely : Prop := partsChecksRow.holds Try.pinned (OpenSpec.ofChange partsChecksWrong)

/-- 'putloglaw04.PartsFrees': WHATEVER THE INPUT: true; the input reads as it did. -/
def partsFreesSpec : ChangeSpec := { name := "partsFrees", fn := fun _ => fun
  | [d1, d2] => { results := [.lit (.bool true)], args := [d1, d2] }
  | _ => none }
def partsFreesRow : OpenClaim := { program := "ytcncodgbneppfaa", sum := "da5a6750f07334aa06563aa82f42120890e0e7450f95e8eeb17f17492097bc42", func := "putlog/putloglaw04.PartsFrees", spec := "partsFrees", unfollowed := true, recurses := true, plainKeys := false, apart := false }
def PartsFreesSaid : Prop := partsFreesRow.holds Try.pinned (OpenSpec.ofChange partsFreesSpec)

/-- ITS FALSE NEIGHBOUR: 'it returns false'. Refute it at one input. -/
def partsFreesWrong : ChangeSpec := { name := "partsFrees", fn := fun _ => fun
  | [d1, d2] => { results := [.lit (.bool false)], args := [d1, d2] }
  | _ => none }
def PartsFreesWrongFalsely : Prop := partsFreesRow.holds Try.pinned (OpenSpec.ofChange partsFreesWrong)

/-- 'putloglaw04.PartsNumbers': WHATEVER THE INPUT: true; the input reads as it did. -/
def partsNumbersSpec : ChangeSpec := { name := "partsNumbers", fn := fun _ => fun
  | [d1, d2] => { results := [.lit (.bool true)], args := [d1, d2] }
  | _ => none }
def partsNumbersRow : OpenClaim := { program := "ytcncodgbneppfaa", sum := "da5a6750f07334aa06563aa82f42120890e0e7450f95e8eeb17f17492097bc42", func := "putlog/putloglaw04.PartsNumbers", spec := "partsNumbers", unfollowed := true, recurses := true, plainKeys := false, apart := false }
def PartsNumbersSaid : Prop := partsNumbersRow.holds Try.pinned (OpenSpec.ofChange partsNumbersSpec)

/-- ITS FALSE NEIGHBOUR: 'it returns false'. Refute it at one input. -/
def partsNumbersWrong : ChangeSpec := { name := "partsNumbers", fn := fun _ => fun
  | [d1, d2] => { results := [.lit (.bool false)], args := [d1, d2] }
  | _ => none }
def PartsNumbersWrongFalsely : Prop := partsNumbersRow.holds Try.pinned (OpenSpec.ofChange partsNumbersWrong)

/- THE SECOND FORM. 'bulk': how many values and letters a reading holds, each counted each time it is reached (what is shared counts as often as it is met; a slice's spare places count too). A statement '..UptoSaid' is the law's where the arguments, and the package variables that the reading takes, are together of bulk at most 1048576: NARROWER than '..Said'. Prove '..Said' where nothing that the law and all that it calls make is longer than what came in: it says more and counts as full. Else prove '..UptoSaid'. A law counts once. -/
mutual
def uptoBulk {H : Type} : DataW H → Nat
  | .lit (.string bytes) => bytes.length + 1
  | .lit _ => 1
  | .nil => 1
  | .ptr d => uptoBulk d + 1
  | .slice elems spare => uptoBulkAll elems + uptoBulkAll spare + 1
  | .agg parts => uptoBulkAll parts + 1
  | .iface _ d => uptoBulk d + 1
  | .map entries => uptoBulkEntries entries + 1
  | .held _ => 1
def uptoBulkAll {H : Type} : List (DataW H) → Nat
  | [] => 0
  | d :: r => uptoBulk d + uptoBulkAll r
def uptoBulkEntries {H : Type} : List (Lit × DataW H) → Nat
  | [] => 0
  | x :: r => uptoBulkEntry x + uptoBulkEntries r
def uptoBulkEntry {H : Type} : Lit × DataW H → Nat
  | (.string bytes, d) => bytes.length + uptoBulk d + 1
  | (_, d) => uptoBulk d + 1
 end
def uptoSmall : (H : Type) → List (DataW H) → Bool := fun _ ds => decide (uptoBulkAll ds ≤ 1048576)
def OpenSpec.upto (s : _root_.Go.ChangeSpec) : _root_.Go.OpenSpec := { _root_.Go.OpenSpec.ofChange s with cond := some uptoSmall }

/-- 'putloglaw03.LayoutWays', WHERE WHAT IT READS IS OF BULK AT MOST 1048576: true; the input reads as it did. -/
def layoutWaysUptoRow : OpenClaim := { program := "ytcncodgbneppfaa", sum := "da5a6750f07334aa06563aa82f42120890e0e7450f95e8eeb17f17492097bc42", func := "putlog/putloglaw03.LayoutWays", spec := "layoutWays", unfollowed := true, recurses := true, plainKeys := false, apart := false, narrowed := true }
def LayoutWaysUptoSaid : Prop := layoutWaysUptoRow.holds Try.pinned (OpenSpec.upto layoutWaysSpec)

/-- 'putloglaw03.LayoutTables', WHERE WHAT IT READS IS OF BULK AT MOST 1048576: true; the input reads as it did. -/
def layoutTablesUptoRow : OpenClaim := { program := "ytcncodgbneppfaa", sum := "da5a6750f07334aa06563aa82f42120890e0e7450f95e8eeb17f17492097bc42", func := "putlog/putloglaw03.LayoutTables", spec := "layoutTables", unfollowed := true, recurses := true, plainKeys := false, apart := false, narrowed := true }
def LayoutTablesUptoSaid : Prop := layoutTablesUptoRow.holds Try.pinned (OpenSpec.upto layoutTablesSpec)

/-- 'putloglaw04.PartsReaches', WHERE WHAT IT READS IS OF BULK AT MOST 1048576: true; the input reads as it did. -/
def partsReachesUptoRow : OpenClaim := { program := "ytcncodgbneppfaa", sum := "da5a6750f07334aa06563aa82f42120890e0e7450f95e8eeb17f17492097bc42", func := "putlog/putloglaw04.PartsReaches", spec := "partsReaches", unfollowed := true, recurses := true, plainKeys := false, apart := false, narrowed := true }
def PartsReachesUptoSaid : Prop := partsReachesUptoRow.holds Try.pinned (OpenSpec.upto partsReachesSpec)

/-- 'putloglaw03.LayoutClosings', WHERE WHAT IT READS IS OF BULK AT MOST 1048576: true; the input reads as it did. -/
def layoutClosingsUptoRow : OpenClaim := { program := "ytcncodgbneppfaa", sum := "da5a6750f07334aa06563aa82f42120890e0e7450f95e8eeb17f17492097bc42", func := "putlog/putloglaw03.LayoutClosings", spec := "layoutClosings", unfollowed := true, recurses := true, plainKeys := false, apart := false, narrowed := true }
def LayoutClosingsUptoSaid : Prop := layoutClosingsUptoRow.holds Try.pinned (OpenSpec.upto layoutClosingsSpec)

/-- 'putloglaw04.PartsMonotone', WHERE WHAT IT READS IS OF BULK AT MOST 1048576: true; the input reads as it did. -/
def partsMonotoneUptoRow : OpenClaim := { program := "ytcncodgbneppfaa", sum := "da5a6750f07334aa06563aa82f42120890e0e7450f95e8eeb17f17492097bc42", func := "putlog/putloglaw04.PartsMonotone", spec := "partsMonotone", unfollowed := true, recurses := true, plainKeys := false, apart := false, narrowed := true }
def PartsMonotoneUptoSaid : Prop := partsMonotoneUptoRow.holds Try.pinned (OpenSpec.upto partsMonotoneSpec)

/-- 'putloglaw04.PartsChecks', WHERE WHAT IT READS IS OF BULK AT MOST 1048576: true; the input reads as it did. -/
def partsChecksUptoRow : OpenClaim := { program := "ytcncodgbneppfaa", sum := "da5a6750f07334aa06563aa82f42120890e0e7450f95e8eeb17f17492097bc42", func := "putlog/putloglaw04.PartsChecks", spec := "partsChecks", unfollowed := true, recurses := true, plainKeys := false, apart := false, narrowed := true }
def PartsChecksUptoSaid : Prop := partsChecksUptoRow.holds Try.pinned (OpenSpec.upto partsChecksSpec)

/-- 'putloglaw04.PartsFrees', WHERE WHAT IT READS IS OF BULK AT MOST 1048576: true; the input reads as it did. -/
def partsFreesUptoRow : OpenClaim := { program := "ytcncodgbneppfaa", sum := "da5a6750f07334aa06563aa82f42120890e0e7450f95e8eeb17f17492097bc42", func := "putlog/putloglaw04.PartsFrees", spec := "partsFrees", unfollowed := true, recurses := true, plainKeys := false, apart := false, narrowed := true }
def PartsFreesUptoSaid : Prop := partsFreesUptoRow.holds Try.pinned (OpenSpec.upto partsFreesSpec)

/-- 'putloglaw04.PartsNumbers', WHERE WHAT IT READS IS OF BULK AT MOST 1048576: true; the input reads as it did. -/
def partsNumbersUptoRow : OpenClaim := { program := "ytcncodgbneppfaa", sum := "da5a6750f07334aa06563aa82f42120890e0e7450f95e8eeb17f17492097bc42", func := "putlog/putloglaw04.PartsNumbers", spec := "partsNumbers", unfollowed := true, recurses := true, plainKeys := false, apart := false, narrowed := true }
def PartsNumbersUptoSaid : Prop := partsNumbersUptoRow.holds Try.pinned (OpenSpec.upto partsNumbersSpec)

end Rows
end Go.Proofs.Ytcncodgbneppfaa
