/-
  No cell of these rows narrows 'for every input' (looked for: loops, veiled, ifaces, maps, wideKeys, modest, calm, conditions, laid).
  DERIVED. THE GIVEN ROWS OF THIS SEAT. 12 by the template 'for every input the law returns true; each argument reads behind the call as it read before'; 0 by the template 'total and deterministic' (their statements: YtbemjdppfiabgaaTotals.lean).
  GIVEN WITH THE SEED: the statements are not yours to turn. If you find one false, say at which input.
  Laid BY PROGRAM, IN A SANDBOX (cutbox-rows.mjs): the forced cells as the released guide's own fill.sh prints them over the translation 45f66704f2165fba… (all of the seat's roots in one cut). By AI agents, Wed Nov 11 2026. No macro, syntax, notation, axiom, sorry.
-/
import Derived.Test.YtbemjdppfiabgaaChecked
import GoSem.Claim
import GoSem.ClaimJoined
import GoSem.ClaimMapViews
import Derived.JoinedTies
import Derived.KernelRfl
namespace Go.Proofs.Ytbemjdppfiabgaa
/- THE CELL 'sum', in the pinned program and in every row, IS THE sha256 OF THE DUMP (.gsa) THAT YtbemjdppfiabgaaProg.lean LOADS. Nothing in Lean hashes anything: it is a label: what it is worth is what the hold of that sum in a sandbox is worth. -/
noncomputable def Try.pinned : Pinned := { name := "ytbemjdppfiabgaa", sum := "45f66704f2165fba3183d254eb348b3bba9c326de791bd0ba7af3c0bb4b41e8c", checked := Try.checked }
namespace Rows
def none {H : Type} : Left H := { results := [], args := [] }

/-- 'putloglaw04.PartsReaches': WHATEVER THE INPUT: true; the input reads as it did. -/
def partsReachesSpec : ChangeSpec := { name := "partsReaches", fn := fun _ => fun
  | [d1, d2] => { results := [.lit (.bool true)], args := [d1, d2] }
  | _ => none }
def partsReachesRow : OpenClaim := { program := "ytbemjdppfiabgaa", sum := "45f66704f2165fba3183d254eb348b3bba9c326de791bd0ba7af3c0bb4b41e8c", func := "putlog/putloglaw04.PartsReaches", spec := "partsReaches", unfollowed := true, recurses := true, plainKeys := false, apart := false }
def PartsReachesSaid : Prop := partsReachesRow.holds Try.pinned (OpenSpec.ofChange partsReachesSpec)

/-- ITS FALSE NEIGHBOUR: 'it returns false'. Refute it at one input. -/
def partsReachesWrong : ChangeSpec := { name := "partsReaches", fn := fun _ => fun
  | [d1, d2] => { results := [.lit (.bool false)], args := [d1, d2] }
  | _ => none }
def PartsReachesWrongFalsely : Prop := partsReachesRow.holds Try.pinned (OpenSpec.ofChange partsReachesWrong)

/-- 'putloglaw04.PartsMonotone': WHATEVER THE INPUT: true; the input reads as it did. -/
def partsMonotoneSpec : ChangeSpec := { name := "partsMonotone", fn := fun _ => fun
  | [d1, d2, d3] => { results := [.lit (.bool true)], args := [d1, d2, d3] }
  | _ => none }
def partsMonotoneRow : OpenClaim := { program := "ytbemjdppfiabgaa", sum := "45f66704f2165fba3183d254eb348b3bba9c326de791bd0ba7af3c0bb4b41e8c", func := "putlog/putloglaw04.PartsMonotone", spec := "partsMonotone", unfollowed := true, recurses := true, plainKeys := false, apart := false }
def PartsMonotoneSaid : Prop := partsMonotoneRow.holds Try.pinned (OpenSpec.ofChange partsMonotoneSpec)

/-- ITS FALSE NEIGHBOUR: 'it returns false'. Refute it at one input. -/
def partsMonotoneWrong : ChangeSpec := { name := "partsMonotone", fn := fun _ => fun
  | [d1, d2, d3] => { results := [.lit (.bool false)], args := [d1, d2, d3] }
  | _ => none }
def PartsMonotoneWrongFalsely : Prop := partsMonotoneRow.holds Try.pinned (OpenSpec.ofChange partsMonotoneWrong)

/-- 'putloglaw04.PartsChecks': WHATEVER THE INPUT: true; the input reads as it did. -/
def partsChecksSpec : ChangeSpec := { name := "partsChecks", fn := fun _ => fun
  | [d1, d2] => { results := [.lit (.bool true)], args := [d1, d2] }
  | _ => none }
def partsChecksRow : OpenClaim := { program := "ytbemjdppfiabgaa", sum := "45f66704f2165fba3183d254eb348b3bba9c326de791bd0ba7af3c0bb4b41e8c", func := "putlog/putloglaw04.PartsChecks", spec := "partsChecks", unfollowed := true, recurses := true, plainKeys := false, apart := false }
def PartsChecksSaid : Prop := partsChecksRow.holds Try.pinned (OpenSpec.ofChange partsChecksSpec)

/-- ITS FALSE NEIGHBOUR: 'it returns false'. Refute it at one input. -/
def partsChecksWrong : ChangeSpec := { name := "partsChecks", fn := fun _ => fun
  | [d1, d2] => { results := [.lit (.bool false)], args := [d1, d2] }
  | _ => none }
def PartsChecksWrongFalsely : Prop := partsChecksRow.holds Try.pinned (OpenSpec.ofChange partsChecksWrong)

/-- 'putloglaw04.PartsFrees': WHATEVER THE INPUT: true; the input reads as it did. -/
def partsFreesSpec : ChangeSpec := { name := "partsFrees", fn := fun _ => fun
  | [d1, d2] => { results := [.lit (.bool true)], args := [d1, d2] }
  | _ => none }
def partsFreesRow : OpenClaim := { program := "ytbemjdppfiabgaa", sum := "45f66704f2165fba3183d254eb348b3bba9c326de791bd0ba7af3c0bb4b41e8c", func := "putlog/putloglaw04.PartsFrees", spec := "partsFrees", unfollowed := true, recurses := true, plainKeys := false, apart := false }
def PartsFreesSaid : Prop := partsFreesRow.holds Try.pinned (OpenSpec.ofChange partsFreesSpec)

/-- ITS FALSE NEIGHBOUR: 'it returns false'. Refute it at one input. -/
def partsFreesWrong : ChangeSpec := { name := "partsFrees", fn := fun _ => fun
  | [d1, d2] => { results := [.lit (.bool false)], args := [d1, d2] }
  | _ => none }
def PartsFreesWrongFalsely : Prop := partsFreesRow.holds Try.pinned (OpenSpec.ofChange partsFreesWrong)

/-- 'putloglaw04.PartsNumbers': WHATEVER THE INPUT: true; the input reads as it did. -/
def partsNumbersSpec : ChangeSpec := { name := "partsNumbers", fn := fun _ => fun
  | [d1, d2] => { results := [.lit (.bool true)], args := [d1, d2] }
  | _ => none }
def partsNumbersRow : OpenClaim := { program := "ytbemjdppfiabgaa", sum := "45f66704f2165fba3183d254eb348b3bba9c326de791bd0ba7af3c0bb4b41e8c", func := "putlog/putloglaw04.PartsNumbers", spec := "partsNumbers", unfollowed := true, recurses := true, plainKeys := false, apart := false }
def PartsNumbersSaid : Prop := partsNumbersRow.holds Try.pinned (OpenSpec.ofChange partsNumbersSpec)

/-- ITS FALSE NEIGHBOUR: 'it returns false'. Refute it at one input. -/
def partsNumbersWrong : ChangeSpec := { name := "partsNumbers", fn := fun _ => fun
  | [d1, d2] => { results := [.lit (.bool false)], args := [d1, d2] }
  | _ => none }
def PartsNumbersWrongFalsely : Prop := partsNumbersRow.holds Try.pinned (OpenSpec.ofChange partsNumbersWrong)

/-- 'putloglaw04.PartsCatalogues': WHATEVER THE INPUT: true; the input reads as it did. -/
def partsCataloguesSpec : ChangeSpec := { name := "partsCatalogues", fn := fun _ => fun
  | [d1, d2] => { results := [.lit (.bool true)], args := [d1, d2] }
  | _ => none }
def partsCataloguesRow : OpenClaim := { program := "ytbemjdppfiabgaa", sum := "45f66704f2165fba3183d254eb348b3bba9c326de791bd0ba7af3c0bb4b41e8c", func := "putlog/putloglaw04.PartsCatalogues", spec := "partsCatalogues", unfollowed := true, recurses := true, plainKeys := false, apart := false }
def PartsCataloguesSaid : Prop := partsCataloguesRow.holds Try.pinned (OpenSpec.ofChange partsCataloguesSpec)

/-- ITS FALSE NEIGHBOUR: 'it returns false'. Refute it at one input. -/
def partsCataloguesWrong : ChangeSpec := { name := "partsCatalogues", fn := fun _ => fun
  | [d1, d2] => { results := [.lit (.bool false)], args := [d1, d2] }
  | _ => none }
def PartsCataloguesWrongFalsely : Prop := partsCataloguesRow.holds Try.pinned (OpenSpec.ofChange partsCataloguesWrong)

/-- 'putloglaw04.PartsBills': WHATEVER THE INPUT: true; the input reads as it did. -/
def partsBillsSpec : ChangeSpec := { name := "partsBills", fn := fun _ => fun
  | [d1, d2, d3] => { results := [.lit (.bool true)], args := [d1, d2, d3] }
  | _ => none }
def partsBillsRow : OpenClaim := { program := "ytbemjdppfiabgaa", sum := "45f66704f2165fba3183d254eb348b3bba9c326de791bd0ba7af3c0bb4b41e8c", func := "putlog/putloglaw04.PartsBills", spec := "partsBills", unfollowed := true, recurses := true, plainKeys := false, apart := false }
def PartsBillsSaid : Prop := partsBillsRow.holds Try.pinned (OpenSpec.ofChange partsBillsSpec)

/-- ITS FALSE NEIGHBOUR: 'it returns false'. Refute it at one input. -/
def partsBillsWrong : ChangeSpec := { name := "partsBills", fn := fun _ => fun
  | [d1, d2, d3] => { results := [.lit (.bool false)], args := [d1, d2, d3] }
  | _ => none }
def PartsBillsWrongFalsely : Prop := partsBillsRow.holds Try.pinned (OpenSpec.ofChange partsBillsWrong)

/-- 'putloglaw04.PartsFits': WHATEVER THE INPUT: true; the input reads as it did. -/
def partsFitsSpec : ChangeSpec := { name := "partsFits", fn := fun _ => fun
  | [d1, d2, d3] => { results := [.lit (.bool true)], args := [d1, d2, d3] }
  | _ => none }
def partsFitsRow : OpenClaim := { program := "ytbemjdppfiabgaa", sum := "45f66704f2165fba3183d254eb348b3bba9c326de791bd0ba7af3c0bb4b41e8c", func := "putlog/putloglaw04.PartsFits", spec := "partsFits", unfollowed := true, recurses := true, plainKeys := false, apart := false }
def PartsFitsSaid : Prop := partsFitsRow.holds Try.pinned (OpenSpec.ofChange partsFitsSpec)

/-- ITS FALSE NEIGHBOUR: 'it returns false'. Refute it at one input. -/
def partsFitsWrong : ChangeSpec := { name := "partsFits", fn := fun _ => fun
  | [d1, d2, d3] => { results := [.lit (.bool false)], args := [d1, d2, d3] }
  | _ => none }
def PartsFitsWrongFalsely : Prop := partsFitsRow.holds Try.pinned (OpenSpec.ofChange partsFitsWrong)

/-- 'putloglaw04.PartsAssigns': WHATEVER THE INPUT: true; the input reads as it did. -/
def partsAssignsSpec : ChangeSpec := { name := "partsAssigns", fn := fun _ => fun
  | [d1, d2, d3] => { results := [.lit (.bool true)], args := [d1, d2, d3] }
  | _ => none }
def partsAssignsRow : OpenClaim := { program := "ytbemjdppfiabgaa", sum := "45f66704f2165fba3183d254eb348b3bba9c326de791bd0ba7af3c0bb4b41e8c", func := "putlog/putloglaw04.PartsAssigns", spec := "partsAssigns", unfollowed := true, recurses := true, plainKeys := false, apart := false }
def PartsAssignsSaid : Prop := partsAssignsRow.holds Try.pinned (OpenSpec.ofChange partsAssignsSpec)

/-- ITS FALSE NEIGHBOUR: 'it returns false'. Refute it at one input. -/
def partsAssignsWrong : ChangeSpec := { name := "partsAssigns", fn := fun _ => fun
  | [d1, d2, d3] => { results := [.lit (.bool false)], args := [d1, d2, d3] }
  | _ => none }
def PartsAssignsWrongFalsely : Prop := partsAssignsRow.holds Try.pinned (OpenSpec.ofChange partsAssignsWrong)

/-- 'putloglaw04.PartsNormals': WHATEVER THE INPUT: true; the input reads as it did. -/
def partsNormalsSpec : ChangeSpec := { name := "partsNormals", fn := fun _ => fun
  | [d] => { results := [.lit (.bool true)], args := [d] }
  | _ => none }
def partsNormalsRow : OpenClaim := { program := "ytbemjdppfiabgaa", sum := "45f66704f2165fba3183d254eb348b3bba9c326de791bd0ba7af3c0bb4b41e8c", func := "putlog/putloglaw04.PartsNormals", spec := "partsNormals", unfollowed := true, recurses := true, plainKeys := false, apart := false }
def PartsNormalsSaid : Prop := partsNormalsRow.holds Try.pinned (OpenSpec.ofChange partsNormalsSpec)

/-- ITS FALSE NEIGHBOUR: 'it returns false'. Refute it at one input. -/
def partsNormalsWrong : ChangeSpec := { name := "partsNormals", fn := fun _ => fun
  | [d] => { results := [.lit (.bool false)], args := [d] }
  | _ => none }
def PartsNormalsWrongFalsely : Prop := partsNormalsRow.holds Try.pinned (OpenSpec.ofChange partsNormalsWrong)

/-- 'putloglaw04.PartsApplies': WHATEVER THE INPUT: true; the input reads as it did. -/
def partsAppliesSpec : ChangeSpec := { name := "partsApplies", fn := fun _ => fun
  | [d1, d2] => { results := [.lit (.bool true)], args := [d1, d2] }
  | _ => none }
def partsAppliesRow : OpenClaim := { program := "ytbemjdppfiabgaa", sum := "45f66704f2165fba3183d254eb348b3bba9c326de791bd0ba7af3c0bb4b41e8c", func := "putlog/putloglaw04.PartsApplies", spec := "partsApplies", unfollowed := true, recurses := true, plainKeys := false, apart := false }
def PartsAppliesSaid : Prop := partsAppliesRow.holds Try.pinned (OpenSpec.ofChange partsAppliesSpec)

/-- ITS FALSE NEIGHBOUR: 'it returns false'. Refute it at one input. -/
def partsAppliesWrong : ChangeSpec := { name := "partsApplies", fn := fun _ => fun
  | [d1, d2] => { results := [.lit (.bool false)], args := [d1, d2] }
  | _ => none }
def PartsAppliesWrongFalsely : Prop := partsAppliesRow.holds Try.pinned (OpenSpec.ofChange partsAppliesWrong)

/-- 'putloglaw04.PartsDiffs': WHATEVER THE INPUT: true; the input reads as it did. -/
def partsDiffsSpec : ChangeSpec := { name := "partsDiffs", fn := fun _ => fun
  | [d1, d2] => { results := [.lit (.bool true)], args := [d1, d2] }
  | _ => none }
def partsDiffsRow : OpenClaim := { program := "ytbemjdppfiabgaa", sum := "45f66704f2165fba3183d254eb348b3bba9c326de791bd0ba7af3c0bb4b41e8c", func := "putlog/putloglaw04.PartsDiffs", spec := "partsDiffs", unfollowed := true, recurses := true, plainKeys := false, apart := false }
def PartsDiffsSaid : Prop := partsDiffsRow.holds Try.pinned (OpenSpec.ofChange partsDiffsSpec)

/-- ITS FALSE NEIGHBOUR: 'it returns false'. Refute it at one input. -/
def partsDiffsWrong : ChangeSpec := { name := "partsDiffs", fn := fun _ => fun
  | [d1, d2] => { results := [.lit (.bool false)], args := [d1, d2] }
  | _ => none }
def PartsDiffsWrongFalsely : Prop := partsDiffsRow.holds Try.pinned (OpenSpec.ofChange partsDiffsWrong)

/- THE SECOND FORM. 'bulk': how many values and letters a reading holds, each counted each time it is reached (what is shared counts as often as it is met; a slice's spare places count too). A statement '..UptoSaid' is the law's where the arguments, and the package variables that the reading takes, are together of bulk at most 1048576: NARROWER than '..Said'. Prove '..Said' where nothing that the law and all that it calls make is longer than what came in: it says more and counts as full. Else prove '..UptoSaid'. A law counts once. -/
mutual
def uptoBulk {H : Type} : DataW H → Nat
  | .lit (.string bytes) => bytes.length + 1
  | .lit _ => 1
  | .nil => 1
  | .ptr d => uptoBulk d + 1
  | .slice elems spare => uptoBulkAll elems + uptoBulkAll spare + 1
  | .agg parts => uptoBulkAll parts + 1
  | .iface _ d => uptoBulk d + 1
  | .map entries => uptoBulkEntries entries + 1
  | .held _ => 1
def uptoBulkAll {H : Type} : List (DataW H) → Nat
  | [] => 0
  | d :: r => uptoBulk d + uptoBulkAll r
def uptoBulkEntries {H : Type} : List (Lit × DataW H) → Nat
  | [] => 0
  | x :: r => uptoBulkEntry x + uptoBulkEntries r
def uptoBulkEntry {H : Type} : Lit × DataW H → Nat
  | (.string bytes, d) => bytes.length + uptoBulk d + 1
  | (_, d) => uptoBulk d + 1
 end
def uptoSmall : (H : Type) → List (DataW H) → Bool := fun _ ds => decide (uptoBulkAll ds ≤ 1048576)
def OpenSpec.upto (s : _root_.Go.ChangeSpec) : _root_.Go.OpenSpec := { _root_.Go.OpenSpec.ofChange s with cond := some uptoSmall }

/-- 'putloglaw04.PartsReaches', WHERE WHAT IT READS IS OF BULK AT MOST 1048576: true; the input reads as it did. -/
def partsReachesUptoRow : OpenClaim := { program := "ytbemjdppfiabgaa", sum := "45f66704f2165fba3183d254eb348b3bba9c326de791bd0ba7af3c0bb4b41e8c", func := "putlog/putloglaw04.PartsReaches", spec := "partsReaches", unfollowed := true, recurses := true, plainKeys := false, apart := false, narrowed := true }
def PartsReachesUptoSaid : Prop := partsReachesUptoRow.holds Try.pinned (OpenSpec.upto partsReachesSpec)

/-- 'putloglaw04.PartsMonotone', WHERE WHAT IT READS IS OF BULK AT MOST 1048576: true; the input reads as it did. -/
def partsMonotoneUptoRow : OpenClaim := { program := "ytbemjdppfiabgaa", sum := "45f66704f2165fba3183d254eb348b3bba9c326de791bd0ba7af3c0bb4b41e8c", func := "putlog/putloglaw04.PartsMonotone", spec := "partsMonotone", unfollowed := true, recurses := true, plainKeys := false, apart := false, narrowed := true }
def PartsMonotoneUptoSaid : Prop := partsMonotoneUptoRow.holds Try.pinned (OpenSpec.upto partsMonotoneSpec)

/-- 'putloglaw04.PartsChecks', WHERE WHAT IT READS IS OF BULK AT MOST 1048576: true; the input reads as it did. -/
def partsChecksUptoRow : OpenClaim := { program := "ytbemjdppfiabgaa", sum := "45f66704f2165fba3183d254eb348b3bba9c326de791bd0ba7af3c0bb4b41e8c", func := "putlog/putloglaw04.PartsChecks", spec := "partsChecks", unfollowed := true, recurses := true, plainKeys := false, apart := false, narrowed := true }
def PartsChecksUptoSaid : Prop := partsChecksUptoRow.holds Try.pinned (OpenSpec.upto partsChecksSpec)

/-- 'putloglaw04.PartsFrees', WHERE WHAT IT READS IS OF BULK AT MOST 1048576: true; the input reads as it did. -/
def partsFreesUptoRow : OpenClaim := { program := "ytbemjdppfiabgaa", sum := "45f66704f2165fba3183d254eb348b3bba9c326de791bd0ba7af3c0bb4b41e8c", func := "putlog/putloglaw04.PartsFrees", spec := "partsFrees", unfollowed := true, recurses := true, plainKeys := false, apart := false, narrowed := true }
def PartsFreesUptoSaid : Prop := partsFreesUptoRow.holds Try.pinned (OpenSpec.upto partsFreesSpec)

/-- 'putloglaw04.PartsNumbers', WHERE WHAT IT READS IS OF BULK AT MOST 1048576: true; the input reads as it did. -/
def partsNumbersUptoRow : OpenClaim := { program := "ytbemjdppfiabgaa", sum := "45f66704f2165fba3183d254eb348b3bba9c326de791bd0ba7af3c0bb4b41e8c", func := "putlog/putloglaw04.PartsNumbers", spec := "partsNumbers", unfollowed := true, recurses := true, plainKeys := false, apart := false, narrowed := true }
def PartsNumbersUptoSaid : Prop := partsNumbersUptoRow.holds Try.pinned (OpenSpec.upto partsNumbersSpec)

/-- 'putloglaw04.PartsCatalogues', WHERE WHAT IT READS IS OF BULK AT MOST 1048576: true; the input reads as it did. -/
def partsCataloguesUptoRow : OpenClaim := { program := "ytbemjdppfiabgaa", sum := "45f66704f2165fba3183d254eb348b3bba9c326de791bd0ba7af3c0bb4b41e8c", func := "putlog/putloglaw04.PartsCatalogues", spec := "partsCatalogues", unfollowed := true, recurses := true, plainKeys := false, apart := false, narrowed := true }
def PartsCataloguesUptoSaid : Prop := partsCataloguesUptoRow.holds Try.pinned (OpenSpec.upto partsCataloguesSpec)

/-- 'putloglaw04.PartsBills', WHERE WHAT IT READS IS OF BULK AT MOST 1048576: true; the input reads as it did. -/
def partsBillsUptoRow : OpenClaim := { program := "ytbemjdppfiabgaa", sum := "45f66704f2165fba3183d254eb348b3bba9c326de791bd0ba7af3c0bb4b41e8c", func := "putlog/putloglaw04.PartsBills", spec := "partsBills", unfollowed := true, recurses := true, plainKeys := false, apart := false, narrowed := true }
def PartsBillsUptoSaid : Prop := partsBillsUptoRow.holds Try.pinned (OpenSpec.upto partsBillsSpec)

/-- 'putloglaw04.PartsFits', WHERE WHAT IT READS IS OF BULK AT MOST 1048576: true; the input reads as it did. -/
def partsFitsUptoRow : OpenClaim := { program := "ytbemjdppfiabgaa", sum := "45f66704f2165fba3183d254eb348b3bba9c326de791bd0ba7af3c0bb4b41e8c", func := "putlog/putloglaw04.PartsFits", spec := "partsFits", unfollowed := true, recurses := true, plainKeys := false, apart := false, narrowed := true }
def PartsFitsUptoSaid : Prop := partsFitsUptoRow.holds Try.pinned (OpenSpec.upto partsFitsSpec)

/-- 'putloglaw04.PartsAssigns', WHERE WHAT IT READS IS OF BULK AT MOST 1048576: true; the input reads as it did. -/
def partsAssignsUptoRow : OpenClaim := { program := "ytbemjdppfiabgaa", sum := "45f66704f2165fba3183d254eb348b3bba9c326de791bd0ba7af3c0bb4b41e8c", func := "putlog/putloglaw04.PartsAssigns", spec := "partsAssigns", unfollowed := true, recurses := true, plainKeys := false, apart := false, narrowed := true }
def PartsAssignsUptoSaid : Prop := partsAssignsUptoRow.holds Try.pinned (OpenSpec.upto partsAssignsSpec)

/-- 'putloglaw04.PartsNormals', WHERE WHAT IT READS IS OF BULK AT MOST 1048576: true; the input reads as it did. -/
def partsNormalsUptoRow : OpenClaim := { program := "ytbemjdppfiabgaa", sum := "45f66704f2165fba3183d254eb348b3bba9c326de791bd0ba7af3c0bb4b41e8c", func := "putlog/putloglaw04.PartsNormals", spec := "partsNormals", unfollowed := true, recurses := true, plainKeys := false, apart := false, narrowed := true }
def PartsNormalsUptoSaid : Prop := partsNormalsUptoRow.holds Try.pinned (OpenSpec.upto partsNormalsSpec)

/-- 'putloglaw04.PartsApplies', WHERE WHAT IT READS IS OF BULK AT MOST 1048576: true; the input reads as it did. -/
def partsAppliesUptoRow : OpenClaim := { program := "ytbemjdppfiabgaa", sum := "45f66704f2165fba3183d254eb348b3bba9c326de791bd0ba7af3c0bb4b41e8c", func := "putlog/putloglaw04.PartsApplies", spec := "partsApplies", unfollowed := true, recurses := true, plainKeys := false, apart := false, narrowed := true }
def PartsAppliesUptoSaid : Prop := partsAppliesUptoRow.holds Try.pinned (OpenSpec.upto partsAppliesSpec)

/-- 'putloglaw04.PartsDiffs', WHERE WHAT IT READS IS OF BULK AT MOST 1048576: true; the input reads as it did. -/
def partsDiffsUptoRow : OpenClaim := { program := "ytbemjdppfiabgaa", sum := "45f66704f2165fba3183d254eb348b3bba9c326de791bd0ba7af3c0bb4b41e8c", func := "putlog/putloglaw04.PartsDiffs", spec := "partsDiffs", unfollowed := true, recurses := true, plainKeys := false, apart := false, narrowed := true }
def PartsDiffsUptoSaid : Prop := partsDiffsUptoRow.holds Try.pinned (OpenSpec.upto partsDiffsSpec)

end Rows
end Go.Proofs.Ytbemjdppfiabgaa
