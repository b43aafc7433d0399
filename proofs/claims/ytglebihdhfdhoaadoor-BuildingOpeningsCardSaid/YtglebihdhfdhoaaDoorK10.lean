/- Contracts. -/
import Derived.Test.YtglebihdhfdhoaaDoorK9
set_option linter.unusedVariables false
set_option linter.unusedSimpArgs false
set_option maxRecDepth 100000
namespace Go.Abs
open Go
abbrev nd (x y z : Int) : DV := .val (.agg #[.int .i64 x, .int .i64 y, .int .i64 z])
def nE (x y z : Int) : Int := if inF x = true ∧ inF y = true ∧ inF z = true then 0 else 2
def rNdE : Orc := .res fun l => dI (nE (fI 0 (arg l 0)) (fI 1 (arg l 0)) (fI 2 (arg l 0)))
noncomputable def A50_checkNode_c (x y z : Int) : Ann := { orc := [(1, [(2, rIn), (7, rIn), (13, rIn)])], loops := [], cuts := [] }
theorem checkNode_c (x y z : Int)  : FnC prog 50 [nd x y z] (dI (nE x y z)) := by
  refine FnC_owed hmix (A50_checkNode_c x y z) (V := VT.need [FnC prog (79 : Nat) [DV.val (Value.int IntKind.i64 x)] (DV.val (Value.bool (inF x))), (!!inF x) = true → (!!inF x) = true, (!!inF x) = true → (!!inF x) = true, (!!inF x) = true → FnC prog (79 : Nat) [DV.val (Value.int IntKind.i64 y)] (DV.val (Value.bool (inF y))), (!!inF x) = true → (!!inF x) = true, (!inF x) = false → (!!inF x) = true, (!if (!inF x) = true then true else !inF y) = true → (!if (!inF x) = true then true else !inF y) = true, (!if (!inF x) = true then true else !inF y) = true → (!if (!inF x) = true then true else !inF y) = true, (!if (!inF x) = true then true else !inF y) = true → FnC prog (79 : Nat) [DV.val (Value.int IntKind.i64 z)] (DV.val (Value.bool (inF z))), (!if (!inF x) = true then true else !inF y) = true → (!if (!inF x) = true then true else !inF y) = true, (if (!inF x) = true then true else !inF y) = false → (!if (!inF x) = true then true else !inF y) = true] (VT.ite (if (if (!inF x) = true then true else !inF y) = true then true else !inF z) (VT.done [(2 : Int) = nE x y z]) (VT.done [(0 : Int) = nE x y z]))) (by kernel_rfl) ?_
  simp only [VT.holds, AllT, imp_self, implies_true, and_true, true_and, toNat_succ, toNat_add2, toNat_zero', Int.toNat_natCast, Bool.if_true_left, Bool.if_false_right, Bool.decide_eq_true, Bool.or_eq_true, Bool.or_eq_false_iff, Bool.and_eq_true, Bool.and_eq_false_imp, Bool.not_eq_true', Bool.not_eq_false', Bool.not_not, bne_iff_ne, bne_eq_false_iff_eq, beq_iff_eq, beq_eq_false_iff_ne, decide_eq_true_eq, decide_eq_false_iff_not, ne_eq]
  have := inside_c x
  have := inside_c y
  have := inside_c z
  unfold nE
  grind
end Go.Abs
