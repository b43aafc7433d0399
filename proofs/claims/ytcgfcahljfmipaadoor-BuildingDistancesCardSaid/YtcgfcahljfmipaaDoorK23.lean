/- Contracts. -/
import Derived.Test.YtcgfcahljfmipaaDoorK9
set_option linter.unusedVariables false
set_option linter.unusedSimpArgs false
set_option maxRecDepth 100000
namespace Go.Abs
open Go
/-- The steps of the directions. -/
def stX (d : Int) : Int := if d = 0 then 1 else if d = 2 then -1 else 0
def stY (d : Int) : Int := if d = 1 then 1 else if d = 3 then -1 else 0
theorem gX {d : Int} (h : 0 ≤ d ∧ d < 4) : [(1:Int), 0, -1, 0].getD d.toNat 0 = stX d := by
  obtain rfl | rfl | rfl | rfl : d = 0 ∨ d = 1 ∨ d = 2 ∨ d = 3 := by omega
  all_goals rfl
theorem gY {d : Int} (h : 0 ≤ d ∧ d < 4) : [(0:Int), 1, 0, -1].getD d.toNat 0 = stY d := by
  obtain rfl | rfl | rfl | rfl : d = 0 ∨ d = 1 ∨ d = 2 ∨ d = 3 := by omega
  all_goals rfl
theorem st_val {d : Int} (h : 0 ≤ d ∧ d < 4) : (stX d = 1 ∧ stY d = 0) ∨ (stX d = 0 ∧ stY d = 1) ∨ (stX d = -1 ∧ stY d = 0) ∨ (stX d = 0 ∧ stY d = -1) := by
  obtain rfl | rfl | rfl | rfl : d = 0 ∨ d = 1 ∨ d = 2 ∨ d = 3 := by omega
  all_goals decide
def m3 (x : Int) : Prop := -3000000 ≤ x ∧ x ≤ 3000000
def rMo : Orc := .res fun l => dP (fI 0 (arg l 0) + aI l 2 * fI 0 (arg l 1)) (fI 1 (arg l 0) + aI l 2 * fI 1 (arg l 1))
noncomputable def A32_moved_c (x y a b n : Int) : Ann := { orc := [], loops := [], cuts := [] }
theorem moved_c (x y a b n : Int) (h : m3 n) (h0 : m3 x) (h1 : m3 y) (h2 : -1 ≤ a ∧ a ≤ 1) (h3 : -1 ≤ b ∧ b ≤ 1) : FnC prog 27 [dP x y, dP a b, dI n] (dP (x + n * a) (y + n * b)) := by
  refine FnC_owed hmix (A32_moved_c x y a b n) (V := VT.need [i64In (n * a), i64In (x + n * a), i64In (n * b), i64In (y + n * b)] (VT.done [x + n * a = x + n * a, y + n * b = y + n * b])) (by kernel_rfl) ?_
  simp only [VT.holds, AllT, Sq]
  unfold m3 at *
  obtain rfl | rfl | rfl : a = -1 ∨ a = 0 ∨ a = 1 := by omega
  all_goals
    obtain rfl | rfl | rfl : b = -1 ∨ b = 0 ∨ b = 1 := by omega
    all_goals
      unfold i64In
      omega
end Go.Abs
