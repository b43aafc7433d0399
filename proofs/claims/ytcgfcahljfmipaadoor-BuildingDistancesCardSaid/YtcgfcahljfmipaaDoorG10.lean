/- The parallel outline covers the outline; its area. -/
import Derived.Test.YtcgfcahljfmipaaDoorG8
set_option linter.unusedVariables false
namespace Go.Abs.Geo
open Go.Abs
section
variable {n : Nat} {X Y : Nat → Int} {d : Int}
theorem chkO_poly (h : chk n X Y = 0) (hO : chk n (ofX n X Y d) (ofY n X Y d) = 0) : Poly n (offX n (cyc n X) (cyc n Y) d) (offY n (cyc n X) (cyc n Y) d) ∧ (sm (cr (offX n (cyc n X) (cyc n Y) d) (offY n (cyc n X) (cyc n Y) d)) n = 8 ∧ ∀ a b, wp n (offX n (cyc n X) (cyc n Y) d) (offY n (cyc n X) (cyc n Y) d) a b = 0 ∨ wp n (offX n (cyc n X) (cyc n Y) d) (offY n (cyc n X) (cyc n Y) d) a b = 1) := by
  have P := chk_poly h
  have Q := chk_poly hO
  have G := chk_good hO
  obtain ⟨e1, e2⟩ := cyc_off P d
  rw [e1, e2] at Q G
  exact ⟨Q, G⟩
end
end Go.Abs.Geo
