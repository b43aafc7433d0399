/- Numbers ascending, each once. -/
import Derived.Test.YtcgfcahljfmipaaDoorK8
import Derived.Lib.RowBridge
set_option linter.unusedVariables false
namespace Go.Abs
open Go

/-- Numbers ascending, each once. -/
def linesF (l : List Int) : List Int := Lib.compact (l.mergeSort fun x y => decide (x ≤ y))
theorem linesF_len (l : List Int) : (linesF l).length ≤ l.length := by
  unfold linesF
  have := Lib.compact_length_le (l.mergeSort fun x y => decide (x ≤ y))
  rw [List.length_mergeSort] at this
  exact this
def midC (M : Nat) (A B : Nat → Int) (k : Nat) : Int × Int := (A (k / M) + A (k / M + 1), B (k % M) + B (k % M + 1))
theorem mid_at {M : Nat} (A B : Nat → Int) {a b : Nat} (hb : b < M) : midC M A B (M * a + b) = (A a + A (a + 1), B b + B (b + 1)) := by
  have h1 : (M * a + b) / M = a := by rw [Nat.mul_add_div (by omega), Nat.div_eq_of_lt hb, Nat.add_zero]
  have h2 : (M * a + b) % M = b := by rw [Nat.mul_add_mod, Nat.mod_eq_of_lt hb]
  simp only [midC, h1, h2]
theorem cell_lt' {a b P M : Nat} (ha : a < P) (hb : b < M) : M * a + b < M * P := by
  have : M * (a + 1) ≤ M * P := Nat.mul_le_mul_left _ ha
  rw [Nat.mul_add, Nat.mul_one] at this
  omega
end Go.Abs
