/- Contracts. -/
import Derived.Test.YtbemjdppfiabgaaK17
import Derived.Test.YtbemjdppfiabgaaK16
set_option linter.unusedVariables false
set_option linter.unusedSimpArgs false
set_option maxRecDepth 100000
namespace Go.Abs
open Go
structure DlI (q : Nat → Bool) (n : Nat) (D A B : Nat → Int) (j : Nat) (d a b : Nat → Int) : Prop where
  le : j ≤ n
  lo : ∀ k, k < flN q j → d k = D (flI q j k) ∧ a k = A (flI q j k) ∧ b k = B (flI q j k)
  hi : ∀ k, j ≤ k → d k = D k ∧ a k = A k ∧ b k = B k
section
variable {q : Nat → Bool} {n : Nat} {D A B : Nat → Int}
end
end Go.Abs
