/- Contracts. -/
import Derived.Test.YtbemjdppfiabgaaK14
set_option linter.unusedVariables false
set_option linter.unusedSimpArgs false
set_option maxRecDepth 100000
namespace Go.Abs
open Go
structure WI (w : Way) : Prop where
  f2 : 0 < w.f2
  t2 : 0 < w.t2
  lo : ∀ m e : Int, 0 < e → w.f1 * e < m * w.f2 → -1 * e < m * 1
  hi : ∀ m e : Int, 0 < e → m * w.t2 < w.t1 * e → m * 1 < 2 * e
theorem ixF_any (p : Nat → Bool) : ∀ n, decide (0 ≤ ixF p n) = anyN p n
  | 0 => rfl
  | n + 1 => by
    have ih := ixF_any p n
    rw [anyN, ← ih, ixF]
    by_cases h : 0 ≤ ixF p n
    · rw [if_pos h, decide_eq_true h, Bool.or_true]
    · rw [if_neg h, decide_eq_false h, Bool.or_false]
      cases e : p n with
      | true => rw [if_pos rfl, decide_eq_true (by omega)]
      | false => rw [if_neg (by decide)]; rfl
end Go.Abs
