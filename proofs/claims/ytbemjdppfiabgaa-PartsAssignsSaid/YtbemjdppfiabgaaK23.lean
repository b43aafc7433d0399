/- Contracts. -/
import Derived.Test.YtbemjdppfiabgaaK17
import Derived.Test.YtbemjdppfiabgaaK16
set_option linter.unusedVariables false
set_option linter.unusedSimpArgs false
set_option maxRecDepth 100000
namespace Go.Abs
open Go
structure DlI (q : Nat → Bool) (n : Nat) (D A B : Nat → Int) (j : Nat) (d a b : Nat → Int) : Prop where
  le : j ≤ n
  lo : ∀ k, k < flN q j → d k = D (flI q j k) ∧ a k = A (flI q j k) ∧ b k = B (flI q j k)
  hi : ∀ k, j ≤ k → d k = D k ∧ a k = A k ∧ b k = B k
theorem ixF_is {p : Nat → Bool} : ∀ {n : Nat}, ixF p n ≠ -1 → ∃ i : Nat, ixF p n = i ∧ i < n ∧ p i = true ∧ ∀ j, j < i → p j = false := by
  intro n h
  have h1 := ixF_bd p n
  have h0 : decide (0 ≤ ixF p n) = true := decide_eq_true (by omega)
  rw [ixF_any] at h0
  obtain ⟨j, hj, hp⟩ := anyN_iff.1 h0
  have key : ∀ m : Nat, (∃ j, j < m ∧ p j = true) → ∃ i, i < m ∧ p i = true ∧ ∀ j, j < i → p j = false := fun m => by
    induction m with
    | zero => rintro ⟨j, hj, _⟩; omega
    | succ m ih =>
      rintro ⟨j, hj, hp⟩
      by_cases hx : ∃ j, j < m ∧ p j = true
      · obtain ⟨i, a, b, c⟩ := ih hx; exact ⟨i, by omega, b, c⟩
      · have : j = m := by
          rcases Nat.lt_or_ge j m with h2 | h2
          · exact absurd ⟨j, h2, hp⟩ hx
          · omega
        subst this
        refine ⟨j, by omega, hp, fun k hk => ?_⟩
        cases e : p k with
        | false => rfl
        | true => exact absurd ⟨k, hk, e⟩ hx
  obtain ⟨i, a, b, c⟩ := key n ⟨j, hj, hp⟩
  exact ⟨i, ixF_at c b a, a, b, c⟩
section
variable {q : Nat → Bool} {n : Nat} {D A B : Nat → Int}
end
end Go.Abs
