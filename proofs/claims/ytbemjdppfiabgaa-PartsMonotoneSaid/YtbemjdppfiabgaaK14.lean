/- Contracts. -/
import Derived.Test.YtbemjdppfiabgaaK13
set_option linter.unusedVariables false
set_option linter.unusedSimpArgs false
set_option maxRecDepth 100000
namespace Go.Abs
open Go
def p0 (s : Scf) (i : Nat) : Bool := decide (s.K i = 6) && frG s i
inductive RchR (s : Scf) : Nat → Prop
  | ground {i : Nat} (h : i < s.nM) (h2 : p0 s i = true) : RchR s i
  | step {d i : Nat} (h : RchR s d) (h2 : i < s.nM) (h3 : s.K i = 6) (h4 : ldB s d i = true) : RchR s i
open Classical in
noncomputable def rchR (s : Scf) (i : Nat) : Bool := decide (RchR s i)
structure QInv (s : Scf) (k n : Nat) (c : Nat → Int) : Prop where
  kn : k ≤ n
  q : ∀ j, j < n → ∃ d : Nat, c j = d ∧ d < s.nM ∧ s.K d = 6 ∧ RchR s d
  g : ∀ i : Nat, i < s.nM → p0 s i = true → hasN c i n = true
  a : ∀ j, j < k → ∀ i : Nat, i < s.nM → s.K i = 6 → ldB s (c j) i = true → hasN c i n = true
  b : n + flN (fun i : Nat => !hasN c i n) s.nM ≤ s.nM
structure QIn (s : Scf) (k i n : Nat) (c : Nat → Int) : Prop where
  hi : i ≤ s.nM
  hk : k < n
  h : QInv s k n c
  ha : ∀ m : Nat, m < i → s.K m = 6 → ldB s (c k) m = true → hasN c m n = true
theorem flI_in {p : Nat → Bool} : ∀ {n j : Nat}, j < flN p n → flI p n j < n ∧ p (flI p n j) = true
  | 0, j, h => absurd h (Nat.not_lt_zero j)
  | n + 1, j, h => by
    rw [flN] at h
    rw [flI]
    split
    · rename_i h1; exact ⟨Nat.lt_succ_self n, h1.1⟩
    · rename_i h1
      have : j < flN p n := by
        by_cases e : p n = true
        · rw [if_pos e] at h
          have : flN p n ≠ j := fun h2 => h1 ⟨e, h2⟩
          omega
        · rw [if_neg e] at h; omega
      have := flI_in this
      exact ⟨by omega, this.2⟩
theorem flN_mono1 (p : Nat → Bool) {a b : Nat} (h : a ≤ b) : flN p a ≤ flN p b := by
  induction h with
  | refl => exact Nat.le_refl _
  | step _ ih => rw [flN]; omega
theorem flI_at {p : Nat → Bool} {i : Nat} (h : p i = true) : ∀ {n : Nat}, i < n → flN p i < flN p n ∧ flI p n (flN p i) = i
  | n + 1, hn => by
    rw [flI]
    have e := flN_yes h
    rcases Nat.lt_or_ge i n with h1 | h1
    · have h2 := flI_at h h1
      have h3 := flN_mono1 p (show i + 1 ≤ n by omega)
      refine ⟨by rw [flN]; omega, ?_⟩
      rw [if_neg (fun h' => by omega)]
      exact h2.2
    · obtain rfl : i = n := by omega
      exact ⟨by omega, by rw [if_pos ⟨h, rfl⟩]⟩
end Go.Abs
