/- Contracts. -/
import Derived.Test.YtbemjdppfiabgaaK24
set_option linter.unusedVariables false
set_option linter.unusedSimpArgs false
set_option maxRecDepth 100000
namespace Go.Abs
open Go
section
variable {s : Scf}
theorem b_iff {x y : Bool} (h : x = true ↔ y = true) : x = y := by
  cases x <;> cases y <;> simp_all
theorem flI_eq {p q : Nat → Bool} : ∀ {n : Nat}, (∀ i, i < n → p i = q i) → ∀ j, flI p n j = flI q n j
  | 0, _, _ => rfl
  | n + 1, h, j => by
    rw [flI, flI, flI_eq (fun i hi => h i (by omega)) j, flN_eq (fun i hi => h i (by omega)), h n (Nat.lt_succ_self n)]
/-- What stands where a node is told to be. -/
theorem nAt_is {x y z : Int} : ∀ {n : Nat}, 0 ≤ nAt s n x y z → s.X (nAt s n x y z).toNat = x ∧ s.Y (nAt s n x y z).toNat = y ∧ s.Z (nAt s n x y z).toNat = z
  | 0, h => absurd h (by show ¬ (0 : Int) ≤ -1; decide)
  | n + 1, h => by
    rw [nAt] at h ⊢
    split
    · rename_i h1; exact nAt_is h1
    · rename_i h1
      rw [if_neg h1] at h
      split
      · rename_i h2; simpa using h2
      · rename_i h2; rw [if_neg h2] at h; exact absurd h (by decide)
theorem smP_iff {a b c d : Int} : smP a b c d = true ↔ (a = c ∧ b = d) ∨ (a = d ∧ b = c) := by
  rw [smP, Bool.or_eq_true, Bool.and_eq_true, Bool.and_eq_true, decide_eq_true_eq, decide_eq_true_eq, decide_eq_true_eq, decide_eq_true_eq]
theorem key_iff {x y : Nat} : keyS s x = keyS s y ↔ smP (sdA s x) (sdB s x) (sdA s y) (sdB s y) = true := pair_eq
theorem sd_of {x : Nat} (hx : x < nSd s) : ∃ d k : Nat, d < s.nM ∧ s.K d = 6 ∧ k < 4 ∧ x = 4 * dkN s d + k ∧ sdD s x = d ∧ sdA s x = crnD s d k ∧ sdB s x = crnD s d ((k + 1) % 4) := by
  have hx' : x < 4 * dkN s s.nM := hx
  have hq : x / 4 < dkN s s.nM := by omega
  have key : ∀ n, x / 4 < dkN s n → dkI s n (x / 4) < n ∧ s.K (dkI s n (x / 4)) = 6 ∧ dkN s (dkI s n (x / 4)) = x / 4 := fun n => by
    induction n with
    | zero => intro h; exact absurd h (Nat.not_lt_zero _)
    | succ n ih =>
      intro h
      rw [dkN] at h
      rw [dkI]
      split
      · rename_i h1; exact ⟨Nat.lt_succ_self n, h1.1, h1.2⟩
      · rename_i h1
        have h2 : x / 4 < dkN s n := by
          split at h
          · rename_i h6
            have : dkN s n ≠ x / 4 := fun e => h1 ⟨h6, e⟩
            omega
          · omega
        obtain ⟨a, b, c⟩ := ih h2
        exact ⟨by omega, b, c⟩
  obtain ⟨a, b, c⟩ := key s.nM hq
  have h4 : x % 4 < 4 := Nat.mod_lt _ (by decide)
  have e : x = 4 * dkN s (dkI s s.nM (x / 4)) + x % 4 := by rw [c]; omega
  have h5 := crn_at b a h4
  rw [← e] at h5
  exact ⟨_, _, a, b, h4, e, h5.2.1, h5.2.2.1, h5.2.2.2⟩
theorem smP_comm (a b c d : Int) : smP a b c d = smP c d a b := b_iff (by rw [smP_iff, smP_iff]; omega)
theorem kd_any (k x y : Int) : ∀ n, kdH s k n [mn x y, mx x y] = anyN (hsP s k x y) n
  | 0 => rfl
  | n + 1 => by
    rw [kdH, anyN, kd_any k x y n, hsP]
    congr 2
    refine b_iff ?_
    rw [decide_eq_true_eq, pair_eq, smP_comm]
theorem wl_any (A B : Nat → Int) (x y : Int) : ∀ n, wlH A B n [mn x y, mx x y] = anyN (wlQ A B x y) n
  | 0 => rfl
  | n + 1 => by
    rw [wlH, anyN, wl_any A B x y n]
    congr 1
    refine b_iff ?_
    rw [decide_eq_true_eq, pair_eq, wlQ]
theorem un_eq (n : Nat) (A B : Nat → Int) (x : Nat) : unQ s n A B x = unR s n A B x := by
  unfold unQ unR ptB
  rw [kd_any, kd_any, wl_any, Bool.not_or, Bool.and_comm]
end
end Go.Abs
