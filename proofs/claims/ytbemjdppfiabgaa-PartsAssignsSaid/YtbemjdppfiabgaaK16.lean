/- Contracts. Contracts. Contracts. Contracts. Contracts. -/
import Derived.Test.YtbemjdppfiabgaaK11
section
section
section
section
set_option linter.unusedVariables false
set_option linter.unusedSimpArgs false
set_option maxRecDepth 100000
namespace Go.Abs
open Go
/-- A part of a line. -/
structure Prt where
  f : Int
  t : Int
  d : Int
def Prt.ok (p : Prt) : Prop := bd7 p.f ∧ bd7 p.t ∧ bd7 p.d
end Go.Abs
end
section
set_option linter.unusedVariables false
set_option linter.unusedSimpArgs false
set_option maxRecDepth 100000
namespace Go.Abs
open Go
def stp (s : Scf) (f t : Int) (i : Nat) : Bool := ladP s i && ((decide (s.A i = f) && decide (s.B i = t)) || (decide (s.A i = t) && decide (s.B i = f)))
def stpB (s : Scf) (f t : Int) : Bool := anyN (stp s f t) s.nM
def gr1 (s : Scf) (d : Int) (i k : Nat) : Bool := ftB s s.nM i && (decide (s.Z i < s.Z (crnD s d k).toNat) && stpB s i (crnD s d k))
def frG (s : Scf) (d : Int) : Bool := anyN (fun i => anyN (gr1 s d i) 4) s.nN
def smP (a b c d : Int) : Bool := (decide (a = c) && decide (b = d)) || (decide (a = d) && decide (b = c))
def ld1 (s : Scf) (f t : Int) (i k : Nat) : Bool := stpB s (crnD s f i) (crnD s t k) || smP (crnD s f i) (crnD s f ((i + 1) % 4)) (crnD s t k) (crnD s t ((k + 1) % 4))
def ldB (s : Scf) (f t : Int) : Bool := anyN (fun i => anyN (ld1 s f t i) 4) 4
end Go.Abs
end
end
section
set_option linter.unusedVariables false
set_option linter.unusedSimpArgs false
set_option maxRecDepth 100000
namespace Go.Abs
open Go
def p0 (s : Scf) (i : Nat) : Bool := decide (s.K i = 6) && frG s i
inductive RchR (s : Scf) : Nat → Prop
  | ground {i : Nat} (h : i < s.nM) (h2 : p0 s i = true) : RchR s i
  | step {d i : Nat} (h : RchR s d) (h2 : i < s.nM) (h3 : s.K i = 6) (h4 : ldB s d i = true) : RchR s i
open Classical in
structure QInv (s : Scf) (k n : Nat) (c : Nat → Int) : Prop where
  kn : k ≤ n
  q : ∀ j, j < n → ∃ d : Nat, c j = d ∧ d < s.nM ∧ s.K d = 6 ∧ RchR s d
  g : ∀ i : Nat, i < s.nM → p0 s i = true → hasN c i n = true
  a : ∀ j, j < k → ∀ i : Nat, i < s.nM → s.K i = 6 → ldB s (c j) i = true → hasN c i n = true
  b : n + flN (fun i : Nat => !hasN c i n) s.nM ≤ s.nM
structure QIn (s : Scf) (k i n : Nat) (c : Nat → Int) : Prop where
  hi : i ≤ s.nM
  hk : k < n
  h : QInv s k n c
  ha : ∀ m : Nat, m < i → s.K m = 6 → ldB s (c k) m = true → hasN c m n = true
theorem flI_in {p : Nat → Bool} : ∀ {n j : Nat}, j < flN p n → flI p n j < n ∧ p (flI p n j) = true
  | 0, j, h => absurd h (Nat.not_lt_zero j)
  | n + 1, j, h => by
    rw [flN] at h
    rw [flI]
    split
    · rename_i h1; exact ⟨Nat.lt_succ_self n, h1.1⟩
    · rename_i h1
      have : j < flN p n := by
        by_cases e : p n = true
        · rw [if_pos e] at h
          have : flN p n ≠ j := fun h2 => h1 ⟨e, h2⟩
          omega
        · rw [if_neg e] at h; omega
      have := flI_in this
      exact ⟨by omega, this.2⟩
theorem flN_mono1 (p : Nat → Bool) {a b : Nat} (h : a ≤ b) : flN p a ≤ flN p b := by
  induction h with
  | refl => exact Nat.le_refl _
  | step _ ih => rw [flN]; omega
theorem flI_at {p : Nat → Bool} {i : Nat} (h : p i = true) : ∀ {n : Nat}, i < n → flN p i < flN p n ∧ flI p n (flN p i) = i
  | n + 1, hn => by
    rw [flI]
    have e := flN_yes h
    rcases Nat.lt_or_ge i n with h1 | h1
    · have h2 := flI_at h h1
      have h3 := flN_mono1 p (show i + 1 ≤ n by omega)
      refine ⟨by rw [flN]; omega, ?_⟩
      rw [if_neg (fun h' => by omega)]
      exact h2.2
    · obtain rfl : i = n := by omega
      exact ⟨by omega, by rw [if_pos ⟨h, rfl⟩]⟩
end Go.Abs
end
end
section
set_option linter.unusedVariables false
set_option linter.unusedSimpArgs false
set_option maxRecDepth 100000
namespace Go.Abs
open Go
structure WI (w : Way) : Prop where
  f2 : 0 < w.f2
  t2 : 0 < w.t2
  lo : ∀ m e : Int, 0 < e → w.f1 * e < m * w.f2 → -1 * e < m * 1
  hi : ∀ m e : Int, 0 < e → m * w.t2 < w.t1 * e → m * 1 < 2 * e
theorem ixF_any (p : Nat → Bool) : ∀ n, decide (0 ≤ ixF p n) = anyN p n
  | 0 => rfl
  | n + 1 => by
    have ih := ixF_any p n
    rw [anyN, ← ih, ixF]
    by_cases h : 0 ≤ ixF p n
    · rw [if_pos h, decide_eq_true h, Bool.or_true]
    · rw [if_neg h, decide_eq_false h, Bool.or_false]
      cases e : p n with
      | true => rw [if_pos rfl, decide_eq_true (by omega)]
      | false => rw [if_neg (by decide)]; rfl
end Go.Abs
end
end
section
set_option linter.unusedVariables false
set_option linter.unusedSimpArgs false
set_option maxRecDepth 100000
namespace Go.Abs
open Go
section
variable {s : Scf}
theorem stp_iff {f t : Int} : stpB s f t = true ↔ ∃ j, j < s.nM ∧ ladP s j = true ∧ ((s.A j = f ∧ s.B j = t) ∨ (s.A j = t ∧ s.B j = f)) := by
  rw [stpB, anyN_iff]
  constructor
  · rintro ⟨j, hj, h⟩
    rw [stp, Bool.and_eq_true, Bool.or_eq_true, Bool.and_eq_true, Bool.and_eq_true, decide_eq_true_eq, decide_eq_true_eq, decide_eq_true_eq, decide_eq_true_eq] at h
    exact ⟨j, hj, h⟩
  · rintro ⟨j, hj, h⟩
    refine ⟨j, hj, ?_⟩
    rw [stp, Bool.and_eq_true, Bool.or_eq_true, Bool.and_eq_true, Bool.and_eq_true, decide_eq_true_eq, decide_eq_true_eq, decide_eq_true_eq, decide_eq_true_eq]
    exact h
end
end Go.Abs
end
