/- Contracts. Contracts. Contracts. Contracts. Contracts. -/
import Derived.Test.YtbemjdppfiabgaaK11
section
section
section
section
set_option linter.unusedVariables false
set_option linter.unusedSimpArgs false
set_option maxRecDepth 100000
namespace Go.Abs
open Go
/-- A part of a line. -/
structure Prt where
  f : Int
  t : Int
  d : Int
def Prt.ok (p : Prt) : Prop := bd7 p.f ∧ bd7 p.t ∧ bd7 p.d
end Go.Abs
end
section
set_option linter.unusedVariables false
set_option linter.unusedSimpArgs false
set_option maxRecDepth 100000
namespace Go.Abs
open Go
def stp (s : Scf) (f t : Int) (i : Nat) : Bool := ladP s i && ((decide (s.A i = f) && decide (s.B i = t)) || (decide (s.A i = t) && decide (s.B i = f)))
def stpB (s : Scf) (f t : Int) : Bool := anyN (stp s f t) s.nM
def gr1 (s : Scf) (d : Int) (i k : Nat) : Bool := ftB s s.nM i && (decide (s.Z i < s.Z (crnD s d k).toNat) && stpB s i (crnD s d k))
def frG (s : Scf) (d : Int) : Bool := anyN (fun i => anyN (gr1 s d i) 4) s.nN
def smP (a b c d : Int) : Bool := (decide (a = c) && decide (b = d)) || (decide (a = d) && decide (b = c))
def ld1 (s : Scf) (f t : Int) (i k : Nat) : Bool := stpB s (crnD s f i) (crnD s t k) || smP (crnD s f i) (crnD s f ((i + 1) % 4)) (crnD s t k) (crnD s t ((k + 1) % 4))
def ldB (s : Scf) (f t : Int) : Bool := anyN (fun i => anyN (ld1 s f t i) 4) 4
abbrev dE (d a b : Int) : DV := .val (.agg #[.int .i64 d, .int .i64 a, .int .i64 b])
noncomputable def A99_samePair_c (d a b e f g : Int) : Ann := { orc := [], loops := [], cuts := [] }
noncomputable abbrev q_samePair_c_0 (a : Int) (f : Int) (b : Int) (g : Int) : Bool := !if (a == f) = true then b == g else false
theorem samePair_c (d a b e f g : Int)  : FnC prog 99 [dE d a b, dE e f g] (dB (smP a b f g)) := by
  refine FnC_owed hmix (A99_samePair_c d a b e f g) (V := .need [(a == f) = true → (a == f) = true, (a == f) = true → (a == f) = true, (a == f) = true → (a == f) = true, (a == f) = true → (a == f) = true, (a == f) = true → (a == f) = true, (q_samePair_c_0 a f b g) = true → (q_samePair_c_0 a f b g) = true, (q_samePair_c_0 a f b g) = true → (q_samePair_c_0 a f b g) = true, (q_samePair_c_0 a f b g) = true → (q_samePair_c_0 a f b g) = true, (q_samePair_c_0 a f b g) = true → (q_samePair_c_0 a f b g) = true, (q_samePair_c_0 a f b g) = true → (q_samePair_c_0 a f b g) = true, ((q_samePair_c_0 a f b g) && a == g) = true → ((q_samePair_c_0 a f b g) && a == g) = true, ((q_samePair_c_0 a f b g) && a == g) = true → ((q_samePair_c_0 a f b g) && a == g) = true, ((q_samePair_c_0 a f b g) && a == g) = true → ((q_samePair_c_0 a f b g) && a == g) = true, ((q_samePair_c_0 a f b g) && a == g) = true → ((q_samePair_c_0 a f b g) && a == g) = true, (q_samePair_c_0 a f b g) = true → (q_samePair_c_0 a f b g) = true, (q_samePair_c_0 a f b g) = true → (a == g) = true → ((q_samePair_c_0 a f b g) && a == g) = true, (if (a == f) = true then b == g else false) = false → (q_samePair_c_0 a f b g) = true] (.done [(if (if (a == f) = true then b == g else false) = true then true else if (a == g) = true then b == f else false) = smP a b f g])) (by kernel_rfl) ?_
  simp only [q_samePair_c_0, VT.holds, AllT, imp_self, implies_true, and_true, true_and, toNat_succ, toNat_add2, toNat_zero', Int.toNat_natCast, Bool.if_true_left, Bool.if_false_right, Bool.decide_eq_true, Bool.or_eq_true, Bool.or_eq_false_iff, Bool.and_eq_true, Bool.and_eq_false_imp, Bool.not_eq_true', Bool.not_eq_false', Bool.not_not, bne_iff_ne, bne_eq_false_iff_eq, beq_iff_eq, beq_eq_false_iff_ne, decide_eq_true_eq, decide_eq_false_iff_not, ne_eq]
  refine ⟨fun h1 h2 => ⟨h1, h2⟩, ?_⟩
  unfold smP
  rw [Bool.decide_and]
  rfl
end Go.Abs
end
end
section
set_option linter.unusedVariables false
set_option linter.unusedSimpArgs false
set_option maxRecDepth 100000
namespace Go.Abs
open Go
def p0 (s : Scf) (i : Nat) : Bool := decide (s.K i = 6) && frG s i
inductive RchR (s : Scf) : Nat → Prop
  | ground {i : Nat} (h : i < s.nM) (h2 : p0 s i = true) : RchR s i
  | step {d i : Nat} (h : RchR s d) (h2 : i < s.nM) (h3 : s.K i = 6) (h4 : ldB s d i = true) : RchR s i
open Classical in
structure QInv (s : Scf) (k n : Nat) (c : Nat → Int) : Prop where
  kn : k ≤ n
  q : ∀ j, j < n → ∃ d : Nat, c j = d ∧ d < s.nM ∧ s.K d = 6 ∧ RchR s d
  g : ∀ i : Nat, i < s.nM → p0 s i = true → hasN c i n = true
  a : ∀ j, j < k → ∀ i : Nat, i < s.nM → s.K i = 6 → ldB s (c j) i = true → hasN c i n = true
  b : n + flN (fun i : Nat => !hasN c i n) s.nM ≤ s.nM
structure QIn (s : Scf) (k i n : Nat) (c : Nat → Int) : Prop where
  hi : i ≤ s.nM
  hk : k < n
  h : QInv s k n c
  ha : ∀ m : Nat, m < i → s.K m = 6 → ldB s (c k) m = true → hasN c m n = true
theorem flN_eq {p q : Nat → Bool} : ∀ {n : Nat}, (∀ i, i < n → p i = q i) → flN p n = flN q n
  | 0, _ => rfl
  | n + 1, h => by rw [flN, flN, flN_eq fun i hi => h i (by omega), h n (by omega)]
end Go.Abs
end
end
section
set_option linter.unusedVariables false
set_option linter.unusedSimpArgs false
set_option maxRecDepth 100000
namespace Go.Abs
open Go
structure WI (w : Way) : Prop where
  f2 : 0 < w.f2
  t2 : 0 < w.t2
  lo : ∀ m e : Int, 0 < e → w.f1 * e < m * w.f2 → -1 * e < m * 1
  hi : ∀ m e : Int, 0 < e → m * w.t2 < w.t1 * e → m * 1 < 2 * e
theorem ixF_any (p : Nat → Bool) : ∀ n, decide (0 ≤ ixF p n) = anyN p n
  | 0 => rfl
  | n + 1 => by
    have ih := ixF_any p n
    rw [anyN, ← ih, ixF]
    by_cases h : 0 ≤ ixF p n
    · rw [if_pos h, decide_eq_true h, Bool.or_true]
    · rw [if_neg h, decide_eq_false h, Bool.or_false]
      cases e : p n with
      | true => rw [if_pos rfl, decide_eq_true (by omega)]
      | false => rw [if_neg (by decide)]; rfl
end Go.Abs
end
end
section
set_option linter.unusedVariables false
set_option linter.unusedSimpArgs false
set_option maxRecDepth 100000
namespace Go.Abs
open Go
section
variable {s : Scf}
theorem crn_at {d : Nat} (h6 : s.K d = 6) (hd : d < s.nM) {k : Nat} (hk : k < 4) : 4 * dkN s d + k < nSd s ∧ sdD s (4 * dkN s d + k) = d ∧ sdA s (4 * dkN s d + k) = crnD s d k ∧ sdB s (4 * dkN s d + k) = crnD s d ((k + 1) % 4) := by
  have hlt : dkN s d < dkN s s.nM := by
    have mono : ∀ {a b : Nat}, a ≤ b → dkN s a ≤ dkN s b := fun {a b} hab => by
      induction hab with
      | refl => exact Nat.le_refl _
      | step _ ih => exact Nat.le_trans ih (Nat.le_add_right _ _)
    have h3 : dkN s (d + 1) = dkN s d + 1 := by rw [dkN, if_pos h6]
    have := mono (show d + 1 ≤ s.nM by omega)
    omega
  obtain ⟨a, b, c⟩ := sd_at h6 hd hk
  refine ⟨by show _ < 4 * dkN s s.nM; omega, a, ?_, ?_⟩
  · rw [b]; rfl
  · rw [c]; rfl
theorem pair_eq {a b c d : Int} : [mn a b, mx a b] = [mn c d, mx c d] ↔ smP a b c d = true := by
  unfold smP mn mx
  rw [Bool.or_eq_true, Bool.and_eq_true, Bool.and_eq_true, decide_eq_true_eq, decide_eq_true_eq, decide_eq_true_eq, decide_eq_true_eq]
  constructor
  · intro h
    injection h with h1 h2
    injection h2 with h2 _
    omega
  · intro h
    have h1 : min a b = min c d := by omega
    have h2 : max a b = max c d := by omega
    rw [h1, h2]
theorem stp_iff {f t : Int} : stpB s f t = true ↔ ∃ j, j < s.nM ∧ ladP s j = true ∧ ((s.A j = f ∧ s.B j = t) ∨ (s.A j = t ∧ s.B j = f)) := by
  rw [stpB, anyN_iff]
  constructor
  · rintro ⟨j, hj, h⟩
    rw [stp, Bool.and_eq_true, Bool.or_eq_true, Bool.and_eq_true, Bool.and_eq_true, decide_eq_true_eq, decide_eq_true_eq, decide_eq_true_eq, decide_eq_true_eq] at h
    exact ⟨j, hj, h⟩
  · rintro ⟨j, hj, h⟩
    refine ⟨j, hj, ?_⟩
    rw [stp, Bool.and_eq_true, Bool.or_eq_true, Bool.and_eq_true, Bool.and_eq_true, decide_eq_true_eq, decide_eq_true_eq, decide_eq_true_eq, decide_eq_true_eq]
    exact h
end
end Go.Abs
end
