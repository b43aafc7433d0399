/- The program's outlines are outlines in the plane. -/
import Derived.Test.YtcgfcahljfmipaaDoorG6
import Derived.Test.YtcgfcahljfmipaaDoorK40
set_option linter.unusedVariables false
namespace Go.Abs.Geo
open Go.Abs
/-- A list that goes round. -/
def cyc (n : Nat) (X : Nat → Int) (i : Nat) : Int := X (i % n)
theorem cyc_per (n : Nat) (X : Nat → Int) (i : Nat) : cyc n X (i + n) = cyc n X i := by unfold cyc; rw [Nat.add_mod_right]
theorem ix_nat (n i : Nat) : ix n (i : Int) = i % n := by
  unfold ix
  rw [Int.add_emod_right]
  omega
theorem ix_nat1 (n i : Nat) : ix n ((i : Int) + 1) = (i + 1) % n := ix_nat n (i + 1)
theorem cyc_at {n : Nat} {X : Nat → Int} {i : Nat} (h : i < n) : cyc n X i = X i := by unfold cyc; rw [Nat.mod_eq_of_lt h]
theorem ix_at (n : Nat) (X : Nat → Int) (i : Nat) : X (ix n (i : Int)) = cyc n X i ∧ X (ix n ((i : Int) + 1)) = cyc n X (i + 1) := by
  rw [ix_nat, ix_nat1]; exact ⟨rfl, rfl⟩
/-- The side before a corner. -/
theorem ix_prev {n : Nat} (X : Nat → Int) (i : Nat) : X (ix n (i : Int)) = cyc n X i ∧ X (ix n (((i + 1 : Nat) : Int) - 1)) = cyc n X i ∧ X (ix n (((i + 1 : Nat) : Int) - 1 + 1)) = cyc n X (i + 1) := by
  rw [show ((i + 1 : Nat) : Int) - 1 = (i : Int) by omega]
  exact ⟨(ix_at n X i).1, (ix_at n X i).1, (ix_at n X i).2⟩
section
variable {n : Nat} {X Y : Nat → Int}
theorem dD_nat (n : Nat) (X Y : Nat → Int) (i : Nat) : dD n X Y i = dirD (cyc n X i) (cyc n Y i) (cyc n X (i + 1)) (cyc n Y (i + 1)) := by
  unfold dD
  rw [(ix_at n X i).1, (ix_at n X i).2, (ix_at n Y i).1, (ix_at n Y i).2]
theorem dO_nat (n : Nat) (X Y : Nat → Int) (i : Nat) : dO n X Y i = dirOk (cyc n X i) (cyc n Y i) (cyc n X (i + 1)) (cyc n Y (i + 1)) := by
  unfold dO
  rw [(ix_at n X i).1, (ix_at n X i).2, (ix_at n Y i).1, (ix_at n Y i).2]
theorem ix_add (n : Nat) (a : Int) : ix n (a + n) = ix n a := by unfold ix; rw [Int.add_emod_right]
/-- One may count the sides on and on. -/
theorem dD_per (n : Nat) (X Y : Nat → Int) (a : Int) : dD n X Y (a + n) = dD n X Y a := by
  unfold dD
  rw [show a + (n : Int) + 1 = a + 1 + n by omega, ix_add, ix_add]
theorem dO_per (n : Nat) (X Y : Nat → Int) (a : Int) : dO n X Y (a + n) = dO n X Y a := by
  unfold dO
  rw [show a + (n : Int) + 1 = a + 1 + n by omega, ix_add, ix_add]
theorem form_all (h : ∀ i, i < n → formOk n X Y i = true) (hn : 0 < n) (i : Nat) : formOk n X Y i = true := by
  have key : ∀ k j : Nat, formOk n X Y (j + n * k) = formOk n X Y j := fun k => by
    induction k with
    | zero => intro j; rfl
    | succ k ih =>
      intro j
      rw [Nat.mul_succ, ← Nat.add_assoc, ← ih j]
      unfold formOk
      rw [show ((j + n * k + n : Nat) : Int) = ((j + n * k : Nat) : Int) + n by omega, show ((j + n * k : Nat) : Int) + (n : Int) - 1 = ((j + n * k : Nat) : Int) - 1 + n by omega, dO_per, dO_per, dD_per, dD_per]
  have e := Nat.mod_add_div i n
  rw [← e, key]
  exact h _ (Nat.mod_lt _ hn)
theorem form_nat {i : Nat} (h : formOk n X Y (i + 1) = true) (_ : 0 < n) :
    (cyc n X i ≠ cyc n X (i + 1) ∧ cyc n Y i = cyc n Y (i + 1) ∧ cyc n X (i + 1) = cyc n X (i + 2) ∧ cyc n Y (i + 1) ≠ cyc n Y (i + 2)) ∨ (cyc n X i = cyc n X (i + 1) ∧ cyc n Y i ≠ cyc n Y (i + 1) ∧ cyc n X (i + 1) ≠ cyc n X (i + 2) ∧ cyc n Y (i + 1) = cyc n Y (i + 2)) := by
  unfold formOk at h
  rw [show ((i + 1 : Nat) : Int) - 1 = (i : Int) by omega, dO_nat, dO_nat, dD_nat, dD_nat] at h
  rw [show i + 1 + 1 = i + 2 from rfl] at h
  simp only [Bool.and_eq_true, decide_eq_true_eq, dirOk] at h
  obtain ⟨⟨h1, h2⟩, h3⟩ := h
  unfold dirD at h3
  generalize cyc n X i = a at *
  generalize cyc n X (i + 1) = b at *
  generalize cyc n X (i + 2) = c at *
  generalize cyc n Y i = a' at *
  generalize cyc n Y (i + 1) = b' at *
  generalize cyc n Y (i + 2) = c' at *
  rcases h1 with ⟨p1, p2⟩ | ⟨p1, p2⟩ <;> rcases h2 with ⟨q1, q2⟩ | ⟨q1, q2⟩
  · exfalso; (repeat' split at h3) <;> omega
  · exact Or.inr ⟨q1, q2, p2, p1⟩
  · exact Or.inl ⟨q2, q1, p1, p2⟩
  · exfalso; (repeat' split at h3) <;> omega
/-- Two sides that are no neighbours do not touch. -/
def Clear (n : Nat) (X Y : Nat → Int) (i j : Nat) : Prop := ¬ (min (cyc n X i) (cyc n X (i + 1)) ≤ max (cyc n X j) (cyc n X (j + 1)) ∧ min (cyc n X j) (cyc n X (j + 1)) ≤ max (cyc n X i) (cyc n X (i + 1)) ∧ min (cyc n Y i) (cyc n Y (i + 1)) ≤ max (cyc n Y j) (cyc n Y (j + 1)) ∧ min (cyc n Y j) (cyc n Y (j + 1)) ≤ max (cyc n Y i) (cyc n Y (i + 1)))
theorem clear_sym {i j : Nat} (h : Clear n X Y i j) : Clear n X Y j i := fun h' => h ⟨h'.2.1, h'.1, h'.2.2.2, h'.2.2.1⟩
theorem clear_of {i j : Nat} (h : clash n X Y i j = false) (h1 : ((j : Int) + 1) % (n : Int) ≠ (i : Int)) : Clear n X Y i j := by
  unfold clash at h
  rw [decide_eq_true h1, Bool.true_and] at h
  unfold touF at h
  rw [decide_eq_false_iff_not] at h
  unfold lo hi at h
  rw [(ix_at n X i).1, (ix_at n X i).2, (ix_at n Y i).1, (ix_at n Y i).2, (ix_at n X j).1, (ix_at n X j).2, (ix_at n Y j).1, (ix_at n Y j).2] at h
  exact h
theorem clear_per (i j : Nat) : (Clear n X Y (i + n) j ↔ Clear n X Y i j) ∧ (Clear n X Y i (j + n) ↔ Clear n X Y i j) := by
  unfold Clear
  rw [show i + n + 1 = i + 1 + n by omega, show j + n + 1 = j + 1 + n by omega]
  simp only [cyc_per, and_self]
theorem clear_mod (i j : Nat) : Clear n X Y i j ↔ Clear n X Y (i % n) (j % n) := by
  have k1 : ∀ k a b : Nat, Clear n X Y (a + n * k) b ↔ Clear n X Y a b := fun k => by
    induction k with
    | zero => exact fun a b => Iff.rfl
    | succ k ih => intro a b; rw [Nat.mul_succ, ← Nat.add_assoc, (clear_per _ _).1, ih]
  have k2 : ∀ k a b : Nat, Clear n X Y a (b + n * k) ↔ Clear n X Y a b := fun k => by
    induction k with
    | zero => exact fun a b => Iff.rfl
    | succ k ih => intro a b; rw [Nat.mul_succ, ← Nat.add_assoc, (clear_per _ _).2, ih]
  have e : Clear n X Y (i % n + n * (i / n)) (j % n + n * (j / n)) ↔ Clear n X Y (i % n) (j % n) := by rw [k1, k2]
  rwa [Nat.mod_add_div, Nat.mod_add_div] at e
theorem mod_shift {n i j : Nat} (hn : 2 < n) (h1 : i + 1 < j) (h2 : j + 1 < i + n) : (i % n + 2 ≤ j % n ∧ (j % n + 1) % n ≠ i % n) ∨ (j % n + 2 ≤ i % n ∧ (i % n + 1) % n ≠ j % n) := by
  have a := Nat.mod_add_div i n
  have b := Nat.mod_add_div j n
  have c := Nat.mod_lt i (show 0 < n by omega)
  have d := Nat.mod_lt j (show 0 < n by omega)
  generalize hi : i % n = r at *
  generalize hj : j % n = s at *
  generalize i / n = p at *
  generalize j / n = q at *
  -- q = p or q = p + 1
  have hpq : q = p ∨ q = p + 1 := by
    rcases Nat.lt_trichotomy q p with h | h | h
    · have := Nat.mul_le_mul_left n (show q + 1 ≤ p from h)
      rw [Nat.mul_succ] at this
      omega
    · exact Or.inl h
    · right
      refine Nat.le_antisymm ?_ h
      refine Nat.le_of_not_lt fun h' => ?_
      have := Nat.mul_le_mul_left n (show p + 2 ≤ q from h')
      rw [show n * (p + 2) = n * p + n + n by rw [Nat.mul_add]; omega] at this
      omega
  rcases hpq with rfl | rfl
  · left
    refine ⟨by omega, ?_⟩
    by_cases e : s + 1 = n
    · rw [e, Nat.mod_self]; omega
    · rw [Nat.mod_eq_of_lt (by omega)]; omega
  · right
    rw [show n * (p + 1) = n * p + n from Nat.mul_succ n p] at b
    refine ⟨by omega, ?_⟩
    by_cases e : r + 1 = n
    · rw [e, Nat.mod_self]; omega
    · rw [Nat.mod_eq_of_lt (by omega)]; omega
/-- An accepted outline. -/
theorem chk_poly (h : chk n X Y = 0) : Poly n (cyc n X) (cyc n Y) := by
  obtain ⟨hn, _, hf, hc, _⟩ := chk_zero h
  have hf := form_all hf (by omega)
  refine ⟨hn.1, cyc_per n X, cyc_per n Y, fun i => form_nat (hf (i + 1)) (by omega), fun i j h1 h2 => ?_⟩
  show Clear n X Y i j
  rw [clear_mod]
  have c := Nat.mod_lt i (show 0 < n by omega)
  have d := Nat.mod_lt j (show 0 < n by omega)
  rcases mod_shift (by omega) h1 h2 with ⟨h3, h4⟩ | ⟨h3, h4⟩
  · exact clear_of (hc _ c _ d h3) (by exact_mod_cast h4)
  · exact clear_sym (clear_of (hc _ d _ c h3) (by exact_mod_cast h4))
/-- Twice the area. -/
theorem twS_ar (hq : Rect (cyc n X) (cyc n Y)) : twS n X Y n = 2 * ar n (cyc n X) (cyc n Y) := by
  have h1 : ∀ k, twS n X Y k = sm (fun i => cyc n X i * cyc n Y (i + 1) - cyc n X (i + 1) * cyc n Y i) k := fun k => by
    induction k with
    | zero => rfl
    | succ k ih => rw [twS, ih, (ix_at n X k).1, (ix_at n X k).2, (ix_at n Y k).1, (ix_at n Y k).2]; rfl
  have h2 : ∀ i, cyc n X i * cyc n Y (i + 1) - cyc n X (i + 1) * cyc n Y i = 2 * (cyc n X i * (cyc n Y (i + 1) - cyc n Y i)) - (cyc n X (i + 1) * cyc n Y (i + 1) - cyc n X i * cyc n Y i) := fun i => by
    have := hq i
    generalize cyc n X i = a at *
    generalize cyc n X (i + 1) = b at *
    generalize cyc n Y i = c at *
    generalize cyc n Y (i + 1) = e at *
    rcases this with rfl | rfl <;> grind
  have e0 : cyc n X n * cyc n Y n = cyc n X 0 * cyc n Y 0 := by
    have a1 := cyc_per n X 0
    have a2 := cyc_per n Y 0
    rw [Nat.zero_add] at a1 a2
    rw [a1, a2]
  rw [h1, sm_eq fun i _ => h2 i, sm_sub, sm_mul, sm_tel (fun i => cyc n X i * cyc n Y i), e0, Int.sub_self, Int.sub_zero]
  rfl
theorem chk_good (h : chk n X Y = 0) : sm (cr (cyc n X) (cyc n Y)) n = 8 ∧ ∀ a b, wp n (cyc n X) (cyc n Y) a b = 0 ∨ wp n (cyc n X) (cyc n Y) a b = 1 := by
  have P := chk_poly h
  have h1 := (chk_zero h).2.2.2.2
  rw [twS_ar P.rect] at h1
  exact P.good (by omega)
end
end Go.Abs.Geo
