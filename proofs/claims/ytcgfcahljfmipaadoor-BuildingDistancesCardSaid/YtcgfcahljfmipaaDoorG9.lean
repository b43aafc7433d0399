/- Cells at the sides of an outline; the corners of the parallel outline lie outside. -/
import Derived.Test.YtcgfcahljfmipaaDoorG6
set_option linter.unusedVariables false
namespace Go.Abs.Geo
theorem sm_le1 {f g : Nat → Int} : ∀ {n : Nat}, (∀ i, i < n → f i ≤ g i) → ∀ {k : Nat}, k < n → f k + 1 ≤ g k → sm f n + 1 ≤ sm g n
  | 0, _, k, hk, _ => absurd hk (Nat.not_lt_zero k)
  | n + 1, h, k, hk, h1 => by
    rw [sm, sm]
    by_cases e : k = n
    · subst e
      have := sm_le (n := k) fun i hi => h i (by omega)
      omega
    · have := sm_le1 (n := n) (fun i hi => h i (by omega)) (k := k) (by omega) h1
      have := h n (by omega)
      omega
/-- Sides on an edge of the grid: upright; level. -/
def ev (X Y : Nat → Int) (a b : Int) (i : Nat) : Int :=
  if X (i + 1) = X i ∧ X i = a then (if Y i ≤ b ∧ b < Y (i + 1) then 1 else if Y (i + 1) ≤ b ∧ b < Y i then -1 else 0) else 0
def eh (X Y : Nat → Int) (a b : Int) (i : Nat) : Int :=
  if Y (i + 1) = Y i ∧ Y i = b then (if X i ≤ a ∧ a < X (i + 1) then 1 else if X (i + 1) ≤ a ∧ a < X i then -1 else 0) else 0
section
variable {n : Nat} {X Y : Nat → Int}
theorem wp_v (n : Nat) (X Y : Nat → Int) (a b : Int) : wp n X Y (a - 1) b - wp n X Y a b = sm (ev X Y a b) n := by
  unfold wp
  rw [← sm_sub]
  refine sm_eq fun i _ => ?_
  unfold sv ev
  (repeat' split) <;> omega
theorem wh_h (n : Nat) (X Y : Nat → Int) (a b : Int) : wh n X Y a b - wh n X Y a (b - 1) = sm (eh X Y a b) n := by
  unfold wh
  rw [← sm_sub]
  refine sm_eq fun i _ => ?_
  unfold sh eh
  (repeat' split) <;> omega
theorem Poly.wp_h (P : Poly n X Y) (a b : Int) : wp n X Y a b - wp n X Y a (b - 1) = sm (eh X Y a b) n := by
  rw [wp_wh P.px P.py P.rect, wp_wh P.px P.py P.rect, wh_h]
/-- A point on two sides: they are one, or neighbours. -/
theorem Poly.same (P : Poly n X Y) {i j : Nat} (hi : i < n) (hj : j < n) {p q : Int} (h1 : min (X i) (X (i + 1)) ≤ p ∧ p ≤ max (X i) (X (i + 1)) ∧ min (Y i) (Y (i + 1)) ≤ q ∧ q ≤ max (Y i) (Y (i + 1)))
    (h2 : min (X j) (X (j + 1)) ≤ p ∧ p ≤ max (X j) (X (j + 1)) ∧ min (Y j) (Y (j + 1)) ≤ q ∧ q ≤ max (Y j) (Y (j + 1))) : i = j ∨ j = i + 1 ∨ i = j + 1 ∨ (i = 0 ∧ j + 1 = n) ∨ (j = 0 ∧ i + 1 = n) := by
  rcases Nat.lt_trichotomy i j with h | h | h
  · by_cases e : j = i + 1
    · exact Or.inr (Or.inl e)
    · by_cases e2 : i = 0 ∧ j + 1 = n
      · exact Or.inr (Or.inr (Or.inr (Or.inl e2)))
      · exact absurd ⟨by omega, by omega, by omega, by omega⟩ (P.far i j (by omega) (by omega))
  · exact Or.inl h
  · by_cases e : i = j + 1
    · exact Or.inr (Or.inr (Or.inl e))
    · by_cases e2 : j = 0 ∧ i + 1 = n
      · exact Or.inr (Or.inr (Or.inr (Or.inr e2)))
      · exact absurd ⟨by omega, by omega, by omega, by omega⟩ (P.far j i (by omega) (by omega))
/-- Neighbours of an upright side are level. -/
theorem Poly.alt (P : Poly n X Y) {i j : Nat} (hi : i < n) (hj : j < n) (h : j = i + 1 ∨ i = j + 1 ∨ (i = 0 ∧ j + 1 = n) ∨ (j = 0 ∧ i + 1 = n)) : (X i = X (i + 1) → X j ≠ X (j + 1)) ∧ (Y i = Y (i + 1) → Y j ≠ Y (j + 1)) := by
  have h1 := P.hv i
  have h2 := P.hv j
  have a1 := P.px 0
  have a2 := P.py 0
  have a3 := P.px 1
  have a4 := P.py 1
  rw [Nat.zero_add] at a1 a2
  rcases h with rfl | rfl | ⟨rfl, h⟩ | ⟨rfl, h⟩
  · rw [show i + 1 + 1 = i + 2 from rfl] at *; omega
  · rw [show j + 1 + 1 = j + 2 from rfl] at *; omega
  · have e1 : j + 2 = 1 + n := by omega
    rw [e1, h] at h2
    rw [h]
    simp only [Nat.zero_add] at *; omega
  · have e1 : i + 2 = 1 + n := by omega
    rw [e1, h] at h1
    rw [h]
    simp only [Nat.zero_add] at *; omega
theorem Poly.ev_one (P : Poly n X Y) {j : Nat} (hj : j < n) {a b : Int} (h : ev X Y a b j ≠ 0) : sm (ev X Y a b) n = ev X Y a b j := by
  have key : sm (fun s => if s < n then ev X Y a b s else 0) n = (fun s => if s < n then ev X Y a b s else 0) j := sm_one (fun s hs => by
    show (if s < n then ev X Y a b s else 0) = 0
    split
    · rename_i h1
      refine Classical.byContradiction fun h2 => ?_
      unfold ev at h h2
      have q1 : X (j + 1) = X j ∧ X j = a ∧ ((Y j ≤ b ∧ b < Y (j + 1)) ∨ (Y (j + 1) ≤ b ∧ b < Y j)) := by (repeat' split at h) <;> omega
      have q2 : X (s + 1) = X s ∧ X s = a ∧ ((Y s ≤ b ∧ b < Y (s + 1)) ∨ (Y (s + 1) ≤ b ∧ b < Y s)) := by (repeat' split at h2) <;> omega
      have q3 := P.same (p := a) (q := b) h1 hj (by omega) (by omega)
      have q4 : s = j := by
        rcases q3 with h | h
        · exact h
        · exact absurd q1.1.symm ((P.alt h1 hj h).1 q2.1.symm)
      exact hs q4
    · rfl) hj
  rw [sm_eq (g := fun s => if s < n then ev X Y a b s else 0) fun i hi => (if_pos hi).symm, key]
  exact if_pos hj
theorem Poly.eh_one (P : Poly n X Y) {j : Nat} (hj : j < n) {a b : Int} (h : eh X Y a b j ≠ 0) : sm (eh X Y a b) n = eh X Y a b j := by
  have key : sm (fun s => if s < n then eh X Y a b s else 0) n = (fun s => if s < n then eh X Y a b s else 0) j := sm_one (fun s hs => by
    show (if s < n then eh X Y a b s else 0) = 0
    split
    · rename_i h1
      refine Classical.byContradiction fun h2 => ?_
      unfold eh at h h2
      have q1 : Y (j + 1) = Y j ∧ Y j = b ∧ ((X j ≤ a ∧ a < X (j + 1)) ∨ (X (j + 1) ≤ a ∧ a < X j)) := by (repeat' split at h) <;> omega
      have q2 : Y (s + 1) = Y s ∧ Y s = b ∧ ((X s ≤ a ∧ a < X (s + 1)) ∨ (X (s + 1) ≤ a ∧ a < X s)) := by (repeat' split at h2) <;> omega
      have q3 := P.same (p := a) (q := b) h1 hj (by omega) (by omega)
      have q4 : s = j := by
        rcases q3 with h | h
        · exact h
        · exact absurd q1.1.symm ((P.alt h1 hj h).2 q2.1.symm)
      exact hs q4
    · rfl) hj
  rw [sm_eq (g := fun s => if s < n then eh X Y a b s else 0) fun i hi => (if_pos hi).symm, key]
  exact if_pos hj
/-- To the left of a side is the region, to the right is none. -/
theorem Poly.up (P : Poly n X Y) (hw : ∀ a b, wp n X Y a b = 0 ∨ wp n X Y a b = 1) {j : Nat} (hj : j < n) {b : Int} (hx : X (j + 1) = X j) (h : Y j ≤ b ∧ b < Y (j + 1)) : wp n X Y (X j - 1) b = 1 ∧ wp n X Y (X j) b = 0 := by
  have e : ev X Y (X j) b j = 1 := by unfold ev; rw [if_pos ⟨hx, rfl⟩, if_pos h]
  have e2 := wp_v n X Y (X j) b
  rw [P.ev_one hj (by rw [e]; decide), e] at e2
  have := hw (X j - 1) b
  have := hw (X j) b
  omega
theorem Poly.down (P : Poly n X Y) (hw : ∀ a b, wp n X Y a b = 0 ∨ wp n X Y a b = 1) {j : Nat} (hj : j < n) {b : Int} (hx : X (j + 1) = X j) (h : Y (j + 1) ≤ b ∧ b < Y j) : wp n X Y (X j - 1) b = 0 ∧ wp n X Y (X j) b = 1 := by
  have e : ev X Y (X j) b j = -1 := by unfold ev; rw [if_pos ⟨hx, rfl⟩, if_neg (by omega), if_pos h]
  have e2 := wp_v n X Y (X j) b
  rw [P.ev_one hj (by rw [e]; decide), e] at e2
  have := hw (X j - 1) b
  have := hw (X j) b
  omega
theorem Poly.east (P : Poly n X Y) (hw : ∀ a b, wp n X Y a b = 0 ∨ wp n X Y a b = 1) {j : Nat} (hj : j < n) {a : Int} (hx : Y (j + 1) = Y j) (h : X j ≤ a ∧ a < X (j + 1)) : wp n X Y a (Y j) = 1 ∧ wp n X Y a (Y j - 1) = 0 := by
  have e : eh X Y a (Y j) j = 1 := by unfold eh; rw [if_pos ⟨hx, rfl⟩, if_pos h]
  have e2 := P.wp_h a (Y j)
  rw [P.eh_one hj (by rw [e]; decide), e] at e2
  have := hw a (Y j - 1)
  have := hw a (Y j)
  omega
theorem Poly.west (P : Poly n X Y) (hw : ∀ a b, wp n X Y a b = 0 ∨ wp n X Y a b = 1) {j : Nat} (hj : j < n) {a : Int} (hx : Y (j + 1) = Y j) (h : X (j + 1) ≤ a ∧ a < X j) : wp n X Y a (Y j) = 0 ∧ wp n X Y a (Y j - 1) = 1 := by
  have e : eh X Y a (Y j) j = -1 := by unfold eh; rw [if_pos ⟨hx, rfl⟩, if_neg (by omega), if_pos h]
  have e2 := P.wp_h a (Y j)
  rw [P.eh_one hj (by rw [e]; decide), e] at e2
  have := hw a (Y j - 1)
  have := hw a (Y j)
  omega
/-- Where no side passes, neighbouring cells are alike. -/
def OnS (n : Nat) (X Y : Nat → Int) (p q : Int) : Prop := ∃ i, i < n ∧ min (X i) (X (i + 1)) ≤ p ∧ p ≤ max (X i) (X (i + 1)) ∧ min (Y i) (Y (i + 1)) ≤ q ∧ q ≤ max (Y i) (Y (i + 1))
theorem Poly.alike (P : Poly n X Y) {p q : Int} (h : ¬ OnS n X Y p q) {a b : Int} (ha : a = p ∨ a = p - 1) (hb : b = q ∨ b = q - 1) : wp n X Y a b = wp n X Y p q := by
  have v : ∀ b, (b = q ∨ b = q - 1) → wp n X Y (p - 1) b = wp n X Y p b := fun b hb => by
    have e := wp_v n X Y p b
    rw [sm_eq (g := fun _ => 0) fun i hi => ?_, sm_zero] at e
    · omega
    · refine Classical.byContradiction fun h2 => h ⟨i, hi, ?_⟩
      unfold ev at h2
      (repeat' split at h2) <;> omega
  have u : wp n X Y p q = wp n X Y p (q - 1) := by
    have e := P.wp_h p q
    rw [sm_eq (g := fun _ => 0) fun i hi => ?_, sm_zero] at e
    · omega
    · refine Classical.byContradiction fun h2 => h ⟨i, hi, ?_⟩
      unfold eh at h2
      (repeat' split at h2) <;> omega
  have v1 := v q (Or.inl rfl)
  have v2 := v (q - 1) (Or.inr rfl)
  rcases ha with rfl | rfl <;> rcases hb with rfl | rfl <;> omega
end
end Go.Abs.Geo
