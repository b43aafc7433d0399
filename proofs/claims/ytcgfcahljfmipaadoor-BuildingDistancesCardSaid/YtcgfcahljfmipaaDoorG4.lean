/- How often a closed walk goes round a cell. Outlines: how often they go round a cell, by their sides; their area; their turns. -/
import Derived.Test.YtcgfcahljfmipaaDoorG2
section
set_option linter.unusedVariables false
namespace Go.Abs.Geo

/-- What a step adds to how often one goes round the cell (a, b): it is crossed by the ray to the right. -/
def wv (x y : Nat → Int) (a b : Int) (t : Nat) : Int :=
  if x (t + 1) = x t ∧ a < x t then (if y t = b ∧ y (t + 1) = b + 1 then 1 else if y t = b + 1 ∧ y (t + 1) = b then -1 else 0) else 0
def ve (x y : Nat → Int) (a b : Int) (t : Nat) : Int :=
  if x t = a ∧ x (t + 1) = a then (if y t = b ∧ y (t + 1) = b + 1 then 1 else if y t = b + 1 ∧ y (t + 1) = b then -1 else 0) else 0
def he (x y : Nat → Int) (a b : Int) (t : Nat) : Int :=
  if y t = b ∧ y (t + 1) = b then (if x t = a ∧ x (t + 1) = a + 1 then 1 else if x t = a + 1 ∧ x (t + 1) = a then -1 else 0) else 0
def wn (N : Nat) (x y : Nat → Int) (a b : Int) : Int := sm (wv x y a b) N
def rayF (x y : Nat → Int) (a b : Int) (t : Nat) : Int := if y t = b ∧ a < x t then 1 else 0
theorem sm_tel (f : Nat → Int) : ∀ n, sm (fun t => f (t + 1) - f t) n = f n - f 0
  | 0 => by show (0 : Int) = _; omega
  | n + 1 => by rw [sm, sm_tel f n]; omega
theorem sm_sub (f g : Nat → Int) : ∀ n, sm (fun i => f i - g i) n = sm f n - sm g n
  | 0 => rfl
  | n + 1 => by rw [sm, sm, sm, sm_sub f g n]; omega
theorem sm_one {f : Nat → Int} {t : Nat} (h : ∀ s, s ≠ t → f s = 0) : ∀ {n : Nat}, t < n → sm f n = f t
  | 0, hn => absurd hn (Nat.not_lt_zero t)
  | n + 1, hn => by
    rw [sm]
    by_cases e : t = n
    · subst e
      have : sm f t = 0 := by
        rw [sm_eq (g := fun _ => 0) fun i hi => h i (by omega), sm_zero]
      omega
    · rw [sm_one h (by omega), h n (by omega)]; omega
section
variable {N : Nat} {x y : Nat → Int}
theorem wn_v (N : Nat) (x y : Nat → Int) (a b : Int) : wn N x y (a - 1) b - wn N x y a b = sm (ve x y a b) N := by
  unfold wn
  rw [← sm_sub]
  refine sm_eq fun t _ => ?_
  unfold wv ve
  (repeat' split) <;> omega
theorem Loop.wn_h (L : Loop N x y) (a b : Int) : wn N x y a b - wn N x y a (b - 1) = sm (he x y a b) N := by
  have h := sm_tel (rayF x y a b) N
  have e : rayF x y a b N = rayF x y a b 0 := by
    have e1 := L.px 0
    have e2 := L.py 0
    rw [Nat.zero_add] at e1 e2
    unfold rayF
    rw [e1, e2]
  rw [e, Int.sub_self] at h
  unfold wn
  have k : sm (fun t => he x y a b t - (wv x y a b t - wv x y a (b - 1) t)) N = 0 := by
    rw [← h]
    refine sm_eq fun t _ => ?_
    have s := L.step t
    unfold near at s
    unfold he wv rayF
    (repeat' split) <;> omega
  rw [sm_sub, sm_sub] at k
  omega
theorem Loop.uniq (L : Loop N x y) {s t : Nat} (hs : s < N) (ht : t < N) (h1 : x s = x t) (h2 : y s = y t) : s = t := by
  rcases Nat.lt_trichotomy s t with h | h | h
  · have := L.inj s t h ht; omega
  · exact h
  · have := L.inj t s h hs; omega
theorem Loop.next (L : Loop N x y) {s t : Nat} (hs : s < N) (ht : t < N) (h1 : x (s + 1) = x (t + 1)) (h2 : y (s + 1) = y (t + 1)) : s = t := by
  have hb := L.big
  have e1 := L.px 0
  have e2 := L.py 0
  rw [Nat.zero_add] at e1 e2
  by_cases h3 : s + 1 = N
  · by_cases h4 : t + 1 = N
    · omega
    · rw [h3, e1] at h1
      rw [h3, e2] at h2
      have := L.uniq (show 0 < N by omega) (show t + 1 < N by omega) h1 h2
      omega
  · by_cases h4 : t + 1 = N
    · rw [h4, e1] at h1
      rw [h4, e2] at h2
      have := L.uniq (show s + 1 < N by omega) (show 0 < N by omega) h1 h2
      omega
    · have := L.uniq (show s + 1 < N by omega) (show t + 1 < N by omega) h1 h2
      omega
/-- No step goes back along another. -/
theorem Loop.noback (L : Loop N x y) {s t : Nat} (hs : s < N) (ht : t < N) : ¬ (x s = x (t + 1) ∧ y s = y (t + 1) ∧ x (s + 1) = x t ∧ y (s + 1) = y t) := by
  intro ⟨h1, h2, h3, h4⟩
  have hb := L.big
  have e1 := L.px 0
  have e2 := L.py 0
  rw [Nat.zero_add] at e1 e2
  by_cases h5 : t + 1 = N
  · rw [h5, e1] at h1
    rw [h5, e2] at h2
    have := L.uniq hs (show 0 < N by omega) h1 h2
    subst this
    have := L.uniq (show 0 + 1 < N by omega) ht h3 h4
    omega
  · have := L.uniq hs (show t + 1 < N by omega) h1 h2
    subst this
    by_cases h6 : t + 1 + 1 = N
    · rw [h6, e1] at h3
      rw [h6, e2] at h4
      have := L.uniq (show 0 < N by omega) ht h3 h4
      omega
    · have := L.uniq (show t + 1 + 1 < N by omega) ht h3 h4
      omega
theorem Loop.ve_at (L : Loop N x y) {t : Nat} (ht : t < N) {a b : Int} (h : ve x y a b t ≠ 0) : sm (ve x y a b) N = ve x y a b t := by
  have key : sm (fun s => if s < N then ve x y a b s else 0) N = (fun s => if s < N then ve x y a b s else 0) t := sm_one (fun s hs => by
    show (if s < N then ve x y a b s else 0) = 0
    split
    · rename_i h1
      have n1 := L.noback h1 ht
      have n2 : ¬ (x s = x t ∧ y s = y t) := fun e => hs (L.uniq h1 ht e.1 e.2)
      unfold ve at h ⊢
      (repeat' split) <;> (repeat' split at h) <;> omega
    · rfl) ht
  rw [sm_eq (g := fun s => if s < N then ve x y a b s else 0) fun i hi => (if_pos hi).symm, key]
  exact if_pos ht
theorem Loop.he_at (L : Loop N x y) {t : Nat} (ht : t < N) {a b : Int} (h : he x y a b t ≠ 0) : sm (he x y a b) N = he x y a b t := by
  have key : sm (fun s => if s < N then he x y a b s else 0) N = (fun s => if s < N then he x y a b s else 0) t := sm_one (fun s hs => by
    show (if s < N then he x y a b s else 0) = 0
    split
    · rename_i h1
      have n1 := L.noback h1 ht
      have n2 : ¬ (x s = x t ∧ y s = y t) := fun e => hs (L.uniq h1 ht e.1 e.2)
      unfold he at h ⊢
      (repeat' split) <;> (repeat' split at h) <;> omega
    · rfl) ht
  rw [sm_eq (g := fun s => if s < N then he x y a b s else 0) fun i hi => (if_pos hi).symm, key]
  exact if_pos ht
/-- At a point of the walk, an edge that is neither of its two steps is no step at all. -/
theorem Loop.ve_no (L : Loop N x y) {t : Nat} (ht : t + 1 < N) {a b : Int} (hq : a = x (t + 1)) (hb : b = y (t + 1) ∨ b + 1 = y (t + 1))
    (h1 : ve x y a b t = 0) (h2 : ve x y a b (t + 1) = 0) : sm (ve x y a b) N = 0 := by
  rw [sm_eq (g := fun _ => 0) fun s hs => ?_, sm_zero]
  by_cases e1 : s = t
  · subst e1; exact h1
  by_cases e2 : s = t + 1
  · subst e2; exact h2
  have n1 : ¬ (x s = x (t + 1) ∧ y s = y (t + 1)) := fun e => e2 (L.uniq hs ht e.1 e.2)
  have n2 : ¬ (x (s + 1) = x (t + 1) ∧ y (s + 1) = y (t + 1)) := fun e => e1 (L.next hs (by omega) e.1 e.2)
  clear h1 h2
  unfold ve
  (repeat' split) <;> omega
theorem Loop.he_no (L : Loop N x y) {t : Nat} (ht : t + 1 < N) {a b : Int} (hq : b = y (t + 1)) (hb : a = x (t + 1) ∨ a + 1 = x (t + 1))
    (h1 : he x y a b t = 0) (h2 : he x y a b (t + 1) = 0) : sm (he x y a b) N = 0 := by
  rw [sm_eq (g := fun _ => 0) fun s hs => ?_, sm_zero]
  by_cases e1 : s = t
  · subst e1; exact h1
  by_cases e2 : s = t + 1
  · subst e2; exact h2
  have n1 : ¬ (x s = x (t + 1) ∧ y s = y (t + 1)) := fun e => e2 (L.uniq hs ht e.1 e.2)
  have n2 : ¬ (x (s + 1) = x (t + 1) ∧ y (s + 1) = y (t + 1)) := fun e => e1 (L.next hs (by omega) e.1 e.2)
  clear h1 h2
  unfold he
  (repeat' split) <;> omega
/-- The cell to the left of a step. -/
def lx (x : Nat → Int) (y : Nat → Int) (t : Nat) : Int := if x t < x (t + 1) then x t else if y t < y (t + 1) then x t - 1 else if x (t + 1) < x t then x t - 1 else x t
def ly (x : Nat → Int) (y : Nat → Int) (t : Nat) : Int := if x t < x (t + 1) then y t else if y t < y (t + 1) then y t else y t - 1
theorem Loop.left (L : Loop N x y) {t : Nat} (ht : t + 1 < N) : wn N x y (lx x y t) (ly x y t) = wn N x y (lx x y (t + 1)) (ly x y (t + 1)) := by
  have s1 := L.step t
  have s2 := L.step (t + 1)
  have nb := L.noback (s := t + 1) (t := t) ht (by omega)
  have q1 : t + 1 + 1 = t + 2 := rfl
  rw [q1] at s2 nb
  have hN : ve x y (x (t + 1)) (y (t + 1)) t = 0 → ve x y (x (t + 1)) (y (t + 1)) (t + 1) = 0 → wn N x y (x (t + 1) - 1) (y (t + 1)) = wn N x y (x (t + 1)) (y (t + 1)) := fun h1 h2 => by
    have := wn_v N x y (x (t + 1)) (y (t + 1)); rw [L.ve_no ht rfl (Or.inl rfl) h1 h2] at this; omega
  have hS : ve x y (x (t + 1)) (y (t + 1) - 1) t = 0 → ve x y (x (t + 1)) (y (t + 1) - 1) (t + 1) = 0 → wn N x y (x (t + 1) - 1) (y (t + 1) - 1) = wn N x y (x (t + 1)) (y (t + 1) - 1) := fun h1 h2 => by
    have := wn_v N x y (x (t + 1)) (y (t + 1) - 1); rw [L.ve_no ht rfl (Or.inr (by omega)) h1 h2] at this; omega
  have hE : he x y (x (t + 1)) (y (t + 1)) t = 0 → he x y (x (t + 1)) (y (t + 1)) (t + 1) = 0 → wn N x y (x (t + 1)) (y (t + 1)) = wn N x y (x (t + 1)) (y (t + 1) - 1) := fun h1 h2 => by
    have := L.wn_h (x (t + 1)) (y (t + 1)); rw [L.he_no ht rfl (Or.inl rfl) h1 h2] at this; omega
  have hW : he x y (x (t + 1) - 1) (y (t + 1)) t = 0 → he x y (x (t + 1) - 1) (y (t + 1)) (t + 1) = 0 → wn N x y (x (t + 1) - 1) (y (t + 1)) = wn N x y (x (t + 1) - 1) (y (t + 1) - 1) := fun h1 h2 => by
    have := L.wn_h (x (t + 1) - 1) (y (t + 1)); rw [L.he_no ht rfl (Or.inr (by omega)) h1 h2] at this; omega
  unfold ve at hN hS
  unfold he at hE hW
  rw [q1] at hN hS hE hW
  unfold near at s1 s2
  unfold lx ly
  rw [q1]
  generalize x (t + 1) = p at *
  generalize y (t + 1) = q at *
  generalize x (t + 2) = p2 at *
  generalize y (t + 2) = q2 at *
  generalize x t = p0 at *
  generalize y t = q0 at *
  generalize hWf : wn N x y = W at *
  clear hWf L
  have hn : ∀ {P : Prop} [Decidable P] {Q : Prop} [Decidable Q] {R : Prop} [Decidable R], (P → ¬ Q ∧ ¬ R) → (if P then (if Q then (1 : Int) else if R then -1 else 0) else 0) = 0 := fun h => by
    split
    · rename_i hp; rw [if_neg (h hp).1, if_neg (h hp).2]
    · rfl
  rcases s1 with ⟨i1, i2 | i2⟩ | ⟨i1, i2 | i2⟩ <;> rcases s2 with ⟨o1, o2 | o2⟩ | ⟨o1, o2 | o2⟩
  · have c1 : (if p0 < p then p0 else if q0 < q then p0 - 1 else if p < p0 then p0 - 1 else p0) = (p - 1) := by (repeat' split) <;> omega
    have c2 : (if p0 < p then q0 else if q0 < q then q0 else q0 - 1) = (q - 1) := by (repeat' split) <;> omega
    have c3 : (if p < p2 then p else if q < q2 then p - 1 else if p2 < p then p - 1 else p) = (p - 1) := by (repeat' split) <;> omega
    have c4 : (if p < p2 then q else if q < q2 then q else q - 1) = q := by (repeat' split) <;> omega
    rw [c1, c2, c3, c4]
    have := hW (hn (by omega)) (hn (by omega))
    omega
  · exact absurd ⟨by omega, by omega, by omega, by omega⟩ nb
  · have c1 : (if p0 < p then p0 else if q0 < q then p0 - 1 else if p < p0 then p0 - 1 else p0) = (p - 1) := by (repeat' split) <;> omega
    have c2 : (if p0 < p then q0 else if q0 < q then q0 else q0 - 1) = (q - 1) := by (repeat' split) <;> omega
    have c3 : (if p < p2 then p else if q < q2 then p - 1 else if p2 < p then p - 1 else p) = p := by (repeat' split) <;> omega
    have c4 : (if p < p2 then q else if q < q2 then q else q - 1) = q := by (repeat' split) <;> omega
    rw [c1, c2, c3, c4]
    have := hW (hn (by omega)) (hn (by omega))
    have := hN (hn (by omega)) (hn (by omega))
    omega
  · have c1 : (if p0 < p then p0 else if q0 < q then p0 - 1 else if p < p0 then p0 - 1 else p0) = (p - 1) := by (repeat' split) <;> omega
    have c2 : (if p0 < p then q0 else if q0 < q then q0 else q0 - 1) = (q - 1) := by (repeat' split) <;> omega
    have c3 : (if p < p2 then p else if q < q2 then p - 1 else if p2 < p then p - 1 else p) = (p - 1) := by (repeat' split) <;> omega
    have c4 : (if p < p2 then q else if q < q2 then q else q - 1) = (q - 1) := by (repeat' split) <;> omega
    rw [c1, c2, c3, c4]
    skip
  · exact absurd ⟨by omega, by omega, by omega, by omega⟩ nb
  · have c1 : (if p0 < p then p0 else if q0 < q then p0 - 1 else if p < p0 then p0 - 1 else p0) = p := by (repeat' split) <;> omega
    have c2 : (if p0 < p then q0 else if q0 < q then q0 else q0 - 1) = q := by (repeat' split) <;> omega
    have c3 : (if p < p2 then p else if q < q2 then p - 1 else if p2 < p then p - 1 else p) = p := by (repeat' split) <;> omega
    have c4 : (if p < p2 then q else if q < q2 then q else q - 1) = (q - 1) := by (repeat' split) <;> omega
    rw [c1, c2, c3, c4]
    have := hE (hn (by omega)) (hn (by omega))
    omega
  · have c1 : (if p0 < p then p0 else if q0 < q then p0 - 1 else if p < p0 then p0 - 1 else p0) = p := by (repeat' split) <;> omega
    have c2 : (if p0 < p then q0 else if q0 < q then q0 else q0 - 1) = q := by (repeat' split) <;> omega
    have c3 : (if p < p2 then p else if q < q2 then p - 1 else if p2 < p then p - 1 else p) = p := by (repeat' split) <;> omega
    have c4 : (if p < p2 then q else if q < q2 then q else q - 1) = q := by (repeat' split) <;> omega
    rw [c1, c2, c3, c4]
    skip
  · have c1 : (if p0 < p then p0 else if q0 < q then p0 - 1 else if p < p0 then p0 - 1 else p0) = p := by (repeat' split) <;> omega
    have c2 : (if p0 < p then q0 else if q0 < q then q0 else q0 - 1) = q := by (repeat' split) <;> omega
    have c3 : (if p < p2 then p else if q < q2 then p - 1 else if p2 < p then p - 1 else p) = (p - 1) := by (repeat' split) <;> omega
    have c4 : (if p < p2 then q else if q < q2 then q else q - 1) = (q - 1) := by (repeat' split) <;> omega
    rw [c1, c2, c3, c4]
    have := hE (hn (by omega)) (hn (by omega))
    have := hS (hn (by omega)) (hn (by omega))
    omega
  · have c1 : (if p0 < p then p0 else if q0 < q then p0 - 1 else if p < p0 then p0 - 1 else p0) = (p - 1) := by (repeat' split) <;> omega
    have c2 : (if p0 < p then q0 else if q0 < q then q0 else q0 - 1) = q := by (repeat' split) <;> omega
    have c3 : (if p < p2 then p else if q < q2 then p - 1 else if p2 < p then p - 1 else p) = (p - 1) := by (repeat' split) <;> omega
    have c4 : (if p < p2 then q else if q < q2 then q else q - 1) = q := by (repeat' split) <;> omega
    rw [c1, c2, c3, c4]
    skip
  · have c1 : (if p0 < p then p0 else if q0 < q then p0 - 1 else if p < p0 then p0 - 1 else p0) = (p - 1) := by (repeat' split) <;> omega
    have c2 : (if p0 < p then q0 else if q0 < q then q0 else q0 - 1) = q := by (repeat' split) <;> omega
    have c3 : (if p < p2 then p else if q < q2 then p - 1 else if p2 < p then p - 1 else p) = p := by (repeat' split) <;> omega
    have c4 : (if p < p2 then q else if q < q2 then q else q - 1) = (q - 1) := by (repeat' split) <;> omega
    rw [c1, c2, c3, c4]
    have := hN (hn (by omega)) (hn (by omega))
    have := hE (hn (by omega)) (hn (by omega))
    omega
  · have c1 : (if p0 < p then p0 else if q0 < q then p0 - 1 else if p < p0 then p0 - 1 else p0) = (p - 1) := by (repeat' split) <;> omega
    have c2 : (if p0 < p then q0 else if q0 < q then q0 else q0 - 1) = q := by (repeat' split) <;> omega
    have c3 : (if p < p2 then p else if q < q2 then p - 1 else if p2 < p then p - 1 else p) = p := by (repeat' split) <;> omega
    have c4 : (if p < p2 then q else if q < q2 then q else q - 1) = q := by (repeat' split) <;> omega
    rw [c1, c2, c3, c4]
    have := hN (hn (by omega)) (hn (by omega))
    omega
  · exact absurd ⟨by omega, by omega, by omega, by omega⟩ nb
  · have c1 : (if p0 < p then p0 else if q0 < q then p0 - 1 else if p < p0 then p0 - 1 else p0) = p := by (repeat' split) <;> omega
    have c2 : (if p0 < p then q0 else if q0 < q then q0 else q0 - 1) = (q - 1) := by (repeat' split) <;> omega
    have c3 : (if p < p2 then p else if q < q2 then p - 1 else if p2 < p then p - 1 else p) = (p - 1) := by (repeat' split) <;> omega
    have c4 : (if p < p2 then q else if q < q2 then q else q - 1) = q := by (repeat' split) <;> omega
    rw [c1, c2, c3, c4]
    have := hS (hn (by omega)) (hn (by omega))
    have := hW (hn (by omega)) (hn (by omega))
    omega
  · have c1 : (if p0 < p then p0 else if q0 < q then p0 - 1 else if p < p0 then p0 - 1 else p0) = p := by (repeat' split) <;> omega
    have c2 : (if p0 < p then q0 else if q0 < q then q0 else q0 - 1) = (q - 1) := by (repeat' split) <;> omega
    have c3 : (if p < p2 then p else if q < q2 then p - 1 else if p2 < p then p - 1 else p) = p := by (repeat' split) <;> omega
    have c4 : (if p < p2 then q else if q < q2 then q else q - 1) = (q - 1) := by (repeat' split) <;> omega
    rw [c1, c2, c3, c4]
    skip
  · exact absurd ⟨by omega, by omega, by omega, by omega⟩ nb
  · have c1 : (if p0 < p then p0 else if q0 < q then p0 - 1 else if p < p0 then p0 - 1 else p0) = p := by (repeat' split) <;> omega
    have c2 : (if p0 < p then q0 else if q0 < q then q0 else q0 - 1) = (q - 1) := by (repeat' split) <;> omega
    have c3 : (if p < p2 then p else if q < q2 then p - 1 else if p2 < p then p - 1 else p) = (p - 1) := by (repeat' split) <;> omega
    have c4 : (if p < p2 then q else if q < q2 then q else q - 1) = (q - 1) := by (repeat' split) <;> omega
    rw [c1, c2, c3, c4]
    have := hS (hn (by omega)) (hn (by omega))
    omega
theorem Loop.left_all (L : Loop N x y) : ∀ t, t < N → wn N x y (lx x y t) (ly x y t) = wn N x y (lx x y 0) (ly x y 0)
  | 0, _ => rfl
  | t + 1, h => by rw [← L.left h, Loop.left_all L t (by omega)]
/-- The cell to the right of a step. -/
def rx (x : Nat → Int) (y : Nat → Int) (t : Nat) : Int := if x t < x (t + 1) then x t else if y t < y (t + 1) then x t else x t - 1
def ry (x : Nat → Int) (y : Nat → Int) (t : Nat) : Int := if x t < x (t + 1) then y t - 1 else if y t < y (t + 1) then y t else if x (t + 1) < x t then y t else y t - 1
theorem Loop.right (L : Loop N x y) {t : Nat} (ht : t < N) : wn N x y (lx x y t) (ly x y t) = wn N x y (rx x y t) (ry x y t) + 1 := by
  have s := L.step t
  unfold near at s
  rcases s with ⟨i1, i2 | i2⟩ | ⟨i1, i2 | i2⟩
  · have e1 : lx x y t = x t - 1 := by unfold lx; (repeat' split) <;> omega
    have e2 : ly x y t = y t := by unfold ly; (repeat' split) <;> omega
    have e3 : rx x y t = x t := by unfold rx; (repeat' split) <;> omega
    have e4 : ry x y t = y t := by unfold ry; (repeat' split) <;> omega
    have e5 : ve x y (x t) (y t) t = 1 := by unfold ve; rw [if_pos ⟨rfl, i1⟩, if_pos ⟨rfl, i2⟩]
    have := wn_v N x y (x t) (y t)
    rw [L.ve_at ht (by rw [e5]; decide), e5] at this
    rw [e1, e2, e3, e4]; omega
  · have e1 : lx x y t = x t := by unfold lx; (repeat' split) <;> omega
    have e2 : ly x y t = y t - 1 := by unfold ly; (repeat' split) <;> omega
    have e3 : rx x y t = x t - 1 := by unfold rx; (repeat' split) <;> omega
    have e4 : ry x y t = y t - 1 := by unfold ry; (repeat' split) <;> omega
    have e5 : ve x y (x t) (y t - 1) t = -1 := by unfold ve; rw [if_pos ⟨rfl, i1⟩, if_neg (by omega), if_pos (by omega)]
    have := wn_v N x y (x t) (y t - 1)
    rw [L.ve_at ht (by rw [e5]; decide), e5] at this
    rw [e1, e2, e3, e4]; omega
  · have e1 : lx x y t = x t := by unfold lx; (repeat' split) <;> omega
    have e2 : ly x y t = y t := by unfold ly; (repeat' split) <;> omega
    have e3 : rx x y t = x t := by unfold rx; (repeat' split) <;> omega
    have e4 : ry x y t = y t - 1 := by unfold ry; (repeat' split) <;> omega
    have e5 : he x y (x t) (y t) t = 1 := by unfold he; rw [if_pos ⟨rfl, i1⟩, if_pos ⟨rfl, i2⟩]
    have := L.wn_h (x t) (y t)
    rw [L.he_at ht (by rw [e5]; decide), e5] at this
    rw [e1, e2, e3, e4]; omega
  · have e1 : lx x y t = x t - 1 := by unfold lx; (repeat' split) <;> omega
    have e2 : ly x y t = y t - 1 := by unfold ly; (repeat' split) <;> omega
    have e3 : rx x y t = x t - 1 := by unfold rx; (repeat' split) <;> omega
    have e4 : ry x y t = y t := by unfold ry; (repeat' split) <;> omega
    have e5 : he x y (x t - 1) (y t) t = -1 := by unfold he; rw [if_pos ⟨rfl, i1⟩, if_neg (by omega), if_pos (by omega)]
    have := L.wn_h (x t - 1) (y t)
    rw [L.he_at ht (by rw [e5]; decide), e5] at this
    rw [e1, e2, e3, e4]; omega
theorem bound (x : Nat → Int) : ∀ n, ∃ M : Int, ∀ t, t < n → x t ≤ M
  | 0 => ⟨0, fun t h => absurd h (Nat.not_lt_zero t)⟩
  | n + 1 => by
    obtain ⟨M, h⟩ := bound x n
    refine ⟨max M (x n), fun t ht => ?_⟩
    by_cases e : t = n
    · subst e; omega
    · have := h t (by omega); omega
theorem wn_far {a b : Int} (h : ∀ t, t < N → x t ≤ a) : wn N x y a b = 0 := by
  unfold wn
  rw [sm_eq (g := fun _ => 0) fun t ht => ?_, sm_zero]
  have := h t ht
  unfold wv
  rw [if_neg (by omega)]
/-- One goes round every cell as often as round those to the left of the walk, or once less, or not at all. -/
theorem Loop.vals (L : Loop N x y) (a b : Int) : wn N x y a b = 0 ∨ wn N x y a b = wn N x y (lx x y 0) (ly x y 0) ∨ wn N x y a b = wn N x y (lx x y 0) (ly x y 0) - 1 := by
  obtain ⟨M, hM⟩ := bound x N
  have key : ∀ (k : Nat) (a : Int), M ≤ a + k → wn N x y a b = 0 ∨ wn N x y a b = wn N x y (lx x y 0) (ly x y 0) ∨ wn N x y a b = wn N x y (lx x y 0) (ly x y 0) - 1 := fun k => by
    induction k with
    | zero => exact fun a h => Or.inl (wn_far fun t ht => by have := hM t ht; omega)
    | succ k ih =>
      intro a h
      have ih := ih (a + 1) (by omega)
      have hv := wn_v N x y (a + 1) b
      rw [show a + 1 - 1 = a by omega] at hv
      by_cases hx : ∃ t, t < N ∧ ve x y (a + 1) b t ≠ 0
      · obtain ⟨t, ht, h1⟩ := hx
        have hl := L.left_all t ht
        have hr := L.right ht
        have s := L.step t
        unfold near at s
        unfold ve at h1
        have h2 : x t = a + 1 ∧ x (t + 1) = a + 1 ∧ ((y t = b ∧ y (t + 1) = b + 1) ∨ (y t = b + 1 ∧ y (t + 1) = b)) := by
          (repeat' split at h1) <;> omega
        obtain ⟨j1, j2, ⟨j3, j4⟩ | ⟨j3, j4⟩⟩ := h2
        · have e1 : lx x y t = a := by unfold lx; (repeat' split) <;> omega
          have e2 : ly x y t = b := by unfold ly; (repeat' split) <;> omega
          rw [e1, e2] at hl
          exact Or.inr (Or.inl hl)
        · have e1 : rx x y t = a := by unfold rx; (repeat' split) <;> omega
          have e2 : ry x y t = b := by unfold ry; (repeat' split) <;> omega
          rw [e1, e2] at hr
          exact Or.inr (Or.inr (by omega))
      · have e0 : sm (ve x y (a + 1) b) N = 0 := by
          rw [sm_eq (g := fun _ => 0) fun t ht => ?_, sm_zero]
          by_cases h2 : ve x y (a + 1) b t = 0
          · exact h2
          · exact absurd ⟨t, ht, h2⟩ hx
        rw [e0] at hv
        have : wn N x y a b = wn N x y (a + 1) b := by omega
        rw [this]; exact ih
  exact key (M - a).toNat a (by omega)
theorem Loop.below (L : Loop N x y) (hl : Low N x y) (a : Int) : wn N x y a (y 0 - 1) = 0 := by
  unfold wn
  rw [sm_eq (g := fun _ => 0) fun t ht => ?_, sm_zero]
  have h1 := hl t ht
  have h2 : y 0 ≤ y (t + 1) := by
    by_cases e : t + 1 < N
    · have := hl (t + 1) e; omega
    · have e : t + 1 = 0 + N := by omega
      rw [e, L.py]; exact Int.le_refl _
  unfold wv
  (repeat' split) <;> omega
/-- A closed walk that never meets itself goes round each cell once at most, to the left or to the right. -/
theorem Loop.once (L : Loop N x y) (hl : Low N x y) :
    (sm (tau x y) N = 8 ∧ ∀ a b, wn N x y a b = 0 ∨ wn N x y a b = 1) ∨
    (sm (tau x y) N = -8 ∧ (∀ a b, wn N x y a b = 0 ∨ wn N x y a b = -1) ∧ ∃ a b, wn N x y a b = -1) := by
  have hb := L.big
  have h0 := L.right (t := 0) (by omega)
  rcases L.full hl with ⟨e1, e2, e3, e4, e5⟩ | ⟨e1, e2, e3, e4, e5⟩
  · refine Or.inl ⟨e5, fun a b => ?_⟩
    have f1 : rx x y 0 = x 0 := by unfold rx; rw [if_pos (by rw [Nat.zero_add]; omega)]
    have f2 : ry x y 0 = y 0 - 1 := by unfold ry; rw [if_pos (by rw [Nat.zero_add]; omega)]
    rw [f1, f2, L.below hl] at h0
    have := L.vals a b
    omega
  · have x0 := L.px 0
    have y0 := L.py 0
    rw [Nat.zero_add] at x0 y0
    have hl' := L.left_all (N - 1) (by omega)
    have f1 : lx x y (N - 1) = x 0 := by unfold lx; rw [show N - 1 + 1 = N by omega, x0, y0]; (repeat' split) <;> omega
    have f2 : ly x y (N - 1) = y 0 - 1 := by unfold ly; rw [show N - 1 + 1 = N by omega, x0, y0]; (repeat' split) <;> omega
    rw [f1, f2, L.below hl] at hl'
    refine Or.inr ⟨e5, fun a b => ?_, ⟨_, _, show wn N x y (rx x y 0) (ry x y 0) = -1 by omega⟩⟩
    have := L.vals a b
    omega
end
end Go.Abs.Geo
end
section
set_option linter.unusedVariables false
namespace Go.Abs.Geo

/-- What a side adds: by the ray to the right; by the ray down. -/
def sv (X Y : Nat → Int) (a b : Int) (i : Nat) : Int :=
  if X (i + 1) = X i ∧ a < X i then (if Y i ≤ b ∧ b < Y (i + 1) then 1 else if Y (i + 1) ≤ b ∧ b < Y i then -1 else 0) else 0
def sh (X Y : Nat → Int) (a b : Int) (i : Nat) : Int :=
  if Y (i + 1) = Y i ∧ Y i ≤ b then (if X i ≤ a ∧ a < X (i + 1) then 1 else if X (i + 1) ≤ a ∧ a < X i then -1 else 0) else 0
def wp (n : Nat) (X Y : Nat → Int) (a b : Int) : Int := sm (sv X Y a b) n
def wh (n : Nat) (X Y : Nat → Int) (a b : Int) : Int := sm (sh X Y a b) n
def ar (n : Nat) (X Y : Nat → Int) : Int := sm (fun i => X i * (Y (i + 1) - Y i)) n
/-- Sides are upright or level. -/
def Rect (X Y : Nat → Int) : Prop := ∀ i, X i = X (i + 1) ∨ Y i = Y (i + 1)
theorem sm_per {f : Nat → Int} {n : Nat} (h : ∀ i, f (i + n) = f i) : ∀ k, sm (fun i => f (i + k)) n = sm f n
  | 0 => rfl
  | k + 1 => by
    rw [← sm_per h k]
    have h1 : ∀ g : Nat → Int, ∀ m, g 0 + sm (fun i => g (i + 1)) m = sm g (m + 1) := fun g m => by
      induction m with
      | zero => show g 0 + 0 = 0 + g 0; omega
      | succ m ih => rw [sm, ← Int.add_assoc, ih]; rfl
    have h2 := h1 (fun i => f (i + k)) n
    have h3 : sm (fun i => f (i + k)) (n + 1) = sm (fun i => f (i + k)) n + f (n + k) := rfl
    have h4 : f (n + k) = f (0 + k) := by rw [Nat.add_comm n k, h, Nat.zero_add]
    have h5 : (fun i => f (i + (k + 1))) = fun i => f (i + 1 + k) := funext fun i => by rw [show i + (k + 1) = i + 1 + k by omega]
    rw [h5]
    show sm (fun i => f (i + 1 + k)) n = _
    have h6 : f (0 + k) + sm (fun i => f (i + 1 + k)) n = sm (fun i => f (i + k)) (n + 1) := h2
    omega
section
variable {n : Nat} {X Y : Nat → Int}
/-- Both ways to count agree. -/
theorem wp_wh (hp : ∀ i, X (i + n) = X i) (hq : ∀ i, Y (i + n) = Y i) (hr : Rect X Y) (a b : Int) : wp n X Y a b = wh n X Y a b := by
  have h := sm_tel (fun i => if a < X i ∧ Y i ≤ b then (1 : Int) else 0) n
  have e1 := hp 0
  have e2 := hq 0
  rw [Nat.zero_add] at e1 e2
  simp only [e1, e2, Int.sub_self] at h
  have k : sm (fun i => sh X Y a b i - sv X Y a b i) n = 0 := by
    rw [← h]
    refine sm_eq fun i _ => ?_
    have := hr i
    unfold sh sv
    (repeat' split) <;> omega
  rw [sm_sub] at k
  unfold wp wh
  omega
theorem Poly.rect (P : Poly n X Y) : Rect X Y := fun i => by have := P.hv i; omega
theorem part_v (P : Poly n X Y) (a b : Int) (i : Nat) : ∀ r, r ≤ ln X Y i → sm (fun r => wv (gx X Y) (gy X Y) a b (tot (ln X Y) i + r)) r =
    if X (i + 1) = X i ∧ a < X i then (if Y i ≤ b ∧ b < at1 Y i r then 1 else if at1 Y i r ≤ b ∧ b < Y i then -1 else 0) else 0
  | 0, _ => by
    show (0 : Int) = _
    unfold at1
    (repeat' split) <;> omega
  | r + 1, h => by
    rw [sm, part_v P a b i r (by omega)]
    obtain ⟨e1, e2⟩ := gxy P (show r ≤ ln X Y i by omega)
    obtain ⟨e3, e4⟩ := gxy P (show r + 1 ≤ ln X Y i by omega)
    have hv := P.hv i
    unfold wv
    rw [Nat.add_assoc, e1, e2, e3, e4]
    clear e1 e2 e3 e4 h
    rcases hv with ⟨h1, h2, _, _⟩ | ⟨h1, h2, _, _⟩
    · have z : ∀ r : Nat, at1 X i (r + 1) ≠ at1 X i r := fun r => by unfold at1; (repeat' split) <;> omega
      rw [if_neg (fun h => h1 h.1.symm), if_neg (fun h => z r h.1), if_neg (fun h => h1 h.1.symm)]; rfl
    · have z : ∀ r : Nat, at1 X i r = X i := fun r => by unfold at1; (repeat' split) <;> omega
      rw [z r, z (r + 1)]
      have z2 : (Y i < Y (i + 1) ∧ at1 Y i r = Y i + r ∧ at1 Y i (r + 1) = Y i + r + 1) ∨ (Y (i + 1) < Y i ∧ at1 Y i r = Y i - r ∧ at1 Y i (r + 1) = Y i - r - 1) := by
        unfold at1; (repeat' split) <;> omega
      generalize at1 Y i r = u at *
      generalize at1 Y i (r + 1) = u' at *
      by_cases g : a < X i
      · rw [if_pos (show X (i + 1) = X i ∧ a < X i from ⟨h1.symm, g⟩), if_pos (show X i = X i ∧ a < X i from ⟨rfl, g⟩), if_pos (show X (i + 1) = X i ∧ a < X i from ⟨h1.symm, g⟩)]
        (repeat' split) <;> omega
      · rw [if_neg (fun h => g h.2), if_neg (fun h => g h.2), if_neg (fun h => g h.2)]; rfl
theorem wn_wp (P : Poly n X Y) (a b : Int) : wn (tot (ln X Y) n) (gx X Y) (gy X Y) a b = wp n X Y a b := by
  have key : ∀ i, sm (wv (gx X Y) (gy X Y) a b) (tot (ln X Y) i) = sm (sv X Y a b) i := fun i => by
    induction i with
    | zero => rfl
    | succ i ih =>
      rw [tot, sm_append, ih, part_v P a b i _ (Nat.le_refl _), sm]
      have : at1 Y i (ln X Y i) = Y (i + 1) := by
        have := P.hv i
        unfold at1 ln
        (repeat' split) <;> omega
      rw [this]; rfl
  exact key n
theorem Poly.shift (P : Poly n X Y) (k : Nat) : Poly n (fun i => X (i + k)) (fun i => Y (i + k)) where
  big := P.big
  px i := by show X (i + n + k) = _; rw [show i + n + k = i + k + n by omega, P.px]
  py i := by show Y (i + n + k) = _; rw [show i + n + k = i + k + n by omega, P.py]
  hv i := by
    have := P.hv (i + k)
    rw [show i + k + 1 = i + 1 + k by omega, show i + k + 2 = i + 2 + k by omega] at this
    exact this
  far i j h1 h2 := by
    have := P.far (i + k) (j + k) (by omega) (by omega)
    rw [show i + k + 1 = i + 1 + k by omega, show j + k + 1 = j + 1 + k by omega] at this
    exact this
theorem wp_shift (P : Poly n X Y) (k : Nat) (a b : Int) : wp n (fun i => X (i + k)) (fun i => Y (i + k)) a b = wp n X Y a b := by
  unfold wp
  rw [← sm_per (f := sv X Y a b) (n := n) (fun i => by unfold sv; rw [show i + n + 1 = i + 1 + n by omega, P.px, P.px, P.py, P.py]) k]
  refine sm_eq fun i _ => ?_
  unfold sv
  simp only [show i + 1 + k = i + k + 1 by omega]
theorem cr_shift (P : Poly n X Y) (k : Nat) : sm (cr (fun i => X (i + k)) (fun i => Y (i + k))) n = sm (cr X Y) n := by
  rw [← sm_per (f := cr X Y) (n := n) (fun i => by unfold cr; rw [show i + n + 1 = i + 1 + n by omega, show i + n + 2 = i + 2 + n by omega, P.px, P.px, P.px, P.py, P.py, P.py]) k]
  refine sm_eq fun i _ => ?_
  unfold cr
  simp only [show i + 1 + k = i + k + 1 by omega, show i + 2 + k = i + k + 2 by omega]
/-- A lowest corner, farthest left of those. -/
theorem low_ex (X Y : Nat → Int) : ∀ n, 0 < n → ∃ k, k < n ∧ ∀ i, i < n → Y k < Y i ∨ (Y i = Y k ∧ X k ≤ X i)
  | 0, h => absurd h (Nat.lt_irrefl 0)
  | 1, _ => ⟨0, by decide, fun i hi => by obtain rfl : i = 0 := by omega
                                          exact Or.inr ⟨rfl, Int.le_refl _⟩⟩
  | n + 2, _ => by
    obtain ⟨k, hk, h⟩ := low_ex X Y (n + 1) (by omega)
    by_cases c : Y k < Y (n + 1) ∨ (Y (n + 1) = Y k ∧ X k ≤ X (n + 1))
    · refine ⟨k, by omega, fun i hi => ?_⟩
      by_cases e : i = n + 1
      · subst e; exact c
      · exact h i (by omega)
    · refine ⟨n + 1, by omega, fun i hi => ?_⟩
      by_cases e : i = n + 1
      · subst e; exact Or.inr ⟨rfl, Int.le_refl _⟩
      · have := h i (by omega); omega
theorem per_all {f : Nat → Int} {n : Nat} (h : ∀ i, f (i + n) = f i) (i : Nat) : f i = f (i % n) := by
  have key : ∀ k j, f (j + n * k) = f j := fun k => by
    induction k with
    | zero => intro j; rfl
    | succ k ih => intro j; rw [Nat.mul_succ, ← Nat.add_assoc, h, ih]
  have e := Nat.mod_add_div i n
  rw [← key (i / n) (i % n), e]
/-- An outline goes round each cell once at most: to the left, or to the right. -/
theorem Poly.once (P : Poly n X Y) :
    (sm (cr X Y) n = 8 ∧ ∀ a b, wp n X Y a b = 0 ∨ wp n X Y a b = 1) ∨
    (sm (cr X Y) n = -8 ∧ (∀ a b, wp n X Y a b = 0 ∨ wp n X Y a b = -1) ∧ ∃ a b, wp n X Y a b = -1) := by
  have hb := P.big
  obtain ⟨k, hk, hl⟩ := low_ex X Y n (by omega)
  have Q := P.shift k
  have all : ∀ i, Y k < Y i ∨ (Y i = Y k ∧ X k ≤ X i) := fun i => by
    rw [per_all (f := Y) P.py i, per_all (f := X) P.px i]
    exact hl _ (Nat.mod_lt _ (by omega))
  have L := Q.loop
  have g0 : gx (fun i => X (i + k)) (fun i => Y (i + k)) 0 = X k ∧ gy (fun i => X (i + k)) (fun i => Y (i + k)) 0 = Y k := by
    have := gxy Q (i := 0) (r := 0) (Nat.zero_le _)
    rw [show tot (ln (fun i => X (i + k)) (fun i => Y (i + k))) 0 + 0 = 0 from rfl] at this
    rw [this.1, this.2]
    unfold at1
    simp only [Nat.zero_add]
    constructor <;> (repeat' split) <;> omega
  have low : Low (tot (ln (fun i => X (i + k)) (fun i => Y (i + k))) n) (gx (fun i => X (i + k)) (fun i => Y (i + k))) (gy (fun i => X (i + k)) (fun i => Y (i + k))) := fun t _ => by
    obtain ⟨i, r, rfl, hr⟩ := split_t Q t
    obtain ⟨e1, e2⟩ := gxy Q (Nat.le_of_lt hr)
    have hv := Q.hv i
    have a1 := all (i + k)
    have a2 := all (i + 1 + k)
    rw [e1, e2, g0.1, g0.2]
    have b := at1_box Q (Nat.le_of_lt hr)
    generalize at1 (fun i => X (i + k)) i r = u at *
    generalize at1 (fun i => Y (i + k)) i r = v at *
    omega
  have ht := tau_sum Q n
  have hc := cr_shift P k
  have hw : ∀ a b, wn (tot (ln (fun i => X (i + k)) (fun i => Y (i + k))) n) (gx (fun i => X (i + k)) (fun i => Y (i + k))) (gy (fun i => X (i + k)) (fun i => Y (i + k))) a b = wp n X Y a b := fun a b => by
    rw [wn_wp Q, wp_shift P]
  rcases L.once low with ⟨h1, h2⟩ | ⟨h1, h2, a, b, h3⟩
  · refine Or.inl ⟨by omega, fun a b => ?_⟩
    rw [← hw]; exact h2 a b
  · refine Or.inr ⟨by omega, fun a b => ?_, ⟨a, b, ?_⟩⟩
    · rw [← hw]; exact h2 a b
    · rw [← hw]; exact h3
end
end Go.Abs.Geo
end
