/- Contracts. -/
import Derived.Test.YtglebihdhfdhoaaDoorK24
set_option linter.unusedVariables false
set_option linter.unusedSimpArgs false
set_option maxRecDepth 100000
namespace Go.Abs
open Go
/-- Parity. -/
def xr (f : Nat → Bool) : Nat → Bool
  | 0 => false
  | k + 1 => (xr f k != f k)
theorem xr_congr {f g : Nat → Bool} : ∀ {n : Nat}, (∀ i, i < n → f i = g i) → xr f n = xr g n
  | 0, _ => rfl
  | n + 1, h => by rw [xr, xr, xr_congr fun i hi => h i (by omega), h n (by omega)]
theorem xr_false {f : Nat → Bool} : ∀ {n : Nat}, (∀ i, i < n → f i = false) → xr f n = false
  | 0, _ => rfl
  | n + 1, h => by rw [xr, xr_false fun i hi => h i (by omega), h n (by omega)]; rfl
theorem xr_xor (f g : Nat → Bool) : ∀ n, xr (fun i => f i != g i) n = (xr f n != xr g n)
  | 0 => rfl
  | n + 1 => by
    rw [xr, xr, xr, xr_xor f g n]
    cases xr f n <;> cases xr g n <;> cases f n <;> cases g n <;> rfl
theorem xr_abel (F A : Nat → Bool) : ∀ k, (xr (fun i => F i && (A i != A (i + 1))) k != xr (fun i => A (i + 1) && (F i != F (i + 1))) k) = ((F 0 && A 0) != (F k && A k))
  | 0 => by simp [xr]
  | k + 1 => by
    have ih := xr_abel F A k
    simp only [xr]
    generalize xr (fun i => F i && (A i != A (i + 1))) k = a at *
    generalize xr (fun i => A (i + 1) && (F i != F (i + 1))) k = b at *
    generalize (F 0 && A 0) = c at *
    revert ih
    cases F k <;> cases F (k + 1) <;> cases A k <;> cases A (k + 1) <;> cases a <;> cases b <;> cases c <;> decide
theorem crs_xr (n : Nat) (X Y : Nat → Int) (p q : Int) : ∀ k, crs n X Y p q k = xr (fun i => crB n X Y p q i) k
  | 0 => rfl
  | k + 1 => by
    rw [crs, xr, crs_xr n X Y p q k]
    cases crB n X Y p q k <;> cases xr (fun i => crB n X Y p q i) k <;> rfl
theorem ix_self {n : Nat} (hn : 0 < n) : ix n (n : Int) = 0 := by
  unfold ix
  rw [show (n : Int) + n = (n : Int) * 2 by omega, Int.mul_emod_right]; rfl
theorem ix_zero {n : Nat} (hn : 0 < n) : ix n 0 = 0 := by
  unfold ix
  rw [Int.zero_add, Int.emod_self]; rfl
section
variable {n : Nat} {X Y : Nat → Int}
theorem side_par {i : Int} (h : dO n X Y i = true) : (X (ix n i) = X (ix n (i + 1)) ∧ Y (ix n i) ≠ Y (ix n (i + 1))) ∨ (Y (ix n i) = Y (ix n (i + 1)) ∧ X (ix n i) ≠ X (ix n (i + 1))) := by
  unfold dO dirOk at h
  rw [decide_eq_true_eq] at h
  omega
theorem crB_eq {i : Nat} (h : dO n X Y i = true) (p q : Int) : crB n X Y p q i = (decide (X (ix n i) > p) && (decide (Y (ix n i) ≤ q) != decide (Y (ix n ((i : Int) + 1)) ≤ q))) := by
  have := side_par h
  unfold crB lo hi
  rw [Bool.eq_iff_iff]
  simp only [Bool.and_eq_true, decide_eq_true_eq, bne_iff_ne, ne_eq, decide_eq_decide]
  omega
/-- A ray's parity is kept where nothing is met on the way across the ray. -/
theorem crs_move (hn : 0 < n) (hp : ∀ i, i < n → dO n X Y (i : Nat) = true) {p q q' : Int}
    (h : ∀ i : Nat, i < n → ¬ (((Y (ix n ((i : Int) + 1)) ≤ q ∧ ¬ Y (ix n ((i : Int) + 1)) ≤ q') ∨ (¬ Y (ix n ((i : Int) + 1)) ≤ q ∧ Y (ix n ((i : Int) + 1)) ≤ q')) ∧ ((X (ix n i) > p ∧ ¬ X (ix n ((i : Int) + 1)) > p) ∨ (¬ X (ix n i) > p ∧ X (ix n ((i : Int) + 1)) > p)))) :
    crs n X Y p q n = crs n X Y p q' n := by
  have e : (crs n X Y p q n != crs n X Y p q' n) = false := by
    rw [crs_xr, crs_xr, ← xr_xor]
    have h1 := xr_abel (fun i => decide (X (ix n (i : Nat)) > p)) (fun i => decide (Y (ix n (i : Nat)) ≤ q) != decide (Y (ix n (i : Nat)) ≤ q')) n
    have h2 : xr (fun i => ((decide (Y (ix n ((i + 1 : Nat) : Int)) ≤ q) != decide (Y (ix n ((i + 1 : Nat) : Int)) ≤ q')) && (decide (X (ix n (i : Nat)) > p) != decide (X (ix n ((i + 1 : Nat) : Int)) > p)))) n = false := xr_false fun i hi => by
      have h3 := h i hi
      rw [← Bool.not_eq_true]
      simp only [Bool.and_eq_true, bne_iff_ne, ne_eq, decide_eq_decide]
      rw [Int.natCast_succ]
      omega
    rw [h2] at h1
    simp only [ix_self hn, Int.natCast_zero, ix_zero hn, bne_self_eq_false, Bool.bne_false] at h1
    rw [← h1]
    refine xr_congr fun i hi => ?_
    rw [crB_eq (hp i hi), crB_eq (hp i hi), Int.natCast_succ]
    cases decide (X (ix n (i : Nat)) > p) <;> cases decide (Y (ix n (i : Nat)) ≤ q) <;> cases decide (Y (ix n (i : Nat)) ≤ q') <;> cases decide (Y (ix n ((i : Int) + 1)) ≤ q) <;> cases decide (Y (ix n ((i : Int) + 1)) ≤ q') <;> rfl
  cases h1 : crs n X Y p q n <;> cases h2 : crs n X Y p q' n <;> simp [h1, h2] at e ⊢
theorem whF_nonneg (p q : Int) : 0 ≤ whF n X Y p q ↔ (∃ i, i < n ∧ onS n X Y p q i = true) ∨ crs n X Y p q n = true := by
  unfold whF
  split
  · rename_i h
    refine ⟨fun _ => .inl ?_, fun _ => Int.le_refl _⟩
    refine Classical.byContradiction fun h2 => h fun i hi => ?_
    cases h3 : onS n X Y p q i with
    | false => rfl
    | true => exact absurd ⟨i, hi, h3⟩ h2
  · rename_i h
    have h := Decidable.not_not.1 h
    have ho : ¬ ∃ i, i < n ∧ onS n X Y p q i = true := fun ⟨i, hi, h2⟩ => by rw [h i hi] at h2; cases h2
    split
    · rename_i h2; exact ⟨fun _ => .inr h2, fun _ => by decide⟩
    · rename_i h2
      exact ⟨fun h3 => absurd h3 (by decide), fun h3 => h3.elim (fun a => absurd a ho) (fun a => absurd a h2)⟩
end
/-- The least of what is given, or -1. -/
def minO (f : Nat → Option Int) : Nat → Int
  | 0 => -1
  | k + 1 => match f k with
    | none => minO f k
    | some d => if minO f k < 0 ∨ d < minO f k then d else minO f k
theorem minO_spec {f : Nat → Option Int} : ∀ {n : Nat}, (∀ k, k < n → ∀ d, f k = some d → 0 ≤ d) →
    (minO f n = -1 ∧ ∀ k, k < n → f k = none) ∨ (0 ≤ minO f n ∧ (∃ k, k < n ∧ f k = some (minO f n)) ∧ ∀ k, k < n → ∀ d, f k = some d → minO f n ≤ d)
  | 0, _ => .inl ⟨rfl, fun k hk => absurd hk (Nat.not_lt_zero k)⟩
  | n + 1, h => by
    have ih := minO_spec (n := n) fun k hk => h k (by omega)
    have hn := h n (by omega)
    rw [minO]
    cases hf : f n with
    | none =>
      rcases ih with ⟨a, b⟩ | ⟨a, ⟨k, c, e⟩, g⟩
      · exact .inl ⟨a, fun k hk => by
          rcases Nat.lt_or_ge k n with h1 | h1
          · exact b k h1
          · rw [show k = n by omega]; exact hf⟩
      · exact .inr ⟨a, ⟨k, by omega, e⟩, fun j hj d hd => by
          rcases Nat.lt_or_ge j n with h1 | h1
          · exact g j h1 d hd
          · rw [show j = n by omega, hf] at hd; cases hd⟩
    | some d =>
      have hd := hn d hf
      dsimp only
      split
      · rename_i hc
        refine .inr ⟨hd, ⟨n, by omega, hf⟩, fun j hj d' hd' => ?_⟩
        rcases Nat.lt_or_ge j n with h1 | h1
        · rcases ih with ⟨a, b⟩ | ⟨a, ⟨k, c, e⟩, g⟩
          · rw [b j h1] at hd'; cases hd'
          · have := g j h1 d' hd'; omega
        · rw [show j = n by omega, hf] at hd'; cases hd'; exact Int.le_refl _
      · rename_i hc
        rcases ih with ⟨a, b⟩ | ⟨a, ⟨k, c, e⟩, g⟩
        · omega
        · refine .inr ⟨a, ⟨k, by omega, e⟩, fun j hj d' hd' => ?_⟩
          rcases Nat.lt_or_ge j n with h1 | h1
          · exact g j h1 d' hd'
          · rw [show j = n by omega, hf] at hd'; cases hd'; omega
/-- Two such are alike. -/
theorem minO_eq {f g : Nat → Option Int} {n m : Nat} (hf : ∀ k, k < n → ∀ d, f k = some d → 0 ≤ d) (hg : ∀ k, k < m → ∀ d, g k = some d → 0 ≤ d)
    (h1 : ∀ k, k < n → ∀ d, f k = some d → ∃ j, j < m ∧ g j = some d) (h2 : ∀ k, k < m → ∀ d, g k = some d → ∃ j d', j < n ∧ f j = some d' ∧ d' ≤ d) : minO f n = minO g m := by
  rcases minO_spec hf with ⟨a, b⟩ | ⟨a, ⟨k, c, e⟩, w⟩ <;> rcases minO_spec hg with ⟨a', b'⟩ | ⟨a', ⟨k', c', e'⟩, w'⟩
  · rw [a, a']
  · obtain ⟨j, d', hj, hd, _⟩ := h2 k' c' _ e'
    rw [b j hj] at hd; cases hd
  · obtain ⟨j, hj, hd⟩ := h1 k c _ e
    rw [b' j hj] at hd; cases hd
  · obtain ⟨j, hj, hd⟩ := h1 k c _ e
    have r1 := w' j hj _ hd
    obtain ⟨j2, d', hj2, hd2, hle⟩ := h2 k' c' _ e'
    have r2 := w j2 hj2 _ hd2
    omega
theorem al0 (px py x y : Int) : alF px py x y 0 = x - px := by
  show (x - px) * 1 + (y - py) * 0 = _; omega
theorem al1 (px py x y : Int) : alF px py x y 1 = y - py := by
  show (x - px) * 0 + (y - py) * 1 = _; omega
theorem al2 (px py x y : Int) : alF px py x y 2 = px - x := by
  show (x - px) * -1 + (y - py) * 0 = _; omega
theorem al3 (px py x y : Int) : alF px py x y 3 = py - y := by
  show (x - px) * 0 + (y - py) * -1 = _; omega
section
variable (n : Nat) (X Y : Nat → Int) (px py d : Int)
/-- How far a corner lies along and inwards of a place. -/
def aS (i : Int) : Int := alF px py (X (ix n i)) (Y (ix n i)) d
def eS (i : Int) : Int := alF px py (X (ix n i)) (Y (ix n i)) ((d + 1) % 4)
def fP (i : Nat) : Option Int := if (min (aS n X Y px py d i) (aS n X Y px py d (i + 1)) ≤ 0 ∧ 0 ≤ max (aS n X Y px py d i) (aS n X Y px py d (i + 1))) ∧ 0 ≤ min (eS n X Y px py d i) (eS n X Y px py d (i + 1)) then some (min (eS n X Y px py d i) (eS n X Y px py d (i + 1))) else none
def tQ (k : Nat) : Int := if k = 0 then 0 else eS n X Y px py d ((k : Int) - 1)
def inX (t : Int) : Int := px + stX ((d + 1) % 4) * t
def inY (t : Int) : Int := py + stY ((d + 1) % 4) * t
def fQ (k : Nat) : Option Int := if 0 ≤ tQ n X Y px py d k ∧ 0 ≤ whF n X Y (inX px d (tQ n X Y px py d k)) (inY py d (tQ n X Y px py d k)) then some (tQ n X Y px py d k) else none
/-- How far the body is behind a place, as the program tells it, and as the specification does. -/
def depP : Int := if 0 ≤ whF n X Y px py then 0 else minO (fP n X Y px py d) n
def depQ : Int := minO (fQ n X Y px py d) (n + 1)
end
section
variable {n : Nat} {X Y : Nat → Int} {px py d : Int}
theorem fP_some {i : Nat} {t : Int} : fP n X Y px py d i = some t ↔ (min (aS n X Y px py d i) (aS n X Y px py d (i + 1)) ≤ 0 ∧ 0 ≤ max (aS n X Y px py d i) (aS n X Y px py d (i + 1))) ∧ 0 ≤ t ∧ min (eS n X Y px py d i) (eS n X Y px py d (i + 1)) = t := by
  unfold fP
  split
  · rename_i h
    rw [Option.some.injEq]
    exact ⟨fun e => ⟨h.1, by omega, e⟩, fun e => e.2.2⟩
  · rename_i h
    refine ⟨fun e => (by cases e), fun e => absurd ⟨e.1, by omega⟩ h⟩
theorem fQ_some {k : Nat} {t : Int} : fQ n X Y px py d k = some t ↔ tQ n X Y px py d k = t ∧ 0 ≤ t ∧ 0 ≤ whF n X Y (inX px d t) (inY py d t) := by
  unfold fQ
  split
  · rename_i h
    rw [Option.some.injEq]
    exact ⟨fun e => (by subst e; exact ⟨rfl, h⟩), fun e => e.1⟩
  · rename_i h
    exact ⟨fun e => (by cases e), fun ⟨e, h1, h2⟩ => (by subst e; exact absurd ⟨h1, h2⟩ h)⟩
theorem tQ_ix (hn : 0 < n) (j : Int) : tQ n X Y px py d (ix n j + 1) = eS n X Y px py d j := by
  unfold tQ
  rw [if_neg (by omega)]
  unfold eS
  rw [show ((ix n j + 1 : Nat) : Int) - 1 = ((ix n j : Nat) : Int) by omega, ix_ix hn]
/-- A side beside the place is met where its nearer end lies. -/
theorem P_to_Q (hn : 0 < n) (hd : 0 ≤ d ∧ d < 4) (hp : ∀ i, i < n → dO n X Y (i : Nat) = true) {i : Nat} (hi : i < n) {t : Int} (h : fP n X Y px py d i = some t) : ∃ k, k < n + 1 ∧ fQ n X Y px py d k = some t := by
  obtain ⟨h1, h2, h3⟩ := fP_some.1 h
  have ho : onS n X Y (inX px d t) (inY py d t) i = true := by
    have hs := side_par (hp i hi)
    unfold onS lo Go.Abs.hi inX inY
    rw [decide_eq_true_eq]
    unfold aS at h1
    unfold eS at h3
    obtain rfl | rfl | rfl | rfl : d = 0 ∨ d = 1 ∨ d = 2 ∨ d = 3 := by omega
    · change min (alF px py _ _ 1) (alF px py _ _ 1) = t at h3
      rw [al1, al1] at h3
      rw [al0, al0] at h1
      change _ ≤ px + 0 * t ∧ px + 0 * t ≤ _ ∧ _ ≤ py + 1 * t ∧ py + 1 * t ≤ _
      omega
    · change min (alF px py _ _ 2) (alF px py _ _ 2) = t at h3
      rw [al2, al2] at h3
      rw [al1, al1] at h1
      change _ ≤ px + -1 * t ∧ px + -1 * t ≤ _ ∧ _ ≤ py + 0 * t ∧ py + 0 * t ≤ _
      omega
    · change min (alF px py _ _ 3) (alF px py _ _ 3) = t at h3
      rw [al3, al3] at h3
      rw [al2, al2] at h1
      change _ ≤ px + 0 * t ∧ px + 0 * t ≤ _ ∧ _ ≤ py + -1 * t ∧ py + -1 * t ≤ _
      omega
    · change min (alF px py _ _ 0) (alF px py _ _ 0) = t at h3
      rw [al0, al0] at h3
      rw [al3, al3] at h1
      change _ ≤ px + 1 * t ∧ px + 1 * t ≤ _ ∧ _ ≤ py + 0 * t ∧ py + 0 * t ≤ _
      omega
  have hw : 0 ≤ whF n X Y (inX px d t) (inY py d t) := (whF_nonneg _ _).2 (.inl ⟨i, hi, ho⟩)
  rcases (show eS n X Y px py d i = t ∨ eS n X Y px py d (i + 1) = t by omega) with e | e
  · exact ⟨ix n i + 1, by have := ix_lt (i := (i : Int)) hn; omega, fQ_some.2 ⟨by rw [tQ_ix hn]; exact e, h2, hw⟩⟩
  · exact ⟨ix n (i + 1) + 1, by have := ix_lt (i := (i : Int) + 1) hn; omega, fQ_some.2 ⟨by rw [tQ_ix hn]; exact e, h2, hw⟩⟩
/-- Ahead of where the region begins a side is met. -/
theorem Q_to_P (hn : 0 < n) (hd : 0 ≤ d ∧ d < 4) (hp : ∀ i, i < n → dO n X Y (i : Nat) = true) (hout : ¬ 0 ≤ whF n X Y px py) {t : Int} (ht : 0 ≤ t) (hw : 0 ≤ whF n X Y (inX px d t) (inY py d t)) : ∃ j d', j < n ∧ fP n X Y px py d j = some d' ∧ d' ≤ t := by
  refine Classical.byContradiction fun hno => ?_
  have H : ∀ i : Nat, i < n → ¬ ((min (aS n X Y px py d i) (aS n X Y px py d (i + 1)) ≤ 0 ∧ 0 ≤ max (aS n X Y px py d i) (aS n X Y px py d (i + 1))) ∧ 0 ≤ min (eS n X Y px py d i) (eS n X Y px py d (i + 1)) ∧ min (eS n X Y px py d i) (eS n X Y px py d (i + 1)) ≤ t) := fun i hi ⟨h1, h2, h3⟩ => hno ⟨i, _, hi, fP_some.2 ⟨h1, h2, rfl⟩, h3⟩
  have hoff : ∀ i : Nat, i < n → onS n X Y px py i ≠ true := fun i hi h => hout ((whF_nonneg _ _).2 (.inl ⟨i, hi, h⟩))
  have hcr : crs n X Y px py n ≠ true := fun h => hout ((whF_nonneg _ _).2 (.inr h))
  unfold aS eS at H
  unfold onS lo hi at hoff
  simp only [ne_eq, decide_eq_true_eq] at hoff
  unfold inX inY at hw
  obtain rfl | rfl | rfl | rfl : d = 0 ∨ d = 1 ∨ d = 2 ∨ d = 3 := by omega
  · change ∀ i : Nat, i < n → ¬ ((min (alF px py _ _ 0) (alF px py _ _ 0) ≤ 0 ∧ 0 ≤ max (alF px py _ _ 0) (alF px py _ _ 0)) ∧ 0 ≤ min (alF px py _ _ 1) (alF px py _ _ 1) ∧ min (alF px py _ _ 1) (alF px py _ _ 1) ≤ t) at H
    simp only [al0, al1] at H
    change 0 ≤ whF n X Y (px + 0 * t) (py + 1 * t) at hw
    rw [show px + 0 * t = px by omega, show py + 1 * t = py + t by omega] at hw
    rcases (whF_nonneg _ _).1 hw with ⟨i, hi, ho⟩ | hc
    · have h1 := H i hi
      have h2 := hoff i hi
      have h3 := side_par (hp i hi)
      unfold onS lo Go.Abs.hi at ho
      rw [decide_eq_true_eq] at ho
      omega
    · refine hcr ?_
      rw [crs_move hn hp (q' := py + t) fun i hi h => ?_]
      · exact hc
      · have h1 := H i hi
        have h3 := side_par (hp i hi)
        omega
  · change ∀ i : Nat, i < n → ¬ ((min (alF px py _ _ 1) (alF px py _ _ 1) ≤ 0 ∧ 0 ≤ max (alF px py _ _ 1) (alF px py _ _ 1)) ∧ 0 ≤ min (alF px py _ _ 2) (alF px py _ _ 2) ∧ min (alF px py _ _ 2) (alF px py _ _ 2) ≤ t) at H
    simp only [al1, al2] at H
    change 0 ≤ whF n X Y (px + -1 * t) (py + 0 * t) at hw
    rw [show px + -1 * t = px - t by omega, show py + 0 * t = py by omega] at hw
    rcases (whF_nonneg _ _).1 hw with ⟨i, hi, ho⟩ | hc
    · have h1 := H i hi
      have h2 := hoff i hi
      have h3 := side_par (hp i hi)
      unfold onS lo Go.Abs.hi at ho
      rw [decide_eq_true_eq] at ho
      omega
    · refine hcr ?_
      rw [← hc, crs_xr, crs_xr]
      refine xr_congr fun i hi => ?_
      have h1 := H i hi
      have h3 := side_par (hp i hi)
      unfold crB lo Go.Abs.hi
      rw [decide_eq_decide]
      omega
  · change ∀ i : Nat, i < n → ¬ ((min (alF px py _ _ 2) (alF px py _ _ 2) ≤ 0 ∧ 0 ≤ max (alF px py _ _ 2) (alF px py _ _ 2)) ∧ 0 ≤ min (alF px py _ _ 3) (alF px py _ _ 3) ∧ min (alF px py _ _ 3) (alF px py _ _ 3) ≤ t) at H
    simp only [al2, al3] at H
    change 0 ≤ whF n X Y (px + 0 * t) (py + -1 * t) at hw
    rw [show px + 0 * t = px by omega, show py + -1 * t = py - t by omega] at hw
    rcases (whF_nonneg _ _).1 hw with ⟨i, hi, ho⟩ | hc
    · have h1 := H i hi
      have h2 := hoff i hi
      have h3 := side_par (hp i hi)
      unfold onS lo Go.Abs.hi at ho
      rw [decide_eq_true_eq] at ho
      omega
    · refine hcr ?_
      rw [crs_move hn hp (q' := py - t) fun i hi h => ?_]
      · exact hc
      · have h1 := H i hi
        have h3 := side_par (hp i hi)
        omega
  · change ∀ i : Nat, i < n → ¬ ((min (alF px py _ _ 3) (alF px py _ _ 3) ≤ 0 ∧ 0 ≤ max (alF px py _ _ 3) (alF px py _ _ 3)) ∧ 0 ≤ min (alF px py _ _ 0) (alF px py _ _ 0) ∧ min (alF px py _ _ 0) (alF px py _ _ 0) ≤ t) at H
    simp only [al3, al0] at H
    change 0 ≤ whF n X Y (px + 1 * t) (py + 0 * t) at hw
    rw [show px + 1 * t = px + t by omega, show py + 0 * t = py by omega] at hw
    rcases (whF_nonneg _ _).1 hw with ⟨i, hi, ho⟩ | hc
    · have h1 := H i hi
      have h2 := hoff i hi
      have h3 := side_par (hp i hi)
      unfold onS lo Go.Abs.hi at ho
      rw [decide_eq_true_eq] at ho
      omega
    · refine hcr ?_
      rw [← hc, crs_xr, crs_xr]
      refine xr_congr fun i hi => ?_
      have h1 := H i hi
      have h3 := side_par (hp i hi)
      unfold crB lo Go.Abs.hi
      rw [decide_eq_decide]
      omega
/-- THE LAW: how far the body is behind a place. -/
theorem dep_eq (hn : 0 < n) (hd : 0 ≤ d ∧ d < 4) (hp : ∀ i, i < n → dO n X Y (i : Nat) = true) : depP n X Y px py d = depQ n X Y px py d := by
  unfold depP depQ
  have hQ : ∀ k, k < n + 1 → ∀ t, fQ n X Y px py d k = some t → 0 ≤ t := fun k _ t h => (fQ_some.1 h).2.1
  split
  · rename_i h
    have h0 : fQ n X Y px py d 0 = some 0 := fQ_some.2 ⟨by rw [tQ, if_pos rfl], Int.le_refl _, by unfold inX inY; rw [Int.mul_zero, Int.mul_zero, Int.add_zero, Int.add_zero]; exact h⟩
    rcases minO_spec hQ with ⟨a, b⟩ | ⟨a, ⟨k, c, e⟩, w⟩
    · rw [b 0 (by omega)] at h0; cases h0
    · have := w 0 (by omega) 0 h0
      omega
  · rename_i h
    exact minO_eq (fun k _ t h => (fP_some.1 h).2.1) hQ (fun k hk t h => P_to_Q hn hd hp hk h) (fun k hk t h2 => by
      obtain ⟨e1, e2, e3⟩ := fQ_some.1 h2
      exact Q_to_P hn hd hp h e2 e3)
end
end Go.Abs
