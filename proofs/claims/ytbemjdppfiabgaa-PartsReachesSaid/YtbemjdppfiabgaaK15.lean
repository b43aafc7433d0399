/- Contracts. -/
import Derived.Test.YtbemjdppfiabgaaK14
set_option linter.unusedVariables false
set_option linter.unusedSimpArgs false
set_option maxRecDepth 100000
namespace Go.Abs
open Go
theorem fr_lt {a b c d e f : Int} (hb : 0 < b) (hd : 0 < d) (hf : 0 < f) (h1 : a * d < c * b) (h2 : c * f ≤ e * d) : a * f < e * b := by
  have e1 : d * (a * f) = (a * d) * f := by ac_rfl
  have e2 : (c * b) * f = (c * f) * b := by ac_rfl
  have e3 : d * (e * b) = (e * d) * b := by ac_rfl
  have g1 : (a * d) * f < (c * b) * f := Int.mul_lt_mul_of_pos_right h1 hf
  have g2 : (c * f) * b ≤ (e * d) * b := Int.mul_le_mul_of_nonneg_right h2 (Int.le_of_lt hb)
  refine Int.lt_of_mul_lt_mul_left (a := d) ?_ (Int.le_of_lt hd)
  rw [e1, e3]
  omega
theorem fr_le {a b c d e f : Int} (hb : 0 < b) (hd : 0 < d) (hf : 0 < f) (h1 : a * d ≤ c * b) (h2 : c * f < e * d) : a * f < e * b := by
  have e1 : d * (a * f) = (a * d) * f := by ac_rfl
  have e2 : (c * b) * f = (c * f) * b := by ac_rfl
  have e3 : d * (e * b) = (e * d) * b := by ac_rfl
  have g1 : (a * d) * f ≤ (c * b) * f := Int.mul_le_mul_of_nonneg_right h1 (Int.le_of_lt hf)
  have g2 : (c * f) * b < (e * d) * b := Int.mul_lt_mul_of_pos_right h2 hb
  refine Int.lt_of_mul_lt_mul_left (a := d) ?_ (Int.le_of_lt hd)
  rw [e1, e3]
  omega
/-- A maximum of fractions is less than something just if both are. -/
theorem fr_max {f1 f2 L D : Int} (hf : 0 < f2) (hD : 0 < D) {m e : Int} (he : 0 < e) : (if lesR f1 f2 L D = true then L else f1) * e < m * (if lesR f1 f2 L D = true then D else f2) ↔ f1 * e < m * f2 ∧ L * e < m * D := by
  by_cases g : f1 * D < L * f2
  · rw [lesR, decide_eq_true g, if_pos rfl, if_pos rfl]
    exact ⟨fun h => ⟨fr_lt hf hD he g (Int.le_of_lt h), h⟩, fun h => h.2⟩
  · rw [lesR, decide_eq_false g, if_neg (by decide), if_neg (by decide)]
    exact ⟨fun h => ⟨h, fr_le hD hf he (by omega) h⟩, fun h => h.1⟩
theorem fr_min {t1 t2 H D : Int} (ht : 0 < t2) (hD : 0 < D) {m e : Int} (he : 0 < e) : m * (if lesR H D t1 t2 = true then D else t2) < (if lesR H D t1 t2 = true then H else t1) * e ↔ m * t2 < t1 * e ∧ m * D < H * e := by
  by_cases g : H * t2 < t1 * D
  · rw [lesR, decide_eq_true g, if_pos rfl, if_pos rfl]
    exact ⟨fun h => ⟨fr_lt he hD ht h (Int.le_of_lt g), h⟩, fun h => h.2⟩
  · rw [lesR, decide_eq_false g, if_neg (by decide), if_neg (by decide)]
    exact ⟨fun h => ⟨h, fr_lt he ht hD h (by omega)⟩, fun h => h.1⟩
structure WI (w : Way) : Prop where
  f2 : 0 < w.f2
  t2 : 0 < w.t2
  lo : ∀ m e : Int, 0 < e → w.f1 * e < m * w.f2 → -1 * e < m * 1
  hi : ∀ m e : Int, 0 < e → m * w.t2 < w.t1 * e → m * 1 < 2 * e
theorem wst_law {w : Way} (h : WI w) (a b lo hi : Int) : WI (wst w a b lo hi) ∧ 0 < (bw a b lo hi).d ∧
    (∀ m e : Int, 0 < e → ((wst w a b lo hi).f1 * e < m * (wst w a b lo hi).f2 ↔ w.f1 * e < m * w.f2 ∧ (bw a b lo hi).f * e < m * (bw a b lo hi).d)) ∧
    (∀ m e : Int, 0 < e → (m * (wst w a b lo hi).t2 < (wst w a b lo hi).t1 * e ↔ m * w.t2 < w.t1 * e ∧ m * (bw a b lo hi).d < (bw a b lo hi).t * e)) := by
  by_cases e0 : a = b
  · have ew : wst w a b lo hi = w := by unfold wst cF1 cF2 cT1 cT2; simp only [if_pos e0]
    have eb : bw a b lo hi = ⟨-1, 2, 1⟩ := by rw [bw, if_pos (by omega)]
    rw [ew, eb]
    exact ⟨h, by decide, fun m e he => ⟨fun h1 => ⟨h1, h.lo m e he h1⟩, fun h1 => h1.1⟩, fun m e he => ⟨fun h1 => ⟨h1, h.hi m e he h1⟩, fun h1 => h1.1⟩⟩
  · have eb : bw a b lo hi = ⟨cL a b lo hi - cA a b, cH a b lo hi - cA a b, cB a b - cA a b⟩ := by
      unfold bw cL cA cH cB
      rw [if_neg (by omega)]
      by_cases g : a > b
      · simp only [if_pos g, if_neg (show ¬ b - a > 0 by omega)]
        congr 1 <;> omega
      · simp only [if_neg g, if_pos (show b - a > 0 by omega)]
    have hD : 0 < cB a b - cA a b := by unfold cB cA; split <;> omega
    have ef1 : (wst w a b lo hi).f1 = if lesR w.f1 w.f2 (cL a b lo hi - cA a b) (cB a b - cA a b) = true then cL a b lo hi - cA a b else w.f1 := by show cF1 _ _ _ _ _ _ = _; rw [cF1, if_neg e0]
    have ef2 : (wst w a b lo hi).f2 = if lesR w.f1 w.f2 (cL a b lo hi - cA a b) (cB a b - cA a b) = true then cB a b - cA a b else w.f2 := by show cF2 _ _ _ _ _ _ = _; rw [cF2, if_neg e0]
    have et1 : (wst w a b lo hi).t1 = if lesR (cH a b lo hi - cA a b) (cB a b - cA a b) w.t1 w.t2 = true then cH a b lo hi - cA a b else w.t1 := by show cT1 _ _ _ _ _ _ = _; rw [cT1, if_neg e0]
    have et2 : (wst w a b lo hi).t2 = if lesR (cH a b lo hi - cA a b) (cB a b - cA a b) w.t1 w.t2 = true then cB a b - cA a b else w.t2 := by show cT2 _ _ _ _ _ _ = _; rw [cT2, if_neg e0]
    have A : ∀ m e : Int, 0 < e → ((wst w a b lo hi).f1 * e < m * (wst w a b lo hi).f2 ↔ w.f1 * e < m * w.f2 ∧ (bw a b lo hi).f * e < m * (bw a b lo hi).d) := fun m e he => by
      rw [ef1, ef2, eb]; exact fr_max h.f2 hD he
    have B : ∀ m e : Int, 0 < e → (m * (wst w a b lo hi).t2 < (wst w a b lo hi).t1 * e ↔ m * w.t2 < w.t1 * e ∧ m * (bw a b lo hi).d < (bw a b lo hi).t * e) := fun m e he => by
      rw [et1, et2, eb]; exact fr_min h.t2 hD he
    refine ⟨⟨?_, ?_, fun m e he h1 => h.lo m e he ((A m e he).1 h1).1, fun m e he h1 => h.hi m e he ((B m e he).1 h1).1⟩, by rw [eb]; exact hD, A, B⟩
    · rw [ef2]; split
      · exact hD
      · exact h.f2
    · rw [et2]; split
      · exact hD
      · exact h.t2
theorem crE_eq (ax ay az bx by_ bz x1 y1 z1 x2 y2 z2 : Int) : crE (w3 ax ay az bx by_ bz x1 y1 z1 x2 y2 z2) = linA (bw ax bx x1 x2) (bw ay by_ y1 y2) (bw az bz z1 z2) := by
  have h0 : WI ⟨-1, 1, 2, 1⟩ := ⟨by decide, by decide, fun m e _ h => h, fun m e _ h => h⟩
  obtain ⟨h1, hp, f1, t1⟩ := wst_law h0 ax bx x1 x2
  obtain ⟨h2, hq, f2, t2⟩ := wst_law h1 ay by_ y1 y2
  obtain ⟨h3, hr, f3, t3⟩ := wst_law h2 az bz z1 z2
  unfold w3 w2 w1
  generalize wst (wst (wst ⟨-1, 1, 2, 1⟩ ax bx x1 x2) ay by_ y1 y2) az bz z1 z2 = w at *
  generalize wst (wst ⟨-1, 1, 2, 1⟩ ax bx x1 x2) ay by_ y1 y2 = v at *
  generalize wst ⟨-1, 1, 2, 1⟩ ax bx x1 x2 = u at *
  generalize bw ax bx x1 x2 = p at *
  generalize bw ay by_ y1 y2 = q at *
  generalize bw az bz z1 z2 = r at *
  have hf : ∀ m e : Int, 0 < e → (w.f1 * e < m * w.f2 ↔ ((-1 * e < m * 1 ∧ p.f * e < m * p.d) ∧ q.f * e < m * q.d) ∧ r.f * e < m * r.d) := fun m e he => by rw [f3 m e he, f2 m e he, f1 m e he]
  have ht : ∀ m e : Int, 0 < e → (m * w.t2 < w.t1 * e ↔ ((m * 1 < 2 * e ∧ m * p.d < p.t * e) ∧ m * q.d < q.t * e) ∧ m * r.d < r.t * e) := fun m e he => by rw [t3 m e he, t2 m e he, t1 m e he]
  rw [Bool.eq_iff_iff]
  unfold crE linA bfr inT lesR
  simp only [Bool.and_eq_true, decide_eq_true_eq, Bool.not_eq_true', Bool.or_eq_false_iff, decide_eq_false_iff_not]
  rw [hf _ _ h3.t2, ht (-1) 1 (by decide), ht p.f p.d hp, ht q.f q.d hq, ht r.f r.d hr, hf 1 1 (by decide), ht 0 1 (by decide)]
  constructor
  · rintro ⟨⟨⟨⟨⟨⟨⟨a1, a2⟩, a3⟩, a4⟩, ⟨⟨⟨b1, b2⟩, b3⟩, b4⟩⟩, ⟨⟨⟨c1, c2⟩, c3⟩, c4⟩⟩, ⟨⟨⟨d1, d2⟩, d3⟩, d4⟩⟩, ⟨⟨⟨e1, e2⟩, e3⟩, e4⟩, ⟨⟨⟨g1, g2⟩, g3⟩, g4⟩⟩
    exact ⟨b2, b3, b4, ⟨by omega, by omega⟩, c2, c3, c4, ⟨by omega, by omega⟩, d2, d3, d4, by omega, by omega⟩
  · rintro ⟨b2, b3, b4, ⟨i1, i2⟩, c2, c3, c4, ⟨i3, i4⟩, d2, d3, d4, i5, i6⟩
    exact ⟨⟨⟨⟨⟨⟨⟨by omega, by omega⟩, by omega⟩, by omega⟩, ⟨⟨⟨by omega, b2⟩, b3⟩, b4⟩⟩, ⟨⟨⟨by omega, c2⟩, c3⟩, c4⟩⟩, ⟨⟨⟨by omega, d2⟩, d3⟩, d4⟩⟩, ⟨⟨⟨by omega, by omega⟩, by omega⟩, by omega⟩, ⟨⟨⟨by omega, by omega⟩, by omega⟩, by omega⟩⟩
theorem cut_bwO (a b lo hi : Int) : cutB a b lo hi = bwO a b lo hi := by
  unfold cutB bwO
  by_cases e : a = b
  · rw [if_pos e, if_pos (by omega)]
  · rw [if_neg e, if_neg (by omega)]
theorem crs_lin (ax ay az bx by_ bz x1 y1 z1 x2 y2 z2 : Int) : crs ax ay az bx by_ bz x1 y1 z1 x2 y2 z2 = linF ax ay az bx by_ bz x1 y1 z1 x2 y2 z2 := by
  unfold crs linF
  rw [crE_eq, cut_bwO, cut_bwO, cut_bwO]
theorem mt_eq (s : Scf) (k a b x1 y1 z1 x2 y2 z2 : Int) : mtF s k a b x1 y1 z1 x2 y2 z2 = mtR s k a b x1 y1 z1 x2 y2 z2 := by
  unfold mtF mtR
  split
  · exact decide_eq_decide.2 (by omega)
  · exact crs_lin _ _ _ _ _ _ _ _ _ _ _ _
theorem ixF_any (p : Nat → Bool) : ∀ n, decide (0 ≤ ixF p n) = anyN p n
  | 0 => rfl
  | n + 1 => by
    have ih := ixF_any p n
    rw [anyN, ← ih, ixF]
    by_cases h : 0 ≤ ixF p n
    · rw [if_pos h, decide_eq_true h, Bool.or_true]
    · rw [if_neg h, decide_eq_false h, Bool.or_false]
      cases e : p n with
      | true => rw [if_pos rfl, decide_eq_true (by omega)]
      | false => rw [if_neg (by decide)]; rfl
theorem anyN_eq {p q : Nat → Bool} (h : ∀ i, p i = q i) (n : Nat) : anyN p n = anyN q n := by rw [show p = q from funext h]
theorem bk_eq (s : Scf) (l : Bxs) : bkP s l = bkR s l := by
  funext i
  rw [bkP, ixF_any, bkR]
  exact anyN_eq (fun j => mt_eq _ _ _ _ _ _ _ _ _ _) _
end Go.Abs
