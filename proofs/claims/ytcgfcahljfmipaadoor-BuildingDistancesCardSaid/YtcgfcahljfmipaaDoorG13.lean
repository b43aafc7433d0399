/- Distances: none inside, changing no faster than the way; of the parallel outline's corners. -/
import Derived.Test.YtcgfcahljfmipaaDoorG10
import Derived.Test.YtcgfcahljfmipaaDoorG12
set_option linter.unusedVariables false
namespace Go.Abs.Geo
open Go.Abs
theorem sq_step {x x' : Int} (h0 : 0 ≤ x) (h1 : 0 ≤ x') (h : x' ≤ x + 1) : x' * x' ≤ x * x + 2 * x + 1 := by
  have h2 : x' * x' ≤ (x + 1) * (x + 1) := Int.mul_le_mul h h h1 (by omega)
  have h3 : (x + 1) * (x + 1) = x * x + 2 * x + 1 := by grind
  omega
theorem sq_nn (x : Int) : 0 ≤ x * x := by
  rcases Int.le_total 0 x with h | h
  · exact Int.mul_nonneg h h
  · have := Int.mul_nonneg (show 0 ≤ -x by omega) (show 0 ≤ -x by omega)
    rwa [Int.neg_mul_neg] at this
theorem lip {x x' y N M : Int} (h0 : 0 ≤ x) (h1 : 0 ≤ x') (h : x' ≤ x + 1) (hN : N = x * x + y * y) (hM : M ≤ x' * x' + y * y) (hl : N < M) : (M - N - 1) * (M - N - 1) ≤ 4 * N := by
  have a := sq_step h0 h1 h
  have b : M - N - 1 ≤ 2 * x := by omega
  have c : (M - N - 1) * (M - N - 1) ≤ (2 * x) * (2 * x) := Int.mul_le_mul b b (by omega) (by omega)
  have e : (2 * x) * (2 * x) = 4 * (x * x) := by grind
  have f := sq_nn y
  omega
section
variable {n : Nat} {X Y : Nat → Int}
theorem dst_nn (p q : Int) (i : Nat) : 0 ≤ dst n X Y p q i := by
  unfold dst
  have := sq_nn (ap p (lo n X i) (hi n X i))
  have := sq_nn (ap q (lo n Y i) (hi n Y i))
  omega
theorem bst_min (p q : Int) : ∀ k, 0 < k → (∃ i, i < k ∧ bst n X Y p q k = dst n X Y p q i) ∧ ∀ j, j < k → bst n X Y p q k ≤ dst n X Y p q j
  | 0, h => absurd h (Nat.lt_irrefl 0)
  | 1, _ => by
    have e : bst n X Y p q 1 = dst n X Y p q 0 := if_pos (Or.inl (show (-1 : Int) < 0 by decide))
    exact ⟨⟨0, by decide, e⟩, fun j hj => by obtain rfl : j = 0 := by omega
                                             omega⟩
  | k + 2, _ => by
    obtain ⟨⟨i, hi, e⟩, h⟩ := bst_min p q (k + 1) (by omega)
    have hn := dst_nn (n := n) (X := X) (Y := Y) p q i
    rw [bst]
    split
    · rename_i c
      refine ⟨⟨k + 1, by omega, rfl⟩, fun j hj => ?_⟩
      by_cases e2 : j = k + 1
      · subst e2; exact Int.le_refl _
      · have := h j (by omega); omega
    · rename_i c
      refine ⟨⟨i, by omega, e⟩, fun j hj => ?_⟩
      by_cases e2 : j = k + 1
      · subst e2; omega
      · exact h j (by omega)
theorem ap_nn (p l h : Int) : 0 ≤ ap p l h := by unfold ap; omega
theorem ap_step (p l h : Int) : ap (p + 1) l h ≤ ap p l h + 1 ∧ ap p l h ≤ ap (p + 1) l h + 1 := by unfold ap; omega
theorem dst_on {p q : Int} {i : Nat} (h : onS n X Y p q i = true) : ap p (lo n X i) (hi n X i) = 0 ∧ ap q (lo n Y i) (hi n Y i) = 0 := by
  unfold onS at h
  rw [decide_eq_true_eq] at h
  unfold ap
  omega
theorem dst_pos {p q : Int} {i : Nat} (h : onS n X Y p q i = false) : 1 ≤ dst n X Y p q i := by
  have h0 := dst_nn (n := n) (X := X) (Y := Y) p q i
  refine Classical.byContradiction fun hc => ?_
  have e : dst n X Y p q i = 0 := by omega
  unfold dst at e
  have a := sq_nn (ap p (lo n X i) (hi n X i))
  have b := sq_nn (ap q (lo n Y i) (hi n Y i))
  have c1 : ap p (lo n X i) (hi n X i) = 0 := by
    have : ap p (lo n X i) (hi n X i) * ap p (lo n X i) (hi n X i) = 0 := by omega
    exact (Int.mul_eq_zero.1 this).elim id id
  have c2 : ap q (lo n Y i) (hi n Y i) = 0 := by
    have : ap q (lo n Y i) (hi n Y i) * ap q (lo n Y i) (hi n Y i) = 0 := by omega
    exact (Int.mul_eq_zero.1 this).elim id id
  unfold onS at h
  rw [decide_eq_false_iff_not] at h
  unfold ap at c1 c2
  omega
/-- Where a point is. -/
theorem wh_cases (n : Nat) (X Y : Nat → Int) (p q : Int) : (whF n X Y p q = 0 ∧ ∃ i, i < n ∧ onS n X Y p q i = true) ∨ (whF n X Y p q = 1 ∧ (∀ i, i < n → onS n X Y p q i = false) ∧ crs n X Y p q n = true) ∨
    (whF n X Y p q = -1 ∧ (∀ i, i < n → onS n X Y p q i = false) ∧ crs n X Y p q n = false) := by
  unfold whF
  by_cases h : ∀ i, i < n → onS n X Y p q i = false
  · rw [if_neg (fun h' => h' h)]
    cases hc : crs n X Y p q n with
    | true => exact Or.inr (Or.inl ⟨if_pos rfl, h, rfl⟩)
    | false => exact Or.inr (Or.inr ⟨if_neg (by decide), h, rfl⟩)
  · rw [if_pos h]
    refine Or.inl ⟨rfl, Classical.byContradiction fun h' => h fun i hi => ?_⟩
    cases e : onS n X Y p q i with
    | false => rfl
    | true => exact absurd ⟨i, hi, e⟩ h'
/-- Moving past no side one stays inside, or outside. -/
theorem crs_step {p q : Int} (h : ∀ i, i < n → onS n X Y (p + 1) q i = false) : ∀ k, k ≤ n → crs n X Y p q k = crs n X Y (p + 1) q k
  | 0, _ => rfl
  | k + 1, hk => by
    have ih := crs_step h k (by omega)
    have ho := h k (by omega)
    have e : crB n X Y p q k = crB n X Y (p + 1) q k := by
      unfold onS at ho
      rw [decide_eq_false_iff_not] at ho
      unfold crB
      rw [decide_eq_decide]
      omega
    rw [crs, crs, e, ih]
/-- The distance's square, of a place that is known. -/
def dsq (n : Nat) (X Y : Nat → Int) (p q : Int) : Int := if whF n X Y p q ≥ 0 then 0 else bst n X Y p q n
theorem diR_dsq {p q : Int} (h : whE n X Y p q = 0) : diR n X Y p q = dsq n X Y p q ∧ whR n X Y p q = whF n X Y p q := by
  have e : whR n X Y p q = whF n X Y p q := by unfold whR; rw [if_neg (fun h' => h' h)]
  refine ⟨?_, e⟩
  unfold diR dsq
  rw [e]
  by_cases c : whF n X Y p q ≥ 0
  · rw [if_pos (Or.inr c), if_pos c]
  · rw [if_neg (fun h' => h'.elim (fun h' => h' h) c), if_neg c]
theorem dsq_is (hn : 0 < n) (p q : Int) : 0 ≤ dsq n X Y p q ∧ (dsq n X Y p q = 0 ↔ 0 ≤ whF n X Y p q) := by
  obtain ⟨⟨i, hi, e⟩, h⟩ := bst_min (n := n) (X := X) (Y := Y) p q n hn
  unfold dsq
  rcases wh_cases n X Y p q with ⟨w, _⟩ | ⟨w, _, _⟩ | ⟨w, hf, _⟩
  · rw [w]; simp
  · rw [w]; simp
  · rw [w, if_neg (by decide)]
    have := dst_pos (hf i hi)
    omega
/-- The distance's square changes little. -/
theorem dsq_lip (hn : 0 < n) (p q : Int) : (dsq n X Y p q < dsq n X Y (p + 1) q → (dsq n X Y (p + 1) q - dsq n X Y p q - 1) * (dsq n X Y (p + 1) q - dsq n X Y p q - 1) ≤ 4 * dsq n X Y (p + 1) q) ∧
    (dsq n X Y (p + 1) q < dsq n X Y p q → (dsq n X Y p q - dsq n X Y (p + 1) q - 1) * (dsq n X Y p q - dsq n X Y (p + 1) q - 1) ≤ 4 * dsq n X Y p q) := by
  obtain ⟨⟨i, hin, ei⟩, hmi⟩ := bst_min (n := n) (X := X) (Y := Y) p q n hn
  obtain ⟨⟨j, hj, ej⟩, hmj⟩ := bst_min (n := n) (X := X) (Y := Y) (p + 1) q n hn
  have up : ∀ k, k < n → onS n X Y p q k = true → bst n X Y (p + 1) q n ≤ 1 := fun k hk ho => by
    obtain ⟨a1, a2⟩ := dst_on ho
    have h1 := hmj k hk
    have h2 := (ap_step p (lo n X k) (hi n X k)).1
    have h3 := ap_nn (p + 1) (lo n X k) (hi n X k)
    unfold dst at h1
    rw [a2] at h1
    have h4 : ap (p + 1) (lo n X k) (hi n X k) * ap (p + 1) (lo n X k) (hi n X k) ≤ 1 * 1 := Int.mul_le_mul (by omega) (by omega) h3 (by decide)
    omega
  have dn : ∀ k, k < n → onS n X Y (p + 1) q k = true → bst n X Y p q n ≤ 1 := fun k hk ho => by
    obtain ⟨a1, a2⟩ := dst_on ho
    have h1 := hmi k hk
    have h2 := (ap_step p (lo n X k) (hi n X k)).2
    have h3 := ap_nn p (lo n X k) (hi n X k)
    unfold dst at h1
    rw [a2] at h1
    have h4 : ap p (lo n X k) (hi n X k) * ap p (lo n X k) (hi n X k) ≤ 1 * 1 := Int.mul_le_mul (by omega) (by omega) h3 (by decide)
    omega
  have small : ∀ z : Int, 0 < z → z ≤ 1 → (z - 0 - 1) * (z - 0 - 1) ≤ 4 * z := fun z h1 h2 => by
    obtain rfl : z = 1 := by omega
    decide
  unfold dsq
  rcases wh_cases n X Y p q with ⟨w, k, hk, ho⟩ | ⟨w, hf, hc⟩ | ⟨w, hf, hc⟩ <;> rcases wh_cases n X Y (p + 1) q with ⟨w', k', hk', ho'⟩ | ⟨w', hf', hc'⟩ | ⟨w', hf', hc'⟩ <;> rw [w, w']
  · simp
  · simp
  · rw [if_pos (by decide), if_neg (by decide)]
    have := up k hk ho
    exact ⟨fun h => small _ h this, fun h => by have := dst_nn (n := n) (X := X) (Y := Y) (p + 1) q j; omega⟩
  · simp
  · simp
  · rw [crs_step hf' n (Nat.le_refl _), hc'] at hc; cases hc
  · rw [if_neg (by decide), if_pos (by decide)]
    have := dn k' hk' ho'
    exact ⟨fun h => by have := dst_nn (n := n) (X := X) (Y := Y) p q i; omega, fun h => small _ h this⟩
  · rw [crs_step hf' n (Nat.le_refl _), hc'] at hc; cases hc
  · rw [if_neg (by decide), if_neg (by decide)]
    refine ⟨fun h => ?_, fun h => ?_⟩
    · have h1 := hmj i hin
      have := lip (x := ap p (lo n X i) (hi n X i)) (x' := ap (p + 1) (lo n X i) (hi n X i)) (y := ap q (lo n Y i) (hi n Y i)) (ap_nn _ _ _) (ap_nn _ _ _) (ap_step _ _ _).1 ei h1 h
      omega
    · have h1 := hmi j hj
      have := lip (x := ap (p + 1) (lo n X j) (hi n X j)) (x' := ap p (lo n X j) (hi n X j)) (y := ap q (lo n Y j) (hi n Y j)) (ap_nn _ _ _) (ap_nn _ _ _) (ap_step _ _ _).2 ej h1 h
      omega
/-- A corner of the parallel outline: its distance. -/
theorem dsq_off {d : Int} (h : chk n X Y = 0) (hE : ofE n X Y d = 0) (hd : 1 ≤ d) {i : Nat} (hin : i < n) : 1 ≤ dsq n X Y (ofX n X Y d i) (ofY n X Y d i) ∧ dsq n X Y (ofX n X Y d i) (ofY n X Y d i) ≤ 2 * d * d := by
  obtain ⟨hS, hO⟩ := of_zero hE
  have P := chk_poly h
  have hn := chk_n h
  obtain ⟨Q, _, hw⟩ := chkO_poly h hO
  have A : Par n (cyc n X) (cyc n Y) d := ⟨P, (chk_good h).2, Q, hw, same_of P hS, hd⟩
  obtain ⟨o1, o2⟩ := of_off P d hin
  obtain ⟨out1, out2⟩ := A.out hin
  rw [← o1, ← o2] at out1 out2
  have hf : ∀ k, k < n → onS n X Y (ofX n X Y d i) (ofY n X Y d i) k = false := fun k hk => by
    cases e : onS n X Y (ofX n X Y d i) (ofY n X Y d i) k with
    | false => rfl
    | true =>
      refine absurd ⟨k, hk, ?_⟩ out1
      unfold onS lo hi at e
      rw [decide_eq_true_eq, (ix_at n X k).1, (ix_at n X k).2, (ix_at n Y k).1, (ix_at n Y k).2] at e
      exact e
  have hc : crs n X Y (ofX n X Y d i) (ofY n X Y d i) n = false := by
    cases e : crs n X Y (ofX n X Y d i) (ofY n X Y d i) n with
    | false => rfl
    | true =>
      have := (crs_wp P _ _).1 e
      rw [out2] at this
      exact absurd this (by decide)
  have hw1 : whF n X Y (ofX n X Y d i) (ofY n X Y d i) = -1 := by
    rcases wh_cases n X Y (ofX n X Y d i) (ofY n X Y d i) with ⟨_, k, hk, ho⟩ | ⟨_, _, hc'⟩ | ⟨w, _, _⟩
    · rw [hf k hk] at ho; cases ho
    · rw [hc] at hc'; cases hc'
    · exact w
  obtain ⟨⟨j, hj, ej⟩, hm⟩ := bst_min (n := n) (X := X) (Y := Y) (ofX n X Y d i) (ofY n X Y d i) n (by omega)
  unfold dsq
  rw [hw1, if_neg (by decide)]
  refine ⟨by have := dst_pos (hf j hj); omega, Int.le_trans (hm i hin) ?_⟩
  have st : ∀ z : Int, -1 ≤ stX z ∧ stX z ≤ 1 ∧ -1 ≤ stY z ∧ stY z ≤ 1 := fun z => by unfold stX stY; (repeat' split) <;> omega
  have hv := P.hv i
  have bx : -d ≤ ofX n X Y d i - X i ∧ ofX n X Y d i - X i ≤ d ∧ -d ≤ ofY n X Y d i - Y i ∧ ofY n X Y d i - Y i ≤ d := by
    have hb := P.big
    rw [o1, o2, ← cyc_at (n := n) (X := X) hin, ← cyc_at (n := n) (X := Y) hin]
    unfold offX offY
    have a1 := sg_is (cyc n Y (i + (n - 1) + 1) - cyc n Y (i + (n - 1)))
    have a2 := sg_is (cyc n Y (i + 1) - cyc n Y i)
    have a3 := sg_is (cyc n X (i + (n - 1) + 1) - cyc n X (i + (n - 1)))
    have a4 := sg_is (cyc n X (i + 1) - cyc n X i)
    have hv2 := P.hv (i + (n - 1))
    rw [show i + (n - 1) + 2 = i + 1 + n by omega, show i + (n - 1) + 1 = i + n by omega, cyc_per, cyc_per, cyc_per, cyc_per] at hv2
    rw [show i + (n - 1) + 1 = i + n by omega, cyc_per, cyc_per] at *
    generalize cyc n X (i + (n - 1)) = x0 at *
    generalize cyc n Y (i + (n - 1)) = y0 at *
    generalize cyc n X i = x1 at *
    generalize cyc n Y i = y1 at *
    generalize cyc n X (i + 1) = x2 at *
    generalize cyc n Y (i + 1) = y2 at *
    generalize sg (y1 - y0) = s1 at *
    generalize sg (y2 - y1) = s2 at *
    generalize sg (x1 - x0) = s3 at *
    generalize sg (x2 - x1) = s4 at *
    have c1 : s1 + s2 = 1 ∨ s1 + s2 = -1 := by clear st hm ej out1 out2; omega
    have c2 : s3 + s4 = 1 ∨ s3 + s4 = -1 := by clear st hm ej out1 out2; omega
    rcases c1 with c1 | c1 <;> rcases c2 with c2 | c2 <;> rw [c1, c2] <;> omega
  have px : ap (ofX n X Y d i) (lo n X i) (hi n X i) ≤ d := by
    have : lo n X i ≤ X i ∧ X i ≤ hi n X i := by
      unfold lo hi
      rw [(ix_at n X i).1, cyc_at hin]
      omega
    unfold ap
    omega
  have py : ap (ofY n X Y d i) (lo n Y i) (hi n Y i) ≤ d := by
    have : lo n Y i ≤ Y i ∧ Y i ≤ hi n Y i := by
      unfold lo hi
      rw [(ix_at n Y i).1, cyc_at hin]
      omega
    unfold ap
    omega
  unfold dst
  have a := Int.mul_le_mul px px (ap_nn _ _ _) (by omega)
  have b := Int.mul_le_mul py py (ap_nn _ _ _) (by omega)
  have e : 2 * d * d = d * d + d * d := by grind
  omega
end
end Go.Abs.Geo
