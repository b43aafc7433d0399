/- The program's regions and its parallel outlines. -/
import Derived.Test.YtcgfcahljfmipaaDoorG7
set_option linter.unusedVariables false
namespace Go.Abs.Geo
open Go.Abs
section
variable {n : Nat} {X Y : Nat → Int}
/-- Whether a number of steps is odd. -/
theorem odd_sm {f : Nat → Int} {g : Nat → Bool} (h : ∀ k, (f k = 0 ∧ g k = false) ∨ ((f k = 1 ∨ f k = -1) ∧ g k = true)) {c : Nat → Bool} (c0 : c 0 = false)
    (cs : ∀ k, c (k + 1) = if g k = true then !(c k) else c k) : ∀ k, c k = true ↔ sm f k % 2 = 1
  | 0 => by rw [c0, sm]; decide
  | k + 1 => by
    have ih := odd_sm h c0 cs k
    rw [cs, sm]
    rcases h k with ⟨h1, h2⟩ | ⟨h1, h2⟩
    · rw [h1, h2, if_neg (by decide), Int.add_zero]; exact ih
    · rw [h2, if_pos rfl]
      cases hc : c k with
      | true =>
        have := ih.1 hc
        exact ⟨fun h => (by cases h), fun h => (by omega)⟩
      | false =>
        have : ¬ sm f k % 2 = 1 := fun h => by have := ih.2 h; rw [hc] at this; cases this
        exact ⟨fun _ => by omega, fun _ => rfl⟩
/-- For places. -/
theorem crs_wp (P : Poly n (cyc n X) (cyc n Y)) (a b : Int) : crs n X Y a b n = true ↔ wp n (cyc n X) (cyc n Y) a b % 2 = 1 := by
  refine odd_sm (f := sv (cyc n X) (cyc n Y) a b) (g := crB n X Y a b) (fun k => ?_) rfl (fun k => rfl) n
  have hv := P.hv k
  unfold crB sv lo hi
  rw [(ix_at n X k).1, (ix_at n X k).2, (ix_at n Y k).1, (ix_at n Y k).2]
  generalize cyc n X k = p at *
  generalize cyc n X (k + 1) = p' at *
  generalize cyc n Y k = q at *
  generalize cyc n Y (k + 1) = q' at *
  rcases hv with ⟨h1, h2, _, _⟩ | ⟨h1, h2, _, _⟩
  · refine Or.inl ⟨if_neg (by omega), decide_eq_false (by omega)⟩
  · subst h1
    by_cases g1 : a < p
    · rw [if_pos ⟨rfl, g1⟩]
      by_cases g2 : q ≤ b ∧ b < q'
      · rw [if_pos g2]; exact Or.inr ⟨Or.inl rfl, decide_eq_true (by omega)⟩
      · rw [if_neg g2]
        by_cases g3 : q' ≤ b ∧ b < q
        · rw [if_pos g3]; exact Or.inr ⟨Or.inr rfl, decide_eq_true (by omega)⟩
        · rw [if_neg g3]; exact Or.inl ⟨rfl, decide_eq_false (by omega)⟩
    · exact Or.inl ⟨if_neg (by omega), decide_eq_false (by omega)⟩
/-- Directions by signs. -/
theorem st_sg {a b c d : Int} (h : (a ≠ c ∧ b = d) ∨ (a = c ∧ b ≠ d)) : stX ((dirD a b c d + 3) % 4) = sg (d - b) ∧ stY ((dirD a b c d + 3) % 4) = - sg (c - a) := by
  have h1 := sg_is (d - b)
  have h2 := sg_is (c - a)
  unfold dirD
  split
  · rw [show stX ((0 + 3) % 4) = 0 from rfl, show stY ((0 + 3) % 4) = -1 from rfl]; omega
  · split
    · rw [show stX ((1 + 3) % 4) = 1 from rfl, show stY ((1 + 3) % 4) = 0 from rfl]; omega
    · split
      · rw [show stX ((2 + 3) % 4) = 0 from rfl, show stY ((2 + 3) % 4) = 1 from rfl]; omega
      · split
        · rw [show stX ((3 + 3) % 4) = -1 from rfl, show stY ((3 + 3) % 4) = 0 from rfl]; omega
        · omega
theorem of_off (P : Poly n (cyc n X) (cyc n Y)) (d : Int) {i : Nat} (hi : i < n) : ofX n X Y d i = offX n (cyc n X) (cyc n Y) d i ∧ ofY n X Y d i = offY n (cyc n X) (cyc n Y) d i := by
  have hb := P.big
  have e1 : dD n X Y ((i : Int) - 1) = dirD (cyc n X (i + (n - 1))) (cyc n Y (i + (n - 1))) (cyc n X (i + (n - 1) + 1)) (cyc n Y (i + (n - 1) + 1)) := by
    rw [← dD_nat, ← dD_per n X Y ((i : Int) - 1), show (i : Int) - 1 + n = ((i + (n - 1) : Nat) : Int) by omega]
  have h1 := P.hv i
  have h2 := P.hv (i + (n - 1))
  obtain ⟨a1, a2⟩ := st_sg (a := cyc n X i) (b := cyc n Y i) (c := cyc n X (i + 1)) (d := cyc n Y (i + 1)) (by omega)
  obtain ⟨a3, a4⟩ := st_sg (a := cyc n X (i + (n - 1))) (b := cyc n Y (i + (n - 1))) (c := cyc n X (i + (n - 1) + 1)) (d := cyc n Y (i + (n - 1) + 1)) (by omega)
  unfold ofX ofY offX offY
  rw [e1, dD_nat, a1, a2, a3, a4, cyc_at hi, cyc_at hi]
  constructor
  · rw [Int.mul_add]; omega
  · rw [Int.mul_add, Int.mul_neg, Int.mul_neg]; omega
theorem cyc_off (P : Poly n (cyc n X) (cyc n Y)) (d : Int) : cyc n (ofX n X Y d) = offX n (cyc n X) (cyc n Y) d ∧ cyc n (ofY n X Y d) = offY n (cyc n X) (cyc n Y) d := by
  have hb := P.big
  constructor
  · funext i
    unfold cyc
    rw [(of_off P d (Nat.mod_lt i (by omega))).1]
    exact (per_all (offX_per P d) i).symm
  · funext i
    unfold cyc
    rw [(of_off P d (Nat.mod_lt i (by omega))).2]
    exact (per_all (offY_per P d) i).symm
theorem dir_val {a b c d : Int} : (sg (c - a) = 1 → sg (d - b) = 0 → dirD a b c d = 0) ∧ (sg (c - a) = 0 → sg (d - b) = 1 → dirD a b c d = 1) ∧ (sg (c - a) = -1 → sg (d - b) = 0 → dirD a b c d = 2) ∧ (sg (c - a) = 0 → sg (d - b) = -1 → dirD a b c d = 3) := by
  have h1 := sg_is (c - a)
  have h2 := sg_is (d - b)
  generalize sg (c - a) = u at *
  generalize sg (d - b) = v at *
  unfold dirD
  refine ⟨fun e1 e2 => ?_, fun e1 e2 => ?_, fun e1 e2 => ?_, fun e1 e2 => ?_⟩
  · rw [if_pos (by omega)]
  · rw [if_neg (by omega), if_pos (by omega)]
  · rw [if_neg (by omega), if_neg (by omega), if_pos (by omega)]
  · rw [if_neg (by omega), if_neg (by omega), if_neg (by omega), if_pos (by omega)]
/-- The signs of corners. -/
theorem corI_sg (P : Poly n (cyc n X) (cyc n Y)) (i : Nat) : corI n X Y ((i + 1 : Nat) : Int) = sg (cyc n X (i + 1) - cyc n X i) * sg (cyc n Y (i + 2) - cyc n Y (i + 1)) - sg (cyc n Y (i + 1) - cyc n Y i) * sg (cyc n X (i + 2) - cyc n X (i + 1)) := by
  have h := P.hv i
  unfold corI
  rw [show ((i + 1 : Nat) : Int) - 1 = (i : Int) by omega, dD_nat, dD_nat, show i + 1 + 1 = i + 2 from rfl]
  have h1 := sg_is (cyc n X (i + 1) - cyc n X i)
  have h2 := sg_is (cyc n Y (i + 1) - cyc n Y i)
  have h3 := sg_is (cyc n X (i + 2) - cyc n X (i + 1))
  have h4 := sg_is (cyc n Y (i + 2) - cyc n Y (i + 1))
  obtain ⟨d0, d1, d2, d3⟩ := dir_val (a := cyc n X i) (b := cyc n Y i) (c := cyc n X (i + 1)) (d := cyc n Y (i + 1))
  obtain ⟨f0, f1, f2, f3⟩ := dir_val (a := cyc n X (i + 1)) (b := cyc n Y (i + 1)) (c := cyc n X (i + 2)) (d := cyc n Y (i + 2))
  generalize dirD (cyc n X i) (cyc n Y i) (cyc n X (i + 1)) (cyc n Y (i + 1)) = D at *
  generalize dirD (cyc n X (i + 1)) (cyc n Y (i + 1)) (cyc n X (i + 2)) (cyc n Y (i + 2)) = E at *
  generalize sg (cyc n X (i + 1) - cyc n X i) = u at *
  generalize sg (cyc n Y (i + 1) - cyc n Y i) = v at *
  generalize sg (cyc n X (i + 2) - cyc n X (i + 1)) = u' at *
  generalize sg (cyc n Y (i + 2) - cyc n Y (i + 1)) = v' at *
  have hc : (u = 0 ∧ v' = 0 ∧ (v = 1 ∨ v = -1) ∧ (u' = 1 ∨ u' = -1)) ∨ (v = 0 ∧ u' = 0 ∧ (u = 1 ∨ u = -1) ∧ (v' = 1 ∨ v' = -1)) := by
    clear d0 d1 d2 d3 f0 f1 f2 f3
    omega
  clear h h1 h2 h3 h4
  rcases hc with ⟨rfl, rfl, rfl | rfl, rfl | rfl⟩ | ⟨rfl, rfl, rfl | rfl, rfl | rfl⟩
  · rw [d1 rfl rfl, f0 rfl rfl]; decide
  · rw [d1 rfl rfl, f2 rfl rfl]; decide
  · rw [d3 rfl rfl, f0 rfl rfl]; decide
  · rw [d3 rfl rfl, f2 rfl rfl]; decide
  · rw [d0 rfl rfl, f1 rfl rfl]; decide
  · rw [d0 rfl rfl, f3 rfl rfl]; decide
  · rw [d2 rfl rfl, f1 rfl rfl]; decide
  · rw [d2 rfl rfl, f3 rfl rfl]; decide
theorem lenW_nat (i : Nat) : lenW n X Y (i : Int) = (ln (cyc n X) (cyc n Y) i : Int) := by
  unfold lenW ln
  rw [(ix_at n X i).1, (ix_at n X i).2, (ix_at n Y i).1, (ix_at n Y i).2]
  omega
theorem flip_ok {d x0 x1 x2 x3 y0 y1 y2 y3 : Int} (h1 : (x0 ≠ x1 ∧ y0 = y1 ∧ x1 = x2 ∧ y1 ≠ y2) ∨ (x0 = x1 ∧ y0 ≠ y1 ∧ x1 ≠ x2 ∧ y1 = y2)) (h2 : (x1 ≠ x2 ∧ y1 = y2 ∧ x2 = x3 ∧ y2 ≠ y3) ∨ (x1 = x2 ∧ y1 ≠ y2 ∧ x2 ≠ x3 ∧ y2 = y3))
    (h : 0 < ((x2 - x1).natAbs + (y2 - y1).natAbs : Nat) + d * (sg (x1 - x0) * sg (y2 - y1) - sg (y1 - y0) * sg (x2 - x1)) + d * (sg (x2 - x1) * sg (y3 - y2) - sg (y2 - y1) * sg (x3 - x2))) :
    sg (x2 + d * (sg (y2 - y1) + sg (y3 - y2)) - (x1 + d * (sg (y1 - y0) + sg (y2 - y1)))) = sg (x2 - x1) ∧ sg (y2 - d * (sg (x2 - x1) + sg (x3 - x2)) - (y1 - d * (sg (x1 - x0) + sg (x2 - x1)))) = sg (y2 - y1) := by
  have s0 : ∀ z : Int, z = 0 → sg z = 0 := fun z h => by have := sg_is z; omega
  have sgv : ∀ z s : Int, ((0 < z ∧ s = 1) ∨ (z = 0 ∧ s = 0) ∨ (z < 0 ∧ s = -1)) → sg z = s := fun z s hz => by have := sg_is z; omega
  rcases h1 with ⟨p1, p2, p3, p4⟩ | ⟨p1, p2, p3, p4⟩
  · have q1 : x2 ≠ x3 := by omega
    have q2 : y2 = y3 := by omega
    clear h2
    subst p2 p3 q2
    rw [s0 (y0 - y0) (by omega), s0 (x1 - x1) (by omega), s0 (y2 - y2) (by omega)] at h ⊢
    rcases sg_is (x1 - x0) with ⟨a, ea⟩ | ⟨a, ea⟩ | ⟨a, ea⟩ <;> rcases sg_is (y2 - y0) with ⟨b, eb⟩ | ⟨b, eb⟩ | ⟨b, eb⟩ <;> rcases sg_is (x3 - x1) with ⟨c, ec⟩ | ⟨c, ec⟩ | ⟨c, ec⟩ <;> rw [ea, eb, ec] at h ⊢ <;> first | (exfalso; clear h; omega) | exact ⟨sgv _ _ (by omega), sgv _ _ (by omega)⟩
  · have q1 : x2 = x3 := by omega
    have q2 : y2 ≠ y3 := by omega
    clear h2
    subst p1 p4 q1
    rw [s0 (x0 - x0) (by omega), s0 (y1 - y1) (by omega), s0 (x2 - x2) (by omega)] at h ⊢
    rcases sg_is (y1 - y0) with ⟨a, ea⟩ | ⟨a, ea⟩ | ⟨a, ea⟩ <;> rcases sg_is (x2 - x0) with ⟨b, eb⟩ | ⟨b, eb⟩ | ⟨b, eb⟩ <;> rcases sg_is (y3 - y1) with ⟨c, ec⟩ | ⟨c, ec⟩ | ⟨c, ec⟩ <;> rw [ea, eb, ec] at h ⊢ <;> first | (exfalso; clear h; omega) | exact ⟨sgv _ _ (by omega), sgv _ _ (by omega)⟩
/-- Sides of the parallel outline that have a length have their directions. -/
theorem same_of (P : Poly n (cyc n X) (cyc n Y)) {d : Int} (h : ∀ i, i < n → 0 < ofL n X Y d (i : Nat)) : Same n (cyc n X) (cyc n Y) d := by
  have hb := P.big
  have cper : ∀ a : Int, corI n X Y (a + n) = corI n X Y a := fun a => by
    unfold corI
    rw [show a + (n : Int) - 1 = a - 1 + n by omega, dD_per, dD_per]
  have lper : ∀ a : Int, lenW n X Y (a + n) = lenW n X Y a := fun a => by
    unfold lenW
    rw [show a + (n : Int) + 1 = a + 1 + n by omega, ix_add, ix_add]
  have oper : ∀ a : Int, ofL n X Y d (a + n) = ofL n X Y d a := fun a => by
    unfold ofL
    rw [show a + (n : Int) + 1 = a + 1 + n by omega, cper, cper, lper]
  have all : ∀ i : Nat, 0 < ofL n X Y d (i : Nat) := fun i => by
    have := per_all (f := fun i : Nat => ofL n X Y d (i : Int)) (n := n) (fun i => by show ofL n X Y d ((i + n : Nat) : Int) = _; rw [Int.natCast_add, oper]) i
    rw [this]
    exact h _ (Nat.mod_lt i (by omega))
  refine ge1 (n := n) (P := fun i => sg (offX n (cyc n X) (cyc n Y) d (i + 1) - offX n (cyc n X) (cyc n Y) d i) = sg (cyc n X (i + 1) - cyc n X i) ∧ sg (offY n (cyc n X) (cyc n Y) d (i + 1) - offY n (cyc n X) (cyc n Y) d i) = sg (cyc n Y (i + 1) - cyc n Y i)) (by omega) (fun i h => ?_) fun i => ?_
  · show sg (offX n (cyc n X) (cyc n Y) d (i + 1) - offX n (cyc n X) (cyc n Y) d i) = sg (cyc n X (i + 1) - cyc n X i) ∧ sg (offY n (cyc n X) (cyc n Y) d (i + 1) - offY n (cyc n X) (cyc n Y) d i) = sg (cyc n Y (i + 1) - cyc n Y i)
    rw [show i + n + 1 = i + 1 + n by omega, offX_per P, offX_per P, offY_per P, offY_per P, cyc_per, cyc_per, cyc_per, cyc_per] at h
    exact h
  · have hl := all (i + 1)
    have hv := P.hv i
    have hv1 := P.hv (i + 1)
    obtain ⟨e1, e2⟩ := off_succ P d i
    obtain ⟨e3, e4⟩ := off_succ P d (i + 1)
    unfold ofL at hl
    rw [lenW_nat, corI_sg P i, show ((i + 1 : Nat) : Int) + 1 = ((i + 1 + 1 : Nat) : Int) by omega, corI_sg P (i + 1)] at hl
    unfold ln at hl
    have q1 : i + 1 + 1 = i + 2 := rfl
    have q2 : i + 1 + 2 = i + 3 := rfl
    rw [q1, q2] at *
    show sg (offX n (cyc n X) (cyc n Y) d (i + 2) - offX n (cyc n X) (cyc n Y) d (i + 1)) = sg (cyc n X (i + 2) - cyc n X (i + 1)) ∧ sg (offY n (cyc n X) (cyc n Y) d (i + 2) - offY n (cyc n X) (cyc n Y) d (i + 1)) = sg (cyc n Y (i + 2) - cyc n Y (i + 1))
    rw [e1, e2, e3, e4]
    clear e1 e2 e3 e4 all h oper lper cper
    exact flip_ok hv hv1 (by omega)
end
end Go.Abs.Geo
