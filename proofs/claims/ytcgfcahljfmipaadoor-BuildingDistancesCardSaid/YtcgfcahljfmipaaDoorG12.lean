/- The corners of the parallel outline lie outside. The corners of the parallel outline lie outside: all cells at a point of the region are covered. -/
import Derived.Test.YtcgfcahljfmipaaDoorG9
section
set_option linter.unusedVariables false
namespace Go.Abs.Geo
section
variable {n : Nat} {X Y : Nat → Int} {d : Int}
/-- Sides, counted from any corner. -/
theorem idx {n : Nat} (hn : 0 < n) (j : Nat) : ∃ j0, j0 < n ∧ ∀ f : Nat → Int, (∀ m, f (m + n) = f m) → ∀ k, f (j0 + k) = f (j + k) := by
  refine ⟨j % n, Nat.mod_lt j hn, fun f hf k => ?_⟩
  rw [per_all hf (j % n + k), per_all hf (j + k), Nat.mod_add_mod]
theorem idx1 {n : Nat} (hn : 0 < n) (j : Nat) : ∃ i, i < n ∧ ∀ f : Nat → Int, (∀ m, f (m + n) = f m) → ∀ k, f (i + 1 + k) = f (j + k) := by
  obtain ⟨i, hi, h⟩ := idx hn (j + (n - 1))
  refine ⟨i, hi, fun f hf k => ?_⟩
  rw [show i + 1 + k = i + (1 + k) by omega, h f hf (1 + k), show j + (n - 1) + (1 + k) = j + k + n by omega, hf]
theorem pt1 (P : Poly n X Y) (hd : 0 ≤ d) (a b : Int) (i : Nat) : sv X Y a b (i + 1) ≤ sv (offX n X Y d) Y a b (i + 1) := by
  have hf := mid_facts P d i
  have q1 : i + 1 + 1 = i + 2 := rfl
  unfold sv
  rw [q1]
  rcases hf with ⟨f1, f2, f3, f4⟩ | ⟨f1, f2, f3, f4⟩ | ⟨f1, f2, f3, f4⟩ | ⟨f1, f2, f3, f4⟩
  · rw [f3, f4]; (repeat' split) <;> omega
  · rw [f3, f4]; (repeat' split) <;> omega
  · (repeat' split) <;> omega
  · (repeat' split) <;> omega
theorem pt2 (P : Poly n X Y) (hd : 0 ≤ d) (hs : Same n X Y d) (a b : Int) (i : Nat) : sh (offX n X Y d) Y a b (i + 1) ≤ sh (offX n X Y d) (offY n X Y d) a b (i + 1) := by
  have hf := mid_facts P d i
  have hg := (hs (i + 1)).1
  have q1 : i + 1 + 1 = i + 2 := rfl
  unfold sh
  rw [q1] at hg ⊢
  have sx := sg_is (offX n X Y d (i + 2) - offX n X Y d (i + 1))
  have sx' := sg_is (X (i + 2) - X (i + 1))
  rcases hf with ⟨f1, f2, f3, f4⟩ | ⟨f1, f2, f3, f4⟩ | ⟨f1, f2, f3, f4⟩ | ⟨f1, f2, f3, f4⟩ <;> (rw [f3, f4]; (repeat' split) <;> omega)
theorem pt1' (P : Poly n X Y) (hd : 0 ≤ d) (a b : Int) (i : Nat) : sh X Y a b (i + 1) ≤ sh X (offY n X Y d) a b (i + 1) := by
  have hf := mid_facts P d i
  have q1 : i + 1 + 1 = i + 2 := rfl
  unfold sh
  rw [q1]
  rcases hf with ⟨f1, f2, f3, f4⟩ | ⟨f1, f2, f3, f4⟩ | ⟨f1, f2, f3, f4⟩ | ⟨f1, f2, f3, f4⟩
  · (repeat' split) <;> omega
  · (repeat' split) <;> omega
  · rw [f3, f4]; (repeat' split) <;> omega
  · rw [f3, f4]; (repeat' split) <;> omega
theorem pt2' (P : Poly n X Y) (hd : 0 ≤ d) (hs : Same n X Y d) (a b : Int) (i : Nat) : sv X (offY n X Y d) a b (i + 1) ≤ sv (offX n X Y d) (offY n X Y d) a b (i + 1) := by
  have hf := mid_facts P d i
  have hg := (hs (i + 1)).2
  have q1 : i + 1 + 1 = i + 2 := rfl
  unfold sv
  rw [q1] at hg ⊢
  have sx := sg_is (offY n X Y d (i + 2) - offY n X Y d (i + 1))
  have sx' := sg_is (Y (i + 2) - Y (i + 1))
  rcases hf with ⟨f1, f2, f3, f4⟩ | ⟨f1, f2, f3, f4⟩ | ⟨f1, f2, f3, f4⟩ | ⟨f1, f2, f3, f4⟩ <;> (rw [f3, f4]; (repeat' split) <;> omega)
theorem mid_rect' (P : Poly n X Y) (d : Int) : Rect X (offY n X Y d) := by
  refine ge1 (n := n) (P := fun i => X i = X (i + 1) ∨ offY n X Y d i = offY n X Y d (i + 1)) (by have := P.big; omega) (fun i h => ?_) fun i => ?_
  · show X i = X (i + 1) ∨ offY n X Y d i = offY n X Y d (i + 1)
    rw [offY_per P, show i + n + 1 = i + 1 + n by omega, offY_per P, P.px, P.px] at h
    exact h
  · have := mid_facts P d i
    show X (i + 1) = X (i + 2) ∨ offY n X Y d (i + 1) = offY n X Y d (i + 2)
    omega
/-- A cell that an upright side's strip covers; a level side's, moved or not. -/
theorem strip1 (P : Poly n X Y) (hd : 0 ≤ d) (hs : Same n X Y d) {a b : Int} {i : Nat} (hi : i < n) (h : sv X Y a b (i + 1) + 1 ≤ sv (offX n X Y d) Y a b (i + 1)) : wp n X Y a b + 1 ≤ wp n (offX n X Y d) (offY n X Y d) a b := by
  have h1 : wp n X Y a b + 1 ≤ wp n (offX n X Y d) Y a b := by
    unfold wp
    rw [sm_shift1 (sv_per P.px P.py a b), sm_shift1 (sv_per (offX_per P d) P.py a b)]
    exact sm_le1 (fun i _ => pt1 P hd a b i) hi h
  have h2 : wh n (offX n X Y d) Y a b ≤ wh n (offX n X Y d) (offY n X Y d) a b := by
    unfold wh
    rw [sm_shift1 (sh_per (offX_per P d) P.py a b), sm_shift1 (sh_per (offX_per P d) (offY_per P d) a b)]
    exact sm_le fun i _ => pt2 P hd hs a b i
  rw [wp_wh (offX_per P d) P.py (mid_rect P d)] at h1
  rw [← wp_wh (offX_per P d) (offY_per P d) (off_rect P d)] at h2
  omega
theorem strip2 (P : Poly n X Y) (hd : 0 ≤ d) (hs : Same n X Y d) {a b : Int} {i : Nat} (hi : i < n) (h : sh (offX n X Y d) Y a b (i + 1) + 1 ≤ sh (offX n X Y d) (offY n X Y d) a b (i + 1)) : wp n X Y a b + 1 ≤ wp n (offX n X Y d) (offY n X Y d) a b := by
  have h1 : wp n X Y a b ≤ wp n (offX n X Y d) Y a b := by
    unfold wp
    rw [sm_shift1 (sv_per P.px P.py a b), sm_shift1 (sv_per (offX_per P d) P.py a b)]
    exact sm_le fun i _ => pt1 P hd a b i
  have h2 : wh n (offX n X Y d) Y a b + 1 ≤ wh n (offX n X Y d) (offY n X Y d) a b := by
    unfold wh
    rw [sm_shift1 (sh_per (offX_per P d) P.py a b), sm_shift1 (sh_per (offX_per P d) (offY_per P d) a b)]
    exact sm_le1 (fun i _ => pt2 P hd hs a b i) hi h
  rw [wp_wh (offX_per P d) P.py (mid_rect P d)] at h1
  rw [← wp_wh (offX_per P d) (offY_per P d) (off_rect P d)] at h2
  omega
theorem strip3 (P : Poly n X Y) (hd : 0 ≤ d) (hs : Same n X Y d) {a b : Int} {i : Nat} (hi : i < n) (h : sh X Y a b (i + 1) + 1 ≤ sh X (offY n X Y d) a b (i + 1)) : wp n X Y a b + 1 ≤ wp n (offX n X Y d) (offY n X Y d) a b := by
  have h1 : wh n X Y a b + 1 ≤ wh n X (offY n X Y d) a b := by
    unfold wh
    rw [sm_shift1 (sh_per P.px P.py a b), sm_shift1 (sh_per P.px (offY_per P d) a b)]
    exact sm_le1 (fun i _ => pt1' P hd a b i) hi h
  have h2 : wp n X (offY n X Y d) a b ≤ wp n (offX n X Y d) (offY n X Y d) a b := by
    unfold wp
    rw [sm_shift1 (sv_per P.px (offY_per P d) a b), sm_shift1 (sv_per (offX_per P d) (offY_per P d) a b)]
    exact sm_le fun i _ => pt2' P hd hs a b i
  rw [← wp_wh P.px P.py P.rect] at h1
  rw [wp_wh P.px (offY_per P d) (mid_rect' P d)] at h2
  omega
/-- What is known where the parallel outline is accepted. -/
structure Par (n : Nat) (X Y : Nat → Int) (d : Int) : Prop where
  P : Poly n X Y
  w : ∀ a b, wp n X Y a b = 0 ∨ wp n X Y a b = 1
  Q : Poly n (offX n X Y d) (offY n X Y d)
  w' : ∀ a b, wp n (offX n X Y d) (offY n X Y d) a b = 0 ∨ wp n (offX n X Y d) (offY n X Y d) a b = 1
  hs : Same n X Y d
  hd : 1 ≤ d
theorem Par.ge (A : Par n X Y d) (a b : Int) : wp n X Y a b ≤ wp n (offX n X Y d) (offY n X Y d) a b := off_ge A.P (by have := A.hd; omega) A.hs a b
theorem Par.up (A : Par n X Y d) {j : Nat} {a b : Int} (hx : X (j + 1) = X j) (h : Y j ≤ b ∧ b < Y (j + 1)) (ha : X j ≤ a ∧ a < X j + d) : 1 ≤ wp n (offX n X Y d) (offY n X Y d) a b := by
  obtain ⟨i, hi, hf⟩ := idx1 (n := n) (by have := A.P.big; omega) j
  have e0 := hf X A.P.px 0
  have e1 := hf X A.P.px 1
  have e2 := hf Y A.P.py 0
  have e3 := hf Y A.P.py 1
  simp only [Nat.add_zero] at e0 e2
  rw [show i + 1 + 1 = i + 2 from rfl] at e1 e3
  have hm := mid_facts A.P d i
  have := strip1 A.P (by have := A.hd; omega) A.hs (a := a) (b := b) hi (by
    unfold sv
    rw [show i + 1 + 1 = i + 2 from rfl]
    (repeat' split) <;> omega)
  have := A.w a b
  omega
theorem Par.down (A : Par n X Y d) {j : Nat} {a b : Int} (hx : X (j + 1) = X j) (h : Y (j + 1) ≤ b ∧ b < Y j) (ha : X j - d ≤ a ∧ a < X j) : 1 ≤ wp n (offX n X Y d) (offY n X Y d) a b := by
  obtain ⟨i, hi, hf⟩ := idx1 (n := n) (by have := A.P.big; omega) j
  have e0 := hf X A.P.px 0
  have e1 := hf X A.P.px 1
  have e2 := hf Y A.P.py 0
  have e3 := hf Y A.P.py 1
  simp only [Nat.add_zero] at e0 e2
  rw [show i + 1 + 1 = i + 2 from rfl] at e1 e3
  have hm := mid_facts A.P d i
  have := strip1 A.P (by have := A.hd; omega) A.hs (a := a) (b := b) hi (by
    unfold sv
    rw [show i + 1 + 1 = i + 2 from rfl]
    (repeat' split) <;> omega)
  have := A.w a b
  omega
theorem Par.east (A : Par n X Y d) {j : Nat} {a b : Int} (hy : Y (j + 1) = Y j) (hx : X j < X (j + 1)) (h : (X j ≤ a ∧ a < X (j + 1)) ∨ (offX n X Y d j ≤ a ∧ a < offX n X Y d (j + 1))) (hb : Y j - d ≤ b ∧ b < Y j) : 1 ≤ wp n (offX n X Y d) (offY n X Y d) a b := by
  obtain ⟨i, hi, hf⟩ := idx1 (n := n) (by have := A.P.big; omega) j
  have e0 := hf X A.P.px 0
  have e1 := hf X A.P.px 1
  have e2 := hf Y A.P.py 0
  have e3 := hf Y A.P.py 1
  have e4 := hf (offX n X Y d) (offX_per A.P d) 0
  have e5 := hf (offX n X Y d) (offX_per A.P d) 1
  simp only [Nat.add_zero] at e0 e2 e4
  rw [show i + 1 + 1 = i + 2 from rfl] at e1 e3 e5
  have hm := mid_facts A.P d i
  have hv := A.w a b
  rcases h with h | h
  · have := strip3 A.P (by have := A.hd; omega) A.hs (a := a) (b := b) hi (by
      unfold sh
      rw [show i + 1 + 1 = i + 2 from rfl]
      (repeat' split) <;> omega)
    omega
  · have := strip2 A.P (by have := A.hd; omega) A.hs (a := a) (b := b) hi (by
      unfold sh
      rw [show i + 1 + 1 = i + 2 from rfl]
      (repeat' split) <;> omega)
    omega
theorem Par.west (A : Par n X Y d) {j : Nat} {a b : Int} (hy : Y (j + 1) = Y j) (hx : X (j + 1) < X j) (h : (X (j + 1) ≤ a ∧ a < X j) ∨ (offX n X Y d (j + 1) ≤ a ∧ a < offX n X Y d j)) (hb : Y j ≤ b ∧ b < Y j + d) : 1 ≤ wp n (offX n X Y d) (offY n X Y d) a b := by
  obtain ⟨i, hi, hf⟩ := idx1 (n := n) (by have := A.P.big; omega) j
  have e0 := hf X A.P.px 0
  have e1 := hf X A.P.px 1
  have e2 := hf Y A.P.py 0
  have e3 := hf Y A.P.py 1
  have e4 := hf (offX n X Y d) (offX_per A.P d) 0
  have e5 := hf (offX n X Y d) (offX_per A.P d) 1
  simp only [Nat.add_zero] at e0 e2 e4
  rw [show i + 1 + 1 = i + 2 from rfl] at e1 e3 e5
  have hm := mid_facts A.P d i
  have hv := A.w a b
  rcases h with h | h
  · have := strip3 A.P (by have := A.hd; omega) A.hs (a := a) (b := b) hi (by
      unfold sh
      rw [show i + 1 + 1 = i + 2 from rfl]
      (repeat' split) <;> omega)
    omega
  · have := strip2 A.P (by have := A.hd; omega) A.hs (a := a) (b := b) hi (by
      unfold sh
      rw [show i + 1 + 1 = i + 2 from rfl]
      (repeat' split) <;> omega)
    omega
/-- The region's cells at its sides. -/
theorem Par.left (A : Par n X Y d) (j : Nat) : (∀ b, X (j + 1) = X j → Y j ≤ b ∧ b < Y (j + 1) → wp n X Y (X j - 1) b = 1) ∧ (∀ b, X (j + 1) = X j → Y (j + 1) ≤ b ∧ b < Y j → wp n X Y (X j) b = 1) ∧
    (∀ a, Y (j + 1) = Y j → X j ≤ a ∧ a < X (j + 1) → wp n X Y a (Y j) = 1) ∧ (∀ a, Y (j + 1) = Y j → X (j + 1) ≤ a ∧ a < X j → wp n X Y a (Y j - 1) = 1) := by
  obtain ⟨i, hi, hf⟩ := idx (n := n) (by have := A.P.big; omega) j
  have e0 := hf X A.P.px 0
  have e1 := hf X A.P.px 1
  have e2 := hf Y A.P.py 0
  have e3 := hf Y A.P.py 1
  simp only [Nat.add_zero] at e0 e2
  rw [← e0, ← e1, ← e2, ← e3]
  exact ⟨fun b h1 h2 => (A.P.up A.w hi h1 h2).1, fun b h1 h2 => (A.P.down A.w hi h1 h2).2, fun a h1 h2 => (A.P.east A.w hi h1 h2).1, fun a h1 h2 => (A.P.west A.w hi h1 h2).2⟩
theorem Par.near_v (A : Par n X Y d) {j : Nat} {a b : Int} (hx : X (j + 1) = X j) (h : (Y j ≤ b ∧ b < Y (j + 1)) ∨ (Y (j + 1) ≤ b ∧ b < Y j)) (ha : a = X j ∨ a = X j - 1) : 1 ≤ wp n (offX n X Y d) (offY n X Y d) a b := by
  have hd := A.hd
  obtain ⟨l1, l2, _, _⟩ := A.left j
  have g := A.ge a b
  rcases h with h | h
  · rcases ha with rfl | rfl
    · exact A.up hx h (by omega)
    · have := l1 b hx h; omega
  · rcases ha with rfl | rfl
    · have := l2 b hx h; omega
    · exact A.down hx h (by omega)
theorem Par.near_h (A : Par n X Y d) {j : Nat} {a b : Int} (hy : Y (j + 1) = Y j) (h : (X j ≤ a ∧ a < X (j + 1)) ∨ (X (j + 1) ≤ a ∧ a < X j)) (hb : b = Y j ∨ b = Y j - 1) : 1 ≤ wp n (offX n X Y d) (offY n X Y d) a b := by
  have hd := A.hd
  obtain ⟨_, _, l1, l2⟩ := A.left j
  have g := A.ge a b
  rcases h with h | h
  · rcases hb with rfl | rfl
    · have := l1 a hy h; omega
    · exact A.east hy (by omega) (Or.inl h) (by omega)
  · rcases hb with rfl | rfl
    · exact A.west hy (by omega) (Or.inl h) (by omega)
    · have := l2 a hy h; omega
/-- Beside a level (an upright) side no other one of its kind passes. -/
theorem Poly.no_h (P : Poly n X Y) {j : Nat} {a p : Int} (hy : Y (j + 1) = Y j) (hp : min (X j) (X (j + 1)) ≤ p ∧ p ≤ max (X j) (X (j + 1))) (ha : a = p ∨ a = p - 1) (hn : ¬ ((X j ≤ a ∧ a < X (j + 1)) ∨ (X (j + 1) ≤ a ∧ a < X j))) : wp n X Y a (Y j) = wp n X Y a (Y j - 1) := by
  obtain ⟨i, hi, hf⟩ := idx (n := n) (by have := P.big; omega) j
  have e0 := hf X P.px 0
  have e1 := hf X P.px 1
  have e2 := hf Y P.py 0
  have e3 := hf Y P.py 1
  simp only [Nat.add_zero] at e0 e2
  have e := P.wp_h a (Y j)
  rw [sm_eq (g := fun _ => 0) fun s hs => ?_, sm_zero] at e
  · omega
  · refine Classical.byContradiction fun h2 => ?_
    unfold eh at h2
    have q2 : Y (s + 1) = Y s ∧ Y s = Y j ∧ ((X s ≤ a ∧ a < X (s + 1)) ∨ (X (s + 1) ≤ a ∧ a < X s)) := by (repeat' split at h2) <;> omega
    rcases P.same (p := p) (q := Y j) hs hi (by omega) (by omega) with h | h
    · subst h; omega
    · exact absurd (by omega) ((P.alt hs hi h).2 q2.1.symm)
theorem Poly.no_v (P : Poly n X Y) {j : Nat} {b q : Int} (hx : X (j + 1) = X j) (hq : min (Y j) (Y (j + 1)) ≤ q ∧ q ≤ max (Y j) (Y (j + 1))) (hb : b = q ∨ b = q - 1) (hn : ¬ ((Y j ≤ b ∧ b < Y (j + 1)) ∨ (Y (j + 1) ≤ b ∧ b < Y j))) : wp n X Y (X j - 1) b = wp n X Y (X j) b := by
  obtain ⟨i, hi, hf⟩ := idx (n := n) (by have := P.big; omega) j
  have e0 := hf X P.px 0
  have e1 := hf X P.px 1
  have e2 := hf Y P.py 0
  have e3 := hf Y P.py 1
  simp only [Nat.add_zero] at e0 e2
  have e := wp_v n X Y (X j) b
  rw [sm_eq (g := fun _ => 0) fun s hs => ?_, sm_zero] at e
  · omega
  · refine Classical.byContradiction fun h2 => ?_
    unfold ev at h2
    have q2 : X (s + 1) = X s ∧ X s = X j ∧ ((Y s ≤ b ∧ b < Y (s + 1)) ∨ (Y (s + 1) ≤ b ∧ b < Y s)) := by (repeat' split at h2) <;> omega
    rcases P.same (p := X j) (q := q) hs hi (by omega) (by omega) with h | h
    · subst h; omega
    · exact absurd (by omega) ((P.alt hs hi h).1 q2.1.symm)
end
end Go.Abs.Geo
end
section
set_option linter.unusedVariables false
namespace Go.Abs.Geo
section
variable {n : Nat} {X Y : Nat → Int} {d : Int}
theorem Par.corner (A : Par n X Y d) (i : Nat) {a b : Int} (ha : a = X (i + 3) ∨ a = X (i + 3) - 1) (hb : b = Y (i + 3) ∨ b = Y (i + 3) - 1) : 1 ≤ wp n (offX n X Y d) (offY n X Y d) a b := by
  have hd := A.hd
  have g := A.ge a b
  have h1 := A.P.hv (i + 1)
  have h2 := A.P.hv (i + 2)
  have h3 := A.P.hv (i + 3)
  have m0 := mid_facts A.P d i
  have m1 := mid_facts A.P d (i + 1)
  have m2 := mid_facts A.P d (i + 2)
  have m3 := mid_facts A.P d (i + 3)
  simp only [show i + 1 + 1 = i + 2 from rfl, show i + 1 + 2 = i + 3 from rfl, show i + 2 + 1 = i + 3 from rfl, show i + 2 + 2 = i + 4 from rfl, show i + 3 + 1 = i + 4 from rfl, show i + 3 + 2 = i + 5 from rfl] at *
  rcases h2 with ⟨p1, p2, p3, p4⟩ | ⟨p1, p2, p3, p4⟩
  · -- level, then upright
    have r1 : X (i + 1) = X (i + 2) ∧ Y (i + 1) ≠ Y (i + 2) := by clear m0 m1 m2 m3 h3; omega
    have u0 : (Y (i + 1) < Y (i + 2) ∧ offX n X Y d (i + 2) = X (i + 1) + d) ∨ (Y (i + 2) < Y (i + 1) ∧ offX n X Y d (i + 2) = X (i + 1) - d) := by clear m1 m2 m3 h1 h3; omega
    have u2 : (Y (i + 3) < Y (i + 4) ∧ offX n X Y d (i + 3) = X (i + 3) + d) ∨ (Y (i + 4) < Y (i + 3) ∧ offX n X Y d (i + 3) = X (i + 3) - d) := by clear m1 m0 m3 h1 h3; omega
    clear h1 h3 m0 m1 m2 m3
    by_cases c1 : (Y (i + 3) ≤ b ∧ b < Y (i + 4)) ∨ (Y (i + 4) ≤ b ∧ b < Y (i + 3))
    · exact A.near_v (j := i + 3) p3.symm c1 ha
    by_cases c2 : (X (i + 2) ≤ a ∧ a < X (i + 3)) ∨ (X (i + 3) ≤ a ∧ a < X (i + 2))
    · exact A.near_h (j := i + 2) p2.symm c2 (by omega)
    rcases Int.lt_or_gt_of_ne p1 with e1 | e1 <;> rcases Int.lt_or_gt_of_ne p4 with e2 | e2
    · have ea : a = X (i + 3) := by omega
      have eb : b = Y (i + 3) - 1 := by omega
      have o3 : offX n X Y d (i + 3) = X (i + 3) + d := by omega
      by_cases c3 : offX n X Y d (i + 2) ≤ a
      · exact A.east (j := i + 2) p2.symm e1 (Or.inr ⟨c3, by show a < offX n X Y d (i + 3); omega⟩) (by omega)
      · have o2 : Y (i + 1) < Y (i + 2) ∧ offX n X Y d (i + 2) = X (i + 1) + d := by omega
        exact A.up (j := i + 1) r1.1.symm (by show Y (i + 1) ≤ b ∧ b < Y (i + 2); omega) (by omega)
    · have ea : a = X (i + 3) := by omega
      have eb : b = Y (i + 3) := by omega
      have l := (A.left (i + 2)).2.2.1 (X (i + 3) - 1) p2.symm (by show X (i + 2) ≤ X (i + 3) - 1 ∧ X (i + 3) - 1 < X (i + 3); omega)
      have k := A.P.no_v (j := i + 3) (b := b) (q := Y (i + 3)) p3.symm (by omega) (by omega) c1
      rw [show Y (i + 2) = b by omega] at l
      subst ea
      omega
    · have ea : a = X (i + 3) - 1 := by omega
      have eb : b = Y (i + 3) - 1 := by omega
      have l := (A.left (i + 2)).2.2.2 (X (i + 3)) p2.symm (by show X (i + 3) ≤ X (i + 3) ∧ X (i + 3) < X (i + 2); omega)
      have k := A.P.no_v (j := i + 3) (b := b) (q := Y (i + 3)) p3.symm (by omega) (by omega) c1
      rw [show Y (i + 2) - 1 = b by omega] at l
      subst ea
      omega
    · have ea : a = X (i + 3) - 1 := by omega
      have eb : b = Y (i + 3) := by omega
      have o3 : offX n X Y d (i + 3) = X (i + 3) - d := by omega
      by_cases c3 : a < offX n X Y d (i + 2)
      · exact A.west (j := i + 2) p2.symm e1 (Or.inr ⟨by show offX n X Y d (i + 3) ≤ a; omega, c3⟩) (by omega)
      · have o2 : Y (i + 2) < Y (i + 1) ∧ offX n X Y d (i + 2) = X (i + 1) - d := by omega
        exact A.down (j := i + 1) r1.1.symm (by show Y (i + 2) ≤ b ∧ b < Y (i + 1); omega) (by omega)
  · -- upright, then level
    have r1 : X (i + 4) = X (i + 5) ∧ Y (i + 4) ≠ Y (i + 5) := by clear m0 m1 m2 m3 h1; omega
    have u1 : (Y (i + 2) < Y (i + 3) ∧ offX n X Y d (i + 3) = X (i + 2) + d) ∨ (Y (i + 3) < Y (i + 2) ∧ offX n X Y d (i + 3) = X (i + 2) - d) := by clear m0 m2 m3 h1 h3; omega
    have u3 : (Y (i + 4) < Y (i + 5) ∧ offX n X Y d (i + 4) = X (i + 4) + d) ∨ (Y (i + 5) < Y (i + 4) ∧ offX n X Y d (i + 4) = X (i + 4) - d) := by clear m0 m1 m2 h1 h3; omega
    clear h1 h3 m0 m1 m2 m3
    by_cases c1 : (Y (i + 2) ≤ b ∧ b < Y (i + 3)) ∨ (Y (i + 3) ≤ b ∧ b < Y (i + 2))
    · exact A.near_v (j := i + 2) p1.symm c1 (by omega)
    by_cases c2 : (X (i + 3) ≤ a ∧ a < X (i + 4)) ∨ (X (i + 4) ≤ a ∧ a < X (i + 3))
    · exact A.near_h (j := i + 3) p4.symm c2 hb
    rcases Int.lt_or_gt_of_ne p2 with e1 | e1 <;> rcases Int.lt_or_gt_of_ne p3 with e2 | e2
    · -- up, east
      have ea : a = X (i + 3) - 1 := by omega
      have eb : b = Y (i + 3) := by omega
      have l := (A.left (i + 2)).1 (Y (i + 3) - 1) p1.symm (by show Y (i + 2) ≤ Y (i + 3) - 1 ∧ Y (i + 3) - 1 < Y (i + 3); omega)
      have k := A.P.no_h (j := i + 3) (a := a) (p := X (i + 3)) p4.symm (by omega) (by omega) c2
      rw [show X (i + 2) - 1 = a by omega] at l
      subst eb
      omega
    · -- up, west
      have ea : a = X (i + 3) := by omega
      have eb : b = Y (i + 3) := by omega
      have o3 : offX n X Y d (i + 3) = X (i + 3) + d := by omega
      by_cases c3 : offX n X Y d (i + 4) ≤ a
      · exact A.west (j := i + 3) p4.symm e2 (Or.inr ⟨c3, by omega⟩) (by omega)
      · have o2 : Y (i + 4) < Y (i + 5) ∧ offX n X Y d (i + 4) = X (i + 4) + d := by omega
        exact A.up (j := i + 4) r1.1.symm (by show Y (i + 4) ≤ b ∧ b < Y (i + 5); omega) (by omega)
    · -- down, east
      have ea : a = X (i + 3) - 1 := by omega
      have eb : b = Y (i + 3) - 1 := by omega
      have o3 : offX n X Y d (i + 3) = X (i + 3) - d := by omega
      by_cases c3 : a < offX n X Y d (i + 4)
      · exact A.east (j := i + 3) p4.symm e2 (Or.inr ⟨by omega, c3⟩) (by omega)
      · have o2 : Y (i + 5) < Y (i + 4) ∧ offX n X Y d (i + 4) = X (i + 4) - d := by omega
        exact A.down (j := i + 4) r1.1.symm (by show Y (i + 5) ≤ b ∧ b < Y (i + 4); omega) (by omega)
    · -- down, west
      have ea : a = X (i + 3) := by omega
      have eb : b = Y (i + 3) - 1 := by omega
      have l := (A.left (i + 2)).2.1 (Y (i + 3)) p1.symm (by show Y (i + 3) ≤ Y (i + 3) ∧ Y (i + 3) < Y (i + 2); omega)
      have k := A.P.no_h (j := i + 3) (a := a) (p := X (i + 3)) p4.symm (by omega) (by omega) c2
      rw [show X (i + 2) = a by omega] at l
      subst eb
      omega
theorem Par.corner' (A : Par n X Y d) (c : Nat) {a b : Int} (ha : a = X c ∨ a = X c - 1) (hb : b = Y c ∨ b = Y c - 1) : 1 ≤ wp n (offX n X Y d) (offY n X Y d) a b := by
  have hn := A.P.big
  have e : c + (n - 3) + 3 = c + n := by omega
  have := A.corner (c + (n - 3)) (a := a) (b := b)
  rw [e, A.P.px, A.P.py] at this
  exact this ha hb
/-- The parallel outline goes round all cells at a point on a side. -/
theorem Par.on (A : Par n X Y d) {p q : Int} (h : OnS n X Y p q) {a b : Int} (ha : a = p ∨ a = p - 1) (hb : b = q ∨ b = q - 1) : 1 ≤ wp n (offX n X Y d) (offY n X Y d) a b := by
  obtain ⟨i, hi, h1, h2, h3, h4⟩ := h
  have hv := A.P.hv i
  rcases hv with ⟨v1, v2, _, _⟩ | ⟨v1, v2, _, _⟩
  · have eq : q = Y i := by omega
    by_cases c : (X i ≤ a ∧ a < X (i + 1)) ∨ (X (i + 1) ≤ a ∧ a < X i)
    · exact A.near_h v2.symm c (by omega)
    · by_cases c2 : p = X i
      · exact A.corner' i (by omega) (by omega)
      · exact A.corner' (i + 1) (by omega) (by omega)
  · have ep : p = X i := by omega
    by_cases c : (Y i ≤ b ∧ b < Y (i + 1)) ∨ (Y (i + 1) ≤ b ∧ b < Y i)
    · exact A.near_v v1.symm c (by omega)
    · by_cases c2 : q = Y i
      · exact A.corner' i (by omega) (by omega)
      · exact A.corner' (i + 1) (by omega) (by omega)
/-- A corner of the parallel outline is on no side of the outline, nor inside. -/
theorem Par.out (A : Par n X Y d) {i : Nat} (hi : i < n) : ¬ OnS n X Y (offX n X Y d i) (offY n X Y d i) ∧ wp n X Y (offX n X Y d i) (offY n X Y d i) = 0 := by
  have hz : ∃ a b, (a = offX n X Y d i ∨ a = offX n X Y d i - 1) ∧ (b = offY n X Y d i ∨ b = offY n X Y d i - 1) ∧ wp n (offX n X Y d) (offY n X Y d) a b = 0 := by
    have hv := A.Q.hv i
    rcases hv with ⟨v1, v2, _, _⟩ | ⟨v1, v2, _, _⟩
    · rcases Int.lt_or_gt_of_ne v1 with e | e
      · exact ⟨offX n X Y d i, offY n X Y d i - 1, Or.inl rfl, Or.inr rfl, (A.Q.east A.w' hi v2.symm (by omega)).2⟩
      · exact ⟨offX n X Y d i - 1, offY n X Y d i, Or.inr rfl, Or.inl rfl, (A.Q.west A.w' hi v2.symm (by omega)).1⟩
    · rcases Int.lt_or_gt_of_ne v2 with e | e
      · exact ⟨offX n X Y d i, offY n X Y d i, Or.inl rfl, Or.inl rfl, (A.Q.up A.w' hi v1.symm (by omega)).2⟩
      · exact ⟨offX n X Y d i - 1, offY n X Y d i - 1, Or.inr rfl, Or.inr rfl, (A.Q.down A.w' hi v1.symm (by omega)).1⟩
  obtain ⟨a, b, ha, hb, h0⟩ := hz
  have h1 : ¬ OnS n X Y (offX n X Y d i) (offY n X Y d i) := fun h => by
    have := A.on h ha hb
    omega
  refine ⟨h1, ?_⟩
  have e := A.P.alike h1 ha hb
  have g := A.ge a b
  have w := A.w a b
  omega
end
end Go.Abs.Geo
end
