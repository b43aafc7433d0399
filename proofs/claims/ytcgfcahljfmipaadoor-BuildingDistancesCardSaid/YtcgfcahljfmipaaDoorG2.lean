/- Closed walks of unit steps that never meet themselves: their turns add up to a full one. The walk of unit steps round an outline. -/

section
set_option linter.unusedVariables false
namespace Go.Abs.Geo

/-- A sum. -/
def sm (f : Nat → Int) : Nat → Int
  | 0 => 0
  | n + 1 => sm f n + f n
theorem sm_eq {f g : Nat → Int} : ∀ {n : Nat}, (∀ i, i < n → f i = g i) → sm f n = sm g n
  | 0, _ => rfl
  | n + 1, h => by rw [sm, sm, sm_eq fun i hi => h i (by omega), h n (by omega)]
theorem sm_add (f g : Nat → Int) : ∀ n, sm (fun i => f i + g i) n = sm f n + sm g n
  | 0 => rfl
  | n + 1 => by rw [sm, sm, sm, sm_add f g n]; omega
theorem sm_zero : ∀ n, sm (fun _ => 0) n = 0
  | 0 => rfl
  | n + 1 => by rw [sm, sm_zero n]; rfl

/-- The eighth of the plane in which a vector lies. -/
def oct (x y : Int) : Int :=
  if y = 0 then (if 0 < x then 0 else 4)
  else if 0 < y then (if 0 < x then 1 else if x = 0 then 2 else 3)
  else (if x < 0 then 5 else if x = 0 then 6 else 7)
/-- How far one turns from a vector to a near one, in eighths. -/
def del (x y x' y' : Int) : Int := if (oct x' y' - oct x y) % 8 ≤ 3 then (oct x' y' - oct x y) % 8 else (oct x' y' - oct x y) % 8 - 8
def nz (x y : Int) : Prop := x ≠ 0 ∨ y ≠ 0
def near (x y x' y' : Int) : Prop := (x' = x ∧ (y' = y + 1 ∨ y' = y - 1)) ∨ (y' = y ∧ (x' = x + 1 ∨ x' = x - 1))
theorem del_bd {x y x' y' : Int} (h : nz x y) (h' : nz x' y') (hn : near x y x' y') : -1 ≤ del x y x' y' ∧ del x y x' y' ≤ 1 := by
  have key : (oct x' y' - oct x y) % 8 = 0 ∨ (oct x' y' - oct x y) % 8 = 1 ∨ (oct x' y' - oct x y) % 8 = 7 := by
    unfold nz at h h'
    unfold near at hn
    unfold oct
    (repeat' split) <;> omega
  unfold del
  split <;> omega
theorem del_mod (x y x' y' : Int) : ∃ m : Int, oct x' y' - oct x y = del x y x' y' + 8 * m := by
  refine ⟨if (oct x' y' - oct x y) % 8 ≤ 3 then (oct x' y' - oct x y) / 8 else (oct x' y' - oct x y) / 8 + 1, ?_⟩
  unfold del
  split <;> omega
/-- Round a small square one turns back to where one was. -/
theorem del_sq {a1 a2 b1 b2 c1 c2 d1 d2 : Int} (ha : nz a1 a2) (hb : nz b1 b2) (hc : nz c1 c2) (hd : nz d1 d2)
    (ab : near a1 a2 b1 b2) (bd : near b1 b2 d1 d2) (ac : near a1 a2 c1 c2) (cd : near c1 c2 d1 d2) :
    del a1 a2 b1 b2 + del b1 b2 d1 d2 = del a1 a2 c1 c2 + del c1 c2 d1 d2 := by
  have h1 := del_bd ha hb ab
  have h2 := del_bd hb hd bd
  have h3 := del_bd ha hc ac
  have h4 := del_bd hc hd cd
  obtain ⟨m1, e1⟩ := del_mod a1 a2 b1 b2
  obtain ⟨m2, e2⟩ := del_mod b1 b2 d1 d2
  obtain ⟨m3, e3⟩ := del_mod a1 a2 c1 c2
  obtain ⟨m4, e4⟩ := del_mod c1 c2 d1 d2
  omega
theorem oct_neg {x y : Int} (h : nz x y) : oct (-x) (-y) = oct x y + 4 ∨ oct (-x) (-y) = oct x y - 4 := by
  unfold nz at h
  unfold oct
  (repeat' split) <;> omega
theorem del_neg {x y x' y' : Int} (h : nz x y) (h' : nz x' y') : del (-x) (-y) (-x') (-y') = del x y x' y' := by
  have h1 := oct_neg h
  have h2 := oct_neg h'
  have e : (oct (-x') (-y') - oct (-x) (-y)) % 8 = (oct x' y' - oct x y) % 8 := by omega
  unfold del
  rw [e]

/-- A closed walk of unit steps that never meets itself. -/
structure Loop (N : Nat) (x y : Nat → Int) : Prop where
  big : 4 ≤ N
  step : ∀ t, near (x t) (y t) (x (t + 1)) (y (t + 1))
  px : ∀ t, x (t + N) = x t
  py : ∀ t, y (t + N) = y t
  inj : ∀ s t, s < t → t < N → x s ≠ x t ∨ y s ≠ y t

section
variable {N : Nat} {x y : Nat → Int}
theorem Loop.apart (L : Loop N x y) {s t : Nat} (h : s < t) (h1 : t < s + N) (h2 : s ≤ N) : nz (x t - x s) (y t - y s) := by
  have hb := L.big
  unfold nz
  have key : x s ≠ x t ∨ y s ≠ y t := by
    by_cases h3 : t < N
    · exact L.inj s t h h3
    · obtain ⟨u, rfl⟩ : ∃ u, t = u + N := ⟨t - N, by omega⟩
      rw [L.px, L.py]
      by_cases h4 : s < N
      · have := L.inj u s (by omega) h4
        omega
      · obtain rfl : s = N := by omega
        have e1 := L.px 0
        have e2 := L.py 0
        rw [Nat.zero_add] at e1 e2
        rw [e1, e2]
        exact L.inj 0 u (by omega) (by omega)
  omega
def rr (x y : Nat → Int) (i j : Nat) : Int := del (x j - x i) (y j - y i) (x (j + 1) - x i) (y (j + 1) - y i)
def dd (x y : Nat → Int) (i j : Nat) : Int := del (x j - x i) (y j - y i) (x j - x (i + 1)) (y j - y (i + 1))
/-- The turn at the point behind i, in eighths. -/
def tau (x y : Nat → Int) (i : Nat) : Int := rr x y i (i + 1) + dd x y i (i + 2)
def bb (x y : Nat → Int) (i : Nat) : Nat → Int := sm fun m => rr x y i (i + 1 + m)
theorem Loop.turn (L : Loop N x y) {i : Nat} (hi : i < N) : ∀ {k : Nat}, k + 2 < N → bb x y i (k + 1) + dd x y i (i + 2 + k) = tau x y i + bb x y (i + 1) k
  | 0, _ => by
    show 0 + rr x y i (i + 1 + 0) + _ = tau x y i + 0
    simp only [tau, Nat.add_zero]; omega
  | k + 1, hk => by
    have ih := Loop.turn L hi (k := k) (by omega)
    have e1 : bb x y i (k + 1 + 1) = bb x y i (k + 1) + rr x y i (i + 1 + (k + 1)) := rfl
    have e2 : bb x y (i + 1) (k + 1) = bb x y (i + 1) k + rr x y (i + 1) (i + 1 + 1 + k) := rfl
    have f1 : i + 1 + (k + 1) = i + 2 + k := by omega
    have f2 : i + 1 + 1 + k = i + 2 + k := by omega
    have f3 : i + 2 + (k + 1) = i + 2 + k + 1 := by omega
    rw [e1, e2, f1, f2, f3]
    have s1 := L.step (i + 2 + k)
    have s2 := L.step i
    have sq := del_sq (L.apart (s := i) (t := i + 2 + k) (by omega) (by omega) (by omega)) (L.apart (s := i) (t := i + 2 + k + 1) (by omega) (by omega) (by omega))
      (L.apart (s := i + 1) (t := i + 2 + k) (by omega) (by omega) (by omega)) (L.apart (s := i + 1) (t := i + 2 + k + 1) (by omega) (by omega) (by omega))
      (by unfold near at *; omega) (by unfold near at *; omega) (by unfold near at *; omega) (by unfold near at *; omega)
    unfold rr dd at *
    omega
/-- The turns of the points 1 .. N - 1, told by what is seen from the point 0. -/
theorem Loop.turns (L : Loop N x y) : sm (tau x y) (N - 1) = 2 * bb x y 0 (N - 2) + dd x y 0 (N - 1) + rr x y 1 (N - 1) := by
  have hb := L.big
  have h0 := L.turn (i := 0) (by omega) (k := N - 3) (by omega)
  rw [show N - 3 + 1 = N - 2 by omega, show 0 + 2 + (N - 3) = N - 1 by omega, Nat.zero_add] at h0
  have hD : ∀ i, 1 ≤ i → i < N - 1 → dd x y i N = rr x y 0 i := fun i h1 h2 => by
    have e1 := L.px 0
    have e2 := L.py 0
    rw [Nat.zero_add] at e1 e2
    have := del_neg (L.apart (s := 0) (t := i) (by omega) (by omega) (by omega)) (L.apart (s := 0) (t := i + 1) (by omega) (by omega) (by omega))
    rw [dd, rr, e1, e2, ← this]
    congr 1 <;> omega
  have hs : ∀ m, m + 2 ≤ N → sm (tau x y) (m + 1) + bb x y (m + 1) (N - m - 2) = tau x y 0 + bb x y 1 (N - 2) + (bb x y 0 m) := fun m => by
    induction m with
    | zero =>
      intro _
      show 0 + tau x y 0 + bb x y 1 (N - 0 - 2) = _ + 0
      rw [show N - 0 - 2 = N - 2 by omega]; omega
    | succ m ih =>
      intro hm
      have ih := ih (by omega)
      have ht := L.turn (i := m + 1) (by omega) (k := N - m - 3) (by omega)
      rw [show N - m - 3 + 1 = N - m - 2 by omega, show m + 1 + 2 + (N - m - 3) = N by omega, hD (m + 1) (by omega) (by omega)] at ht
      have e1 : sm (tau x y) (m + 1 + 1) = sm (tau x y) (m + 1) + tau x y (m + 1) := rfl
      have e2 : bb x y 0 (m + 1) = bb x y 0 m + rr x y 0 (0 + 1 + m) := rfl
      rw [e1, e2, show 0 + 1 + m = m + 1 by omega, show N - (m + 1) - 2 = N - m - 3 by omega]
      omega
  have h9 := hs (N - 2) (by omega)
  rw [show N - 2 + 1 = N - 1 by omega, show N - (N - 2) - 2 = 0 by omega] at h9
  have e3 : bb x y (N - 1) 0 = 0 := rfl
  have e4 : bb x y 1 (N - 2) = bb x y 1 (N - 3) + rr x y 1 (1 + 1 + (N - 3)) := by
    rw [show N - 2 = N - 3 + 1 by omega]; rfl
  rw [show 1 + 1 + (N - 3) = N - 1 by omega] at e4
  omega
/-- The point 0 is the lowest one, and of those the one farthest left. -/
def Low (N : Nat) (x y : Nat → Int) : Prop := ∀ t, t < N → y 0 < y t ∨ (y t = y 0 ∧ x 0 ≤ x t)
theorem Loop.seen (L : Loop N x y) (hl : Low N x y) : ∀ k, k + 1 < N → bb x y 0 k = oct (x (k + 1) - x 0) (y (k + 1) - y 0) - oct (x 1 - x 0) (y 1 - y 0)
  | 0, _ => by show (0 : Int) = _; rw [Nat.zero_add]; omega
  | k + 1, hk => by
    have ih := Loop.seen L hl k (by omega)
    have e : bb x y 0 (k + 1) = bb x y 0 k + rr x y 0 (0 + 1 + k) := rfl
    rw [e, ih, show 0 + 1 + k = k + 1 by omega]
    have a1 := L.apart (s := 0) (t := k + 1) (by omega) (by omega) (by omega)
    have a2 := L.apart (s := 0) (t := k + 1 + 1) (by omega) (by omega) (by omega)
    have s1 := L.step (k + 1)
    have l1 := hl (k + 1) (by omega)
    have l2 := hl (k + 1 + 1) (by omega)
    have b := del_bd a1 a2 (by unfold near at *; omega)
    have up : ∀ u v : Int, nz u v → (0 < v ∨ (v = 0 ∧ 0 ≤ u)) → 0 ≤ oct u v ∧ oct u v ≤ 3 := fun u v h1 h2 => by
      unfold nz at h1
      unfold oct
      (repeat' split) <;> omega
    have u1 := up _ _ a1 (by omega)
    have u2 := up _ _ a2 (by omega)
    obtain ⟨m, hm⟩ := del_mod (x (k + 1) - x 0) (y (k + 1) - y 0) (x (k + 1 + 1) - x 0) (y (k + 1 + 1) - y 0)
    have er : rr x y 0 (k + 1) = del (x (k + 1) - x 0) (y (k + 1) - y 0) (x (k + 1 + 1) - x 0) (y (k + 1 + 1) - y 0) := rfl
    rw [er]
    omega
/-- All turns make a full one, to the left if the walk begins to the right. -/
theorem Loop.full (L : Loop N x y) (hl : Low N x y) :
    (x 1 = x 0 + 1 ∧ y 1 = y 0 ∧ x (N - 1) = x 0 ∧ y (N - 1) = y 0 + 1 ∧ sm (tau x y) N = 8) ∨
    (x 1 = x 0 ∧ y 1 = y 0 + 1 ∧ x (N - 1) = x 0 + 1 ∧ y (N - 1) = y 0 ∧ sm (tau x y) N = -8) := by
  have hb := L.big
  have ht := L.turns
  have hs := L.seen hl (N - 2) (by omega)
  rw [show N - 2 + 1 = N - 1 by omega] at hs
  have eN : sm (tau x y) N = sm (tau x y) (N - 1) + tau x y (N - 1) := by
    obtain ⟨m, rfl⟩ : ∃ m, N = m + 1 := ⟨N - 1, by omega⟩
    rfl
  have s0 := L.step 0
  rw [Nat.zero_add] at s0
  have s1 := L.step (N - 1)
  rw [show N - 1 + 1 = N by omega] at s1
  have x0 := L.px 0
  have y0 := L.py 0
  have x1 := L.px 1
  have y1 := L.py 1
  rw [Nat.zero_add] at x0 y0
  rw [Nat.add_comm] at x1 y1
  have l1 := hl 1 (by omega)
  have l2 := hl (N - 1) (by omega)
  have ap := L.apart (s := 1) (t := N - 1) (by omega) (by omega) (by omega)
  unfold nz at ap
  unfold near at s0 s1
  rw [x0, y0] at s1
  have eT : tau x y (N - 1) = del (x 0 - x (N - 1)) (y 0 - y (N - 1)) (x 1 - x (N - 1)) (y 1 - y (N - 1)) + del (x 1 - x (N - 1)) (y 1 - y (N - 1)) (x 1 - x 0) (y 1 - y 0) := by
    rw [tau, rr, dd, show N - 1 + 1 = N by omega, show N - 1 + 2 = N + 1 by omega, x0, y0, x1, y1]
  have eD : dd x y 0 (N - 1) = del (x (N - 1) - x 0) (y (N - 1) - y 0) (x (N - 1) - x 1) (y (N - 1) - y 1) := rfl
  have eR : rr x y 1 (N - 1) = del (x (N - 1) - x 1) (y (N - 1) - y 1) (x 0 - x 1) (y 0 - y 1) := by
    rw [rr, show N - 1 + 1 = N by omega, x0, y0]
  rw [eN, eT, ht, hs, eD, eR]
  clear ht hs eN eT eD eR
  have hc : (x 1 = x 0 + 1 ∧ y 1 = y 0 ∧ x (N - 1) = x 0 ∧ y (N - 1) = y 0 + 1) ∨ (x 1 = x 0 ∧ y 1 = y 0 + 1 ∧ x (N - 1) = x 0 + 1 ∧ y (N - 1) = y 0) := by omega
  rcases hc with ⟨e1, e2, e3, e4⟩ | ⟨e1, e2, e3, e4⟩
  · refine Or.inl ⟨e1, e2, e3, e4, ?_⟩
    rw [e1, e2, e3, e4]
    have z1 : x 0 - x 0 = 0 := by omega
    have z2 : y 0 + 1 - y 0 = 1 := by omega
    have z3 : x 0 - (x 0 + 1) = -1 := by omega
    have z4 : y 0 - y 0 = 0 := by omega
    have z5 : y 0 - (y 0 + 1) = -1 := by omega
    have z6 : x 0 + 1 - x 0 = 1 := by omega
    rw [z1, z2, z3, z4, z5, z6]
    decide
  · refine Or.inr ⟨e1, e2, e3, e4, ?_⟩
    rw [e1, e2, e3, e4]
    have z1 : x 0 - x 0 = 0 := by omega
    have z2 : y 0 + 1 - y 0 = 1 := by omega
    have z3 : x 0 - (x 0 + 1) = -1 := by omega
    have z4 : y 0 - y 0 = 0 := by omega
    have z5 : y 0 - (y 0 + 1) = -1 := by omega
    have z6 : x 0 + 1 - x 0 = 1 := by omega
    rw [z1, z2, z3, z4, z5, z6]
    decide
end
end Go.Abs.Geo
end
section
set_option linter.unusedVariables false
namespace Go.Abs.Geo

/-- How long a side is; a point on it. -/
def ln (X Y : Nat → Int) (i : Nat) : Nat := (X (i + 1) - X i).natAbs + (Y (i + 1) - Y i).natAbs
def at1 (X : Nat → Int) (i r : Nat) : Int := if X i < X (i + 1) then X i + r else if X (i + 1) < X i then X i - r else X i
def sg (z : Int) : Int := if 0 < z then 1 else if z < 0 then -1 else 0
/-- An outline: its sides go round, at right angles in turn, and meet nowhere else. -/
structure Poly (n : Nat) (X Y : Nat → Int) : Prop where
  big : 4 ≤ n
  px : ∀ i, X (i + n) = X i
  py : ∀ i, Y (i + n) = Y i
  hv : ∀ i, (X i ≠ X (i + 1) ∧ Y i = Y (i + 1) ∧ X (i + 1) = X (i + 2) ∧ Y (i + 1) ≠ Y (i + 2)) ∨ (X i = X (i + 1) ∧ Y i ≠ Y (i + 1) ∧ X (i + 1) ≠ X (i + 2) ∧ Y (i + 1) = Y (i + 2))
  far : ∀ i j, i + 1 < j → j + 1 < i + n → ¬ (min (X i) (X (i + 1)) ≤ max (X j) (X (j + 1)) ∧ min (X j) (X (j + 1)) ≤ max (X i) (X (i + 1)) ∧ min (Y i) (Y (i + 1)) ≤ max (Y j) (Y (j + 1)) ∧ min (Y j) (Y (j + 1)) ≤ max (Y i) (Y (i + 1)))

/-- Where a step is: its side, and how far along. -/
def tot (l : Nat → Nat) : Nat → Nat
  | 0 => 0
  | i + 1 => tot l i + l i
def st (l : Nat → Nat) : Nat → Nat × Nat
  | 0 => (0, 0)
  | t + 1 => if (st l t).2 + 1 < l (st l t).1 then ((st l t).1, (st l t).2 + 1) else ((st l t).1 + 1, 0)
theorem st_inv {l : Nat → Nat} (hl : ∀ i, 0 < l i) : ∀ t, t = tot l (st l t).1 + (st l t).2 ∧ (st l t).2 < l (st l t).1
  | 0 => ⟨rfl, hl 0⟩
  | t + 1 => by
    have ih := st_inv hl t
    rw [st]
    split
    · rename_i h
      exact ⟨by show t + 1 = tot l (st l t).1 + ((st l t).2 + 1); omega, h⟩
    · rename_i h
      refine ⟨?_, hl _⟩
      show t + 1 = tot l (st l t).1 + l (st l t).1 + 0
      omega
theorem tot_le {l : Nat → Nat} {i j : Nat} (h : i ≤ j) : tot l i ≤ tot l j := by
  induction h with
  | refl => exact Nat.le_refl _
  | step _ ih => exact Nat.le_trans ih (Nat.le_add_right _ _)
theorem tot_uniq {l : Nat → Nat} {i j r q : Nat} (hr : r < l i) (hq : q < l j) (h : tot l i + r = tot l j + q) : i = j ∧ r = q := by
  rcases Nat.lt_trichotomy i j with h1 | h1 | h1
  · have := tot_le (l := l) (i := i + 1) (j := j) h1
    have e : tot l (i + 1) = tot l i + l i := rfl
    omega
  · subst h1; omega
  · have := tot_le (l := l) (i := j + 1) (j := i) h1
    have e : tot l (j + 1) = tot l j + l j := rfl
    omega
theorem st_at {l : Nat → Nat} (hl : ∀ i, 0 < l i) {i r : Nat} (hr : r < l i) : st l (tot l i + r) = (i, r) := by
  have h := st_inv hl (tot l i + r)
  obtain ⟨e1, e2⟩ := tot_uniq hr h.2 h.1
  exact Prod.ext e1.symm e2.symm
theorem tot_per {l : Nat → Nat} {n : Nat} (hp : ∀ i, l (i + n) = l i) : ∀ i, tot l (i + n) = tot l i + tot l n
  | 0 => by rw [Nat.zero_add]; show _ = 0 + _; omega
  | i + 1 => by
    rw [show i + 1 + n = i + n + 1 by omega, tot, tot, tot_per hp i, hp]; omega
theorem tot_ge {l : Nat → Nat} (hl : ∀ i, 0 < l i) : ∀ i, i ≤ tot l i
  | 0 => Nat.le_refl _
  | i + 1 => by have := tot_ge hl i; have := hl i; rw [tot]; omega

def gx (X Y : Nat → Int) (t : Nat) : Int := at1 X (st (ln X Y) t).1 (st (ln X Y) t).2
def gy (X Y : Nat → Int) (t : Nat) : Int := at1 Y (st (ln X Y) t).1 (st (ln X Y) t).2

theorem at1_bd (X : Nat → Int) {i r : Nat} (h : X i = X (i + 1) ∨ (r : Int) ≤ (X (i + 1) - X i).natAbs) : min (X i) (X (i + 1)) ≤ at1 X i r ∧ at1 X i r ≤ max (X i) (X (i + 1)) := by
  unfold at1
  (repeat' split) <;> omega
section
variable {n : Nat} {X Y : Nat → Int}
theorem Poly.pos (P : Poly n X Y) (i : Nat) : 0 < ln X Y i := by
  have := P.hv i
  unfold ln
  omega
theorem Poly.lper (P : Poly n X Y) (i : Nat) : ln X Y (i + n) = ln X Y i := by
  unfold ln
  rw [show i + n + 1 = i + 1 + n by omega, P.px, P.px, P.py, P.py]
theorem at1_box (P : Poly n X Y) {i r : Nat} (hr : r ≤ ln X Y i) : (min (X i) (X (i + 1)) ≤ at1 X i r ∧ at1 X i r ≤ max (X i) (X (i + 1))) ∧ (min (Y i) (Y (i + 1)) ≤ at1 Y i r ∧ at1 Y i r ≤ max (Y i) (Y (i + 1))) := by
  have hv := P.hv i
  unfold ln at hr
  exact ⟨at1_bd X (by omega), at1_bd Y (by omega)⟩
/-- Steps: along a side, to the next. -/
theorem gxy (P : Poly n X Y) {i r : Nat} (hr : r ≤ ln X Y i) : gx X Y (tot (ln X Y) i + r) = at1 X i r ∧ gy X Y (tot (ln X Y) i + r) = at1 Y i r := by
  rcases Nat.lt_or_ge r (ln X Y i) with h | h
  · unfold gx gy
    rw [st_at P.pos h]
    exact ⟨rfl, rfl⟩
  · obtain rfl : r = ln X Y i := by omega
    have e : tot (ln X Y) i + ln X Y i = tot (ln X Y) (i + 1) + 0 := rfl
    unfold gx gy
    rw [e, st_at P.pos (P.pos (i + 1))]
    show at1 X (i + 1) 0 = at1 X i (ln X Y i) ∧ at1 Y (i + 1) 0 = at1 Y i (ln X Y i)
    have := P.hv i
    unfold at1 ln
    constructor <;> (repeat' split) <;> omega
theorem split_t (P : Poly n X Y) (t : Nat) : ∃ i r, t = tot (ln X Y) i + r ∧ r < ln X Y i := ⟨_, _, st_inv P.pos t⟩
set_option maxHeartbeats 2000000 in
theorem Poly.loop (P : Poly n X Y) : Loop (tot (ln X Y) n) (gx X Y) (gy X Y) where
  big := Nat.le_trans P.big (tot_ge P.pos n)
  step t := by
    obtain ⟨i, r, rfl, hr⟩ := split_t P t
    obtain ⟨e1, e2⟩ := gxy P (Nat.le_of_lt hr)
    obtain ⟨e3, e4⟩ := gxy P (show r + 1 ≤ ln X Y i by omega)
    rw [Nat.add_assoc, e1, e2, e3, e4]
    have := P.hv i
    unfold near at1
    (repeat' split) <;> omega
  px t := by
    obtain ⟨i, r, rfl, hr⟩ := split_t P t
    have e := tot_per P.lper i
    rw [show tot (ln X Y) i + r + tot (ln X Y) n = tot (ln X Y) (i + n) + r by omega, (gxy P (Nat.le_of_lt hr)).1, (gxy P (show r ≤ ln X Y (i + n) by rw [P.lper]; omega)).1]
    unfold at1
    rw [show i + n + 1 = i + 1 + n by omega, P.px, P.px]
  py t := by
    obtain ⟨i, r, rfl, hr⟩ := split_t P t
    have e := tot_per P.lper i
    rw [show tot (ln X Y) i + r + tot (ln X Y) n = tot (ln X Y) (i + n) + r by omega, (gxy P (Nat.le_of_lt hr)).2, (gxy P (show r ≤ ln X Y (i + n) by rw [P.lper]; omega)).2]
    unfold at1
    rw [show i + n + 1 = i + 1 + n by omega, P.py, P.py]
  inj s t hst ht := by
    obtain ⟨i, r, rfl, hr⟩ := split_t P s
    obtain ⟨j, q, rfl, hq⟩ := split_t P t
    rw [(gxy P (Nat.le_of_lt hr)).1, (gxy P (Nat.le_of_lt hr)).2, (gxy P (Nat.le_of_lt hq)).1, (gxy P (Nat.le_of_lt hq)).2]
    have hj : j < n := by
      rcases Nat.lt_or_ge j n with h | h
      · exact h
      · have := tot_le (l := ln X Y) h; omega
    have hij : i ≤ j := by
      rcases Nat.lt_or_ge j i with h | h
      · have := tot_le (l := ln X Y) (i := j + 1) h
        have e : tot (ln X Y) (j + 1) = tot (ln X Y) j + ln X Y j := rfl
        omega
      · exact h
    have hb := P.big
    have v1 := P.hv i
    have v2 := P.hv j
    by_cases h1 : i = j
    · subst h1
      unfold at1
      (repeat' split) <;> omega
    by_cases h2 : j = i + 1
    · subst h2
      have q1 : i + 1 + 1 = i + 2 := rfl
      unfold ln at hr
      unfold at1
      simp only [q1] at v2 ⊢
      (repeat' split) <;> omega
    by_cases h3 : i = 0 ∧ j = n - 1
    · obtain ⟨rfl, rfl⟩ := h3
      have a1 := P.px 0
      have a2 := P.py 0
      have a3 := P.px 1
      have a4 := P.py 1
      rw [Nat.zero_add] at a1 a2
      rw [Nat.add_comm] at a3 a4
      rw [show n - 1 + 2 = n + 1 by omega, show n - 1 + 1 = n by omega] at v2
      unfold ln at hr hq
      rw [show n - 1 + 1 = n by omega] at hq
      unfold at1
      rw [show n - 1 + 1 = n by omega]
      simp only [Nat.zero_add] at *
      (repeat' split) <;> omega
    · have hf := P.far i j (by omega) (by omega)
      have b1 := at1_box P (Nat.le_of_lt hr)
      have b2 := at1_box P (Nat.le_of_lt hq)
      clear v1 v2 hr hq hst ht
      generalize at1 X i r = u1 at *
      generalize at1 X j q = u2 at *
      generalize at1 Y i r = u3 at *
      generalize at1 Y j q = u4 at *
      generalize hA : min (X i) (X (i + 1)) = A at *
      generalize hB : max (X i) (X (i + 1)) = B at *
      generalize hC : min (Y i) (Y (i + 1)) = C at *
      generalize hD : max (Y i) (Y (i + 1)) = D at *
      generalize hA' : min (X j) (X (j + 1)) = A' at *
      generalize hB' : max (X j) (X (j + 1)) = B' at *
      generalize hC' : min (Y j) (Y (j + 1)) = C' at *
      generalize hD' : max (Y j) (Y (j + 1)) = D' at *
      clear hA hB hC hD hA' hB' hC' hD'
      omega

/-- The turn at a corner, in eighths. -/
def cr (X Y : Nat → Int) (i : Nat) : Int :=
  del (sg (X (i + 1) - X i)) (sg (Y (i + 1) - Y i)) (sg (X (i + 2) - X (i + 1)) + sg (X (i + 1) - X i)) (sg (Y (i + 2) - Y (i + 1)) + sg (Y (i + 1) - Y i)) +
  del (sg (X (i + 2) - X (i + 1)) + sg (X (i + 1) - X i)) (sg (Y (i + 2) - Y (i + 1)) + sg (Y (i + 1) - Y i)) (sg (X (i + 2) - X (i + 1))) (sg (Y (i + 2) - Y (i + 1)))
theorem sm_append (f : Nat → Int) (a : Nat) : ∀ b, sm f (a + b) = sm f a + sm (fun r => f (a + r)) b
  | 0 => by show sm f a = sm f a + 0; omega
  | b + 1 => by
    show sm f (a + b) + f (a + b) = _ + (sm _ b + f (a + b))
    rw [sm_append f a b]; omega
theorem tau_in (P : Poly n X Y) {i r : Nat} (hr : r + 1 < ln X Y i) : tau (gx X Y) (gy X Y) (tot (ln X Y) i + r) = 0 := by
  obtain ⟨e1, e2⟩ := gxy P (show r ≤ ln X Y i by omega)
  obtain ⟨e3, e4⟩ := gxy P (show r + 1 ≤ ln X Y i by omega)
  obtain ⟨e5, e6⟩ := gxy P (show r + 2 ≤ ln X Y i by omega)
  unfold tau rr dd
  rw [show tot (ln X Y) i + r + 1 + 1 = tot (ln X Y) i + (r + 2) by omega, show tot (ln X Y) i + r + 1 = tot (ln X Y) i + (r + 1) by omega, e1, e2, e3, e4, e5, e6]
  have := P.hv i
  have same : ∀ a b c d : Int, (∃ k : Int, 0 < k ∧ (a = 0 ∧ c = 0 ∧ ((0 < b ∧ 0 < d) ∨ (b < 0 ∧ d < 0)) ∨ b = 0 ∧ d = 0 ∧ ((0 < a ∧ 0 < c) ∨ (a < 0 ∧ c < 0)))) → del a b c d = 0 := fun a b c d ⟨k, _, h⟩ => by
    have e : oct a b = oct c d := by
      unfold oct
      (repeat' split) <;> omega
    unfold del; rw [e]; simp
  have h1 : ∀ z : Nat, (X i < X (i + 1) ∧ at1 X i z = X i + z ∧ at1 Y i z = Y i) ∨ (X (i + 1) < X i ∧ at1 X i z = X i - z ∧ at1 Y i z = Y i) ∨ (Y i < Y (i + 1) ∧ at1 Y i z = Y i + z ∧ at1 X i z = X i) ∨ (Y (i + 1) < Y i ∧ at1 Y i z = Y i - z ∧ at1 X i z = X i) := fun z => by
    unfold at1
    (repeat' split) <;> omega
  have z0 := h1 r
  have z1 := h1 (r + 1)
  have z2 := h1 (r + 2)
  rw [same _ _ _ _ ⟨1, by omega, by omega⟩, same _ _ _ _ ⟨1, by omega, by omega⟩]
  rfl
theorem tau_out (P : Poly n X Y) {i : Nat} : tau (gx X Y) (gy X Y) (tot (ln X Y) i + (ln X Y i - 1)) = cr X Y i := by
  have hp := P.pos i
  have hq := P.pos (i + 1)
  obtain ⟨e1, e2⟩ := gxy P (show ln X Y i - 1 ≤ ln X Y i by omega)
  obtain ⟨e3, e4⟩ := gxy P (show 0 ≤ ln X Y (i + 1) by omega)
  obtain ⟨e5, e6⟩ := gxy P (show 1 ≤ ln X Y (i + 1) by omega)
  have et : tot (ln X Y) (i + 1) = tot (ln X Y) i + ln X Y i := rfl
  unfold tau rr dd cr
  rw [show tot (ln X Y) i + (ln X Y i - 1) + 1 + 1 = tot (ln X Y) (i + 1) + 1 by omega, show tot (ln X Y) i + (ln X Y i - 1) + 1 = tot (ln X Y) (i + 1) + 0 by omega, e1, e2, e3, e4, e5, e6]
  have hv := P.hv i
  have a1 : at1 X (i + 1) 0 = X (i + 1) := by unfold at1; (repeat' split) <;> omega
  have a2 : at1 Y (i + 1) 0 = Y (i + 1) := by unfold at1; (repeat' split) <;> omega
  have a3 : at1 X (i + 1) 1 = X (i + 1) + sg (X (i + 2) - X (i + 1)) := by unfold at1 sg; rw [show i + 1 + 1 = i + 2 by omega]; (repeat' split) <;> omega
  have a4 : at1 Y (i + 1) 1 = Y (i + 1) + sg (Y (i + 2) - Y (i + 1)) := by unfold at1 sg; rw [show i + 1 + 1 = i + 2 by omega]; (repeat' split) <;> omega
  have a5 : at1 X i (ln X Y i - 1) = X (i + 1) - sg (X (i + 1) - X i) := by unfold at1 ln sg; (repeat' split) <;> omega
  have a6 : at1 Y i (ln X Y i - 1) = Y (i + 1) - sg (Y (i + 1) - Y i) := by unfold at1 ln sg; (repeat' split) <;> omega
  rw [a1, a2, a3, a4, a5, a6]
  congr 1 <;> congr 1 <;> omega
theorem tau_sum (P : Poly n X Y) : ∀ i, sm (tau (gx X Y) (gy X Y)) (tot (ln X Y) i) = sm (cr X Y) i
  | 0 => rfl
  | i + 1 => by
    have hp := P.pos i
    have key : sm (fun r => tau (gx X Y) (gy X Y) (tot (ln X Y) i + r)) (ln X Y i) = cr X Y i := by
      obtain ⟨m, hm⟩ : ∃ m, ln X Y i = m + 1 := ⟨ln X Y i - 1, by omega⟩
      have h1 : sm (fun r => tau (gx X Y) (gy X Y) (tot (ln X Y) i + r)) m = 0 := by
        rw [sm_eq (g := fun _ => 0) fun r hr => tau_in P (by omega), sm_zero]
      have h2 := tau_out P (i := i)
      rw [hm] at h2 ⊢
      rw [sm, h1]
      show 0 + tau (gx X Y) (gy X Y) (tot (ln X Y) i + m) = _
      rw [Nat.add_sub_cancel] at h2
      omega
    rw [tot, sm_append, key, tau_sum P i, sm]
end
end Go.Abs.Geo
end
