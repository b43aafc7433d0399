/- The area of an outline; the parallel outline. The area of the parallel outline. -/
import Derived.Test.YtcgfcahljfmipaaDoorG4
section
set_option linter.unusedVariables false
namespace Go.Abs.Geo

theorem sm_comm (f : Nat → Nat → Int) (n : Nat) : ∀ K, sm (fun b => sm (fun i => f b i) n) K = sm (fun i => sm (fun b => f b i) K) n
  | 0 => (sm_zero n).symm
  | K + 1 => by
    rw [sm, sm_comm f n K, ← sm_add]; rfl
theorem sm_mul (c : Int) (f : Nat → Int) : ∀ n, sm (fun i => c * f i) n = c * sm f n
  | 0 => (Int.mul_zero c).symm
  | n + 1 => by rw [sm, sm, sm_mul c f n, Int.mul_add]
theorem sm_le {f g : Nat → Int} : ∀ {n : Nat}, (∀ i, i < n → f i ≤ g i) → sm f n ≤ sm g n
  | 0, _ => Int.le_refl _
  | n + 1, h => by
    have := sm_le (n := n) fun i hi => h i (by omega)
    have := h n (by omega)
    rw [sm, sm]; omega
theorem sm_lt {f : Nat → Int} : ∀ {n : Nat}, (∀ i, i < n → f i ≤ 0) → ∀ {k : Nat}, k < n → f k < 0 → sm f n < 0
  | 0, _, k, hk, _ => absurd hk (Nat.not_lt_zero k)
  | n + 1, h, k, hk, h0 => by
    rw [sm]
    by_cases e : k = n
    · subst e
      have := sm_le (f := f) (g := fun _ => 0) (n := k) fun i hi => h i (by omega)
      rw [sm_zero] at this
      omega
    · have := sm_lt (n := n) (fun i hi => h i (by omega)) (k := k) (by omega) h0
      have := h n (by omega)
      omega
theorem count1 (m x : Int) : ∀ K : Nat, sm (fun k => if m + k < x then 1 else 0) K = min (max (x - m) 0) K
  | 0 => by show (0 : Int) = _; omega
  | K + 1 => by
    rw [sm, count1 m x K]
    split <;> omega
theorem count2 (m y y' : Int) : ∀ K : Nat, sm (fun k => if y ≤ m + k ∧ m + k < y' then 1 else if y' ≤ m + k ∧ m + k < y then -1 else 0) K = min (max (y' - m) 0) K - min (max (y - m) 0) K
  | 0 => by show (0 : Int) = _; omega
  | K + 1 => by
    rw [sm, count2 m y y' K]
    (repeat' split) <;> omega
section
variable {n : Nat} {X Y : Nat → Int}
theorem sv_mul (X Y : Nat → Int) (a b : Int) (i : Nat) : sv X Y a b i = (if X (i + 1) = X i then (if Y i ≤ b ∧ b < Y (i + 1) then 1 else if Y (i + 1) ≤ b ∧ b < Y i then -1 else 0) else 0) * (if a < X i then 1 else 0) := by
  unfold sv
  by_cases h1 : X (i + 1) = X i
  · by_cases h2 : a < X i
    · rw [if_pos ⟨h1, h2⟩, if_pos h1, if_pos h2, Int.mul_one]
    · rw [if_neg (fun h => h2 h.2), if_neg h2, Int.mul_zero]
  · rw [if_neg (fun h => h1 h.1), if_neg h1, Int.zero_mul]
theorem ar_cells (hq : ∀ i, Y (i + n) = Y i) (hr : Rect X Y) {m m' : Int} {K K' : Nat} (hx : ∀ i, m ≤ X i ∧ X i ≤ m + K) (hy : ∀ i, m' ≤ Y i ∧ Y i ≤ m' + K') :
    sm (fun kb : Nat => sm (fun ka : Nat => wp n X Y (m + ka) (m' + kb)) K) K' = ar n X Y := by
  have e0 := hq 0
  rw [Nat.zero_add] at e0
  have h1 : ∀ kb : Nat, sm (fun ka : Nat => wp n X Y (m + ka) (m' + kb)) K = sm (fun i => (if X (i + 1) = X i then (if Y i ≤ m' + kb ∧ m' + kb < Y (i + 1) then 1 else if Y (i + 1) ≤ m' + kb ∧ m' + kb < Y i then -1 else 0) else 0) * (X i - m)) n := fun kb => by
    unfold wp
    rw [sm_comm (fun (ka : Nat) i => sv X Y (m + ka) (m' + kb) i)]
    refine sm_eq fun i _ => ?_
    rw [sm_eq (fun ka _ => sv_mul X Y (m + ka) (m' + kb) i), sm_mul, count1]
    have := hx i
    rw [show min (max (X i - m) 0) (K : Int) = X i - m by omega]
  rw [sm_eq fun kb _ => h1 kb, sm_comm (fun (kb : Nat) i => (if X (i + 1) = X i then (if Y i ≤ m' + kb ∧ m' + kb < Y (i + 1) then 1 else if Y (i + 1) ≤ m' + kb ∧ m' + kb < Y i then -1 else 0) else 0) * (X i - m))]
  have h2 : ∀ i, sm (fun kb : Nat => (if X (i + 1) = X i then (if Y i ≤ m' + kb ∧ m' + kb < Y (i + 1) then 1 else if Y (i + 1) ≤ m' + kb ∧ m' + kb < Y i then -1 else 0) else 0) * (X i - m)) K' = X i * (Y (i + 1) - Y i) - m * (Y (i + 1) - Y i) := fun i => by
    rw [sm_eq (g := fun kb : Nat => (X i - m) * (if X (i + 1) = X i then (if Y i ≤ m' + kb ∧ m' + kb < Y (i + 1) then 1 else if Y (i + 1) ≤ m' + kb ∧ m' + kb < Y i then -1 else 0) else 0)) (fun kb _ => Int.mul_comm _ _), sm_mul, ← Int.sub_mul]
    congr 1
    by_cases h : X (i + 1) = X i
    · simp only [if_pos h]
      rw [count2]
      have := hy i
      have := hy (i + 1)
      omega
    · simp only [if_neg h]
      rw [sm_zero]
      have := hr i
      omega
  rw [sm_eq fun i _ => h2 i, sm_sub, sm_mul, sm_tel, e0, Int.sub_self, Int.mul_zero, Int.sub_zero]
  rfl
theorem bounds (hp : ∀ i, X (i + n) = X i) (hn : 0 < n) : ∃ (m : Int) (K : Nat), ∀ i, m ≤ X i ∧ X i ≤ m + K := by
  obtain ⟨M, hM⟩ := bound X n
  obtain ⟨m, hm⟩ := bound (fun i => - X i) n
  refine ⟨-m, (M + m).toNat, fun i => ?_⟩
  rw [per_all hp i]
  have h1 := hM _ (Nat.mod_lt i hn)
  have h2 := hm _ (Nat.mod_lt i hn)
  omega
/-- An outline whose area is not negative goes round each cell once at most, to the left; its turns make a full one. -/
theorem Poly.good (P : Poly n X Y) (h : 0 ≤ ar n X Y) : sm (cr X Y) n = 8 ∧ ∀ a b, wp n X Y a b = 0 ∨ wp n X Y a b = 1 := by
  rcases P.once with h1 | ⟨_, h2, a, b, h3⟩
  · exact h1
  exfalso
  have hb := P.big
  obtain ⟨m, K, hx⟩ := bounds P.px (by omega)
  obtain ⟨m', K', hy⟩ := bounds P.py (by omega)
  have e := ar_cells P.py P.rect hx hy
  have ha : m ≤ a ∧ a < m + K := by
    have h4 := wp_wh P.px P.py P.rect a b
    rw [h3] at h4
    have h5 : ∃ i, i < n ∧ sh X Y a b i ≠ 0 := by
      refine Classical.byContradiction fun hn => ?_
      unfold wh at h4
      rw [sm_eq (g := fun _ => 0) fun i hi => Classical.byContradiction fun h => hn ⟨i, hi, h⟩, sm_zero] at h4
      omega
    obtain ⟨i, _, h6⟩ := h5
    have := hx i
    have := hx (i + 1)
    unfold sh at h6
    (repeat' split at h6) <;> omega
  have hbb : m' ≤ b ∧ b < m' + K' := by
    have h5 : ∃ i, i < n ∧ sv X Y a b i ≠ 0 := by
      refine Classical.byContradiction fun hn => ?_
      unfold wp at h3
      rw [sm_eq (g := fun _ => 0) fun i hi => Classical.byContradiction fun h => hn ⟨i, hi, h⟩, sm_zero] at h3
      omega
    obtain ⟨i, _, h6⟩ := h5
    have := hy i
    have := hy (i + 1)
    unfold sv at h6
    (repeat' split at h6) <;> omega
  have inner : ∀ kb : Nat, sm (fun ka : Nat => wp n X Y (m + ka) (m' + kb)) K ≤ 0 := fun kb => by
    have := sm_le (f := fun ka : Nat => wp n X Y (m + ka) (m' + kb)) (g := fun _ => 0) (n := K) fun ka _ => by have := h2 (m + ka) (m' + kb); omega
    rwa [sm_zero] at this
  have one : sm (fun ka : Nat => wp n X Y (m + ka) (m' + (b - m').toNat)) K < 0 := by
    refine sm_lt (fun ka _ => by have := h2 (m + ka) (m' + (b - m').toNat); omega) (k := (a - m).toNat) (by omega) ?_
    rw [show m + ((a - m).toNat : Int) = a by omega, show m' + ((b - m').toNat : Int) = b by omega, h3]
    decide
  have := sm_lt (f := fun kb : Nat => sm (fun ka : Nat => wp n X Y (m + ka) (m' + kb)) K) (n := K') (fun kb _ => inner kb) (k := (b - m').toNat) (by omega) one
  omega

/-- The parallel outline. -/
def offX (n : Nat) (X Y : Nat → Int) (d : Int) (i : Nat) : Int := X i + d * (sg (Y (i + (n - 1) + 1) - Y (i + (n - 1))) + sg (Y (i + 1) - Y i))
def offY (n : Nat) (X Y : Nat → Int) (d : Int) (i : Nat) : Int := Y i - d * (sg (X (i + (n - 1) + 1) - X (i + (n - 1))) + sg (X (i + 1) - X i))
theorem off_succ (P : Poly n X Y) (d : Int) (i : Nat) : offX n X Y d (i + 1) = X (i + 1) + d * (sg (Y (i + 1) - Y i) + sg (Y (i + 2) - Y (i + 1))) ∧ offY n X Y d (i + 1) = Y (i + 1) - d * (sg (X (i + 1) - X i) + sg (X (i + 2) - X (i + 1))) := by
  have hb := P.big
  unfold offX offY
  rw [show i + 1 + (n - 1) + 1 = i + 1 + n by omega, show i + 1 + (n - 1) = i + n by omega, P.px, P.px, P.py, P.py]
  exact ⟨rfl, rfl⟩
theorem offX_per (P : Poly n X Y) (d : Int) (i : Nat) : offX n X Y d (i + n) = offX n X Y d i := by
  unfold offX
  rw [show i + n + (n - 1) + 1 = i + (n - 1) + 1 + n by omega, show i + n + (n - 1) = i + (n - 1) + n by omega, show i + n + 1 = i + 1 + n by omega, P.px, P.py, P.py, P.py, P.py]
theorem offY_per (P : Poly n X Y) (d : Int) (i : Nat) : offY n X Y d (i + n) = offY n X Y d i := by
  unfold offY
  rw [show i + n + (n - 1) + 1 = i + (n - 1) + 1 + n by omega, show i + n + (n - 1) = i + (n - 1) + n by omega, show i + n + 1 = i + 1 + n by omega, P.py, P.px, P.px, P.px, P.px]
theorem sg_is (z : Int) : (0 < z ∧ sg z = 1) ∨ (z = 0 ∧ sg z = 0) ∨ (z < 0 ∧ sg z = -1) := by
  unfold sg
  (repeat' split) <;> omega
/-- The parallel outline has the same directions. -/
def Same (n : Nat) (X Y : Nat → Int) (d : Int) : Prop := ∀ i, sg (offX n X Y d (i + 1) - offX n X Y d i) = sg (X (i + 1) - X i) ∧ sg (offY n X Y d (i + 1) - offY n X Y d i) = sg (Y (i + 1) - Y i)
theorem sm_shift1 {f : Nat → Int} {n : Nat} (h : ∀ i, f (i + n) = f i) : sm f n = sm (fun i => f (i + 1)) n := (sm_per h 1).symm
theorem sv_per {n : Nat} {X Y : Nat → Int} (hp : ∀ i, X (i + n) = X i) (hq : ∀ i, Y (i + n) = Y i) (a b : Int) (i : Nat) : sv X Y a b (i + n) = sv X Y a b i := by
  unfold sv
  rw [show i + n + 1 = i + 1 + n by omega, hp, hp, hq, hq]
theorem sh_per {n : Nat} {X Y : Nat → Int} (hp : ∀ i, X (i + n) = X i) (hq : ∀ i, Y (i + n) = Y i) (a b : Int) (i : Nat) : sh X Y a b (i + n) = sh X Y a b i := by
  unfold sh
  rw [show i + n + 1 = i + 1 + n by omega, hp, hp, hq, hq]
/-- What moves when the upright sides are moved. -/
theorem mid_facts (P : Poly n X Y) (d : Int) (i : Nat) :
    (X (i + 1) = X (i + 2) ∧ Y (i + 1) < Y (i + 2) ∧ offX n X Y d (i + 1) = X (i + 1) + d ∧ offX n X Y d (i + 2) = X (i + 1) + d) ∨
    (X (i + 1) = X (i + 2) ∧ Y (i + 2) < Y (i + 1) ∧ offX n X Y d (i + 1) = X (i + 1) - d ∧ offX n X Y d (i + 2) = X (i + 1) - d) ∨
    (Y (i + 1) = Y (i + 2) ∧ X (i + 1) < X (i + 2) ∧ offY n X Y d (i + 1) = Y (i + 1) - d ∧ offY n X Y d (i + 2) = Y (i + 1) - d) ∨
    (Y (i + 1) = Y (i + 2) ∧ X (i + 2) < X (i + 1) ∧ offY n X Y d (i + 1) = Y (i + 1) + d ∧ offY n X Y d (i + 2) = Y (i + 1) + d) := by
  obtain ⟨e1, e2⟩ := off_succ P d i
  obtain ⟨e3, e4⟩ := off_succ P d (i + 1)
  have q1 : i + 1 + 1 = i + 2 := rfl
  have q2 : i + 1 + 2 = i + 3 := rfl
  rw [q1, q2] at e3 e4
  have h0 := P.hv i
  have h1 := P.hv (i + 1)
  rw [q1, q2] at h1
  have s0 : ∀ z : Int, z = 0 → sg z = 0 := fun z h => by unfold sg; (repeat' split) <;> omega
  have s1 : ∀ z : Int, 0 < z → sg z = 1 := fun z h => by unfold sg; (repeat' split) <;> omega
  have s2 : ∀ z : Int, z < 0 → sg z = -1 := fun z h => by unfold sg; (repeat' split) <;> omega
  rcases h1 with ⟨a1, a2, a3, a4⟩ | ⟨a1, a2, a3, a4⟩
  · have b1 : X i = X (i + 1) := by omega
    rcases Int.lt_trichotomy (X (i + 1)) (X (i + 2)) with h | h | h
    · refine Or.inr (Or.inr (Or.inl ⟨a2, h, ?_, ?_⟩))
      · rw [e2, s0 (X (i + 1) - X i) (by omega), s1 (X (i + 2) - X (i + 1)) (by omega)]; omega
      · rw [e4, s1 (X (i + 2) - X (i + 1)) (by omega), s0 (X (i + 3) - X (i + 2)) (by omega)]; omega
    · exact absurd h a1
    · refine Or.inr (Or.inr (Or.inr ⟨a2, h, ?_, ?_⟩))
      · rw [e2, s0 (X (i + 1) - X i) (by omega), s2 (X (i + 2) - X (i + 1)) (by omega)]; omega
      · rw [e4, s2 (X (i + 2) - X (i + 1)) (by omega), s0 (X (i + 3) - X (i + 2)) (by omega)]; omega
  · have b1 : Y i = Y (i + 1) := by omega
    rcases Int.lt_trichotomy (Y (i + 1)) (Y (i + 2)) with h | h | h
    · refine Or.inl ⟨a1, h, ?_, ?_⟩
      · rw [e1, s0 (Y (i + 1) - Y i) (by omega), s1 (Y (i + 2) - Y (i + 1)) (by omega)]; omega
      · rw [e3, s1 (Y (i + 2) - Y (i + 1)) (by omega), s0 (Y (i + 3) - Y (i + 2)) (by omega)]; omega
    · exact absurd h a2
    · refine Or.inr (Or.inl ⟨a1, h, ?_, ?_⟩)
      · rw [e1, s0 (Y (i + 1) - Y i) (by omega), s2 (Y (i + 2) - Y (i + 1)) (by omega)]; omega
      · rw [e3, s2 (Y (i + 2) - Y (i + 1)) (by omega), s0 (Y (i + 3) - Y (i + 2)) (by omega)]; omega
theorem ge1 {n : Nat} {P : Nat → Prop} (hn : 0 < n) (hp : ∀ i, P (i + n) → P i) (h : ∀ i, P (i + 1)) (i : Nat) : P i := by
  obtain ⟨m, rfl⟩ : ∃ m, n = m + 1 := ⟨n - 1, by omega⟩
  exact hp i (h (i + m))
theorem mid_rect (P : Poly n X Y) (d : Int) : Rect (offX n X Y d) Y := by
  refine ge1 (n := n) (P := fun i => offX n X Y d i = offX n X Y d (i + 1) ∨ Y i = Y (i + 1)) (by have := P.big; omega) (fun i h => ?_) fun i => ?_
  · show offX n X Y d i = offX n X Y d (i + 1) ∨ Y i = Y (i + 1)
    rw [offX_per P, show i + n + 1 = i + 1 + n by omega, offX_per P, P.py, P.py] at h
    exact h
  · have := mid_facts P d i
    show offX n X Y d (i + 1) = offX n X Y d (i + 2) ∨ Y (i + 1) = Y (i + 2)
    omega
theorem off_rect (P : Poly n X Y) (d : Int) : Rect (offX n X Y d) (offY n X Y d) := by
  refine ge1 (n := n) (P := fun i => offX n X Y d i = offX n X Y d (i + 1) ∨ offY n X Y d i = offY n X Y d (i + 1)) (by have := P.big; omega) (fun i h => ?_) fun i => ?_
  · show offX n X Y d i = offX n X Y d (i + 1) ∨ offY n X Y d i = offY n X Y d (i + 1)
    rw [offX_per P, offY_per P, show i + n + 1 = i + 1 + n by omega, offX_per P, offY_per P] at h
    exact h
  · have := mid_facts P d i
    show offX n X Y d (i + 1) = offX n X Y d (i + 2) ∨ offY n X Y d (i + 1) = offY n X Y d (i + 2)
    omega
/-- The parallel outline goes round each cell as often as the outline at least. -/
theorem off_ge (P : Poly n X Y) {d : Int} (hd : 0 ≤ d) (hs : Same n X Y d) (a b : Int) : wp n X Y a b ≤ wp n (offX n X Y d) (offY n X Y d) a b := by
  have h1 : wp n X Y a b ≤ wp n (offX n X Y d) Y a b := by
    unfold wp
    rw [sm_shift1 (sv_per P.px P.py a b), sm_shift1 (sv_per (offX_per P d) P.py a b)]
    refine sm_le fun i _ => ?_
    have hf := mid_facts P d i
    have q1 : i + 1 + 1 = i + 2 := rfl
    unfold sv
    rw [q1]
    rcases hf with ⟨f1, f2, f3, f4⟩ | ⟨f1, f2, f3, f4⟩ | ⟨f1, f2, f3, f4⟩ | ⟨f1, f2, f3, f4⟩
    · rw [f3, f4]; (repeat' split) <;> omega
    · rw [f3, f4]; (repeat' split) <;> omega
    · (repeat' split) <;> omega
    · (repeat' split) <;> omega
  have h2 : wh n (offX n X Y d) Y a b ≤ wh n (offX n X Y d) (offY n X Y d) a b := by
    unfold wh
    rw [sm_shift1 (sh_per (offX_per P d) P.py a b), sm_shift1 (sh_per (offX_per P d) (offY_per P d) a b)]
    refine sm_le fun i _ => ?_
    have hf := mid_facts P d i
    have hg := (hs (i + 1)).1
    have q1 : i + 1 + 1 = i + 2 := rfl
    unfold sh
    rw [q1] at hg ⊢
    have sx := sg_is (offX n X Y d (i + 2) - offX n X Y d (i + 1))
    have sx' := sg_is (X (i + 2) - X (i + 1))
    rcases hf with ⟨f1, f2, f3, f4⟩ | ⟨f1, f2, f3, f4⟩ | ⟨f1, f2, f3, f4⟩ | ⟨f1, f2, f3, f4⟩
    · rw [f3, f4]; (repeat' split) <;> omega
    · rw [f3, f4]; (repeat' split) <;> omega
    · rw [f3, f4]; (repeat' split) <;> omega
    · rw [f3, f4]; (repeat' split) <;> omega
  rw [wp_wh (offX_per P d) P.py (mid_rect P d)] at h1
  rw [← wp_wh (offX_per P d) (offY_per P d) (off_rect P d)] at h2
  exact Int.le_trans h1 h2
end
end Go.Abs.Geo
end
section
set_option linter.unusedVariables false
namespace Go.Abs.Geo
section
variable {n : Nat} {X Y : Nat → Int}
end
end Go.Abs.Geo
end
