/- Contracts. -/
import Derived.Test.YteennpofimiliaaGreatDoorK63
set_option linter.unusedVariables false
set_option linter.unusedSimpArgs false
set_option maxRecDepth 100000
namespace Go.Abs
open Go
/-- One facade's step of the least costs: the costs at its end, and the choice by which each is reached. -/
def dpC (k : Nat → Int) (x0 x1 : Int) (m : Int) (c b : Nat) : Bool := decide (c % 2 = b ∧ 0 ≤ pr x0 x1 (c / 2) ∧ 0 ≤ k c ∧ (m < 0 ∨ pr x0 x1 (c / 2) + k c < m))
def dpN (k : Nat → Int) (x0 x1 : Int) : Nat → Nat → Int
  | 0, _ => -1
  | c + 1, b => if dpC k x0 x1 (dpN k x0 x1 c b) c b = true then pr x0 x1 (c / 2) + k c else dpN k x0 x1 c b
def dpL (k : Nat → Int) (x0 x1 : Int) : Nat → Nat → Int
  | 0, _ => 0
  | c + 1, b => if dpC k x0 x1 (dpN k x0 x1 c b) c b = true then ((c / 2 : Nat) : Int) else dpL k x0 x1 c b
/-- A ring's costs behind so many facades, from a first choice; whence they come; the first best; the least. -/
def dpR (K : Nat → Nat → Int) (f : Nat) : Nat → Nat → Int
  | 0, b => if b = f then 0 else -1
  | i + 1, b => dpN (K i) (dpR K f i 0) (dpR K f i 1) 4 b
def dpF (K : Nat → Nat → Int) (f : Nat) : Nat → Nat → Int
  | 0, _ => 0
  | i + 1, b => dpL (K i) (dpR K f i 0) (dpR K f i 1) 4 b
def mnS (x y : Int) : Nat → Int
  | 0 => if 0 ≤ x then x else -1
  | _ + 1 => if 0 ≤ y ∧ ((if 0 ≤ x then x else -1) < 0 ∨ y < (if 0 ≤ x then x else -1)) then y else if 0 ≤ x then x else -1
section
variable {k : Nat → Int} {x0 x1 : Int} {m : Int}
theorem dpN_bd {X Y : Int} (hx : -1 ≤ x0 ∧ x0 ≤ X) (hy : -1 ≤ x1 ∧ x1 ≤ X) (hX : -1 ≤ X) (hk : ∀ c, c < 4 → -1 ≤ k c ∧ k c ≤ Y) (hY : 0 ≤ Y) : ∀ c b, c ≤ 4 → -1 ≤ dpN k x0 x1 c b ∧ dpN k x0 x1 c b ≤ X + Y
  | 0, b, _ => by rw [dpN]; omega
  | c + 1, b, hc => by
    have h1 := dpN_bd hx hy hX hk hY c b (by omega)
    have h2 := hk c (by omega)
    rw [dpN]
    split
    · rename_i h
      rw [dpC, decide_eq_true_eq] at h
      obtain ⟨_, h3, h4, _⟩ := h
      have h5 : pr x0 x1 (c / 2) ≤ X := by
        rcases (show c / 2 = 0 ∨ c / 2 = 1 by omega) with e | e <;> rw [e]
        · exact hx.2
        · exact hy.2
      omega
    · exact h1
/-- What is reached is least, and is reached. -/
theorem dpN_le (hx : ∀ a, -1 ≤ pr x0 x1 a) : ∀ c b j, j < c → j % 2 = b → 0 ≤ pr x0 x1 (j / 2) → 0 ≤ k j → 0 ≤ dpN k x0 x1 c b ∧ dpN k x0 x1 c b ≤ pr x0 x1 (j / 2) + k j
  | 0, b, j, h, _, _, _ => by omega
  | c + 1, b, j, h, hb, h1, h2 => by
    rw [dpN]
    by_cases e : j = c
    · subst e
      split
      · omega
      · rename_i hn
        rw [dpC, decide_eq_true_eq] at hn
        have : ¬ (dpN k x0 x1 j b < 0 ∨ pr x0 x1 (j / 2) + k j < dpN k x0 x1 j b) := fun hx => hn ⟨hb, h1, h2, hx⟩
        omega
    · have ih := dpN_le hx c b j (by omega) hb h1 h2
      split
      · rename_i hn
        rw [dpC, decide_eq_true_eq] at hn
        omega
      · exact ih
theorem dpN_is : ∀ c b, b ≤ 1 → c ≤ 4 → 0 ≤ dpN k x0 x1 c b → (dpL k x0 x1 c b = 0 ∨ dpL k x0 x1 c b = 1) ∧ 0 ≤ pr x0 x1 (dpL k x0 x1 c b).toNat ∧ 0 ≤ k (2 * (dpL k x0 x1 c b).toNat + b) ∧ dpN k x0 x1 c b = pr x0 x1 (dpL k x0 x1 c b).toNat + k (2 * (dpL k x0 x1 c b).toNat + b)
  | 0, b, _, _, h => by rw [dpN] at h; omega
  | c + 1, b, hb, hc, h => by
    rw [dpN] at h ⊢
    rw [dpL]
    by_cases e : dpC k x0 x1 (dpN k x0 x1 c b) c b = true
    · rw [if_pos e, if_pos e]
      rw [dpC, decide_eq_true_eq] at e
      have e2 : 2 * ((c / 2 : Nat) : Int).toNat + b = c := by omega
      have e3 : ((c / 2 : Nat) : Int).toNat = c / 2 := by omega
      rw [e2, e3]
      exact ⟨by omega, e.2.1, e.2.2.1, rfl⟩
    · rw [if_neg e] at h ⊢
      rw [if_neg e]
      exact dpN_is c b hb (by omega) h
end
theorem dpR_bd {K : Nat → Nat → Int} {f n : Nat} {Y : Int} (hY : 0 ≤ Y) (hK : ∀ i c, i < n → c < 4 → -1 ≤ K i c ∧ K i c ≤ Y) : ∀ i b, i ≤ n → -1 ≤ dpR K f i b ∧ dpR K f i b ≤ i * Y
  | 0, b, _ => by rw [dpR]; split <;> omega
  | i + 1, b, hi => by
    have h0 := dpR_bd (f := f) hY hK i 0 (by omega)
    have h1 := dpR_bd (f := f) hY hK i 1 (by omega)
    have hp : 0 ≤ (i : Int) * Y := Int.mul_nonneg (by omega) hY
    have := dpN_bd h0 h1 (by omega) (fun c hc => hK i c (by omega) hc) hY 4 b (Nat.le_refl _)
    rw [dpR, show ((i + 1 : Nat) : Int) = (i : Int) + 1 by omega, Int.add_mul]
    omega
/-- The codes of the facades. -/
def rlC (b : Bld) (G W i a e : Int) : Int := ruL (b.N 0) (b.X 0) (b.Y 0) G W i a e
def cdR (nB : Nat) (B : Nat → Int) (nO : Nat) (O : Nat → Int) (x : Int) : Int := codF (Lay.tabRS nB B nO O) (uRI nB B nO O) x
def kR (b : Bld) (nB : Nat) (B : Nat → Int) (nO : Nat) (O : Nat → Int) (W G : Int) (i c : Nat) : Int := cdR nB B nO O (rlC b G W i ((c / 2 : Nat) : Int) ((c % 2 : Nat) : Int))
def dX (b : Bld) (nB : Nat) (B : Nat → Int) (nO : Nat) (O : Nat → Int) (W G : Int) (f i e : Nat) : Int := dpR (kR b nB B nO O W G) f i e
def dZ (b : Bld) (nB : Nat) (B : Nat → Int) (nO : Nat) (O : Nat → Int) (W G : Int) (f i c e : Nat) : Int := dpN (kR b nB B nO O W G i) (dX b nB B nO O W G f i 0) (dX b nB B nO O W G f i 1) c e
section
variable {b : Bld} {nB : Nat} {B : Nat → Int} {nO : Nat} {O : Nat → Int} {W G L : Int}
theorem cd_bd (hs : Lay.sysE nB B nO O W G L = 0) {x : Int} (h : x ≤ 4000 * uRI nB B nO O) : -1 ≤ cdR nB B nO O x ∧ cdR nB B nO O x ≤ 40010000 := by
  obtain ⟨_, u1, u2⟩ := u_bd hs
  unfold cdR codF
  split
  · omega
  · rename_i hn
    have hx : 0 ≤ x := by omega
    have q0 : 0 ≤ x / uRI nB B nO O := Int.ediv_nonneg hx (by omega)
    have q1 : x / uRI nB B nO O ≤ 4000 := by
      have := Int.ediv_le_ediv (show 0 < uRI nB B nO O by omega) h
      rwa [Int.mul_ediv_cancel _ (by omega)] at this
    have hb := Lay.tabL_bd (l := Lay.plX (Lay.unitR nB B O (nB + nO)) (Lay.rLen nB B O) (Lay.rCode nB) (nB + nO)) (fun p hp => by
      obtain ⟨i, _, rfl⟩ := List.mem_map.1 hp
      show 0 ≤ Lay.rCode nB i ∧ Lay.rCode nB i ≤ 10001
      unfold Lay.rCode
      split
      · split <;> omega
      · omega) (x / uRI nB B nO O).toNat
    have he : Lay.tabRS nB B nO O (x / uRI nB B nO O).toNat = Lay.tabL (Lay.plX (Lay.unitR nB B O (nB + nO)) (Lay.rLen nB B O) (Lay.rCode nB) (nB + nO)) (x / uRI nB B nO O).toNat := rfl
    rw [he]
    have : 10001 * ((x / uRI nB B nO O).toNat : Int) ≤ 40004000 := by omega
    omega
theorem rl_le (h0 : arE b nB B nO O W G L = 0) (hl : ∀ i, i < b.N 0 → ruL (b.N 0) (b.X 0) (b.Y 0) G W (i : Nat) 1 0 ≤ 4000 * (uRI nB B nO O)) {i : Nat} (hi : i < b.N 0) {a e : Int} (ha : 0 ≤ a ∧ a ≤ 1) (he : 0 ≤ e ∧ e ≤ 1) : rlC b G W i a e ≤ 4000 * uRI nB B nO O ∧ -9000000 ≤ rlC b G W i a e ∧ rlC b G W i a e ≤ 9000000 := by
  obtain ⟨hc, hs, _, _, _, _, _⟩ := ar_zero h0
  obtain ⟨b1, b2, b3, b4, b5⟩ := b0_ok hc
  have hn4 := chk_n b2
  obtain ⟨hX, hY⟩ := chk_inB b2
  have g1 := (sys_wgl hs).1
  have h1 := ru_le (n := b.N 0) (X := b.X 0) (Y := b.Y 0) g1 (i : Int) ha he
  have h2 := ru_bd (n := b.N 0) (X := b.X 0) (Y := b.Y 0) (by omega) hX hY g1 (i : Int) ha he
  have h3 := hl i hi
  unfold rlC
  omega
theorem kR_bd (h0 : arE b nB B nO O W G L = 0) (hl : ∀ i, i < b.N 0 → ruL (b.N 0) (b.X 0) (b.Y 0) G W (i : Nat) 1 0 ≤ 4000 * (uRI nB B nO O)) (i c : Nat) (hi : i < b.N 0) (hc : c < 4) : -1 ≤ kR b nB B nO O W G i c ∧ kR b nB B nO O W G i c ≤ 40010000 :=
  cd_bd (ar_zero h0).2.1 (rl_le h0 hl hi (by omega) (by omega)).1
theorem dX_bd (h0 : arE b nB B nO O W G L = 0) (hl : ∀ i, i < b.N 0 → ruL (b.N 0) (b.X 0) (b.Y 0) G W (i : Nat) 1 0 ≤ 4000 * (uRI nB B nO O)) (f i e : Nat) (hi : i ≤ b.N 0) : -1 ≤ dX b nB B nO O W G f i e ∧ dX b nB B nO O W G f i e ≤ 2000000000 := by
  have hn4 := chk_n (b0_ok (ar_zero h0).1).2.1
  have h := dpR_bd (K := kR b nB B nO O W G) (f := f) (n := b.N 0) (Y := 40010000) (by omega) (fun i c hi hc => kR_bd h0 hl i c hi hc) i e hi
  unfold dX
  omega
variable {f i c e : Nat} {x k : Int}
theorem z_no (h : c % 2 ≠ e) : dZ b nB B nO O W G f i c e = dZ b nB B nO O W G f i (c + 1) e := by
  unfold dZ
  rw [dpN, if_neg]
  rw [dpC, decide_eq_true_eq]
  exact fun hx => h hx.1
theorem z_yes (hx : pr (dX b nB B nO O W G f i 0) (dX b nB B nO O W G f i 1) (c / 2) = x) (hk : kR b nB B nO O W G i c = k) (h1 : c % 2 = e) (h2 : (x ≥ 0 ∧ k ≥ 0) ∧ (dZ b nB B nO O W G f i c e < 0 ∨ x + k < dZ b nB B nO O W G f i c e)) : x + k = dZ b nB B nO O W G f i (c + 1) e := by
  unfold dZ at h2 ⊢
  rw [dpN, if_pos, hx, hk]
  rw [dpC, decide_eq_true_eq, hx, hk]
  exact ⟨h1, h2.1.1, h2.1.2, h2.2⟩
theorem z_not (hx : pr (dX b nB B nO O W G f i 0) (dX b nB B nO O W G f i 1) (c / 2) = x) (hk : kR b nB B nO O W G i c = k) (h2 : x ≥ 0 ∧ k ≥ 0 → ¬ dZ b nB B nO O W G f i c e < 0 ∧ ¬ x + k < dZ b nB B nO O W G f i c e) : dZ b nB B nO O W G f i c e = dZ b nB B nO O W G f i (c + 1) e := by
  unfold dZ at h2 ⊢
  rw [dpN, if_neg]
  rw [dpC, decide_eq_true_eq, hx, hk]
  exact fun h => by
    have := h2 ⟨h.2.1, h.2.2.1⟩
    have := h.2.2.2
    omega
end
noncomputable def A19_bestR_c (b : Bld) (nB : Nat) (B : Nat → Int) (nO : Nat) (O : Nat → Int) (W G L : Int) : Ann := { orc := [(2, [(1, rFst b)]), (15, [(5, .pos), (7, .pos), (8, .res fun q => dI (rlC b G W (aI q 2) (aI q 3) (aI q 4))), (9, .res fun q => dI (cdR nB B nO O (aI q 1)))]), (16, [(1, .pos), (11, .pos), (17, .pos), (23, .pos)]), (17, [(1, .pos), (3, .pos)])], loops := [(2, { ι := Nat, keep := [2, 3, 5, 6, 7, 8], boxes := [2, 3], ts := fun _ i => [(9, dI (i : Int))], bx := fun σ i => [(8, [dI (dX b nB B nO O W G (iOf (σ.get 7)).toNat i 0), dI (dX b nB B nO O W G (iOf (σ.get 7)).toNat i 1)])], inv := fun _ i => i ≤ b.N 0, mu := fun _ i => b.N 0 - i, rd := fun _ σ => (iOf (σ.get 9)).toNat })], cuts := [(5, { ι := Unit, keep := [2, 3, 6, 7], boxes := [2, 3], ts := fun σ _ => [(5, dI (mnS (dX b nB B nO O W G 0 (b.N 0) 0) (dX b nB B nO O W G 1 (b.N 0) 1) (iOf (σ.get 7)).toNat))], inv := fun _ _ => True, mu := fun _ _ => 0, rd := fun _ _ => () }),
  (14, { ι := Unit, keep := [2, 3, 5, 6, 7, 8, 9, 10, 11], boxes := [2, 3, 8], ts := fun _ _ => [], bx := fun σ _ => [(10, [dI (dZ b nB B nO O W G (iOf (σ.get 7)).toNat (iOf (σ.get 9)).toNat ((iOf (σ.get 11)).toNat + 1) 0), dI (dZ b nB B nO O W G (iOf (σ.get 7)).toNat (iOf (σ.get 9)).toNat ((iOf (σ.get 11)).toNat + 1) 1)])], inv := fun _ _ => True, mu := fun _ _ => 0, rd := fun _ _ => () })], unroll := [(0, 3), (4, 5)], dec := [17, 30] }
namespace w4g
noncomputable section
structure Z where
  b : Bld
  nB : Nat
  B : Nat → Int
  nO : Nat
  O : Nat → Int
  W : Int
  G : Int
  L : Int
variable (z : Z) (i0 : Nat) (p q : Prop) (P : List Prop) (a b : Int) (k l m : Nat) (g h : Bool) (E : List DV) (U V : VT) (j13a : PUnit → VT) (j15a : Nat → VT)
abbrev x0 := dX z.b z.nB z.B z.nO z.O z.W z.G k l m
abbrev x1 := Int.toNat 0
abbrev x2 := Int.toNat 1
abbrev x3 := rlC z.b z.G z.W (i0:Int) a b
abbrev x4 := cdR z.nB z.B z.nO z.O (x3 z i0 a b)
abbrev x5 := if g = true then h else false
abbrev x6 : List Prop := ri (g = true) :: P
abbrev x7 := dZ z.b z.nB z.B z.nO z.O z.W z.G k (Int.toNat (i0:Int)) (l + 1) m
abbrev x8 := decide (a < (0:Int))
abbrev x9 := i0 < z.b.nO → rf (z.b.O i0 k)
abbrev x10 := i0 < z.b.nB → rf (z.b.B i0 k)
abbrev x11 := g && (!(x8 a))
abbrev x12 := decide ((x0 z x1 i0 k) ≥ (0:Int))
abbrev x13 := decide ((x0 z x2 i0 k) ≥ (0:Int))
abbrev x14 := decide ((x4 z i0 (0:Int) a) ≥ (0:Int))
abbrev x15 := decide ((x4 z i0 (1:Int) a) ≥ (0:Int))
abbrev x16 := g = true → p
abbrev x17 : Int := -(1:Int)
abbrev x18 := (0:Int) < (2:Int)
abbrev x19 := x5 (x12 z i0 (0:Nat)) g
abbrev x20 := x5 (x13 z i0 (1:Nat)) g
abbrev x21 := x5 (x12 z i0 (1:Nat)) g
abbrev x22 := x15 z i0 (0:Int)
abbrev x23 := x15 z i0 (1:Int)
abbrev x24 := Int.toNat 2
abbrev x25 := x7 z i0 x1 k (1:Nat)
abbrev x26 := x7 z i0 x2 k (1:Nat)
abbrev x27 := (0:Int) ≤ (0:Int) ∧ p
abbrev x28 := (0:Int) ≤ (1:Int) ∧ p
abbrev x29 := x27 (0 < (↑(2:Nat) : Int))
abbrev x30 := x28 (1 < (↑(2:Nat) : Int))
abbrev x31 := x19 z i0 (x14 z i0 (0:Int))
abbrev x32 := x19 z i0 (x14 z i0 (1:Int))
abbrev x33 := x5 (x13 z i0 (0:Nat)) (x14 z i0 (0:Int))
abbrev x34 := x5 (x13 z i0 (0:Nat)) (x14 z i0 (1:Int))
abbrev x35 := mnS (x0 z (0:Nat) (z.b.N 0) (0:Nat)) (x0 z (1:Nat) (z.b.N 0) (1:Nat)) k
abbrev x36 := x18 ∧ a ≤ 9223372036854775807
abbrev x37 : List Prop := rf (↑(z.b.N 0) : Int) :: rf a :: P
abbrev x38 : List Prop := rf z.b.name :: rf z.b.nS :: (∀ i0 < z.b.nS, rf (z.b.fl i0)) :: (∀ i0 < z.b.nS, rf (z.b.N i0) ∧ (∀ i1 < z.b.N i0, rf (z.b.X i0 i1)) ∧ (∀ i1 < z.b.N i0, rf (z.b.Y i0 i1))) :: rf z.b.roof :: rf z.b.nO :: (∀ (i0 : Nat), x9 z i0 (0:Nat)) :: (∀ (i0 : Nat), x9 z i0 (1:Nat)) :: (∀ (i0 : Nat), x9 z i0 (2:Nat)) :: (∀ (i0 : Nat), x9 z i0 (3:Nat)) :: (∀ (i0 : Nat), x9 z i0 (4:Nat)) :: (∀ (i0 : Nat), x9 z i0 (5:Nat)) :: rf z.b.nB :: (∀ (i0 : Nat), x10 z i0 (0:Nat)) :: (∀ (i0 : Nat), x10 z i0 (1:Nat)) :: (∀ (i0 : Nat), x10 z i0 (2:Nat)) :: (∀ (i0 : Nat), x10 z i0 (3:Nat)) :: (∀ (i0 : Nat), x10 z i0 (4:Nat)) :: (∀ (i0 : Nat), x10 z i0 (5:Nat)) :: rf z.nB :: (∀ i0 < z.nB, rf (z.B i0)) :: rf z.nO :: (∀ i0 < z.nO, rf (z.O i0)) :: rf z.W :: rf z.G :: rf z.L :: P
abbrev x39 := x7 z i0 x1 x2 (0:Nat)
abbrev x40 := x7 z i0 x2 x2 (0:Nat)
abbrev x41 := x35 z x1
abbrev x42 := x0 z x1 i0 (0:Nat)
abbrev x43 := x0 z x2 i0 (1:Nat)
abbrev x44 := x0 z x1 i0 (1:Nat)
abbrev x45 := x0 z x2 i0 (0:Nat)
abbrev x46 := x11 (x25 z i0 x1) (x32 z i0)
abbrev x47 := x11 (x26 z i0 x1) (x34 z i0)
abbrev x48 := x11 (x40 z i0) (x20 z i0 (x22 z i0))
abbrev x49 := x11 (x26 z i0 x24) (x20 z i0 (x23 z i0))
abbrev x50 := x11 (x39 z i0) (x21 z i0 (x22 z i0))
abbrev x51 := x11 (x25 z i0 x24) (x21 z i0 (x23 z i0))
abbrev x52 : List DV := DV.agg [DV.lst z.nB [fun i0 => dI (z.B i0)], DV.lst z.nO [fun i0 => dI (z.O i0)], dI z.W, dI z.G, dI z.L] :: E
abbrev x53 := x12 z i0 (0:Nat)
abbrev x54 : List Prop := x16 x29 g :: P
abbrev x55 : List Prop := x16 x30 g :: P
abbrev x56 := Int.toNat 3
abbrev x57 := x7 z i0 x1 k (0:Nat)
abbrev x58 := x7 z i0 x2 k (0:Nat)
abbrev x59 := Int.toNat ((i0:Int) + 1)
abbrev x60 := VT.cut PUnit (fun (i0 : PUnit) => True) U j13a
abbrev x61 := x6 P (x11 x17 (x31 z i0))
abbrev x62 := x6 P (x11 x17 (x33 z i0))
abbrev x63 := x4 z i0 (0:Int) (0:Int)
abbrev x64 := x4 z i0 (0:Int) (1:Int)
abbrev x65 := x4 z i0 (1:Int) (0:Int)
abbrev x66 := x4 z i0 (1:Int) (1:Int)
abbrev x67 := VT.need [i64In a] U
abbrev x68 := x8 a = false → g = true
abbrev x69 := if (x8 a) = true then true else g
abbrev x70 := x6 P (x13 z i0 (1:Nat))
abbrev x71 := x18 ∧ (0:Int) ≤ (9223372036854775807:Int)
abbrev x72 : List Prop := p :: q :: x38 z [rf (x42 z i0), rf (x44 z i0), True]
abbrev x73 : List Prop := p :: q :: x38 z [rf (x45 z i0), rf (x43 z i0), True]
abbrev x74 := FnC prog 36 (bld z.b :: x52 z (dI (i0:Int) :: E)) (dI a)
abbrev x75 := FnC prog 56 (x52 z [dI a]) (dI b)
abbrev x76 := VT.done (rf x17 :: x37 z (rf (i0:Int) :: rf a :: P) (0:Int))
abbrev x77 := VT.done (rf (x41 z) :: x37 z (rf (i0:Int) :: rf a :: P) (1:Int))
abbrev x78 := x6 P (x32 z i0)
abbrev x79 := x6 P (x34 z i0)
abbrev x80 := x6 P (x20 z i0 (x22 z i0))
abbrev x81 := x6 P (x20 z i0 (x23 z i0))
abbrev x82 := x6 P (x21 z i0 (x22 z i0))
abbrev x83 := x6 P (x21 z i0 (x23 z i0))
abbrev x84 := x16 ((0:Int) ≤ (2:Int) ∧ p) g
abbrev x85 := x16 ((0:Int) ≤ (3:Int) ∧ p) g
abbrev x86 : List Prop := ((0:Int) ≤ (2:Int) ∧ x36 (2:Int)) :: P
abbrev x87 : List Prop := ((0:Int) ≤ (3:Int) ∧ x36 (3:Int)) :: P
abbrev x88 := x11 (x41 z) (x13 z i0 (1:Nat))
abbrev x89 := VT.need (x27 x71 :: P) U
abbrev x90 := VT.need (x28 (x36 (1:Int)) :: P) U
abbrev x91 := x20 z i0 (x22 z i0)
abbrev x92 := x20 z i0 (x23 z i0)
abbrev x93 := x21 z i0 (x22 z i0)
abbrev x94 := x21 z i0 (x23 z i0)
abbrev x95 := x6 P (x11 x17 (x53 z i0))
abbrev x96 : List Prop := x16 (x28 x18) g :: P
abbrev x97 := x16 (x68 x17 (x11 x17 h)) g
abbrev x98 : List Prop := x29 :: x6 (x6 P (x53 z i0)) (x53 z i0)
abbrev x99 := x5 g (x69 x17 (decide (a < x17)))
abbrev x100 := x61 z i0 (x16 p (x11 x17 (x31 z i0)) :: x61 z i0 P)
abbrev x101 := x62 z i0 (x16 p (x11 x17 (x33 z i0)) :: x62 z i0 P)
abbrev x102 := VT.need [x27 x18, x27 x71, x29, p, x29] U
abbrev x103 := VT.need [x28 x18, x28 (x36 (1:Int)), x29, p, x30] U
abbrev x104 := VT.need (((0:Int) ≤ (2:Int) ∧ x18) :: x86 [x30, p, x29]) U
abbrev x105 := VT.need (((0:Int) ≤ (3:Int) ∧ x18) :: x87 [x30, p, x30]) U
abbrev x106 := VT.ite (decide ((i0:Int) < (↑(z.b.N 0) : Int))) U V
abbrev x107 := x55 (x6 (x6 P (x49 z i0)) (x49 z i0)) (x49 z i0)
abbrev x108 := x55 (x6 (x6 P (x51 z i0)) (x51 z i0)) (x51 z i0)
abbrev x109 : List Prop := x29 :: x6 (x6 P (x13 z i0 (0:Nat))) (x13 z i0 (0:Nat))
abbrev x110 : List Prop := x30 :: x6 (x6 P (x12 z i0 (1:Nat))) (x12 z i0 (1:Nat))
abbrev x111 := x76 z i0 (x72 z i0 p (x17 = x25 z i0 x1)) (0:Int)
abbrev x112 := x77 z i0 (x73 z i0 p (x17 = x26 z i0 x1)) (0:Int)
abbrev x113 := VT.done (p :: x37 z (x38 z [True]) (0:Int))
abbrev x114 := x54 (x61 z i0 (x61 z i0 P)) (x11 x17 (x31 z i0))
abbrev x115 := x54 (x62 z i0 (x62 z i0 P)) (x11 x17 (x33 z i0))
abbrev x116 := VT.loop Nat (fun i0 => i0 ≤ z.b.N 0) x1 ((0 = (x1:Int)) :: P) j15a
abbrev x117 : List Prop := p :: x38 z [x59 i0 ≤ z.b.N 0, z.b.N 0 - x59 i0 < z.b.N 0 - i0]
abbrev x118 := x67 (4:Int) (VT.need [i64In ((i0:Int) + 1)] (VT.done (((i0:Int) + 1 = (↑(x59 i0) : Int)) :: P)))
abbrev x119 := VT.done ((a = x35 z x2) :: x37 z (x38 z [True]) (1:Int))
abbrev x120 := x60 (x89 [x27 x18, x74 z i0 (x3 z i0 (0:Int) (0:Int)) [dI 0, dI 0], x75 z (x3 z i0 (0:Int) (0:Int)) (x63 z i0)] U) j13a
abbrev x121 := x67 (1:Int) (x60 (x90 [x28 x18, x74 z i0 (x3 z i0 (0:Int) (1:Int)) [dI 0, dI 1], x75 z (x3 z i0 (0:Int) (1:Int)) (x64 z i0)] U) j13a)
abbrev x122 := x67 (2:Int) (x60 (VT.need (x86 [(0:Int) ≤ (2:Int) ∧ x18, x74 z i0 (x3 z i0 (1:Int) (0:Int)) [dI 1, dI 0], x75 z (x3 z i0 (1:Int) (0:Int)) (x65 z i0)]) U) j13a)
abbrev x123 := x67 (3:Int) (x60 (VT.need (x87 [(0:Int) ≤ (3:Int) ∧ x18, x74 z i0 (x3 z i0 (1:Int) (1:Int)) [dI 1, dI 1], x75 z (x3 z i0 (1:Int) (1:Int)) (x66 z i0)]) U) j13a)
abbrev x124 := x76 z i0 (x72 z i0 (x57 z i0 x1 = x39 z i0) (a = x25 z i0 x2)) (1:Int)
abbrev x125 := x76 z i0 (x72 z i0 (a = x57 z i0 x24) (x25 z i0 x2 = x25 z i0 x24)) (2:Int)
abbrev x126 := x76 z i0 (x72 z i0 (x57 z i0 x24 = x57 z i0 x56) (a = x25 z i0 x56)) (3:Int)
abbrev x127 := x77 z i0 (x73 z i0 (x58 z i0 x1 = x40 z i0) (a = x26 z i0 x2)) (1:Int)
abbrev x128 := x77 z i0 (x73 z i0 (a = x58 z i0 x24) (x26 z i0 x2 = x26 z i0 x24)) (2:Int)
abbrev x129 := x77 z i0 (x73 z i0 (x58 z i0 x24 = x58 z i0 x56) (a = x26 z i0 x56)) (3:Int)
abbrev xt : VT := VT.need [FnC prog 33 [bld z.b] (DV.lst (z.b.N 0) [fun i0 => dI (z.b.X 0 i0), fun i0 => dI (z.b.Y 0 i0)])] (x60 (VT.need [x29] (x116 z (rf x17 :: x37 z ((0 = x0 z x1 x1 (0:Nat)) :: (x17 = x0 z x1 x1 (1:Nat)) :: x38 z []) (0:Int)) (fun i0 => x106 z i0 (x120 z i0 (x89 (x98 z i0 (x6 (x16 (x27 x18) (x31 z i0) :: x6 (x54 (x6 (x6 (x6 (x100 z i0 (x27 x71) (x114 z i0 (x100 z i0 (i64In (x42 z i0 + x63 z i0)) (x16 (x27 x18) (x11 x17 (x31 z i0)) :: x61 z i0 (x114 z i0 (x61 z i0 (x6 (x97 (x31 z i0) (x31 z i0) :: x6 [] (x31 z i0)) (x31 z i0)))))))) (x31 z i0)) (x31 z i0)) (x31 z i0)) (x31 z i0)) (x31 z i0)) (x31 z i0))) (VT.ite (x99 (x42 z i0 + x63 z i0) (x31 z i0)) (x102 (i64In (x42 z i0 + x63 z i0)) (x111 z i0 (x42 z i0 + x63 z i0 = x57 z i0 x1))) (x111 z i0 (x17 = x57 z i0 x1)))) (fun (i1 : PUnit) => x121 z i0 (x90 (x98 z i0 (x78 z i0 (x96 (x78 z i0 (x55 (x78 z i0 (x78 z i0 (x78 z i0 (x6 (x16 (x28 (x36 (1:Int))) (x46 z i0) :: x6 (x54 (x6 (x6 (x6 (x16 (i64In (x42 z i0 + x64 z i0)) (x46 z i0) :: x6 (x96 (x6 (x55 (x6 (x6 (x6 (x78 z i0 (x16 (x68 (x25 z i0 x1) (x46 z i0)) (x32 z i0) :: x78 z i0 [])) (x46 z i0)) (x46 z i0)) (x46 z i0)) (x46 z i0)) (x46 z i0)) (x46 z i0)) (x46 z i0)) (x46 z i0)) (x46 z i0)) (x46 z i0)) (x46 z i0)) (x46 z i0)) (x46 z i0))))) (x32 z i0))) (x32 z i0)))) (VT.ite (x5 (x32 z i0) (x69 (x25 z i0 x1) (decide ((x42 z i0 + x64 z i0) < (x25 z i0 x1))))) (x103 (i64In (x42 z i0 + x64 z i0)) (x124 z i0 (x42 z i0 + x64 z i0))) (x124 z i0 (x25 z i0 x1)))) (fun (i1 : PUnit) => x122 z i0 (VT.need (x86 (x110 z i0 (x82 z i0 (x84 x18 (x93 z i0) :: x82 z i0 (x54 (x82 z i0 (x82 z i0 (x82 z i0 (x6 (x84 (x36 (2:Int)) (x50 z i0) :: x6 (x55 (x6 (x6 (x6 (x16 (i64In (x44 z i0 + x65 z i0)) (x50 z i0) :: x6 (x84 x18 (x50 z i0) :: x6 (x54 (x6 (x6 (x6 (x82 z i0 (x16 (x68 (x39 z i0) (x50 z i0)) (x93 z i0) :: x82 z i0 [])) (x50 z i0)) (x50 z i0)) (x50 z i0)) (x50 z i0)) (x50 z i0)) (x50 z i0)) (x50 z i0)) (x50 z i0)) (x50 z i0)) (x50 z i0)) (x50 z i0)) (x50 z i0))))) (x93 z i0)))))) (VT.ite (x5 (x93 z i0) (x69 (x39 z i0) (decide ((x44 z i0 + x65 z i0) < (x39 z i0))))) (x104 (i64In (x44 z i0 + x65 z i0)) (x125 z i0 (x44 z i0 + x65 z i0))) (x125 z i0 (x39 z i0)))) (fun (i1 : PUnit) => x123 z i0 (VT.need (x87 (x110 z i0 (x83 z i0 (x85 x18 (x94 z i0) :: x83 z i0 (x55 (x83 z i0 (x83 z i0 (x83 z i0 (x6 (x85 (x36 (3:Int)) (x51 z i0) :: x6 (x108 z i0 (x6 (x16 (i64In (x44 z i0 + x66 z i0)) (x51 z i0) :: x6 (x85 x18 (x51 z i0) :: x6 (x108 z i0 (x6 (x83 z i0 (x16 (x68 (x25 z i0 x24) (x51 z i0)) (x94 z i0) :: x83 z i0 [])) (x51 z i0))) (x51 z i0)) (x51 z i0)) (x51 z i0))) (x51 z i0)) (x51 z i0))))) (x94 z i0)))))) (VT.ite (x5 (x94 z i0) (x69 (x25 z i0 x24) (decide ((x44 z i0 + x66 z i0) < (x25 z i0 x24))))) (x105 (i64In (x44 z i0 + x66 z i0)) (x126 z i0 (x44 z i0 + x66 z i0))) (x126 z i0 (x25 z i0 x24)))) (fun (i1 : PUnit) => x118 i0 (rf x17 :: x37 z ((x57 z i0 x56 = x0 z x1 (x59 i0) (0:Nat)) :: x117 z i0 (x25 z i0 x56 = x0 z x1 (x59 i0) (1:Nat))) (0:Int))))))) (VT.need (x98 z i0 (x95 z i0 (x54 (x95 z i0 (x95 z i0 (x95 z i0 (x6 (x97 (x53 z i0) (x53 z i0) :: x6 [] (x53 z i0)) (x53 z i0))))) (x11 x17 (x53 z i0))))) (VT.ite (x19 z i0 (x69 x17 (decide ((x42 z i0) < x17)))) (VT.need [x29] (x113 z (x42 z i0 = x41 z))) (x113 z (x17 = x41 z))))))) (fun (i0 : PUnit) => x67 (1:Int) (x60 (VT.need [x30] (x116 z (rf (x41 z) :: x37 z ((x17 = x0 z x2 x1 (0:Nat)) :: (0 = x0 z x2 x1 (1:Nat)) :: x38 z []) (1:Int)) (fun i0 => x106 z i0 (x120 z i0 (x89 (x109 z i0 (x6 (x16 (x27 x18) (x33 z i0) :: x6 (x54 (x6 (x6 (x6 (x101 z i0 (x27 x71) (x115 z i0 (x101 z i0 (i64In (x45 z i0 + x63 z i0)) (x16 (x27 x18) (x11 x17 (x33 z i0)) :: x62 z i0 (x115 z i0 (x62 z i0 (x6 (x97 (x33 z i0) (x33 z i0) :: x6 [] (x33 z i0)) (x33 z i0)))))))) (x33 z i0)) (x33 z i0)) (x33 z i0)) (x33 z i0)) (x33 z i0)) (x33 z i0))) (VT.ite (x99 (x45 z i0 + x63 z i0) (x33 z i0)) (x102 (i64In (x45 z i0 + x63 z i0)) (x112 z i0 (x45 z i0 + x63 z i0 = x58 z i0 x1))) (x112 z i0 (x17 = x58 z i0 x1)))) (fun (i1 : PUnit) => x121 z i0 (x90 (x109 z i0 (x79 z i0 (x96 (x79 z i0 (x55 (x79 z i0 (x79 z i0 (x79 z i0 (x6 (x16 (x28 (x36 (1:Int))) (x47 z i0) :: x6 (x54 (x6 (x6 (x6 (x16 (i64In (x45 z i0 + x64 z i0)) (x47 z i0) :: x6 (x96 (x6 (x55 (x6 (x6 (x6 (x79 z i0 (x16 (x68 (x26 z i0 x1) (x47 z i0)) (x34 z i0) :: x79 z i0 [])) (x47 z i0)) (x47 z i0)) (x47 z i0)) (x47 z i0)) (x47 z i0)) (x47 z i0)) (x47 z i0)) (x47 z i0)) (x47 z i0)) (x47 z i0)) (x47 z i0)) (x47 z i0)) (x47 z i0))))) (x34 z i0))) (x34 z i0)))) (VT.ite (x5 (x34 z i0) (x69 (x26 z i0 x1) (decide ((x45 z i0 + x64 z i0) < (x26 z i0 x1))))) (x103 (i64In (x45 z i0 + x64 z i0)) (x127 z i0 (x45 z i0 + x64 z i0))) (x127 z i0 (x26 z i0 x1)))) (fun (i1 : PUnit) => x122 z i0 (VT.need (x86 (x30 :: x70 z i0 (x70 z i0 (x80 z i0 (x84 x18 (x91 z i0) :: x80 z i0 (x54 (x80 z i0 (x80 z i0 (x80 z i0 (x6 (x84 (x36 (2:Int)) (x48 z i0) :: x6 (x55 (x6 (x6 (x6 (x16 (i64In (x43 z i0 + x65 z i0)) (x48 z i0) :: x6 (x84 x18 (x48 z i0) :: x6 (x54 (x6 (x6 (x6 (x80 z i0 (x16 (x68 (x40 z i0) (x48 z i0)) (x91 z i0) :: x80 z i0 [])) (x48 z i0)) (x48 z i0)) (x48 z i0)) (x48 z i0)) (x48 z i0)) (x48 z i0)) (x48 z i0)) (x48 z i0)) (x48 z i0)) (x48 z i0)) (x48 z i0)) (x48 z i0))))) (x91 z i0))))))) (VT.ite (x5 (x91 z i0) (x69 (x40 z i0) (decide ((x43 z i0 + x65 z i0) < (x40 z i0))))) (x104 (i64In (x43 z i0 + x65 z i0)) (x128 z i0 (x43 z i0 + x65 z i0))) (x128 z i0 (x40 z i0)))) (fun (i1 : PUnit) => x123 z i0 (VT.need (x87 (x30 :: x70 z i0 (x70 z i0 (x81 z i0 (x85 x18 (x92 z i0) :: x81 z i0 (x55 (x81 z i0 (x81 z i0 (x81 z i0 (x6 (x85 (x36 (3:Int)) (x49 z i0) :: x6 (x107 z i0 (x6 (x16 (i64In (x43 z i0 + x66 z i0)) (x49 z i0) :: x6 (x85 x18 (x49 z i0) :: x6 (x107 z i0 (x6 (x81 z i0 (x16 (x68 (x26 z i0 x24) (x49 z i0)) (x92 z i0) :: x81 z i0 [])) (x49 z i0))) (x49 z i0)) (x49 z i0)) (x49 z i0))) (x49 z i0)) (x49 z i0))))) (x92 z i0))))))) (VT.ite (x5 (x92 z i0) (x69 (x26 z i0 x24) (decide ((x43 z i0 + x66 z i0) < (x26 z i0 x24))))) (x105 (i64In (x43 z i0 + x66 z i0)) (x129 z i0 (x43 z i0 + x66 z i0))) (x129 z i0 (x26 z i0 x24)))) (fun (i1 : PUnit) => x118 i0 (rf (x41 z) :: x37 z ((x58 z i0 x56 = x0 z x2 (x59 i0) (0:Nat)) :: x117 z i0 (x26 z i0 x56 = x0 z x2 (x59 i0) (1:Nat))) (1:Int))))))) (VT.need (x30 :: x70 z i0 (x70 z i0 (x6 (x55 (x6 (x6 (x6 (x70 z i0 (x16 (x68 (x41 z) (x88 z i0)) (x13 z i0 (1:Nat)) :: x70 z i0 [])) (x88 z i0)) (x88 z i0)) (x88 z i0)) (x88 z i0)) (x88 z i0)))) (VT.ite (x20 z i0 (x69 (x41 z) (decide ((x43 z i0) < (x41 z))))) (VT.need [x30] (x119 z (x43 z i0))) (x119 z (x41 z))))))) (fun (i0 : PUnit) => x67 (2:Int) (VT.done [x35 z x2 = x35 z (1:Nat)])))))
end
end w4g
open w4g in
theorem bestR_c (b : Bld) (nB : Nat) (B : Nat → Int) (nO : Nat) (O : Nat → Int) (W G L : Int) (h0 : arE b nB B nO O W G L = 0) (hl : ∀ i, i < b.N 0 → ruL (b.N 0) (b.X 0) (b.Y 0) G W (i : Nat) 1 0 ≤ 4000 * (uRI nB B nO O)) : FnC prog 19 [bld b, Lay.sys nB B nO O W G L] (dI (mnS (dX b nB B nO O W G 0 (b.N 0) 0) (dX b nB B nO O W G 1 (b.N 0) 1) 1)) := by
  refine FnC_owed hmix (A19_bestR_c b nB B nO O W G L) (V := xt ⟨b, nB, B, nO, O, W, G, L⟩) (by kernel_rfl) ?_
  simp only [xt, x0, x1, x2, x3, x4, x5, x6, x7, x8, x9, x10, x11, x12, x13, x14, x15, x16, x17, x18, x19, x20, x21, x22, x23, x24, x25, x26, x27, x28, x29, x30, x31, x32, x33, x34, x35, x36, x37, x38, x39, x40, x41, x42, x43, x44, x45, x46, x47, x48, x49, x50, x51, x52, x53, x54, x55, x56, x57, x58, x59, x60, x61, x62, x63, x64, x65, x66, x67, x68, x69, x70, x71, x72, x73, x74, x75, x76, x77, x78, x79, x80, x81, x82, x83, x84, x85, x86, x87, x88, x89, x90, x91, x92, x93, x94, x95, x96, x97, x98, x99, x100, x101, x102, x103, x104, x105, x106, x107, x108, x109, x110, x111, x112, x113, x114, x115, x116, x117, x118, x119, x120, x121, x122, x123, x124, x125, x126, x127, x128, x129, Rf, VT.holds, AllT, Sq, Int.reduceToNat, Int.toNat_one]
  obtain ⟨hc, hs, _, _, _, _, _⟩ := ar_zero h0
  obtain ⟨b1, b2, b3, b4, b5⟩ := b0_ok hc
  have hn4 := chk_n b2
  have g1 := (sys_wgl hs).1
  refine ⟨first_c b b1, ⟨by omega, ⟨rfl, rfl, rfl⟩, Nat.zero_le _, fun i hi => ⟨fun hlt => ?_, fun hge => ?_⟩⟩, fun _ _ => ⟨by unfold i64In; omega, ⟨by omega, ⟨rfl, rfl, rfl⟩, Nat.zero_le _, fun i hi => ⟨fun hlt => ?_, fun hge => ?_⟩⟩, ?_⟩⟩
  · skip
    have hl0 : FnC prog 36 [bld b, Lay.sys nB B nO O W G L, dI (i : Int), dI 0, dI 0] (dI (rlC b G W i 0 0)) := runLenR_c b nB B nO O W G L i 0 0 b1 b2 g1 (by omega) (by omega) (by omega)
    have hr0 := rl_le h0 hl (show i < b.N 0 by omega) (a := 0) (e := 0) (by omega) (by omega)
    have he0 : FnC prog 56 [Lay.sys nB B nO O W G L, dI (rlC b G W i 0 0)] (dI (cdR nB B nO O (rlC b G W i 0 0))) := least_c nB B nO O W G L _ hs hr0.1 hr0.2
    have hk0 := cd_bd hs hr0.1
    have hl1 : FnC prog 36 [bld b, Lay.sys nB B nO O W G L, dI (i : Int), dI 0, dI 1] (dI (rlC b G W i 0 1)) := runLenR_c b nB B nO O W G L i 0 1 b1 b2 g1 (by omega) (by omega) (by omega)
    have hr1 := rl_le h0 hl (show i < b.N 0 by omega) (a := 0) (e := 1) (by omega) (by omega)
    have he1 : FnC prog 56 [Lay.sys nB B nO O W G L, dI (rlC b G W i 0 1)] (dI (cdR nB B nO O (rlC b G W i 0 1))) := least_c nB B nO O W G L _ hs hr1.1 hr1.2
    have hk1 := cd_bd hs hr1.1
    have hl2 : FnC prog 36 [bld b, Lay.sys nB B nO O W G L, dI (i : Int), dI 1, dI 0] (dI (rlC b G W i 1 0)) := runLenR_c b nB B nO O W G L i 1 0 b1 b2 g1 (by omega) (by omega) (by omega)
    have hr2 := rl_le h0 hl (show i < b.N 0 by omega) (a := 1) (e := 0) (by omega) (by omega)
    have he2 : FnC prog 56 [Lay.sys nB B nO O W G L, dI (rlC b G W i 1 0)] (dI (cdR nB B nO O (rlC b G W i 1 0))) := least_c nB B nO O W G L _ hs hr2.1 hr2.2
    have hk2 := cd_bd hs hr2.1
    have hl3 : FnC prog 36 [bld b, Lay.sys nB B nO O W G L, dI (i : Int), dI 1, dI 1] (dI (rlC b G W i 1 1)) := runLenR_c b nB B nO O W G L i 1 1 b1 b2 g1 (by omega) (by omega) (by omega)
    have hr3 := rl_le h0 hl (show i < b.N 0 by omega) (a := 1) (e := 1) (by omega) (by omega)
    have he3 : FnC prog 56 [Lay.sys nB B nO O W G L, dI (rlC b G W i 1 1)] (dI (cdR nB B nO O (rlC b G W i 1 1))) := least_c nB B nO O W G L _ hs hr3.1 hr3.2
    have hk3 := cd_bd hs hr3.1
    have d0 := dX_bd h0 hl 0 i 0 hi
    have d1 := dX_bd h0 hl 0 i 1 hi
    exact ⟨⟨⟨by omega, by omega, hl0, he0⟩, ⟨by omega, by omega, fun _ => by omega, fun _ => by omega, fun _ => by omega, fun _ => by omega, fun _ => (by unfold i64In; omega), fun _ => by omega, fun _ => by omega, fun h1 h2 => ⟨h1, h2⟩⟩, fun h => ⟨⟨by omega, by omega, by omega, (by unfold i64In; omega), by omega⟩, z_yes (f := 0) (c := 0) (e := 0) rfl rfl rfl h, z_no (f := 0) (c := 0) (e := 1) (by decide)⟩, fun h => ⟨z_not (f := 0) (c := 0) (e := 0) rfl rfl h, z_no (f := 0) (c := 0) (e := 1) (by decide)⟩⟩, fun _ _ => ⟨(by unfold i64In; omega), ⟨⟨⟨by omega, by omega, hl1, he1⟩, ⟨by omega, by omega, fun _ => by omega, fun _ => by omega, fun _ => by omega, fun _ => by omega, fun _ => (by unfold i64In; omega), fun _ => by omega, fun _ => by omega, fun h1 h2 => ⟨h1, h2⟩⟩, fun h => ⟨⟨by omega, by omega, by omega, (by unfold i64In; omega), by omega⟩, z_no (f := 0) (c := 1) (e := 0) (by decide), z_yes (f := 0) (c := 1) (e := 1) rfl rfl rfl h⟩, fun h => ⟨z_no (f := 0) (c := 1) (e := 0) (by decide), z_not (f := 0) (c := 1) (e := 1) rfl rfl h⟩⟩, fun _ _ => ⟨(by unfold i64In; omega), ⟨⟨⟨by omega, by omega, hl2, he2⟩, ⟨by omega, by omega, fun _ => by omega, fun _ => by omega, fun _ => by omega, fun _ => by omega, fun _ => (by unfold i64In; omega), fun _ => by omega, fun _ => by omega, fun h1 h2 => ⟨h1, h2⟩⟩, fun h => ⟨⟨by omega, by omega, by omega, (by unfold i64In; omega), by omega⟩, z_yes (f := 0) (c := 2) (e := 0) rfl rfl rfl h, z_no (f := 0) (c := 2) (e := 1) (by decide)⟩, fun h => ⟨z_not (f := 0) (c := 2) (e := 0) rfl rfl h, z_no (f := 0) (c := 2) (e := 1) (by decide)⟩⟩, fun _ _ => ⟨(by unfold i64In; omega), ⟨⟨⟨by omega, by omega, hl3, he3⟩, ⟨by omega, by omega, fun _ => by omega, fun _ => by omega, fun _ => by omega, fun _ => by omega, fun _ => (by unfold i64In; omega), fun _ => by omega, fun _ => by omega, fun h1 h2 => ⟨h1, h2⟩⟩, fun h => ⟨⟨by omega, by omega, by omega, (by unfold i64In; omega), by omega⟩, z_no (f := 0) (c := 3) (e := 0) (by decide), z_yes (f := 0) (c := 3) (e := 1) rfl rfl rfl h⟩, fun h => ⟨z_no (f := 0) (c := 3) (e := 0) (by decide), z_not (f := 0) (c := 3) (e := 1) rfl rfl h⟩⟩, fun _ _ => ⟨(by unfold i64In; omega), by unfold i64In; omega, rfl, rfl, rfl, by omega, by omega⟩⟩⟩⟩⟩⟩⟩⟩
  · obtain rfl : i = b.N 0 := by omega
    refine ⟨⟨by omega, fun _ => by omega, fun h1 h2 => ⟨h1, h2⟩⟩, fun h => ⟨by omega, ?_⟩, fun h => ?_⟩
    · rw [mnS, if_pos (by omega)]
    · rw [mnS, if_neg (by omega)]
  · skip
    have hl0 : FnC prog 36 [bld b, Lay.sys nB B nO O W G L, dI (i : Int), dI 0, dI 0] (dI (rlC b G W i 0 0)) := runLenR_c b nB B nO O W G L i 0 0 b1 b2 g1 (by omega) (by omega) (by omega)
    have hr0 := rl_le h0 hl (show i < b.N 0 by omega) (a := 0) (e := 0) (by omega) (by omega)
    have he0 : FnC prog 56 [Lay.sys nB B nO O W G L, dI (rlC b G W i 0 0)] (dI (cdR nB B nO O (rlC b G W i 0 0))) := least_c nB B nO O W G L _ hs hr0.1 hr0.2
    have hk0 := cd_bd hs hr0.1
    have hl1 : FnC prog 36 [bld b, Lay.sys nB B nO O W G L, dI (i : Int), dI 0, dI 1] (dI (rlC b G W i 0 1)) := runLenR_c b nB B nO O W G L i 0 1 b1 b2 g1 (by omega) (by omega) (by omega)
    have hr1 := rl_le h0 hl (show i < b.N 0 by omega) (a := 0) (e := 1) (by omega) (by omega)
    have he1 : FnC prog 56 [Lay.sys nB B nO O W G L, dI (rlC b G W i 0 1)] (dI (cdR nB B nO O (rlC b G W i 0 1))) := least_c nB B nO O W G L _ hs hr1.1 hr1.2
    have hk1 := cd_bd hs hr1.1
    have hl2 : FnC prog 36 [bld b, Lay.sys nB B nO O W G L, dI (i : Int), dI 1, dI 0] (dI (rlC b G W i 1 0)) := runLenR_c b nB B nO O W G L i 1 0 b1 b2 g1 (by omega) (by omega) (by omega)
    have hr2 := rl_le h0 hl (show i < b.N 0 by omega) (a := 1) (e := 0) (by omega) (by omega)
    have he2 : FnC prog 56 [Lay.sys nB B nO O W G L, dI (rlC b G W i 1 0)] (dI (cdR nB B nO O (rlC b G W i 1 0))) := least_c nB B nO O W G L _ hs hr2.1 hr2.2
    have hk2 := cd_bd hs hr2.1
    have hl3 : FnC prog 36 [bld b, Lay.sys nB B nO O W G L, dI (i : Int), dI 1, dI 1] (dI (rlC b G W i 1 1)) := runLenR_c b nB B nO O W G L i 1 1 b1 b2 g1 (by omega) (by omega) (by omega)
    have hr3 := rl_le h0 hl (show i < b.N 0 by omega) (a := 1) (e := 1) (by omega) (by omega)
    have he3 : FnC prog 56 [Lay.sys nB B nO O W G L, dI (rlC b G W i 1 1)] (dI (cdR nB B nO O (rlC b G W i 1 1))) := least_c nB B nO O W G L _ hs hr3.1 hr3.2
    have hk3 := cd_bd hs hr3.1
    have d0 := dX_bd h0 hl 1 i 0 hi
    have d1 := dX_bd h0 hl 1 i 1 hi
    exact ⟨⟨⟨by omega, by omega, hl0, he0⟩, ⟨by omega, by omega, fun _ => by omega, fun _ => by omega, fun _ => by omega, fun _ => by omega, fun _ => (by unfold i64In; omega), fun _ => by omega, fun _ => by omega, fun h1 h2 => ⟨h1, h2⟩⟩, fun h => ⟨⟨by omega, by omega, by omega, (by unfold i64In; omega), by omega⟩, z_yes (f := 1) (c := 0) (e := 0) rfl rfl rfl h, z_no (f := 1) (c := 0) (e := 1) (by decide)⟩, fun h => ⟨z_not (f := 1) (c := 0) (e := 0) rfl rfl h, z_no (f := 1) (c := 0) (e := 1) (by decide)⟩⟩, fun _ _ => ⟨(by unfold i64In; omega), ⟨⟨⟨by omega, by omega, hl1, he1⟩, ⟨by omega, by omega, fun _ => by omega, fun _ => by omega, fun _ => by omega, fun _ => by omega, fun _ => (by unfold i64In; omega), fun _ => by omega, fun _ => by omega, fun h1 h2 => ⟨h1, h2⟩⟩, fun h => ⟨⟨by omega, by omega, by omega, (by unfold i64In; omega), by omega⟩, z_no (f := 1) (c := 1) (e := 0) (by decide), z_yes (f := 1) (c := 1) (e := 1) rfl rfl rfl h⟩, fun h => ⟨z_no (f := 1) (c := 1) (e := 0) (by decide), z_not (f := 1) (c := 1) (e := 1) rfl rfl h⟩⟩, fun _ _ => ⟨(by unfold i64In; omega), ⟨⟨⟨by omega, by omega, hl2, he2⟩, ⟨by omega, by omega, fun _ => by omega, fun _ => by omega, fun _ => by omega, fun _ => by omega, fun _ => (by unfold i64In; omega), fun _ => by omega, fun _ => by omega, fun h1 h2 => ⟨h1, h2⟩⟩, fun h => ⟨⟨by omega, by omega, by omega, (by unfold i64In; omega), by omega⟩, z_yes (f := 1) (c := 2) (e := 0) rfl rfl rfl h, z_no (f := 1) (c := 2) (e := 1) (by decide)⟩, fun h => ⟨z_not (f := 1) (c := 2) (e := 0) rfl rfl h, z_no (f := 1) (c := 2) (e := 1) (by decide)⟩⟩, fun _ _ => ⟨(by unfold i64In; omega), ⟨⟨⟨by omega, by omega, hl3, he3⟩, ⟨by omega, by omega, fun _ => by omega, fun _ => by omega, fun _ => by omega, fun _ => by omega, fun _ => (by unfold i64In; omega), fun _ => by omega, fun _ => by omega, fun h1 h2 => ⟨h1, h2⟩⟩, fun h => ⟨⟨by omega, by omega, by omega, (by unfold i64In; omega), by omega⟩, z_no (f := 1) (c := 3) (e := 0) (by decide), z_yes (f := 1) (c := 3) (e := 1) rfl rfl rfl h⟩, fun h => ⟨z_no (f := 1) (c := 3) (e := 0) (by decide), z_not (f := 1) (c := 3) (e := 1) rfl rfl h⟩⟩, fun _ _ => ⟨(by unfold i64In; omega), by unfold i64In; omega, rfl, rfl, rfl, by omega, by omega⟩⟩⟩⟩⟩⟩⟩⟩
  · obtain rfl : i = b.N 0 := by omega
    have e1 : mnS (dX b nB B nO O W G 0 (b.N 0) 0) (dX b nB B nO O W G 1 (b.N 0) 1) 1 = if 0 ≤ dX b nB B nO O W G 1 (b.N 0) 1 ∧ (mnS (dX b nB B nO O W G 0 (b.N 0) 0) (dX b nB B nO O W G 1 (b.N 0) 1) 0 < 0 ∨ dX b nB B nO O W G 1 (b.N 0) 1 < mnS (dX b nB B nO O W G 0 (b.N 0) 0) (dX b nB B nO O W G 1 (b.N 0) 1) 0) then dX b nB B nO O W G 1 (b.N 0) 1 else mnS (dX b nB B nO O W G 0 (b.N 0) 0) (dX b nB B nO O W G 1 (b.N 0) 1) 0 := rfl
    rw [e1]
    generalize mnS (dX b nB B nO O W G 0 (b.N 0) 0) (dX b nB B nO O W G 1 (b.N 0) 1) 0 = m
    generalize dX b nB B nO O W G 1 (b.N 0) 1 = y
    refine ⟨⟨by omega, fun _ => by omega, fun h1 h2 => ⟨h1, h2⟩⟩, fun h => ⟨by omega, ?_⟩, fun h => ?_⟩
    · rw [if_pos ⟨h.1, h.2⟩]
    · rw [if_neg (fun hx => by have := h hx.1; omega)]
  · intro _ _
    unfold i64In; omega
end Go.Abs
