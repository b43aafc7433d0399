/- Contracts. Contracts. -/
import Derived.Test.YteennpofimiliaaGreatDoorK64
import Derived.Test.YteennpofimiliaaGreatDoorL22
section
set_option linter.unusedVariables false
set_option linter.unusedSimpArgs false
set_option maxRecDepth 100000
namespace Go.Abs
open Go
/-- Whence the costs of a ring come; the choices on the best way; the best layout and its proof. -/
def dF (b : Bld) (nB : Nat) (B : Nat → Int) (nO : Nat) (O : Nat → Int) (W G : Int) (f i e : Nat) : Int := dpF (kR b nB B nO O W G) f i e
def dW (b : Bld) (nB : Nat) (B : Nat → Int) (nO : Nat) (O : Nat → Int) (W G : Int) (f i c e : Nat) : Int := dpL (kR b nB B nO O W G i) (dX b nB B nO O W G f i 0) (dX b nB B nO O W G f i 1) c e
def pth (b : Bld) (nB : Nat) (B : Nat → Int) (nO : Nat) (O : Nat → Int) (W G : Int) (f : Nat) : Nat → Int
  | 0 => (f : Int)
  | k + 1 => [dF b nB B nO O W G f (b.N 0 - k) 0, dF b nB B nO O W G f (b.N 0 - k) 1].getD (pth b nB B nO O W G f k).toNat 0
def bsF (x y : Int) : Int := if 0 ≤ x then (if 0 ≤ y ∧ y < x then 1 else 0) else if 0 ≤ y then 1 else -1
def bstI (b : Bld) (nB : Nat) (B : Nat → Int) (nO : Nat) (O : Nat → Int) (W G : Int) : Int := bsF (dX b nB B nO O W G 0 (b.N 0) 0) (dX b nB B nO O W G 1 (b.N 0) 1)
def tbN (b : Bld) (nB : Nat) (B : Nat → Int) (nO : Nat) (O : Nat → Int) (W G L : Int) : Nat := mgN (lonG (b.N 0) (b.X 0) (b.Y 0) G W (4 * b.N 0)) (bkdU nB B nO O W G L)
abbrev tbD (b : Bld) (nB : Nat) (B : Nat → Int) (nO : Nat) (O : Nat → Int) (W G L : Int) : DV := .lst (tbN b nB B nO O W G L) [fun k => dI (tabC nB B nO O W G L k)]
abbrev nilD : DV := .val (.slice none 0 0)
def bx9 (T : DV) (n nx i : Nat) : Nat → List DV
  | 0 => [T, .row 2 (nx + 50) 0 (i + 1), nilD]
  | _ + 1 => [T, .row 2 (nx + 50) 0 (n + 1), .row 2 (nx + 51) 0 (i + 1)]
def bx10 (n nx i : Nat) : Nat → List DV
  | 0 => [.row 2 (nx + 51) 0 (i + 1), nilD]
  | _ + 1 => [.row 2 (nx + 52) 0 (n + 1), .row 2 (nx + 53) 0 (i + 1)]
abbrev cX (b : Bld) (nB : Nat) (B : Nat → Int) (nO : Nat) (O : Nat → Int) (W G : Int) (f : Nat) : List (Nat → DV) := [fun j => dI (dX b nB B nO O W G f j 0), fun j => dI (dX b nB B nO O W G f j 1)]
abbrev cF (b : Bld) (nB : Nat) (B : Nat → Int) (nO : Nat) (O : Nat → Int) (W G : Int) (f : Nat) : List (Nat → DV) := [fun j => dI (dF b nB B nO O W G f j 0), fun j => dI (dF b nB B nO O W G f j 1)]
def rbB (b : Bld) (nB : Nat) (B : Nat → Int) (nO : Nat) (O : Nat → Int) (W G : Int) (i : Nat) : Nat → List (Nat × Nat × Nat × Nat × List (Nat → DV))
  | 0 => [(9, 1, 2, i + 1, cX b nB B nO O W G 0), (10, 0, 2, i + 1, cF b nB B nO O W G 0)]
  | _ + 1 => [(9, 1, 2, b.N 0 + 1, cX b nB B nO O W G 0), (9, 2, 2, i + 1, cX b nB B nO O W G 1), (10, 0, 2, b.N 0 + 1, cF b nB B nO O W G 0), (10, 1, 2, i + 1, cF b nB B nO O W G 1)]
/-- The corners of the best layout. -/
def bC (b : Bld) (nB : Nat) (B : Nat → Int) (nO : Nat) (O : Nat → Int) (W G : Int) (f j : Nat) : Int := pth b nB B nO O W G f (b.N 0 - j)
def bL (b : Bld) (nB : Nat) (B : Nat → Int) (nO : Nat) (O : Nat → Int) (W G : Int) (f j : Nat) : Int := rlC b G W j (bC b nB B nO O W G f j) (bC b nB B nO O W G f (((j : Int) + 1) % (b.N 0 : Int)).toNat)
def cl (nB : Nat) (B : Nat → Int) (nO : Nat) (O : Nat → Int) (W G L len : Int) (s : Bool) : List Int := Lay.closL (Lay.catU nB B nO O W G L) (Lay.catN nB B nO O W G L) (Lay.pLen nB B nO O) (Lay.pCode nB) (tabC nB B nO O W G L) (fun i => decide (nB ≤ i)) s len
def okL (nB : Nat) (B : Nat → Int) (nO : Nat) (O : Nat → Int) (W G L len : Int) : Bool := Lay.okC (Lay.catU nB B nO O W G L) (tabC nB B nO O W G L) len
abbrev runB (b : Bld) (nB : Nat) (B : Nat → Int) (nO : Nat) (O : Nat → Int) (W G L : Int) (f : Nat) : List (Nat → DV) := [fun j => dI (j : Int), fun j => dI (ruX b G W j (bC b nB B nO O W G f j)), fun j => dI (ruY b G W j (bC b nB B nO O W G f j)), fun j => dI (bL b nB B nO O W G f j), fun j => Lay.lstD (cl nB B nO O W G L (bL b nB B nO O W G f j) false), fun j => Lay.lstD (cl nB B nO O W G L (bL b nB B nO O W G f j) true)]
def bE (b : Bld) (nB : Nat) (B : Nat → Int) (nO : Nat) (O : Nat → Int) (W G : Int) : Int := if bstI b nB B nO O W G < 0 then 13 else 0
def bN (b : Bld) (nB : Nat) (B : Nat → Int) (nO : Nat) (O : Nat → Int) (W G : Int) : Nat := if bstI b nB B nO O W G < 0 then 0 else b.N 0
def bLy (b : Bld) (nB : Nat) (B : Nat → Int) (nO : Nat) (O : Nat → Int) (W G L : Int) (f : Nat) : Lyt := ⟨bN b nB B nO O W G, bC b nB B nO O W G f, bN b nB B nO O W G, fun j => j, fun j => ruX b G W j (bC b nB B nO O W G f j), fun j => ruY b G W j (bC b nB B nO O W G f j), bL b nB B nO O W G f, fun j => (cl nB B nO O W G L (bL b nB B nO O W G f j) false).length, fun j k => (cl nB B nO O W G L (bL b nB B nO O W G f j) false).getD k 0, fun j => (cl nB B nO O W G L (bL b nB B nO O W G f j) true).length, fun j k => (cl nB B nO O W G L (bL b nB B nO O W G f j) true).getD k 0⟩
def bPr (b : Bld) (nB : Nat) (B : Nat → Int) (nO : Nat) (O : Nat → Int) (W G L : Int) : Prf := ⟨if bstI b nB B nO O W G < 0 then 0 else tbN b nB B nO O W G L, tabC nB B nO O W G L, if bstI b nB B nO O W G < 0 then 0 else b.N 0 + 1, fun j => dX b nB B nO O W G 0 j 0, fun j => dX b nB B nO O W G 0 j 1, if bstI b nB B nO O W G < 0 then 0 else b.N 0 + 1, fun j => dX b nB B nO O W G 1 j 0, fun j => dX b nB B nO O W G 1 j 1⟩
section
variable {b : Bld} {nB : Nat} {B : Nat → Int} {nO : Nat} {O : Nat → Int} {W G L : Int} {f i c e : Nat} {x k : Int}
theorem w_no (h : c % 2 ≠ e) : dW b nB B nO O W G f i c e = dW b nB B nO O W G f i (c + 1) e := by
  unfold dW
  rw [dpL, if_neg]
  rw [dpC, decide_eq_true_eq]
  exact fun hx => h hx.1
theorem w_yes (hx : pr (dX b nB B nO O W G f i 0) (dX b nB B nO O W G f i 1) (c / 2) = x) (hk : kR b nB B nO O W G i c = k) (h1 : c % 2 = e) (h2 : (x ≥ 0 ∧ k ≥ 0) ∧ (dZ b nB B nO O W G f i c e < 0 ∨ x + k < dZ b nB B nO O W G f i c e)) : ((c / 2 : Nat) : Int) = dW b nB B nO O W G f i (c + 1) e := by
  unfold dZ at h2
  unfold dW
  rw [dpL, if_pos]
  rw [dpC, decide_eq_true_eq, hx, hk]
  exact ⟨h1, h2.1.1, h2.1.2, h2.2⟩
theorem w_not (hx : pr (dX b nB B nO O W G f i 0) (dX b nB B nO O W G f i 1) (c / 2) = x) (hk : kR b nB B nO O W G i c = k) (h2 : x ≥ 0 ∧ k ≥ 0 → ¬ dZ b nB B nO O W G f i c e < 0 ∧ ¬ x + k < dZ b nB B nO O W G f i c e) : dW b nB B nO O W G f i c e = dW b nB B nO O W G f i (c + 1) e := by
  unfold dZ at h2
  unfold dW
  rw [dpL, if_neg]
  rw [dpC, decide_eq_true_eq, hx, hk]
  exact fun h => by
    have := h2 ⟨h.2.1, h.2.2.1⟩
    have := h.2.2.2
    omega
/-- The best way: each choice is 0 or 1, each facade on it can be closed, and its costs add up. -/
theorem pth_ok (hf : f ≤ 1) (hx : 0 ≤ dX b nB B nO O W G f (b.N 0) f) : ∀ k, k ≤ b.N 0 → (pth b nB B nO O W G f k = 0 ∨ pth b nB B nO O W G f k = 1) ∧ 0 ≤ dX b nB B nO O W G f (b.N 0 - k) (pth b nB B nO O W G f k).toNat ∧
    (k < b.N 0 → (pth b nB B nO O W G f (k + 1) = 0 ∨ pth b nB B nO O W G f (k + 1) = 1) ∧ 0 ≤ kR b nB B nO O W G (b.N 0 - k - 1) (2 * (pth b nB B nO O W G f (k + 1)).toNat + (pth b nB B nO O W G f k).toNat) ∧ dX b nB B nO O W G f (b.N 0 - k) (pth b nB B nO O W G f k).toNat = dX b nB B nO O W G f (b.N 0 - k - 1) (pth b nB B nO O W G f (k + 1)).toNat + kR b nB B nO O W G (b.N 0 - k - 1) (2 * (pth b nB B nO O W G f (k + 1)).toNat + (pth b nB B nO O W G f k).toNat) ∧ 0 ≤ dX b nB B nO O W G f (b.N 0 - k - 1) (pth b nB B nO O W G f (k + 1)).toNat) := by
  have step : ∀ k, k < b.N 0 → (pth b nB B nO O W G f k = 0 ∨ pth b nB B nO O W G f k = 1) → 0 ≤ dX b nB B nO O W G f (b.N 0 - k) (pth b nB B nO O W G f k).toNat → (pth b nB B nO O W G f (k + 1) = 0 ∨ pth b nB B nO O W G f (k + 1) = 1) ∧ 0 ≤ kR b nB B nO O W G (b.N 0 - k - 1) (2 * (pth b nB B nO O W G f (k + 1)).toNat + (pth b nB B nO O W G f k).toNat) ∧ dX b nB B nO O W G f (b.N 0 - k) (pth b nB B nO O W G f k).toNat = dX b nB B nO O W G f (b.N 0 - k - 1) (pth b nB B nO O W G f (k + 1)).toNat + kR b nB B nO O W G (b.N 0 - k - 1) (2 * (pth b nB B nO O W G f (k + 1)).toNat + (pth b nB B nO O W G f k).toNat) ∧ 0 ≤ dX b nB B nO O W G f (b.N 0 - k - 1) (pth b nB B nO O W G f (k + 1)).toNat := fun k hk hc hd => by
    obtain ⟨m, hm⟩ : ∃ m, b.N 0 - k = m + 1 := ⟨b.N 0 - k - 1, by omega⟩
    rw [hm] at hd ⊢
    rw [show m + 1 - 1 = m by omega]
    have hp : pth b nB B nO O W G f (k + 1) = dF b nB B nO O W G f (m + 1) (pth b nB B nO O W G f k).toNat := by
      rw [pth, hm]
      rcases hc with h | h <;> rw [h] <;> rfl
    rw [hp]
    have hd' : 0 ≤ dpN (kR b nB B nO O W G m) (dX b nB B nO O W G f m 0) (dX b nB B nO O W G f m 1) 4 (pth b nB B nO O W G f k).toNat := hd
    obtain ⟨i1, i2, i3, i4⟩ := dpN_is 4 _ (by omega) (Nat.le_refl _) hd'
    have e1 : dF b nB B nO O W G f (m + 1) (pth b nB B nO O W G f k).toNat = dpL (kR b nB B nO O W G m) (dX b nB B nO O W G f m 0) (dX b nB B nO O W G f m 1) 4 (pth b nB B nO O W G f k).toNat := rfl
    rw [e1]
    generalize dpL (kR b nB B nO O W G m) (dX b nB B nO O W G f m 0) (dX b nB B nO O W G f m 1) 4 (pth b nB B nO O W G f k).toNat = q at *
    have e2 : pr (dX b nB B nO O W G f m 0) (dX b nB B nO O W G f m 1) q.toNat = dX b nB B nO O W G f m q.toNat := by rcases i1 with h | h <;> rw [h] <;> rfl
    rw [e2] at i2 i4
    exact ⟨i1, i3, i4, i2⟩
  intro k
  induction k with
  | zero =>
    intro _
    have e0 : pth b nB B nO O W G f 0 = (f : Int) := rfl
    have h0 : (pth b nB B nO O W G f 0 = 0 ∨ pth b nB B nO O W G f 0 = 1) := by rw [e0]; omega
    have h1 : 0 ≤ dX b nB B nO O W G f (b.N 0 - 0) (pth b nB B nO O W G f 0).toNat := by rw [e0]; exact hx
    exact ⟨h0, h1, fun hk => step 0 hk h0 h1⟩
  | succ k ih =>
    intro hk
    obtain ⟨h0, h1, h2⟩ := ih (by omega)
    obtain ⟨j1, j2, j3, j4⟩ := h2 (by omega)
    have j4' : 0 ≤ dX b nB B nO O W G f (b.N 0 - (k + 1)) (pth b nB B nO O W G f (k + 1)).toNat := by rw [show b.N 0 - (k + 1) = b.N 0 - k - 1 by omega]; exact j4
    exact ⟨j1, j4', fun hk2 => step (k + 1) hk2 j1 j4'⟩
end
end Go.Abs
end
section
set_option linter.unusedVariables false
set_option linter.unusedSimpArgs false
set_option maxRecDepth 100000
namespace Go.Abs
open Go
theorem row_up {p : Nat → Int} {i : Nat} {v : Int} (hv : v = p (i + 1)) : ∀ j, j < i + 1 + 1 → (if j < i + 1 then p j else v) = p j := fun j hj => by
  split
  · rfl
  · rw [show j = i + 1 by omega]; exact hv
theorem tab_sm (nB : Nat) (B : Nat → Int) (nO : Nat) (O : Nat → Int) (W G L : Int) (k : Nat) : tabC nB B nO O W G L k = Lay.tabRS nB B nO O k := by
  unfold tabC Lay.tabRS
  have h := Lay.table_eq (Lay.unitP nB B nO O (nB + nO)) nB B nO O k
  rw [Lay.unit_eq] at h ⊢
  exact h
theorem code_b (b : Bld) (nB : Nat) (B : Nat → Int) (nO : Nat) (O : Nat → Int) (W G L : Int) (i a e : Nat) (h0 : arE b nB B nO O W G L = 0) (hm : mgE (lonG (b.N 0) (b.X 0) (b.Y 0) G W (4 * b.N 0)) (bkdU nB B nO O W G L) = 0) (hi : i < b.N 0) (ha : a ≤ 1) (he : e ≤ 1) :
    FnC prog 51 [ringD b nB B nO O W G L, tbD b nB B nO O W G L, dI (i : Int), dI (a : Int), dI (e : Int)] (dI (cdR nB B nO O (rlC b G W i a e))) := by
  obtain ⟨hc, hs, _, _, _, _, _⟩ := ar_zero h0
  obtain ⟨b1, b2, b3, b4, b5⟩ := b0_ok hc
  have hn4 := chk_n b2
  obtain ⟨hX, hY⟩ := chk_inB b2
  have g1 := (sys_wgl hs).1
  obtain ⟨ue, u1, u2⟩ := u_bd hs
  have hl := lonG_at (n := b.N 0) (X := b.X 0) (Y := b.Y 0) (G := G) (W := W) hi (c := 2 * a + e) (by omega)
  rw [show (2 * a + e) / 2 = a by omega, show (2 * a + e) % 2 = e by omega] at hl
  have hlb := lonG_bd (n := b.N 0) (X := b.X 0) (Y := b.Y 0) (by omega) hX hY g1 (4 * b.N 0)
  have hub : bkdU nB B nO O W G L = uRI nB B nO O := ue
  have hN : ruL (b.N 0) (b.X 0) (b.Y 0) G W (i : Int) (a : Int) (e : Int) / (Lay.catU nB B nO O W G L : Int) < (tbN b nB B nO O W G L : Nat) := by
    rw [tbN, mgN, if_pos hm, hub, ue]
    have h1 := Int.ediv_le_ediv (show 0 < uRI nB B nO O by omega) hl
    have h2 : 0 ≤ lonG (b.N 0) (b.X 0) (b.Y 0) G W (4 * b.N 0) / uRI nB B nO O := Int.ediv_nonneg hlb.1 (by omega)
    omega
  have h := code_c (.val (.string b.name)) (.lst b.nS (stoC b)) b.roof (.lst b.nO (opeC b)) (.lst b.nB (boxC b)) (Lay.nums nB B) (Lay.nums nO O) W G L (Lay.catU nB B nO O W G L) (.lst (Lay.catN nB B nO O W G L) (Lay.part3 (Lay.pLen nB B nO O) (Lay.pCode nB) (fun i => decide (nB ≤ i)))) (b.N 0) (b.X 0) (b.Y 0) (tbN b nB B nO O W G L) (tabC nB B nO O W G L) i a e (by omega) (by omega) hX hY g1 (by omega) (by omega) (by omega) hN
  have hT : tabC nB B nO O W G L = Lay.tabRS nB B nO O := funext fun k => tab_sm nB B nO O W G L k
  have e2 : cdR nB B nO O (rlC b G W i a e) = codF (tabC nB B nO O W G L) (Lay.catU nB B nO O W G L : Nat) (ruL (b.N 0) (b.X 0) (b.Y 0) G W i a e) := by rw [cdR, rlC, hT, ue]
  rw [e2]
  exact h
theorem sz3 : prog.types[3].size = 1 := by kernel_rfl
theorem by3 : prog.types[3].bytes = 8 := by kernel_rfl
section
variable {b : Bld} {nB : Nat} {B : Nat → Int} {nO : Nat} {O : Nat → Int} {W G L : Int} {f i : Nat}
theorem cor_s (hi : i ≤ b.N 0) (h0 : 0 < i) : [dF b nB B nO O W G f i 0, dF b nB B nO O W G f i 1].getD ((pth b nB B nO O W G f (b.N 0 - i)).toNat * prog.types[3].size) 0 = pth b nB B nO O W G f (b.N 0 - ((i : Int) - 1).toNat) := by
  rw [sz3, Nat.mul_one, show b.N 0 - ((i : Int) - 1).toNat = (b.N 0 - i) + 1 by omega, pth, show b.N 0 - (b.N 0 - i) = i by omega]
theorem cor_u (hi : i ≤ b.N 0) (h0 : 0 < i) : ∀ j, j < b.N 0 → (if j = ((i : Int) - 1).toNat then [dF b nB B nO O W G f i 0, dF b nB B nO O W G f i 1].getD ((pth b nB B nO O W G f (b.N 0 - i)).toNat * prog.types[3].size) 0 else if i ≤ j then bC b nB B nO O W G f j else 0) = if ((i : Int) - 1).toNat ≤ j then bC b nB B nO O W G f j else 0 := fun j hj => by
  rw [cor_s hi h0]
  by_cases h : j = ((i : Int) - 1).toNat
  · rw [if_pos h, if_pos (by omega), h]; rfl
  · rw [if_neg h]
    by_cases h2 : i ≤ j
    · rw [if_pos h2, if_pos (by omega)]
    · rw [if_neg h2, if_neg (by omega)]
end
section
variable {b : Bld} {nB : Nat} {B : Nat → Int} {nO : Nat} {O : Nat → Int} {W G L : Int} {f i : Nat}
/-- The best way closes round the ring. -/
theorem bst_run (hf : f ≤ 1) (hx : 0 ≤ dX b nB B nO O W G f (b.N 0) f) (hi : i < b.N 0) : (bC b nB B nO O W G f i = 0 ∨ bC b nB B nO O W G f i = 1) ∧ (bC b nB B nO O W G f (((i : Int) + 1) % (b.N 0 : Int)).toNat = 0 ∨ bC b nB B nO O W G f (((i : Int) + 1) % (b.N 0 : Int)).toNat = 1) ∧
    0 ≤ cdR nB B nO O (bL b nB B nO O W G f i) ∧ dX b nB B nO O W G f (i + 1) (pth b nB B nO O W G f (b.N 0 - (i + 1))).toNat = dX b nB B nO O W G f i (pth b nB B nO O W G f (b.N 0 - i)).toNat + cdR nB B nO O (bL b nB B nO O W G f i) := by
  have hp := pth_ok (b := b) (nB := nB) (B := B) (nO := nO) (O := O) (W := W) (G := G) hf hx
  obtain ⟨p0, p1, p2⟩ := hp (b.N 0 - (i + 1)) (by omega)
  obtain ⟨q0, q1, q2, q3⟩ := p2 (by omega)
  obtain ⟨r0, r1, _⟩ := hp (b.N 0) (by omega)
  have e1 : b.N 0 - (i + 1) + 1 = b.N 0 - i := by omega
  have e2 : b.N 0 - (b.N 0 - (i + 1)) - 1 = i := by omega
  have e3 : b.N 0 - (b.N 0 - (i + 1)) = i + 1 := by omega
  rw [e1] at q0 q1 q2 q3
  rw [e2] at q1 q2 q3
  rw [e3] at p1 q2
  have hn : pth b nB B nO O W G f (b.N 0) = f := by
    rw [Nat.sub_self, dX, dpR] at r1
    split at r1
    · omega
    · omega
  have hb : bC b nB B nO O W G f (((i : Int) + 1) % (b.N 0 : Int)).toNat = pth b nB B nO O W G f (b.N 0 - (i + 1)) := by
    by_cases h : i + 1 < b.N 0
    · rw [show (((i : Int) + 1) % (b.N 0 : Int)).toNat = i + 1 by rw [Int.emod_eq_of_lt (by omega) (by omega)]; omega]
      rfl
    · rw [show (((i : Int) + 1) % (b.N 0 : Int)).toNat = 0 by rw [show (i : Int) + 1 = (b.N 0 : Int) by omega, Int.emod_self]; rfl]
      rw [show b.N 0 - (i + 1) = 0 by omega]
      exact hn
  have ha : bC b nB B nO O W G f i = pth b nB B nO O W G f (b.N 0 - i) := rfl
  have hk : kR b nB B nO O W G i (2 * (pth b nB B nO O W G f (b.N 0 - i)).toNat + (pth b nB B nO O W G f (b.N 0 - (i + 1))).toNat) = cdR nB B nO O (bL b nB B nO O W G f i) := by
    rw [kR, bL, hb, ha]
    rw [show (((2 * (pth b nB B nO O W G f (b.N 0 - i)).toNat + (pth b nB B nO O W G f (b.N 0 - (i + 1))).toNat) / 2 : Nat) : Int) = pth b nB B nO O W G f (b.N 0 - i) by omega, show (((2 * (pth b nB B nO O W G f (b.N 0 - i)).toNat + (pth b nB B nO O W G f (b.N 0 - (i + 1))).toNat) % 2 : Nat) : Int) = pth b nB B nO O W G f (b.N 0 - (i + 1)) by omega]
  rw [hk] at q1 q2
  rw [hb, ha]
  exact ⟨q0, p0, q1, q2⟩
theorem tab_cat (hs : Lay.sysE nB B nO O W G L = 0) : Lay.Tab (Lay.catU nB B nO O W G L) (Lay.catN nB B nO O W G L) (Lay.pLen nB B nO O) (Lay.pCode nB) (tabC nB B nO O W G L) ∧ Lay.catN nB B nO O W G L ≤ 16 ∧ ∀ i, i < Lay.catN nB B nO O W G L → 1 ≤ Lay.pLen nB B nO O i ∧ Lay.pLen nB B nO O i ≤ 10000 := by
  obtain ⟨s1, s2, s3, sB, sO, _, _⟩ := Lay.sys_ok hs
  have eU : Lay.catU nB B nO O W G L = Lay.unitP nB B nO O (nB + nO) := by rw [Lay.catU, if_pos hs]
  have eN : Lay.catN nB B nO O W G L = nB + nO := by rw [Lay.catN, if_pos hs]
  rw [eU, eN]
  exact ⟨Lay.tab_sys sB sO, by omega, fun i hi => Lay.pLen_bd sB sO hi⟩
/-- A run of the best layout: its contracts. -/
theorem run_cs (hN : ∀ i, i < b.nS → b.N i ≤ 1000) (h0 : arE b nB B nO O W G L = 0) (hm : mgE (lonG (b.N 0) (b.X 0) (b.Y 0) G W (4 * b.N 0)) (bkdU nB B nO O W G L) = 0) (hl : ∀ i, i < b.N 0 → ruL (b.N 0) (b.X 0) (b.Y 0) G W (i : Nat) 1 0 ≤ 4000 * (uRI nB B nO O)) (hi : i < b.N 0) (hf : f ≤ 1) (hx : 0 ≤ dX b nB B nO O W G f (b.N 0) f) :
    FnC prog 53 [ringD b nB B nO O W G L, dI (i : Int), dI (bC b nB B nO O W G f i)] (dI (befF (b.N 0) (b.X 0) (b.Y 0) G W i (bC b nB B nO O W G f i))) ∧
    FnC prog 52 [ringD b nB B nO O W G L, dI (i : Int), dI (befF (b.N 0) (b.X 0) (b.Y 0) G W i (bC b nB B nO O W G f i)), dI G] (dP (atX (b.N 0) (b.X 0) (b.Y 0) i (befF (b.N 0) (b.X 0) (b.Y 0) G W i (bC b nB B nO O W G f i)) G) (atY (b.N 0) (b.X 0) (b.Y 0) i (befF (b.N 0) (b.X 0) (b.Y 0) G W i (bC b nB B nO O W G f i)) G)) ∧
    FnC prog 54 [ringD b nB B nO O W G L, dI (i : Int), dI (bC b nB B nO O W G f i), dI (bC b nB B nO O W G f (((i : Int) + 1) % (b.N 0 : Int)).toNat)] (dI (bL b nB B nO O W G f i)) ∧
    FnC prog 55 [.agg [dI (Lay.catU nB B nO O W G L : Nat), .lst (Lay.catN nB B nO O W G L) (Lay.part3 (Lay.pLen nB B nO O) (Lay.pCode nB) (fun i => decide (nB ≤ i)))], tbD b nB B nO O W G L, dI (bL b nB B nO O W G f i)] (.tup [.agg [Lay.lstD (cl nB B nO O W G L (bL b nB B nO O W G f i) false), Lay.lstD (cl nB B nO O W G L (bL b nB B nO O W G f i) true)], dB (okL nB B nO O W G L (bL b nB B nO O W G f i))]) := by
  obtain ⟨hc, hs, _, _, _, _, _⟩ := ar_zero h0
  obtain ⟨b1, b2, b3, b4, b5⟩ := b0_ok hc
  have hn4 := chk_n b2
  obtain ⟨hX, hY⟩ := chk_inB b2
  have g1 := (sys_wgl hs).1
  obtain ⟨ue, u1, u2⟩ := u_bd hs
  obtain ⟨p0, p1, p2, _⟩ := bst_run hf hx hi
  have ha : 0 ≤ bC b nB B nO O W G f i ∧ bC b nB B nO O W G f i ≤ 1 := by omega
  have he : 0 ≤ bC b nB B nO O W G f (((i : Int) + 1) % (b.N 0 : Int)).toNat ∧ bC b nB B nO O W G f (((i : Int) + 1) % (b.N 0 : Int)).toNat ≤ 1 := by omega
  have bb := bef_bd (n := b.N 0) (X := b.X 0) (Y := b.Y 0) (i : Int) g1 ha
  have gg := g1
  obtain ⟨g11, g12, _, _⟩ := gg
  have hle := (rl_le h0 hl hi ha he).1
  have hlb := lonG_bd (n := b.N 0) (X := b.X 0) (Y := b.Y 0) (by omega) hX hY g1 (4 * b.N 0)
  have hub : bkdU nB B nO O W G L = uRI nB B nO O := ue
  have hlo : bL b nB B nO O W G f i ≤ lonG (b.N 0) (b.X 0) (b.Y 0) G W (4 * b.N 0) := by
    have h1 := lonG_at (n := b.N 0) (X := b.X 0) (Y := b.Y 0) (G := G) (W := W) hi (c := (2 * bC b nB B nO O W G f i + bC b nB B nO O W G f (((i : Int) + 1) % (b.N 0 : Int)).toNat).toNat) (by omega)
    rw [show (((2 * bC b nB B nO O W G f i + bC b nB B nO O W G f (((i : Int) + 1) % (b.N 0 : Int)).toNat).toNat / 2 : Nat) : Int) = bC b nB B nO O W G f i by omega, show (((2 * bC b nB B nO O W G f i + bC b nB B nO O W G f (((i : Int) + 1) % (b.N 0 : Int)).toNat).toNat % 2 : Nat) : Int) = bC b nB B nO O W G f (((i : Int) + 1) % (b.N 0 : Int)).toNat by omega] at h1
    exact h1
  have hx0 : 0 ≤ bL b nB B nO O W G f i := by
    unfold cdR codF at p2
    split at p2
    · omega
    · omega
  obtain ⟨t1, t2, t3⟩ := tab_cat hs
  have hq : bL b nB B nO O W G f i / (Lay.catU nB B nO O W G L : Nat) ≤ lonG (b.N 0) (b.X 0) (b.Y 0) G W (4 * b.N 0) / (Lay.catU nB B nO O W G L : Nat) := Int.ediv_le_ediv (by omega) hlo
  have hq0 : 0 ≤ bL b nB B nO O W G f i / (Lay.catU nB B nO O W G L : Nat) := Int.ediv_nonneg hx0 (by omega)
  have hmb : lonG (b.N 0) (b.X 0) (b.Y 0) G W (4 * b.N 0) ≤ 4000 * uRI nB B nO O := by
    rw [← hub]
    unfold mgE at hm
    split at hm
    · omega
    · omega
  have hq2 : lonG (b.N 0) (b.X 0) (b.Y 0) G W (4 * b.N 0) / (Lay.catU nB B nO O W G L : Nat) ≤ 4000 := by
    rw [ue]
    have := Int.ediv_le_ediv (show 0 < uRI nB B nO O by omega) hmb
    rwa [Int.mul_ediv_cancel _ (by omega)] at this
  have hN2 : (tbN b nB B nO O W G L : Int) = lonG (b.N 0) (b.X 0) (b.Y 0) G W (4 * b.N 0) / (Lay.catU nB B nO O W G L : Nat) + 1 := by
    rw [tbN, mgN, if_pos hm, hub, ← ue]
    omega
  exact ⟨before_c _ _ _ _ _ _ _ _ _ _ _ _ _ _ _ _ _ (by omega) g1 ha, ringAt_c _ _ _ _ _ _ _ _ _ _ _ _ _ _ _ _ _ _ (by omega) hX hY (by omega) (by omega), runLen_c _ _ _ _ _ _ _ _ _ _ _ _ _ _ _ _ _ _ (by omega) (by omega) hX hY g1 ha he,
    Lay.close_c _ _ _ _ _ _ _ _ (by omega) (by omega) t2 t1 t3 hx0 (by rw [ue]; exact hle) (by omega) (by omega)⟩
theorem row_upL {p : Nat → List Int} {i : Nat} {v : List Int} (hv : v = p i) : ∀ j, j < i + 1 → (if j < i then (p j).length else v.length) = (p j).length ∧ ∀ k, k < (p j).length → (if j < i then (p j).getD k 0 else v.getD k 0) = (p j).getD k 0 := fun j hj => by
  by_cases h : j < i
  · rw [if_pos h]
    exact ⟨rfl, fun k _ => by rw [if_pos h]⟩
  · have : j = i := by omega
    subst this
    rw [if_neg h, hv]
    exact ⟨rfl, fun k _ => by rw [if_neg h]⟩
theorem row_upI {p : Nat → Int} {i : Nat} {v : Int} (hv : v = p i) : ∀ j, j < i + 1 → (if j < i then p j else v) = p j := fun j hj => by
  by_cases h : j < i
  · rw [if_pos h]
  · rw [if_neg h, hv, show j = i by omega]
end
noncomputable def A17_bestC_c (b : Bld) (nB : Nat) (B : Nat → Int) (nO : Nat) (O : Nat → Int) (W G L : Int) : Ann := { orc := [(1, [(2, rArO b nB B nO O W G L)]), (5, [(1, .res fun _ => .tup [tbD b nB B nO O W G L, dI 0])]), (15, [(1, .res fun _ => dI (b.N 0 : Int))]), (22, [(1, .pos), (3, .pos)]), (23, [(6, .res fun q => dI (cdR nB B nO O (rlC b G W (aI q 2) (aI q 3) (aI q 4))))]), (32, [(1, .res fun _ => dI (b.N 0 : Int))]), (47, [(7, .sel 2)]), (52, [(10, .pos)]), (53, [(6, .res fun q => dI (befF (b.N 0) (b.X 0) (b.Y 0) G W (aI q 1) (aI q 2))), (9, .res fun q => dP (atX (b.N 0) (b.X 0) (b.Y 0) (aI q 1) (aI q 2) (aI q 3)) (atY (b.N 0) (b.X 0) (b.Y 0) (aI q 1) (aI q 2) (aI q 3))), (14, .res fun q => dI (rlC b G W (aI q 1) (aI q 2) (aI q 3)))]), (54, [(8, .res fun q => .tup [.agg [Lay.lstD (cl nB B nO O W G L (aI q 2) false), Lay.lstD (cl nB B nO O W G L (aI q 2) true)], dB (okL nB B nO O W G L (aI q 2))])])], loops := [(2, { ι := Nat, keep := [3, 4, 5, 7, 9, 10, 11, 12, 54, 70], boxes := [3, 4, 5], ts := fun _ i => [(71, dI (i : Int))], bx := fun σ i => [(12, [dI (dX b nB B nO O W G (iOf (σ.get 11)).toNat i 0), dI (dX b nB B nO O W G (iOf (σ.get 11)).toNat i 1)]), (9, bx9 (tbD b nB B nO O W G L) (b.N 0) σ.nx i (iOf (σ.get 11)).toNat), (10, bx10 (b.N 0) σ.nx i (iOf (σ.get 11)).toNat)], rb := fun σ i => rbB b nB B nO O W G i (iOf (σ.get 11)).toNat, inv := fun _ i => i ≤ b.N 0, mu := fun _ i => b.N 0 - i, rd := fun _ σ => (iOf (σ.get 71)).toNat }), (8, { ι := Nat, keep := [3, 4, 5, 7, 9, 10, 20, 21, 24], boxes := [3, 4, 5], ts := fun σ i => [(25, dI (i : Int)), (26, dI (pth b nB B nO O W G (iOf (σ.get 21)).toNat (b.N 0 - i)))], bx := fun σ _ => [(9, bx9 (tbD b nB B nO O W G L) (b.N 0) σ.nx (b.N 0) 1), (10, bx10 (b.N 0) σ.nx (b.N 0) 1), (24, [.row 1 (σ.nx + 54) 0 (b.N 0), nilD])], rb := fun σ i => rbB b nB B nO O W G (b.N 0) 1 ++ [(24, 0, 1, b.N 0, [fun j => dI (if i ≤ j then bC b nB B nO O W G (iOf (σ.get 21)).toNat j else 0)])], inv := fun _ i => i ≤ b.N 0, mu := fun _ i => i, rd := fun _ σ => (iOf (σ.get 25)).toNat }), (10, { ι := Nat, keep := [3, 4, 5, 7, 9, 10, 20, 21, 24, 207], boxes := [3, 4, 5], ts := fun _ i => [(208, dI (i : Int))], bx := fun σ i => [(9, bx9 (tbD b nB B nO O W G L) (b.N 0) σ.nx (b.N 0) 1), (10, bx10 (b.N 0) σ.nx (b.N 0) 1), (24, [.row 1 (σ.nx + 54) 0 (b.N 0), .row 6 (σ.nx + 55) 0 i])], rb := fun σ i => rbB b nB B nO O W G (b.N 0) 1 ++ [(24, 0, 1, b.N 0, [fun j => dI (bC b nB B nO O W G (iOf (σ.get 21)).toNat j)]), (24, 1, 6, i, runB b nB B nO O W G L (iOf (σ.get 21)).toNat)], inv := fun _ i => i ≤ b.N 0, mu := fun _ i => b.N 0 - i, rd := fun _ σ => (iOf (σ.get 208)).toNat })], cuts := [(27, { ι := Unit, keep := [3, 4, 5, 7, 9, 10, 11, 12, 13, 14, 15, 54, 70, 71, 76], boxes := [3, 4, 5, 12], ts := fun _ _ => [], bx := fun σ _ => [(14, [dI (dZ b nB B nO O W G (iOf (σ.get 11)).toNat (iOf (σ.get 13)).toNat ((iOf (σ.get 76)).toNat + 1) 0), dI (dZ b nB B nO O W G (iOf (σ.get 11)).toNat (iOf (σ.get 13)).toNat ((iOf (σ.get 76)).toNat + 1) 1)]), (15, [dI (dW b nB B nO O W G (iOf (σ.get 11)).toNat (iOf (σ.get 13)).toNat ((iOf (σ.get 76)).toNat + 1) 0), dI (dW b nB B nO O W G (iOf (σ.get 11)).toNat (iOf (σ.get 13)).toNat ((iOf (σ.get 76)).toNat + 1) 1)]), (9, bx9 (tbD b nB B nO O W G L) (b.N 0) σ.nx (iOf (σ.get 13)).toNat (iOf (σ.get 11)).toNat), (10, bx10 (b.N 0) σ.nx (iOf (σ.get 13)).toNat (iOf (σ.get 11)).toNat)], rb := fun σ _ => rbB b nB B nO O W G (iOf (σ.get 13)).toNat (iOf (σ.get 11)).toNat, inv := fun _ _ => True, mu := fun _ _ => 0, rd := fun _ _ => () })], unroll := [(0, 3), (4, 5), (6, 3)], dec := [55, 77, 148, 181] }
namespace w4i
noncomputable section
structure Z where
  b : Bld
  nB : Nat
  B : Nat → Int
  nO : Nat
  O : Nat → Int
  W : Int
  G : Int
  L : Int
variable (z : Z) (i0 i1 i2 : Nat) (p q : Prop) (P : List Prop) (a b : Int) (k l m : Nat) (g : Bool) (A : DV) (E F : List DV) (U V : VT) (j11a : Nat → DV) (j18a : Nat → VT) (j21a : PUnit → VT)
abbrev x0 : Int := (i0:Int)
abbrev x1 := Int.toNat (x0 i0)
abbrev x2 := Int.toNat 1
abbrev x3 := Int.toNat 0
abbrev x4 := dX z.b z.nB z.B z.nO z.O z.W z.G k l m
abbrev x5 := z.b.N 0 + 1
abbrev x6 := i0 < z.b.N 0 → rf a
abbrev x7 := i0 < z.b.nO → rf (z.b.O i0 k)
abbrev x8 := i0 < z.b.nB → rf (z.b.B i0 k)
abbrev x9 : Int := (↑(z.b.N 0) : Int)
abbrev x10 : List Prop := rf (Value.slice none 0 0) :: P
abbrev x11 := x1 i0 + 1
abbrev x12 := decide (a < (0:Int))
abbrev x13 := Lay.catN z.nB z.B z.nO z.O z.W z.G z.L
abbrev x14 := dZ z.b z.nB z.B z.nO z.O z.W z.G k (x1 i0) (l + 1) m
abbrev x15 : List Prop := rf (0:Nat) :: P
abbrev x16 := bC z.b z.nB z.B z.nO z.O z.W z.G k l
abbrev x17 := ix (z.b.N 0) (x0 i0 + 1)
abbrev x18 := addN 0 (Int.toNat a)
abbrev x19 : List Prop := ri (g = true) :: P
abbrev x20 := x4 z k i0 (0:Nat)
abbrev x21 := x4 z k i0 (1:Nat)
abbrev x22 := i1 < x11 i0 → rf a
abbrev x23 := tbN z.b z.nB z.B z.nO z.O z.W z.G z.L
abbrev x24 := 0 ≤ a ∧ b < (↑(2:Nat) : Int)
abbrev x25 := DV.lst k [j11a]
abbrev x26 : Int := -(1:Int)
abbrev x27 := dF z.b z.nB z.B z.nO z.O z.W z.G 0 k l
abbrev x28 := rlC z.b z.G z.W (x0 i0) a b
abbrev x29 := dW z.b z.nB z.B z.nO z.O z.W z.G k (x1 i0) (l + 1) m
abbrev x30 : List Prop := rf z.nB :: (∀ i0 < z.nB, rf (z.B i0)) :: rf z.nO :: (∀ i0 < z.nO, rf (z.O i0)) :: rf z.W :: rf z.G :: rf z.L :: P
abbrev x31 := addN 0 (x1 i0)
abbrev x32 := x4 z k l (1:Nat)
abbrev x33 := Int.toNat 2
abbrev x34 := x19 P (!(x12 a))
abbrev x35 := x15 (rf (x5 z) :: P)
abbrev x36 := cl z.nB z.B z.nO z.O z.W z.G z.L a g
abbrev x37 := bLy z.b z.nB z.B z.nO z.O z.W z.G z.L (Int.toNat (bstI z.b z.nB z.B z.nO z.O z.W z.G))
abbrev x38 : Int := (↑(Lay.catU z.nB z.B z.nO z.O z.W z.G z.L) : Int)
abbrev x39 := decide (a ≥ (0:Int))
abbrev x40 := dF z.b z.nB z.B z.nO z.O z.W z.G 1 k l
abbrev x41 := lenW (z.b.N 0) (z.b.X 0) (z.b.Y 0) (x0 i0)
abbrev x42 := dD (z.b.N 0) (z.b.X 0) (z.b.Y 0) (x0 i0)
abbrev x43 := cor (z.b.N 0) (z.b.X 0) (z.b.Y 0) i0
abbrev x44 := Int.toNat (x0 i0 + 1)
abbrev x45 := x4 z k l (0:Nat)
abbrev x46 := tabC z.nB z.B z.nO z.O z.W z.G z.L i0
abbrev x47 := x14 z i0 x2 k (1:Nat)
abbrev x48 := x14 z i0 x3 k (1:Nat)
abbrev x49 := bL z.b z.nB z.B z.nO z.O z.W z.G k l
abbrev x50 := bPr z.b z.nB z.B z.nO z.O z.W z.G z.L
abbrev x51 := VT.need [p] U
abbrev x52 := x32 z (1:Nat) (x18 (x9 z))
abbrev x53 := x18 ((x0 i0 + 1) % x9 z)
abbrev x54 := x35 z (x15 P)
abbrev x55 := x24 (1:Int) (1:Int)
abbrev x56 := x10 (x10 (x10 (x10 (x10 P))))
abbrev x57 := x16 z x2 (x31 i0)
abbrev x58 : List Prop := p :: rf (x23 z) :: (∀ i0 < x23 z, rf (x46 z i0)) :: P
abbrev x59 := x24 (0:Int) (0:Int)
abbrev x60 : List Prop := rf z.b.name :: rf z.b.nS :: (∀ i0 < z.b.nS, rf (z.b.fl i0)) :: (∀ i0 < z.b.nS, rf (z.b.N i0) ∧ (∀ i1 < z.b.N i0, rf (z.b.X i0 i1)) ∧ (∀ i1 < z.b.N i0, rf (z.b.Y i0 i1))) :: rf z.b.roof :: rf z.b.nO :: (∀ (i0 : Nat), x7 z i0 (0:Nat)) :: (∀ (i0 : Nat), x7 z i0 (1:Nat)) :: (∀ (i0 : Nat), x7 z i0 (2:Nat)) :: (∀ (i0 : Nat), x7 z i0 (3:Nat)) :: (∀ (i0 : Nat), x7 z i0 (4:Nat)) :: (∀ (i0 : Nat), x7 z i0 (5:Nat)) :: rf z.b.nB :: (∀ (i0 : Nat), x8 z i0 (0:Nat)) :: (∀ (i0 : Nat), x8 z i0 (1:Nat)) :: (∀ (i0 : Nat), x8 z i0 (2:Nat)) :: (∀ (i0 : Nat), x8 z i0 (3:Nat)) :: (∀ (i0 : Nat), x8 z i0 (4:Nat)) :: (∀ (i0 : Nat), x8 z i0 (5:Nat)) :: x30 z (rf (x38 z) :: rf (x13 z) :: (∀ i0 < x13 z, rf (Lay.pLen z.nB z.B z.nO z.O i0)) :: (∀ i0 < x13 z, rf (Lay.pCode z.nB i0)) :: (∀ i0 < x13 z, rf (decide (z.nB ≤ i0))) :: rf (z.b.N 0) :: (∀ (i0 : Nat), x6 z i0 (z.b.X 0 i0)) :: (∀ (i0 : Nat), x6 z i0 (z.b.Y 0 i0)) :: (∀ (i0 : Nat), x6 z i0 (z.b.X 0 (x17 z i0))) :: (∀ (i0 : Nat), x6 z i0 (z.b.Y 0 (x17 z i0))) :: (∀ (i0 : Nat), x6 z i0 (x41 z i0)) :: (∀ (i0 : Nat), x6 z i0 (x42 z i0)) :: rf (z.b.N 0) :: (∀ (i0 : Nat), x6 z i0 (x43 z i0)) :: P)
abbrev x61 := Int.toNat 3
abbrev x62 : List Prop := rf (1:Int) :: P
abbrev x63 := (x39 (x52 z)) && (!(x12 a))
abbrev x64 : List Prop := rf (0:Int) :: P
abbrev x65 := ∀ i0 < x5 z, rf (x27 z i0 (0:Nat))
abbrev x66 : List Prop := (∀ i0 < x5 z, rf (x27 z i0 (1:Nat))) :: P
abbrev x67 := ∀ i0 < x5 z, rf (x20 z i0 (0:Nat))
abbrev x68 : List Prop := (∀ i0 < x5 z, rf (x21 z i0 (0:Nat))) :: P
abbrev x69 := x45 z (0:Nat) (x18 (x9 z))
abbrev x70 : List Prop := p :: rf (x5 z) :: x65 z :: x66 z P
abbrev x71 : List Prop := rf (x5 z) :: x67 z :: x68 z P
abbrev x72 := DV.lst (x13 z) [fun i0 => dI (Lay.pLen z.nB z.B z.nO z.O i0), fun i0 => dI (Lay.pCode z.nB i0), fun i0 => dB (decide (z.nB ≤ i0))]
abbrev x73 := (!(x12 a)) = true → p
abbrev x74 := cdR z.nB z.B z.nO z.O (x28 z i0 (1:Int) a)
abbrev x75 := cdR z.nB z.B z.nO z.O (x28 z i0 (0:Int) a)
abbrev x76 := x51 (i64In a) U
abbrev x77 := VT.done (x60 z (rf a :: rf (x0 i0) :: P))
abbrev x78 := x28 z i0 (x57 z i0) (x16 z x2 (x53 z i0))
abbrev x79 : List DV := x25 z.nB (fun i0 => dI (z.B i0)) :: x25 z.nO (fun i0 => dI (z.O i0)) :: dI z.W :: dI z.G :: dI z.L :: E
abbrev x80 := DV.cptr (DV.val (Value.string z.b.name) :: DV.lst z.b.nS [fun i0 => dI (z.b.fl i0), fun i0 => DV.lst (z.b.N i0) [fun i1 => dI (z.b.X i0 i1), fun i1 => dI (z.b.Y i0 i1)]] :: dI z.b.roof :: DV.lst z.b.nO [fun i0 => dI (z.b.O i0 0), fun i0 => dI (z.b.O i0 1), fun i0 => dI (z.b.O i0 2), fun i0 => dI (z.b.O i0 3), fun i0 => dI (z.b.O i0 4), fun i0 => dI (z.b.O i0 5)] :: DV.lst z.b.nB [fun i0 => dI (z.b.B i0 0), fun i0 => dI (z.b.B i0 1), fun i0 => dI (z.b.B i0 2), fun i0 => dI (z.b.B i0 3), fun i0 => dI (z.b.B i0 4), fun i0 => dI (z.b.B i0 5)] :: x79 z [dI (x38 z), x72 z, DV.lst (z.b.N 0) [fun i0 => dI (z.b.X 0 i0), fun i0 => dI (z.b.Y 0 i0), fun i0 => dI (z.b.X 0 (x17 z i0)), fun i0 => dI (z.b.Y 0 (x17 z i0)), fun i0 => dI (x41 z i0), fun i0 => dI (x42 z i0)], x25 (z.b.N 0) (fun i0 => dI (x43 z i0))])
abbrev x81 := Int.toNat (x9 z)
abbrev x82 := x29 z i0 x2 k (0:Nat)
abbrev x83 := x29 z i0 x3 k (0:Nat)
abbrev x84 := pth z.b z.nB z.B z.nO z.O z.W z.G k (z.b.N 0 - l)
abbrev x85 := x47 z i0 x3
abbrev x86 := x48 z i0 x3
abbrev x87 := x16 z x3 (x31 i0)
abbrev x88 := x29 z i0 x2 k (1:Nat)
abbrev x89 := x29 z i0 x3 k (1:Nat)
abbrev x90 := x14 z i0 x2 x2 (0:Nat)
abbrev x91 := x14 z i0 x3 x2 (0:Nat)
abbrev x92 := if (x12 a) = true then true else g
abbrev x93 := List.length (x36 z a true)
abbrev x94 := List.length (x36 z a false)
abbrev x95 := if (decide (i1 < i0)) = true then a else b
abbrev x96 := befF (z.b.N 0) (z.b.X 0) (z.b.Y 0) z.G z.W (x0 i0) a
abbrev x97 := VT.need (x55 :: P) U
abbrev x98 := x14 z i0 x2 k (0:Nat)
abbrev x99 := x14 z i0 x3 k (0:Nat)
abbrev x100 : List Prop := [x12 a = false → (!(x12 b)) = true]
abbrev x101 := VT.need (x59 :: P) U
abbrev x102 := Int.toNat (x0 i0 - 1)
abbrev x103 := (x39 (x69 z)) && (!(x12 x26))
abbrev x104 := FnC prog k (x80 z :: E) (dI a)
abbrev x105 := ∀ i0 < x5 z, rf (x40 z i0 (0:Nat))
abbrev x106 := ∀ i0 < x5 z, rf (x40 z i0 (1:Nat))
abbrev x107 := ∀ (i1 : Nat), x22 i0 i1 (x45 z (0:Nat) i1)
abbrev x108 := ∀ (i1 : Nat), x22 i0 i1 (x40 z i1 (0:Nat))
abbrev x109 : List Prop := (∀ (i1 : Nat), x22 i0 i1 (x32 z (0:Nat) i1)) :: P
abbrev x110 := ∀ (i1 : Nat), x22 i0 i1 (x45 z (1:Nat) i1)
abbrev x111 := ∀ i0 < x5 z, rf (x20 z i0 (1:Nat))
abbrev x112 := x70 z (∀ (i1 : Nat), x22 i0 i1 (x32 z (1:Nat) i1)) P
abbrev x113 := x70 z (∀ i0 < x5 z, rf (x21 z i0 (1:Nat))) P
abbrev x114 := ∀ (i1 : Nat), x22 i0 i1 (x27 z i1 (0:Nat))
abbrev x115 : List Prop := (i0 + 1 = x11 i0) :: p :: P
abbrev x116 := i0 < Lyt.nR (x37 z) → a = b
abbrev x117 := x96 z i0 (x57 z i0)
abbrev x118 : List Prop := (∀ (i1 : Nat), x22 i0 i1 (x40 z i1 (1:Nat))) :: p :: P
abbrev x119 : List DV := x25 (x23 z) (fun i0 => dI (x46 z i0)) :: E
abbrev x120 := x28 z i0 (x87 z i0) (x16 z x3 (x53 z i0))
abbrev x121 : List Prop := (∀ (i1 : Nat), x22 i0 i1 (x27 z i1 (1:Nat))) :: p :: P
abbrev x122 := x77 z i0 (x62 (rf (x9 z) :: rf (x0 i0) :: P)) (1:Int)
abbrev x123 := x77 z i0 (x64 (rf (x9 z) :: rf (x0 i0) :: P)) (0:Int)
abbrev x124 := x30 z (x56 [rf (x20 z i0 x3), rf (x21 z i0 x3), True])
abbrev x125 := (Tables.types (Program.toTables prog))[(3:Nat)]
abbrev x126 := x19 P (x63 z (0:Int))
abbrev x127 := List.getD (x36 z a true) i2 0
abbrev x128 := List.getD (x36 z a false) i2 0
abbrev x129 := x58 z p (x35 z (x35 z (x35 z (x54 z (rf (z.b.N 0) :: P)))))
abbrev x130 := x54 z (rf (x11 i0) :: x54 z (rf (x11 i0) :: x30 z (x56 [rf (x20 z i0 x2), rf (x21 z i0 x2), True])))
abbrev x131 := x15 (rf (x11 i0) :: x10 (x15 (rf (x11 i0) :: x10 (x124 z i0))))
abbrev x132 := 0 + Int.toNat a * TypeInfo.size x125
abbrev x133 : List Prop := rf (x11 i0) :: x107 z i0 :: x109 z i0 (rf (x11 i0) :: x114 z i0 :: x121 z i0 p P)
abbrev x134 := x71 z (rf (x5 z) :: x111 z :: x113 z (rf (x5 z) :: x105 z :: x106 z :: rf (z.b.N 0) :: P))
abbrev x135 := x71 z (rf (x11 i0) :: x110 z i0 :: x112 z i0 (rf (x11 i0) :: x108 z i0 :: x118 z i0 p P))
abbrev x136 := VT.cut PUnit (fun (i0 : PUnit) => True) U j21a
abbrev x137 := 0 ≤ a ∧ (0:Int) < (2:Int) ∧ p
abbrev x138 := x34 P (x47 z i0 x33)
abbrev x139 := x34 P (x48 z i0 x33)
abbrev x140 : List Prop := [p, 0 ≤ a ∧ (0:Int) < (2:Int)]
abbrev x141 := if (decide (i1 < (x11 i0))) = true then a else b
abbrev x142 := x73 (i64In b) a
abbrev x143 := VT.loop Nat (fun i0 => i0 ≤ z.b.N 0) k P j18a
abbrev x144 : List Prop := p :: x60 z (rf (x9 z) :: x62 P)
abbrev x145 := 1 = x3 + 1
abbrev x146 := x11 i0 + 1 = x44 i0 + 1
abbrev x147 := i1 < x44 i0 + 1 → a = b
abbrev x148 := (k + 1) * (l + 1) ≤ 140737488355328
abbrev x149 := x96 z i0 (x87 z i0)
abbrev x150 := i0 < x3 + 1 → 0 = a
abbrev x151 := x137 (b ≤ 9223372036854775807) a
abbrev x152 := if (decide (i1 < i0)) = true then k else l
abbrev x153 := atX (z.b.N 0) (z.b.X 0) (z.b.Y 0) (x0 i0) a z.G
abbrev x154 := atY (z.b.N 0) (z.b.X 0) (z.b.Y 0) (x0 i0) a z.G
abbrev x155 := bE z.b z.nB z.B z.nO z.O z.W z.G
abbrev x156 := 0 = (x3:Int)
abbrev x157 := FnC prog k E (DV.tup F)
abbrev x158 := x19 (x19 P (x63 z x26)) (x63 z x26)
abbrev x159 := VT.ite (decide ((x0 i0) < (x9 z))) U V
abbrev x160 := x0 i0 + 1 = (↑(x44 i0) : Int)
abbrev x161 : List Prop := [x44 i0 ≤ z.b.N 0, z.b.N 0 - x44 i0 < z.b.N 0 - i0]
abbrev x162 := x21 z i0 x2 + x74 z i0 (1:Int)
abbrev x163 := x21 z i0 x2 + x74 z i0 (0:Int)
abbrev x164 := x21 z i0 x3 + x74 z i0 (1:Int)
abbrev x165 := x21 z i0 x3 + x74 z i0 (0:Int)
abbrev x166 := x20 z i0 x2 + x75 z i0 (1:Int)
abbrev x167 := x20 z i0 x2 + x75 z i0 (0:Int)
abbrev x168 := x20 z i0 x3 + x75 z i0 (1:Int)
abbrev x169 := x20 z i0 x3 + x75 z i0 (0:Int)
abbrev x170 := x104 z b (51:Nat) (x119 z [dI (x0 i0), dI 1, dI a])
abbrev x171 := x104 z b (51:Nat) (x119 z [dI (x0 i0), dI 0, dI a])
abbrev x172 := x18 (x9 z) < x5 z
abbrev x173 := if i0 ≤ i1 then (x16 z x2 i1) else (0:Int)
abbrev x174 := x24 x26 x26
abbrev x175 := 0 ≤ x9 z ∧ x9 z < (↑(x5 z) : Int)
abbrev x176 : List Prop := (x11 i0 ≤ x11 i0) :: x148 (x11 i0) (nat_lit 15) :: ((1:Nat) ≤ (1:Nat)) :: P
abbrev x177 := x34 (x73 x59 x26 :: x34 (x34 (x34 P x26) x26) x26) x26
abbrev x178 := List.getD [x40 z (x31 i0) (0:Nat), x40 z (x31 i0) (1:Nat)] (x132 (x84 z x2 i0)) 0
abbrev x179 : List Prop := p :: x60 z (rf (x9 z) :: x64 P)
abbrev x180 := i1 < z.b.N 0 → a = (if (x102 i0) ≤ i1 then b else (0:Int))
abbrev x181 : List Prop := (x103 z = true → p) :: x19 (x19 P (x103 z)) (x103 z)
abbrev x182 := i0 < Lyt.nR (x37 z) → x93 z a = Lyt.nQ (x37 z) i0 ∧ p
abbrev x183 := i0 < Lyt.nR (x37 z) → x94 z a = Lyt.nP (x37 z) i0 ∧ p
abbrev x184 := VT.ite (decide ((x0 i0) > (0:Int))) U V
abbrev x185 := i0 < Lyt.nC (x37 z) → a = Lyt.C (x37 z) i0
abbrev x186 := if (decide (i1 = (x18 (x0 i0 - 1)))) = true then a else b
abbrev x187 := FnC prog 52 [x80 z, dI (x0 i0), dI a, dI z.G] A
abbrev x188 := i0 < z.b.N 0 → 0 = (if (x81 z) ≤ i0 then a else (0:Int))
abbrev x189 : List Prop := p :: x129 z q (x15 ((i0 + 1 = x44 i0) :: x30 z (x56 (x161 z i0))))
abbrev x190 : List Prop := rf (x9 z) :: x134 z (p :: x129 z (x3 = 0) (x15 ((x3 = 0) :: x30 z (x56 []))))
abbrev x191 := DV.val (Value.agg (Array.mk [Value.int IntKind.i64 a, Value.int IntKind.i64 b]))
abbrev x192 : List Prop := p :: (i0 = Lyt.nR (x37 z)) :: (∀ (i0 : Nat), x116 z i0 (x0 i0) (Lyt.F (x37 z) i0)) :: P
abbrev x193 := FnC prog 42 [x80 z] (dI (x9 z))
abbrev x194 : List Prop := (Lyt.nC (x37 z) = 0) :: (Lyt.nR (x37 z) = 0) :: (Prf.nT (x50 z) = 0) :: (Prf.n0 (x50 z) = 0) :: P
abbrev x195 := x116 z i0 (ruX z.b z.G z.W i0 a) (Lyt.SX (x37 z) i0)
abbrev x196 := x116 z i0 (ruY z.b z.G z.W i0 a) (Lyt.SY (x37 z) i0)
abbrev x197 := x134 z (x129 z p (x10 (x30 z (x56 [x102 i0 ≤ z.b.N 0, x102 i0 < i0]))))
abbrev x198 : List Prop := rf (3:Int) :: x135 z i0 (x98 z i0 x33 = x98 z i0 x61) ((a = x47 z i0 x61) :: (x82 z i0 x33 = x82 z i0 x61) :: x58 z p (x130 z i0))
abbrev x199 : List Prop := rf (3:Int) :: x133 z i0 (x99 z i0 x33 = x99 z i0 x61) ((a = x48 z i0 x61) :: (x83 z i0 x33 = x83 z i0 x61) :: x58 z p (x131 z i0))
abbrev x200 := x157 (55:Nat) (DV.agg [dI (x38 z), x72 z] :: x119 z [dI a]) E
abbrev x201 := x64 (x71 z (x115 i0 (x110 z i0) (x112 z i0 (x115 i0 (x108 z i0) (x118 z i0 p ((x26 = x85 z i0) :: (0 = x82 z i0 x3) :: x58 z (0 = x88 z i0 x3) (x54 z ((i0 + 1 = x11 i0) :: x54 z ((i0 + 1 = x11 i0) :: x30 z (x56 [rf (x20 z i0 x2), rf (x21 z i0 x2), True]))))))))))
abbrev x202 := x51 p (VT.need [i0 ≤ i0, x148 i0 (nat_lit 79), (1:Nat) ≤ (1:Nat)] (x76 (x0 i0 + 1) (VT.done P)))
abbrev x203 : List Prop := [0 ≤ x0 i0 ∧ x0 i0 < (↑(x5 z) : Int), p, x31 i0 < x5 z, x132 a < 2]
abbrev x204 := x62 (x133 z i0 (x99 z i0 x3 = x91 z i0) ((a = x48 z i0 x2) :: P))
abbrev x205 := x62 (x135 z i0 (x98 z i0 x3 = x90 z i0) ((a = x47 z i0 x2) :: P))
abbrev x206 := x64 (x115 i0 (x107 z i0) (x109 z i0 (x115 i0 (x114 z i0) (x121 z i0 p ((x26 = x86 z i0) :: (0 = x83 z i0 x3) :: x58 z (0 = x89 z i0 x3) (x15 ((i0 + 1 = x11 i0) :: x10 (x15 ((i0 + 1 = x11 i0) :: x10 (x124 z i0))))))))))
abbrev x207 : List Prop := rf (x9 z) :: x134 z (p :: (i0 + 1 = x44 i0) :: (∀ i1 < x44 i0, x95 i0 i1 (i1:Int) (x0 i0) = (i1:Int)) :: P)
abbrev x208 : List Prop := (i0 + 1 = x5 z) :: x111 z :: x113 z ((i0 + 1 = x5 z) :: x105 z :: x106 z :: (x81 z = z.b.N 0) :: x58 z p (x54 z ((i0 + 1 = x5 z) :: x54 z ((i0 + 1 = x5 z) :: x15 ((x81 z = z.b.N 0) :: x10 (x30 z (x56 [])))))))
abbrev x209 : List Prop := rf (2:Int) :: x133 z i0 (a = x99 z i0 x33) ((x48 z i0 x2 = x48 z i0 x33) :: p :: x58 z (x89 z i0 x2 = x89 z i0 x33) (x131 z i0))
abbrev x210 : List Prop := rf (2:Int) :: x135 z i0 (a = x98 z i0 x33) ((x47 z i0 x2 = x47 z i0 x33) :: p :: x58 z (x88 z i0 x2 = x88 z i0 x33) (x130 z i0))
abbrev x211 := x159 z i0 (VT.need [0 ≤ x0 i0 ∧ x0 i0 < x9 z, x31 i0 < z.b.N 0, i64In (x0 i0 + 1), 0 ≤ x0 i0 + 1 ∧ 0 < x9 z, 0 ≤ (x0 i0 + 1) % x9 z ∧ (x0 i0 + 1) % x9 z < x9 z, x53 z i0 < z.b.N 0] U) (VT.done ((z.b.N 0 ≤ z.b.N 0) :: (i0 ≤ i0) :: (x5 z ≤ x5 z) :: (x5 z ≤ x5 z) :: (z.b.N 0 = Lyt.nC (x37 z)) :: P))
abbrev x212 := VT.need [i64In (x0 i0 - 1), 0 ≤ x0 i0 - 1 ∧ x0 i0 - 1 < x9 z, x18 (x0 i0 - 1) < z.b.N 0] (x76 (x0 i0 - 1) (VT.done ((x0 i0 - 1 = (↑(x102 i0) : Int)) :: P)))
abbrev x213 : List Prop := [p, q, x23 z = Prf.nT (x50 z), ∀ i0 < Prf.nT (x50 z), x46 z i0 = Prf.T (x50 z) i0, x5 z = Prf.n0 (x50 z), ∀ i0 < Prf.n0 (x50 z), x20 z i0 (0:Nat) = Prf.A0 (x50 z) i0, ∀ i0 < Prf.n0 (x50 z), x21 z i0 (0:Nat) = Prf.A1 (x50 z) i0, x5 z = Prf.n1 (x50 z), ∀ i0 < Prf.n1 (x50 z), x20 z i0 (1:Nat) = Prf.B0 (x50 z) i0, ∀ i0 < Prf.n1 (x50 z), x21 z i0 (1:Nat) = Prf.B1 (x50 z) i0, 0 = x155 z]
abbrev x214 := x76 (2:Int) (x51 (0 ≤ x9 z ∧ rf (x9 z) ∧ x9 z ≤ 140737488355328 ∧ TypeInfo.bytes x125 * x81 z ≤ 281474976710656) (x143 z ((x9 z = (↑(x81 z) : Int)) :: P) (x81 z) j18a))
abbrev x215 := x126 z ((x63 z (0:Int) = true → p) :: x126 z (x126 z P))
abbrev x216 := x19 ((x63 z x26 = true → p) :: x158 z P) (x63 z x26)
abbrev x217 := if i0 ≤ i1 then (x16 z x3 i1) else (0:Int)
abbrev x218 := x76 (x0 i0 + 1) (VT.done (x160 i0 :: x60 z P))
abbrev x219 := VT.ite (x92 (x20 z i0 x2) (x12 a)) (x122 z i0 P) U
abbrev x220 := VT.ite (x92 (x21 z i0 x2) (x12 a)) (x122 z i0 P) U
abbrev x221 := VT.ite (x92 (x20 z i0 x3) (x12 a)) (x123 z i0 P) U
abbrev x222 := VT.ite (x92 (x21 z i0 x3) (x12 a)) (x123 z i0 P) U
abbrev x223 := x34 (x34 (x34 P (x85 z i0)) (x85 z i0)) (x85 z i0)
abbrev x224 := x34 (x34 (x34 P (x86 z i0)) (x86 z i0)) (x86 z i0)
abbrev x225 := x34 (x34 (x34 P (x90 z i0)) (x90 z i0)) (x90 z i0)
abbrev x226 := x34 (x34 (x34 P (x91 z i0)) (x91 z i0)) (x91 z i0)
abbrev x227 := x101 (x34 (x100 (x20 z i0 x2) (x20 z i0 x2)) (x20 z i0 x2)) U
abbrev x228 := x101 (x34 (x100 (x20 z i0 x3) (x20 z i0 x3)) (x20 z i0 x3)) U
abbrev x229 := x198 z i0 (x88 z i0 x33 = x88 z i0 x61) (x47 z i0 x33)
abbrev x230 := x199 z i0 (x89 z i0 x33 = x89 z i0 x61) (x48 z i0 x33)
abbrev x231 := x209 z i0 (x83 z i0 x2 = x83 z i0 x33) (x91 z i0)
abbrev x232 := x210 z i0 (x82 z i0 x2 = x82 z i0 x33) (x90 z i0)
abbrev x233 := x101 (x177 (x142 x26 a :: x177 (x100 x26 x26))) U
abbrev x234 := x97 (x34 (x100 (x21 z i0 x2) (x21 z i0 x2)) (x21 z i0 x2)) U
abbrev x235 := x97 (x34 (x100 (x21 z i0 x3) (x21 z i0 x3)) (x21 z i0 x3)) U
abbrev x236 := x138 z i0 (x73 x55 (x47 z i0 x33) :: x138 z i0 (x138 z i0 (x138 z i0 P)))
abbrev x237 := x139 z i0 (x73 x55 (x48 z i0 x33) :: x139 z i0 (x139 z i0 (x139 z i0 P)))
abbrev x238 := x19 [x39 (x52 z) = true → p, ri (x39 (x52 z) = true)] (x39 (x52 z))
abbrev x239 := List.getD [x27 z (x31 i0) (0:Nat), x27 z (x31 i0) (1:Nat)] (x132 (x84 z x3 i0)) 0
abbrev x240 := x204 z i0 ((x83 z i0 x3 = x83 z i0 x2) :: x58 z (x89 z i0 x3 = x89 z i0 x2) (x131 z i0)) (x86 z i0)
abbrev x241 := x205 z i0 ((x82 z i0 x3 = x82 z i0 x2) :: x58 z (x88 z i0 x3 = x88 z i0 x2) (x130 z i0)) (x85 z i0)
abbrev x242 := x51 p (VT.ite ((0:Int) != (0:Int)) (VT.done (x194 z [Prf.n1 (x50 z) = 0, 0 = x155 z])) U)
abbrev x243 := x136 (VT.need (x140 (x137 ((0:Int) ≤ (9223372036854775807:Int)) (0:Int)) (0:Int)) (x51 (x171 z i0 (0:Int) (x75 z i0 (0:Int))) U)) j21a
abbrev x244 := x76 (1:Int) (x136 (VT.need (x140 (x151 (1:Int) (1:Int)) (1:Int)) (x51 (x171 z i0 (1:Int) (x75 z i0 (1:Int))) U)) j21a)
abbrev x245 := x76 (2:Int) (x136 (VT.need (x140 (x151 (2:Int) (2:Int)) (2:Int)) (x51 (x170 z i0 (0:Int) (x74 z i0 (0:Int))) U)) j21a)
abbrev x246 := x76 (3:Int) (x136 (VT.need (x140 (x151 (3:Int) (3:Int)) (3:Int)) (x51 (x170 z i0 (1:Int) (x74 z i0 (1:Int))) U)) j21a)
abbrev x247 := x76 (1:Int) (x97 [0 ≤ x9 z ∧ x9 z < (↑(i0 + 1) : Int), x55, x18 (x9 z) < i0 + 1] (VT.need (x19 (x19 P (x39 (x52 z))) (x39 (x52 z))) U))
abbrev x248 := VT.ite (if (x39 (x52 z)) = true then g else false) (x214 z (x144 z (1 = x84 z x2 (x81 z)) (x71 z (x208 z i0 (∀ (i0 : Nat), x188 z i0 (x16 z x2 i0))))) (fun i0 => x184 i0 (x97 (x203 z i0 (x24 (x84 z x2 i0) (x84 z x2 i0)) (x84 z x2 i0)) (x212 z i0 (x144 z (x178 z i0 = x84 z x2 (x102 i0)) (x197 z i0 (∀ (i1 : Nat), x180 z i0 i1 (x186 i0 i1 (x178 z i0) (x173 z i0 i1)) (x16 z x2 i1)))))) (x143 z (x144 z x156 (x190 z (∀ i1 < z.b.N 0, x173 z i0 i1 = x16 z x2 i1))) x3 (fun i0 => x211 z i0 (x192 z i0 (∀ (i0 : Nat), x185 z i0 (x16 z x2 i0)) ((∀ (i0 : Nat), x195 z i0 (x16 z x2 i0)) :: (∀ (i0 : Nat), x196 z i0 (x16 z x2 i0)) :: (∀ (i0 : Nat), x116 z i0 (x49 z x2 i0) (Lyt.Ln (x37 z) i0)) :: x213 z (∀ (i0 : Nat), x183 z i0 (∀ i1 < Lyt.nP (x37 z) i0, List.getD (x36 z (x49 z x2 i0) false) i1 0 = Lyt.P (x37 z) i0 i1) (x49 z x2 i0)) (∀ (i0 : Nat), x182 z i0 (∀ i1 < Lyt.nQ (x37 z) i0, List.getD (x36 z (x49 z x2 i0) true) i1 0 = Lyt.Q (x37 z) i0 i1) (x49 z x2 i0)))) (VT.need [x104 z (x117 z i0) (53:Nat) [dI (x0 i0), dI (x57 z i0)], x187 z i0 (x117 z i0) (x191 (x153 z i0 (x117 z i0)) (x154 z i0 (x117 z i0))), x104 z (x78 z i0) (54:Nat) [dI (x0 i0), dI (x57 z i0), dI (x16 z x2 (x53 z i0))]] (x202 i0 (x200 z (x78 z i0) [DV.agg [x25 (x94 z (x78 z i0)) (fun i1 => dI (List.getD (x36 z (x78 z i0) false) i1 0)), x25 (x93 z (x78 z i0)) (fun i1 => dI (List.getD (x36 z (x78 z i0) true) i1 0))], dB (okL z.nB z.B z.nO z.O z.W z.G z.L (x78 z i0))]) (x144 z (x160 i0) (x207 z i0 (∀ (i0 : Nat), x6 z i0 (x16 z x2 i0)) ((∀ i1 < x44 i0, x95 i0 i1 (ruX z.b z.G z.W i1 (x16 z x2 i1)) (x153 z i0 (x117 z i0)) = ruX z.b z.G z.W i1 (x16 z x2 i1)) :: (∀ i1 < x44 i0, x95 i0 i1 (ruY z.b z.G z.W i1 (x16 z x2 i1)) (x154 z i0 (x117 z i0)) = ruY z.b z.G z.W i1 (x16 z x2 i1)) :: (∀ i1 < x44 i0, x95 i0 i1 (x49 z x2 i1) (x78 z i0) = x49 z x2 i1) :: x189 z i0 (∀ i1 < x44 i0, x152 i0 i1 (x94 z (x49 z x2 i1)) (x94 z (x78 z i0)) = x94 z (x49 z x2 i1) ∧ (∀ i2 < x94 z (x49 z x2 i1), x95 i0 i1 (x128 z i2 (x49 z x2 i1)) (x128 z i2 (x78 z i0)) = x128 z i2 (x49 z x2 i1))) (∀ i1 < x44 i0, x152 i0 i1 (x93 z (x49 z x2 i1)) (x93 z (x78 z i0)) = x93 z (x49 z x2 i1) ∧ (∀ i2 < x93 z (x49 z x2 i1), x95 i0 i1 (x127 z i2 (x49 z x2 i1)) (x127 z i2 (x78 z i0)) = x127 z i2 (x49 z x2 i1)))))))))))) U
abbrev xt : VT := x242 z (x157 (49:Nat) [bld z.b, DV.agg (x79 z [])] [x80 z, dI 0]) (x242 z (x157 (50:Nat) [x80 z] (x119 z [dI 0])) (x51 x59 (VT.need [x59, x59] (x51 (x193 z) (x143 z (x156 :: x60 z (x64 (x64 (rf (x9 z) :: x145 :: (∀ (i0 : Nat), x150 i0 (x20 z i0 (0:Nat))) :: (∀ i0 < x3 + 1, x26 = x21 z i0 (0:Nat)) :: x145 :: (∀ (i0 : Nat), x150 i0 (x27 z i0 (0:Nat))) :: (∀ (i0 : Nat), x150 i0 (x27 z i0 (1:Nat))) :: (0 = x45 z x3 x3) :: x58 z (x26 = x32 z x3 x3) (x15 (x145 :: x10 (x15 (x145 :: x10 (x30 z (x56 [])))))))))) x3 (fun i0 => x159 z i0 (x243 z i0 (x228 z i0 (x221 z i0 (x206 z i0 (x26 = x99 z i0 x3)) (x75 z i0 (0:Int)) (x233 (x169 z i0) (VT.ite (x92 x26 (decide ((x169 z i0) < x26))) (x101 [i64In (x169 z i0), x59, x59] (x123 z i0 (x206 z i0 (x169 z i0 = x99 z i0 x3)))) (x123 z i0 (x206 z i0 (x26 = x99 z i0 x3))))))) (fun (i1 : PUnit) => x244 z i0 (x228 z i0 (x221 z i0 (x240 z i0) (x75 z i0 (1:Int)) (x97 (x34 (x73 x59 (x86 z i0) :: x224 z i0 (x142 (x86 z i0) (x168 z i0) :: x34 (x73 x55 (x86 z i0) :: x224 z i0 (x100 (x86 z i0) (x86 z i0))) (x86 z i0))) (x86 z i0)) (VT.ite (x92 (x86 z i0) (decide ((x168 z i0) < (x86 z i0)))) (x101 [i64In (x168 z i0), x55, x55] (x123 z i0 (x204 z i0 ((x83 z i0 x3 = x83 z i0 x2) :: x58 z (0 = x89 z i0 x2) (x131 z i0)) (x168 z i0)))) (x123 z i0 (x240 z i0)))))) (fun (i1 : PUnit) => x245 z i0 (x235 z i0 (x222 z i0 (x231 z i0) (x74 z i0 (0:Int)) (x101 (x34 (x73 x55 (x91 z i0) :: x226 z i0 (x142 (x91 z i0) (x165 z i0) :: x34 (x73 x59 (x91 z i0) :: x226 z i0 (x100 (x91 z i0) (x91 z i0))) (x91 z i0))) (x91 z i0)) (VT.ite (x92 (x91 z i0) (decide ((x165 z i0) < (x91 z i0)))) (x97 [i64In (x165 z i0), x59, x59] (x123 z i0 (x209 z i0 (1 = x83 z i0 x33) (x165 z i0)))) (x123 z i0 (x231 z i0)))))) (fun (i1 : PUnit) => x246 z i0 (x235 z i0 (x222 z i0 (x230 z i0) (x74 z i0 (1:Int)) (x97 (x237 z i0 (x142 (x48 z i0 x33) (x164 z i0) :: x237 z i0 (x100 (x48 z i0 x33) (x48 z i0 x33)))) (VT.ite (x92 (x48 z i0 x33) (decide ((x164 z i0) < (x48 z i0 x33)))) (x97 [i64In (x164 z i0), x55, x55] (x123 z i0 (x199 z i0 (1 = x89 z i0 x61) (x164 z i0)))) (x123 z i0 (x230 z i0)))))) (fun (i1 : PUnit) => x76 (4:Int) (x101 (x176 i0 (x59 :: x176 i0 [x59, x59])) (x218 z i0 (x64 (x64 (rf (x9 z) :: x146 i0 :: (∀ (i1 : Nat), x147 i0 i1 (x141 i0 i1 (x45 z (0:Nat) i1) (x99 z i0 x61)) (x45 z (0:Nat) i1)) :: (∀ (i1 : Nat), x147 i0 i1 (x141 i0 i1 (x32 z (0:Nat) i1) (x48 z i0 x61)) (x32 z (0:Nat) i1)) :: x146 i0 :: (∀ (i1 : Nat), x147 i0 i1 (x141 i0 i1 (x27 z i1 (0:Nat)) (x83 z i0 x61)) (x27 z i1 (0:Nat))) :: (∀ (i1 : Nat), x147 i0 i1 (x141 i0 i1 (x27 z i1 (1:Nat)) (x89 z i0 x61)) (x27 z i1 (1:Nat))) :: (x99 z i0 x61 = x45 z x3 (x44 i0)) :: x58 z (x48 z i0 x61 = x32 z x3 (x44 i0)) (x15 (x146 i0 :: x10 (x15 (x146 i0 :: x10 (x30 z (x56 (x161 z i0))))))))))))))))) (x76 (1:Int) (x51 x55 (VT.need [x55, x55] (x51 (x193 z) (x143 z (x156 :: x60 z (x62 (x62 (rf (x9 z) :: (i0 + 1 = x5 z) :: x67 z :: x68 z (x145 :: (∀ i0 < x3 + 1, x26 = x20 z i0 (1:Nat)) :: (∀ (i0 : Nat), x150 i0 (x21 z i0 (1:Nat))) :: (i0 + 1 = x5 z) :: x65 z :: x66 z (x145 :: (∀ (i0 : Nat), x150 i0 (x40 z i0 (0:Nat))) :: (∀ (i0 : Nat), x150 i0 (x40 z i0 (1:Nat))) :: (x26 = x45 z x2 x3) :: x58 z (0 = x32 z x2 x3) (x15 ((i0 + 1 = x5 z) :: x15 (x145 :: x15 ((i0 + 1 = x5 z) :: x15 (x145 :: x30 z (x56 [])))))))))))) x3 (fun i0 => x159 z i0 (x243 z i0 (x227 z i0 (x219 z i0 (x201 z i0 (x26 = x98 z i0 x3)) (x75 z i0 (0:Int)) (x233 (x167 z i0) (VT.ite (x92 x26 (decide ((x167 z i0) < x26))) (x101 [i64In (x167 z i0), x59, x59] (x122 z i0 (x201 z i0 (x167 z i0 = x98 z i0 x3)))) (x122 z i0 (x201 z i0 (x26 = x98 z i0 x3))))))) (fun (i1 : PUnit) => x244 z i0 (x227 z i0 (x219 z i0 (x241 z i0) (x75 z i0 (1:Int)) (x97 (x34 (x73 x59 (x85 z i0) :: x223 z i0 (x142 (x85 z i0) (x166 z i0) :: x34 (x73 x55 (x85 z i0) :: x223 z i0 (x100 (x85 z i0) (x85 z i0))) (x85 z i0))) (x85 z i0)) (VT.ite (x92 (x85 z i0) (decide ((x166 z i0) < (x85 z i0)))) (x101 [i64In (x166 z i0), x55, x55] (x122 z i0 (x205 z i0 ((x82 z i0 x3 = x82 z i0 x2) :: x58 z (0 = x88 z i0 x2) (x130 z i0)) (x166 z i0)))) (x122 z i0 (x241 z i0)))))) (fun (i1 : PUnit) => x245 z i0 (x234 z i0 (x220 z i0 (x232 z i0) (x74 z i0 (0:Int)) (x101 (x34 (x73 x55 (x90 z i0) :: x225 z i0 (x142 (x90 z i0) (x163 z i0) :: x34 (x73 x59 (x90 z i0) :: x225 z i0 (x100 (x90 z i0) (x90 z i0))) (x90 z i0))) (x90 z i0)) (VT.ite (x92 (x90 z i0) (decide ((x163 z i0) < (x90 z i0)))) (x97 [i64In (x163 z i0), x59, x59] (x122 z i0 (x210 z i0 (1 = x82 z i0 x33) (x163 z i0)))) (x122 z i0 (x232 z i0)))))) (fun (i1 : PUnit) => x246 z i0 (x234 z i0 (x220 z i0 (x229 z i0) (x74 z i0 (1:Int)) (x97 (x236 z i0 (x142 (x47 z i0 x33) (x162 z i0) :: x236 z i0 (x100 (x47 z i0 x33) (x47 z i0 x33)))) (VT.ite (x92 (x47 z i0 x33) (decide ((x162 z i0) < (x47 z i0 x33)))) (x97 [i64In (x162 z i0), x55, x55] (x122 z i0 (x198 z i0 (1 = x88 z i0 x61) (x162 z i0)))) (x122 z i0 (x229 z i0)))))) (fun (i1 : PUnit) => x76 (4:Int) (x97 (x176 i0 (x55 :: x176 i0 [x55, x55])) (x218 z i0 (x62 (x62 (rf (x9 z) :: x71 z (x146 i0 :: (∀ (i1 : Nat), x147 i0 i1 (x141 i0 i1 (x45 z (1:Nat) i1) (x98 z i0 x61)) (x45 z (1:Nat) i1)) :: x70 z (∀ (i1 : Nat), x147 i0 i1 (x141 i0 i1 (x32 z (1:Nat) i1) (x47 z i0 x61)) (x32 z (1:Nat) i1)) (x146 i0 :: (∀ (i1 : Nat), x147 i0 i1 (x141 i0 i1 (x40 z i1 (0:Nat)) (x82 z i0 x61)) (x40 z i1 (0:Nat))) :: (∀ (i1 : Nat), x147 i0 i1 (x141 i0 i1 (x40 z i1 (1:Nat)) (x88 z i0 x61)) (x40 z i1 (1:Nat))) :: (x98 z i0 x61 = x45 z x2 (x44 i0)) :: x58 z (x47 z i0 x61 = x32 z x2 (x44 i0)) (x54 z (x146 i0 :: x54 z (x146 i0 :: x30 z (x56 (x161 z i0))))))))))))))))) (x76 (2:Int) (x51 (x193 z) (x101 [x175 z, x59, x172 z] (VT.need (x19 (x19 (x19 (x19 (x181 z x174 (x19 (x181 z (x175 z) ((x103 z = true → x174) :: x19 (x181 z (x172 z) (x19 [x39 (x69 z) = true → x12 x26 = false → x103 z = true, ri (x39 (x69 z) = true)] (x39 (x69 z)))) (x103 z))) (x103 z))) (x103 z)) (x103 z)) (x39 (x69 z))) (x39 (x69 z))) (VT.ite (if (x39 (x69 z)) = true then (x92 x26 (decide ((x69 z) < (x69 z)))) else false) (x247 z i0 (x126 z (x126 z ((x63 z (0:Int) = true → x59) :: x126 z (x126 z (x215 z (x175 z) ((x63 z (0:Int) = true → x59) :: x215 z (x172 z) (x238 z (x12 (0:Int) = false → x63 z (0:Int) = true)))))))) (x248 z i0 (x92 (0:Int) (decide ((x52 z) < (x69 z)))) (x214 z ((0 = x84 z x3 (x81 z)) :: x60 z (rf (x9 z) :: x64 (x71 z (x208 z i0 (∀ (i0 : Nat), x188 z i0 (x16 z x3 i0)))))) (fun i0 => x184 i0 (x101 (x203 z i0 (x24 (x84 z x3 i0) (x84 z x3 i0)) (x84 z x3 i0)) (x212 z i0 (x179 z (x239 z i0 = x84 z x3 (x102 i0)) (x197 z i0 (∀ (i1 : Nat), x180 z i0 i1 (x186 i0 i1 (x239 z i0) (x217 z i0 i1)) (x16 z x3 i1)))))) (x143 z (x179 z x156 (x190 z (∀ i1 < z.b.N 0, x217 z i0 i1 = x16 z x3 i1))) x3 (fun i0 => x211 z i0 (x192 z i0 (∀ (i0 : Nat), x185 z i0 (x16 z x3 i0)) ((∀ (i0 : Nat), x195 z i0 (x16 z x3 i0)) :: (∀ (i0 : Nat), x196 z i0 (x16 z x3 i0)) :: (∀ (i0 : Nat), x116 z i0 (x49 z x3 i0) (Lyt.Ln (x37 z) i0)) :: x213 z (∀ (i0 : Nat), x183 z i0 (∀ i1 < Lyt.nP (x37 z) i0, List.getD (x36 z (x49 z x3 i0) false) i1 0 = Lyt.P (x37 z) i0 i1) (x49 z x3 i0)) (∀ (i0 : Nat), x182 z i0 (∀ i1 < Lyt.nQ (x37 z) i0, List.getD (x36 z (x49 z x3 i0) true) i1 0 = Lyt.Q (x37 z) i0 i1) (x49 z x3 i0)))) (VT.need [x104 z (x149 z i0) (53:Nat) [dI (x0 i0), dI (x87 z i0)], x187 z i0 (x149 z i0) (x191 (x153 z i0 (x149 z i0)) (x154 z i0 (x149 z i0))), x104 z (x120 z i0) (54:Nat) [dI (x0 i0), dI (x87 z i0), dI (x16 z x3 (x53 z i0))]] (x202 i0 (x200 z (x120 z i0) [DV.agg [x25 (x94 z (x120 z i0)) (fun i1 => dI (List.getD (x36 z (x120 z i0) false) i1 0)), x25 (x93 z (x120 z i0)) (fun i1 => dI (List.getD (x36 z (x120 z i0) true) i1 0))], dB (okL z.nB z.B z.nO z.O z.W z.G z.L (x120 z i0))]) (x179 z (x160 i0) (x207 z i0 (∀ (i0 : Nat), x6 z i0 (x16 z x3 i0)) ((∀ i1 < x44 i0, x95 i0 i1 (ruX z.b z.G z.W i1 (x16 z x3 i1)) (x153 z i0 (x149 z i0)) = ruX z.b z.G z.W i1 (x16 z x3 i1)) :: (∀ i1 < x44 i0, x95 i0 i1 (ruY z.b z.G z.W i1 (x16 z x3 i1)) (x154 z i0 (x149 z i0)) = ruY z.b z.G z.W i1 (x16 z x3 i1)) :: (∀ i1 < x44 i0, x95 i0 i1 (x49 z x3 i1) (x120 z i0) = x49 z x3 i1) :: x189 z i0 (∀ i1 < x44 i0, x152 i0 i1 (x94 z (x49 z x3 i1)) (x94 z (x120 z i0)) = x94 z (x49 z x3 i1) ∧ (∀ i2 < x94 z (x49 z x3 i1), x95 i0 i1 (x128 z i2 (x49 z x3 i1)) (x128 z i2 (x120 z i0)) = x128 z i2 (x49 z x3 i1))) (∀ i1 < x44 i0, x152 i0 i1 (x93 z (x49 z x3 i1)) (x93 z (x120 z i0)) = x93 z (x49 z x3 i1) ∧ (∀ i2 < x93 z (x49 z x3 i1), x95 i0 i1 (x127 z i2 (x49 z x3 i1)) (x127 z i2 (x120 z i0)) = x127 z i2 (x49 z x3 i1)))))))))))))) (x247 z i0 (x158 z ((x63 z x26 = true → x174) :: x158 z (x216 z (x175 z) ((x63 z x26 = true → x174) :: x216 z (x172 z) (x238 z (x12 x26 = false → x63 z x26 = true)))))) (x248 z i0 (x92 x26 (decide ((x52 z) < (x69 z)))) (x76 (2:Int) (VT.done (x194 z [Prf.n1 (x50 z) = 0, 13 = x155 z]))))))))))))))))))))))
end
end w4i
open w4i in
theorem bestC_c (b : Bld) (nB : Nat) (B : Nat → Int) (nO : Nat) (O : Nat → Int) (W G L : Int) (hN : ∀ i, i < b.nS → b.N i ≤ 1000) (h0 : arE b nB B nO O W G L = 0) (hm : mgE (lonG (b.N 0) (b.X 0) (b.Y 0) G W (4 * b.N 0)) (bkdU nB B nO O W G L) = 0) (hl : ∀ i, i < b.N 0 → ruL (b.N 0) (b.X 0) (b.Y 0) G W (i : Nat) 1 0 ≤ 4000 * (uRI nB B nO O)) : FnC prog 17 [bld b, Lay.sys nB B nO O W G L] (.tup [lyt (bLy b nB B nO O W G L (bstI b nB B nO O W G).toNat), prf (bPr b nB B nO O W G L), dI (bE b nB B nO O W G)]) := by
  refine FnC_owed hmix (A17_bestC_c b nB B nO O W G L) (V := xt ⟨b, nB, B, nO, O, W, G, L⟩) (by kernel_rfl) ?_
  simp only [xt, x0, x1, x2, x3, x4, x5, x6, x7, x8, x9, x10, x11, x12, x13, x14, x15, x16, x17, x18, x19, x20, x21, x22, x23, x24, x25, x26, x27, x28, x29, x30, x31, x32, x33, x34, x35, x36, x37, x38, x39, x40, x41, x42, x43, x44, x45, x46, x47, x48, x49, x50, x51, x52, x53, x54, x55, x56, x57, x58, x59, x60, x61, x62, x63, x64, x65, x66, x67, x68, x69, x70, x71, x72, x73, x74, x75, x76, x77, x78, x79, x80, x81, x82, x83, x84, x85, x86, x87, x88, x89, x90, x91, x92, x93, x94, x95, x96, x97, x98, x99, x100, x101, x102, x103, x104, x105, x106, x107, x108, x109, x110, x111, x112, x113, x114, x115, x116, x117, x118, x119, x120, x121, x122, x123, x124, x125, x126, x127, x128, x129, x130, x131, x132, x133, x134, x135, x136, x137, x138, x139, x140, x141, x142, x143, x144, x145, x146, x147, x148, x149, x150, x151, x152, x153, x154, x155, x156, x157, x158, x159, x160, x161, x162, x163, x164, x165, x166, x167, x168, x169, x170, x171, x172, x173, x174, x175, x176, x177, x178, x179, x180, x181, x182, x183, x184, x185, x186, x187, x188, x189, x190, x191, x192, x193, x194, x195, x196, x197, x198, x199, x200, x201, x202, x203, x204, x205, x206, x207, x208, x209, x210, x211, x212, x213, x214, x215, x216, x217, x218, x219, x220, x221, x222, x223, x224, x225, x226, x227, x228, x229, x230, x231, x232, x233, x234, x235, x236, x237, x238, x239, x240, x241, x242, x243, x244, x245, x246, x247, x248, Rf, VT.holds, AllT, Sq, Int.reduceToNat, Int.toNat_one, addN_eq, Nat.zero_add]
  obtain ⟨hc, hs, _, _, _, _, _⟩ := ar_zero h0
  obtain ⟨b1, b2, b3, b4, b5⟩ := b0_ok hc
  have hn4 := chk_n b2
  obtain ⟨hX, hY⟩ := chk_inB b2
  have g1 := (sys_wgl hs).1
  refine ⟨aroundO_c b nB B nO O W G L hN h0, fun h => absurd trivial h, fun _ => ⟨?_, fun h => absurd trivial h, fun _ => ⟨by omega, ⟨by omega, by omega⟩, n_c _ _ _ _ _ _ _ _ _ _ _ _ _ _ _, ⟨rfl, fun j hj => (by rw [show j = 0 by omega]; rfl), fun j hj => (by rw [show j = 0 by omega]; rfl), fun j hj => (by rw [show j = 0 by omega]; rfl), fun j hj => (by rw [show j = 0 by omega]; rfl), rfl, rfl⟩, Nat.zero_le _, fun i hi => ⟨fun hlt => ?_, fun hge => ?_⟩⟩⟩⟩
  · have h := measuredR_c b nB B nO O W G L (by omega) (by omega) hX hY g1 hs
    have hm' : mgE (lonG (b.N 0) (b.X 0) (b.Y 0) G W (4 * b.N 0)) (Lay.catU nB B nO O W G L : Nat) = 0 := hm
    rw [hm'] at h
    exact h
  · skip
    have hc0 := code_b b nB B nO O W G L i 0 0 h0 hm (show i < b.N 0 by omega) (by omega) (by omega)
    have hk0 := cd_bd hs (rl_le h0 hl (show i < b.N 0 by omega) (a := 0) (e := 0) (by omega) (by omega)).1
    have hc1 := code_b b nB B nO O W G L i 0 1 h0 hm (show i < b.N 0 by omega) (by omega) (by omega)
    have hk1 := cd_bd hs (rl_le h0 hl (show i < b.N 0 by omega) (a := 0) (e := 1) (by omega) (by omega)).1
    have hc2 := code_b b nB B nO O W G L i 1 0 h0 hm (show i < b.N 0 by omega) (by omega) (by omega)
    have hk2 := cd_bd hs (rl_le h0 hl (show i < b.N 0 by omega) (a := 1) (e := 0) (by omega) (by omega)).1
    have hc3 := code_b b nB B nO O W G L i 1 1 h0 hm (show i < b.N 0 by omega) (by omega) (by omega)
    have hk3 := cd_bd hs (rl_le h0 hl (show i < b.N 0 by omega) (a := 1) (e := 1) (by omega) (by omega)).1
    have d0 := dX_bd h0 hl 0 i 0 hi
    have d1 := dX_bd h0 hl 0 i 1 hi
    exact ⟨⟨⟨by omega, by omega⟩, hc0, by omega, fun h => ⟨z_not (f := 0) (c := 0) (e := 0) (x := dX b nB B nO O W G 0 i 0) (k := cdR nB B nO O (rlC b G W i 0 0)) rfl rfl (fun hx => by omega), z_no (f := 0) (c := 0) (e := 1) (by decide), w_not (f := 0) (c := 0) (e := 0) (x := dX b nB B nO O W G 0 i 0) (k := cdR nB B nO O (rlC b G W i 0 0)) rfl rfl (fun hx => by omega), w_no (f := 0) (c := 0) (e := 1) (by decide)⟩, fun hn => ⟨⟨by omega, fun _ => by omega, fun _ => (by unfold i64In; omega), fun _ => by omega⟩, fun h => ⟨⟨by omega, (by unfold i64In; omega), by omega, by omega⟩, z_yes (f := 0) (c := 0) (e := 0) (x := dX b nB B nO O W G 0 i 0) (k := cdR nB B nO O (rlC b G W i 0 0)) rfl rfl rfl ⟨⟨by omega, by omega⟩, h⟩, z_no (f := 0) (c := 0) (e := 1) (by decide), w_yes (f := 0) (c := 0) (e := 0) (x := dX b nB B nO O W G 0 i 0) (k := cdR nB B nO O (rlC b G W i 0 0)) rfl rfl rfl ⟨⟨by omega, by omega⟩, h⟩, w_no (f := 0) (c := 0) (e := 1) (by decide)⟩, fun h => ⟨z_not (f := 0) (c := 0) (e := 0) (x := dX b nB B nO O W G 0 i 0) (k := cdR nB B nO O (rlC b G W i 0 0)) rfl rfl (fun _ => h), z_no (f := 0) (c := 0) (e := 1) (by decide), w_not (f := 0) (c := 0) (e := 0) (x := dX b nB B nO O W G 0 i 0) (k := cdR nB B nO O (rlC b G W i 0 0)) rfl rfl (fun _ => h), w_no (f := 0) (c := 0) (e := 1) (by decide)⟩⟩⟩, fun _ _ => ⟨(by unfold i64In; omega), ⟨⟨⟨by omega, by omega⟩, hc1, by omega, fun h => ⟨z_no (f := 0) (c := 1) (e := 0) (by decide), z_not (f := 0) (c := 1) (e := 1) (x := dX b nB B nO O W G 0 i 0) (k := cdR nB B nO O (rlC b G W i 0 1)) rfl rfl (fun hx => by omega), w_no (f := 0) (c := 1) (e := 0) (by decide), w_not (f := 0) (c := 1) (e := 1) (x := dX b nB B nO O W G 0 i 0) (k := cdR nB B nO O (rlC b G W i 0 1)) rfl rfl (fun hx => by omega)⟩, fun hn => ⟨⟨by omega, fun _ => by omega, fun _ => (by unfold i64In; omega), fun _ => by omega⟩, fun h => ⟨⟨by omega, (by unfold i64In; omega), by omega, by omega⟩, z_no (f := 0) (c := 1) (e := 0) (by decide), z_yes (f := 0) (c := 1) (e := 1) (x := dX b nB B nO O W G 0 i 0) (k := cdR nB B nO O (rlC b G W i 0 1)) rfl rfl rfl ⟨⟨by omega, by omega⟩, h⟩, w_no (f := 0) (c := 1) (e := 0) (by decide), w_yes (f := 0) (c := 1) (e := 1) (x := dX b nB B nO O W G 0 i 0) (k := cdR nB B nO O (rlC b G W i 0 1)) rfl rfl rfl ⟨⟨by omega, by omega⟩, h⟩⟩, fun h => ⟨z_no (f := 0) (c := 1) (e := 0) (by decide), z_not (f := 0) (c := 1) (e := 1) (x := dX b nB B nO O W G 0 i 0) (k := cdR nB B nO O (rlC b G W i 0 1)) rfl rfl (fun _ => h), w_no (f := 0) (c := 1) (e := 0) (by decide), w_not (f := 0) (c := 1) (e := 1) (x := dX b nB B nO O W G 0 i 0) (k := cdR nB B nO O (rlC b G W i 0 1)) rfl rfl (fun _ => h)⟩⟩⟩, fun _ _ => ⟨(by unfold i64In; omega), ⟨⟨⟨by omega, by omega⟩, hc2, by omega, fun h => ⟨z_not (f := 0) (c := 2) (e := 0) (x := dX b nB B nO O W G 0 i 1) (k := cdR nB B nO O (rlC b G W i 1 0)) rfl rfl (fun hx => by omega), z_no (f := 0) (c := 2) (e := 1) (by decide), w_not (f := 0) (c := 2) (e := 0) (x := dX b nB B nO O W G 0 i 1) (k := cdR nB B nO O (rlC b G W i 1 0)) rfl rfl (fun hx => by omega), w_no (f := 0) (c := 2) (e := 1) (by decide)⟩, fun hn => ⟨⟨by omega, fun _ => by omega, fun _ => (by unfold i64In; omega), fun _ => by omega⟩, fun h => ⟨⟨by omega, (by unfold i64In; omega), by omega, by omega⟩, z_yes (f := 0) (c := 2) (e := 0) (x := dX b nB B nO O W G 0 i 1) (k := cdR nB B nO O (rlC b G W i 1 0)) rfl rfl rfl ⟨⟨by omega, by omega⟩, h⟩, z_no (f := 0) (c := 2) (e := 1) (by decide), w_yes (f := 0) (c := 2) (e := 0) (x := dX b nB B nO O W G 0 i 1) (k := cdR nB B nO O (rlC b G W i 1 0)) rfl rfl rfl ⟨⟨by omega, by omega⟩, h⟩, w_no (f := 0) (c := 2) (e := 1) (by decide)⟩, fun h => ⟨z_not (f := 0) (c := 2) (e := 0) (x := dX b nB B nO O W G 0 i 1) (k := cdR nB B nO O (rlC b G W i 1 0)) rfl rfl (fun _ => h), z_no (f := 0) (c := 2) (e := 1) (by decide), w_not (f := 0) (c := 2) (e := 0) (x := dX b nB B nO O W G 0 i 1) (k := cdR nB B nO O (rlC b G W i 1 0)) rfl rfl (fun _ => h), w_no (f := 0) (c := 2) (e := 1) (by decide)⟩⟩⟩, fun _ _ => ⟨(by unfold i64In; omega), ⟨⟨⟨by omega, by omega⟩, hc3, by omega, fun h => ⟨z_no (f := 0) (c := 3) (e := 0) (by decide), z_not (f := 0) (c := 3) (e := 1) (x := dX b nB B nO O W G 0 i 1) (k := cdR nB B nO O (rlC b G W i 1 1)) rfl rfl (fun hx => by omega), w_no (f := 0) (c := 3) (e := 0) (by decide), w_not (f := 0) (c := 3) (e := 1) (x := dX b nB B nO O W G 0 i 1) (k := cdR nB B nO O (rlC b G W i 1 1)) rfl rfl (fun hx => by omega)⟩, fun hn => ⟨⟨by omega, fun _ => by omega, fun _ => (by unfold i64In; omega), fun _ => by omega⟩, fun h => ⟨⟨by omega, (by unfold i64In; omega), by omega, by omega⟩, z_no (f := 0) (c := 3) (e := 0) (by decide), z_yes (f := 0) (c := 3) (e := 1) (x := dX b nB B nO O W G 0 i 1) (k := cdR nB B nO O (rlC b G W i 1 1)) rfl rfl rfl ⟨⟨by omega, by omega⟩, h⟩, w_no (f := 0) (c := 3) (e := 0) (by decide), w_yes (f := 0) (c := 3) (e := 1) (x := dX b nB B nO O W G 0 i 1) (k := cdR nB B nO O (rlC b G W i 1 1)) rfl rfl rfl ⟨⟨by omega, by omega⟩, h⟩⟩, fun h => ⟨z_no (f := 0) (c := 3) (e := 0) (by decide), z_not (f := 0) (c := 3) (e := 1) (x := dX b nB B nO O W G 0 i 1) (k := cdR nB B nO O (rlC b G W i 1 1)) rfl rfl (fun _ => h), w_no (f := 0) (c := 3) (e := 0) (by decide), w_not (f := 0) (c := 3) (e := 1) (x := dX b nB B nO O W G 0 i 1) (k := cdR nB B nO O (rlC b G W i 1 1)) rfl rfl (fun _ => h)⟩⟩⟩, fun _ _ => ⟨(by unfold i64In; omega), by omega, by unfold i64In; omega, rfl, row_up (p := fun j => dX b nB B nO O W G 0 j 0) rfl, row_up (p := fun j => dX b nB B nO O W G 0 j 1) rfl, row_up (p := fun j => dF b nB B nO O W G 0 j 0) rfl, row_up (p := fun j => dF b nB B nO O W G 0 j 1) rfl, rfl, rfl, by omega, by omega⟩⟩⟩⟩⟩⟩⟩⟩
  obtain rfl : i = b.N 0 := by omega
  refine ⟨by unfold i64In; omega, by omega, ⟨by omega, by omega⟩, n_c _ _ _ _ _ _ _ _ _ _ _ _ _ _ _, ⟨rfl, rfl, fun j hj => (by rw [show j = 0 by omega]; rfl), fun j hj => (by rw [show j = 0 by omega]; rfl), rfl, fun j hj => (by rw [show j = 0 by omega]; rfl), fun j hj => (by rw [show j = 0 by omega]; rfl), rfl, rfl, rfl, rfl⟩, Nat.zero_le _, fun i hi => ⟨fun hlt => ?_, fun hge => ?_⟩⟩
  · skip
    have hc0 := code_b b nB B nO O W G L i 0 0 h0 hm (show i < b.N 0 by omega) (by omega) (by omega)
    have hk0 := cd_bd hs (rl_le h0 hl (show i < b.N 0 by omega) (a := 0) (e := 0) (by omega) (by omega)).1
    have hc1 := code_b b nB B nO O W G L i 0 1 h0 hm (show i < b.N 0 by omega) (by omega) (by omega)
    have hk1 := cd_bd hs (rl_le h0 hl (show i < b.N 0 by omega) (a := 0) (e := 1) (by omega) (by omega)).1
    have hc2 := code_b b nB B nO O W G L i 1 0 h0 hm (show i < b.N 0 by omega) (by omega) (by omega)
    have hk2 := cd_bd hs (rl_le h0 hl (show i < b.N 0 by omega) (a := 1) (e := 0) (by omega) (by omega)).1
    have hc3 := code_b b nB B nO O W G L i 1 1 h0 hm (show i < b.N 0 by omega) (by omega) (by omega)
    have hk3 := cd_bd hs (rl_le h0 hl (show i < b.N 0 by omega) (a := 1) (e := 1) (by omega) (by omega)).1
    have d0 := dX_bd h0 hl 1 i 0 hi
    have d1 := dX_bd h0 hl 1 i 1 hi
    exact ⟨⟨⟨by omega, by omega⟩, hc0, by omega, fun h => ⟨z_not (f := 1) (c := 0) (e := 0) (x := dX b nB B nO O W G 1 i 0) (k := cdR nB B nO O (rlC b G W i 0 0)) rfl rfl (fun hx => by omega), z_no (f := 1) (c := 0) (e := 1) (by decide), w_not (f := 1) (c := 0) (e := 0) (x := dX b nB B nO O W G 1 i 0) (k := cdR nB B nO O (rlC b G W i 0 0)) rfl rfl (fun hx => by omega), w_no (f := 1) (c := 0) (e := 1) (by decide)⟩, fun hn => ⟨⟨by omega, fun _ => by omega, fun _ => (by unfold i64In; omega), fun _ => by omega⟩, fun h => ⟨⟨by omega, (by unfold i64In; omega), by omega, by omega⟩, z_yes (f := 1) (c := 0) (e := 0) (x := dX b nB B nO O W G 1 i 0) (k := cdR nB B nO O (rlC b G W i 0 0)) rfl rfl rfl ⟨⟨by omega, by omega⟩, h⟩, z_no (f := 1) (c := 0) (e := 1) (by decide), w_yes (f := 1) (c := 0) (e := 0) (x := dX b nB B nO O W G 1 i 0) (k := cdR nB B nO O (rlC b G W i 0 0)) rfl rfl rfl ⟨⟨by omega, by omega⟩, h⟩, w_no (f := 1) (c := 0) (e := 1) (by decide)⟩, fun h => ⟨z_not (f := 1) (c := 0) (e := 0) (x := dX b nB B nO O W G 1 i 0) (k := cdR nB B nO O (rlC b G W i 0 0)) rfl rfl (fun _ => h), z_no (f := 1) (c := 0) (e := 1) (by decide), w_not (f := 1) (c := 0) (e := 0) (x := dX b nB B nO O W G 1 i 0) (k := cdR nB B nO O (rlC b G W i 0 0)) rfl rfl (fun _ => h), w_no (f := 1) (c := 0) (e := 1) (by decide)⟩⟩⟩, fun _ _ => ⟨(by unfold i64In; omega), ⟨⟨⟨by omega, by omega⟩, hc1, by omega, fun h => ⟨z_no (f := 1) (c := 1) (e := 0) (by decide), z_not (f := 1) (c := 1) (e := 1) (x := dX b nB B nO O W G 1 i 0) (k := cdR nB B nO O (rlC b G W i 0 1)) rfl rfl (fun hx => by omega), w_no (f := 1) (c := 1) (e := 0) (by decide), w_not (f := 1) (c := 1) (e := 1) (x := dX b nB B nO O W G 1 i 0) (k := cdR nB B nO O (rlC b G W i 0 1)) rfl rfl (fun hx => by omega)⟩, fun hn => ⟨⟨by omega, fun _ => by omega, fun _ => (by unfold i64In; omega), fun _ => by omega⟩, fun h => ⟨⟨by omega, (by unfold i64In; omega), by omega, by omega⟩, z_no (f := 1) (c := 1) (e := 0) (by decide), z_yes (f := 1) (c := 1) (e := 1) (x := dX b nB B nO O W G 1 i 0) (k := cdR nB B nO O (rlC b G W i 0 1)) rfl rfl rfl ⟨⟨by omega, by omega⟩, h⟩, w_no (f := 1) (c := 1) (e := 0) (by decide), w_yes (f := 1) (c := 1) (e := 1) (x := dX b nB B nO O W G 1 i 0) (k := cdR nB B nO O (rlC b G W i 0 1)) rfl rfl rfl ⟨⟨by omega, by omega⟩, h⟩⟩, fun h => ⟨z_no (f := 1) (c := 1) (e := 0) (by decide), z_not (f := 1) (c := 1) (e := 1) (x := dX b nB B nO O W G 1 i 0) (k := cdR nB B nO O (rlC b G W i 0 1)) rfl rfl (fun _ => h), w_no (f := 1) (c := 1) (e := 0) (by decide), w_not (f := 1) (c := 1) (e := 1) (x := dX b nB B nO O W G 1 i 0) (k := cdR nB B nO O (rlC b G W i 0 1)) rfl rfl (fun _ => h)⟩⟩⟩, fun _ _ => ⟨(by unfold i64In; omega), ⟨⟨⟨by omega, by omega⟩, hc2, by omega, fun h => ⟨z_not (f := 1) (c := 2) (e := 0) (x := dX b nB B nO O W G 1 i 1) (k := cdR nB B nO O (rlC b G W i 1 0)) rfl rfl (fun hx => by omega), z_no (f := 1) (c := 2) (e := 1) (by decide), w_not (f := 1) (c := 2) (e := 0) (x := dX b nB B nO O W G 1 i 1) (k := cdR nB B nO O (rlC b G W i 1 0)) rfl rfl (fun hx => by omega), w_no (f := 1) (c := 2) (e := 1) (by decide)⟩, fun hn => ⟨⟨by omega, fun _ => by omega, fun _ => (by unfold i64In; omega), fun _ => by omega⟩, fun h => ⟨⟨by omega, (by unfold i64In; omega), by omega, by omega⟩, z_yes (f := 1) (c := 2) (e := 0) (x := dX b nB B nO O W G 1 i 1) (k := cdR nB B nO O (rlC b G W i 1 0)) rfl rfl rfl ⟨⟨by omega, by omega⟩, h⟩, z_no (f := 1) (c := 2) (e := 1) (by decide), w_yes (f := 1) (c := 2) (e := 0) (x := dX b nB B nO O W G 1 i 1) (k := cdR nB B nO O (rlC b G W i 1 0)) rfl rfl rfl ⟨⟨by omega, by omega⟩, h⟩, w_no (f := 1) (c := 2) (e := 1) (by decide)⟩, fun h => ⟨z_not (f := 1) (c := 2) (e := 0) (x := dX b nB B nO O W G 1 i 1) (k := cdR nB B nO O (rlC b G W i 1 0)) rfl rfl (fun _ => h), z_no (f := 1) (c := 2) (e := 1) (by decide), w_not (f := 1) (c := 2) (e := 0) (x := dX b nB B nO O W G 1 i 1) (k := cdR nB B nO O (rlC b G W i 1 0)) rfl rfl (fun _ => h), w_no (f := 1) (c := 2) (e := 1) (by decide)⟩⟩⟩, fun _ _ => ⟨(by unfold i64In; omega), ⟨⟨⟨by omega, by omega⟩, hc3, by omega, fun h => ⟨z_no (f := 1) (c := 3) (e := 0) (by decide), z_not (f := 1) (c := 3) (e := 1) (x := dX b nB B nO O W G 1 i 1) (k := cdR nB B nO O (rlC b G W i 1 1)) rfl rfl (fun hx => by omega), w_no (f := 1) (c := 3) (e := 0) (by decide), w_not (f := 1) (c := 3) (e := 1) (x := dX b nB B nO O W G 1 i 1) (k := cdR nB B nO O (rlC b G W i 1 1)) rfl rfl (fun hx => by omega)⟩, fun hn => ⟨⟨by omega, fun _ => by omega, fun _ => (by unfold i64In; omega), fun _ => by omega⟩, fun h => ⟨⟨by omega, (by unfold i64In; omega), by omega, by omega⟩, z_no (f := 1) (c := 3) (e := 0) (by decide), z_yes (f := 1) (c := 3) (e := 1) (x := dX b nB B nO O W G 1 i 1) (k := cdR nB B nO O (rlC b G W i 1 1)) rfl rfl rfl ⟨⟨by omega, by omega⟩, h⟩, w_no (f := 1) (c := 3) (e := 0) (by decide), w_yes (f := 1) (c := 3) (e := 1) (x := dX b nB B nO O W G 1 i 1) (k := cdR nB B nO O (rlC b G W i 1 1)) rfl rfl rfl ⟨⟨by omega, by omega⟩, h⟩⟩, fun h => ⟨z_no (f := 1) (c := 3) (e := 0) (by decide), z_not (f := 1) (c := 3) (e := 1) (x := dX b nB B nO O W G 1 i 1) (k := cdR nB B nO O (rlC b G W i 1 1)) rfl rfl (fun _ => h), w_no (f := 1) (c := 3) (e := 0) (by decide), w_not (f := 1) (c := 3) (e := 1) (x := dX b nB B nO O W G 1 i 1) (k := cdR nB B nO O (rlC b G W i 1 1)) rfl rfl (fun _ => h)⟩⟩⟩, fun _ _ => ⟨(by unfold i64In; omega), by omega, by unfold i64In; omega, rfl, row_up (p := fun j => dX b nB B nO O W G 1 j 0) rfl, row_up (p := fun j => dX b nB B nO O W G 1 j 1) rfl, row_up (p := fun j => dF b nB B nO O W G 1 j 0) rfl, row_up (p := fun j => dF b nB B nO O W G 1 j 1) rfl, rfl, rfl, by omega, by omega⟩⟩⟩⟩⟩⟩⟩⟩
  obtain rfl : i = b.N 0 := by omega
  refine ⟨by unfold i64In; omega, n_c _ _ _ _ _ _ _ _ _ _ _ _ _ _ _, by omega, ⟨fun h => by omega, fun h => by omega, fun h => by omega, fun h => by omega, fun h1 h2 => ⟨h1, h2⟩⟩, fun hx => ⟨by unfold i64In; omega, by omega, ⟨fun h => by omega, fun h => by omega, fun h => by omega, fun h => by omega, fun h1 h2 => ⟨h1, h2⟩⟩, fun hy => ?_, fun hy => ?_⟩, fun hx => ⟨by unfold i64In; omega, by omega, ⟨fun h => by omega, fun h => by omega, fun h => by omega, fun h => by omega, fun h1 h2 => ⟨h1, h2⟩⟩, fun hy => ?_, fun hy => ?_⟩⟩
  · have hbst : bstI b nB B nO O W G = 1 := by
      unfold bstI bsF
      rw [if_pos (by omega), if_pos (by omega)]
    have hp := pth_ok (b := b) (nB := nB) (B := B) (nO := nO) (O := O) (W := W) (G := G) (f := 1) (by omega) (by omega)
    have hbi : (bstI b nB B nO O W G).toNat = 1 := by omega
    have hb2 : ¬ bstI b nB B nO O W G < 0 := by omega
    refine ⟨by unfold i64In; omega, by rw [by3]; omega, ⟨by rw [Nat.sub_self]; rfl, rfl, rfl, fun j hj => by rw [if_neg (by omega)], rfl, rfl⟩, Nat.le_refl _, fun i hi => ⟨fun hgt => ?_, fun hle => ?_⟩⟩
    · have hq := (hp (b.N 0 - i) (by omega)).1
      exact ⟨⟨by omega, by omega, by omega, by omega, by rw [sz3]; omega⟩, ⟨by unfold i64In; omega, by omega, by omega⟩, by unfold i64In; omega, by omega, cor_s hi (by omega), cor_u hi (by omega), by omega, by omega⟩
    · obtain rfl : i = 0 := by omega
      refine ⟨⟨rfl, fun j hj => by rw [if_pos (by omega)]⟩, Nat.zero_le _, fun i hi => ⟨fun hlt => ?_, fun hge => ?_⟩⟩
      · have hlt : i < b.N 0 := by omega
        obtain ⟨c1, c2, c3, c4⟩ := run_cs (f := 1) hN h0 hm hl hlt (by omega) (by omega)
        have hmo : 0 ≤ ((i : Int) + 1) % (b.N 0 : Int) ∧ ((i : Int) + 1) % (b.N 0 : Int) < (b.N 0 : Int) := ⟨Int.emod_nonneg _ (by omega), Int.emod_lt_of_pos _ (by omega)⟩
        exact ⟨⟨⟨by omega, by omega⟩, hlt, by unfold i64In; omega, ⟨by omega, by omega⟩, hmo, by omega⟩, ⟨c1, c2, c3⟩, c4, ⟨by omega, by omega, by omega⟩, by unfold i64In; omega, by omega, row_upI rfl, row_upI rfl, row_upI rfl, row_upI rfl, row_upL rfl, row_upL rfl, by omega, by omega⟩
      · obtain rfl : i = b.N 0 := by omega
        have e1 : b.N 0 = bN b nB B nO O W G := by rw [bN, if_neg hb2]
        rw [hbi]
        exact ⟨Nat.le_refl _, Nat.le_refl _, Nat.le_refl _, Nat.le_refl _, e1, fun _ _ => rfl, e1, fun _ _ => rfl, fun _ _ => rfl, fun _ _ => rfl, fun _ _ => rfl, fun _ _ => ⟨rfl, fun _ _ => rfl⟩, fun _ _ => ⟨rfl, fun _ _ => rfl⟩, (if_neg hb2).symm, fun _ _ => rfl, (if_neg hb2).symm, fun _ _ => rfl, fun _ _ => rfl, (if_neg hb2).symm, fun _ _ => rfl, fun _ _ => rfl, (if_neg hb2).symm⟩
  · have hbst : bstI b nB B nO O W G = 0 := by
      unfold bstI bsF
      rw [if_pos (by omega), if_neg (by omega)]
    have hp := pth_ok (b := b) (nB := nB) (B := B) (nO := nO) (O := O) (W := W) (G := G) (f := 0) (by omega) (by omega)
    have hbi : (bstI b nB B nO O W G).toNat = 0 := by omega
    have hb2 : ¬ bstI b nB B nO O W G < 0 := by omega
    refine ⟨by unfold i64In; omega, by rw [by3]; omega, ⟨by rw [Nat.sub_self]; rfl, rfl, rfl, fun j hj => by rw [if_neg (by omega)], rfl, rfl⟩, Nat.le_refl _, fun i hi => ⟨fun hgt => ?_, fun hle => ?_⟩⟩
    · have hq := (hp (b.N 0 - i) (by omega)).1
      exact ⟨⟨by omega, by omega, by omega, by omega, by rw [sz3]; omega⟩, ⟨by unfold i64In; omega, by omega, by omega⟩, by unfold i64In; omega, by omega, cor_s hi (by omega), cor_u hi (by omega), by omega, by omega⟩
    · obtain rfl : i = 0 := by omega
      refine ⟨⟨rfl, fun j hj => by rw [if_pos (by omega)]⟩, Nat.zero_le _, fun i hi => ⟨fun hlt => ?_, fun hge => ?_⟩⟩
      · have hlt : i < b.N 0 := by omega
        obtain ⟨c1, c2, c3, c4⟩ := run_cs (f := 0) hN h0 hm hl hlt (by omega) (by omega)
        have hmo : 0 ≤ ((i : Int) + 1) % (b.N 0 : Int) ∧ ((i : Int) + 1) % (b.N 0 : Int) < (b.N 0 : Int) := ⟨Int.emod_nonneg _ (by omega), Int.emod_lt_of_pos _ (by omega)⟩
        exact ⟨⟨⟨by omega, by omega⟩, hlt, by unfold i64In; omega, ⟨by omega, by omega⟩, hmo, by omega⟩, ⟨c1, c2, c3⟩, c4, ⟨by omega, by omega, by omega⟩, by unfold i64In; omega, by omega, row_upI rfl, row_upI rfl, row_upI rfl, row_upI rfl, row_upL rfl, row_upL rfl, by omega, by omega⟩
      · obtain rfl : i = b.N 0 := by omega
        have e1 : b.N 0 = bN b nB B nO O W G := by rw [bN, if_neg hb2]
        rw [hbi]
        exact ⟨Nat.le_refl _, Nat.le_refl _, Nat.le_refl _, Nat.le_refl _, e1, fun _ _ => rfl, e1, fun _ _ => rfl, fun _ _ => rfl, fun _ _ => rfl, fun _ _ => rfl, fun _ _ => ⟨rfl, fun _ _ => rfl⟩, fun _ _ => ⟨rfl, fun _ _ => rfl⟩, (if_neg hb2).symm, fun _ _ => rfl, (if_neg hb2).symm, fun _ _ => rfl, fun _ _ => rfl, (if_neg hb2).symm, fun _ _ => rfl, fun _ _ => rfl, (if_neg hb2).symm⟩
  · have hbst : bstI b nB B nO O W G = 1 := by
      unfold bstI bsF
      rw [if_neg (by omega), if_pos (by omega)]
    have hp := pth_ok (b := b) (nB := nB) (B := B) (nO := nO) (O := O) (W := W) (G := G) (f := 1) (by omega) (by omega)
    have hbi : (bstI b nB B nO O W G).toNat = 1 := by omega
    have hb2 : ¬ bstI b nB B nO O W G < 0 := by omega
    refine ⟨by unfold i64In; omega, by rw [by3]; omega, ⟨by rw [Nat.sub_self]; rfl, rfl, rfl, fun j hj => by rw [if_neg (by omega)], rfl, rfl⟩, Nat.le_refl _, fun i hi => ⟨fun hgt => ?_, fun hle => ?_⟩⟩
    · have hq := (hp (b.N 0 - i) (by omega)).1
      exact ⟨⟨by omega, by omega, by omega, by omega, by rw [sz3]; omega⟩, ⟨by unfold i64In; omega, by omega, by omega⟩, by unfold i64In; omega, by omega, cor_s hi (by omega), cor_u hi (by omega), by omega, by omega⟩
    · obtain rfl : i = 0 := by omega
      refine ⟨⟨rfl, fun j hj => by rw [if_pos (by omega)]⟩, Nat.zero_le _, fun i hi => ⟨fun hlt => ?_, fun hge => ?_⟩⟩
      · have hlt : i < b.N 0 := by omega
        obtain ⟨c1, c2, c3, c4⟩ := run_cs (f := 1) hN h0 hm hl hlt (by omega) (by omega)
        have hmo : 0 ≤ ((i : Int) + 1) % (b.N 0 : Int) ∧ ((i : Int) + 1) % (b.N 0 : Int) < (b.N 0 : Int) := ⟨Int.emod_nonneg _ (by omega), Int.emod_lt_of_pos _ (by omega)⟩
        exact ⟨⟨⟨by omega, by omega⟩, hlt, by unfold i64In; omega, ⟨by omega, by omega⟩, hmo, by omega⟩, ⟨c1, c2, c3⟩, c4, ⟨by omega, by omega, by omega⟩, by unfold i64In; omega, by omega, row_upI rfl, row_upI rfl, row_upI rfl, row_upI rfl, row_upL rfl, row_upL rfl, by omega, by omega⟩
      · obtain rfl : i = b.N 0 := by omega
        have e1 : b.N 0 = bN b nB B nO O W G := by rw [bN, if_neg hb2]
        rw [hbi]
        exact ⟨Nat.le_refl _, Nat.le_refl _, Nat.le_refl _, Nat.le_refl _, e1, fun _ _ => rfl, e1, fun _ _ => rfl, fun _ _ => rfl, fun _ _ => rfl, fun _ _ => rfl, fun _ _ => ⟨rfl, fun _ _ => rfl⟩, fun _ _ => ⟨rfl, fun _ _ => rfl⟩, (if_neg hb2).symm, fun _ _ => rfl, (if_neg hb2).symm, fun _ _ => rfl, fun _ _ => rfl, (if_neg hb2).symm, fun _ _ => rfl, fun _ _ => rfl, (if_neg hb2).symm⟩
  · have hb : bstI b nB B nO O W G = -1 := by
      unfold bstI bsF
      rw [if_neg (by omega), if_neg (by omega)]
    have hb2 : bstI b nB B nO O W G < 0 := by omega
    have e1 : bN b nB B nO O W G = 0 := by rw [bN, if_pos hb2]
    have e2 : bE b nB B nO O W G = 13 := by rw [bE, if_pos hb2]
    exact ⟨by unfold i64In; omega, e1, e1, if_pos hb2, if_pos hb2, if_pos hb2, e2.symm⟩
end Go.Abs
end
