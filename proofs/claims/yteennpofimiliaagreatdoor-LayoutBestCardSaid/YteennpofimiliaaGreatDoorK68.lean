/- Contracts. Contracts. -/
import Derived.Test.YteennpofimiliaaGreatDoorK66
section
set_option linter.unusedVariables false
set_option linter.unusedSimpArgs false
set_option maxRecDepth 100000
namespace Go.Abs
open Go
/-- Best's error, layout and proof. -/
def btM (b : Bld) (nB : Nat) (B : Nat → Int) (nO : Nat) (O : Nat → Int) (W G L : Int) : Int := mgE (lonG (b.N 0) (b.X 0) (b.Y 0) G W (4 * b.N 0)) (bkdU nB B nO O W G L)
def btE (b : Bld) (nB : Nat) (B : Nat → Int) (nO : Nat) (O : Nat → Int) (W G L : Int) : Int := if arE b nB B nO O W G L ≠ 0 then arE b nB B nO O W G L else if btM b nB B nO O W G L ≠ 0 then btM b nB B nO O W G L else bE b nB B nO O W G
def lyt0 : Lyt := ⟨0, fun _ => 0, 0, fun _ => 0, fun _ => 0, fun _ => 0, fun _ => 0, fun _ => 0, fun _ _ => 0, fun _ => 0, fun _ _ => 0⟩
def prf0 : Prf := ⟨0, fun _ => 0, 0, fun _ => 0, fun _ => 0, 0, fun _ => 0, fun _ => 0⟩
def btL (b : Bld) (nB : Nat) (B : Nat → Int) (nO : Nat) (O : Nat → Int) (W G L : Int) : Lyt := if arE b nB B nO O W G L ≠ 0 ∨ btM b nB B nO O W G L ≠ 0 then lyt0 else bLy b nB B nO O W G L (bstI b nB B nO O W G).toNat
def btP (b : Bld) (nB : Nat) (B : Nat → Int) (nO : Nat) (O : Nat → Int) (W G L : Int) : Prf := if arE b nB B nO O W G L ≠ 0 ∨ btM b nB B nO O W G L ≠ 0 then prf0 else bPr b nB B nO O W G L
def btK (b : Bld) (nB : Nat) (B : Nat → Int) (nO : Nat) (O : Nat → Int) (W G L : Int) : Int := if arE b nB B nO O W G L ≠ 0 ∨ btM b nB B nO O W G L ≠ 0 then 0 else mnS (dX b nB B nO O W G 0 (b.N 0) 0) (dX b nB B nO O W G 1 (b.N 0) 1) 1
noncomputable def A17_bestA_c (b : Bld) (nB : Nat) (B : Nat → Int) (nO : Nat) (O : Nat → Int) (W G L : Int) : Ann := { orc := [(1, [(2, .res fun _ => .tup [.any, dI (arE b nB B nO O W G L)])]), (5, [(1, .res fun _ => .tup [.any, dI 1])])], loops := [], cuts := [] }
theorem bestA_c (b : Bld) (nB : Nat) (B : Nat → Int) (nO : Nat) (O : Nat → Int) (W G L : Int) (hN : ∀ i, i < b.nS → b.N i ≤ 1000) (h0 : arE b nB B nO O W G L ≠ 0) : FnC prog 17 [bld b, Lay.sys nB B nO O W G L] (.tup [lyt lyt0, prf prf0, dI (arE b nB B nO O W G L)]) := by
  refine FnC_owed hmix (A17_bestA_c b nB B nO O W G L) (V := .need [FnC prog 49 [(bld b), .agg [.lst nB [fun i => (dI (B i))], .lst nO [fun i => (dI (O i))], (dI W), (dI G), (dI L)]] (.tup [.any, (dI (arE b nB B nO O W G L))])] (.ite (arE b nB B nO O W G L != (0:Int)) (.done [lyt0.1 = (0:Nat), lyt0.3 = (0:Nat), prf0.1 = (0:Nat), prf0.3 = (0:Nat), prf0.6 = (0:Nat), arE b nB B nO O W G L = arE b nB B nO O W G L]) (.need [FnC prog 50 [.any] (.tup [.any, (dI (1:Int))]), False] (.ite ((1:Int) != (0:Int)) (.done [lyt0.1 = (0:Nat), lyt0.3 = (0:Nat), prf0.1 = (0:Nat), prf0.3 = (0:Nat), prf0.6 = (0:Nat), (1:Int) = arE b nB B nO O W G L]) (.done [False]))))) (by kernel_rfl) ?_
  simp only [VT.holds, AllT, Sq]
  exact ⟨aroundE_c b nB B nO O W G L hN, fun _ => ⟨rfl, rfl, rfl, rfl, rfl⟩, fun h => absurd h h0⟩
noncomputable def A17_bestM_c (b : Bld) (nB : Nat) (B : Nat → Int) (nO : Nat) (O : Nat → Int) (W G L : Int) : Ann := { orc := [(1, [(2, rArO b nB B nO O W G L)]), (5, [(1, .res fun _ => .tup [.lst (mgN (lonG (b.N 0) (b.X 0) (b.Y 0) G W (4 * b.N 0)) (Lay.catU nB B nO O W G L)) [fun k => dI (tabC nB B nO O W G L k)], dI (btM b nB B nO O W G L)])])], loops := [], cuts := [] }
namespace w4k
noncomputable section
structure Z where
  b : Bld
  nB : Nat
  B : Nat → Int
  nO : Nat
  O : Nat → Int
  W : Int
  G : Int
  L : Int
variable (z : Z) (p : Prop) (a : Int) (E : List DV) (U : VT)
abbrev x0 := btM z.b z.nB z.B z.nO z.O z.W z.G z.L
abbrev x1 : List DV := DV.lst z.nB [fun i0 => dI (z.B i0)] :: DV.lst z.nO [fun i0 => dI (z.O i0)] :: dI z.W :: dI z.G :: dI z.L :: E
abbrev x2 : Int := (↑(Lay.catU z.nB z.B z.nO z.O z.W z.G z.L) : Int)
abbrev x3 := VT.ite (a != 0) (VT.done [lyt0.nC = 0, lyt0.nR = 0, prf0.nT = 0, prf0.n0 = 0, prf0.n1 = 0, p]) U
abbrev x4 := DV.cptr (DV.val (Value.string z.b.name) :: DV.lst z.b.nS [fun i0 => dI (z.b.fl i0), fun i0 => DV.lst (z.b.N i0) [fun i1 => dI (z.b.X i0 i1), fun i1 => dI (z.b.Y i0 i1)]] :: dI z.b.roof :: DV.lst z.b.nO [fun i0 => dI (z.b.O i0 0), fun i0 => dI (z.b.O i0 1), fun i0 => dI (z.b.O i0 2), fun i0 => dI (z.b.O i0 3), fun i0 => dI (z.b.O i0 4), fun i0 => dI (z.b.O i0 5)] :: DV.lst z.b.nB [fun i0 => dI (z.b.B i0 0), fun i0 => dI (z.b.B i0 1), fun i0 => dI (z.b.B i0 2), fun i0 => dI (z.b.B i0 3), fun i0 => dI (z.b.B i0 4), fun i0 => dI (z.b.B i0 5)] :: x1 z [dI (x2 z), DV.lst (Lay.catN z.nB z.B z.nO z.O z.W z.G z.L) [fun i0 => dI (Lay.pLen z.nB z.B z.nO z.O i0), fun i0 => dI (Lay.pCode z.nB i0), fun i0 => dB (decide (z.nB ≤ i0))], DV.lst (z.b.N 0) [fun i0 => dI (z.b.X 0 i0), fun i0 => dI (z.b.Y 0 i0), fun i0 => dI (z.b.X 0 (ix (z.b.N 0) ((i0:Int) + 1))), fun i0 => dI (z.b.Y 0 (ix (z.b.N 0) ((i0:Int) + 1))), fun i0 => dI (lenW (z.b.N 0) (z.b.X 0) (z.b.Y 0) (i0:Int)), fun i0 => dI (dD (z.b.N 0) (z.b.X 0) (z.b.Y 0) (i0:Int))], DV.lst (z.b.N 0) [fun i0 => dI (cor (z.b.N 0) (z.b.X 0) (z.b.Y 0) i0)]])
abbrev xt : VT := VT.need [FnC prog 49 [bld z.b, DV.agg (x1 z [])] (DV.tup [x4 z, dI 0])] (x3 (0 = x0 z) (0:Int) (VT.need [FnC prog 50 [x4 z] (DV.tup [DV.lst (mgN (lonG (z.b.N 0) (z.b.X 0) (z.b.Y 0) z.G z.W (4 * z.b.N 0)) (x2 z)) [fun i0 => dI (tabC z.nB z.B z.nO z.O z.W z.G z.L i0)], dI (x0 z)])] (x3 (rf (x0 z)) (x0 z) (VT.done [False]))))
end
end w4k
open w4k in
theorem bestM_c (b : Bld) (nB : Nat) (B : Nat → Int) (nO : Nat) (O : Nat → Int) (W G L : Int) (hN : ∀ i, i < b.nS → b.N i ≤ 1000) (h0 : arE b nB B nO O W G L = 0) (hm : btM b nB B nO O W G L ≠ 0) : FnC prog 17 [bld b, Lay.sys nB B nO O W G L] (.tup [lyt lyt0, prf prf0, dI (btM b nB B nO O W G L)]) := by
  refine FnC_owed hmix (A17_bestM_c b nB B nO O W G L) (V := xt ⟨b, nB, B, nO, O, W, G, L⟩) (by kernel_rfl) ?_
  simp only [xt, x0, x1, x2, x3, x4, Rf, VT.holds, AllT, Sq]
  obtain ⟨hc, hs, _, _, _, _, _⟩ := ar_zero h0
  obtain ⟨b1, b2, b3, b4, b5⟩ := b0_ok hc
  have hn4 := chk_n b2
  obtain ⟨hX, hY⟩ := chk_inB b2
  have g1 := (sys_wgl hs).1
  exact ⟨aroundO_c b nB B nO O W G L hN h0, fun h => absurd trivial h, fun _ => ⟨measuredR_c b nB B nO O W G L (by omega) (by omega) hX hY g1 hs, fun _ => ⟨rfl, rfl, rfl, rfl, rfl⟩, fun h => hm h⟩⟩
section
variable {b : Bld} {nB : Nat} {B : Nat → Int} {nO : Nat} {O : Nat → Int} {W G L : Int} {f : Nat}
theorem mnS_1 (x y : Int) : mnS x y 1 = if 0 ≤ x then (if 0 ≤ y ∧ y < x then y else x) else if 0 ≤ y then y else -1 := by
  have e : mnS x y 1 = if 0 ≤ y ∧ ((if 0 ≤ x then x else -1) < 0 ∨ y < (if 0 ≤ x then x else -1)) then y else if 0 ≤ x then x else -1 := rfl
  rw [e]
  by_cases hx : 0 ≤ x
  · rw [if_pos hx, if_pos hx]
    by_cases hy : 0 ≤ y ∧ y < x
    · rw [if_pos hy, if_pos ⟨hy.1, .inr hy.2⟩]
    · rw [if_neg hy, if_neg (by omega)]
  · rw [if_neg hx, if_neg hx]
    by_cases hy : 0 ≤ y
    · rw [if_pos hy, if_pos ⟨hy, .inl (by decide)⟩]
    · rw [if_neg hy, if_neg (by omega)]
theorem bst_mn {b : Bld} {nB : Nat} {B : Nat → Int} {nO : Nat} {O : Nat → Int} {W G : Int} (hb : ¬ bstI b nB B nO O W G < 0) (d0 : -1 ≤ dX b nB B nO O W G 0 (b.N 0) 0) (d1 : -1 ≤ dX b nB B nO O W G 1 (b.N 0) 1) :
    (bstI b nB B nO O W G).toNat ≤ 1 ∧ 0 ≤ dX b nB B nO O W G (bstI b nB B nO O W G).toNat (b.N 0) (bstI b nB B nO O W G).toNat ∧ mnS (dX b nB B nO O W G 0 (b.N 0) 0) (dX b nB B nO O W G 1 (b.N 0) 1) 1 = dX b nB B nO O W G (bstI b nB B nO O W G).toNat (b.N 0) (bstI b nB B nO O W G).toNat ∧
      pvL (dX b nB B nO O W G 0 (b.N 0) 0) (dX b nB B nO O W G 1 (b.N 0) 1) = dX b nB B nO O W G (bstI b nB B nO O W G).toNat (b.N 0) (bstI b nB B nO O W G).toNat := by
  rw [mnS_1]
  by_cases hx : 0 ≤ dX b nB B nO O W G 0 (b.N 0) 0
  · by_cases hy : 0 ≤ dX b nB B nO O W G 1 (b.N 0) 1 ∧ dX b nB B nO O W G 1 (b.N 0) 1 < dX b nB B nO O W G 0 (b.N 0) 0
    · have e : bstI b nB B nO O W G = 1 := by rw [bstI, bsF, if_pos hx, if_pos hy]
      rw [e, if_pos hx, if_pos hy, pvL, if_pos (.inr hy)]
      exact ⟨by decide, hy.1, rfl, rfl⟩
    · have e : bstI b nB B nO O W G = 0 := by rw [bstI, bsF, if_pos hx, if_neg hy]
      rw [e, if_pos hx, if_neg hy, pvL, if_neg (by omega)]
      exact ⟨by decide, hx, rfl, rfl⟩
  · by_cases hy : 0 ≤ dX b nB B nO O W G 1 (b.N 0) 1
    · have e : bstI b nB B nO O W G = 1 := by rw [bstI, bsF, if_neg hx, if_pos hy]
      rw [e, if_neg hx, if_pos hy, pvL, if_pos (by omega)]
      exact ⟨by decide, hy, rfl, rfl⟩
    · have e : bstI b nB B nO O W G = -1 := by rw [bstI, bsF, if_neg hx, if_neg hy]
      rw [e] at hb
      exact absurd (by decide) hb
theorem bst_neg {b : Bld} {nB : Nat} {B : Nat → Int} {nO : Nat} {O : Nat → Int} {W G : Int} : (bstI b nB B nO O W G < 0 ↔ mnS (dX b nB B nO O W G 0 (b.N 0) 0) (dX b nB B nO O W G 1 (b.N 0) 1) 1 < 0) := by
  rw [mnS_1, bstI, bsF]
  by_cases hx : 0 ≤ dX b nB B nO O W G 0 (b.N 0) 0
  · rw [if_pos hx, if_pos hx]
    split <;> omega
  · rw [if_neg hx, if_neg hx]
    split <;> omega
theorem lonG_le {n : Nat} {X Y : Nat → Int} {M : Int} (hg : gwOk G W) (hM : 0 ≤ M) (h : ∀ i, i < n → ruL n X Y G W (i : Nat) 1 0 ≤ M) : ∀ m, m ≤ 4 * n → lonG n X Y G W m ≤ M
  | 0, _ => by rw [lonG]; exact hM
  | m + 1, hm => by
    have h1 := lonG_le hg hM h m (by omega)
    have h2 := h (m / 4) (by omega)
    have h3 := c4 (c := m % 4) (by omega)
    have h4 := ru_le (n := n) (X := X) (Y := Y) hg ((m / 4 : Nat) : Int) h3.1 h3.2
    rw [lonG]
    omega
/-- A run too large: the specification's word and the code's. -/
theorem rg_eq (h0 : arE b nB B nO O W G L = 0) : (lgF b G W (uRI nB B nO O) = false → btM b nB B nO O W G L = 0 ∧ ∀ i, i < b.N 0 → ruL (b.N 0) (b.X 0) (b.Y 0) G W (i : Nat) 1 0 ≤ 4000 * (uRI nB B nO O)) ∧ (lgF b G W (uRI nB B nO O) = true → btM b nB B nO O W G L = 8) := by
  obtain ⟨hc, hs, _, _, _, _, _⟩ := ar_zero h0
  have g1 := (sys_wgl hs).1
  obtain ⟨ue, u1, u2⟩ := u_bd hs
  have hub : bkdU nB B nO O W G L = uRI nB B nO O := ue
  rw [btM, hub, mgE]
  constructor
  · intro h
    rw [lgF, decide_eq_false_iff_not] at h
    have hl : ∀ i, i < b.N 0 → ruL (b.N 0) (b.X 0) (b.Y 0) G W (i : Nat) 1 0 ≤ 4000 * (uRI nB B nO O) := fun i hi => by
      rcases Int.lt_or_le (4000 * (uRI nB B nO O)) (ruL (b.N 0) (b.X 0) (b.Y 0) G W (i : Nat) 1 0) with hx | hx
      · exact absurd ⟨i, hi, hx⟩ h
      · exact hx
    have := lonG_le g1 (by omega) hl (4 * b.N 0) (Nat.le_refl _)
    exact ⟨by rw [if_neg (by omega)], hl⟩
  · intro h
    rw [lgF, decide_eq_true_eq] at h
    obtain ⟨i, hi, hx⟩ := h
    have := lonG_at (n := b.N 0) (X := b.X 0) (Y := b.Y 0) (G := G) (W := W) hi (c := 2) (by omega)
    have e : ruL (b.N 0) (b.X 0) (b.Y 0) G W i ((2 / 2 : Nat) : Int) ((2 % 2 : Nat) : Int) = ruL (b.N 0) (b.X 0) (b.Y 0) G W (i : Nat) 1 0 := rfl
    rw [e] at this
    rw [if_pos (by omega)]
theorem cd_facts {x : Int} (h : 0 ≤ cdR nB B nO O x) : 0 ≤ x ∧ x % uRI nB B nO O = 0 ∧ cdR nB B nO O x = Lay.tabRS nB B nO O (x / uRI nB B nO O).toNat := by
  unfold cdR codF at h ⊢
  split at h
  · omega
  · rename_i hn
    exact ⟨by omega, by omega, by rw [if_neg hn]⟩
theorem cl_eq (hs : Lay.sysE nB B nO O W G L = 0) {len : Int} (hm : Lay.measE nB B nO O W G L len = 0) (s : Bool) : cl nB B nO O W G L len s = Lay.closS nB B nO O W G L len s := by
  have eU : Lay.catU nB B nO O W G L = Lay.unitP nB B nO O (nB + nO) := by rw [Lay.catU, if_pos hs]
  have eN : Lay.catN nB B nO O W G L = nB + nO := by rw [Lay.catN, if_pos hs]
  rw [cl, Lay.closS, if_pos hm, eU, eN]
  rfl
/-- A run of the best layout: its closing. -/
theorem run_clo (h0 : arE b nB B nO O W G L = 0) (hl : ∀ i, i < b.N 0 → ruL (b.N 0) (b.X 0) (b.Y 0) G W (i : Nat) 1 0 ≤ 4000 * (uRI nB B nO O)) (hf : f ≤ 1) (hx : 0 ≤ dX b nB B nO O W G f (b.N 0) f) {i : Nat} (hi : i < b.N 0) :
    (cl nB B nO O W G L (bL b nB B nO O W G f i) false).length ≤ 4000 ∧ (cl nB B nO O W G L (bL b nB B nO O W G f i) true).length ≤ 4000 ∧
    cloE nB B nO O (bLy b nB B nO O W G L f) i = 0 ∧ 10000 * odC nB B (bLy b nB B nO O W G L f) i + ((bLy b nB B nO O W G L f).nP i : Int) = cdR nB B nO O (bL b nB B nO O W G f i) := by
  obtain ⟨hc, hs, _, _, _, _, _⟩ := ar_zero h0
  obtain ⟨ue, u1, u2⟩ := u_bd hs
  obtain ⟨p0, p1, p2, _⟩ := bst_run hf hx hi
  have hle := (rl_le h0 hl hi (a := bC b nB B nO O W G f i) (e := bC b nB B nO O W G f (((i : Int) + 1) % (b.N 0 : Int)).toNat) (by omega) (by omega)).1
  have hle' : bL b nB B nO O W G f i ≤ 4000 * uRI nB B nO O := hle
  obtain ⟨c1, c2, c3⟩ := cd_facts p2
  have eU : (Lay.unitP nB B nO O (nB + nO) : Int) = uRI nB B nO O := by rw [Lay.unit_eq]; rfl
  have hm : Lay.measE nB B nO O W G L (bL b nB B nO O W G f i) = 0 := by
    rw [Lay.measE, if_pos hs, if_neg (by omega), eU, if_neg (by omega)]
  have hok : Lay.okC (Lay.unitP nB B nO O (nB + nO)) (Lay.tabS nB B nO O) (bL b nB B nO O W G f i) = true := by
    rw [Lay.okC, decide_eq_true_eq, eU, Lay.tabS_eq, ← c3]
    exact ⟨c2, p2⟩
  obtain ⟨d1, d2, d3, d4, d5, d6, d7, d8⟩ := Lay.clos_facts hm hok
  have d9 := Lay.clos_closes hm hok
  rw [eU, Lay.tabS_eq, ← c3] at d8
  rw [← cl_eq hs hm] at d1 d8 d9
  rw [← cl_eq hs hm] at d2 d8 d9
  refine ⟨d1, d2, d9, ?_⟩
  have e : odC nB B (bLy b nB B nO O W G L f) i = ((cl nB B nO O W G L (bL b nB B nO O W G f i) true).length : Int) + Lay.oddZ (B (nB - 1)) (cl nB B nO O W G L (bL b nB B nO O W G f i) false) := by
    rw [← Lay.cntN_list]
    rfl
  have e2 : (bLy b nB B nO O W G L f).nP i = (cl nB B nO O W G L (bL b nB B nO O W G f i) false).length := rfl
  rw [e, e2]
  omega
/-- The best layout is right, and costs what the ring's end says. -/
theorem bst_ok (h0 : arE b nB B nO O W G L = 0) (hl : ∀ i, i < b.N 0 → ruL (b.N 0) (b.X 0) (b.Y 0) G W (i : Nat) 1 0 ≤ 4000 * (uRI nB B nO O)) (hf : f ≤ 1) (hx : 0 ≤ dX b nB B nO O W G f (b.N 0) f) (hb : ¬ bstI b nB B nO O W G < 0) :
    tidOk (bLy b nB B nO O W G L f) ∧ lyE b nB B nO O W G (bLy b nB B nO O W G L f) = 0 ∧ pvK nB B (bLy b nB B nO O W G L f) = dX b nB B nO O W G f (b.N 0) f := by
  obtain ⟨hc, hs, _, _, _, _, _⟩ := ar_zero h0
  have hn4 := chk_n (b0_ok hc).2.1
  have eN : bN b nB B nO O W G = b.N 0 := by rw [bN, if_neg hb]
  have e1 : (bLy b nB B nO O W G L f).nC = b.N 0 := eN
  have e2 : (bLy b nB B nO O W G L f).nR = b.N 0 := eN
  refine ⟨⟨by omega, by omega, fun i hi => ?_⟩, ?_, ?_⟩
  · obtain ⟨r1, r2, _, _⟩ := run_clo h0 hl hf hx (i := i) (by omega)
    exact ⟨Nat.le_trans r1 (by omega), Nat.le_trans r2 (by omega)⟩
  · refine (ly_no ⟨e1, e2⟩ ?_ fun k hk => ?_).symm
    · refine anyN_no.2 fun k hk => bad01_sp.2 ?_
      have := (bst_run hf hx (i := k) (by omega)).1
      have e3 : (bLy b nB B nO O W G L f).C k = bC b nB B nO O W G f k := rfl
      omega
    · rw [ru_3 rfl ⟨rfl, rfl, rfl⟩]
      exact (run_clo h0 hl hf hx hk).2.2.1
  · have hd0 : dX b nB B nO O W G f 0 (pth b nB B nO O W G f (b.N 0 - 0)).toNat = 0 := by
      have h1 := (pth_ok (b := b) (nB := nB) (B := B) (nO := nO) (O := O) (W := W) (G := G) hf hx (b.N 0) (Nat.le_refl _)).2.1
      rw [Nat.sub_self] at h1
      rw [Nat.sub_zero]
      rw [dX, dpR] at h1 ⊢
      split at h1
      · rename_i h2; rw [if_pos h2]
      · omega
    have step : ∀ k, k ≤ b.N 0 → 10000 * totO nB B (bLy b nB B nO O W G L f) k + totB (bLy b nB B nO O W G L f) k = dX b nB B nO O W G f k (pth b nB B nO O W G f (b.N 0 - k)).toNat := by
      intro k
      induction k with
      | zero => intro _; rw [hd0, totO, totB]; omega
      | succ k ih =>
        intro hk
        have i1 := ih (by omega)
        have i2 := (bst_run hf hx (i := k) (by omega)).2.2.2
        have i3 := (run_clo h0 hl hf hx (i := k) (by omega)).2.2.2
        rw [totO, totB, i2]
        omega
    have h := step (b.N 0) (Nat.le_refl _)
    rw [Nat.sub_self] at h
    rw [pvK, e2, h, pth]
    rw [Int.toNat_natCast]
/-- The table and the rings of the proof are right. -/
theorem pvC_ok (h0 : arE b nB B nO O W G L = 0) (T : Nat → Int) (hT : T = Lay.tabRS nB B nO O) (n : Nat) (hn : n ≠ 0) : ptbB (uRI nB B nO O) (nB + nO) (Lay.rLen nB B O) (Lay.rCode nB) n T = true := by
  obtain ⟨hc, hs, _, _, _, _, _⟩ := ar_zero h0
  obtain ⟨s1, s2, s3, sB, sO, _, _⟩ := Lay.sys_ok hs
  subst hT
  have hcs : ∀ p ∈ Lay.plX (Lay.unitR nB B O (nB + nO)) (Lay.rLen nB B O) (Lay.rCode nB) (nB + nO), 0 ≤ p.2 ∧ p.2 ≤ 10001 := fun p hp => by
    obtain ⟨i, _, rfl⟩ := List.mem_map.1 hp
    exact Lay.rCode_bd nB i
  have he : Lay.tabRS nB B nO O = Lay.tabL (Lay.plX (Lay.unitR nB B O (nB + nO)) (Lay.rLen nB B O) (Lay.rCode nB) (nB + nO)) := rfl
  rw [ptbB, Bool.and_eq_true, Bool.and_eq_true, decide_eq_true_eq, decide_eq_true_eq, decide_eq_true_eq, he]
  refine ⟨⟨hn, Lay.tabL_zero _⟩, fun k _ => (Lay.tabL_bd hcs k).1, fun k _ => ?_⟩
  rw [ptb2, decide_eq_true_eq]
  intro i hi
  rw [ptb1, decide_eq_true_eq]
  intro h1 h2
  have hm := Lay.unitsR_pos sB sO hi
  have hu : Lay.unitsOf (Lay.unitR nB B O (nB + nO)) (Lay.rLen nB B O i) = (Lay.rLen nB B O i / uRI nB B nO O).toNat := rfl
  have hb := Lay.rLen_bd sB sO hi
  have hq : 0 ≤ Lay.rLen nB B O i / uRI nB B nO O := Int.ediv_nonneg (by omega) (by unfold uRI; omega)
  have hu' : (Lay.unitsOf (Lay.unitR nB B O (nB + nO)) (Lay.rLen nB B O i) : Int) = Lay.rLen nB B O i / uRI nB B nO O := by rw [hu, Int.toNat_of_nonneg hq]
  have hk : ((k : Int) - Lay.rLen nB B O i / uRI nB B nO O).toNat = k - Lay.unitsOf (Lay.unitR nB B O (nB + nO)) (Lay.rLen nB B O i) := by rw [← hu']; omega
  rw [hk] at h2 ⊢
  have ht := Lay.tab_step hcs (k := k) (p := (Lay.unitsOf (Lay.unitR nB B O (nB + nO)) (Lay.rLen nB B O i), Lay.rCode nB i)) (List.mem_map.2 ⟨i, List.mem_range.2 hi, rfl⟩) hm (by omega) h2
  have h9 := ht.2
  simp only at h9
  exact ⟨ht.1, by omega⟩
theorem fol_ok (h0 : arE b nB B nO O W G L = 0) (hl : ∀ i, i < b.N 0 → ruL (b.N 0) (b.X 0) (b.Y 0) G W (i : Nat) 1 0 ≤ 4000 * (uRI nB B nO O)) (hf : f ≤ 1) (T : Nat → Int) (hT : T = Lay.tabRS nB B nO O) (n : Nat) (hn : (n : Int) = lonG (b.N 0) (b.X 0) (b.Y 0) G W (4 * b.N 0) / uRI nB B nO O + 1) :
    folB (uRI nB B nO O) (b.N 0) (fun i a e => ruL (b.N 0) (b.X 0) (b.Y 0) G W i a e) n T (fun j => dX b nB B nO O W G f j 0) (fun j => dX b nB B nO O W G f j 1) f = true := by
  obtain ⟨hc, hs, _, _, _, _, _⟩ := ar_zero h0
  obtain ⟨ue, u1, u2⟩ := u_bd hs
  subst hT
  rw [folB, Bool.and_eq_true, Bool.and_eq_true, decide_eq_true_eq, decide_eq_true_eq, decide_eq_true_eq]
  refine ⟨fun i hi => ⟨(dX_bd h0 hl f i 0 (by omega)).1, (dX_bd h0 hl f i 1 (by omega)).1⟩, ?_, fun i hi => ?_⟩
  · rcases (show f = 0 ∨ f = 1 by omega) with rfl | rfl <;> exact ⟨rfl, rfl⟩
  · rw [folB2, folB3, decide_eq_true_eq]
    intro c hc4
    rw [folB1, decide_eq_true_eq]
    rintro ⟨h1, h2, h3⟩
    have ec : ((c : Int) / 2) = ((c / 2 : Nat) : Int) := by omega
    have ed : ((c : Int) % 2) = ((c % 2 : Nat) : Int) := by omega
    rw [ec, ed] at h2 h3 ⊢
    rw [ec] at h1
    rw [Int.toNat_natCast] at h1 ⊢
    rw [Int.toNat_natCast]
    have hlo := lonG_at (n := b.N 0) (X := b.X 0) (Y := b.Y 0) (G := G) (W := W) hi hc4
    have hq := Int.ediv_le_ediv (show 0 < uRI nB B nO O by omega) hlo
    refine ⟨by omega, fun h4 => ?_⟩
    have hk : kR b nB B nO O W G i c = Lay.tabRS nB B nO O (ruL (b.N 0) (b.X 0) (b.Y 0) G W i ((c / 2 : Nat) : Int) ((c % 2 : Nat) : Int) / uRI nB B nO O).toNat := by
      rw [kR, cdR, codF, if_neg]
      · rfl
      · have e : rlC b G W i ((c / 2 : Nat) : Int) ((c % 2 : Nat) : Int) = ruL (b.N 0) (b.X 0) (b.Y 0) G W i ((c / 2 : Nat) : Int) ((c % 2 : Nat) : Int) := rfl
        rw [e]
        omega
    have hp : ∀ a, -1 ≤ pr (dX b nB B nO O W G f i 0) (dX b nB B nO O W G f i 1) a := fun a => by
      match a with
      | 0 => exact (dX_bd h0 hl f i 0 (by omega)).1
      | 1 => exact (dX_bd h0 hl f i 1 (by omega)).1
      | n + 2 => exact (by decide : (-1:Int) ≤ 0)
    have hd := dpN_le (k := kR b nB B nO O W G i) hp 4 (c % 2) c hc4 rfl h1 (by rw [hk]; exact h4)
    have er : pr (dX b nB B nO O W G f (i + 1) 0) (dX b nB B nO O W G f (i + 1) 1) (c % 2) = dpN (kR b nB B nO O W G i) (dX b nB B nO O W G f i 0) (dX b nB B nO O W G f i 1) 4 (c % 2) := by
      rcases (show c % 2 = 0 ∨ c % 2 = 1 by omega) with e | e <;> rw [e] <;> rfl
    rw [er, ← hk]
    exact ⟨hd.1, by omega⟩
end
section
variable {b : Bld} {nB : Nat} {B : Nat → Int} {nO : Nat} {O : Nat → Int} {W G L : Int}
theorem bt_fail (h : arE b nB B nO O W G L ≠ 0 ∨ btM b nB B nO O W G L ≠ 0) : btL b nB B nO O W G L = lyt0 ∧ btP b nB B nO O W G L = prf0 := ⟨by rw [btL, if_pos h], by rw [btP, if_pos h]⟩
theorem best_tc (b : Bld) (nB : Nat) (B : Nat → Int) (nO : Nat) (O : Nat → Int) (W G L : Int) (hN : ∀ i, i < b.nS → b.N i ≤ 1000) : FnC prog 17 [bld b, Lay.sys nB B nO O W G L] (.tup [lyt (btL b nB B nO O W G L), prf (btP b nB B nO O W G L), dI (btE b nB B nO O W G L)]) := by
  by_cases h0 : arE b nB B nO O W G L = 0
  · by_cases hm : btM b nB B nO O W G L = 0
    · have hl : ∀ i, i < b.N 0 → ruL (b.N 0) (b.X 0) (b.Y 0) G W (i : Nat) 1 0 ≤ 4000 * (uRI nB B nO O) := by
        cases hx : lgF b G W (uRI nB B nO O) with
        | false => exact ((rg_eq h0).1 hx).2
        | true => have := (rg_eq h0).2 hx; omega
      have h := bestC_c b nB B nO O W G L hN h0 hm hl
      have e1 : btL b nB B nO O W G L = bLy b nB B nO O W G L (bstI b nB B nO O W G).toNat := by rw [btL, if_neg (by rw [h0, hm]; simp)]
      have e2 : btP b nB B nO O W G L = bPr b nB B nO O W G L := by rw [btP, if_neg (by rw [h0, hm]; simp)]
      have e3 : btE b nB B nO O W G L = bE b nB B nO O W G := by rw [btE, if_neg (by rw [h0]; simp), if_neg (by rw [hm]; simp)]
      rw [e1, e2, e3]
      exact h
    · obtain ⟨e1, e2⟩ := bt_fail (.inr hm)
      have e3 : btE b nB B nO O W G L = btM b nB B nO O W G L := by rw [btE, if_neg (by rw [h0]; simp), if_pos hm]
      rw [e1, e2, e3]
      exact bestM_c b nB B nO O W G L hN h0 hm
  · obtain ⟨e1, e2⟩ := bt_fail (.inl h0)
    have e3 : btE b nB B nO O W G L = arE b nB B nO O W G L := by rw [btE, if_pos h0]
    rw [e1, e2, e3]
    exact bestA_c b nB B nO O W G L hN h0
/-- Where Best finds none, it hands back nothing. -/
theorem bt_none (h : btE b nB B nO O W G L ≠ 0) : (btL b nB B nO O W G L).nC = 0 ∧ (btL b nB B nO O W G L).nR = 0 ∧ (btP b nB B nO O W G L).nT = 0 ∧ (btP b nB B nO O W G L).n0 = 0 ∧ (btP b nB B nO O W G L).n1 = 0 := by
  by_cases h0 : arE b nB B nO O W G L ≠ 0 ∨ btM b nB B nO O W G L ≠ 0
  · obtain ⟨e1, e2⟩ := bt_fail h0
    rw [e1, e2]
    exact ⟨rfl, rfl, rfl, rfl, rfl⟩
  · rw [btE, if_neg (fun hx => h0 (.inl hx)), if_neg (fun hx => h0 (.inr hx))] at h
    have hb : bstI b nB B nO O W G < 0 := by
      unfold bE at h
      split at h
      · assumption
      · exact absurd rfl h
    rw [btL, if_neg h0, btP, if_neg h0]
    have e1 : bN b nB B nO O W G = 0 := by rw [bN, if_pos hb]
    exact ⟨e1, e1, if_pos hb, if_pos hb, if_pos hb⟩
/-- Where Best finds one, it is right, of the least cost, and its proof is accepted. -/
theorem bt_some (h : btE b nB B nO O W G L = 0) : arE b nB B nO O W G L = 0 ∧ (∀ i, i < b.N 0 → ruL (b.N 0) (b.X 0) (b.Y 0) G W (i : Nat) 1 0 ≤ 4000 * (uRI nB B nO O)) ∧ tidOk (btL b nB B nO O W G L) ∧ lyE b nB B nO O W G (btL b nB B nO O W G L) = 0 ∧ pvK nB B (btL b nB B nO O W G L) = btK b nB B nO O W G L ∧
    prfIn (btP b nB B nO O W G L) ∧ (btP b nB B nO O W G L).nT ≤ 4001 ∧ pvE b nB B nO O W G (btL b nB B nO O W G L) (btP b nB B nO O W G L) = 0 := by
  by_cases h0 : arE b nB B nO O W G L = 0
  · by_cases hm : btM b nB B nO O W G L = 0
    · have hl : ∀ i, i < b.N 0 → ruL (b.N 0) (b.X 0) (b.Y 0) G W (i : Nat) 1 0 ≤ 4000 * (uRI nB B nO O) := by
        cases hx : lgF b G W (uRI nB B nO O) with
        | false => exact ((rg_eq h0).1 hx).2
        | true => have := (rg_eq h0).2 hx; omega
      have hn : ¬ (arE b nB B nO O W G L ≠ 0 ∨ btM b nB B nO O W G L ≠ 0) := by rw [h0, hm]; simp
      rw [btE, if_neg (by rw [h0]; simp), if_neg (by rw [hm]; simp)] at h
      have hb : ¬ bstI b nB B nO O W G < 0 := fun hx => by rw [bE, if_pos hx] at h; exact absurd h (by decide)
      obtain ⟨hc, hs, _, _, _, _, _⟩ := ar_zero h0
      obtain ⟨b1, b2, b3, b4, b5⟩ := b0_ok hc
      have hn4 := chk_n b2
      obtain ⟨hX, hY⟩ := chk_inB b2
      have g1 := (sys_wgl hs).1
      obtain ⟨ue, u1, u2⟩ := u_bd hs
      have hub : bkdU nB B nO O W G L = uRI nB B nO O := ue
      have hf : (bstI b nB B nO O W G).toNat ≤ 1 ∧ 0 ≤ dX b nB B nO O W G (bstI b nB B nO O W G).toNat (b.N 0) (bstI b nB B nO O W G).toNat ∧ mnS (dX b nB B nO O W G 0 (b.N 0) 0) (dX b nB B nO O W G 1 (b.N 0) 1) 1 = dX b nB B nO O W G (bstI b nB B nO O W G).toNat (b.N 0) (bstI b nB B nO O W G).toNat ∧
          pvL (dX b nB B nO O W G 0 (b.N 0) 0) (dX b nB B nO O W G 1 (b.N 0) 1) = dX b nB B nO O W G (bstI b nB B nO O W G).toNat (b.N 0) (bstI b nB B nO O W G).toNat := by
        have d0 := dX_bd h0 hl 0 (b.N 0) 0 (Nat.le_refl _)
        have d1 := dX_bd h0 hl 1 (b.N 0) 1 (Nat.le_refl _)
        exact bst_mn (fun h => hb h) d0.1 d1.1
      obtain ⟨hf1, hf2, hf3, hf4⟩ := hf
      have e1 : btL b nB B nO O W G L = bLy b nB B nO O W G L (bstI b nB B nO O W G).toNat := by rw [btL, if_neg hn]
      have e2 : btP b nB B nO O W G L = bPr b nB B nO O W G L := by rw [btP, if_neg hn]
      have e3 : btK b nB B nO O W G L = mnS (dX b nB B nO O W G 0 (b.N 0) 0) (dX b nB B nO O W G 1 (b.N 0) 1) 1 := by rw [btK, if_neg hn]
      obtain ⟨k1, k2, k3⟩ := bst_ok h0 hl hf1 hf2 hb
      have hlb := lonG_bd (n := b.N 0) (X := b.X 0) (Y := b.Y 0) (by omega) hX hY g1 (4 * b.N 0)
      have hlo := lonG_le g1 (show 0 ≤ 4000 * uRI nB B nO O by omega) hl (4 * b.N 0) (Nat.le_refl _)
      have hq0 : 0 ≤ lonG (b.N 0) (b.X 0) (b.Y 0) G W (4 * b.N 0) / uRI nB B nO O := Int.ediv_nonneg hlb.1 (by omega)
      have hq2 : lonG (b.N 0) (b.X 0) (b.Y 0) G W (4 * b.N 0) / uRI nB B nO O ≤ 4000 := by
        have := Int.ediv_le_ediv (show 0 < uRI nB B nO O by omega) hlo
        rwa [Int.mul_ediv_cancel _ (by omega)] at this
      have hN2 : (tbN b nB B nO O W G L : Int) = lonG (b.N 0) (b.X 0) (b.Y 0) G W (4 * b.N 0) / uRI nB B nO O + 1 := by
        have hm' : mgE (lonG (b.N 0) (b.X 0) (b.Y 0) G W (4 * b.N 0)) (bkdU nB B nO O W G L) = 0 := hm
        rw [tbN, mgN, if_pos hm', hub]
        omega
      have hT : tabC nB B nO O W G L = Lay.tabRS nB B nO O := funext fun k => tab_sm nB B nO O W G L k
      have p1 : (bPr b nB B nO O W G L).nT = tbN b nB B nO O W G L := if_neg hb
      have p2 : (bPr b nB B nO O W G L).n0 = b.N 0 + 1 := if_neg hb
      have p3 : (bPr b nB B nO O W G L).n1 = b.N 0 + 1 := if_neg hb
      rw [e1, e2, e3, hf3]
      have i64 : ∀ {x : Int}, -1 ≤ x → x ≤ 2000000000 → i64In x := fun h h' => by unfold i64In; omega
      refine ⟨h0, hl, k1, k2, k3, ⟨fun k hk => ?_, fun k hk => ?_, fun k hk => ?_, fun k hk => ?_, fun k hk => ?_⟩, by omega, ?_⟩
      · have hcs : ∀ p ∈ Lay.plX (Lay.unitR nB B O (nB + nO)) (Lay.rLen nB B O) (Lay.rCode nB) (nB + nO), 0 ≤ p.2 ∧ p.2 ≤ 10001 := fun p hp => by
          obtain ⟨i, _, rfl⟩ := List.mem_map.1 hp
          exact Lay.rCode_bd nB i
        have hb2 := Lay.tabL_bd hcs k
        have he : (bPr b nB B nO O W G L).T k = Lay.tabL (Lay.plX (Lay.unitR nB B O (nB + nO)) (Lay.rLen nB B O) (Lay.rCode nB) (nB + nO)) k := by show tabC nB B nO O W G L k = _; rw [hT]; rfl
        rw [he]
        exact i64 hb2.1 (by omega)
      · exact i64 (dX_bd h0 hl 0 k 0 (by omega)).1 (dX_bd h0 hl 0 k 0 (by omega)).2
      · exact i64 (dX_bd h0 hl 0 k 1 (by omega)).1 (dX_bd h0 hl 0 k 1 (by omega)).2
      · exact i64 (dX_bd h0 hl 1 k 0 (by omega)).1 (dX_bd h0 hl 1 k 0 (by omega)).2
      · exact i64 (dX_bd h0 hl 1 k 1 (by omega)).1 (dX_bd h0 hl 1 k 1 (by omega)).2
      · refine ((pv_4 (v := dX b nB B nO O W G (bstI b nB B nO O W G).toNat (b.N 0) (bstI b nB B nO O W G).toNat) (by omega) ⟨p2, p3⟩ (pv_all.2 ⟨?_, ?_, ?_⟩) hf4).2 k3.symm).symm
        · rw [pvC]
          exact pvC_ok h0 _ hT _ (by omega)
        · rw [pvA, p1]
          exact fol_ok h0 hl (by omega) _ hT _ hN2
        · rw [pvB, p1]
          exact fol_ok h0 hl (by omega) _ hT _ hN2
    · rw [btE, if_neg (by rw [h0]; simp), if_pos hm] at h
      exact absurd h hm
  · rw [btE, if_pos h0] at h
    exact absurd h h0
end
end Go.Abs
end
section
set_option linter.unusedVariables false
set_option linter.unusedSimpArgs false
set_option maxRecDepth 100000
namespace Go.Abs
open Go
def btD (b : Bld) (nB : Nat) (B : Nat → Int) (nO : Nat) (O : Nat → Int) (W G L : Int) : Int := if arE b nB B nO O W G L ≠ 0 then arE b nB B nO O W G L else if lgF b G W (uRI nB B nO O) = true then 8 else 0
theorem btD_0 {b : Bld} {nB : Nat} {B : Nat → Int} {nO : Nat} {O : Nat → Int} {W G L : Int} (h : btD b nB B nO O W G L = 0) : arE b nB B nO O W G L = 0 ∧ lgF b G W (uRI nB B nO O) = false := by
  unfold btD at h
  split at h
  · rename_i h1; exact absurd h h1
  · rename_i h1
    split at h
    · exact absurd h (by decide)
    · rename_i h2
      refine ⟨by omega, ?_⟩
      cases hx : lgF b G W (uRI nB B nO O) with
      | true => exact absurd hx h2
      | false => rfl
noncomputable def A20_codeL_c (x y : Int) : Ann := { orc := [], loops := [], cuts := [] }
theorem codeL_c (x y : Int) (h : 0 ≤ x ∧ x ≤ 100000000) (h2 : 0 ≤ y ∧ y ≤ 100000000) : FnC prog 20 [dP x y] (dI (10000 * x + y)) := by
  refine FnC_owed hmix (A20_codeL_c x y) (V := .need [i64In ((10000:Int) * x), i64In ((10000:Int) * x + y)] (.done [(10000:Int) * x + y = (10000:Int) * x + y])) (by kernel_rfl) ?_
  simp only [VT.holds, AllT, Sq]
  unfold i64In
  omega
noncomputable def A4_layBest_law (b : Bld) (nB : Nat) (B : Nat → Int) (nO : Nat) (O : Nat → Int) (W G L : Int) : Ann := { orc := [(1, [(0, .res fun _ => dB true)]), (3, [(1, .res fun _ => dB (jobS b nB nO))]), (5, [(1, .res fun _ => dI (arE b nB B nO O W G L))]), (6, [(4, .res fun _ => dB (litF b G W (uRI nB B nO O)))]), (8, [(2, .res fun _ => bld b), (5, .res fun _ => Lay.sys nB B nO O W G L), (6, .res fun _ => .tup [lyt (btL b nB B nO O W G L), prf (btP b nB B nO O W G L), dI (btE b nB B nO O W G L)])]), (10, [(7, .res fun _ => dB (lgF b G W (uRI nB B nO O)))]), (13, [(4, .res fun _ => dI (btK b nB B nO O W G L))]), (18, [(8, .res fun _ => dI (lyE b nB B nO O W G (btL b nB B nO O W G L))), (15, .res fun _ => dP (totO nB B (btL b nB B nO O W G L) (btL b nB B nO O W G L).nR) (totB (btL b nB B nO O W G L) (btL b nB B nO O W G L).nR)), (16, .res fun _ => dI (pvK nB B (btL b nB B nO O W G L)))]), (20, [(5, .res fun _ => .tup [dP (ttO b nB B nO O W G L (btL b nB B nO O W G L)) (ttB b nB B nO O W G L (btL b nB B nO O W G L)), dI (laE b nB B nO O W G L (btL b nB B nO O W G L))])]), (21, [(4, .res fun _ => dI (10000 * ttO b nB B nO O W G L (btL b nB B nO O W G L) + ttB b nB B nO O W G L (btL b nB B nO O W G L))), (15, .res fun _ => dI (pvE b nB B nO O W G (btL b nB B nO O W G L) (btP b nB B nO O W G L))), (24, .res fun _ => dI (laE b nB B nO O W G L (btL b nB B nO O W G L))), (34, .res fun _ => dI (pvR b nB B nO O W G L (btL b nB B nO O W G L) (btP b nB B nO O W G L)))])], loops := [], cuts := [(12, { ι := Unit, keep := [1, 4, 5, 6, 7], boxes := [1, 4, 5], ts := fun _ _ => [(3, dI (btD b nB B nO O W G L))], inv := fun _ _ => True, mu := fun _ _ => 0, rd := fun _ _ => () }), (16, { ι := Unit, keep := [1, 4, 5, 6], boxes := [1, 4, 5], ts := fun _ _ => [(3, dI (btE b nB B nO O W G L)), (7, dI (btK b nB B nO O W G L))], inv := fun _ _ => True, mu := fun _ _ => 0, rd := fun _ _ => () })] }
namespace w4m
noncomputable section
structure Z where
  b : Bld
  nB : Nat
  B : Nat → Int
  nO : Nat
  O : Nat → Int
  W : Int
  G : Int
  L : Int
variable (z : Z) (i0 : Nat) (p q : Prop) (P : List Prop) (a b : Int) (k l : Nat) (g h : Bool) (A : DV) (E : List DV) (U : VT) (j12a : List (Nat → DV)) (j13a : Nat → DV) (j18a : PUnit → VT)
abbrev x0 := btL z.b z.nB z.B z.nO z.O z.W z.G z.L
abbrev x1 := btP z.b z.nB z.B z.nO z.O z.W z.G z.L
abbrev x2 := btE z.b z.nB z.B z.nO z.O z.W z.G z.L
abbrev x3 := DV.lst k (j13a :: j12a)
abbrev x4 := if g = true then h else false
abbrev x5 := Lyt.nR (x0 z)
abbrev x6 := laE z.b z.nB z.B z.nO z.O z.W z.G z.L (x0 z)
abbrev x7 := x6 z == 0
abbrev x8 := btK z.b z.nB z.B z.nO z.O z.W z.G z.L
abbrev x9 := i0 < z.b.nO → rf (z.b.O i0 k)
abbrev x10 := i0 < z.b.nB → rf (z.b.B i0 k)
abbrev x11 := ttO z.b z.nB z.B z.nO z.O z.W z.G z.L (x0 z)
abbrev x12 := ttB z.b z.nB z.B z.nO z.O z.W z.G z.L (x0 z)
abbrev x13 := x2 z == x2 z
abbrev x14 := 10000 * x11 z + x12 z == x8 z
abbrev x15 : List Prop := ri (g = true) :: ri (h = true) :: P
abbrev x16 := Lyt.nC (x0 z)
abbrev x17 := Prf.n0 (x1 z)
abbrev x18 := DV.agg (x3 k [] j13a :: A :: E)
abbrev x19 := Prf.n1 (x1 z)
abbrev x20 := pvE z.b z.nB z.B z.nO z.O z.W z.G (x0 z) (x1 z)
abbrev x21 := x4 (x7 z) (x14 z)
abbrev x22 := Prf.nT (x1 z)
abbrev x23 := x3 z.nO [] (fun i0 => dI (z.O i0))
abbrev x24 := arE z.b z.nB z.B z.nO z.O z.W z.G z.L
abbrev x25 := x24 z == 0
abbrev x26 := lyE z.b z.nB z.B z.nO z.O z.W z.G (x0 z)
abbrev x27 := if (x2 z != 0) = true then true else (x26 z != 0)
abbrev x28 := x18 z.nB (x23 z) [dI z.W, dI z.G, dI z.L] (fun i0 => dI (z.B i0))
abbrev x29 : List Prop := ri (g = true) :: (h = true → p) :: P
abbrev x30 := a + (k:Int) + (l:Int)
abbrev x31 := x4 (x4 (x7 z) (x14 z)) (x20 z == 0)
abbrev x32 := x4 (x4 (x21 z) (x20 z == 0)) (x7 z)
abbrev x33 := !(x2 z != 0)
abbrev x34 := x15 P (x13 z) (x13 z)
abbrev x35 := FnC prog k (bld z.b :: x28 z :: E) A
abbrev x36 := x18 (x16 z) (x3 (x5 z) [fun i0 => dI (Lyt.SX (x0 z) i0), fun i0 => dI (Lyt.SY (x0 z) i0), fun i0 => dI (Lyt.Ln (x0 z) i0), fun i0 => x3 (Lyt.nP (x0 z) i0) [] (fun i1 => dI (Lyt.P (x0 z) i0 i1)), fun i0 => x3 (Lyt.nQ (x0 z) i0) [] (fun i1 => dI (Lyt.Q (x0 z) i0 i1))] (fun i0 => dI (Lyt.F (x0 z) i0))) [] (fun i0 => dI (Lyt.C (x0 z) i0))
abbrev x37 : List Prop := [rf a, rf z.b.name, rf z.b.nS, ∀ i0 < z.b.nS, rf (z.b.fl i0), ∀ i0 < z.b.nS, rf (z.b.N i0) ∧ (∀ i1 < z.b.N i0, rf (z.b.X i0 i1)) ∧ (∀ i1 < z.b.N i0, rf (z.b.Y i0 i1)), rf z.b.roof, rf z.b.nO, ∀ (i0 : Nat), x9 z i0 (0:Nat), ∀ (i0 : Nat), x9 z i0 (1:Nat), ∀ (i0 : Nat), x9 z i0 (2:Nat), ∀ (i0 : Nat), x9 z i0 (3:Nat), ∀ (i0 : Nat), x9 z i0 (4:Nat), ∀ (i0 : Nat), x9 z i0 (5:Nat), rf z.b.nB, ∀ (i0 : Nat), x10 z i0 (0:Nat), ∀ (i0 : Nat), x10 z i0 (1:Nat), ∀ (i0 : Nat), x10 z i0 (2:Nat), ∀ (i0 : Nat), x10 z i0 (3:Nat), ∀ (i0 : Nat), x10 z i0 (4:Nat), ∀ (i0 : Nat), x10 z i0 (5:Nat), rf z.nB, ∀ i0 < z.nB, rf (z.B i0), rf z.nO, ∀ i0 < z.nO, rf (z.O i0), rf z.W, rf z.G, rf z.L, rf (x16 z), ∀ i0 < x16 z, rf (Lyt.C (x0 z) i0), rf (x5 z), ∀ i0 < x5 z, rf (Lyt.F (x0 z) i0), ∀ i0 < x5 z, rf (Lyt.SX (x0 z) i0), ∀ i0 < x5 z, rf (Lyt.SY (x0 z) i0), ∀ i0 < x5 z, rf (Lyt.Ln (x0 z) i0), ∀ i0 < x5 z, rf (Lyt.nP (x0 z) i0) ∧ (∀ i1 < Lyt.nP (x0 z) i0, rf (Lyt.P (x0 z) i0 i1)), ∀ i0 < x5 z, rf (Lyt.nQ (x0 z) i0) ∧ (∀ i1 < Lyt.nQ (x0 z) i0, rf (Lyt.Q (x0 z) i0 i1)), rf (x22 z), ∀ i0 < x22 z, rf (Prf.T (x1 z) i0), rf (x17 z), ∀ i0 < x17 z, rf (Prf.A0 (x1 z) i0), ∀ i0 < x17 z, rf (Prf.A1 (x1 z) i0), rf (x19 z), ∀ i0 < x19 z, rf (Prf.B0 (x1 z) i0), ∀ i0 < x19 z, rf (Prf.B1 (x1 z) i0), True]
abbrev x38 := btD z.b z.nB z.B z.nO z.O z.W z.G z.L
abbrev x39 := VT.need P (VT.ite g (VT.done [p]) U)
abbrev x40 := DV.val (Value.agg (Array.mk [Value.int IntKind.i64 a, Value.int IntKind.i64 b]))
abbrev x41 := x15 P (x21 z) (x21 z)
abbrev x42 := x15 P (x25 z) (x25 z)
abbrev x43 := x15 P (x31 z) (x31 z)
abbrev x44 := x15 P (x32 z) (x32 z)
abbrev x45 : List DV := x36 z :: x18 (x22 z) (x3 (x17 z) [fun i0 => dI (Prf.A1 (x1 z) i0)] (fun i0 => dI (Prf.A0 (x1 z) i0))) [x3 (x19 z) [fun i0 => dI (Prf.B1 (x1 z) i0)] (fun i0 => dI (Prf.B0 (x1 z) i0))] (fun i0 => dI (Prf.T (x1 z) i0)) :: E
abbrev x46 := DV.agg [DV.val (Value.string z.b.name), x3 z.b.nS [fun i0 => x3 (z.b.N i0) [fun i1 => dI (z.b.Y i0 i1)] (fun i1 => dI (z.b.X i0 i1))] (fun i0 => dI (z.b.fl i0)), dI z.b.roof, x3 z.b.nO [fun i0 => dI (z.b.O i0 1), fun i0 => dI (z.b.O i0 2), fun i0 => dI (z.b.O i0 3), fun i0 => dI (z.b.O i0 4), fun i0 => dI (z.b.O i0 5)] (fun i0 => dI (z.b.O i0 0)), x3 z.b.nB [fun i0 => dI (z.b.B i0 1), fun i0 => dI (z.b.B i0 2), fun i0 => dI (z.b.B i0 3), fun i0 => dI (z.b.B i0 4), fun i0 => dI (z.b.B i0 5)] (fun i0 => dI (z.b.B i0 0)), x3 z.nB [] (fun i0 => dI (z.B i0)), x23 z, dI z.W, dI z.G, dI z.L]
abbrev x47 := VT.cut PUnit (fun (i0 : PUnit) => True) U j18a
abbrev x48 : List Prop := (x13 z = true → p) :: ri (x13 z = true) :: x34 z (x29 q P (x13 z) (x13 z))
abbrev x49 := (↑(x16 z) : Int) + (↑(x5 z) : Int)
abbrev x50 := x30 (↑(x16 z) : Int) (x5 z) (x22 z)
abbrev x51 := VT.done ((a = x2 z) :: rf (x8 z) :: x37 z (x2 z))
abbrev x52 := VT.done ((a = x38 z) :: rf (x2 z) :: x37 z (0:Int))
abbrev x53 := litF z.b z.G z.W (uRI z.nB z.B z.nO z.O)
abbrev x54 := lgF z.b z.G z.W (uRI z.nB z.B z.nO z.O)
abbrev x55 := x40 (totO z.nB z.B (x0 z) (x5 z)) (totB (x0 z) (x5 z))
abbrev x56 := pvR z.b z.nB z.B z.nO z.O z.W z.G z.L (x0 z) (x1 z)
abbrev xt : VT := x39 (false = true) [FnC prog 5 [] (dB true)] (!true) (x39 (rf true) [FnC prog 6 [x46 z] (dB (jobS z.b z.nB z.nO))] (!(jobS z.b z.nB z.nO)) (VT.need [FnC prog 8 [x46 z] (dI (x24 z))] (x39 (rf true) (x29 (FnC prog 16 [x46 z] (dB (x53 z))) (x42 z []) (x25 z) (x25 z)) (x4 (x25 z) (!(x53 z))) (VT.need [FnC prog 13 [bld z.b] (bld z.b), FnC prog 14 [x28 z] (x28 z), x35 z (17:Nat) (DV.tup (x45 z [dI (x2 z)])) []] (x47 (VT.need (x42 z (x42 z [x25 z = true → x35 z (18:Nat) (dB (x54 z)) [], ri (x25 z = true)])) (VT.ite (x4 (x25 z) (x54 z)) (x52 z (8:Int)) (x52 z (x24 z)))) (fun (i0 : PUnit) => x47 (VT.ite (x38 z == 0) (VT.need [x35 z (19:Nat) (dI (x8 z)) []] (VT.ite (decide ((x8 z) < (0:Int))) (x51 z (13:Int)) (x51 z (x38 z)))) (VT.done ((x38 z = x2 z) :: (0 = x8 z) :: x37 z (x2 z)))) (fun (i0 : PUnit) => VT.ite (x2 z != 0) (VT.need (x34 z (x34 z (x34 z (x48 z (i64In (x49 z)) (i64In (x30 (↑(x16 z) : Int) (x5 z) (x22 z))) (x29 ((0:Int) ≤ (0:Int) ∧ 0 < (↑(2:Nat) : Int)) (x34 z (x34 z ((x13 z = true → i64In (x30 (x49 z) (x22 z) (x17 z))) :: ri (x13 z = true) :: x48 z ((0:Int) ≤ (1:Int) ∧ 1 < (↑(2:Nat) : Int)) (i64In (x30 (x50 z) (x17 z) (x19 z))) (x34 z [])))) (x13 z) (x13 z)))))) (VT.done [x4 (x13 z) (x30 (x50 z) (x17 z) (x19 z) == 0) = true])) (x39 (false = true) (x15 (x15 (x29 (x35 z (9:Nat) (dI (x26 z)) [x36 z]) (ri (x33 z = true) :: ((x2 z != 0) = false → x33 z = true) :: x15 (x29 (FnC prog 21 [x28 z, x36 z] (x55 z)) (x29 (FnC prog 20 [x55 z] (dI (pvK z.nB z.B (x0 z)))) (x15 [x27 z = false → (!(x27 z)) = true] (!(x27 z)) (!(x27 z))) (!(x27 z)) (!(x27 z))) (!(x27 z)) (!(x27 z))) (!(x27 z)) (!(x27 z))) (x33 z) (x33 z)) (x33 z) (x33 z)) (x33 z) (x33 z)) (if (x27 z) = true then true else (pvK z.nB z.B (x0 z) != x8 z)) (VT.need [x35 z (22:Nat) (DV.tup [x40 (x11 z) (x12 z), dI (x6 z)]) [x36 z]] (VT.need (x29 (FnC prog 20 [x40 (x11 z) (x12 z)] (dI (10000 * x11 z + x12 z))) (x15 (x15 (x41 z (x41 z (x29 (x35 z (10:Nat) (dI (x20 z)) (x45 z [])) (x41 z (x43 z (x43 z (x29 (x35 z (23:Nat) (dI (x6 z)) [x36 z]) (x43 z (x44 z (x44 z (x44 z [x32 z = true → x35 z (12:Nat) (dI (x56 z)) (x45 z []), ri (x32 z = true), ri (x32 z = true)])))) (x31 z) (x31 z))))) (x21 z) (x21 z)))) (x7 z) (x21 z)) (x7 z) (x7 z)) (x7 z) (x7 z)) (VT.done [x4 (x4 (x31 z) (x7 z)) (x56 z == 0) = true])))))))))))
end
end w4m
open w4m in
theorem layBest_law (b : Bld) (nB : Nat) (B : Nat → Int) (nO : Nat) (O : Nat → Int) (W G L : Int)  : FnC prog 4 [jobD b nB B nO O W G L] (dB true) := by
  refine FnC_owed hmix (A4_layBest_law b nB B nO O W G L) (V := xt ⟨b, nB, B, nO, O, W, G, L⟩) (by kernel_rfl) ?_
  simp only [xt, x0, x1, x2, x3, x4, x5, x6, x7, x8, x9, x10, x11, x12, x13, x14, x15, x16, x17, x18, x19, x20, x21, x22, x23, x24, x25, x26, x27, x28, x29, x30, x31, x32, x33, x34, x35, x36, x37, x38, x39, x40, x41, x42, x43, x44, x45, x46, x47, x48, x49, x50, x51, x52, x53, x54, x55, x56, Rf, VT.holds, AllT, Sq]
  refine ⟨awakeJ_c, fun h => (by cases h), fun _ => ⟨jobSmall_c b nB B nO O W G L, fun hj => ?_⟩⟩
  obtain ⟨⟨j1, j2, j3, j4⟩, j5, j6⟩ := jobS_ok hj
  have hN : ∀ i, i < b.nS → b.N i ≤ 1000 := fun i hi => by have := j4 i hi; omega
  have cp := copied_c b (by omega) (by omega) (by omega) hN
  have cs := Lay.copied_c nB B nO O W G L (by omega) (by omega)
  refine ⟨jobRing_c b nB B nO O W G L hN, fun h => light_c b nB B nO O W G L h, fun _ => ⟨⟨cp, cs, best_tc b nB B nO O W G L hN⟩, ⟨fun h => large_c b nB B nO O W G L h, fun h => ?_, fun h => ?_⟩, fun _ _ => ⟨⟨fun hd => ?_, fun hd => ?_⟩, fun _ _ => ⟨fun hE => ?_, fun hE => ?_⟩⟩⟩⟩
  · rw [btD, if_neg (by rw [h.1]; simp), if_pos h.2]
  · by_cases h0 : arE b nB B nO O W G L = 0
    · rw [btD, if_neg (by rw [h0]; simp), if_neg (by rw [h h0]; simp), h0]
    · rw [btD, if_pos h0]
  · obtain ⟨h0, hg⟩ := btD_0 hd
    obtain ⟨hm, hl⟩ := (rg_eq h0).1 hg
    have hn : ¬ (arE b nB B nO O W G L ≠ 0 ∨ btM b nB B nO O W G L ≠ 0) := by rw [h0, hm]; simp
    have e1 : btK b nB B nO O W G L = mnS (dX b nB B nO O W G 0 (b.N 0) 0) (dX b nB B nO O W G 1 (b.N 0) 1) 1 := by rw [btK, if_neg hn]
    have e2 : btE b nB B nO O W G L = bE b nB B nO O W G := by rw [btE, if_neg (by rw [h0]; simp), if_neg (by rw [hm]; simp)]
    rw [e1, e2, hd]
    refine ⟨bestR_c b nB B nO O W G L h0 hl, fun hk => ?_, fun hk => ?_⟩
    · rw [bE, if_pos (bst_neg.2 hk)]
    · rw [bE, if_neg (fun hx => hk (bst_neg.1 hx))]
  · by_cases h0 : arE b nB B nO O W G L = 0
    · have hg : lgF b G W (uRI nB B nO O) = true := by
        cases hx : lgF b G W (uRI nB B nO O) with
        | true => rfl
        | false => exact absurd (by rw [btD, if_neg (by rw [h0]; simp), if_neg (by rw [hx]; simp)]) hd
      have hm := (rg_eq h0).2 hg
      rw [btD, if_neg (by rw [h0]; simp), if_pos hg, btE, if_neg (by rw [h0]; simp), if_pos (by rw [hm]; decide), hm, btK, if_pos (.inr (by rw [hm]; decide))]
      exact ⟨rfl, rfl⟩
    · rw [btD, if_pos h0, btE, if_pos h0, btK, if_pos (.inl h0)]
      exact ⟨rfl, rfl⟩
  · obtain ⟨e1, e2, e3, e4, e5⟩ := bt_none hE
    rw [e1, e2, e3, e4, e5]
    exact ⟨⟨fun _ => (by unfold i64In; omega), fun _ => (by unfold i64In; omega), fun _ => by decide, fun _ => (by unfold i64In; omega), fun _ => by decide, fun _ => (by unfold i64In; omega)⟩, by decide⟩
  · obtain ⟨h0, hl, ht, hly, hK, hp, hnT, hpv⟩ := bt_some hE
    have hla := laE_2 (b := b) (nB := nB) (B := B) (nO := nO) (O := O) (W := W) (G := G) (L := L) (l := btL b nB B nO O W G L) h0
    have hla0 : laE b nB B nO O W G L (btL b nB B nO O W G L) = 0 := by rw [hla, hly]
    obtain ⟨hc, hs, _, _, _, _, _⟩ := ar_zero h0
    obtain ⟨_, _, kb1, kb2⟩ := pvK_bd (nB := nB) (B := B) ht
    have e1 : ttO b nB B nO O W G L (btL b nB B nO O W G L) = totO nB B (btL b nB B nO O W G L) (btL b nB B nO O W G L).nR := by rw [ttO, if_pos hla0]
    have e2 : ttB b nB B nO O W G L (btL b nB B nO O W G L) = totB (btL b nB B nO O W G L) (btL b nB B nO O W G L).nR := by rw [ttB, if_pos hla0]
    have hk : 10000 * ttO b nB B nO O W G L (btL b nB B nO O W G L) + ttB b nB B nO O W G L (btL b nB B nO O W G L) = btK b nB B nO O W G L := by rw [e1, e2, ← hK, pvK]
    have hR : pvR b nB B nO O W G L (btL b nB B nO O W G L) (btP b nB B nO O W G L) = 0 := by rw [pvR_2 hla0, hpv]
    refine ⟨⟨fun _ => checkLayoutR_c b nB B nO O W G L _ h0 ht, fun _ => totalR_c nB B nO O W G L _ hs ht, fun _ => codeL_c _ _ kb1 kb2⟩, fun hx => ?_, fun _ => ⟨totalTop_c b nB B nO O W G L _ hN ht, ⟨fun _ => codeL_c _ _ (by rw [e1]; exact kb1) (by rw [e2]; exact kb2), fun _ => proofR_c b nB B nO O W G L _ _ ht h0 hp (by omega), fun _ => checkLayout_c b nB B nO O W G L _ hN ht, fun _ => proof_tc b nB B nO O W G L _ _ hN ht hp (by omega)⟩, ⟨⟨⟨hla0, hk⟩, hpv⟩, hla0⟩, hR⟩⟩
    rcases hx with (hx | hx) | hx
    · exact absurd hE hx
    · exact absurd hly hx
    · exact absurd hK hx
end Go.Abs
end
