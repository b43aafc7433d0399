/- Contracts. Contracts. Contracts. -/
import Derived.Test.YteennpofimiliaaGreatDoorK20
import Derived.Test.YteennpofimiliaaGreatDoorK41
section
section
set_option linter.unusedVariables false
set_option linter.unusedSimpArgs false
set_option maxRecDepth 100000
namespace Go.Abs
open Go
section
variable {b : Bld} {s : Int}
theorem shp_no (h : shpB b = false) : ¬ (b.nS < 1 ∨ b.nS > 20 ∨ b.nO > 100 ∨ b.nB > 50) := fun h1 => by rw [shpB_spec.2 h1] at h; cases h
theorem small_ok (h : smallF b = true) : b.nS ≤ 25 ∧ b.nO ≤ 105 ∧ b.nB ≤ 55 ∧ ∀ i, i < b.nS → b.N i ≤ 45 := by
  unfold smallF at h
  rw [decide_eq_true_eq] at h
  refine ⟨by omega, by omega, by omega, fun i hi => ?_⟩
  have := h.2 i hi
  rw [manyC, decide_eq_false_iff_not] at this
  omega
end
end Go.Abs
end
section
set_option linter.unusedVariables false
set_option linter.unusedSimpArgs false
set_option maxRecDepth 100000
namespace Go.Abs
open Go
def firstI (p : Nat → Bool) : Nat → Int
  | 0 => -1
  | k + 1 => if 0 ≤ firstI p k then firstI p k else if p k = true then (k : Int) else -1
theorem firstI_none {p : Nat → Bool} : ∀ {n : Nat}, (∀ j, j < n → p j = false) → firstI p n = -1
  | 0, _ => rfl
  | n + 1, h => by
    rw [firstI, firstI_none (fun j hj => h j (by omega)), if_neg (by omega), if_neg (by rw [h n (by omega)]; simp)]
theorem firstI_at {p : Nat → Bool} {i : Nat} (h : ∀ j, j < i → p j = false) (hi : p i = true) : ∀ {n : Nat}, i < n → firstI p n = i
  | n + 1, hn => by
    rcases Nat.lt_or_ge i n with h1 | h1
    · have := firstI_at h hi h1
      rw [firstI, this, if_pos (by omega)]
    · have : i = n := by omega
      subst this
      rw [firstI, firstI_none h, if_neg (by omega), if_pos hi]
def okI (b : Bld) (x1 y1 z1 x2 y2 z2 : Int) (i : Nat) : Bool := okC x1 y1 z1 x2 y2 z2 (b.B i 0) (b.B i 1) (b.B i 2) (b.B i 3) (b.B i 4) (b.B i 5)
theorem okC_comm (a1 b1 c1 d1 e1 f1 a2 b2 c2 d2 e2 f2 : Int) : okC a1 b1 c1 d1 e1 f1 a2 b2 c2 d2 e2 f2 = okC a2 b2 c2 d2 e2 f2 a1 b1 c1 d1 e1 f1 := by
  unfold okC
  rw [decide_eq_decide]; omega
section
variable {b : Bld} {x1 y1 z1 x2 y2 z2 : Int}
end
noncomputable def A49_forbR_c (b : Bld) (x1 y1 z1 x2 y2 z2 : Int) : Ann := { orc := [(4, [(6, rCmR)])], loops := [(0, { ι := Nat, keep := [2, 3], boxes := [2, 3], ts := fun _ i => [(5, dI (i : Int))], inv := fun _ i => i ≤ b.nB ∧ ∀ j, j < i → okI b x1 y1 z1 x2 y2 z2 j = false, mu := fun _ i => b.nB - i, rd := fun _ σ => (iOf (σ.get 5)).toNat })], cuts := [] }
namespace w1m
noncomputable section
structure Z where
  b : Bld
  x1 : Int
  y1 : Int
  z1 : Int
  x2 : Int
  y2 : Int
  z2 : Int
variable (z : Z) (i0 i1 : Nat) (P : List Prop) (a b : Int) (k : Nat) (j15a : List Value)
abbrev v0 := z.b.B (Int.toNat (i0:Int)) k
abbrev v1 : List Value := Value.int IntKind.i64 a :: Value.int IntKind.i64 b :: j15a
abbrev v2 := i0 < z.b.nB → rf (z.b.B i0 k)
abbrev v3 := i0 < z.b.nO → rf (z.b.O i0 k)
abbrev v4 := okC (v0 z i0 (0:Nat)) (v0 z i0 (1:Nat)) (v0 z i0 (2:Nat)) (v0 z i0 (3:Nat)) (v0 z i0 (4:Nat)) (v0 z i0 (5:Nat)) z.x1 z.y1 z.z1 z.x2 z.y2 z.z2
abbrev v5 := Int.toNat ((i0:Int) + 1)
abbrev v6 := v1 (cmR (v4 z i0) a) (cmR (v4 z i0) b) j15a
abbrev v7 := VT.done [a = firstI (okI z.b z.x1 z.y1 z.z1 z.x2 z.y2 z.z2) z.b.nB]
abbrev v8 : List Prop := (a = (k:Int)) :: rf z.b.name :: rf z.b.nS :: (∀ i0 < z.b.nS, rf (z.b.fl i0)) :: (∀ i0 < z.b.nS, rf (z.b.N i0) ∧ (∀ i1 < z.b.N i0, rf (z.b.X i0 i1)) ∧ (∀ i1 < z.b.N i0, rf (z.b.Y i0 i1))) :: rf z.b.roof :: rf z.b.nO :: (∀ (i0 : Nat), v3 z i0 (0:Nat)) :: (∀ (i0 : Nat), v3 z i0 (1:Nat)) :: (∀ (i0 : Nat), v3 z i0 (2:Nat)) :: (∀ (i0 : Nat), v3 z i0 (3:Nat)) :: (∀ (i0 : Nat), v3 z i0 (4:Nat)) :: (∀ (i0 : Nat), v3 z i0 (5:Nat)) :: rf z.b.nB :: (∀ (i0 : Nat), v2 z i0 (0:Nat)) :: (∀ (i0 : Nat), v2 z i0 (1:Nat)) :: (∀ (i0 : Nat), v2 z i0 (2:Nat)) :: (∀ (i0 : Nat), v2 z i0 (3:Nat)) :: (∀ (i0 : Nat), v2 z i0 (4:Nat)) :: (∀ (i0 : Nat), v2 z i0 (5:Nat)) :: rf z.x1 :: rf z.y1 :: rf z.z1 :: rf z.x2 :: rf z.y2 :: rf z.z2 :: P
abbrev v9 := i1 < k → okI z.b z.x1 z.y1 z.z1 z.x2 z.y2 z.z2 i1 = false
abbrev xt : VT := VT.loop Nat (fun i0 => i0 ≤ z.b.nB ∧ (∀ (i1 : Nat), v9 z i1 i0)) (Int.toNat 0) (v8 z [] (0:Int) (Int.toNat 0)) (fun i0 => VT.ite (decide ((i0:Int) < (z.b.nB:Int))) (VT.need [0 ≤ (i0:Int) ∧ (i0:Int) < (z.b.nB:Int), FnC prog 105 [DV.val (Value.agg (Array.mk (v1 (v0 z i0 (0:Nat)) (v0 z i0 (1:Nat)) (v1 (v0 z i0 (2:Nat)) (v0 z i0 (3:Nat)) (v1 (v0 z i0 (4:Nat)) (v0 z i0 (5:Nat)) []))))), DV.val (Value.agg (Array.mk (v1 z.x1 z.y1 (v1 z.z1 z.x2 (v1 z.y2 z.z2 [])))))] (DV.tup [DV.val (Value.agg (Array.mk (v6 z i0 (max (v0 z i0 (0:Nat)) z.x1) (max (v0 z i0 (1:Nat)) z.y1) (v6 z i0 (max (v0 z i0 (2:Nat)) z.z1) (min (v0 z i0 (3:Nat)) z.x2) (v6 z i0 (min (v0 z i0 (4:Nat)) z.y2) (min (v0 z i0 (5:Nat)) z.z2) []))))), dB (v4 z i0)])] (VT.ite (v4 z i0) (v7 z (i0:Int)) (VT.need [i64In ((i0:Int) + 1)] (VT.done (v8 z [v5 i0 ≤ z.b.nB ∧ (∀ (i1 : Nat), v9 z i1 (v5 i0)), z.b.nB - v5 i0 < z.b.nB - i0] ((i0:Int) + 1) (v5 i0)))))) (v7 z (-(1:Int))))
end
end w1m
open w1m in
theorem forbR_c (b : Bld) (x1 y1 z1 x2 y2 z2 : Int) (hB : b.nB ≤ 1000) : FnC prog 65 [bld b, bx x1 y1 z1 x2 y2 z2] (dI (firstI (okI b x1 y1 z1 x2 y2 z2) b.nB)) := by
  refine FnC_owed hmix (A49_forbR_c b x1 y1 z1 x2 y2 z2) (V := xt ⟨b, x1, y1, z1, x2, y2, z2⟩) (by kernel_rfl) ?_
  simp only [xt, v0, v1, v2, v3, v4, v5, v6, v7, v8, v9, Rf, VT.holds, AllT, Sq]
  refine ⟨rfl, ⟨Nat.zero_le _, fun j hj => absurd hj (Nat.not_lt_zero j)⟩, fun i ⟨hi, hb⟩ => ⟨fun hlt => ⟨⟨⟨by omega, hlt⟩, commonR_c _ _ _ _ _ _ _ _ _ _ _ _⟩, fun h => ?_, fun h => ⟨by unfold i64In; omega, by omega, ⟨by omega, upto hb ?_⟩, by omega⟩⟩, fun hge => by rw [firstI_none (fun j hj => hb j (by omega))]⟩⟩
  · rw [okC_comm] at h
    exact (firstI_at hb h (by omega)).symm
  · rw [okC_comm] at h
    exact h
end Go.Abs
end
end
section
set_option linter.unusedVariables false
set_option linter.unusedSimpArgs false
set_option maxRecDepth 100000
namespace Go.Abs
open Go
def ringBad (b : Bld) (G W L : Int) (i j : Nat) : Bool := okI b (ruX1 (b.N 0) (b.X 0) (b.Y 0) G W i 1 0) (ruY1 (b.N 0) (b.X 0) (b.Y 0) G W i 1 0) 0 (ruX2 (b.N 0) (b.X 0) (b.Y 0) G W i 1 0) (ruY2 (b.N 0) (b.X 0) (b.Y 0) G W i 1 0) (topH b.roof L) j
def ringOk (b : Bld) (G W L : Int) : Bool := decide (∀ i, i < b.N 0 → ∀ j, j < b.nB → ringBad b G W L i j = false)
def arE (b : Bld) (nB : Nat) (B : Nat → Int) (nO : Nat) (O : Nat → Int) (W G L : Int) : Int :=
  if chkB b ≠ 0 then chkB b else if Lay.sysE nB B nO O W G L ≠ 0 then Lay.sysE nB B nO O W G L else if b.roof < L then 2 else if b.roof / L > 40 then 8
  else if ofE (b.N 0) (b.X 0) (b.Y 0) G ≠ 0 ∨ ofE (b.N 0) (b.X 0) (b.Y 0) (G + W) ≠ 0 then 12 else if ringOk b G W L = false then 12 else 0
abbrev ringD (b : Bld) (nB : Nat) (B : Nat → Int) (nO : Nat) (O : Nat → Int) (W G L : Int) : DV :=
  ringC (.val (.string b.name)) (.lst b.nS (stoC b)) b.roof (.lst b.nO (opeC b)) (.lst b.nB (boxC b)) (Lay.nums nB B) (Lay.nums nO O) W G L (dI (Lay.catU nB B nO O W G L)) (.lst (Lay.catN nB B nO O W G L) (Lay.part3 (Lay.pLen nB B nO O) (Lay.pCode nB) (fun i => decide (nB ≤ i)))) (b.N 0) (b.X 0) (b.Y 0)
def rOfs : Orc := .res fun l => .tup [.any, dI (ofE (aN l) (aX l) (aY l) (aI l 1))]
def rWaK : Orc := .res fun l => .tup [.lst (aN l) (wcols (aN l) (aX l) (aY l)), dI 0]
def rCoK : Orc := .res fun l => .tup [.lst (aN l) [fun k => dI (cor (aN l) (aX l) (aY l) k)], dI 0]
def rFst (b : Bld) : Orc := .res fun _ => pts (b.N 0) (b.X 0) (b.Y 0)
def rRbx (b : Bld) (G W L : Int) : Orc := .res fun l => bx (ruX1 (b.N 0) (b.X 0) (b.Y 0) G W (aI l 1) (aI l 2) (aI l 3)) (ruY1 (b.N 0) (b.X 0) (b.Y 0) G W (aI l 1) (aI l 2) (aI l 3)) 0 (ruX2 (b.N 0) (b.X 0) (b.Y 0) G W (aI l 1) (aI l 2) (aI l 3)) (ruY2 (b.N 0) (b.X 0) (b.Y 0) G W (aI l 1) (aI l 2) (aI l 3)) (topH b.roof L)
theorem place_w {n : Nat} {X Y : Nat → Int} (h : chk n X Y = 0) {f : Int} (hf : 0 ≤ f ∧ f < n) (al r : Int) (h1 : -9000000 ≤ al ∧ al ≤ 9000000) (h2 : -9000000 ≤ r ∧ r ≤ 9000000) :
    FnC prog 68 [.val (.agg #[.int .i64 (X f.toNat), .int .i64 (Y f.toNat), .int .i64 (X (ix n ((f.toNat : Nat) + 1))), .int .i64 (Y (ix n ((f.toNat : Nat) + 1))), .int .i64 (lenW n X Y (f.toNat : Nat)), .int .i64 (dD n X Y (f.toNat : Nat))]), dI al, dI r]
      (dP (atX n X Y f al r) (atY n X Y f al r)) := by
  obtain ⟨hX, hY⟩ := chk_inB h
  have hd := dD_range n X Y f
  have x1 := hX f.toNat (by omega)
  have y1 := hY f.toNat (by omega)
  have hc := place_c (X f.toNat) (Y f.toNat) (X (ix n ((f.toNat : Nat) + 1))) (Y (ix n ((f.toNat : Nat) + 1))) (lenW n X Y (f.toNat : Nat)) (dD n X Y (f.toNat : Nat)) al r (by rw [Int.toNat_of_nonneg hf.1]; omega) (by unfold m3; omega) (by unfold m3; omega) h1 h2
  have e : (f.toNat : Int) = f := Int.toNat_of_nonneg hf.1
  rw [e] at hc ⊢
  obtain ⟨k1, k2⟩ := st_r (d := dD n X Y f) (by omega)
  rw [k1, k2] at hc
  have e1 : X f.toNat + al * stX (dD n X Y f) + r * stY (dD n X Y f) = atX n X Y f al r := by rw [atX, ix_at hf]
  have e2 : Y f.toNat + al * stY (dD n X Y f) + r * -stX (dD n X Y f) = atY n X Y f al r := by rw [atY, ix_at hf, Int.mul_neg]; omega
  rw [e1, e2] at hc
  exact hc
section
variable {b : Bld} {nB : Nat} {B : Nat → Int} {nO : Nat} {O : Nat → Int} {W G L : Int}
theorem sys_wgl (h : Lay.sysE nB B nO O W G L = 0) : gwOk G W ∧ 1 ≤ L ∧ L ≤ 10000 := by
  unfold Lay.sysE at h
  split at h
  · cases h
  · split at h
    · cases h
    · split at h
      · cases h
      · split at h
        · cases h
        · rename_i h4
          unfold Lay.inR at h4
          simp only [decide_eq_false_iff_not, not_or, Decidable.not_not] at h4
          unfold gwOk
          omega
theorem ar_1 (h : chkB b ≠ 0) : arE b nB B nO O W G L = chkB b := by rw [arE, if_pos h]
theorem ar_2 (h : chkB b = 0) (h2 : Lay.sysE nB B nO O W G L ≠ 0) : arE b nB B nO O W G L = Lay.sysE nB B nO O W G L := by rw [arE, if_neg (by rw [h]; simp), if_pos h2]
theorem ar_3 (h : chkB b = 0) (h2 : Lay.sysE nB B nO O W G L = 0) (h3 : b.roof < L) : arE b nB B nO O W G L = 2 := by rw [arE, if_neg (by rw [h]; simp), if_neg (by rw [h2]; simp), if_pos h3]
theorem ar_4 (h : chkB b = 0) (h2 : Lay.sysE nB B nO O W G L = 0) (h3 : ¬ b.roof < L) (h4 : b.roof / L > 40) : arE b nB B nO O W G L = 8 := by rw [arE, if_neg (by rw [h]; simp), if_neg (by rw [h2]; simp), if_neg h3, if_pos h4]
theorem ar_5 (h : chkB b = 0) (h2 : Lay.sysE nB B nO O W G L = 0) (h3 : ¬ b.roof < L) (h4 : ¬ b.roof / L > 40) (h5 : ofE (b.N 0) (b.X 0) (b.Y 0) G ≠ 0 ∨ ofE (b.N 0) (b.X 0) (b.Y 0) (G + W) ≠ 0) : arE b nB B nO O W G L = 12 := by
  rw [arE, if_neg (by rw [h]; simp), if_neg (by rw [h2]; simp), if_neg h3, if_neg h4, if_pos h5]
theorem ar_6 (h : chkB b = 0) (h2 : Lay.sysE nB B nO O W G L = 0) (h3 : ¬ b.roof < L) (h4 : ¬ b.roof / L > 40) (h5 : ¬ (ofE (b.N 0) (b.X 0) (b.Y 0) G ≠ 0 ∨ ofE (b.N 0) (b.X 0) (b.Y 0) (G + W) ≠ 0)) (h6 : ringOk b G W L = false) : arE b nB B nO O W G L = 12 := by
  rw [arE, if_neg (by rw [h]; simp), if_neg (by rw [h2]; simp), if_neg h3, if_neg h4, if_neg h5, if_pos h6]
theorem ar_7 (h : chkB b = 0) (h2 : Lay.sysE nB B nO O W G L = 0) (h3 : ¬ b.roof < L) (h4 : ¬ b.roof / L > 40) (h5 : ¬ (ofE (b.N 0) (b.X 0) (b.Y 0) G ≠ 0 ∨ ofE (b.N 0) (b.X 0) (b.Y 0) (G + W) ≠ 0)) (h6 : ringOk b G W L = true) : arE b nB B nO O W G L = 0 := by
  rw [arE, if_neg (by rw [h]; simp), if_neg (by rw [h2]; simp), if_neg h3, if_neg h4, if_neg h5, if_neg (by rw [h6]; simp)]
theorem ar_zero (h : arE b nB B nO O W G L = 0) : chkB b = 0 ∧ Lay.sysE nB B nO O W G L = 0 ∧ ¬ b.roof < L ∧ ¬ b.roof / L > 40 ∧ ofE (b.N 0) (b.X 0) (b.Y 0) G = 0 ∧ ofE (b.N 0) (b.X 0) (b.Y 0) (G + W) = 0 ∧ ringOk b G W L = true := by
  by_cases h1 : chkB b = 0
  · by_cases h2 : Lay.sysE nB B nO O W G L = 0
    · by_cases h3 : b.roof < L
      · rw [ar_3 h1 h2 h3] at h; cases h
      · by_cases h4 : b.roof / L > 40
        · rw [ar_4 h1 h2 h3 h4] at h; cases h
        · by_cases h5 : ofE (b.N 0) (b.X 0) (b.Y 0) G ≠ 0 ∨ ofE (b.N 0) (b.X 0) (b.Y 0) (G + W) ≠ 0
          · rw [ar_5 h1 h2 h3 h4 h5] at h; cases h
          · cases h6 : ringOk b G W L with
            | false => rw [ar_6 h1 h2 h3 h4 h5 h6] at h; cases h
            | true => exact ⟨h1, h2, h3, h4, by omega, by omega, rfl⟩
    · rw [ar_2 h1 h2] at h; exact absurd h h2
  · rw [ar_1 h1] at h; exact absurd h h1
theorem b0_ok (h : chkB b = 0) : 0 < b.nS ∧ chk (b.N 0) (b.X 0) (b.Y 0) = 0 ∧ 0 ≤ b.roof ∧ b.roof ≤ 1000000 ∧ b.nB ≤ 50 := by
  obtain ⟨c1, c2, c3, c4, c5, c6⟩ := chkB_zero h
  have hs := shp_no c2
  obtain ⟨f1, f2, f3⟩ := floors_ok c2 c3 c4
  exact ⟨by omega, f1 0 (by omega), f2.2.1, f2.2.2, by omega⟩
theorem box_ok (h : chkB b = 0) {j : Nat} (hj : j < b.nB) : ckI b j = 0 := by
  obtain ⟨c1, c2, c3, c4, c5, c6⟩ := chkB_zero h
  have := c6 j hj
  unfold bxE at this
  split at this
  · rename_i h1; exact absurd this h1
  · rename_i h1; exact Decidable.not_not.1 h1
theorem top_in (hr : 0 ≤ b.roof ∧ b.roof ≤ 1000000) (hL : 1 ≤ L ∧ L ≤ 10000) (h40 : ¬ b.roof / L > 40) : 0 < topH b.roof L ∧ topH b.roof L ≤ 1000000 := by
  obtain ⟨t1, t2, t3, t4⟩ := top_bd hr hL
  refine ⟨t3, ?_⟩
  have := Int.mul_le_mul_of_nonneg_right (show b.roof / L + 1 ≤ 41 by omega) (show 0 ≤ L by omega)
  unfold topH
  omega
theorem ring_ck (hc : chkB b = 0) (hs : Lay.sysE nB B nO O W G L = 0) (h40 : ¬ b.roof / L > 40) (e1 : ofE (b.N 0) (b.X 0) (b.Y 0) G = 0) (e2 : ofE (b.N 0) (b.X 0) (b.Y 0) (G + W) = 0) {i : Nat} (hi : i < b.N 0) :
    ckB (ruX1 (b.N 0) (b.X 0) (b.Y 0) G W i 1 0) (ruY1 (b.N 0) (b.X 0) (b.Y 0) G W i 1 0) 0 (ruX2 (b.N 0) (b.X 0) (b.Y 0) G W i 1 0) (ruY2 (b.N 0) (b.X 0) (b.Y 0) G W i 1 0) (topH b.roof L) = 0 := by
  obtain ⟨b1, b2, b3, b4, b5⟩ := b0_ok hc
  obtain ⟨g1, g2, g3⟩ := sys_wgl hs
  obtain ⟨i1, i2, i3, i4, i5, i6⟩ := box_in b2 g1 e1 e2 hi
  obtain ⟨t1, t2⟩ := top_in ⟨b3, b4⟩ ⟨g2, g3⟩ h40
  have z : inF 0 = true := by decide
  have t : inF (topH b.roof L) = true := by unfold inF; rw [decide_eq_true_eq]; omega
  rw [ckB, if_neg (fun h => h ⟨i1, i2, z, i3, i4, t⟩), if_neg (by omega)]
theorem ring_over (hc : chkB b = 0) (hs : Lay.sysE nB B nO O W G L = 0) (h40 : ¬ b.roof / L > 40) (e1 : ofE (b.N 0) (b.X 0) (b.Y 0) G = 0) (e2 : ofE (b.N 0) (b.X 0) (b.Y 0) (G + W) = 0) {i j : Nat} (hi : i < b.N 0) (hj : j < b.nB) :
    isO (ruX1 (b.N 0) (b.X 0) (b.Y 0) G W i 1 0) (ruY1 (b.N 0) (b.X 0) (b.Y 0) G W i 1 0) 0 (ruX2 (b.N 0) (b.X 0) (b.Y 0) G W i 1 0) (ruY2 (b.N 0) (b.X 0) (b.Y 0) G W i 1 0) (topH b.roof L) (b.B j 0) (b.B j 1) (b.B j 2) (b.B j 3) (b.B j 4) (b.B j 5) = ringBad b G W L i j := by
  have k1 := ring_ck hc hs h40 e1 e2 hi
  have k2 : ckB (b.B j 0) (b.B j 1) (b.B j 2) (b.B j 3) (b.B j 4) (b.B j 5) = 0 := box_ok hc hj
  unfold isO erB
  rw [if_neg (by rw [k1]; simp), k2]
  rfl
theorem ringOk_no {i j : Nat} (hi : i < b.N 0) (hj : j < b.nB) (h : ringBad b G W L i j = true) : ringOk b G W L = false := by
  unfold ringOk
  rw [decide_eq_false_iff_not]
  intro hx
  rw [hx i hi j hj] at h; cases h
theorem ringOk_yes (h : ∀ k, k < b.N 0 → ∀ j, j < b.nB → ringBad b G W L k j = false) : ringOk b G W L = true := decide_eq_true h
theorem firstI_pos {p : Nat → Bool} {n : Nat} (h : firstI p n ≥ 0) : ∃ j, j < n ∧ p j = true := by
  by_cases hx : ∀ j, j < n → p j = false
  · rw [firstI_none hx] at h; omega
  · simp only [Classical.not_forall, Bool.not_eq_false] at hx
    obtain ⟨j, h1, h2⟩ := hx
    exact ⟨j, h1, h2⟩
theorem firstI_neg {p : Nat → Bool} : ∀ {n : Nat}, ¬ firstI p n ≥ 0 → ∀ j, j < n → p j = false
  | 0, _, j, hj => absurd hj (Nat.not_lt_zero j)
  | n + 1, h, j, hj => by
    rw [firstI] at h
    split at h
    · rename_i h1; exact absurd h1 h
    · rename_i h1
      split at h
      · omega
      · rename_i h2
        by_cases e : j = n
        · rw [e]; simpa using h2
        · exact firstI_neg h1 j (by omega)
end
theorem walls_k {n : Nat} {X Y : Nat → Int} (h : chk n X Y = 0) : FnC prog 83 [pts n X Y] (.tup [.lst n (wcols n X Y), dI 0]) := by
  have hn := chk_n h
  have := walls_c n X Y (by omega)
  rw [coN, if_neg (by rw [h]; simp), h] at this
  exact this
theorem corners_k {n : Nat} {X Y : Nat → Int} (h : chk n X Y = 0) : FnC prog 84 [pts n X Y] (.tup [.lst n [fun k => dI (cor n X Y k)], dI 0]) := by
  have hn := chk_n h
  have := corners_c n X Y (by omega)
  rw [coN, if_neg (by rw [h]; simp), h] at this
  exact this
def gwF (G W : Int) (j : Nat) : Int := [G, G + W].getD j 0
noncomputable def A43_aroundE_c (b : Bld) (nB : Nat) (B : Nat → Int) (nO : Nat) (O : Nat → Int) (W G L : Int) : Ann := { orc := [(1, [(1, rChkB b)]), (4, [(1, .res fun _ => .tup [Lay.catE nB B nO O W G L, dI (Lay.sysE nB B nO O W G L)])]), (9, [(4, .pos)]), (15, [(2, rOfs)]), (20, [(2, rWaK)]), (21, [(2, rCoK)]), (27, [(2, rRbx b G W L)]), (31, [(2, rOver)])], loops := [(1, { ι := Nat, keep := [2, 3, 7, 9, 60], boxes := [2, 3, 7], ts := fun _ i => [(61, dI (i : Int))], inv := fun _ i => i ≤ 2 ∧ ∀ j, j < i → ofE (b.N 0) (b.X 0) (b.Y 0) (gwF G W j) = 0, mu := fun _ i => 2 - i, rd := fun _ σ => (iOf (σ.get 61)).toNat }), (3, { ι := Nat, keep := [2, 14, 109], boxes := [2, 14], ts := fun _ i => [(110, dI (i : Int))], inv := fun _ i => i ≤ b.N 0 ∧ ∀ k, k < i → ∀ j, j < b.nB → ringBad b G W L k j = false, mu := fun _ i => b.N 0 - i, rd := fun _ σ => (iOf (σ.get 110)).toNat }), (5, { ι := Nat, keep := [2, 14, 109, 110, 15, 16, 117, 118], boxes := [2, 14, 16], ts := fun _ j => [(119, dI (j : Int))], inv := fun σ j => j ≤ b.nB ∧ ∀ k, k < j → ringBad b G W L (iOf (σ.get 110)).toNat k = false, mu := fun _ j => b.nB - j, rd := fun _ σ => (iOf (σ.get 119)).toNat })], cuts := [] }
namespace w35
noncomputable section
structure Z where
  b : Bld
  nB : Nat
  B : Nat → Int
  nO : Nat
  O : Nat → Int
  W : Int
  G : Int
  L : Int
variable (z : Z) (i0 i1 i2 : Nat) (p : Prop) (P : List Prop) (a b : Int) (k : Nat) (A : DV) (E : List DV) (U : VT) (j13a : Nat → Prop) (j14a : Nat → VT) (j19a : List Value)
abbrev x0 := Int.toNat 0
abbrev x1 := z.b.N x0
abbrev x2 : Int := (i0:Int)
abbrev x3 := i0 < z.b.nB → rf (z.b.B i0 k)
abbrev x4 := i0 < z.b.nO → rf (z.b.O i0 k)
abbrev x5 := i0 < x1 z → rf a
abbrev x6 := Lay.catN z.nB z.B z.nO z.O z.W z.G z.L
abbrev x7 := z.b.B (Int.toNat (i1:Int)) k
abbrev x8 : List Value := Value.int IntKind.i64 a :: j19a
abbrev x9 := VT.need [p] U
abbrev x10 : List Prop := rf z.b.nB :: (∀ (i0 : Nat), x3 z i0 (0:Nat)) :: (∀ (i0 : Nat), x3 z i0 (1:Nat)) :: (∀ (i0 : Nat), x3 z i0 (2:Nat)) :: (∀ (i0 : Nat), x3 z i0 (3:Nat)) :: (∀ (i0 : Nat), x3 z i0 (4:Nat)) :: (∀ (i0 : Nat), x3 z i0 (5:Nat)) :: P
abbrev x11 : List Prop := rf z.b.name :: rf z.b.nS :: (∀ i0 < z.b.nS, rf (z.b.fl i0)) :: (∀ i0 < z.b.nS, rf (z.b.N i0) ∧ (∀ i1 < z.b.N i0, rf (z.b.X i0 i1)) ∧ (∀ i1 < z.b.N i0, rf (z.b.Y i0 i1))) :: rf z.b.roof :: rf z.b.nO :: (∀ (i0 : Nat), x4 z i0 (0:Nat)) :: (∀ (i0 : Nat), x4 z i0 (1:Nat)) :: (∀ (i0 : Nat), x4 z i0 (2:Nat)) :: (∀ (i0 : Nat), x4 z i0 (3:Nat)) :: (∀ (i0 : Nat), x4 z i0 (4:Nat)) :: (∀ (i0 : Nat), x4 z i0 (5:Nat)) :: x10 z P
abbrev x12 := Int.toNat (x2 i0 + 1)
abbrev x13 := Lay.catU z.nB z.B z.nO z.O z.W z.G z.L
abbrev x14 := VT.done [a = arE z.b z.nB z.B z.nO z.O z.W z.G z.L]
abbrev x15 := topH z.b.roof z.L
abbrev x16 := ruX1 (z.b.N 0) (z.b.X 0) (z.b.Y 0) z.G z.W (x2 i0) 1 0
abbrev x17 := ruY1 (z.b.N 0) (z.b.X 0) (z.b.Y 0) z.G z.W (x2 i0) 1 0
abbrev x18 := ruX2 (z.b.N 0) (z.b.X 0) (z.b.Y 0) z.G z.W (x2 i0) 1 0
abbrev x19 := ruY2 (z.b.N 0) (z.b.X 0) (z.b.Y 0) z.G z.W (x2 i0) 1 0
abbrev x20 := x8 (x7 z i1 k) j19a
abbrev x21 := z.b.X x0 (ix (x1 z) (x2 i0 + 1))
abbrev x22 := z.b.Y x0 (ix (x1 z) (x2 i0 + 1))
abbrev x23 := ∀ i0 < x6 z, rf (decide (z.nB ≤ i0))
abbrev x24 : List Prop := p :: rf (x1 z) :: (∀ (i0 : Nat), x5 z i0 (z.b.X x0 i0)) :: (∀ (i0 : Nat), x5 z i0 (z.b.Y x0 i0)) :: P
abbrev x25 := lenW (x1 z) (z.b.X x0) (z.b.Y x0) (x2 i0)
abbrev x26 := dD (x1 z) (z.b.X x0) (z.b.Y x0) (x2 i0)
abbrev x27 := cor (x1 z) (z.b.X x0) (z.b.Y x0) i0
abbrev x28 := x11 z (rf z.nB :: (∀ i0 < z.nB, rf (z.B i0)) :: rf z.nO :: (∀ i0 < z.nO, rf (z.O i0)) :: rf z.W :: rf z.G :: rf z.L :: rf (↑(x13 z) : Int) :: rf (x6 z) :: (∀ i0 < x6 z, rf (Lay.pLen z.nB z.B z.nO z.O i0)) :: (∀ i0 < x6 z, rf (Lay.pCode z.nB i0)) :: P)
abbrev x29 := DV.tup [A, dI a]
abbrev x30 := Int.toNat ((i1:Int) + 1)
abbrev x31 := ∀ (i0 : Nat), x5 z i0 (x27 z i0)
abbrev x32 : List Prop := p :: rf (↑(x1 z) : Int) :: P
abbrev x33 := x11 z (x28 z (x24 z (x23 z) ((∀ (i0 : Nat), x5 z i0 (x21 z i0)) :: (∀ (i0 : Nat), x5 z i0 (x22 z i0)) :: (∀ (i0 : Nat), x5 z i0 (x25 z i0)) :: (∀ (i0 : Nat), x5 z i0 (x26 z i0)) :: rf (x1 z) :: P)))
abbrev x34 := VT.ite (a != 0) (x14 z b) U
abbrev x35 := DV.val (Value.agg (Array.mk j19a))
abbrev x36 := DV.lst (x1 z) [fun i0 => dI (z.b.X x0 i0), fun i0 => dI (z.b.Y x0 i0)]
abbrev x37 := List.getD [z.G, z.G + z.W] (Int.toNat (x2 i0)) 0
abbrev x38 := Lay.sysE z.nB z.B z.nO z.O z.W z.G z.L
abbrev x39 := DV.lst (x1 z) [fun i0 => dI (x27 z i0)]
abbrev x40 := VT.loop Nat j13a x0 (x32 z (0 = (x0:Int)) P) j14a
abbrev x41 := x9 (i64In (x2 i0 + 1)) (VT.done P)
abbrev x42 := x2 i0 + 1 = (↑(x12 i0) : Int)
abbrev x43 := x24 z p (rf z.G :: rf (z.G + z.W) :: x28 z P)
abbrev x44 := FnC prog k [x36 z] (x29 (0:Int) A)
abbrev x45 := DV.lst (x6 z) [fun i0 => dI (Lay.pLen z.nB z.B z.nO z.O i0), fun i0 => dI (Lay.pCode z.nB i0), fun i0 => dB (decide (z.nB ≤ i0))]
abbrev x46 := i2 < k → ringBad z.b z.G z.W z.L (Int.toNat (x2 i0)) i2 = false
abbrev x47 := ∀ i0 < z.b.nB, ringBad z.b z.G z.W z.L i1 i0 = false
abbrev x48 := DV.lst (x1 z) [fun i0 => dI (z.b.X x0 i0), fun i0 => dI (z.b.Y x0 i0), fun i0 => dI (x21 z i0), fun i0 => dI (x22 z i0), fun i0 => dI (x25 z i0), fun i0 => dI (x26 z i0)]
abbrev x49 : List Prop := rf (x2 i0) :: rf (x2 i0) :: x10 z (rf (z.b.nB:Int) :: x33 z (x31 z :: rf (x16 z i0) :: rf (x17 z i0) :: rf (0:Int) :: rf (x18 z i0) :: rf (x19 z i0) :: rf (x15 z) :: P))
abbrev x50 := x35 (x8 (x16 z i0) (x8 (x17 z i0) (x8 (0:Int) (x8 (x18 z i0) (x8 (x19 z i0) (x8 (x15 z) []))))))
abbrev x51 := ofE (x1 z) (z.b.X x0) (z.b.Y x0) (x37 z i0)
abbrev x52 := ofE (z.b.N 0) (z.b.X 0) (z.b.Y 0) (gwF z.G z.W i1) = 0
abbrev x53 : List DV := DV.lst z.nB [fun i0 => dI (z.B i0)] :: DV.lst z.nO [fun i0 => dI (z.O i0)] :: dI z.W :: dI z.G :: E
abbrev x54 := isO (x16 z i0) (x17 z i0) 0 (x18 z i0) (x19 z i0) (x15 z) (x7 z i1 (0:Nat)) (x7 z i1 (1:Nat)) (x7 z i1 (2:Nat)) (x7 z i1 (3:Nat)) (x7 z i1 (4:Nat)) (x7 z i1 (5:Nat))
abbrev xt : VT := x9 (FnC prog 80 [bld z.b] (dI (chkB z.b))) (x34 z (chkB z.b) (chkB z.b) (x9 (FnC prog 81 [DV.agg (x53 z [dI z.L])] (x29 (x38 z) (DV.agg [dI (↑(x13 z) : Int), x45 z]))) (x34 z (x38 z) (x38 z) (VT.ite (decide (z.b.roof < z.L)) (x14 z (2:Int)) (x9 (0 ≤ z.b.roof ∧ 0 < z.L ∧ z.b.roof ≤ 9223372036854775807) (VT.ite (decide ((z.b.roof / z.L) > (40:Int))) (x14 z (8:Int)) (x9 ((0:Int) ≤ (0:Int) ∧ 0 < (z.b.nS:Int)) (x9 (i64In (z.G + z.W)) (VT.loop Nat (fun i0 => i0 ≤ 2 ∧ (∀ i1 < i0, x52 z i1)) x0 (x43 z (0 = (x0:Int)) [x23 z]) (fun i0 => VT.ite (decide ((x2 i0) < (2:Int))) (x9 (0 ≤ x2 i0 ∧ x2 i0 < (↑(2:Nat) : Int)) (x9 (FnC prog 82 [x36 z, dI (x37 z i0)] (x29 (x51 z i0) DV.any)) (x34 z (x51 z i0) (12:Int) (x41 i0 (x43 z (x42 i0) [x23 z, x12 i0 ≤ 2 ∧ (∀ i1 < x12 i0, x52 z i1), 2 - x12 i0 < 2 - i0]))))) (x9 (x44 z (83:Nat) (x48 z)) (x9 (x44 z (84:Nat) (x39 z)) (VT.ite ((↑(x1 z) : Int) != (↑(x1 z) : Int)) (x14 z (12:Int)) (x40 z (x33 z [x31 z]) (fun i0 => i0 ≤ z.b.N 0 ∧ (∀ i1 < i0, x47 z i1)) (fun i0 => VT.ite (decide ((x2 i0) < (↑(x1 z) : Int))) (x9 (FnC prog 85 [DV.cptr (DV.val (Value.string z.b.name) :: DV.lst z.b.nS [fun i0 => dI (z.b.fl i0), fun i0 => DV.lst (z.b.N i0) [fun i1 => dI (z.b.X i0 i1), fun i1 => dI (z.b.Y i0 i1)]] :: dI z.b.roof :: DV.lst z.b.nO [fun i0 => dI (z.b.O i0 0), fun i0 => dI (z.b.O i0 1), fun i0 => dI (z.b.O i0 2), fun i0 => dI (z.b.O i0 3), fun i0 => dI (z.b.O i0 4), fun i0 => dI (z.b.O i0 5)] :: DV.lst z.b.nB [fun i0 => dI (z.b.B i0 0), fun i0 => dI (z.b.B i0 1), fun i0 => dI (z.b.B i0 2), fun i0 => dI (z.b.B i0 3), fun i0 => dI (z.b.B i0 4), fun i0 => dI (z.b.B i0 5)] :: x53 z [dI z.L, dI (↑(x13 z) : Int), x45 z, x48 z, x39 z]), dI (x2 i0), dI 1, dI 0] (x50 z i0)) (x40 z (x49 z i0 []) (fun i1 => i1 ≤ z.b.nB ∧ (∀ (i2 : Nat), x46 z i0 i2 i1)) (fun i1 => VT.ite (decide ((i1:Int) < (z.b.nB:Int))) (x9 (0 ≤ (i1:Int) ∧ (i1:Int) < (z.b.nB:Int)) (x9 (FnC prog 86 [x50 z i0, x35 (x20 z i1 (0:Nat) (x20 z i1 (1:Nat) (x20 z i1 (2:Nat) (x20 z i1 (3:Nat) (x20 z i1 (4:Nat) (x20 z i1 (5:Nat) []))))))] (x29 (erB (x16 z i0) (x17 z i0) 0 (x18 z i0) (x19 z i0) (x15 z) (x7 z i1 (0:Nat)) (x7 z i1 (1:Nat)) (x7 z i1 (2:Nat)) (x7 z i1 (3:Nat)) (x7 z i1 (4:Nat)) (x7 z i1 (5:Nat))) (dB (x54 z i0 i1)))) (VT.ite (x54 z i0 i1) (x14 z (12:Int)) (x9 (i64In ((i1:Int) + 1)) (VT.done (x32 z ((i1:Int) + 1 = (↑(x30 i1) : Int)) (x49 z i0 [x30 i1 ≤ z.b.nB ∧ (∀ (i2 : Nat), x46 z i0 i2 (x30 i1)), z.b.nB - x30 i1 < z.b.nB - i1]))))))) (x41 i0 (x32 z (x42 i0) (x33 z [x31 z, x12 i0 ≤ z.b.N 0 ∧ (∀ i1 < x12 i0, x47 z i1), z.b.N 0 - x12 i0 < z.b.N 0 - i0])))))) (x14 z (0:Int)))))))))))))))))
end
end w35
open w35 in
theorem aroundE_c (b : Bld) (nB : Nat) (B : Nat → Int) (nO : Nat) (O : Nat → Int) (W G L : Int) (hN : ∀ i, i < b.nS → b.N i ≤ 1000) : FnC prog 49 [bld b, Lay.sys nB B nO O W G L] (.tup [.any, dI (arE b nB B nO O W G L)]) := by
  refine FnC_owed hmix (A43_aroundE_c b nB B nO O W G L) (V := xt ⟨b, nB, B, nO, O, W, G, L⟩) (by kernel_rfl) ?_
  simp only [xt, x0, x1, x2, x3, x4, x5, x6, x7, x8, x9, x10, x11, x12, x13, x14, x15, x16, x17, x18, x19, x20, x21, x22, x23, x24, x25, x26, x27, x28, x29, x30, x31, x32, x33, x34, x35, x36, x37, x38, x39, x40, x41, x42, x43, x44, x45, x46, x47, x48, x49, x50, x51, x52, x53, x54, Rf, VT.holds, AllT, Sq]
  refine ⟨check_b b hN, fun h => (ar_1 h).symm, fun hc => ⟨Lay.opened_c nB B nO O W G L, fun h => (ar_2 hc h).symm, fun hs => ?_⟩⟩
  obtain ⟨b1, b2, b3, b4, b5⟩ := b0_ok hc
  obtain ⟨g1, g2, g3⟩ := sys_wgl hs
  have hg := g1
  unfold gwOk at hg
  have hn := chk_n b2
  obtain ⟨hX, hY⟩ := chk_inB b2
  refine ⟨fun h => (ar_3 hc hs h).symm, fun h3 => ⟨by omega, fun h => (ar_4 hc hs h3 h).symm, fun h4 => ⟨by omega, by unfold i64In; omega, rfl, ⟨by omega, fun j hj => absurd hj (Nat.not_lt_zero j)⟩, fun i ⟨hi, hb⟩ => ⟨fun hlt => ?_, fun hge => ?_⟩⟩⟩⟩
  · have hcase : i = 0 ∨ i = 1 := by omega
    have hd : 0 ≤ gwF G W i ∧ gwF G W i ≤ 1000000 := by
      rcases hcase with rfl | rfl
      · show 0 ≤ G ∧ G ≤ 1000000; omega
      · show 0 ≤ G + W ∧ G + W ≤ 1000000; omega
    refine ⟨by omega, offset_c _ _ _ _ b2 hd, fun h => (ar_5 hc hs h3 h4 ?_).symm, fun h => ⟨by unfold i64In; omega, rfl, ⟨by omega, fun j hj => ?_⟩, by omega⟩⟩
    · rcases hcase with rfl | rfl
      · exact .inl h
      · exact .inr h
    · by_cases e : j = i
      · rw [e]; exact h
      · exact hb j (by omega)
  · obtain rfl : i = 2 := by omega
    have e1 : ofE (b.N 0) (b.X 0) (b.Y 0) G = 0 := hb 0 (by omega)
    have e2 : ofE (b.N 0) (b.X 0) (b.Y 0) (G + W) = 0 := hb 1 (by omega)
    have h5 : ¬ (ofE (b.N 0) (b.X 0) (b.Y 0) G ≠ 0 ∨ ofE (b.N 0) (b.X 0) (b.Y 0) (G + W) ≠ 0) := by omega
    refine ⟨walls_k b2, corners_k b2, fun h => absurd trivial h, fun _ => ⟨rfl, ⟨Nat.zero_le _, fun k hk => absurd hk (Nat.not_lt_zero k)⟩, fun i ⟨hi, hb⟩ => ⟨fun hlt => ?_, fun hge => ?_⟩⟩⟩
    · refine ⟨ringBox_c _ _ _ _ _ _ _ _ _ _ _ _ _ _ _ _ _ _ (by omega) (by omega) hX hY g1 (by omega) (by omega) ⟨b3, b4⟩ ⟨g2, g3⟩, rfl, ⟨Nat.zero_le _, fun k hk => absurd hk (Nat.not_lt_zero k)⟩, fun j ⟨hj, hbj⟩ => ⟨fun hlt2 => ?_, fun hge2 => ?_⟩⟩
      · rw [ring_over hc hs h4 e1 e2 (i := i) (j := j) (by omega) (by omega)]
        refine ⟨by omega, ?_, fun h => (ar_6 hc hs h3 h4 h5 (ringOk_no (by omega) (by omega) h)).symm, fun h => ⟨by unfold i64In; omega, rfl, ⟨by omega, fun k hk => ?_⟩, by omega⟩⟩
        · have := overlap_c (ruX1 (b.N 0) (b.X 0) (b.Y 0) G W i 1 0) (ruY1 (b.N 0) (b.X 0) (b.Y 0) G W i 1 0) 0 (ruX2 (b.N 0) (b.X 0) (b.Y 0) G W i 1 0) (ruY2 (b.N 0) (b.X 0) (b.Y 0) G W i 1 0) (topH b.roof L) (b.B j 0) (b.B j 1) (b.B j 2) (b.B j 3) (b.B j 4) (b.B j 5)
          rw [ring_over hc hs h4 e1 e2 (i := i) (j := j) (by omega) (by omega)] at this
          exact this
        · by_cases e : k = j
          · rw [e]; exact h
          · exact hbj k (by omega)
      · refine ⟨by unfold i64In; omega, rfl, ⟨by omega, fun k hk j' hj' => ?_⟩, by omega⟩
        by_cases e : k = i
        · rw [e]; exact hbj j' (by omega)
        · exact hb k (by omega) j' hj'
    · exact (ar_7 hc hs h3 h4 h5 (ringOk_yes fun k hk j hj => hb k (by omega) j hj)).symm
noncomputable def A54_first_c (b : Bld) : Ann := { orc := [], loops := [], cuts := [] }
theorem first_c (b : Bld) (hs : 0 < b.nS) : FnC prog 33 [bld b] (pts (b.N 0) (b.X 0) (b.Y 0)) := by
  refine FnC_owed hmix (A54_first_c b) (V := .need [(0:Int) ≤ (0:Int) ∧ (0:Int) < (b.nS:Int)] (.done [b.N (0:Int).toNat = b.N 0, ∀ i < b.N 0, b.X (0:Int).toNat i = b.X 0 i, ∀ i < b.N 0, b.Y (0:Int).toNat i = b.Y 0 i])) (by kernel_rfl) ?_
  simp only [VT.holds, AllT, Sq]
  omega
noncomputable def A51_ends_c (b : Bld) (nB : Nat) (B : Nat → Int) (nO : Nat) (O : Nat → Int) (W G L f a e : Int) : Ann := { orc := [(1, [(1, rFst b), (2, rWallsR), (4, rFst b), (5, rCorR)]), (3, [(7, .res fun l => dI (reaF G W (aI l 1) (decide (a = 1)))), (19, .pos), (24, .res fun l => dI (reaF G W (aI l 1) (decide (e = 0))))])], loops := [], cuts := [] }
namespace w37
noncomputable section
structure Z where
  b : Bld
  nB : Nat
  B : Nat → Int
  nO : Nat
  O : Nat → Int
  W : Int
  G : Int
  L : Int
  f : Int
  a : Int
  e : Int
variable (z : Z) (a b c d : Int) (k : Nat) (j10a : List (Nat → DV))
abbrev x0 := cor (z.b.N 0) (z.b.X 0) (z.b.Y 0) k
abbrev x1 := (z.f + 1) % (↑(z.b.N 0) : Int)
abbrev x2 := reaF z.G z.W (x0 z (Int.toNat a)) (decide (b = c))
abbrev x3 := DV.lst (z.b.N 0) ((fun i0 => dI (z.b.X 0 i0)) :: j10a)
abbrev x4 := x3 z [fun i0 => dI (z.b.Y 0 i0)]
abbrev x5 := 0 ≤ a ∧ b < (↑(z.b.N 0) : Int)
abbrev x6 := lenW (z.b.N 0) (z.b.X 0) (z.b.Y 0) a
abbrev x7 := FnC prog 33 [bld z.b] (x4 z)
abbrev x8 := x6 z (↑(Int.toNat z.f) : Int) + x2 z (x1 z) z.e (0:Int)
abbrev x9 := FnC prog 107 [DV.agg [DV.lst z.nB [fun i0 => dI (z.B i0)], DV.lst z.nO [fun i0 => dI (z.O i0)], dI z.W, dI z.G, dI z.L], dI (x0 z (Int.toNat a)), dB (b == c)] (dI d)
abbrev xt : VT := VT.need [x7 z, FnC prog 69 [x4 z] (x3 z [fun i0 => dI (z.b.Y 0 i0), fun i0 => dI (z.b.X 0 (ix (z.b.N 0) ((i0:Int) + 1))), fun i0 => dI (z.b.Y 0 (ix (z.b.N 0) ((i0:Int) + 1))), fun i0 => dI (x6 z (i0:Int)), fun i0 => dI (dD (z.b.N 0) (z.b.X 0) (z.b.Y 0) (i0:Int))]), x7 z, FnC prog 102 [x4 z] (DV.lst (z.b.N 0) [fun i0 => dI (x0 z i0)])] (VT.need [x5 z z.f z.f, x9 z z.f z.a (1:Int) (x2 z z.f z.a (1:Int)), i64In (-(x2 z z.f z.a (1:Int))), x5 z z.f z.f, i64In (z.f + 1), x5 z (z.f + 1) (0:Int), x5 z (x1 z) (x1 z), x9 z (x1 z) z.e (0:Int) (x2 z (x1 z) z.e (0:Int)), i64In (x8 z)] (VT.done [(-(x2 z z.f z.a (1:Int))) = befF (z.b.N 0) (z.b.X 0) (z.b.Y 0) z.G z.W z.f z.a, x8 z = behF (z.b.N 0) (z.b.X 0) (z.b.Y 0) z.G z.W z.f z.e]))
end
end w37
open w37 in
theorem ends_c (b : Bld) (nB : Nat) (B : Nat → Int) (nO : Nat) (O : Nat → Int) (W G L f a e : Int) (hs : 0 < b.nS) (h : chk (b.N 0) (b.X 0) (b.Y 0) = 0) (hg : gwOk G W) (hf : 0 ≤ f ∧ f < b.N 0) (ha : 0 ≤ a ∧ a ≤ 1) (he : 0 ≤ e ∧ e ≤ 1) : FnC prog 67 [bld b, Lay.sys nB B nO O W G L, dI f, dI a, dI e] (.tup [dI (befF (b.N 0) (b.X 0) (b.Y 0) G W f a), dI (behF (b.N 0) (b.X 0) (b.Y 0) G W f e)]) := by
  refine FnC_owed hmix (A51_ends_c b nB B nO O W G L f a e) (V := xt ⟨b, nB, B, nO, O, W, G, L, f, a, e⟩) (by kernel_rfl) ?_
  simp only [xt, x0, x1, x2, x3, x4, x5, x6, x7, x8, x9, Rf, VT.holds, AllT, Sq]
  have hn := chk_n h
  obtain ⟨hX, hY⟩ := chk_inB h
  rw [cor_at hf.1, cor_next (by omega), Int.toNat_of_nonneg hf.1, bef_rea ha, beh_rea he]
  have b1 := bef_bd (n := b.N 0) (X := b.X 0) (Y := b.Y 0) f hg ha
  have b2 := beh_bd f (by omega) hX hY hg he
  have q1 := Int.emod_nonneg (f + 1) (show (b.N 0 : Int) ≠ 0 by omega)
  have q2 := Int.emod_lt_of_pos (f + 1) (show (0:Int) < b.N 0 by omega)
  refine ⟨⟨first_c b hs, wallsR_c _ _ _ h, first_c b hs, cornersR_c _ _ _ h⟩, ⟨hf, ?_, by unfold i64In; omega, hf, by unfold i64In; omega, by omega, ⟨q1, q2⟩, ?_, by unfold i64In; omega⟩, rfl, rfl⟩
  · have := reach_c nB B nO O W G L (corI (b.N 0) (b.X 0) (b.Y 0) f) (decide (a = 1)) hg
    exact this
  · have := reach_c nB B nO O W G L (corI (b.N 0) (b.X 0) (b.Y 0) (f + 1)) (decide (e = 0)) hg
    exact this
noncomputable def A18_runLenR_c (b : Bld) (nB : Nat) (B : Nat → Int) (nO : Nat) (O : Nat → Int) (W G L f a e : Int) : Ann := { orc := [(1, [(5, .res fun _ => .tup [dI (befF (b.N 0) (b.X 0) (b.Y 0) G W f a), dI (behF (b.N 0) (b.X 0) (b.Y 0) G W f e)])])], loops := [], cuts := [] }
theorem runLenR_c (b : Bld) (nB : Nat) (B : Nat → Int) (nO : Nat) (O : Nat → Int) (W G L f a e : Int) (hs : 0 < b.nS) (h : chk (b.N 0) (b.X 0) (b.Y 0) = 0) (hg : gwOk G W) (hf : 0 ≤ f ∧ f < b.N 0) (ha : 0 ≤ a ∧ a ≤ 1) (he : 0 ≤ e ∧ e ≤ 1) : FnC prog 36 [bld b, Lay.sys nB B nO O W G L, dI f, dI a, dI e] (dI (ruL (b.N 0) (b.X 0) (b.Y 0) G W f a e)) := by
  refine FnC_owed hmix (A18_runLenR_c b nB B nO O W G L f a e) (V := .need [FnC prog 67 [(bld b), .agg [.lst nB [fun i => (dI (B i))], .lst nO [fun i => (dI (O i))], (dI W), (dI G), (dI L)], (dI f), (dI a), (dI e)] (.tup [(dI (befF (b.N 0) (b.X 0) (b.Y 0) G W f a)), (dI (behF (b.N 0) (b.X 0) (b.Y 0) G W f e))])] (.need [i64In (behF (b.N 0) (b.X 0) (b.Y 0) G W f e - befF (b.N 0) (b.X 0) (b.Y 0) G W f a)] (.done [behF (b.N 0) (b.X 0) (b.Y 0) G W f e - befF (b.N 0) (b.X 0) (b.Y 0) G W f a = ruL (b.N 0) (b.X 0) (b.Y 0) G W f a e]))) (by kernel_rfl) ?_
  simp only [VT.holds, AllT, Sq]
  have hn := chk_n h
  obtain ⟨hX, hY⟩ := chk_inB h
  have b1 := bef_bd (n := b.N 0) (X := b.X 0) (Y := b.Y 0) f hg ha
  have b2 := beh_bd f (by omega) hX hY hg he
  exact ⟨ends_c b nB B nO O W G L f a e hs h hg hf ha he, by unfold i64In; omega, rfl⟩
noncomputable def A17_runStartR_c (b : Bld) (nB : Nat) (B : Nat → Int) (nO : Nat) (O : Nat → Int) (W G L f a : Int) : Ann := { orc := [(1, [(4, .res fun _ => .tup [dI (befF (b.N 0) (b.X 0) (b.Y 0) G W f a), dI (behF (b.N 0) (b.X 0) (b.Y 0) G W f 0)])]), (2, [(1, rFst b), (2, rWallsR), (9, .res fun _ => dP (atX (b.N 0) (b.X 0) (b.Y 0) f (befF (b.N 0) (b.X 0) (b.Y 0) G W f a) G) (atY (b.N 0) (b.X 0) (b.Y 0) f (befF (b.N 0) (b.X 0) (b.Y 0) G W f a) G))])], loops := [], cuts := [] }
namespace w39
noncomputable section
structure Z where
  b : Bld
  nB : Nat
  B : Nat → Int
  nO : Nat
  O : Nat → Int
  W : Int
  G : Int
  L : Int
  f : Int
  a : Int
variable (z : Z) (a b : Int) (j15a : List Value)
abbrev x0 : List Value := Value.int IntKind.i64 a :: Value.int IntKind.i64 b :: j15a
abbrev x1 := befF (z.b.N 0) (z.b.X 0) (z.b.Y 0) z.G z.W z.f z.a
abbrev x2 := ix (z.b.N 0) ((↑(Int.toNat z.f) : Int) + 1)
abbrev x3 := DV.val (Value.agg (Array.mk (x0 a b j15a)))
abbrev x4 := lenW (z.b.N 0) (z.b.X 0) (z.b.Y 0) a
abbrev x5 := dD (z.b.N 0) (z.b.X 0) (z.b.Y 0) a
abbrev x6 := DV.lst (z.b.N 0) [fun i0 => dI (z.b.X 0 i0), fun i0 => dI (z.b.Y 0 i0)]
abbrev x7 := atX (z.b.N 0) (z.b.X 0) (z.b.Y 0) z.f (x1 z) z.G
abbrev x8 := atY (z.b.N 0) (z.b.X 0) (z.b.Y 0) z.f (x1 z) z.G
abbrev xt : VT := VT.need [FnC prog 67 [bld z.b, DV.agg [DV.lst z.nB [fun i0 => dI (z.B i0)], DV.lst z.nO [fun i0 => dI (z.O i0)], dI z.W, dI z.G, dI z.L], dI z.f, dI z.a, dI 0] (DV.tup [dI (x1 z), dI (behF (z.b.N 0) (z.b.X 0) (z.b.Y 0) z.G z.W z.f 0)])] (VT.need [FnC prog 33 [bld z.b] (x6 z), FnC prog 69 [x6 z] (DV.lst (z.b.N 0) [fun i0 => dI (z.b.X 0 i0), fun i0 => dI (z.b.Y 0 i0), fun i0 => dI (z.b.X 0 (ix (z.b.N 0) ((i0:Int) + 1))), fun i0 => dI (z.b.Y 0 (ix (z.b.N 0) ((i0:Int) + 1))), fun i0 => dI (x4 z (i0:Int)), fun i0 => dI (x5 z (i0:Int))]), 0 ≤ z.f ∧ z.f < (↑(z.b.N 0) : Int), FnC prog 68 [x3 (z.b.X 0 (Int.toNat z.f)) (z.b.Y 0 (Int.toNat z.f)) (x0 (z.b.X 0 (x2 z)) (z.b.Y 0 (x2 z)) (x0 (x4 z (↑(Int.toNat z.f) : Int)) (x5 z (↑(Int.toNat z.f) : Int)) [])), dI (x1 z), dI z.G] (x3 (x7 z) (x8 z) [])] (VT.done [rf (x7 z), rf (x8 z)]))
end
end w39
open w39 in
theorem runStartR_c (b : Bld) (nB : Nat) (B : Nat → Int) (nO : Nat) (O : Nat → Int) (W G L f a : Int) (hs : 0 < b.nS) (h : chk (b.N 0) (b.X 0) (b.Y 0) = 0) (hg : gwOk G W) (hf : 0 ≤ f ∧ f < b.N 0) (ha : 0 ≤ a ∧ a ≤ 1) : FnC prog 35 [bld b, Lay.sys nB B nO O W G L, dI f, dI a] (dP (atX (b.N 0) (b.X 0) (b.Y 0) f (befF (b.N 0) (b.X 0) (b.Y 0) G W f a) G) (atY (b.N 0) (b.X 0) (b.Y 0) f (befF (b.N 0) (b.X 0) (b.Y 0) G W f a) G)) := by
  refine FnC_owed hmix (A17_runStartR_c b nB B nO O W G L f a) (V := xt ⟨b, nB, B, nO, O, W, G, L, f, a⟩) (by kernel_rfl) ?_
  simp only [xt, x0, x1, x2, x3, x4, x5, x6, x7, x8, Rf, VT.holds, AllT, Sq]
  exact ⟨ends_c b nB B nO O W G L f a 0 hs h hg hf ha (by omega), first_c b hs, wallsR_c _ _ _ h, hf, place_w h hf _ _ (by have := bef_bd (n := b.N 0) (X := b.X 0) (Y := b.Y 0) f hg ha; omega) (by unfold gwOk at hg; omega)⟩
noncomputable def A34_liftsR_c (b : Bld) (nB : Nat) (B : Nat → Int) (nO : Nat) (O : Nat → Int) (W G L : Int) : Ann := { orc := [], loops := [(0, { ι := Nat, keep := [2, 3], boxes := [2, 3], ts := fun _ i => [(6, dI (((i : Int) + 1) * L))], rw := fun _ i => [(5, 1, i, [fun k => dI (((k : Int) + 1) * L)])], inv := fun _ i => (i : Int) * L ≤ b.roof, mu := fun _ i => (b.roof - (i : Int) * L).toNat, rd := fun _ σ => (iOf (σ.get 6) / L - 1).toNat })], cuts := [] }
namespace w3a
noncomputable section
structure Z where
  b : Bld
  nB : Nat
  B : Nat → Int
  nO : Nat
  O : Nat → Int
  W : Int
  G : Int
  L : Int
variable (z : Z) (i0 : Nat) (P : List Prop) (k : Nat)
abbrev x0 := ((k:Int) + 1) * z.L
abbrev x1 := i0 < z.b.nO → rf (z.b.O i0 k)
abbrev x2 := i0 < z.b.nB → rf (z.b.B i0 k)
abbrev x3 := Int.toNat ((x0 z i0 + z.L) / z.L - 1)
abbrev x4 := Int.toNat (z.L / z.L - 1)
abbrev x5 := Int.toNat (z.b.roof - (k:Int) * z.L)
abbrev x6 : List Prop := rf z.b.name :: rf z.b.nS :: (∀ i0 < z.b.nS, rf (z.b.fl i0)) :: (∀ i0 < z.b.nS, rf (z.b.N i0) ∧ (∀ i1 < z.b.N i0, rf (z.b.X i0 i1)) ∧ (∀ i1 < z.b.N i0, rf (z.b.Y i0 i1))) :: rf z.b.roof :: rf z.b.nO :: (∀ (i0 : Nat), x1 z i0 (0:Nat)) :: (∀ (i0 : Nat), x1 z i0 (1:Nat)) :: (∀ (i0 : Nat), x1 z i0 (2:Nat)) :: (∀ (i0 : Nat), x1 z i0 (3:Nat)) :: (∀ (i0 : Nat), x1 z i0 (4:Nat)) :: (∀ (i0 : Nat), x1 z i0 (5:Nat)) :: rf z.b.nB :: (∀ (i0 : Nat), x2 z i0 (0:Nat)) :: (∀ (i0 : Nat), x2 z i0 (1:Nat)) :: (∀ (i0 : Nat), x2 z i0 (2:Nat)) :: (∀ (i0 : Nat), x2 z i0 (3:Nat)) :: (∀ (i0 : Nat), x2 z i0 (4:Nat)) :: (∀ (i0 : Nat), x2 z i0 (5:Nat)) :: rf z.nB :: (∀ i0 < z.nB, rf (z.B i0)) :: rf z.nO :: (∀ i0 < z.nO, rf (z.O i0)) :: rf z.W :: rf z.G :: rf z.L :: P
abbrev xt : VT := VT.loop Nat (fun i0 => (i0:Int) * z.L ≤ z.b.roof) (x4 z) ((z.L = x0 z (x4 z)) :: rf (0:Nat) :: (x4 z = 0) :: (x4 z = 0) :: x6 z []) (fun i0 => VT.ite (decide ((x0 z i0) ≤ z.b.roof)) (VT.need [i0 ≤ i0, (i0 + 1) * ((nat_lit 7) + 1) ≤ 140737488355328, (1:Nat) ≤ (1:Nat)] (VT.need [i64In (x0 z i0 + z.L)] (VT.done ((x0 z i0 + z.L = x0 z (x3 z i0)) :: rf (0:Nat) :: (i0 + 1 = x3 z i0) :: (i0 + 1 = x3 z i0) :: (∀ i1 < x3 z i0, (if (decide (i1 < i0)) = true then (x0 z i1) else (x0 z i0)) = x0 z i1) :: x6 z [(↑(x3 z i0) : Int) * z.L ≤ z.b.roof, x5 z (x3 z i0) < x5 z i0])))) (VT.done [i0 ≤ i0, i0 = Int.toNat (z.b.roof / z.L), ∀ i0 < Int.toNat (z.b.roof / z.L), rf (x0 z i0)]))
end
end w3a
open w3a in
theorem liftsR_c (b : Bld) (nB : Nat) (B : Nat → Int) (nO : Nat) (O : Nat → Int) (W G L : Int) (hr : 0 ≤ b.roof ∧ b.roof ≤ 1000000) (hL : 1 ≤ L ∧ L ≤ 10000) : FnC prog 106 [bld b, Lay.sys nB B nO O W G L] (Lay.nums (b.roof / L).toNat (fun k => ((k : Int) + 1) * L)) := by
  refine FnC_owed hmix (A34_liftsR_c b nB B nO O W G L) (V := xt ⟨b, nB, B, nO, O, W, G, L⟩) (by kernel_rfl) ?_
  simp only [xt, x0, x1, x2, x3, x4, x5, x6, Rf, VT.holds, AllT, Sq]
  have hd : ∀ i : Nat, (((i : Int) + 1) * L + L) / L - 1 = (i : Int) + 1 := fun i => by
    rw [show ((i : Int) + 1) * L + L = ((i : Int) + 2) * L by rw [show (i : Int) + 2 = i + 1 + 1 by omega, Int.add_mul (i + 1 : Int) 1, Int.one_mul], Int.mul_ediv_cancel _ (by omega)]
    omega
  have h0 : L / L - 1 = 0 := by rw [Int.ediv_self (by omega)]; rfl
  simp only [hd, h0]
  refine ⟨⟨by simp, rfl, rfl⟩, by simp; omega, fun i hi => ⟨fun h1 => ?_, fun h1 => ?_⟩⟩
  · have e : ((i : Int) + 1) * L + L = ((i : Int) + 1 + 1) * L := by rw [Int.add_mul (i + 1 : Int) 1, Int.one_mul]
    have e2 : (((i : Int) + 1).toNat : Int) = i + 1 := by omega
    have e3 : ((i : Int) + 1).toNat = i + 1 := by omega
    have hb : ((i : Int) + 1) * L = i * L + L := by rw [Int.add_mul, Int.one_mul]
    have hi1 : (i : Int) ≤ (i : Int) * L := by
      have := Int.mul_le_mul_of_nonneg_left (show (1:Int) ≤ L by omega) (show (0:Int) ≤ i by omega)
      omega
    rw [e3]
    refine ⟨⟨Nat.le_refl _, by omega, Nat.le_refl _⟩, by unfold i64In; omega, by rw [e]; rfl, rfl, rfl, last_if (f := fun k => ((k : Int) + 1) * L) rfl, ?_, ?_⟩
    · show ((i : Int) + 1) * L ≤ _
      omega
    · have e4 : ((i + 1 : Nat) : Int) * L = (i : Int) * L + L := by rw [← hb]; rfl
      rw [e4]; omega
  · refine ⟨Nat.le_refl _, ?_⟩
    have : b.roof / L = i := by
      have u1 := (Int.le_ediv_iff_mul_le (show 0 < L by omega)).2 hi
      have u2 := (Int.ediv_lt_iff_lt_mul (show 0 < L by omega)).2 (show b.roof < ((i : Int) + 1) * L by omega)
      omega
    rw [this]; rfl
noncomputable def A69_boxR_c (b : Bld) (nB : Nat) (B : Nat → Int) (nO : Nat) (O : Nat → Int) (W G L f a e : Int) : Ann := { orc := [(1, [(5, .res fun _ => .tup [dI (befF (b.N 0) (b.X 0) (b.Y 0) G W f a), dI (behF (b.N 0) (b.X 0) (b.Y 0) G W f e)])]), (2, [(1, rFst b), (2, rWallsR)]), (3, [(4, .res fun _ => dP (atX (b.N 0) (b.X 0) (b.Y 0) f (befF (b.N 0) (b.X 0) (b.Y 0) G W f a) G) (atY (b.N 0) (b.X 0) (b.Y 0) f (befF (b.N 0) (b.X 0) (b.Y 0) G W f a) G)), (12, .res fun _ => dP (atX (b.N 0) (b.X 0) (b.Y 0) f (behF (b.N 0) (b.X 0) (b.Y 0) G W f e) (G + W)) (atY (b.N 0) (b.X 0) (b.Y 0) f (behF (b.N 0) (b.X 0) (b.Y 0) G W f e) (G + W)))]), (4, [(2, .res fun _ => Lay.nums (b.roof / L).toNat (fun k => ((k : Int) + 1) * L))])], loops := [], cuts := [] }
namespace w3b
noncomputable section
structure Z where
  b : Bld
  nB : Nat
  B : Nat → Int
  nO : Nat
  O : Nat → Int
  W : Int
  G : Int
  L : Int
  f : Int
  a : Int
  e : Int
variable (z : Z) (a b : Int) (k : Nat) (A : DV) (E : List DV) (j15a : List Value)
abbrev x0 : Int := (↑(Int.toNat a) : Int)
abbrev x1 : List Value := Value.int IntKind.i64 a :: j15a
abbrev x2 := befF (z.b.N 0) (z.b.X 0) (z.b.Y 0) z.G z.W z.f z.a
abbrev x3 := behF (z.b.N 0) (z.b.X 0) (z.b.Y 0) z.G z.W z.f z.e
abbrev x4 := atX (z.b.N 0) (z.b.X 0) (z.b.Y 0) z.f a b
abbrev x5 := atY (z.b.N 0) (z.b.X 0) (z.b.Y 0) z.f a b
abbrev x6 := x0 (z.b.roof / z.L) - 1
abbrev x7 := DV.val (Value.agg (Array.mk (x1 a j15a)))
abbrev x8 := x4 z (x2 z) z.G
abbrev x9 := x4 z (x3 z) (z.G + z.W)
abbrev x10 := x5 z (x2 z) z.G
abbrev x11 := x5 z (x3 z) (z.G + z.W)
abbrev x12 := lenW (z.b.N 0) (z.b.X 0) (z.b.Y 0) a
abbrev x13 := dD (z.b.N 0) (z.b.X 0) (z.b.Y 0) a
abbrev x14 := (x0 (x6 z) + 1) * z.L + z.L
abbrev x15 := FnC prog 68 (x7 (z.b.X 0 (Int.toNat z.f)) (x1 (z.b.Y 0 (Int.toNat z.f)) (x1 (z.b.X 0 (ix (z.b.N 0) (x0 z.f + 1))) (x1 (z.b.Y 0 (ix (z.b.N 0) (x0 z.f + 1))) (x1 (x12 z (x0 z.f)) (x1 (x13 z (x0 z.f)) []))))) :: E) A
abbrev x16 := DV.lst (z.b.N 0) [fun i0 => dI (z.b.X 0 i0), fun i0 => dI (z.b.Y 0 i0)]
abbrev x17 := FnC prog k (bld z.b :: DV.agg [DV.lst z.nB [fun i0 => dI (z.B i0)], DV.lst z.nO [fun i0 => dI (z.O i0)], dI z.W, dI z.G, dI z.L] :: E) A
abbrev xt : VT := VT.need [x17 z (67:Nat) (DV.tup [dI (x2 z), dI (x3 z)]) [dI z.f, dI z.a, dI z.e]] (VT.need [FnC prog 33 [bld z.b] (x16 z), FnC prog 69 [x16 z] (DV.lst (z.b.N 0) [fun i0 => dI (z.b.X 0 i0), fun i0 => dI (z.b.Y 0 i0), fun i0 => dI (z.b.X 0 (ix (z.b.N 0) ((i0:Int) + 1))), fun i0 => dI (z.b.Y 0 (ix (z.b.N 0) ((i0:Int) + 1))), fun i0 => dI (x12 z (i0:Int)), fun i0 => dI (x13 z (i0:Int))]), 0 ≤ z.f ∧ z.f < (↑(z.b.N 0) : Int)] (VT.need [x15 z (x7 (x8 z) (x1 (x10 z) [])) [dI (x2 z), dI z.G], i64In (z.G + z.W), x15 z (x7 (x9 z) (x1 (x11 z) [])) [dI (x3 z), dI (z.G + z.W)]] (VT.need [x17 z (106:Nat) (DV.lst (Int.toNat (z.b.roof / z.L)) [fun i0 => dI (((i0:Int) + 1) * z.L)]) []] (VT.need [i64In (x6 z), 0 ≤ x6 z ∧ x6 z < x0 (z.b.roof / z.L), i64In (x14 z)] (VT.done [mins (x8 z) [x9 z] = ruX1 (z.b.N 0) (z.b.X 0) (z.b.Y 0) z.G z.W z.f z.a z.e, mins (x10 z) [x11 z] = ruY1 (z.b.N 0) (z.b.X 0) (z.b.Y 0) z.G z.W z.f z.a z.e, rf (0:Int), maxs (x8 z) [x9 z] = ruX2 (z.b.N 0) (z.b.X 0) (z.b.Y 0) z.G z.W z.f z.a z.e, maxs (x10 z) [x11 z] = ruY2 (z.b.N 0) (z.b.X 0) (z.b.Y 0) z.G z.W z.f z.a z.e, x14 z = topH z.b.roof z.L])))))
end
end w3b
open w3b in
theorem boxR_c (b : Bld) (nB : Nat) (B : Nat → Int) (nO : Nat) (O : Nat → Int) (W G L f a e : Int) (hs : 0 < b.nS) (h : chk (b.N 0) (b.X 0) (b.Y 0) = 0) (hg : gwOk G W) (hf : 0 ≤ f ∧ f < b.N 0) (ha : 0 ≤ a ∧ a ≤ 1) (he : 0 ≤ e ∧ e ≤ 1) (hr : 0 ≤ b.roof ∧ b.roof ≤ 1000000) (hL : 1 ≤ L ∧ L ≤ 10000) (hrl : L ≤ b.roof) : FnC prog 66 [bld b, Lay.sys nB B nO O W G L, dI f, dI a, dI e] (bx (ruX1 (b.N 0) (b.X 0) (b.Y 0) G W f a e) (ruY1 (b.N 0) (b.X 0) (b.Y 0) G W f a e) 0 (ruX2 (b.N 0) (b.X 0) (b.Y 0) G W f a e) (ruY2 (b.N 0) (b.X 0) (b.Y 0) G W f a e) (topH b.roof L)) := by
  refine FnC_owed hmix (A69_boxR_c b nB B nO O W G L f a e) (V := xt ⟨b, nB, B, nO, O, W, G, L, f, a, e⟩) (by kernel_rfl) ?_
  simp only [xt, x0, x1, x2, x3, x4, x5, x6, x7, x8, x9, x10, x11, x12, x13, x14, x15, x16, x17, Rf, VT.holds, AllT, Sq]
  have hn := chk_n h
  obtain ⟨hX, hY⟩ := chk_inB h
  have b1 := bef_bd (n := b.N 0) (X := b.X 0) (Y := b.Y 0) f hg ha
  have b2 := beh_bd f (by omega) hX hY hg he
  have hg' := hg
  obtain ⟨g1, g2, g3, g4⟩ := hg'
  obtain ⟨t1, t2, t3, t4⟩ := top_bd hr hL
  have t5 : 1 ≤ b.roof / L := (Int.le_ediv_iff_mul_le (by omega)).2 (by omega)
  have e1 : ((b.roof / L).toNat : Int) = b.roof / L := by omega
  have e2 : (((b.roof / L).toNat : Int) - 1).toNat = (b.roof / L - 1).toNat := by omega
  have e3 : ((((b.roof / L).toNat : Int) - 1).toNat : Int) + 1 = b.roof / L := by omega
  have e4 : b.roof / L * L + L = topH b.roof L := by rw [topH, Int.add_mul, Int.one_mul]
  rw [e3, e4]
  exact ⟨ends_c b nB B nO O W G L f a e hs h hg hf ha he, ⟨first_c b hs, wallsR_c _ _ _ h, hf⟩, ⟨place_w h hf _ _ (by omega) (by omega), by unfold i64In; omega, place_w h hf _ _ (by omega) (by omega)⟩, liftsR_c b nB B nO O W G L hr hL, ⟨by unfold i64In; omega, by omega, by unfold i64In; omega⟩, mins1 _ _, mins1 _ _, maxs1 _ _, maxs1 _ _, rfl⟩
noncomputable def A46_checkRingR_c (b : Bld) (nB : Nat) (B : Nat → Int) (nO : Nat) (O : Nat → Int) (W G L : Int) : Ann := { orc := [(1, [(1, rChkB b)]), (4, [(1, .res fun _ => dI (Lay.sysE nB B nO O W G L))]), (9, [(4, .pos)]), (11, [(1, rFst b), (4, rOfs)]), (12, [(1, rFst b), (7, rOfs)]), (16, [(2, rFst b)]), (18, [(3, .res fun l => dI (ruL (b.N 0) (b.X 0) (b.Y 0) G W (aI l 2) 1 0)), (10, .res fun l => bx (ruX1 (b.N 0) (b.X 0) (b.Y 0) G W (aI l 2) 1 0) (ruY1 (b.N 0) (b.X 0) (b.Y 0) G W (aI l 2) 1 0) 0 (ruX2 (b.N 0) (b.X 0) (b.Y 0) G W (aI l 2) 1 0) (ruY2 (b.N 0) (b.X 0) (b.Y 0) G W (aI l 2) 1 0) (topH b.roof L)), (11, .res fun l => dI (firstI (okI b (fI 0 (arg l 1)) (fI 1 (arg l 1)) (fI 2 (arg l 1)) (fI 3 (arg l 1)) (fI 4 (arg l 1)) (fI 5 (arg l 1))) b.nB))])], loops := [(0, { ι := Nat, keep := [2, 3], boxes := [2, 3], ts := fun _ i => [(11, dI (i : Int))], inv := fun _ i => i ≤ b.N 0 ∧ ∀ k, k < i → ∀ j, j < b.nB → ringBad b G W L k j = false, mu := fun _ i => b.N 0 - i, rd := fun _ σ => (iOf (σ.get 11)).toNat })], cuts := [] }
namespace w3c
noncomputable section
structure Z where
  b : Bld
  nB : Nat
  B : Nat → Int
  nO : Nat
  O : Nat → Int
  W : Int
  G : Int
  L : Int
variable (z : Z) (i0 i1 : Nat) (P : List Prop) (a b : Int) (k : Nat) (g : Bool) (A : DV) (U : VT) (j18a : List Value)
abbrev x0 := i0 < z.b.nB → rf (z.b.B i0 k)
abbrev x1 := i0 < z.b.nO → rf (z.b.O i0 k)
abbrev x2 := ruL (z.b.N 0) (z.b.X 0) (z.b.Y 0) z.G z.W (i0:Int) 1 0
abbrev x3 : List Value := Value.int IntKind.i64 a :: Value.int IntKind.i64 b :: j18a
abbrev x4 := decide ((x2 z i0) > (0:Int)) = true
abbrev x5 := ofE (z.b.N 0) (z.b.X 0) (z.b.Y 0) a
abbrev x6 := VT.done [a = arE z.b z.nB z.B z.nO z.O z.W z.G z.L]
abbrev x7 := DV.lst (z.b.N 0) [fun i0 => dI (z.b.X 0 i0), fun i0 => dI (z.b.Y 0 i0)]
abbrev x8 := Int.toNat ((i0:Int) + 1)
abbrev x9 := ruX1 (z.b.N 0) (z.b.X 0) (z.b.Y 0) z.G z.W (i0:Int) 1 0
abbrev x10 := ruY1 (z.b.N 0) (z.b.X 0) (z.b.Y 0) z.G z.W (i0:Int) 1 0
abbrev x11 := ruX2 (z.b.N 0) (z.b.X 0) (z.b.Y 0) z.G z.W (i0:Int) 1 0
abbrev x12 := ruY2 (z.b.N 0) (z.b.X 0) (z.b.Y 0) z.G z.W (i0:Int) 1 0
abbrev x13 := FnC prog 33 [bld z.b] (x7 z)
abbrev x14 := DV.agg [DV.lst z.nB [fun i0 => dI (z.B i0)], DV.lst z.nO [fun i0 => dI (z.O i0)], dI z.W, dI z.G, dI z.L]
abbrev x15 := Lay.sysE z.nB z.B z.nO z.O z.W z.G z.L
abbrev x16 := VT.need P (VT.ite g (x6 z (12:Int)) U)
abbrev x17 := FnC prog 64 [x7 z, dI a] (DV.tup [DV.any, dI (x5 z b)])
abbrev x18 := FnC prog k [bld z.b, x14 z, dI (i0:Int), dI 1, dI 0] A
abbrev x19 := DV.val (Value.agg (Array.mk (x3 (x9 z i0) (x10 z i0) (x3 (0:Int) (x11 z i0) (x3 (x12 z i0) (topH z.b.roof z.L) [])))))
abbrev x20 := i1 < k → (∀ i0 < z.b.nB, ringBad z.b z.G z.W z.L i1 i0 = false)
abbrev x21 := firstI (okI z.b (x9 z i0) (x10 z i0) 0 (x11 z i0) (x12 z i0) (topH z.b.roof z.L)) z.b.nB
abbrev x22 : List Prop := (a = (k:Int)) :: rf z.b.name :: rf z.b.nS :: (∀ i0 < z.b.nS, rf (z.b.fl i0)) :: (∀ i0 < z.b.nS, rf (z.b.N i0) ∧ (∀ i1 < z.b.N i0, rf (z.b.X i0 i1)) ∧ (∀ i1 < z.b.N i0, rf (z.b.Y i0 i1))) :: rf z.b.roof :: rf z.b.nO :: (∀ (i0 : Nat), x1 z i0 (0:Nat)) :: (∀ (i0 : Nat), x1 z i0 (1:Nat)) :: (∀ (i0 : Nat), x1 z i0 (2:Nat)) :: (∀ (i0 : Nat), x1 z i0 (3:Nat)) :: (∀ (i0 : Nat), x1 z i0 (4:Nat)) :: (∀ (i0 : Nat), x1 z i0 (5:Nat)) :: rf z.b.nB :: (∀ (i0 : Nat), x0 z i0 (0:Nat)) :: (∀ (i0 : Nat), x0 z i0 (1:Nat)) :: (∀ (i0 : Nat), x0 z i0 (2:Nat)) :: (∀ (i0 : Nat), x0 z i0 (3:Nat)) :: (∀ (i0 : Nat), x0 z i0 (4:Nat)) :: (∀ (i0 : Nat), x0 z i0 (5:Nat)) :: rf z.nB :: (∀ i0 < z.nB, rf (z.B i0)) :: rf z.nO :: (∀ i0 < z.nO, rf (z.O i0)) :: rf z.W :: rf z.G :: P
abbrev xt : VT := VT.need [FnC prog 62 [bld z.b] (dI (chkB z.b))] (VT.ite (chkB z.b != 0) (x6 z (chkB z.b)) (VT.need [FnC prog 63 [x14 z] (dI (x15 z))] (VT.ite (x15 z != 0) (x6 z (x15 z)) (VT.ite (decide (z.b.roof < z.L)) (x6 z (2:Int)) (VT.need [0 ≤ z.b.roof ∧ 0 < z.L ∧ z.b.roof ≤ 9223372036854775807] (VT.ite (decide ((z.b.roof / z.L) > (40:Int))) (x6 z (8:Int)) (VT.need [x13 z, x17 z z.G z.G] (VT.need [x13 z, i64In (z.G + z.W), x17 z (z.G + z.W) (z.G + z.W)] (x16 z [ri ((!(x5 z z.G != 0)) = true), (x5 z z.G != 0) = false → (!(x5 z z.G != 0)) = true] (if (x5 z z.G != 0) = true then true else (x5 z (z.G + z.W) != 0)) (VT.loop Nat (fun i0 => i0 ≤ z.b.N 0 ∧ (∀ (i1 : Nat), x20 z i1 i0)) (Int.toNat 0) (x22 z [rf z.L] (0:Int) (Int.toNat 0)) (fun i0 => VT.need [x13 z] (VT.ite (decide ((i0:Int) < (↑(z.b.N 0) : Int))) (x16 z [x18 z i0 (36:Nat) (dI (x2 z i0)), ri (x4 z i0), ri (x4 z i0), ri (x4 z i0), x4 z i0 → x18 z i0 (66:Nat) (x19 z i0), ri (x4 z i0), ri (x4 z i0), x4 z i0 → FnC prog 65 [bld z.b, x19 z i0] (dI (x21 z i0)), ri (x4 z i0), ri (x4 z i0)] (if (decide ((x2 z i0) > (0:Int))) = true then (decide ((x21 z i0) ≥ (0:Int))) else false) (VT.need [i64In ((i0:Int) + 1)] (VT.done (x22 z [rf z.L, x8 i0 ≤ z.b.N 0 ∧ (∀ (i1 : Nat), x20 z i1 (x8 i0)), z.b.N 0 - x8 i0 < z.b.N 0 - i0] ((i0:Int) + 1) (x8 i0))))) (x6 z (0:Int))))))))))))))
end
end w3c
open w3c in
theorem checkRingR_c (b : Bld) (nB : Nat) (B : Nat → Int) (nO : Nat) (O : Nat → Int) (W G L : Int) (hN : ∀ i, i < b.nS → b.N i ≤ 1000) : FnC prog 32 [bld b, Lay.sys nB B nO O W G L] (dI (arE b nB B nO O W G L)) := by
  refine FnC_owed hmix (A46_checkRingR_c b nB B nO O W G L) (V := xt ⟨b, nB, B, nO, O, W, G, L⟩) (by kernel_rfl) ?_
  simp only [xt, x0, x1, x2, x3, x4, x5, x6, x7, x8, x9, x10, x11, x12, x13, x14, x15, x16, x17, x18, x19, x20, x21, x22, Rf, VT.holds, AllT, Sq]
  refine ⟨checkR_b b hN, fun h => (ar_1 h).symm, fun hc => ⟨Lay.systemR_c nB B nO O W G L, fun h => (ar_2 hc h).symm, fun hs => ?_⟩⟩
  obtain ⟨b1, b2, b3, b4, b5⟩ := b0_ok hc
  obtain ⟨g1, g2, g3⟩ := sys_wgl hs
  have hg := g1
  unfold gwOk at hg
  have hn := chk_n b2
  refine ⟨fun h => (ar_3 hc hs h).symm, fun h3 => ⟨by omega, fun h => (ar_4 hc hs h3 h).symm, fun h4 => ⟨⟨first_c b b1, offsetR_c _ _ _ _ b2 (by omega)⟩, ⟨first_c b b1, by unfold i64In; omega, offsetR_c _ _ _ _ b2 (by omega)⟩, fun h => (ar_5 hc hs h3 h4 h).symm, fun h => ?_⟩⟩⟩
  have e1 : ofE (b.N 0) (b.X 0) (b.Y 0) G = 0 := by omega
  have e2 : ofE (b.N 0) (b.X 0) (b.Y 0) (G + W) = 0 := by omega
  have h5 : ¬ (ofE (b.N 0) (b.X 0) (b.Y 0) G ≠ 0 ∨ ofE (b.N 0) (b.X 0) (b.Y 0) (G + W) ≠ 0) := by omega
  obtain ⟨a1, c1⟩ := of_zero e1
  obtain ⟨a2, c2⟩ := of_zero e2
  refine ⟨rfl, ⟨Nat.zero_le _, fun k hk => absurd hk (Nat.not_lt_zero k)⟩, fun i ⟨hi, hb⟩ => ⟨first_c b b1, fun hlt => ?_, fun hge => ?_⟩⟩
  · have hp := run_pos (w := W) a1 a2 (by omega) (by omega) (i := i) (by omega)
    refine ⟨⟨runLenR_c b nB B nO O W G L i 1 0 b1 b2 g1 (by omega) (by omega) (by omega), fun _ => boxR_c b nB B nO O W G L i 1 0 b1 b2 g1 (by omega) (by omega) (by omega) ⟨b3, b4⟩ ⟨g2, g3⟩ (by omega), fun _ => forbR_c b _ _ _ _ _ _ (by omega)⟩, fun ⟨_, h⟩ => ?_, fun h => ?_⟩
    · obtain ⟨j, hj, hx⟩ := firstI_pos h
      exact (ar_6 hc hs h3 h4 h5 (ringOk_no (by omega) hj hx)).symm
    · have hx := firstI_neg (h hp)
      refine ⟨by unfold i64In; omega, rfl, ⟨by omega, fun k hk j hj => ?_⟩, by omega⟩
      by_cases e : k = i
      · rw [e]; exact hx j hj
      · exact hb k (by omega) j hj
  · exact (ar_7 hc hs h3 h4 h5 (ringOk_yes fun k hk j hj => hb k (by omega) j hj)).symm
end Go.Abs
end
