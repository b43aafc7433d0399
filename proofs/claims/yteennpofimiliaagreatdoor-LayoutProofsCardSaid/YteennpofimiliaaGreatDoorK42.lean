/- Contracts. Contracts. Contracts. -/
import Derived.Test.YteennpofimiliaaGreatDoorK20
import Derived.Test.YteennpofimiliaaGreatDoorK41
section
section
set_option linter.unusedVariables false
set_option linter.unusedSimpArgs false
set_option maxRecDepth 100000
namespace Go.Abs
open Go
section
variable {b : Bld} {s : Int}
theorem shp_no (h : shpB b = false) : ¬ (b.nS < 1 ∨ b.nS > 20 ∨ b.nO > 100 ∨ b.nB > 50) := fun h1 => by rw [shpB_spec.2 h1] at h; cases h
theorem small_ok (h : smallF b = true) : b.nS ≤ 25 ∧ b.nO ≤ 105 ∧ b.nB ≤ 55 ∧ ∀ i, i < b.nS → b.N i ≤ 45 := by
  unfold smallF at h
  rw [decide_eq_true_eq] at h
  refine ⟨by omega, by omega, by omega, fun i hi => ?_⟩
  have := h.2 i hi
  rw [manyC, decide_eq_false_iff_not] at this
  omega
end
end Go.Abs
end
section
set_option linter.unusedVariables false
set_option linter.unusedSimpArgs false
set_option maxRecDepth 100000
namespace Go.Abs
open Go
def firstI (p : Nat → Bool) : Nat → Int
  | 0 => -1
  | k + 1 => if 0 ≤ firstI p k then firstI p k else if p k = true then (k : Int) else -1
theorem firstI_none {p : Nat → Bool} : ∀ {n : Nat}, (∀ j, j < n → p j = false) → firstI p n = -1
  | 0, _ => rfl
  | n + 1, h => by
    rw [firstI, firstI_none (fun j hj => h j (by omega)), if_neg (by omega), if_neg (by rw [h n (by omega)]; simp)]
theorem firstI_at {p : Nat → Bool} {i : Nat} (h : ∀ j, j < i → p j = false) (hi : p i = true) : ∀ {n : Nat}, i < n → firstI p n = i
  | n + 1, hn => by
    rcases Nat.lt_or_ge i n with h1 | h1
    · have := firstI_at h hi h1
      rw [firstI, this, if_pos (by omega)]
    · have : i = n := by omega
      subst this
      rw [firstI, firstI_none h, if_neg (by omega), if_pos hi]
def okI (b : Bld) (x1 y1 z1 x2 y2 z2 : Int) (i : Nat) : Bool := okC x1 y1 z1 x2 y2 z2 (b.B i 0) (b.B i 1) (b.B i 2) (b.B i 3) (b.B i 4) (b.B i 5)
theorem okC_comm (a1 b1 c1 d1 e1 f1 a2 b2 c2 d2 e2 f2 : Int) : okC a1 b1 c1 d1 e1 f1 a2 b2 c2 d2 e2 f2 = okC a2 b2 c2 d2 e2 f2 a1 b1 c1 d1 e1 f1 := by
  unfold okC
  rw [decide_eq_decide]; omega
section
variable {b : Bld} {x1 y1 z1 x2 y2 z2 : Int}
end
noncomputable def A49_forbR_c (b : Bld) (x1 y1 z1 x2 y2 z2 : Int) : Ann := { orc := [(4, [(6, rCmR)])], loops := [(0, { ι := Nat, keep := [2, 3], boxes := [2, 3], ts := fun _ i => [(5, dI (i : Int))], inv := fun _ i => i ≤ b.nB ∧ ∀ j, j < i → okI b x1 y1 z1 x2 y2 z2 j = false, mu := fun _ i => b.nB - i, rd := fun _ σ => (iOf (σ.get 5)).toNat })], cuts := [] }
abbrev forbR_cr0 (b : Bld) (r : List Prop) : List Prop := (b.name = b.name) :: (b.nS = b.nS) :: (∀ i < b.nS, b.fl i = b.fl i) :: (∀ i < b.nS, b.N i = b.N i ∧ (∀ i_1 < b.N i, b.X i i_1 = b.X i i_1) ∧ ∀ i_1 < b.N i, b.Y i i_1 = b.Y i i_1) :: (b.roof = b.roof) :: (b.nO = b.nO) :: (∀ i < b.nO, b.O i (0:Nat) = b.O i (0:Nat)) :: (∀ i < b.nO, b.O i (1:Nat) = b.O i (1:Nat)) :: (∀ i < b.nO, b.O i (2:Nat) = b.O i (2:Nat)) :: (∀ i < b.nO, b.O i (3:Nat) = b.O i (3:Nat)) :: (∀ i < b.nO, b.O i (4:Nat) = b.O i (4:Nat)) :: (∀ i < b.nO, b.O i (5:Nat) = b.O i (5:Nat)) :: (b.nB = b.nB) :: (∀ i < b.nB, b.B i (0:Nat) = b.B i (0:Nat)) :: (∀ i < b.nB, b.B i (1:Nat) = b.B i (1:Nat)) :: (∀ i < b.nB, b.B i (2:Nat) = b.B i (2:Nat)) :: (∀ i < b.nB, b.B i (3:Nat) = b.B i (3:Nat)) :: (∀ i < b.nB, b.B i (4:Nat) = b.B i (4:Nat)) :: (∀ i < b.nB, b.B i (5:Nat) = b.B i (5:Nat)) :: r
theorem forbR_c (b : Bld) (x1 y1 z1 x2 y2 z2 : Int) (hB : b.nB ≤ 1000) : FnC prog 65 [bld b, bx x1 y1 z1 x2 y2 z2] (dI (firstI (okI b x1 y1 z1 x2 y2 z2) b.nB)) := by
  refine FnC_owed hmix (A49_forbR_c b x1 y1 z1 x2 y2 z2) (V := .loop Nat (fun a => a ≤ b.nB ∧ ∀ (j : Nat), j < a → okI b x1 y1 z1 x2 y2 z2 j = false) (0:Int).toNat (((0:Int) = (↑(0:Int).toNat : Int)) :: (forbR_cr0 b [x1 = x1, y1 = y1, z1 = z1, x2 = x2, y2 = y2, z2 = z2])) fun i => .ite (decide ((i:Int) < (b.nB:Int))) (.need [(0:Int) ≤ (i:Int) ∧ (i:Int) < (b.nB:Int), FnC prog 105 [.val (.agg (Array.mk [.int .i64 (b.B (i:Int).toNat (0:Nat)), .int .i64 (b.B (i:Int).toNat (1:Nat)), .int .i64 (b.B (i:Int).toNat (2:Nat)), .int .i64 (b.B (i:Int).toNat (3:Nat)), .int .i64 (b.B (i:Int).toNat (4:Nat)), .int .i64 (b.B (i:Int).toNat (5:Nat))])), .val (.agg (Array.mk [.int .i64 x1, .int .i64 y1, .int .i64 z1, .int .i64 x2, .int .i64 y2, .int .i64 z2]))] (.tup [.val (.agg (Array.mk [.int .i64 (cmR (okC (b.B (i:Int).toNat (0:Nat)) (b.B (i:Int).toNat (1:Nat)) (b.B (i:Int).toNat (2:Nat)) (b.B (i:Int).toNat (3:Nat)) (b.B (i:Int).toNat (4:Nat)) (b.B (i:Int).toNat (5:Nat)) x1 y1 z1 x2 y2 z2) (max (b.B (i:Int).toNat (0:Nat)) x1)), .int .i64 (cmR (okC (b.B (i:Int).toNat (0:Nat)) (b.B (i:Int).toNat (1:Nat)) (b.B (i:Int).toNat (2:Nat)) (b.B (i:Int).toNat (3:Nat)) (b.B (i:Int).toNat (4:Nat)) (b.B (i:Int).toNat (5:Nat)) x1 y1 z1 x2 y2 z2) (max (b.B (i:Int).toNat (1:Nat)) y1)), .int .i64 (cmR (okC (b.B (i:Int).toNat (0:Nat)) (b.B (i:Int).toNat (1:Nat)) (b.B (i:Int).toNat (2:Nat)) (b.B (i:Int).toNat (3:Nat)) (b.B (i:Int).toNat (4:Nat)) (b.B (i:Int).toNat (5:Nat)) x1 y1 z1 x2 y2 z2) (max (b.B (i:Int).toNat (2:Nat)) z1)), .int .i64 (cmR (okC (b.B (i:Int).toNat (0:Nat)) (b.B (i:Int).toNat (1:Nat)) (b.B (i:Int).toNat (2:Nat)) (b.B (i:Int).toNat (3:Nat)) (b.B (i:Int).toNat (4
     : Nat)) (b.B (i:Int).toNat (5:Nat)) x1 y1 z1 x2 y2 z2) (min (b.B (i:Int).toNat (3:Nat)) x2)), .int .i64 (cmR (okC (b.B (i:Int).toNat (0:Nat)) (b.B (i:Int).toNat (1:Nat)) (b.B (i:Int).toNat (2:Nat)) (b.B (i:Int).toNat (3:Nat)) (b.B (i:Int).toNat (4:Nat)) (b.B (i:Int).toNat (5:Nat)) x1 y1 z1 x2 y2 z2) (min (b.B (i:Int).toNat (4:Nat)) y2)), .int .i64 (cmR (okC (b.B (i:Int).toNat (0:Nat)) (b.B (i:Int).toNat (1:Nat)) (b.B (i:Int).toNat (2:Nat)) (b.B (i:Int).toNat (3:Nat)) (b.B (i:Int).toNat (4:Nat)) (b.B (i:Int).toNat (5:Nat)) x1 y1 z1 x2 y2 z2) (min (b.B (i:Int).toNat (5:Nat)) z2))])), (dB (okC (b.B (i:Int).toNat (0:Nat)) (b.B (i:Int).toNat (1:Nat)) (b.B (i:Int).toNat (2:Nat)) (b.B (i:Int).toNat (3:Nat)) (b.B (i:Int).toNat (4:Nat)) (b.B (i:Int).toNat (5:Nat)) x1 y1 z1 x2 y2 z2))])] (.ite (okC (b.B (i:Int).toNat (0:Nat)) (b.B (i:Int).toNat (1:Nat)) (b.B (i:Int).toNat (2:Nat)) (b.B (i:Int).toNat (3:Nat)) (b.B (i:Int).toNat (4:Nat)) (b.B (i:Int).toNat (5:Nat)) x1 y1 z1 x2 y2 z2) (.done [(i:Int) = firstI (okI b x1 y1 z1 x2 y2 z2) b.nB]) (.need [i64In ((i:Int) + (1:Int))] (.done (((i:Int) + (1:Int) = (↑((i:Int) + (1:Int)).toNat : Int)) :: (forbR_cr0 b [x1 = x1, y1 = y1, z1 = z1, x2 = x2, y2 = y2, z2 = z2, Int.toNat ((i:Int) + (1:Int)) ≤ b.nB ∧ ∀ (j : Nat), j < ((i:Int) + (1:Int)).toNat → okI b x1 y1 z1 x2 y2 z2 j = false, b.nB - ((i:Int) + (1:Int)).toNat < b.nB - i])))))) (.done [(-1:Int) = firstI (okI b x1 y1 z1 x2 y2 z2) b.nB])) (by kernel_rfl) ?_
  simp only [VT.holds, AllT, forbR_cr0, Sq]
  refine ⟨rfl, ⟨Nat.zero_le _, fun j hj => absurd hj (Nat.not_lt_zero j)⟩, fun i ⟨hi, hb⟩ => ⟨fun hlt => ⟨⟨⟨by omega, hlt⟩, commonR_c _ _ _ _ _ _ _ _ _ _ _ _⟩, fun h => ?_, fun h => ⟨by unfold i64In; omega, by omega, ⟨by omega, upto hb ?_⟩, by omega⟩⟩, fun hge => by rw [firstI_none (fun j hj => hb j (by omega))]⟩⟩
  · rw [okC_comm] at h
    exact (firstI_at hb h (by omega)).symm
  · rw [okC_comm] at h
    exact h
end Go.Abs
end
end
section
set_option linter.unusedVariables false
set_option linter.unusedSimpArgs false
set_option maxRecDepth 100000
namespace Go.Abs
open Go
def ringBad (b : Bld) (G W L : Int) (i j : Nat) : Bool := okI b (ruX1 (b.N 0) (b.X 0) (b.Y 0) G W i 1 0) (ruY1 (b.N 0) (b.X 0) (b.Y 0) G W i 1 0) 0 (ruX2 (b.N 0) (b.X 0) (b.Y 0) G W i 1 0) (ruY2 (b.N 0) (b.X 0) (b.Y 0) G W i 1 0) (topH b.roof L) j
def ringOk (b : Bld) (G W L : Int) : Bool := decide (∀ i, i < b.N 0 → ∀ j, j < b.nB → ringBad b G W L i j = false)
def arE (b : Bld) (nB : Nat) (B : Nat → Int) (nO : Nat) (O : Nat → Int) (W G L : Int) : Int :=
  if chkB b ≠ 0 then chkB b else if Lay.sysE nB B nO O W G L ≠ 0 then Lay.sysE nB B nO O W G L else if b.roof < L then 2 else if b.roof / L > 40 then 8
  else if ofE (b.N 0) (b.X 0) (b.Y 0) G ≠ 0 ∨ ofE (b.N 0) (b.X 0) (b.Y 0) (G + W) ≠ 0 then 12 else if ringOk b G W L = false then 12 else 0
abbrev ringD (b : Bld) (nB : Nat) (B : Nat → Int) (nO : Nat) (O : Nat → Int) (W G L : Int) : DV :=
  ringC (.val (.string b.name)) (.lst b.nS (stoC b)) b.roof (.lst b.nO (opeC b)) (.lst b.nB (boxC b)) (Lay.nums nB B) (Lay.nums nO O) W G L (dI (Lay.catU nB B nO O W G L)) (.lst (Lay.catN nB B nO O W G L) (Lay.part3 (Lay.pLen nB B nO O) (Lay.pCode nB) (fun i => decide (nB ≤ i)))) (b.N 0) (b.X 0) (b.Y 0)
def rOfs : Orc := .res fun l => .tup [.any, dI (ofE (aN l) (aX l) (aY l) (aI l 1))]
def rWaK : Orc := .res fun l => .tup [.lst (aN l) (wcols (aN l) (aX l) (aY l)), dI 0]
def rCoK : Orc := .res fun l => .tup [.lst (aN l) [fun k => dI (cor (aN l) (aX l) (aY l) k)], dI 0]
def rFst (b : Bld) : Orc := .res fun _ => pts (b.N 0) (b.X 0) (b.Y 0)
def rRbx (b : Bld) (G W L : Int) : Orc := .res fun l => bx (ruX1 (b.N 0) (b.X 0) (b.Y 0) G W (aI l 1) (aI l 2) (aI l 3)) (ruY1 (b.N 0) (b.X 0) (b.Y 0) G W (aI l 1) (aI l 2) (aI l 3)) 0 (ruX2 (b.N 0) (b.X 0) (b.Y 0) G W (aI l 1) (aI l 2) (aI l 3)) (ruY2 (b.N 0) (b.X 0) (b.Y 0) G W (aI l 1) (aI l 2) (aI l 3)) (topH b.roof L)
theorem place_w {n : Nat} {X Y : Nat → Int} (h : chk n X Y = 0) {f : Int} (hf : 0 ≤ f ∧ f < n) (al r : Int) (h1 : -9000000 ≤ al ∧ al ≤ 9000000) (h2 : -9000000 ≤ r ∧ r ≤ 9000000) :
    FnC prog 68 [.val (.agg #[.int .i64 (X f.toNat), .int .i64 (Y f.toNat), .int .i64 (X (ix n ((f.toNat : Nat) + 1))), .int .i64 (Y (ix n ((f.toNat : Nat) + 1))), .int .i64 (lenW n X Y (f.toNat : Nat)), .int .i64 (dD n X Y (f.toNat : Nat))]), dI al, dI r]
      (dP (atX n X Y f al r) (atY n X Y f al r)) := by
  obtain ⟨hX, hY⟩ := chk_inB h
  have hd := dD_range n X Y f
  have x1 := hX f.toNat (by omega)
  have y1 := hY f.toNat (by omega)
  have hc := place_c (X f.toNat) (Y f.toNat) (X (ix n ((f.toNat : Nat) + 1))) (Y (ix n ((f.toNat : Nat) + 1))) (lenW n X Y (f.toNat : Nat)) (dD n X Y (f.toNat : Nat)) al r (by rw [Int.toNat_of_nonneg hf.1]; omega) (by unfold m3; omega) (by unfold m3; omega) h1 h2
  have e : (f.toNat : Int) = f := Int.toNat_of_nonneg hf.1
  rw [e] at hc ⊢
  obtain ⟨k1, k2⟩ := st_r (d := dD n X Y f) (by omega)
  rw [k1, k2] at hc
  have e1 : X f.toNat + al * stX (dD n X Y f) + r * stY (dD n X Y f) = atX n X Y f al r := by rw [atX, ix_at hf]
  have e2 : Y f.toNat + al * stY (dD n X Y f) + r * -stX (dD n X Y f) = atY n X Y f al r := by rw [atY, ix_at hf, Int.mul_neg]; omega
  rw [e1, e2] at hc
  exact hc
section
variable {b : Bld} {nB : Nat} {B : Nat → Int} {nO : Nat} {O : Nat → Int} {W G L : Int}
theorem sys_wgl (h : Lay.sysE nB B nO O W G L = 0) : gwOk G W ∧ 1 ≤ L ∧ L ≤ 10000 := by
  unfold Lay.sysE at h
  split at h
  · cases h
  · split at h
    · cases h
    · split at h
      · cases h
      · split at h
        · cases h
        · rename_i h4
          unfold Lay.inR at h4
          simp only [decide_eq_false_iff_not, not_or, Decidable.not_not] at h4
          unfold gwOk
          omega
theorem ar_1 (h : chkB b ≠ 0) : arE b nB B nO O W G L = chkB b := by rw [arE, if_pos h]
theorem ar_2 (h : chkB b = 0) (h2 : Lay.sysE nB B nO O W G L ≠ 0) : arE b nB B nO O W G L = Lay.sysE nB B nO O W G L := by rw [arE, if_neg (by rw [h]; simp), if_pos h2]
theorem ar_3 (h : chkB b = 0) (h2 : Lay.sysE nB B nO O W G L = 0) (h3 : b.roof < L) : arE b nB B nO O W G L = 2 := by rw [arE, if_neg (by rw [h]; simp), if_neg (by rw [h2]; simp), if_pos h3]
theorem ar_4 (h : chkB b = 0) (h2 : Lay.sysE nB B nO O W G L = 0) (h3 : ¬ b.roof < L) (h4 : b.roof / L > 40) : arE b nB B nO O W G L = 8 := by rw [arE, if_neg (by rw [h]; simp), if_neg (by rw [h2]; simp), if_neg h3, if_pos h4]
theorem ar_5 (h : chkB b = 0) (h2 : Lay.sysE nB B nO O W G L = 0) (h3 : ¬ b.roof < L) (h4 : ¬ b.roof / L > 40) (h5 : ofE (b.N 0) (b.X 0) (b.Y 0) G ≠ 0 ∨ ofE (b.N 0) (b.X 0) (b.Y 0) (G + W) ≠ 0) : arE b nB B nO O W G L = 12 := by
  rw [arE, if_neg (by rw [h]; simp), if_neg (by rw [h2]; simp), if_neg h3, if_neg h4, if_pos h5]
theorem ar_6 (h : chkB b = 0) (h2 : Lay.sysE nB B nO O W G L = 0) (h3 : ¬ b.roof < L) (h4 : ¬ b.roof / L > 40) (h5 : ¬ (ofE (b.N 0) (b.X 0) (b.Y 0) G ≠ 0 ∨ ofE (b.N 0) (b.X 0) (b.Y 0) (G + W) ≠ 0)) (h6 : ringOk b G W L = false) : arE b nB B nO O W G L = 12 := by
  rw [arE, if_neg (by rw [h]; simp), if_neg (by rw [h2]; simp), if_neg h3, if_neg h4, if_neg h5, if_pos h6]
theorem ar_7 (h : chkB b = 0) (h2 : Lay.sysE nB B nO O W G L = 0) (h3 : ¬ b.roof < L) (h4 : ¬ b.roof / L > 40) (h5 : ¬ (ofE (b.N 0) (b.X 0) (b.Y 0) G ≠ 0 ∨ ofE (b.N 0) (b.X 0) (b.Y 0) (G + W) ≠ 0)) (h6 : ringOk b G W L = true) : arE b nB B nO O W G L = 0 := by
  rw [arE, if_neg (by rw [h]; simp), if_neg (by rw [h2]; simp), if_neg h3, if_neg h4, if_neg h5, if_neg (by rw [h6]; simp)]
theorem ar_zero (h : arE b nB B nO O W G L = 0) : chkB b = 0 ∧ Lay.sysE nB B nO O W G L = 0 ∧ ¬ b.roof < L ∧ ¬ b.roof / L > 40 ∧ ofE (b.N 0) (b.X 0) (b.Y 0) G = 0 ∧ ofE (b.N 0) (b.X 0) (b.Y 0) (G + W) = 0 ∧ ringOk b G W L = true := by
  by_cases h1 : chkB b = 0
  · by_cases h2 : Lay.sysE nB B nO O W G L = 0
    · by_cases h3 : b.roof < L
      · rw [ar_3 h1 h2 h3] at h; cases h
      · by_cases h4 : b.roof / L > 40
        · rw [ar_4 h1 h2 h3 h4] at h; cases h
        · by_cases h5 : ofE (b.N 0) (b.X 0) (b.Y 0) G ≠ 0 ∨ ofE (b.N 0) (b.X 0) (b.Y 0) (G + W) ≠ 0
          · rw [ar_5 h1 h2 h3 h4 h5] at h; cases h
          · cases h6 : ringOk b G W L with
            | false => rw [ar_6 h1 h2 h3 h4 h5 h6] at h; cases h
            | true => exact ⟨h1, h2, h3, h4, by omega, by omega, rfl⟩
    · rw [ar_2 h1 h2] at h; exact absurd h h2
  · rw [ar_1 h1] at h; exact absurd h h1
theorem b0_ok (h : chkB b = 0) : 0 < b.nS ∧ chk (b.N 0) (b.X 0) (b.Y 0) = 0 ∧ 0 ≤ b.roof ∧ b.roof ≤ 1000000 ∧ b.nB ≤ 50 := by
  obtain ⟨c1, c2, c3, c4, c5, c6⟩ := chkB_zero h
  have hs := shp_no c2
  obtain ⟨f1, f2, f3⟩ := floors_ok c2 c3 c4
  exact ⟨by omega, f1 0 (by omega), f2.2.1, f2.2.2, by omega⟩
theorem box_ok (h : chkB b = 0) {j : Nat} (hj : j < b.nB) : ckI b j = 0 := by
  obtain ⟨c1, c2, c3, c4, c5, c6⟩ := chkB_zero h
  have := c6 j hj
  unfold bxE at this
  split at this
  · rename_i h1; exact absurd this h1
  · rename_i h1; exact Decidable.not_not.1 h1
theorem top_in (hr : 0 ≤ b.roof ∧ b.roof ≤ 1000000) (hL : 1 ≤ L ∧ L ≤ 10000) (h40 : ¬ b.roof / L > 40) : 0 < topH b.roof L ∧ topH b.roof L ≤ 1000000 := by
  obtain ⟨t1, t2, t3, t4⟩ := top_bd hr hL
  refine ⟨t3, ?_⟩
  have := Int.mul_le_mul_of_nonneg_right (show b.roof / L + 1 ≤ 41 by omega) (show 0 ≤ L by omega)
  unfold topH
  omega
theorem ring_ck (hc : chkB b = 0) (hs : Lay.sysE nB B nO O W G L = 0) (h40 : ¬ b.roof / L > 40) (e1 : ofE (b.N 0) (b.X 0) (b.Y 0) G = 0) (e2 : ofE (b.N 0) (b.X 0) (b.Y 0) (G + W) = 0) {i : Nat} (hi : i < b.N 0) :
    ckB (ruX1 (b.N 0) (b.X 0) (b.Y 0) G W i 1 0) (ruY1 (b.N 0) (b.X 0) (b.Y 0) G W i 1 0) 0 (ruX2 (b.N 0) (b.X 0) (b.Y 0) G W i 1 0) (ruY2 (b.N 0) (b.X 0) (b.Y 0) G W i 1 0) (topH b.roof L) = 0 := by
  obtain ⟨b1, b2, b3, b4, b5⟩ := b0_ok hc
  obtain ⟨g1, g2, g3⟩ := sys_wgl hs
  obtain ⟨i1, i2, i3, i4, i5, i6⟩ := box_in b2 g1 e1 e2 hi
  obtain ⟨t1, t2⟩ := top_in ⟨b3, b4⟩ ⟨g2, g3⟩ h40
  have z : inF 0 = true := by decide
  have t : inF (topH b.roof L) = true := by unfold inF; rw [decide_eq_true_eq]; omega
  rw [ckB, if_neg (fun h => h ⟨i1, i2, z, i3, i4, t⟩), if_neg (by omega)]
theorem ring_over (hc : chkB b = 0) (hs : Lay.sysE nB B nO O W G L = 0) (h40 : ¬ b.roof / L > 40) (e1 : ofE (b.N 0) (b.X 0) (b.Y 0) G = 0) (e2 : ofE (b.N 0) (b.X 0) (b.Y 0) (G + W) = 0) {i j : Nat} (hi : i < b.N 0) (hj : j < b.nB) :
    isO (ruX1 (b.N 0) (b.X 0) (b.Y 0) G W i 1 0) (ruY1 (b.N 0) (b.X 0) (b.Y 0) G W i 1 0) 0 (ruX2 (b.N 0) (b.X 0) (b.Y 0) G W i 1 0) (ruY2 (b.N 0) (b.X 0) (b.Y 0) G W i 1 0) (topH b.roof L) (b.B j 0) (b.B j 1) (b.B j 2) (b.B j 3) (b.B j 4) (b.B j 5) = ringBad b G W L i j := by
  have k1 := ring_ck hc hs h40 e1 e2 hi
  have k2 : ckB (b.B j 0) (b.B j 1) (b.B j 2) (b.B j 3) (b.B j 4) (b.B j 5) = 0 := box_ok hc hj
  unfold isO erB
  rw [if_neg (by rw [k1]; simp), k2]
  rfl
theorem ringOk_no {i j : Nat} (hi : i < b.N 0) (hj : j < b.nB) (h : ringBad b G W L i j = true) : ringOk b G W L = false := by
  unfold ringOk
  rw [decide_eq_false_iff_not]
  intro hx
  rw [hx i hi j hj] at h; cases h
theorem ringOk_yes (h : ∀ k, k < b.N 0 → ∀ j, j < b.nB → ringBad b G W L k j = false) : ringOk b G W L = true := decide_eq_true h
theorem firstI_pos {p : Nat → Bool} {n : Nat} (h : firstI p n ≥ 0) : ∃ j, j < n ∧ p j = true := by
  by_cases hx : ∀ j, j < n → p j = false
  · rw [firstI_none hx] at h; omega
  · simp only [Classical.not_forall, Bool.not_eq_false] at hx
    obtain ⟨j, h1, h2⟩ := hx
    exact ⟨j, h1, h2⟩
theorem firstI_neg {p : Nat → Bool} : ∀ {n : Nat}, ¬ firstI p n ≥ 0 → ∀ j, j < n → p j = false
  | 0, _, j, hj => absurd hj (Nat.not_lt_zero j)
  | n + 1, h, j, hj => by
    rw [firstI] at h
    split at h
    · rename_i h1; exact absurd h1 h
    · rename_i h1
      split at h
      · omega
      · rename_i h2
        by_cases e : j = n
        · rw [e]; simpa using h2
        · exact firstI_neg h1 j (by omega)
end
theorem walls_k {n : Nat} {X Y : Nat → Int} (h : chk n X Y = 0) : FnC prog 83 [pts n X Y] (.tup [.lst n (wcols n X Y), dI 0]) := by
  have hn := chk_n h
  have := walls_c n X Y (by omega)
  rw [coN, if_neg (by rw [h]; simp), h] at this
  exact this
theorem corners_k {n : Nat} {X Y : Nat → Int} (h : chk n X Y = 0) : FnC prog 84 [pts n X Y] (.tup [.lst n [fun k => dI (cor n X Y k)], dI 0]) := by
  have hn := chk_n h
  have := corners_c n X Y (by omega)
  rw [coN, if_neg (by rw [h]; simp), h] at this
  exact this
def gwF (G W : Int) (j : Nat) : Int := [G, G + W].getD j 0
noncomputable def A43_aroundE_c (b : Bld) (nB : Nat) (B : Nat → Int) (nO : Nat) (O : Nat → Int) (W G L : Int) : Ann := { orc := [(1, [(1, rChkB b)]), (4, [(1, .res fun _ => .tup [Lay.catE nB B nO O W G L, dI (Lay.sysE nB B nO O W G L)])]), (9, [(4, .pos)]), (15, [(2, rOfs)]), (20, [(2, rWaK)]), (21, [(2, rCoK)]), (27, [(2, rRbx b G W L)]), (31, [(2, rOver)])], loops := [(1, { ι := Nat, keep := [2, 3, 7, 9, 60], boxes := [2, 3, 7], ts := fun _ i => [(61, dI (i : Int))], inv := fun _ i => i ≤ 2 ∧ ∀ j, j < i → ofE (b.N 0) (b.X 0) (b.Y 0) (gwF G W j) = 0, mu := fun _ i => 2 - i, rd := fun _ σ => (iOf (σ.get 61)).toNat }), (3, { ι := Nat, keep := [2, 14, 109], boxes := [2, 14], ts := fun _ i => [(110, dI (i : Int))], inv := fun _ i => i ≤ b.N 0 ∧ ∀ k, k < i → ∀ j, j < b.nB → ringBad b G W L k j = false, mu := fun _ i => b.N 0 - i, rd := fun _ σ => (iOf (σ.get 110)).toNat }), (5, { ι := Nat, keep := [2, 14, 109, 110, 15, 16, 117, 118], boxes := [2, 14, 16], ts := fun _ j => [(119, dI (j : Int))], inv := fun σ j => j ≤ b.nB ∧ ∀ k, k < j → ringBad b G W L (iOf (σ.get 110)).toNat k = false, mu := fun _ j => b.nB - j, rd := fun _ σ => (iOf (σ.get 119)).toNat })], cuts := [] }
abbrev aroundE_cd0 (b : Bld) : DV := .lst (b.N (0:Int).toNat) [fun i => (dI (b.X (0:Int).toNat i)), fun i => (dI (b.Y (0:Int).toNat i)), fun i => (dI (b.X (0:Int).toNat (ix (b.N (0:Int).toNat) ((i:Int) + (1:Int))))), fun i => (dI (b.Y (0:Int).toNat (ix (b.N (0:Int).toNat) ((i:Int) + (1:Int))))), fun i => (dI (lenW (b.N (0:Int).toNat) (b.X (0:Int).toNat) (b.Y (0:Int).toNat) (i:Int))), fun i => (dI (dD (b.N (0:Int).toNat) (b.X (0:Int).toNat) (b.Y (0:Int).toNat) (i:Int)))]
abbrev aroundE_cd1 (b : Bld) : DV := .lst (b.N (0:Int).toNat) [fun i => (dI (b.X (0:Int).toNat i)), fun i => (dI (b.Y (0:Int).toNat i))]
abbrev aroundE_cr0 (b : Bld) (nB : Nat) (B : Nat → Int) (nO : Nat) (O : Nat → Int) (W : Int) (G : Int) (L : Int) (r : List Prop) : List Prop := (b.roof = b.roof) :: (b.nO = b.nO) :: (∀ i < b.nO, b.O i (0:Nat) = b.O i (0:Nat)) :: (∀ i < b.nO, b.O i (1:Nat) = b.O i (1:Nat)) :: (∀ i < b.nO, b.O i (2:Nat) = b.O i (2:Nat)) :: (∀ i < b.nO, b.O i (3:Nat) = b.O i (3:Nat)) :: (∀ i < b.nO, b.O i (4:Nat) = b.O i (4:Nat)) :: (∀ i < b.nO, b.O i (5:Nat) = b.O i (5:Nat)) :: (b.nB = b.nB) :: (∀ i < b.nB, b.B i (0:Nat) = b.B i (0:Nat)) :: (∀ i < b.nB, b.B i (1:Nat) = b.B i (1:Nat)) :: (∀ i < b.nB, b.B i (2:Nat) = b.B i (2:Nat)) :: (∀ i < b.nB, b.B i (3:Nat) = b.B i (3:Nat)) :: (∀ i < b.nB, b.B i (4:Nat) = b.B i (4:Nat)) :: (∀ i < b.nB, b.B i (5:Nat) = b.B i (5:Nat)) :: (nB = nB) :: (∀ i < nB, B i = B i) :: (nO = nO) :: (∀ i < nO, O i = O i) :: (W = W) :: (G = G) :: (L = L) :: ((↑(Lay.catU nB B nO O W G L) : Int) = (↑(Lay.catU nB B nO O W G L) : Int)) :: (Lay.catN nB B nO O W G L = Lay.catN nB B nO O W G L) :: (∀ i < Lay.catN nB B nO O W G L, Lay.pLen nB B nO O i = Lay.pLen nB B nO O i) :: (∀ i < Lay.catN nB B nO O W G L, Lay.pCode nB i = Lay.pCode nB i) :: (∀ i < Lay.catN nB B nO O W G L, decide (nB ≤ i) = decide (nB ≤ i)) :: (b.N (0:Int).toNat = b.N (0:Int).toNat) :: (∀ i < b.N (0:Int).toNat, b.X (0:Int).toNat i = b.X (0:Int).toNat i) :: (∀ i < b.N (0:Int).toNat, b.Y (0:Int).toNat i = b.Y (0:Int).toNat i) :: (∀ i < b.N (0:Int).toNat, b.X (0:Int).toNat (ix (b.N (0:Int).toNat) ((i:Int) + (1:Int))) = b.X (0:Int).toNat (ix (b.N (0:Int).toNat) ((i:Int) + (1:Int)))) :: (∀ i < b.N
     (0:Int).toNat, b.Y (0:Int).toNat (ix (b.N (0:Int).toNat) ((i:Int) + (1:Int))) = b.Y (0:Int).toNat (ix (b.N (0:Int).toNat) ((i:Int) + (1:Int)))) :: (∀ i < b.N (0:Int).toNat, lenW (b.N (0:Int).toNat) (b.X (0:Int).toNat) (b.Y (0:Int).toNat) (i:Int) = lenW (b.N (0:Int).toNat) (b.X (0:Int).toNat) (b.Y (0:Int).toNat) (i:Int)) :: (∀ i < b.N (0:Int).toNat, dD (b.N (0:Int).toNat) (b.X (0:Int).toNat) (b.Y (0:Int).toNat) (i:Int) = dD (b.N (0:Int).toNat) (b.X (0:Int).toNat) (b.Y (0:Int).toNat) (i:Int)) :: (b.N (0:Int).toNat = b.N (0:Int).toNat) :: (∀ i < b.N (0:Int).toNat, cor (b.N (0:Int).toNat) (b.X (0:Int).toNat) (b.Y (0:Int).toNat) i = cor (b.N (0:Int).toNat) (b.X (0:Int).toNat) (b.Y (0:Int).toNat) i) :: r
abbrev aroundE_cr1 (b : Bld) (r : List Prop) : List Prop := (b.roof = b.roof) :: (b.nO = b.nO) :: (∀ i < b.nO, b.O i (0:Nat) = b.O i (0:Nat)) :: (∀ i < b.nO, b.O i (1:Nat) = b.O i (1:Nat)) :: (∀ i < b.nO, b.O i (2:Nat) = b.O i (2:Nat)) :: (∀ i < b.nO, b.O i (3:Nat) = b.O i (3:Nat)) :: (∀ i < b.nO, b.O i (4:Nat) = b.O i (4:Nat)) :: (∀ i < b.nO, b.O i (5:Nat) = b.O i (5:Nat)) :: (b.nB = b.nB) :: (∀ i < b.nB, b.B i (0:Nat) = b.B i (0:Nat)) :: (∀ i < b.nB, b.B i (1:Nat) = b.B i (1:Nat)) :: (∀ i < b.nB, b.B i (2:Nat) = b.B i (2:Nat)) :: (∀ i < b.nB, b.B i (3:Nat) = b.B i (3:Nat)) :: (∀ i < b.nB, b.B i (4:Nat) = b.B i (4:Nat)) :: (∀ i < b.nB, b.B i (5:Nat) = b.B i (5:Nat)) :: r
abbrev aroundE_cr2 (b : Bld) (r : List Prop) : List Prop := (b.name = b.name) :: (b.nS = b.nS) :: (∀ i < b.nS, b.fl i = b.fl i) :: (∀ i < b.nS, b.N i = b.N i ∧ (∀ i_1 < b.N i, b.X i i_1 = b.X i i_1) ∧ ∀ i_1 < b.N i, b.Y i i_1 = b.Y i i_1) :: r
abbrev aroundE_cr3 (b : Bld) (r : List Prop) : List Prop := (b.name = b.name) :: (b.nS = b.nS) :: (∀ i < b.nS, b.fl i = b.fl i) :: (∀ i < b.nS, b.N i = b.N i ∧ (∀ i_2 < b.N i, b.X i i_2 = b.X i i_2) ∧ ∀ i_2 < b.N i, b.Y i i_2 = b.Y i i_2) :: r
abbrev aroundE_cr4 (b : Bld) (r : List Prop) : List Prop := (b.nB = b.nB) :: (∀ i < b.nB, b.B i (0:Nat) = b.B i (0:Nat)) :: (∀ i < b.nB, b.B i (1:Nat) = b.B i (1:Nat)) :: (∀ i < b.nB, b.B i (2:Nat) = b.B i (2:Nat)) :: (∀ i < b.nB, b.B i (3:Nat) = b.B i (3:Nat)) :: (∀ i < b.nB, b.B i (4:Nat) = b.B i (4:Nat)) :: (∀ i < b.nB, b.B i (5:Nat) = b.B i (5:Nat)) :: ((b.nB:Int) = (b.nB:Int)) :: r
abbrev aroundE_cr5 (nB : Nat) (B : Nat → Int) (nO : Nat) (O : Nat → Int) (W : Int) (G : Int) (L : Int) (r : List Prop) : List Prop := (nB = nB) :: (∀ i < nB, B i = B i) :: (nO = nO) :: (∀ i < nO, O i = O i) :: (W = W) :: (G = G) :: (L = L) :: ((↑(Lay.catU nB B nO O W G L) : Int) = (↑(Lay.catU nB B nO O W G L) : Int)) :: (Lay.catN nB B nO O W G L = Lay.catN nB B nO O W G L) :: (∀ i < Lay.catN nB B nO O W G L, Lay.pLen nB B nO O i = Lay.pLen nB B nO O i) :: (∀ i < Lay.catN nB B nO O W G L, Lay.pCode nB i = Lay.pCode nB i) :: (∀ i < Lay.catN nB B nO O W G L, decide (nB ≤ i) = decide (nB ≤ i)) :: r
abbrev aroundE_cr6 (b : Bld) (r : List Prop) : List Prop := (b.N (0:Int).toNat = b.N (0:Int).toNat) :: (∀ i < b.N (0:Int).toNat, b.X (0:Int).toNat i = b.X (0:Int).toNat i) :: (∀ i < b.N (0:Int).toNat, b.Y (0:Int).toNat i = b.Y (0:Int).toNat i) :: r
theorem aroundE_c (b : Bld) (nB : Nat) (B : Nat → Int) (nO : Nat) (O : Nat → Int) (W G L : Int) (hN : ∀ i, i < b.nS → b.N i ≤ 1000) : FnC prog 49 [bld b, Lay.sys nB B nO O W G L] (.tup [.any, dI (arE b nB B nO O W G L)]) := by
  refine FnC_owed hmix (A43_aroundE_c b nB B nO O W G L) (V := .need [FnC prog 80 [(bld b)] ((dI (chkB b)))] (.ite (chkB b != (0:Int)) (.done [chkB b = arE b nB B nO O W G L]) (.need [FnC prog 81 [.agg [.lst nB [fun i => (dI (B i))], .lst nO [fun i => (dI (O i))], (dI W), (dI G), (dI L)]] (.tup [.agg [(dI (↑(Lay.catU nB B nO O W G L) : Int)), .lst (Lay.catN nB B nO O W G L) [fun i => (dI (Lay.pLen nB B nO O i)), fun i => (dI (Lay.pCode nB i)), fun i => (dB (decide (nB ≤ i)))]], (dI (Lay.sysE nB B nO O W G L))])] (.ite (Lay.sysE nB B nO O W G L != (0:Int)) (.done [Lay.sysE nB B nO O W G L = arE b nB B nO O W G L]) (.ite (decide (b.roof < L)) (.done [(2:Int) = arE b nB B nO O W G L]) (.need [(0:Int) ≤ b.roof ∧ (0:Int) < L ∧ b.roof ≤ (9223372036854775807:Int)] (.ite (decide (b.roof / L > (40:Int))) (.done [(8:Int) = arE b nB B nO O W G L]) (.need [(0:Int) ≤ (0:Int) ∧ (0:Int) < (b.nS:Int)] (.need [i64In (G + W)] (.loop Nat (fun a => a ≤ (2:Nat) ∧ ∀ (j : Nat), j < a → ofE (b.N 0) (b.X 0) (b.Y 0) (gwF G W j) = (0:Int)) (0:Int).toNat (((0:Int) = (↑(0:Int).toNat : Int)) :: (aroundE_cr6 b ((G = G) :: ((G + W = G + W) :: (aroundE_cr2 b (aroundE_cr1 b (aroundE_cr5 nB B nO O W G L []))))))) fun i => .ite (decide ((i:Int) < (2:Int))) (.need [(0:Int) ≤ (i:Int) ∧ (i:Int) < (↑(2:Nat) : Int)] (.need [FnC prog 82 [(aroundE_cd1 b), (dI (List.getD [G, G + W] (i:Int).toNat (0:Int)))] (.tup [.any, (dI (ofE (b.N (0:Int).toNat) (b.X (0:Int).toNat) (b.Y (0:Int).toNat) (List.getD [G, G + W] (i:Int).toNat (0:Int))))])] (.ite (ofE (b.N (0:Int).toNat) (b.X (0:Int).toNat) (b.Y (0:Int).toNat) (List.getD [G, G + W] (i:Int).toNat (0:Int)) != (0:Int)) (.done [(12:Int) = arE b nB B nO O W G L]) (.need [i64In ((i:Int) + (1:Int))] (.done (((i:Int) + (1:Int) = (↑((i:Int) + (1:Int)).toNat : Int)) :: (aroundE_cr6 b ((G = G) :: ((G + W = G + W) ::
     (aroundE_cr2 b (aroundE_cr1 b (aroundE_cr5 nB B nO O W G L [Int.toNat ((i:Int) + (1:Int)) ≤ (2:Nat) ∧ ∀ (j : Nat), j < ((i:Int) + (1:Int)).toNat → ofE (b.N 0) (b.X 0) (b.Y 0) (gwF G W j) = (0:Int), (2:Nat) - ((i:Int) + (1:Int)).toNat < (2:Nat) - i])))))))))))) (.need [FnC prog 83 [(aroundE_cd1 b)] (.tup [(aroundE_cd0 b), (dI (0:Int))])] (.need [FnC prog 84 [(aroundE_cd1 b)] (.tup [.lst (b.N (0:Int).toNat) [fun k => (dI (cor (b.N (0:Int).toNat) (b.X (0:Int).toNat) (b.Y (0:Int).toNat) k))], (dI (0:Int))])] (.ite ((↑(b.N (0:Int).toNat) : Int) != (↑(b.N (0:Int).toNat) : Int)) (.done [(12:Int) = arE b nB B nO O W G L]) (.loop Nat (fun a => a ≤ b.N 0 ∧ ∀ (k : Nat), k < a → ∀ (j : Nat), j < b.nB → ringBad b G W L k j = false) (0:Int).toNat (((0:Int) = (↑(0:Int).toNat : Int)) :: (((↑(b.N (0:Int).toNat) : Int) = (↑(b.N (0:Int).toNat) : Int)) :: (aroundE_cr2 b (aroundE_cr1 b (aroundE_cr2 b (aroundE_cr0 b nB B nO O W G L [])))))) fun i => .ite (decide ((i:Int) < (↑(b.N (0:Int).toNat) : Int))) (.need [FnC prog 85 [.cptr [.val (.string b.name), .lst b.nS [fun i => (dI (b.fl i)), fun i => .lst (b.N i) [fun i_1 => (dI (b.X i i_1)), fun i_1 => (dI (b.Y i i_1))]], (dI b.roof), .lst b.nO [fun i => (dI (b.O i (0:Nat))), fun i => (dI (b.O i (1:Nat))), fun i => (dI (b.O i (2:Nat))), fun i => (dI (b.O i (3:Nat))), fun i => (dI (b.O i (4:Nat))), fun i => (dI (b.O i (5:Nat)))], .lst b.nB [fun i => (dI (b.B i (0:Nat))), fun i => (dI (b.B i (1:Nat))), fun i => (dI (b.B i (2:Nat))), fun i => (dI (b.B i (3:Nat))), fun i => (dI (b.B i (4:Nat))), fun i => (dI (b.B i (5:Nat)))], .lst nB [fun i => (dI (B i))], .lst nO [fun i => (dI (O i))], (dI W), (dI G), (dI L), (dI (↑(Lay.catU nB B nO O W G L) : Int)), .lst (Lay.catN nB B nO O W G L) [fun i => (dI (Lay.pLen nB B nO O i)), fun i => (dI
     (Lay.pCode nB i)), fun i => (dB (decide (nB ≤ i)))], (aroundE_cd0 b), .lst (b.N (0:Int).toNat) [fun k => (dI (cor (b.N (0:Int).toNat) (b.X (0:Int).toNat) (b.Y (0:Int).toNat) k))]], (dI (i:Int)), (dI (1:Int)), (dI (0:Int))] (.val (.agg (Array.mk [.int .i64 (ruX1 (b.N 0) (b.X 0) (b.Y 0) G W (i:Int) (1:Int) (0:Int)), .int .i64 (ruY1 (b.N 0) (b.X 0) (b.Y 0) G W (i:Int) (1:Int) (0:Int)), .int .i64 (0:Int), .int .i64 (ruX2 (b.N 0) (b.X 0) (b.Y 0) G W (i:Int) (1:Int) (0:Int)), .int .i64 (ruY2 (b.N 0) (b.X 0) (b.Y 0) G W (i:Int) (1:Int) (0:Int)), .int .i64 (topH b.roof L)])))] (.loop Nat (fun a => a ≤ b.nB ∧ ∀ (k : Nat), k < a → ringBad b G W L (i:Int).toNat k = false) (0:Int).toNat (((0:Int) = (↑(0:Int).toNat : Int)) :: (((↑(b.N (0:Int).toNat) : Int) = (↑(b.N (0:Int).toNat) : Int)) :: (((i:Int) = (i:Int)) :: (((i:Int) = (i:Int)) :: (aroundE_cr4 b (aroundE_cr2 b (aroundE_cr1 b (aroundE_cr2 b (aroundE_cr0 b nB B nO O W G L [ruX1 (b.N 0) (b.X 0) (b.Y 0) G W (i:Int) (1:Int) (0:Int) = ruX1 (b.N 0) (b.X 0) (b.Y 0) G W (i:Int) (1:Int) (0:Int), ruY1 (b.N 0) (b.X 0) (b.Y 0) G W (i:Int) (1:Int) (0:Int) = ruY1 (b.N 0) (b.X 0) (b.Y 0) G W (i:Int) (1:Int) (0:Int), (0:Int) = (0:Int), ruX2 (b.N 0) (b.X 0) (b.Y 0) G W (i:Int) (1:Int) (0:Int) = ruX2 (b.N 0) (b.X 0) (b.Y 0) G W (i:Int) (1:Int) (0:Int), ruY2 (b.N 0) (b.X 0) (b.Y 0) G W (i:Int) (1:Int) (0:Int) = ruY2 (b.N 0) (b.X 0) (b.Y 0) G W (i:Int) (1:Int) (0:Int), topH b.roof L = topH b.roof L]))))))))) fun i_1 => .ite (decide ((i_1:Int) < (b.nB:Int))) (.need [(0 :
     Int) ≤ (i_1:Int) ∧ (i_1:Int) < (b.nB:Int)] (.need [FnC prog 86 [.val (.agg (Array.mk [.int .i64 (ruX1 (b.N 0) (b.X 0) (b.Y 0) G W (i:Int) (1:Int) (0:Int)), .int .i64 (ruY1 (b.N 0) (b.X 0) (b.Y 0) G W (i:Int) (1:Int) (0:Int)), .int .i64 (0:Int), .int .i64 (ruX2 (b.N 0) (b.X 0) (b.Y 0) G W (i:Int) (1:Int) (0:Int)), .int .i64 (ruY2 (b.N 0) (b.X 0) (b.Y 0) G W (i:Int) (1:Int) (0:Int)), .int .i64 (topH b.roof L)])), .val (.agg (Array.mk [.int .i64 (b.B (i_1:Int).toNat (0:Nat)), .int .i64 (b.B (i_1:Int).toNat (1:Nat)), .int .i64 (b.B (i_1:Int).toNat (2:Nat)), .int .i64 (b.B (i_1:Int).toNat (3:Nat)), .int .i64 (b.B (i_1:Int).toNat (4:Nat)), .int .i64 (b.B (i_1:Int).toNat (5:Nat))]))] (.tup [(dB (isO (ruX1 (b.N 0) (b.X 0) (b.Y 0) G W (i:Int) (1:Int) (0:Int)) (ruY1 (b.N 0) (b.X 0) (b.Y 0) G W (i:Int) (1:Int) (0:Int)) (0:Int) (ruX2 (b.N 0) (b.X 0) (b.Y 0) G W (i:Int) (1:Int) (0:Int)) (ruY2 (b.N 0) (b.X 0) (b.Y 0) G W (i:Int) (1:Int) (0:Int)) (topH b.roof L) (b.B (i_1:Int).toNat (0:Nat)) (b.B (i_1:Int).toNat (1:Nat)) (b.B (i_1:Int).toNat (2:Nat)) (b.B (i_1:Int).toNat (3:Nat)) (b.B (i_1:Int).toNat (4:Nat)) (b.B (i_1:Int).toNat (5:Nat)))), (dI (erB (ruX1 (b.N 0) (b.X 0) (b.Y 0) G W (i:Int) (1:Int) (0:Int)) (ruY1 (b.N 0) (b.X 0) (b.Y 0) G W (i:Int) (1:Int) (0:Int)) (0:Int) (ruX2 (b.N 0) (b.X 0) (b.Y 0) G W (i:Int) (1:Int) (0:Int)) (ruY2 (b.N 0) (b.X 0) (b.Y 0) G W (i:Int) (1:Int) (0:Int)) (topH b.roof L) (b.B (i_1:Int).toNat (0:Nat)) (b.B (Int.toNat
     (i_1:Int)) (1:Nat)) (b.B (i_1:Int).toNat (2:Nat)) (b.B (i_1:Int).toNat (3:Nat)) (b.B (i_1:Int).toNat (4:Nat)) (b.B (i_1:Int).toNat (5:Nat))))])] (.ite (isO (ruX1 (b.N 0) (b.X 0) (b.Y 0) G W (i:Int) (1:Int) (0:Int)) (ruY1 (b.N 0) (b.X 0) (b.Y 0) G W (i:Int) (1:Int) (0:Int)) (0:Int) (ruX2 (b.N 0) (b.X 0) (b.Y 0) G W (i:Int) (1:Int) (0:Int)) (ruY2 (b.N 0) (b.X 0) (b.Y 0) G W (i:Int) (1:Int) (0:Int)) (topH b.roof L) (b.B (i_1:Int).toNat (0:Nat)) (b.B (i_1:Int).toNat (1:Nat)) (b.B (i_1:Int).toNat (2:Nat)) (b.B (i_1:Int).toNat (3:Nat)) (b.B (i_1:Int).toNat (4:Nat)) (b.B (i_1:Int).toNat (5:Nat))) (.done [(12:Int) = arE b nB B nO O W G L]) (.need [i64In ((i_1:Int) + (1:Int))] (.done (((i_1:Int) + (1:Int) = (↑((i_1:Int) + (1:Int)).toNat : Int)) :: (((↑(b.N (0:Int).toNat) : Int) = (↑(b.N (0:Int).toNat) : Int)) :: (((i:Int) = (i:Int)) :: (((i:Int) = (i:Int)) :: (aroundE_cr4 b (aroundE_cr3 b (aroundE_cr1 b (aroundE_cr3 b (aroundE_cr0 b nB B nO O W G L [ruX1 (b.N 0) (b.X 0) (b.Y 0) G W (i:Int) (1:Int) (0:Int) = ruX1 (b.N 0) (b.X 0) (b.Y 0) G W (i:Int) (1:Int) (0:Int), ruY1 (b.N 0) (b.X 0) (b.Y 0) G W (i:Int) (1:Int) (0:Int) = ruY1 (b.N 0) (b.X 0) (b.Y 0) G W (i:Int) (1:Int) (0:Int), (0:Int) = (0:Int), ruX2 (b.N 0) (b.X 0) (b.Y 0) G W (i:Int) (1:Int) (0:Int) = ruX2 (b.N 0) (b.X 0) (b.Y 0) G W (i:Int) (1:Int) (0:Int), ruY2 (b.N 0) (b.X 0) (b.Y 0) G W (i:Int) (1:Int) (0:Int) = ruY2 (b.N 0) (b.X 0) (b.Y 0) G W (i:Int) (1:Int) (0:Int), topH b.roof L
     = topH b.roof L, Int.toNat ((i_1:Int) + (1:Int)) ≤ b.nB ∧ ∀ (k : Nat), k < ((i_1:Int) + (1:Int)).toNat → ringBad b G W L (i:Int).toNat k = false, b.nB - ((i_1:Int) + (1:Int)).toNat < b.nB - i_1])))))))))))))) (.need [i64In ((i:Int) + (1:Int))] (.done (((i:Int) + (1:Int) = (↑((i:Int) + (1:Int)).toNat : Int)) :: (((↑(b.N (0:Int).toNat) : Int) = (↑(b.N (0:Int).toNat) : Int)) :: (aroundE_cr3 b (aroundE_cr1 b (aroundE_cr3 b (aroundE_cr0 b nB B nO O W G L [Int.toNat ((i:Int) + (1:Int)) ≤ b.N 0 ∧ ∀ (k : Nat), k < ((i:Int) + (1:Int)).toNat → ∀ (j : Nat), j < b.nB → ringBad b G W L k j = false, b.N 0 - ((i:Int) + (1:Int)).toNat < b.N 0 - i])))))))))) (.done [(0:Int) = arE b nB B nO O W G L]))))))))))))))) (by kernel_rfl) ?_
  simp only [VT.holds, AllT, aroundE_cd0, aroundE_cd1, aroundE_cr0, aroundE_cr1, aroundE_cr2, aroundE_cr3, aroundE_cr4, aroundE_cr5, aroundE_cr6, Sq]
  refine ⟨check_b b hN, fun h => (ar_1 h).symm, fun hc => ⟨Lay.opened_c nB B nO O W G L, fun h => (ar_2 hc h).symm, fun hs => ?_⟩⟩
  obtain ⟨b1, b2, b3, b4, b5⟩ := b0_ok hc
  obtain ⟨g1, g2, g3⟩ := sys_wgl hs
  have hg := g1
  unfold gwOk at hg
  have hn := chk_n b2
  obtain ⟨hX, hY⟩ := chk_inB b2
  refine ⟨fun h => (ar_3 hc hs h).symm, fun h3 => ⟨by omega, fun h => (ar_4 hc hs h3 h).symm, fun h4 => ⟨by omega, by unfold i64In; omega, rfl, ⟨by omega, fun j hj => absurd hj (Nat.not_lt_zero j)⟩, fun i ⟨hi, hb⟩ => ⟨fun hlt => ?_, fun hge => ?_⟩⟩⟩⟩
  · have hcase : i = 0 ∨ i = 1 := by omega
    have hd : 0 ≤ gwF G W i ∧ gwF G W i ≤ 1000000 := by
      rcases hcase with rfl | rfl
      · show 0 ≤ G ∧ G ≤ 1000000; omega
      · show 0 ≤ G + W ∧ G + W ≤ 1000000; omega
    refine ⟨by omega, offset_c _ _ _ _ b2 hd, fun h => (ar_5 hc hs h3 h4 ?_).symm, fun h => ⟨by unfold i64In; omega, rfl, ⟨by omega, fun j hj => ?_⟩, by omega⟩⟩
    · rcases hcase with rfl | rfl
      · exact .inl h
      · exact .inr h
    · by_cases e : j = i
      · rw [e]; exact h
      · exact hb j (by omega)
  · obtain rfl : i = 2 := by omega
    have e1 : ofE (b.N 0) (b.X 0) (b.Y 0) G = 0 := hb 0 (by omega)
    have e2 : ofE (b.N 0) (b.X 0) (b.Y 0) (G + W) = 0 := hb 1 (by omega)
    have h5 : ¬ (ofE (b.N 0) (b.X 0) (b.Y 0) G ≠ 0 ∨ ofE (b.N 0) (b.X 0) (b.Y 0) (G + W) ≠ 0) := by omega
    refine ⟨walls_k b2, corners_k b2, fun h => absurd trivial h, fun _ => ⟨rfl, ⟨Nat.zero_le _, fun k hk => absurd hk (Nat.not_lt_zero k)⟩, fun i ⟨hi, hb⟩ => ⟨fun hlt => ?_, fun hge => ?_⟩⟩⟩
    · refine ⟨ringBox_c _ _ _ _ _ _ _ _ _ _ _ _ _ _ _ _ _ _ (by omega) (by omega) hX hY g1 (by omega) (by omega) ⟨b3, b4⟩ ⟨g2, g3⟩, rfl, ⟨Nat.zero_le _, fun k hk => absurd hk (Nat.not_lt_zero k)⟩, fun j ⟨hj, hbj⟩ => ⟨fun hlt2 => ?_, fun hge2 => ?_⟩⟩
      · rw [ring_over hc hs h4 e1 e2 (i := i) (j := j) (by omega) (by omega)]
        refine ⟨by omega, ?_, fun h => (ar_6 hc hs h3 h4 h5 (ringOk_no (by omega) (by omega) h)).symm, fun h => ⟨by unfold i64In; omega, rfl, ⟨by omega, fun k hk => ?_⟩, by omega⟩⟩
        · have := overlap_c (ruX1 (b.N 0) (b.X 0) (b.Y 0) G W i 1 0) (ruY1 (b.N 0) (b.X 0) (b.Y 0) G W i 1 0) 0 (ruX2 (b.N 0) (b.X 0) (b.Y 0) G W i 1 0) (ruY2 (b.N 0) (b.X 0) (b.Y 0) G W i 1 0) (topH b.roof L) (b.B j 0) (b.B j 1) (b.B j 2) (b.B j 3) (b.B j 4) (b.B j 5)
          rw [ring_over hc hs h4 e1 e2 (i := i) (j := j) (by omega) (by omega)] at this
          exact this
        · by_cases e : k = j
          · rw [e]; exact h
          · exact hbj k (by omega)
      · refine ⟨by unfold i64In; omega, rfl, ⟨by omega, fun k hk j' hj' => ?_⟩, by omega⟩
        by_cases e : k = i
        · rw [e]; exact hbj j' (by omega)
        · exact hb k (by omega) j' hj'
    · exact (ar_7 hc hs h3 h4 h5 (ringOk_yes fun k hk j hj => hb k (by omega) j hj)).symm
noncomputable def A54_first_c (b : Bld) : Ann := { orc := [], loops := [], cuts := [] }
theorem first_c (b : Bld) (hs : 0 < b.nS) : FnC prog 33 [bld b] (pts (b.N 0) (b.X 0) (b.Y 0)) := by
  refine FnC_owed hmix (A54_first_c b) (V := .need [(0:Int) ≤ (0:Int) ∧ (0:Int) < (b.nS:Int)] (.done [b.N (0:Int).toNat = b.N 0, ∀ i < b.N 0, b.X (0:Int).toNat i = b.X 0 i, ∀ i < b.N 0, b.Y (0:Int).toNat i = b.Y 0 i])) (by kernel_rfl) ?_
  simp only [VT.holds, AllT, Sq]
  omega
noncomputable def A51_ends_c (b : Bld) (nB : Nat) (B : Nat → Int) (nO : Nat) (O : Nat → Int) (W G L f a e : Int) : Ann := { orc := [(1, [(1, rFst b), (2, rWallsR), (4, rFst b), (5, rCorR)]), (3, [(7, .res fun l => dI (reaF G W (aI l 1) (decide (a = 1)))), (19, .pos), (24, .res fun l => dI (reaF G W (aI l 1) (decide (e = 0))))])], loops := [], cuts := [] }
abbrev ends_cd0 (b : Bld) : DV := .lst (b.N 0) [fun i => (dI (b.X 0 i)), fun i => (dI (b.Y 0 i))]
theorem ends_c (b : Bld) (nB : Nat) (B : Nat → Int) (nO : Nat) (O : Nat → Int) (W G L f a e : Int) (hs : 0 < b.nS) (h : chk (b.N 0) (b.X 0) (b.Y 0) = 0) (hg : gwOk G W) (hf : 0 ≤ f ∧ f < b.N 0) (ha : 0 ≤ a ∧ a ≤ 1) (he : 0 ≤ e ∧ e ≤ 1) : FnC prog 67 [bld b, Lay.sys nB B nO O W G L, dI f, dI a, dI e] (.tup [dI (befF (b.N 0) (b.X 0) (b.Y 0) G W f a), dI (behF (b.N 0) (b.X 0) (b.Y 0) G W f e)]) := by
  refine FnC_owed hmix (A51_ends_c b nB B nO O W G L f a e) (V := .need [FnC prog 33 [(bld b)] ((ends_cd0 b)), FnC prog 69 [(ends_cd0 b)] (.lst (b.N 0) [fun i => (dI (b.X 0 i)), fun i => (dI (b.Y 0 i)), fun i => (dI (b.X 0 (ix (b.N 0) ((i:Int) + (1:Int))))), fun i => (dI (b.Y 0 (ix (b.N 0) ((i:Int) + (1:Int))))), fun i => (dI (lenW (b.N 0) (b.X 0) (b.Y 0) (i:Int))), fun i => (dI (dD (b.N 0) (b.X 0) (b.Y 0) (i:Int)))]), FnC prog 33 [(bld b)] ((ends_cd0 b)), FnC prog 102 [(ends_cd0 b)] (.lst (b.N 0) [fun k => (dI (cor (b.N 0) (b.X 0) (b.Y 0) k))])] (.need [(0:Int) ≤ f ∧ f < (↑(b.N 0) : Int), FnC prog 107 [.agg [.lst nB [fun i => (dI (B i))], .lst nO [fun i => (dI (O i))], (dI W), (dI G), (dI L)], (dI (cor (b.N 0) (b.X 0) (b.Y 0) (Int.toNat f))), (dB (a == (1:Int)))] ((dI (reaF G W (cor (b.N 0) (b.X 0) (b.Y 0) (Int.toNat f)) (decide (a = (1:Int)))))), i64In (-reaF G W (cor (b.N 0) (b.X 0) (b.Y 0) (Int.toNat f)) (decide (a = (1:Int)))), (0:Int) ≤ f ∧ f < (↑(b.N 0) : Int), i64In (f + (1:Int)), (0:Int) ≤ f + (1:Int) ∧ (0:Int) < (↑(b.N 0) : Int), (0:Int) ≤ (f + (1:Int)) % (↑(b.N 0) : Int) ∧ (f + (1:Int)) % (↑(b.N 0) : Int) < (↑(b.N 0) : Int), FnC prog 107 [.agg [.lst nB [fun i => (dI (B i))], .lst nO [fun i => (dI (O i))], (dI W), (dI G), (dI L)], (dI (cor (b.N 0) (b.X 0) (b.Y 0) ((f + (1:Int)) % (↑(b.N 0) : Int)).toNat)), (dB (e == (0:Int)))] ((dI (reaF G W (cor (b.N 0) (b.X 0) (b.Y 0) ((f + (1:Int)) % (↑(b.N 0) : Int)).toNat) (decide (e = (0:Int)))))), i64In (lenW (b.N 0) (b.X 0) (b.Y 0) (↑(Int.toNat f) : Int) + reaF G W (cor (b.N 0) (b.X 0) (b.Y 0) ((f + (1 :
     Int)) % (↑(b.N 0) : Int)).toNat) (decide (e = (0:Int))))] (.done [-reaF G W (cor (b.N 0) (b.X 0) (b.Y 0) (Int.toNat f)) (decide (a = (1:Int))) = befF (b.N 0) (b.X 0) (b.Y 0) G W f a, lenW (b.N 0) (b.X 0) (b.Y 0) (↑(Int.toNat f) : Int) + reaF G W (cor (b.N 0) (b.X 0) (b.Y 0) ((f + (1:Int)) % (↑(b.N 0) : Int)).toNat) (decide (e = (0:Int))) = behF (b.N 0) (b.X 0) (b.Y 0) G W f e]))) (by kernel_rfl) ?_
  simp only [VT.holds, AllT, ends_cd0, Sq]
  have hn := chk_n h
  obtain ⟨hX, hY⟩ := chk_inB h
  rw [cor_at hf.1, cor_next (by omega), Int.toNat_of_nonneg hf.1, bef_rea ha, beh_rea he]
  have b1 := bef_bd (n := b.N 0) (X := b.X 0) (Y := b.Y 0) f hg ha
  have b2 := beh_bd f (by omega) hX hY hg he
  have q1 := Int.emod_nonneg (f + 1) (show (b.N 0 : Int) ≠ 0 by omega)
  have q2 := Int.emod_lt_of_pos (f + 1) (show (0:Int) < b.N 0 by omega)
  refine ⟨⟨first_c b hs, wallsR_c _ _ _ h, first_c b hs, cornersR_c _ _ _ h⟩, ⟨hf, ?_, by unfold i64In; omega, hf, by unfold i64In; omega, by omega, ⟨q1, q2⟩, ?_, by unfold i64In; omega⟩, rfl, rfl⟩
  · have := reach_c nB B nO O W G L (corI (b.N 0) (b.X 0) (b.Y 0) f) (decide (a = 1)) hg
    exact this
  · have := reach_c nB B nO O W G L (corI (b.N 0) (b.X 0) (b.Y 0) (f + 1)) (decide (e = 0)) hg
    exact this
noncomputable def A18_runLenR_c (b : Bld) (nB : Nat) (B : Nat → Int) (nO : Nat) (O : Nat → Int) (W G L f a e : Int) : Ann := { orc := [(1, [(5, .res fun _ => .tup [dI (befF (b.N 0) (b.X 0) (b.Y 0) G W f a), dI (behF (b.N 0) (b.X 0) (b.Y 0) G W f e)])])], loops := [], cuts := [] }
theorem runLenR_c (b : Bld) (nB : Nat) (B : Nat → Int) (nO : Nat) (O : Nat → Int) (W G L f a e : Int) (hs : 0 < b.nS) (h : chk (b.N 0) (b.X 0) (b.Y 0) = 0) (hg : gwOk G W) (hf : 0 ≤ f ∧ f < b.N 0) (ha : 0 ≤ a ∧ a ≤ 1) (he : 0 ≤ e ∧ e ≤ 1) : FnC prog 36 [bld b, Lay.sys nB B nO O W G L, dI f, dI a, dI e] (dI (ruL (b.N 0) (b.X 0) (b.Y 0) G W f a e)) := by
  refine FnC_owed hmix (A18_runLenR_c b nB B nO O W G L f a e) (V := .need [FnC prog 67 [(bld b), .agg [.lst nB [fun i => (dI (B i))], .lst nO [fun i => (dI (O i))], (dI W), (dI G), (dI L)], (dI f), (dI a), (dI e)] (.tup [(dI (befF (b.N 0) (b.X 0) (b.Y 0) G W f a)), (dI (behF (b.N 0) (b.X 0) (b.Y 0) G W f e))])] (.need [i64In (behF (b.N 0) (b.X 0) (b.Y 0) G W f e - befF (b.N 0) (b.X 0) (b.Y 0) G W f a)] (.done [behF (b.N 0) (b.X 0) (b.Y 0) G W f e - befF (b.N 0) (b.X 0) (b.Y 0) G W f a = ruL (b.N 0) (b.X 0) (b.Y 0) G W f a e]))) (by kernel_rfl) ?_
  simp only [VT.holds, AllT, Sq]
  have hn := chk_n h
  obtain ⟨hX, hY⟩ := chk_inB h
  have b1 := bef_bd (n := b.N 0) (X := b.X 0) (Y := b.Y 0) f hg ha
  have b2 := beh_bd f (by omega) hX hY hg he
  exact ⟨ends_c b nB B nO O W G L f a e hs h hg hf ha he, by unfold i64In; omega, rfl⟩
noncomputable def A17_runStartR_c (b : Bld) (nB : Nat) (B : Nat → Int) (nO : Nat) (O : Nat → Int) (W G L f a : Int) : Ann := { orc := [(1, [(4, .res fun _ => .tup [dI (befF (b.N 0) (b.X 0) (b.Y 0) G W f a), dI (behF (b.N 0) (b.X 0) (b.Y 0) G W f 0)])]), (2, [(1, rFst b), (2, rWallsR), (9, .res fun _ => dP (atX (b.N 0) (b.X 0) (b.Y 0) f (befF (b.N 0) (b.X 0) (b.Y 0) G W f a) G) (atY (b.N 0) (b.X 0) (b.Y 0) f (befF (b.N 0) (b.X 0) (b.Y 0) G W f a) G))])], loops := [], cuts := [] }
theorem runStartR_c (b : Bld) (nB : Nat) (B : Nat → Int) (nO : Nat) (O : Nat → Int) (W G L f a : Int) (hs : 0 < b.nS) (h : chk (b.N 0) (b.X 0) (b.Y 0) = 0) (hg : gwOk G W) (hf : 0 ≤ f ∧ f < b.N 0) (ha : 0 ≤ a ∧ a ≤ 1) : FnC prog 35 [bld b, Lay.sys nB B nO O W G L, dI f, dI a] (dP (atX (b.N 0) (b.X 0) (b.Y 0) f (befF (b.N 0) (b.X 0) (b.Y 0) G W f a) G) (atY (b.N 0) (b.X 0) (b.Y 0) f (befF (b.N 0) (b.X 0) (b.Y 0) G W f a) G)) := by
  refine FnC_owed hmix (A17_runStartR_c b nB B nO O W G L f a) (V := .need [FnC prog 67 [(bld b), .agg [.lst nB [fun i => (dI (B i))], .lst nO [fun i => (dI (O i))], (dI W), (dI G), (dI L)], (dI f), (dI a), (dI (0:Int))] (.tup [(dI (befF (b.N 0) (b.X 0) (b.Y 0) G W f a)), (dI (behF (b.N 0) (b.X 0) (b.Y 0) G W f (0:Int)))])] (.need [FnC prog 33 [(bld b)] (.lst (b.N 0) [fun i => (dI (b.X 0 i)), fun i => (dI (b.Y 0 i))]), FnC prog 69 [.lst (b.N 0) [fun i => (dI (b.X 0 i)), fun i => (dI (b.Y 0 i))]] (.lst (b.N 0) [fun i => (dI (b.X 0 i)), fun i => (dI (b.Y 0 i)), fun i => (dI (b.X 0 (ix (b.N 0) ((i:Int) + (1:Int))))), fun i => (dI (b.Y 0 (ix (b.N 0) ((i:Int) + (1:Int))))), fun i => (dI (lenW (b.N 0) (b.X 0) (b.Y 0) (i:Int))), fun i => (dI (dD (b.N 0) (b.X 0) (b.Y 0) (i:Int)))]), (0:Int) ≤ f ∧ f < (↑(b.N 0) : Int), FnC prog 68 [.val (.agg (Array.mk [.int .i64 (b.X 0 (Int.toNat f)), .int .i64 (b.Y 0 (Int.toNat f)), .int .i64 (b.X 0 (ix (b.N 0) ((↑(Int.toNat f) : Int) + (1:Int)))), .int .i64 (b.Y 0 (ix (b.N 0) ((↑(Int.toNat f) : Int) + (1:Int)))), .int .i64 (lenW (b.N 0) (b.X 0) (b.Y 0) (↑(Int.toNat f) : Int)), .int .i64 (dD (b.N 0) (b.X 0) (b.Y 0) (↑(Int.toNat f) : Int))])), (dI (befF (b.N 0) (b.X 0) (b.Y 0) G W f a)), (dI G)] (.val (.agg (Array.mk [.int .i64 (atX (b.N 0) (b.X 0) (b.Y 0) f (befF (b.N 0) (b.X 0) (b.Y 0) G W f a) G), .int .i64 (atY (b.N 0) (b.X 0) (b.Y 0) f (befF (b.N 0) (b.X 0) (b.Y 0) G W f a) G)])))] (.done [atX (b.N 0) (b.X 0) (b.Y 0) f (befF (b.N 0) (b.X 0) (b.Y 0) G W f a) G = atX (b.N 0)
     (b.X 0) (b.Y 0) f (befF (b.N 0) (b.X 0) (b.Y 0) G W f a) G, atY (b.N 0) (b.X 0) (b.Y 0) f (befF (b.N 0) (b.X 0) (b.Y 0) G W f a) G = atY (b.N 0) (b.X 0) (b.Y 0) f (befF (b.N 0) (b.X 0) (b.Y 0) G W f a) G]))) (by kernel_rfl) ?_
  simp only [VT.holds, AllT, Sq]
  exact ⟨ends_c b nB B nO O W G L f a 0 hs h hg hf ha (by omega), first_c b hs, wallsR_c _ _ _ h, hf, place_w h hf _ _ (by have := bef_bd (n := b.N 0) (X := b.X 0) (Y := b.Y 0) f hg ha; omega) (by unfold gwOk at hg; omega)⟩
noncomputable def A34_liftsR_c (b : Bld) (nB : Nat) (B : Nat → Int) (nO : Nat) (O : Nat → Int) (W G L : Int) : Ann := { orc := [], loops := [(0, { ι := Nat, keep := [2, 3], boxes := [2, 3], ts := fun _ i => [(6, dI (((i : Int) + 1) * L))], rw := fun _ i => [(5, 1, i, [fun k => dI (((k : Int) + 1) * L)])], inv := fun _ i => (i : Int) * L ≤ b.roof, mu := fun _ i => (b.roof - (i : Int) * L).toNat, rd := fun _ σ => (iOf (σ.get 6) / L - 1).toNat })], cuts := [] }
abbrev liftsR_cr0 (b : Bld) (nB : Nat) (B : Nat → Int) (nO : Nat) (O : Nat → Int) (r : List Prop) : List Prop := (b.name = b.name) :: (b.nS = b.nS) :: (∀ i < b.nS, b.fl i = b.fl i) :: (∀ i < b.nS, b.N i = b.N i ∧ (∀ i_1 < b.N i, b.X i i_1 = b.X i i_1) ∧ ∀ i_1 < b.N i, b.Y i i_1 = b.Y i i_1) :: (b.roof = b.roof) :: (b.nO = b.nO) :: (∀ i < b.nO, b.O i (0:Nat) = b.O i (0:Nat)) :: (∀ i < b.nO, b.O i (1:Nat) = b.O i (1:Nat)) :: (∀ i < b.nO, b.O i (2:Nat) = b.O i (2:Nat)) :: (∀ i < b.nO, b.O i (3:Nat) = b.O i (3:Nat)) :: (∀ i < b.nO, b.O i (4:Nat) = b.O i (4:Nat)) :: (∀ i < b.nO, b.O i (5:Nat) = b.O i (5:Nat)) :: (b.nB = b.nB) :: (∀ i < b.nB, b.B i (0:Nat) = b.B i (0:Nat)) :: (∀ i < b.nB, b.B i (1:Nat) = b.B i (1:Nat)) :: (∀ i < b.nB, b.B i (2:Nat) = b.B i (2:Nat)) :: (∀ i < b.nB, b.B i (3:Nat) = b.B i (3:Nat)) :: (∀ i < b.nB, b.B i (4:Nat) = b.B i (4:Nat)) :: (∀ i < b.nB, b.B i (5:Nat) = b.B i (5:Nat)) :: (nB = nB) :: (∀ i < nB, B i = B i) :: (nO = nO) :: (∀ i < nO, O i = O i) :: r
theorem liftsR_c (b : Bld) (nB : Nat) (B : Nat → Int) (nO : Nat) (O : Nat → Int) (W G L : Int) (hr : 0 ≤ b.roof ∧ b.roof ≤ 1000000) (hL : 1 ≤ L ∧ L ≤ 10000) : FnC prog 106 [bld b, Lay.sys nB B nO O W G L] (Lay.nums (b.roof / L).toNat (fun k => ((k : Int) + 1) * L)) := by
  refine FnC_owed hmix (A34_liftsR_c b nB B nO O W G L) (V := .loop Nat (fun a => (a:Int) * L ≤ b.roof) (L / L - (1:Int)).toNat ((L = ((↑(L / L - (1:Int)).toNat : Int) + (1:Int)) * L) :: (((0:Nat) = (0:Nat)) :: ((Int.toNat (L / L - (1:Int)) = (0:Nat)) :: ((Int.toNat (L / L - (1:Int)) = (0:Nat)) :: (liftsR_cr0 b nB B nO O [W = W, G = G, L = L]))))) fun i => .ite (decide (((i:Int) + (1:Int)) * L ≤ b.roof)) (.need [i ≤ i, (i + (1:Nat)) * (nat_lit 7 + (1:Nat)) ≤ (140737488355328:Nat), (1:Nat) ≤ (1:Nat)] (.need [i64In (((i:Int) + (1:Int)) * L + L)] (.done ((((i:Int) + (1:Int)) * L + L = ((↑((((i:Int) + (1:Int)) * L + L) / L - (1:Int)).toNat : Int) + (1:Int)) * L) :: (((0:Nat) = (0:Nat)) :: ((i + (1:Nat) = ((((i:Int) + (1:Int)) * L + L) / L - (1:Int)).toNat) :: ((i + (1:Nat) = ((((i:Int) + (1:Int)) * L + L) / L - (1:Int)).toNat) :: ((∀ i_1 < ((((i:Int) + (1:Int)) * L + L) / L - (1:Int)).toNat, (if decide (i_1 < i) = true then ((i_1:Int) + (1:Int)) * L else ((i:Int) + (1:Int)) * L) = ((i_1:Int) + (1:Int)) * L) :: (liftsR_cr0 b nB B nO O [W = W, G = G, L = L, (↑((((i:Int) + (1:Int)) * L + L) / L - (1:Int)).toNat : Int) * L ≤ b.roof, Int.toNat (b.roof - (↑((((i:Int) + (1:Int)) * L + L) / L - (1:Int)).toNat : Int) * L) < (b.roof - (i:Int) * L).toNat]))))))))) (.done [i ≤ i, i = (b.roof / L).toNat, ∀ i < (b.roof / L).toNat, ((i:Int) + (1:Int)) * L = ((i:Int) + (1:Int)) * L])) (by kernel_rfl) ?_
  simp only [VT.holds, AllT, liftsR_cr0, Sq]
  have hd : ∀ i : Nat, (((i : Int) + 1) * L + L) / L - 1 = (i : Int) + 1 := fun i => by
    rw [show ((i : Int) + 1) * L + L = ((i : Int) + 2) * L by rw [show (i : Int) + 2 = i + 1 + 1 by omega, Int.add_mul (i + 1 : Int) 1, Int.one_mul], Int.mul_ediv_cancel _ (by omega)]
    omega
  have h0 : L / L - 1 = 0 := by rw [Int.ediv_self (by omega)]; rfl
  simp only [hd, h0]
  refine ⟨⟨by simp, rfl, rfl⟩, by simp; omega, fun i hi => ⟨fun h1 => ?_, fun h1 => ?_⟩⟩
  · have e : ((i : Int) + 1) * L + L = ((i : Int) + 1 + 1) * L := by rw [Int.add_mul (i + 1 : Int) 1, Int.one_mul]
    have e2 : (((i : Int) + 1).toNat : Int) = i + 1 := by omega
    have e3 : ((i : Int) + 1).toNat = i + 1 := by omega
    have hb : ((i : Int) + 1) * L = i * L + L := by rw [Int.add_mul, Int.one_mul]
    have hi1 : (i : Int) ≤ (i : Int) * L := by
      have := Int.mul_le_mul_of_nonneg_left (show (1:Int) ≤ L by omega) (show (0:Int) ≤ i by omega)
      omega
    rw [e3]
    refine ⟨⟨Nat.le_refl _, by omega, Nat.le_refl _⟩, by unfold i64In; omega, by rw [e]; rfl, rfl, rfl, last_if (f := fun k => ((k : Int) + 1) * L) rfl, ?_, ?_⟩
    · show ((i : Int) + 1) * L ≤ _
      omega
    · have e4 : ((i + 1 : Nat) : Int) * L = (i : Int) * L + L := by rw [← hb]; rfl
      rw [e4]; omega
  · refine ⟨Nat.le_refl _, ?_⟩
    have : b.roof / L = i := by
      have u1 := (Int.le_ediv_iff_mul_le (show 0 < L by omega)).2 hi
      have u2 := (Int.ediv_lt_iff_lt_mul (show 0 < L by omega)).2 (show b.roof < ((i : Int) + 1) * L by omega)
      omega
    rw [this]; rfl
noncomputable def A69_boxR_c (b : Bld) (nB : Nat) (B : Nat → Int) (nO : Nat) (O : Nat → Int) (W G L f a e : Int) : Ann := { orc := [(1, [(5, .res fun _ => .tup [dI (befF (b.N 0) (b.X 0) (b.Y 0) G W f a), dI (behF (b.N 0) (b.X 0) (b.Y 0) G W f e)])]), (2, [(1, rFst b), (2, rWallsR)]), (3, [(4, .res fun _ => dP (atX (b.N 0) (b.X 0) (b.Y 0) f (befF (b.N 0) (b.X 0) (b.Y 0) G W f a) G) (atY (b.N 0) (b.X 0) (b.Y 0) f (befF (b.N 0) (b.X 0) (b.Y 0) G W f a) G)), (12, .res fun _ => dP (atX (b.N 0) (b.X 0) (b.Y 0) f (behF (b.N 0) (b.X 0) (b.Y 0) G W f e) (G + W)) (atY (b.N 0) (b.X 0) (b.Y 0) f (behF (b.N 0) (b.X 0) (b.Y 0) G W f e) (G + W)))]), (4, [(2, .res fun _ => Lay.nums (b.roof / L).toNat (fun k => ((k : Int) + 1) * L))])], loops := [], cuts := [] }
abbrev boxR_cd0 (b : Bld) (f : Int) : DV := .val (.agg (Array.mk [.int .i64 (b.X 0 (Int.toNat f)), .int .i64 (b.Y 0 (Int.toNat f)), .int .i64 (b.X 0 (ix (b.N 0) ((↑(Int.toNat f) : Int) + (1:Int)))), .int .i64 (b.Y 0 (ix (b.N 0) ((↑(Int.toNat f) : Int) + (1:Int)))), .int .i64 (lenW (b.N 0) (b.X 0) (b.Y 0) (↑(Int.toNat f) : Int)), .int .i64 (dD (b.N 0) (b.X 0) (b.Y 0) (↑(Int.toNat f) : Int))]))
theorem boxR_c (b : Bld) (nB : Nat) (B : Nat → Int) (nO : Nat) (O : Nat → Int) (W G L f a e : Int) (hs : 0 < b.nS) (h : chk (b.N 0) (b.X 0) (b.Y 0) = 0) (hg : gwOk G W) (hf : 0 ≤ f ∧ f < b.N 0) (ha : 0 ≤ a ∧ a ≤ 1) (he : 0 ≤ e ∧ e ≤ 1) (hr : 0 ≤ b.roof ∧ b.roof ≤ 1000000) (hL : 1 ≤ L ∧ L ≤ 10000) (hrl : L ≤ b.roof) : FnC prog 66 [bld b, Lay.sys nB B nO O W G L, dI f, dI a, dI e] (bx (ruX1 (b.N 0) (b.X 0) (b.Y 0) G W f a e) (ruY1 (b.N 0) (b.X 0) (b.Y 0) G W f a e) 0 (ruX2 (b.N 0) (b.X 0) (b.Y 0) G W f a e) (ruY2 (b.N 0) (b.X 0) (b.Y 0) G W f a e) (topH b.roof L)) := by
  refine FnC_owed hmix (A69_boxR_c b nB B nO O W G L f a e) (V := .need [FnC prog 67 [(bld b), .agg [.lst nB [fun i => (dI (B i))], .lst nO [fun i => (dI (O i))], (dI W), (dI G), (dI L)], (dI f), (dI a), (dI e)] (.tup [(dI (befF (b.N 0) (b.X 0) (b.Y 0) G W f a)), (dI (behF (b.N 0) (b.X 0) (b.Y 0) G W f e))])] (.need [FnC prog 33 [(bld b)] (.lst (b.N 0) [fun i => (dI (b.X 0 i)), fun i => (dI (b.Y 0 i))]), FnC prog 69 [.lst (b.N 0) [fun i => (dI (b.X 0 i)), fun i => (dI (b.Y 0 i))]] (.lst (b.N 0) [fun i => (dI (b.X 0 i)), fun i => (dI (b.Y 0 i)), fun i => (dI (b.X 0 (ix (b.N 0) ((i:Int) + (1:Int))))), fun i => (dI (b.Y 0 (ix (b.N 0) ((i:Int) + (1:Int))))), fun i => (dI (lenW (b.N 0) (b.X 0) (b.Y 0) (i:Int))), fun i => (dI (dD (b.N 0) (b.X 0) (b.Y 0) (i:Int)))]), (0:Int) ≤ f ∧ f < (↑(b.N 0) : Int)] (.need [FnC prog 68 [(boxR_cd0 b f), (dI (befF (b.N 0) (b.X 0) (b.Y 0) G W f a)), (dI G)] (.val (.agg (Array.mk [.int .i64 (atX (b.N 0) (b.X 0) (b.Y 0) f (befF (b.N 0) (b.X 0) (b.Y 0) G W f a) G), .int .i64 (atY (b.N 0) (b.X 0) (b.Y 0) f (befF (b.N 0) (b.X 0) (b.Y 0) G W f a) G)]))), i64In (G + W), FnC prog 68 [(boxR_cd0 b f), (dI (behF (b.N 0) (b.X 0) (b.Y 0) G W f e)), (dI (G + W))] (.val (.agg (Array.mk [.int .i64 (atX (b.N 0) (b.X 0) (b.Y 0) f (behF (b.N 0) (b.X 0) (b.Y 0) G W f e) (G + W)), .int .i64 (atY (b.N 0) (b.X 0) (b.Y 0) f (behF (b.N 0) (b.X 0) (b.Y 0) G W f e) (G + W))])))] (.need [FnC prog 106 [(bld b), .agg [.lst nB [fun i => (dI (B i))], .lst nO [fun i => (dI (O i))], (dI W), (dI G), (dI L)]] (.lst (b.roof /
     L).toNat [fun i => (dI (((i:Int) + (1:Int)) * L))])] (.need [i64In ((↑(b.roof / L).toNat : Int) - (1:Int)), (0:Int) ≤ (↑(b.roof / L).toNat : Int) - (1:Int) ∧ (↑(b.roof / L).toNat : Int) - (1:Int) < (↑(b.roof / L).toNat : Int), i64In (((↑((↑(b.roof / L).toNat : Int) - (1:Int)).toNat : Int) + (1:Int)) * L + L)] (.done [mins (atX (b.N 0) (b.X 0) (b.Y 0) f (befF (b.N 0) (b.X 0) (b.Y 0) G W f a) G) [atX (b.N 0) (b.X 0) (b.Y 0) f (behF (b.N 0) (b.X 0) (b.Y 0) G W f e) (G + W)] = ruX1 (b.N 0) (b.X 0) (b.Y 0) G W f a e, mins (atY (b.N 0) (b.X 0) (b.Y 0) f (befF (b.N 0) (b.X 0) (b.Y 0) G W f a) G) [atY (b.N 0) (b.X 0) (b.Y 0) f (behF (b.N 0) (b.X 0) (b.Y 0) G W f e) (G + W)] = ruY1 (b.N 0) (b.X 0) (b.Y 0) G W f a e, (0:Int) = (0:Int), maxs (atX (b.N 0) (b.X 0) (b.Y 0) f (befF (b.N 0) (b.X 0) (b.Y 0) G W f a) G) [atX (b.N 0) (b.X 0) (b.Y 0) f (behF (b.N 0) (b.X 0) (b.Y 0) G W f e) (G + W)] = ruX2 (b.N 0) (b.X 0) (b.Y 0) G W f a e, maxs (atY (b.N 0) (b.X 0) (b.Y 0) f (befF (b.N 0) (b.X 0) (b.Y 0) G W f a) G) [atY (b.N 0) (b.X 0) (b.Y 0) f (behF (b.N 0) (b.X 0) (b.Y 0) G W f e) (G + W)] = ruY2 (b.N 0) (b.X 0) (b.Y 0) G W f a e, ((↑((↑(b.roof / L).toNat : Int) - (1:Int)).toNat : Int) + (1:Int)) * L + L = topH b.roof L])))))) (by kernel_rfl) ?_
  simp only [VT.holds, AllT, boxR_cd0, Sq]
  have hn := chk_n h
  obtain ⟨hX, hY⟩ := chk_inB h
  have b1 := bef_bd (n := b.N 0) (X := b.X 0) (Y := b.Y 0) f hg ha
  have b2 := beh_bd f (by omega) hX hY hg he
  have hg' := hg
  obtain ⟨g1, g2, g3, g4⟩ := hg'
  obtain ⟨t1, t2, t3, t4⟩ := top_bd hr hL
  have t5 : 1 ≤ b.roof / L := (Int.le_ediv_iff_mul_le (by omega)).2 (by omega)
  have e1 : ((b.roof / L).toNat : Int) = b.roof / L := by omega
  have e2 : (((b.roof / L).toNat : Int) - 1).toNat = (b.roof / L - 1).toNat := by omega
  have e3 : ((((b.roof / L).toNat : Int) - 1).toNat : Int) + 1 = b.roof / L := by omega
  have e4 : b.roof / L * L + L = topH b.roof L := by rw [topH, Int.add_mul, Int.one_mul]
  rw [e3, e4]
  exact ⟨ends_c b nB B nO O W G L f a e hs h hg hf ha he, ⟨first_c b hs, wallsR_c _ _ _ h, hf⟩, ⟨place_w h hf _ _ (by omega) (by omega), by unfold i64In; omega, place_w h hf _ _ (by omega) (by omega)⟩, liftsR_c b nB B nO O W G L hr hL, ⟨by unfold i64In; omega, by omega, by unfold i64In; omega⟩, mins1 _ _, mins1 _ _, maxs1 _ _, maxs1 _ _, rfl⟩
noncomputable def A46_checkRingR_c (b : Bld) (nB : Nat) (B : Nat → Int) (nO : Nat) (O : Nat → Int) (W G L : Int) : Ann := { orc := [(1, [(1, rChkB b)]), (4, [(1, .res fun _ => dI (Lay.sysE nB B nO O W G L))]), (9, [(4, .pos)]), (11, [(1, rFst b), (4, rOfs)]), (12, [(1, rFst b), (7, rOfs)]), (16, [(2, rFst b)]), (18, [(3, .res fun l => dI (ruL (b.N 0) (b.X 0) (b.Y 0) G W (aI l 2) 1 0)), (10, .res fun l => bx (ruX1 (b.N 0) (b.X 0) (b.Y 0) G W (aI l 2) 1 0) (ruY1 (b.N 0) (b.X 0) (b.Y 0) G W (aI l 2) 1 0) 0 (ruX2 (b.N 0) (b.X 0) (b.Y 0) G W (aI l 2) 1 0) (ruY2 (b.N 0) (b.X 0) (b.Y 0) G W (aI l 2) 1 0) (topH b.roof L)), (11, .res fun l => dI (firstI (okI b (fI 0 (arg l 1)) (fI 1 (arg l 1)) (fI 2 (arg l 1)) (fI 3 (arg l 1)) (fI 4 (arg l 1)) (fI 5 (arg l 1))) b.nB))])], loops := [(0, { ι := Nat, keep := [2, 3], boxes := [2, 3], ts := fun _ i => [(11, dI (i : Int))], inv := fun _ i => i ≤ b.N 0 ∧ ∀ k, k < i → ∀ j, j < b.nB → ringBad b G W L k j = false, mu := fun _ i => b.N 0 - i, rd := fun _ σ => (iOf (σ.get 11)).toNat })], cuts := [] }
abbrev q_checkRingR_c_0 (b : Bld) (G : Int) : Bool := !ofE (b.N 0) (b.X 0) (b.Y 0) G != (0:Int)
abbrev q_checkRingR_c_1 (b : Bld) (G : Int) (W : Int) (i : Nat) : Bool := decide (ruL (b.N 0) (b.X 0) (b.Y 0) G W (i:Int) (1:Int) (0:Int) > (0:Int))
abbrev checkRingR_cd0 (b : Bld) : DV := .lst (b.N 0) [fun i => (dI (b.X 0 i)), fun i => (dI (b.Y 0 i))]
abbrev checkRingR_cr0 (b : Bld) (nB : Nat) (B : Nat → Int) (nO : Nat) (O : Nat → Int) (r : List Prop) : List Prop := (b.name = b.name) :: (b.nS = b.nS) :: (∀ i < b.nS, b.fl i = b.fl i) :: (∀ i < b.nS, b.N i = b.N i ∧ (∀ i_1 < b.N i, b.X i i_1 = b.X i i_1) ∧ ∀ i_1 < b.N i, b.Y i i_1 = b.Y i i_1) :: (b.roof = b.roof) :: (b.nO = b.nO) :: (∀ i < b.nO, b.O i (0:Nat) = b.O i (0:Nat)) :: (∀ i < b.nO, b.O i (1:Nat) = b.O i (1:Nat)) :: (∀ i < b.nO, b.O i (2:Nat) = b.O i (2:Nat)) :: (∀ i < b.nO, b.O i (3:Nat) = b.O i (3:Nat)) :: (∀ i < b.nO, b.O i (4:Nat) = b.O i (4:Nat)) :: (∀ i < b.nO, b.O i (5:Nat) = b.O i (5:Nat)) :: (b.nB = b.nB) :: (∀ i < b.nB, b.B i (0:Nat) = b.B i (0:Nat)) :: (∀ i < b.nB, b.B i (1:Nat) = b.B i (1:Nat)) :: (∀ i < b.nB, b.B i (2:Nat) = b.B i (2:Nat)) :: (∀ i < b.nB, b.B i (3:Nat) = b.B i (3:Nat)) :: (∀ i < b.nB, b.B i (4:Nat) = b.B i (4:Nat)) :: (∀ i < b.nB, b.B i (5:Nat) = b.B i (5:Nat)) :: (nB = nB) :: (∀ i < nB, B i = B i) :: (nO = nO) :: (∀ i < nO, O i = O i) :: r
theorem checkRingR_c (b : Bld) (nB : Nat) (B : Nat → Int) (nO : Nat) (O : Nat → Int) (W G L : Int) (hN : ∀ i, i < b.nS → b.N i ≤ 1000) : FnC prog 32 [bld b, Lay.sys nB B nO O W G L] (dI (arE b nB B nO O W G L)) := by
  refine FnC_owed hmix (A46_checkRingR_c b nB B nO O W G L) (V := .need [FnC prog 62 [(bld b)] ((dI (chkB b)))] (.ite (chkB b != (0:Int)) (.done [chkB b = arE b nB B nO O W G L]) (.need [FnC prog 63 [.agg [.lst nB [fun i => (dI (B i))], .lst nO [fun i => (dI (O i))], (dI W), (dI G), (dI L)]] ((dI (Lay.sysE nB B nO O W G L)))] (.ite (Lay.sysE nB B nO O W G L != (0:Int)) (.done [Lay.sysE nB B nO O W G L = arE b nB B nO O W G L]) (.ite (decide (b.roof < L)) (.done [(2:Int) = arE b nB B nO O W G L]) (.need [(0:Int) ≤ b.roof ∧ (0:Int) < L ∧ b.roof ≤ (9223372036854775807:Int)] (.ite (decide (b.roof / L > (40:Int))) (.done [(8:Int) = arE b nB B nO O W G L]) (.need [FnC prog 33 [(bld b)] ((checkRingR_cd0 b)), FnC prog 64 [(checkRingR_cd0 b), (dI G)] (.tup [.any, (dI (ofE (b.N 0) (b.X 0) (b.Y 0) G))])] (.need [FnC prog 33 [(bld b)] ((checkRingR_cd0 b)), i64In (G + W), FnC prog 64 [(checkRingR_cd0 b), (dI (G + W))] (.tup [.any, (dI (ofE (b.N 0) (b.X 0) (b.Y 0) (G + W)))])] (.need [(q_checkRingR_c_0 b G) = true → (q_checkRingR_c_0 b G) = true, (ofE (b.N 0) (b.X 0) (b.Y 0) G != (0:Int)) = false → (q_checkRingR_c_0 b G) = true] (.ite (if (ofE (b.N 0) (b.X 0) (b.Y 0) G != (0:Int)) = true then true else ofE (b.N 0) (b.X 0) (b.Y 0) (G + W) != (0:Int)) (.done [(12:Int) = arE b nB B nO O W G L]) (.loop Nat (fun a => a ≤ b.N 0 ∧ ∀ (k : Nat), k < a → ∀ (j : Nat), j < b.nB → ringBad b G W L k j = false) (0:Int).toNat (((0:Int) = (↑(0:Int).toNat : Int)) :: (checkRingR_cr0 b nB B nO O [W = W, G = G, L = L])) fun i => .need [FnC prog 33 [(bld b)] ((checkRingR_cd0 b))] (.ite (decide ((i:Int) < (↑(b.N 0) : Int))) (.need [FnC prog 36 [(bld b), .agg [.lst nB [fun i => (dI (B i))], .lst nO [fun i => (dI (O i))], (dI W), (dI G), (dI L)], (dI (i:Int)), (dI (1:Int)), (dI (0:Int))] ((dI (ruL (b.N 0) (b.X (0 :
     Nat)) (b.Y 0) G W (i:Int) (1:Int) (0:Int)))), (q_checkRingR_c_1 b G W i) = true → (q_checkRingR_c_1 b G W i) = true, (q_checkRingR_c_1 b G W i) = true → (q_checkRingR_c_1 b G W i) = true, (q_checkRingR_c_1 b G W i) = true → (q_checkRingR_c_1 b G W i) = true, (q_checkRingR_c_1 b G W i) = true → FnC prog 66 [(bld b), .agg [.lst nB [fun i => (dI (B i))], .lst nO [fun i => (dI (O i))], (dI W), (dI G), (dI L)], (dI (i:Int)), (dI (1:Int)), (dI (0:Int))] (.val (.agg (Array.mk [.int .i64 (ruX1 (b.N 0) (b.X 0) (b.Y 0) G W (i:Int) (1:Int) (0:Int)), .int .i64 (ruY1 (b.N 0) (b.X 0) (b.Y 0) G W (i:Int) (1:Int) (0:Int)), .int .i64 (0:Int), .int .i64 (ruX2 (b.N 0) (b.X 0) (b.Y 0) G W (i:Int) (1:Int) (0:Int)), .int .i64 (ruY2 (b.N 0) (b.X 0) (b.Y 0) G W (i:Int) (1:Int) (0:Int)), .int .i64 (topH b.roof L)]))), (q_checkRingR_c_1 b G W i) = true → (q_checkRingR_c_1 b G W i) = true, (q_checkRingR_c_1 b G W i) = true → (q_checkRingR_c_1 b G W i) = true, (q_checkRingR_c_1 b G W i) = true → FnC prog 65 [(bld b), .val (.agg (Array.mk [.int .i64 (ruX1 (b.N 0) (b.X 0) (b.Y 0) G W (i:Int) (1:Int) (0:Int)), .int .i64 (ruY1 (b.N 0) (b.X 0) (b.Y 0) G W (i:Int) (1:Int) (0:Int)), .int .i64 (0:Int), .int .i64 (ruX2 (b.N 0) (b.X 0) (b.Y 0) G W (i:Int) (1:Int) (0:Int)), .int .i64 (ruY2 (b.N 0) (b.X 0) (b.Y 0) G W (i:Int) (1:Int) (0:Int)), .int .i64 (topH b.roof L)]))] ((dI (firstI (okI b (ruX1 (b.N 0) (b.X 0) (b.Y 0) G W (i:Int) (1:Int) (0:Int)) (ruY1 (b.N 0) (b.X 0) (b.Y 0) G W (i:Int) (1:Int) (0:Int)) (0:Int) (ruX2 (b.N 0) (b.X 0) (b.Y 0) G W (i:Int) (1:Int) (0:Int)) (ruY2 (b.N 0) (b.X 0) (b.Y 0)
     G W (i:Int) (1:Int) (0:Int)) (topH b.roof L)) b.nB))), (q_checkRingR_c_1 b G W i) = true → (q_checkRingR_c_1 b G W i) = true, (q_checkRingR_c_1 b G W i) = true → (q_checkRingR_c_1 b G W i) = true] (.ite (if (q_checkRingR_c_1 b G W i) = true then decide (firstI (okI b (ruX1 (b.N 0) (b.X 0) (b.Y 0) G W (i:Int) (1:Int) (0:Int)) (ruY1 (b.N 0) (b.X 0) (b.Y 0) G W (i:Int) (1:Int) (0:Int)) (0:Int) (ruX2 (b.N 0) (b.X 0) (b.Y 0) G W (i:Int) (1:Int) (0:Int)) (ruY2 (b.N 0) (b.X 0) (b.Y 0) G W (i:Int) (1:Int) (0:Int)) (topH b.roof L)) b.nB ≥ (0:Int)) else false) (.done [(12:Int) = arE b nB B nO O W G L]) (.need [i64In ((i:Int) + (1:Int))] (.done (((i:Int) + (1:Int) = (↑((i:Int) + (1:Int)).toNat : Int)) :: (checkRingR_cr0 b nB B nO O [W = W, G = G, L = L, Int.toNat ((i:Int) + (1:Int)) ≤ b.N 0 ∧ ∀ (k : Nat), k < ((i:Int) + (1:Int)).toNat → ∀ (j : Nat), j < b.nB → ringBad b G W L k j = false, b.N 0 - ((i:Int) + (1:Int)).toNat < b.N 0 - i])))))) (.done [(0:Int) = arE b nB B nO O W G L])))))))))))))) (by kernel_rfl) ?_
  simp only [q_checkRingR_c_0, q_checkRingR_c_1, VT.holds, AllT, Sq]
  refine ⟨checkR_b b hN, fun h => (ar_1 h).symm, fun hc => ⟨Lay.systemR_c nB B nO O W G L, fun h => (ar_2 hc h).symm, fun hs => ?_⟩⟩
  obtain ⟨b1, b2, b3, b4, b5⟩ := b0_ok hc
  obtain ⟨g1, g2, g3⟩ := sys_wgl hs
  have hg := g1
  unfold gwOk at hg
  have hn := chk_n b2
  refine ⟨fun h => (ar_3 hc hs h).symm, fun h3 => ⟨by omega, fun h => (ar_4 hc hs h3 h).symm, fun h4 => ⟨⟨first_c b b1, offsetR_c _ _ _ _ b2 (by omega)⟩, ⟨first_c b b1, by unfold i64In; omega, offsetR_c _ _ _ _ b2 (by omega)⟩, fun h => (ar_5 hc hs h3 h4 h).symm, fun h => ?_⟩⟩⟩
  have e1 : ofE (b.N 0) (b.X 0) (b.Y 0) G = 0 := by omega
  have e2 : ofE (b.N 0) (b.X 0) (b.Y 0) (G + W) = 0 := by omega
  have h5 : ¬ (ofE (b.N 0) (b.X 0) (b.Y 0) G ≠ 0 ∨ ofE (b.N 0) (b.X 0) (b.Y 0) (G + W) ≠ 0) := by omega
  obtain ⟨a1, c1⟩ := of_zero e1
  obtain ⟨a2, c2⟩ := of_zero e2
  refine ⟨rfl, ⟨Nat.zero_le _, fun k hk => absurd hk (Nat.not_lt_zero k)⟩, fun i ⟨hi, hb⟩ => ⟨first_c b b1, fun hlt => ?_, fun hge => ?_⟩⟩
  · have hp := run_pos (w := W) a1 a2 (by omega) (by omega) (i := i) (by omega)
    refine ⟨⟨runLenR_c b nB B nO O W G L i 1 0 b1 b2 g1 (by omega) (by omega) (by omega), fun _ => boxR_c b nB B nO O W G L i 1 0 b1 b2 g1 (by omega) (by omega) (by omega) ⟨b3, b4⟩ ⟨g2, g3⟩ (by omega), fun _ => forbR_c b _ _ _ _ _ _ (by omega)⟩, fun ⟨_, h⟩ => ?_, fun h => ?_⟩
    · obtain ⟨j, hj, hx⟩ := firstI_pos h
      exact (ar_6 hc hs h3 h4 h5 (ringOk_no (by omega) hj hx)).symm
    · have hx := firstI_neg (h hp)
      refine ⟨by unfold i64In; omega, rfl, ⟨by omega, fun k hk j hj => ?_⟩, by omega⟩
      by_cases e : k = i
      · rw [e]; exact hx j hj
      · exact hb k (by omega) j hj
  · exact (ar_7 hc hs h3 h4 h5 (ringOk_yes fun k hk j hj => hb k (by omega) j hj)).symm
end Go.Abs
end
