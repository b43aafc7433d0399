/- Contracts. Contracts. -/
import Derived.Test.YteennpofimiliaaGreatDoorK16
section
set_option linter.unusedVariables false
set_option linter.unusedSimpArgs false
set_option maxRecDepth 100000
namespace Go.Abs
open Go
def sqX (x1 x2 : Int) (i : Nat) : Int := [x1, x2, x2, x1].getD i 0
def sqY (y1 y2 : Int) (i : Nat) : Int := [y1, y1, y2, y2].getD i 0
def metS (n : Nat) (X Y : Nat → Int) (x1 x2 y1 y2 : Int) : Bool := metF n X Y 4 (sqX x1 x2) (sqY y1 y2)
def rMetS : Orc := .res fun l => dB (metS (aN l) (aX l) (aY l) (aI l 1) (aI l 2) (aI l 3) (aI l 4))
def blkAt (b : Bld) (x1 y1 z1 x2 y2 z2 : Int) (i : Nat) : Bool := decide (max (b.fl i) z1 < min (topF b i) z2) && metS (b.N i) (b.X i) (b.Y i) x1 x2 y1 y2
def blkF (b : Bld) (x1 y1 z1 x2 y2 z2 : Int) : Bool := !decide (∀ i, i < b.nS → blkAt b x1 y1 z1 x2 y2 z2 i = false)
def outsOk (b : Bld) : Prop := ∀ i, i < b.nS → chk (b.N i) (b.X i) (b.Y i) = 0
theorem ckB_zero {a b c d e f : Int} (h : ckB a b c d e f = 0) : (-1000000 ≤ a ∧ a ≤ 1000000) ∧ (-1000000 ≤ b ∧ b ≤ 1000000) ∧ (-1000000 ≤ c ∧ c ≤ 1000000) ∧ (-1000000 ≤ d ∧ d ≤ 1000000) ∧ (-1000000 ≤ e ∧ e ≤ 1000000) ∧ (-1000000 ≤ f ∧ f ≤ 1000000) ∧ a < d ∧ b < e ∧ c < f := by
  unfold ckB at h
  split at h
  · cases h
  · rename_i h1
    split at h
    · cases h
    · rename_i h2
      have h3 := Decidable.not_not.1 h1
      simp only [inF, decide_eq_true_eq] at h3
      omega
theorem sq_in {a b : Int} (ha : -1000000 ≤ a ∧ a ≤ 1000000) (hb : -1000000 ≤ b ∧ b ≤ 1000000) : inB 4 (sqX a b) ∧ inB 4 (sqY a b) := by
  constructor
  all_goals
    intro k hk
    match k, hk with
    | 0, _ => first | exact ha | exact hb
    | 1, _ => first | exact ha | exact hb
    | 2, _ => first | exact ha | exact hb
    | 3, _ => first | exact ha | exact hb
theorem has_sq (x1 x2 y1 y2 x y : Int) (hx : x1 < x2) (hy : y1 < y2) : hasC 4 (sqX x1 x2) (sqY y1 y2) x y 4 = decide (¬ 2 * x1 > x ∧ 2 * x2 > x ∧ 2 * y1 < y ∧ y < 2 * y2) := by
  have i0 : ix 4 0 = 0 := rfl
  have i1 : ix 4 1 = 1 := rfl
  have i2 : ix 4 2 = 2 := rfl
  have i3 : ix 4 3 = 3 := rfl
  have i4 : ix 4 4 = 0 := rfl
  have b0 : hasB 4 (sqX x1 x2) (sqY y1 y2) x y 0 = false := by
    unfold hasB lo hi
    rw [decide_eq_false_iff_not]
    show ¬ (min x1 x2 = max x1 x2 ∧ _)
    omega
  have b2 : hasB 4 (sqX x1 x2) (sqY y1 y2) x y 2 = false := by
    unfold hasB lo hi
    rw [decide_eq_false_iff_not]
    show ¬ (min x2 x1 = max x2 x1 ∧ _)
    omega
  have b1 : hasB 4 (sqX x1 x2) (sqY y1 y2) x y 1 = decide (2 * x2 > x ∧ 2 * y1 < y ∧ y < 2 * y2) := by
    unfold hasB lo hi
    rw [decide_eq_decide]
    show (min x2 x2 = max x2 x2 ∧ 2 * min x2 x2 > x ∧ 2 * min y1 y2 < y ∧ y < 2 * max y1 y2) ↔ _
    omega
  have b3 : hasB 4 (sqX x1 x2) (sqY y1 y2) x y 3 = decide (2 * x1 > x ∧ 2 * y1 < y ∧ y < 2 * y2) := by
    unfold hasB lo hi
    rw [decide_eq_decide]
    show (min x1 x1 = max x1 x1 ∧ 2 * min x1 x1 > x ∧ 2 * min y2 y1 < y ∧ y < 2 * max y2 y1) ↔ _
    omega
  simp only [hasC, b0, b1, b2, b3, decide_eq_true_eq]
  by_cases c1 : 2 * x2 > x ∧ 2 * y1 < y ∧ y < 2 * y2
  · by_cases c3 : 2 * x1 > x ∧ 2 * y1 < y ∧ y < 2 * y2
    · rw [if_pos c3, if_neg (by simp), if_pos c1, if_neg (by simp), eq_comm, decide_eq_false (by omega)]; rfl
    · rw [if_neg c3, if_neg (by simp), if_pos c1, if_neg (by simp), eq_comm, decide_eq_true (by omega)]; rfl
  · rw [if_neg (by omega), if_neg (by simp), if_neg c1, if_neg (by simp), eq_comm, decide_eq_false (by omega)]
theorem gr_in {n : Nat} {X : Nat → Int} {m : Nat} {X' : Nat → Int} {k : Nat} (hk : k < m) : X' k ∈ gr n X m X' := ((linesF_asc (allN (N2 n m) (X2 X X') 2)).2 _).2 (allN_mem (i := 1) (k := k) (by omega) hk)
theorem gr_lt {n : Nat} {X : Nat → Int} {m : Nat} {X' : Nat → Int} {i : Nat} (hi : i + 1 < (gr n X m X').length) : (gr n X m X').getD i 0 < (gr n X m X').getD (i + 1) 0 := asc_get (linesF_asc (allN (N2 n m) (X2 X X') 2)).1 (by omega) hi
theorem gr_side {n : Nat} {X : Nat → Int} {m : Nat} {X' : Nat → Int} {i k : Nat} (hi : i + 1 < (gr n X m X').length) (hk : k < m) : X' k ≤ (gr n X m X').getD i 0 ∨ (gr n X m X').getD (i + 1) 0 ≤ X' k := asc_gap (linesF_asc (allN (N2 n m) (X2 X X') 2)).1 hi (gr_in hk)
def gsX (n : Nat) (X : Nat → Int) (x1 x2 : Int) : List Int := gr n X 4 (sqX x1 x2)
def gsY (n : Nat) (Y : Nat → Int) (y1 y2 : Int) : List Int := gr n Y 4 (sqY y1 y2)
def metK (n : Nat) (X Y : Nat → Int) (x1 x2 y1 y2 : Int) (c : Nat) : Bool := metC n X Y 4 (sqX x1 x2) (sqY y1 y2) c
theorem gridS_c (y : Bool) (n : Nat) (X Y : Nat → Int) (x1 x2 y1 y2 : Int) (hn2 : n ≤ 800) :
    FnC prog 141 [dB y, DV.lst 2 [fun i => DV.lst (if i = 0 then n else 4) [fun k => DV.val (Value.int .i64 (if i = 0 then X k else [x1, x2, x2, x1].getD k 0)), fun k => DV.val (Value.int .i64 (if i = 0 then Y k else [y1, y1, y2, y2].getD k 0))]]] (numsL (if y = true then gsY n Y y1 y2 else gsX n X x1 x2)) := by
  have h := gridL_c y n X Y 4 (sqX x1 x2) (sqY y1 y2) hn2 (by omega)
  rw [← pair_eq] at h
  exact h
theorem metK_at {n : Nat} {X Y : Nat → Int} (h : chk n X Y = 0) {x1 x2 y1 y2 : Int} (hx : x1 < x2) (hy : y1 < y2) {i k : Nat} (hi : i + 1 < (gsX n X x1 x2).length) (hk : k + 1 < (gsY n Y y1 y2).length) :
    metK n X Y x1 x2 y1 y2 (((gsY n Y y1 y2).length - 1) * i + k) = (decide ((((gsX n X x1 x2).getD i 0 ≥ x1 ∧ (gsX n X x1 x2).getD (i + 1) 0 ≤ x2) ∧ (gsY n Y y1 y2).getD k 0 ≥ y1) ∧ (gsY n Y y1 y2).getD (k + 1) 0 ≤ y2) && midF n X Y ((gsX n X x1 x2).getD i 0 + (gsX n X x1 x2).getD (i + 1) 0) ((gsY n Y y1 y2).getD k 0 + (gsY n Y y1 y2).getD (k + 1) 0)) := by
  have e2 := midF_has h (gr_gap (n := n) (X := X) (m := 4) (X' := sqX x1 x2) (i := i) hi).1 (gr_gap (n := n) (X := Y) (m := 4) (X' := sqY y1 y2) (i := k) hk).1
  have hcell := cell_at n X Y 4 (sqX x1 x2) (sqY y1 y2) (i := i) (k := k) (by have := hk; unfold gsY at this; omega)
  have l1 := gr_lt (n := n) (X := X) (m := 4) (X' := sqX x1 x2) (i := i) hi
  have l2 := gr_lt (n := n) (X := Y) (m := 4) (X' := sqY y1 y2) (i := k) hk
  have s1 : x1 ≤ (gr n X 4 (sqX x1 x2)).getD i 0 ∨ (gr n X 4 (sqX x1 x2)).getD (i + 1) 0 ≤ x1 := gr_side (k := 0) hi (by omega)
  have s2 : x2 ≤ (gr n X 4 (sqX x1 x2)).getD i 0 ∨ (gr n X 4 (sqX x1 x2)).getD (i + 1) 0 ≤ x2 := gr_side (k := 1) hi (by omega)
  have s3 : y1 ≤ (gr n Y 4 (sqY y1 y2)).getD k 0 ∨ (gr n Y 4 (sqY y1 y2)).getD (k + 1) 0 ≤ y1 := gr_side (k := 0) hk (by omega)
  have s4 : y2 ≤ (gr n Y 4 (sqY y1 y2)).getD k 0 ∨ (gr n Y 4 (sqY y1 y2)).getD (k + 1) 0 ≤ y2 := gr_side (k := 2) hk (by omega)
  unfold metK metC gsX gsY
  rw [hcell, e2, has_sq _ _ _ _ _ _ hx hy]
  dsimp only
  congr 1
  rw [decide_eq_decide]
  omega
noncomputable def A89_meetsR_c (n : Nat) (X Y : Nat → Int) (x1 x2 y1 y2 : Int) : Ann := { orc := [(1, [(12, .frz)]), (2, [(3, .res fun _ => numsL (gsX n X x1 x2)), (7, .res fun _ => numsL (gsY n Y y1 y2))]), (9, [(52, rMid)])], loops := [(0, { ι := Nat, keep := [0, 1, 2, 3, 4, 12, 13], boxes := [], ts := fun _ i => [(14, dI (i : Int))], inv := fun _ i => i ≤ (gsX n X x1 x2).length - 1 ∧ ∀ c, c < ((gsY n Y y1 y2).length - 1) * i → metK n X Y x1 x2 y1 y2 c = false, mu := fun _ i => (gsX n X x1 x2).length - i, rd := fun _ σ => (iOf (σ.get 14)).toNat }), (2, { ι := Nat, keep := [0, 1, 2, 3, 4, 12, 13, 14], boxes := [], ts := fun _ k => [(15, dI (k : Int))], inv := fun σ k => k ≤ (gsY n Y y1 y2).length - 1 ∧ ∀ c, c < ((gsY n Y y1 y2).length - 1) * (iOf (σ.get 14)).toNat + k → metK n X Y x1 x2 y1 y2 c = false, mu := fun _ k => (gsY n Y y1 y2).length - k, rd := fun _ σ => (iOf (σ.get 15)).toNat })], cuts := [] }
namespace w1e
noncomputable section
structure Z where
  n : Nat
  X : Nat → Int
  Y : Nat → Int
  x1 : Int
  x2 : Int
  y1 : Int
  y2 : Int
variable (z : Z) (i0 i1 i2 : Nat) (p q r : Prop) (P : List Prop) (a : Int) (k l m : Nat) (g h : Bool) (j10a : Nat → DV) (j11a : Nat → Int) (j13a : Nat → Prop) (j14a : Nat → VT)
abbrev v0 := gsX z.n z.X z.x1 z.x2
abbrev v1 := if g = true then h else false
abbrev v2 := List.getD (v0 z) (Int.toNat a) 0
abbrev v3 := gsY z.n z.Y z.y1 z.y2
abbrev v4 := List.getD (v3 z) (Int.toNat a) 0
abbrev v5 := (i0:Int) + 1
abbrev v6 := decide ((v2 z (i0:Int)) ≥ z.x1)
abbrev v7 := (i1:Int) + 1
abbrev v8 := v1 (v6 z i0) (decide ((v2 z (v5 i0)) ≤ z.x2))
abbrev v9 := v1 (v8 z i0) (decide ((v4 z (i1:Int)) ≥ z.y1))
abbrev v10 := v1 (v9 z i0 i1) (decide ((v4 z (v7 i1)) ≤ z.y2))
abbrev v11 := List.length (v3 z)
abbrev v12 := List.length (v0 z)
abbrev v13 : List Prop := ri (g = true) :: ri (h = true) :: P
abbrev v14 : List Prop := (g = true → p) :: ri (h = true) :: P
abbrev v15 := v13 P (v10 z i0 i1) (v10 z i0 i1)
abbrev v16 : List Prop := ri (g = true) :: (h = true → p) :: P
abbrev v17 := Int.toNat (v5 i0)
abbrev v18 := Int.toNat (v7 i1)
abbrev v19 := v15 z i0 i1 (v14 p P (v10 z i0 i1) (v10 z i0 i1))
abbrev v20 := dI (if (decide (i0 = (0:Nat))) = true then (j11a i1) else a)
abbrev v21 : List Prop := (a = (k:Int)) :: rf z.n :: (∀ i0 < z.n, rf (z.X i0)) :: (∀ i0 < z.n, rf (z.Y i0)) :: rf z.x1 :: rf z.x2 :: rf z.y1 :: rf z.y2 :: rf (v12 z) :: (∀ i0 < v12 z, rf (List.getD (v0 z) i0 0)) :: rf (v11 z) :: (∀ i0 < v11 z, rf (List.getD (v3 z) i0 0)) :: P
abbrev v22 := k < l → metK z.n z.X z.Y z.x1 z.x2 z.y1 z.y2 m = false
abbrev v23 := 0 ≤ (i1:Int) ∧ (i1:Int) < (↑(v11 z) : Int)
abbrev v24 := 0 ≤ v7 i1 ∧ v7 i1 < (↑(v11 z) : Int)
abbrev v25 := 0 ≤ (i0:Int) ∧ (i0:Int) < (↑(v12 z) : Int)
abbrev v26 := 0 ≤ v5 i0 ∧ v5 i0 < (↑(v12 z) : Int)
abbrev v27 := v19 z i0 i1 p (v16 q (v19 z i0 i1 r P) (v10 z i0 i1) (v10 z i0 i1))
abbrev v28 := VT.loop Nat j13a (Int.toNat 0) (v21 z P (0:Int) (Int.toNat 0)) j14a
abbrev v29 := v22 z i2 ((v11 z - 1) * Int.toNat (i0:Int) + k) i2
abbrev v30 := midF z.n z.X z.Y (v2 z (i0:Int) + v2 z (v5 i0)) (v4 z (i1:Int) + v4 z (v7 i1))
abbrev v31 : List Prop := ((2:Nat) ≤ (2:Nat)) :: FnC prog 141 [dB g, DV.lst 2 [fun i0 => DV.lst (if (decide (i0 = (0:Nat))) = true then z.n else (4:Nat)) [fun i1 => v20 i0 i1 (List.getD [z.x1, z.x2, z.x2, z.x1] i1 0) z.X, fun i1 => v20 i0 i1 (List.getD [z.y1, z.y1, z.y2, z.y2] i1 0) z.Y]]] (DV.lst k [j10a]) :: P
abbrev v32 := VT.done [g = metS z.n z.X z.Y z.x1 z.x2 z.y1 z.y2]
abbrev xt : VT := VT.need [(4:Nat) ≤ (4:Nat)] (VT.need (v31 z (v31 z [] (v11 z) true (fun i0 => dI (List.getD (v3 z) i0 0))) (v12 z) false (fun i0 => dI (List.getD (v0 z) i0 0))) (v28 z [] (fun i0 => i0 ≤ v12 z - 1 ∧ (∀ (i1 : Nat), v22 z i1 ((v11 z - 1) * i0) i1)) (fun i0 => VT.need [i64In (v5 i0)] (VT.ite (decide ((v5 i0) < (↑(v12 z) : Int))) (v28 z [rf (i0:Int)] (fun i1 => i1 ≤ v11 z - 1 ∧ (∀ (i2 : Nat), v29 z i0 i2 i1)) (fun i1 => VT.need [i64In (v7 i1)] (VT.ite (decide ((v7 i1) < (↑(v11 z) : Int))) (VT.need (v25 z i0 :: ri (v6 z i0 = true) :: v14 (i64In (v5 i0)) (v16 (v26 z i0) (v13 (v13 (v13 (v14 (v23 z i1) (v13 (v13 (v14 (i64In (v7 i1)) (v16 (v24 z i1) (v13 (v13 (v27 z i0 i1 (v25 z i0) (i64In (v5 i0)) (v26 z i0) (v27 z i0 i1 (v23 z i1) (i64In (v7 i1)) (v24 z i1) (v15 z i0 i1 (v15 z i0 i1 (v16 (FnC prog 142 [DV.lst z.n [fun i0 => dI (z.X i0), fun i0 => dI (z.Y i0)], dI (v2 z (i0:Int)), dI (v2 z (v5 i0)), dI (v4 z (i1:Int)), dI (v4 z (v7 i1))] (dB (v30 z i0 i1))) [ri (v10 z i0 i1 = true)] (v10 z i0 i1) (v10 z i0 i1)))))) (v9 z i0 i1) (v9 z i0 i1)) (v9 z i0 i1) (v9 z i0 i1)) (v9 z i0 i1) (v9 z i0 i1)) (v9 z i0 i1) (v9 z i0 i1)) (v8 z i0) (v9 z i0 i1)) (v8 z i0) (v8 z i0)) (v8 z i0) (v8 z i0)) (v8 z i0) (v8 z i0)) (v6 z i0) (v6 z i0)) (v6 z i0) (v6 z i0)) (v6 z i0) (v6 z i0)) (v6 z i0) (v6 z i0)) (VT.ite (v1 (v10 z i0 i1) (v30 z i0 i1)) (v32 z true) (VT.need [i64In (v7 i1)] (VT.done (v21 z [rf (i0:Int), v18 i1 ≤ v11 z - 1 ∧ (∀ (i2 : Nat), v29 z i0 i2 (v18 i1)), v11 z - v18 i1 < v11 z - i1] (v7 i1) (v18 i1)))))) (VT.need [i64In (v5 i0)] (VT.done (v21 z [v17 i0 ≤ v12 z - 1 ∧ (∀ (i1 : Nat), v22 z i1 ((v11 z - 1) * v17 i0) i1), v12 z - v17 i0 < v12 z - i0] (v5 i0) (v17 i0))))))) (v32 z false)))))
end
end w1e
open w1e in
theorem meetsR_c (n : Nat) (X Y : Nat → Int) (x1 x2 y1 y2 : Int) (h : chk n X Y = 0) (hx : x1 < x2) (hy : y1 < y2) (a1 : -1000000 ≤ x1 ∧ x1 ≤ 1000000) (a2 : -1000000 ≤ x2 ∧ x2 ≤ 1000000) (a3 : -1000000 ≤ y1 ∧ y1 ≤ 1000000) (a4 : -1000000 ≤ y2 ∧ y2 ≤ 1000000) : FnC prog 144 [pts n X Y, dI x1, dI x2, dI y1, dI y2] (dB (metS n X Y x1 x2 y1 y2)) := by
  refine FnC_owed hmix (A89_meetsR_c n X Y x1 x2 y1 y2) (V := xt ⟨n, X, Y, x1, x2, y1, y2⟩) (by kernel_rfl) ?_
  simp only [xt, v0, v1, v2, v3, v4, v5, v6, v7, v8, v9, v10, v11, v12, v13, v14, v15, v16, v17, v18, v19, v20, v21, v22, v23, v24, v25, v26, v27, v28, v29, v30, v31, v32, Rf, VT.holds, AllT, Sq]
  have hn := chk_n h
  obtain ⟨hX, hY⟩ := chk_inB h
  have lx : (gsX n X x1 x2).length ≤ n + 4 := gr_len n X 4 _
  have ly : (gsY n Y y1 y2).length ≤ n + 4 := gr_len n Y 4 _
  have bx_ : ∀ i, i < (gsX n X x1 x2).length → -1000000 ≤ (gsX n X x1 x2).getD i 0 ∧ (gsX n X x1 x2).getD i 0 ≤ 1000000 := gr_mem n X 4 _ 1000000 hX (sq_in a1 a2).1
  have by_ : ∀ i, i < (gsY n Y y1 y2).length → -1000000 ≤ (gsY n Y y1 y2).getD i 0 ∧ (gsY n Y y1 y2).getD i 0 ≤ 1000000 := gr_mem n Y 4 _ 1000000 hY (sq_in a3 a4).2
  have hN : cellN n X Y 4 (sqX x1 x2) (sqY y1 y2) = ((gsY n Y y1 y2).length - 1) * ((gsX n X x1 x2).length - 1) := rfl
  have hmt : metS n X Y x1 x2 y1 y2 = !decide (∀ k, k < ((gsY n Y y1 y2).length - 1) * ((gsX n X x1 x2).length - 1) → metK n X Y x1 x2 y1 y2 k = false) := rfl
  refine ⟨Nat.le_refl _, ⟨Nat.le_refl _, gridS_c false n X Y x1 x2 y1 y2 (by omega), Nat.le_refl _, gridS_c true n X Y x1 x2 y1 y2 (by omega)⟩, rfl, ⟨Nat.zero_le _, fun c hc => absurd hc (by simp)⟩, fun i ⟨hi, hb⟩ => ⟨by unfold i64In; omega, fun hlt => ⟨rfl, ⟨Nat.zero_le _, hb⟩, fun k ⟨hk, hb2⟩ => ⟨by unfold i64In; omega, fun hlt2 => ?_, fun hge => ?_⟩⟩, fun hge => ?_⟩⟩
  · have c1 := bx_ i (by omega)
    have c2 := bx_ (i + 1) (by omega)
    have c3 := by_ k (by omega)
    have c4 := by_ (k + 1) (by omega)
    have hK := metK_at h hx hy (i := i) (k := k) (by omega) (by omega)
    have hc0 : ((gsY n Y y1 y2).length - 1) * i + k < ((gsY n Y y1 y2).length - 1) * ((gsX n X x1 x2).length - 1) := cell_lt' (by omega) (by omega)
    have m2 := middle_c n X Y _ _ _ _ (by omega) (by omega) hX hY c1 c2 c3 c4
    have q1 : i64In ((i : Int) + 1) := by unfold i64In; omega
    have q2 : i64In ((k : Int) + 1) := by unfold i64In; omega
    have q3 : (0:Int) ≤ i ∧ (i : Int) < ((gsX n X x1 x2).length : Nat) := by omega
    have q4 : (0:Int) ≤ (i : Int) + 1 ∧ (i : Int) + 1 < ((gsX n X x1 x2).length : Nat) := by omega
    have q5 : (0:Int) ≤ k ∧ (k : Int) < ((gsY n Y y1 y2).length : Nat) := by omega
    have q6 : (0:Int) ≤ (k : Int) + 1 ∧ (k : Int) + 1 < ((gsY n Y y1 y2).length : Nat) := by omega
    refine ⟨⟨q3, fun _ => q1, fun _ => q4, fun _ => q5, fun _ => q2, fun _ => q6, fun _ => q3, fun _ => q1, fun _ => q4, fun _ => q5, fun _ => q2, fun _ => q6, fun _ => m2⟩, fun hx => ?_, fun hx => ⟨by unfold i64In; omega, by omega, ⟨by omega, fun c hc => ?_⟩, by omega⟩⟩
    · rw [eq_comm, hmt, Bool.not_eq_true', decide_eq_false_iff_not]
      intro hall
      have := hall _ hc0
      rw [hK, decide_eq_true hx.1, hx.2] at this
      cases this
    · rcases Nat.lt_or_ge c (((gsY n Y y1 y2).length - 1) * i + k) with h5 | h5
      · exact hb2 c h5
      · rw [show c = ((gsY n Y y1 y2).length - 1) * i + k by omega, hK]
        generalize midF n X Y _ _ = p at *
        by_cases hC : (((gsX n X x1 x2).getD i 0 ≥ x1 ∧ (gsX n X x1 x2).getD (i + 1) 0 ≤ x2) ∧ (gsY n Y y1 y2).getD k 0 ≥ y1) ∧ (gsY n Y y1 y2).getD (k + 1) 0 ≤ y2
        · rw [hx hC, Bool.and_false]
        · rw [decide_eq_false hC]; rfl
  · refine ⟨by unfold i64In; omega, by omega, ⟨by omega, fun c hc => hb2 c ?_⟩, by omega⟩
    have hk' : k = (gsY n Y y1 y2).length - 1 := by omega
    rw [Nat.mul_add, Nat.mul_one] at hc
    omega
  · have hi' : i = (gsX n X x1 x2).length - 1 := by omega
    rw [eq_comm, hmt, Bool.not_eq_false', decide_eq_true_eq]
    intro c hc
    exact hb c (by rw [hi']; exact hc)
noncomputable def A86_blocks_c (b : Bld) (x1 y1 z1 x2 y2 z2 : Int) : Ann := { orc := [(1, [(20, .frz)]), (5, [(7, rTop b), (16, .res fun l => dB (metS (aN l) (aX l) (aY l) x1 x2 y1 y2))])], loops := [(0, { ι := Nat, keep := [2, 3, 5, 30, 31], boxes := [2, 3], ts := fun _ i => [(32, dI (i : Int))], inv := fun _ i => i ≤ b.nS ∧ ∀ j, j < i → blkAt b x1 y1 z1 x2 y2 z2 j = false, mu := fun _ i => b.nS - i, rd := fun _ σ => (iOf (σ.get 32)).toNat })], cuts := [] }
namespace w1f
noncomputable section
structure Z where
  b : Bld
  x1 : Int
  y1 : Int
  z1 : Int
  x2 : Int
  y2 : Int
  z2 : Int
variable (z : Z) (i0 i1 : Nat) (p : Prop) (P : List Prop) (k : Nat) (g : Bool)
abbrev v0 := Int.toNat (i0:Int)
abbrev v1 := i0 < z.b.nO → rf (z.b.O i0 k)
abbrev v2 := i0 < z.b.nB → rf (z.b.B i0 k)
abbrev v3 := decide ((maxs (z.b.fl (v0 i0)) [z.z1]) < (mins (topF z.b (v0 i0)) [z.z2]))
abbrev v4 := Int.toNat ((i0:Int) + 1)
abbrev v5 : List Prop := p :: rf z.b.nS :: (∀ i0 < z.b.nS, rf (z.b.fl i0)) :: (∀ i0 < z.b.nS, rf (z.b.N i0) ∧ (∀ i1 < z.b.N i0, rf (z.b.X i0 i1)) ∧ (∀ i1 < z.b.N i0, rf (z.b.Y i0 i1))) :: P
abbrev v6 : List Prop := p :: rf (4:Nat) :: (∀ i0 < ((4:Nat)), rf (List.getD [z.x1, z.x2, z.x2, z.x1] i0 0)) :: v5 z (∀ i0 < ((4:Nat)), rf (List.getD [z.y1, z.y1, z.y2, z.y2] i0 0)) (rf (z.b.nS:Int) :: v5 z (rf z.b.name) (rf z.b.roof :: rf z.b.nO :: (∀ (i0 : Nat), v1 z i0 (0:Nat)) :: (∀ (i0 : Nat), v1 z i0 (1:Nat)) :: (∀ (i0 : Nat), v1 z i0 (2:Nat)) :: (∀ (i0 : Nat), v1 z i0 (3:Nat)) :: (∀ (i0 : Nat), v1 z i0 (4:Nat)) :: (∀ (i0 : Nat), v1 z i0 (5:Nat)) :: rf z.b.nB :: (∀ (i0 : Nat), v2 z i0 (0:Nat)) :: (∀ (i0 : Nat), v2 z i0 (1:Nat)) :: (∀ (i0 : Nat), v2 z i0 (2:Nat)) :: (∀ (i0 : Nat), v2 z i0 (3:Nat)) :: (∀ (i0 : Nat), v2 z i0 (4:Nat)) :: (∀ (i0 : Nat), v2 z i0 (5:Nat)) :: rf z.x1 :: rf z.y1 :: rf z.z1 :: rf z.x2 :: rf z.y2 :: rf z.z2 :: P))
abbrev v7 := VT.done [g = blkF z.b z.x1 z.y1 z.z1 z.x2 z.y2 z.z2]
abbrev v8 := i1 < k → blkAt z.b z.x1 z.y1 z.z1 z.x2 z.y2 z.z2 i1 = false
abbrev v9 := metS (z.b.N (v0 i0)) (z.b.X (v0 i0)) (z.b.Y (v0 i0)) z.x1 z.x2 z.y1 z.y2
abbrev xt : VT := VT.need [(4:Nat) ≤ (4:Nat)] (VT.loop Nat (fun i0 => i0 ≤ z.b.nS ∧ (∀ (i1 : Nat), v8 z i1 i0)) (Int.toNat 0) (v6 z (0 = (↑(Int.toNat 0) : Int)) []) (fun i0 => VT.ite (decide ((i0:Int) < (z.b.nS:Int))) (VT.need [0 ≤ (i0:Int) ∧ (i0:Int) < (z.b.nS:Int)] (VT.need [FnC prog 147 [bld z.b, dI (i0:Int)] (dI (topF z.b (v0 i0))), ri (v3 z i0 = true), ri (v3 z i0 = true), ri (v3 z i0 = true), v3 z i0 = true → FnC prog 149 [DV.lst (z.b.N (v0 i0)) [fun i1 => dI (z.b.X (v0 i0) i1), fun i1 => dI (z.b.Y (v0 i0) i1)], DV.lst 4 [fun i0 => dI (List.getD [z.x1, z.x2, z.x2, z.x1] i0 0), fun i0 => dI (List.getD [z.y1, z.y1, z.y2, z.y2] i0 0)]] (dB (v9 z i0)), ri (v3 z i0 = true)] (VT.ite (if (v3 z i0) = true then (v9 z i0) else false) (v7 z true) (VT.need [i64In ((i0:Int) + 1)] (VT.done (v6 z ((i0:Int) + 1 = (↑(v4 i0) : Int)) [v4 i0 ≤ z.b.nS ∧ (∀ (i1 : Nat), v8 z i1 (v4 i0)), z.b.nS - v4 i0 < z.b.nS - i0])))))) (v7 z false)))
end
end w1f
open w1f in
theorem blocks_c (b : Bld) (x1 y1 z1 x2 y2 z2 : Int) (hS : b.nS ≤ 1000) (ho : outsOk b) (hc : ckB x1 y1 z1 x2 y2 z2 = 0) : FnC prog 119 [bld b, bx x1 y1 z1 x2 y2 z2] (dB (blkF b x1 y1 z1 x2 y2 z2)) := by
  refine FnC_owed hmix (A86_blocks_c b x1 y1 z1 x2 y2 z2) (V := xt ⟨b, x1, y1, z1, x2, y2, z2⟩) (by kernel_rfl) ?_
  simp only [xt, v0, v1, v2, v3, v4, v5, v6, v7, v8, v9, Rf, VT.holds, AllT, Sq]
  obtain ⟨a1, a2, a3, a4, a5, a6, hx, hy, hz⟩ := ckB_zero hc
  simp only [maxs1, mins1]
  refine ⟨Nat.le_refl _, rfl, ⟨Nat.zero_le _, fun j hj => absurd hj (Nat.not_lt_zero j)⟩, fun i ⟨hi, hb⟩ => ⟨fun hlt => ?_, fun hge => ?_⟩⟩
  · have hch := ho i (by omega)
    have hn := chk_n hch
    obtain ⟨hX, hY⟩ := chk_inB hch
    have hat : ∀ j, blkAt b x1 y1 z1 x2 y2 z2 j = (decide (max (b.fl j) z1 < min (topF b j) z2) && metS (b.N j) (b.X j) (b.Y j) x1 x2 y1 y2) := fun j => rfl
    refine ⟨⟨by omega, hlt⟩, ⟨top_c b i (by omega), fun _ => meets_c (b.N i) (b.X i) (b.Y i) 4 (sqX x1 x2) (sqY y1 y2) (by omega) (by omega) hX hY (by omega) (by omega) (sq_in a1 a4).1 (sq_in a2 a5).2⟩, fun h => ?_, fun h => ⟨by unfold i64In; omega, by omega, ⟨by omega, fun j hj => ?_⟩, by omega⟩⟩
    · rw [eq_comm, blkF, Bool.not_eq_true', decide_eq_false_iff_not]
      intro hall
      have := hall i (by omega)
      rw [hat, decide_eq_true h.1, h.2] at this
      cases this
    · rcases Nat.lt_or_ge j i with h5 | h5
      · exact hb j h5
      · rw [show j = i by omega, hat]
        by_cases hC : max (b.fl i) z1 < min (topF b i) z2
        · rw [h hC, Bool.and_false]
        · rw [decide_eq_false hC]; rfl
  · rw [eq_comm, blkF, Bool.not_eq_false', decide_eq_true_eq]
    exact fun j hj => hb j (by omega)
noncomputable def A48_blocksR_c (b : Bld) (x1 y1 z1 x2 y2 z2 : Int) : Ann := { orc := [(4, [(4, rTop b), (32, rMetS)])], loops := [(0, { ι := Nat, keep := [2, 3], boxes := [2, 3], ts := fun _ i => [(5, dI (i : Int))], inv := fun _ i => i ≤ b.nS ∧ ∀ j, j < i → blkAt b x1 y1 z1 x2 y2 z2 j = false, mu := fun _ i => b.nS - i, rd := fun _ σ => (iOf (σ.get 5)).toNat })], cuts := [] }
namespace w1g
noncomputable section
structure Z where
  b : Bld
  x1 : Int
  y1 : Int
  z1 : Int
  x2 : Int
  y2 : Int
  z2 : Int
variable (z : Z) (i0 i1 : Nat) (p q : Prop) (P : List Prop) (a : Int) (k : Nat) (g : Bool)
abbrev v0 := Int.toNat (i0:Int)
abbrev v1 := decide (z.z1 < (topF z.b (v0 i0)))
abbrev v2 := if (v1 z i0) = true then (decide ((z.b.fl (v0 i0)) < z.z2)) else false
abbrev v3 := ri (v2 z i0 = true)
abbrev v4 := i0 < z.b.nO → rf (z.b.O i0 k)
abbrev v5 := i0 < z.b.nB → rf (z.b.B i0 k)
abbrev v6 := ri (v1 z i0 = true)
abbrev v7 := Int.toNat ((i0:Int) + 1)
abbrev v8 : List Prop := p :: v3 z i0 :: v3 z i0 :: v3 z i0 :: q :: v3 z i0 :: v3 z i0 :: v3 z i0 :: P
abbrev v9 := 0 ≤ (i0:Int) ∧ (i0:Int) < (z.b.nS:Int)
abbrev v10 := VT.done [g = blkF z.b z.x1 z.y1 z.z1 z.x2 z.y2 z.z2]
abbrev v11 : List Prop := (a = (k:Int)) :: rf z.b.name :: rf z.b.nS :: (∀ i0 < z.b.nS, rf (z.b.fl i0)) :: (∀ i0 < z.b.nS, rf (z.b.N i0) ∧ (∀ i1 < z.b.N i0, rf (z.b.X i0 i1)) ∧ (∀ i1 < z.b.N i0, rf (z.b.Y i0 i1))) :: rf z.b.roof :: rf z.b.nO :: (∀ (i0 : Nat), v4 z i0 (0:Nat)) :: (∀ (i0 : Nat), v4 z i0 (1:Nat)) :: (∀ (i0 : Nat), v4 z i0 (2:Nat)) :: (∀ (i0 : Nat), v4 z i0 (3:Nat)) :: (∀ (i0 : Nat), v4 z i0 (4:Nat)) :: (∀ (i0 : Nat), v4 z i0 (5:Nat)) :: rf z.b.nB :: (∀ (i0 : Nat), v5 z i0 (0:Nat)) :: (∀ (i0 : Nat), v5 z i0 (1:Nat)) :: (∀ (i0 : Nat), v5 z i0 (2:Nat)) :: (∀ (i0 : Nat), v5 z i0 (3:Nat)) :: (∀ (i0 : Nat), v5 z i0 (4:Nat)) :: (∀ (i0 : Nat), v5 z i0 (5:Nat)) :: rf z.x1 :: rf z.y1 :: rf z.z1 :: rf z.x2 :: rf z.y2 :: rf z.z2 :: P
abbrev v12 := i1 < k → blkAt z.b z.x1 z.y1 z.z1 z.x2 z.y2 z.z2 i1 = false
abbrev v13 := metS (z.b.N (v0 i0)) (z.b.X (v0 i0)) (z.b.Y (v0 i0)) z.x1 z.x2 z.y1 z.y2
abbrev xt : VT := VT.loop Nat (fun i0 => i0 ≤ z.b.nS ∧ (∀ (i1 : Nat), v12 z i1 i0)) (Int.toNat 0) (v11 z [] (0:Int) (Int.toNat 0)) (fun i0 => VT.ite (decide ((i0:Int) < (z.b.nS:Int))) (VT.need (FnC prog 143 [bld z.b, dI (i0:Int)] (dI (topF z.b (v0 i0))) :: v6 z i0 :: v6 z i0 :: v6 z i0 :: (v1 z i0 = true → v9 z i0) :: v6 z i0 :: v6 z i0 :: v6 z i0 :: v6 z i0 :: v6 z i0 :: v8 z i0 (v6 z i0) (v2 z i0 = true → v9 z i0) (v8 z i0 (v3 z i0) (v3 z i0) [v2 z i0 = true → FnC prog 144 [DV.lst (z.b.N (v0 i0)) [fun i1 => dI (z.b.X (v0 i0) i1), fun i1 => dI (z.b.Y (v0 i0) i1)], dI z.x1, dI z.x2, dI z.y1, dI z.y2] (dB (v13 z i0)), v3 z i0])) (VT.ite (if (v2 z i0) = true then (v13 z i0) else false) (v10 z true) (VT.need [i64In ((i0:Int) + 1)] (VT.done (v11 z [v7 i0 ≤ z.b.nS ∧ (∀ (i1 : Nat), v12 z i1 (v7 i0)), z.b.nS - v7 i0 < z.b.nS - i0] ((i0:Int) + 1) (v7 i0)))))) (v10 z false))
end
end w1g
open w1g in
theorem blocksR_c (b : Bld) (x1 y1 z1 x2 y2 z2 : Int) (hS : b.nS ≤ 1000) (ho : outsOk b) (ht : ∀ i, i < b.nS → b.fl i < topF b i) (hc : ckB x1 y1 z1 x2 y2 z2 = 0) : FnC prog 100 [bld b, bx x1 y1 z1 x2 y2 z2] (dB (blkF b x1 y1 z1 x2 y2 z2)) := by
  refine FnC_owed hmix (A48_blocksR_c b x1 y1 z1 x2 y2 z2) (V := xt ⟨b, x1, y1, z1, x2, y2, z2⟩) (by kernel_rfl) ?_
  simp only [xt, v0, v1, v2, v3, v4, v5, v6, v7, v8, v9, v10, v11, v12, v13, Rf, VT.holds, AllT, Sq]
  obtain ⟨a1, a2, a3, a4, a5, a6, hx, hy, hz⟩ := ckB_zero hc
  refine ⟨rfl, ⟨Nat.zero_le _, fun j hj => absurd hj (Nat.not_lt_zero j)⟩, fun i ⟨hi, hb⟩ => ⟨fun hlt => ?_, fun hge => ?_⟩⟩
  · have hch := ho i (by omega)
    have hti := ht i (by omega)
    have hat : ∀ j, blkAt b x1 y1 z1 x2 y2 z2 j = (decide (max (b.fl j) z1 < min (topF b j) z2) && metS (b.N j) (b.X j) (b.Y j) x1 x2 y1 y2) := fun j => rfl
    have hiff : (z1 < topF b i ∧ b.fl i < z2) ↔ max (b.fl i) z1 < min (topF b i) z2 := by omega
    refine ⟨⟨topR_c b i (by omega), fun _ => ⟨by omega, hlt⟩, fun _ => ⟨by omega, hlt⟩, fun _ => meetsR_c (b.N i) (b.X i) (b.Y i) x1 x2 y1 y2 hch hx hy a1 a4 a2 a5⟩, fun h => ?_, fun h => ⟨by unfold i64In; omega, by omega, ⟨by omega, fun j hj => ?_⟩, by omega⟩⟩
    · rw [eq_comm, blkF, Bool.not_eq_true', decide_eq_false_iff_not]
      intro hall
      have := hall i (by omega)
      rw [hat, decide_eq_true (hiff.1 h.1), h.2] at this
      cases this
    · rcases Nat.lt_or_ge j i with h5 | h5
      · exact hb j h5
      · rw [show j = i by omega, hat]
        by_cases hC : max (b.fl i) z1 < min (topF b i) z2
        · rw [h (hiff.2 hC), Bool.and_false]
        · rw [decide_eq_false hC]; rfl
  · rw [eq_comm, blkF, Bool.not_eq_false', decide_eq_true_eq]
    exact fun j hj => hb j (by omega)
end Go.Abs
end
section
set_option linter.unusedVariables false
set_option linter.unusedSimpArgs false
set_option maxRecDepth 100000
namespace Go.Abs
open Go
def firstE (e : Nat → Int) : Nat → Int
  | 0 => 0
  | k + 1 => if firstE e k ≠ 0 then firstE e k else e k
theorem firstE_none {e : Nat → Int} : ∀ {n : Nat}, (∀ j, j < n → e j = 0) → firstE e n = 0
  | 0, _ => rfl
  | n + 1, h => by
    rw [firstE, firstE_none (fun j hj => h j (by omega)), if_neg (by simp), h n (by omega)]
theorem firstE_at {e : Nat → Int} {i : Nat} (h : ∀ j, j < i → e j = 0) (hi : e i ≠ 0) : ∀ {n : Nat}, i < n → firstE e n = e i
  | n + 1, hn => by
    rcases Nat.lt_or_ge i n with h1 | h1
    · have := firstE_at h hi h1
      rw [firstE, this, if_pos hi]
    · have : i = n := by omega
      subst this
      rw [firstE, firstE_none h, if_neg (by simp)]
theorem firstE_zero {e : Nat → Int} : ∀ {n : Nat}, firstE e n = 0 → ∀ j, j < n → e j = 0
  | n + 1, h, j, hj => by
    rw [firstE] at h
    by_cases h0 : firstE e n = 0
    · rw [if_neg (by rw [h0]; simp)] at h
      rcases Nat.lt_or_ge j n with h1 | h1
      · exact firstE_zero h0 j h1
      · rw [show j = n by omega]; exact h
    · rw [if_pos h0] at h
      exact absurd h h0
def ordB (b : Bld) (i : Nat) : Bool := decide ((i = 0 ∧ b.fl i ≠ 0) ∨ (0 < i ∧ b.fl i ≤ b.fl (i - 1)) ∨ b.fl i > 1000000)
def stE (b : Bld) (i : Nat) : Int := if chk (b.N i) (b.X i) (b.Y i) ≠ 0 then chk (b.N i) (b.X i) (b.Y i) else if ordB b i = true then 10 else if 0 < i ∧ covF (b.N (i - 1)) (b.X (i - 1)) (b.Y (i - 1)) (b.N i) (b.X i) (b.Y i) = false then 12 else 0
theorem stE_zero {b : Bld} {i : Nat} (h : stE b i = 0) : chk (b.N i) (b.X i) (b.Y i) = 0 ∧ ordB b i = false := by
  unfold stE at h
  split at h
  · rename_i h1; exact absurd h h1
  · rename_i h1
    split at h
    · cases h
    · rename_i h2
      exact ⟨Decidable.not_not.1 h1, by simpa using h2⟩
theorem st_ok {b : Bld} (h : ∀ i, i < b.nS → stE b i = 0) : outsOk b ∧ (∀ i, i < b.nS → 0 ≤ b.fl i ∧ b.fl i ≤ 1000000) ∧ (∀ i, i + 1 < b.nS → b.fl i < b.fl (i + 1)) := by
  have ho : ∀ i, i < b.nS → ((i ≠ 0 ∨ b.fl i = 0) ∧ (i = 0 ∨ b.fl (i - 1) < b.fl i) ∧ b.fl i ≤ 1000000) := fun i hi => by
    have := (stE_zero (h i hi)).2
    rw [ordB, decide_eq_false_iff_not] at this
    refine ⟨?_, ?_, ?_⟩
    · rcases Nat.eq_zero_or_pos i with h0 | h0
      · right
        by_cases hf : b.fl i = 0
        · exact hf
        · exact absurd (.inl ⟨h0, hf⟩) this
      · left; omega
    · rcases Nat.eq_zero_or_pos i with h0 | h0
      · left; exact h0
      · right; omega
    · omega
  have hnn : ∀ i, i < b.nS → 0 ≤ b.fl i := fun i => by
    induction i with
    | zero => intro hi; have := (ho 0 hi).1; rcases this with h | h <;> omega
    | succ i ih =>
      intro hi
      have h1 := ih (by omega)
      have h2 := (ho (i + 1) hi).2.1
      simp only [Nat.add_sub_cancel] at h2
      omega
  refine ⟨fun i hi => (stE_zero (h i hi)).1, fun i hi => ⟨hnn i hi, (ho i hi).2.2⟩, fun i hi => ?_⟩
  have h2 := (ho (i + 1) hi).2.1
  simp only [Nat.add_sub_cancel] at h2
  omega
noncomputable def A84_checkStoreys_c (b : Bld) : Ann := { orc := [(4, [(2, rChk)]), (11, [(11, rCov)])], loops := [(0, { ι := Nat, keep := [0, 6, 7], boxes := [], ts := fun _ i => [(8, dI (i : Int))], inv := fun _ i => i ≤ b.nS ∧ ∀ j, j < i → stE b j = 0, mu := fun _ i => b.nS - i, rd := fun _ σ => (iOf (σ.get 8)).toNat })], cuts := [] }
namespace w1h
noncomputable section
variable (z : Bld) (i0 : Nat) (p : Prop) (P : List Prop) (a : Int) (g : Bool)
abbrev x0 := decide ((i0:Int) > (0:Int))
abbrev x1 := Int.toNat (i0:Int)
abbrev x2 := (i0:Int) - 1
abbrev x3 : List Prop := ri (x0 i0 = true) :: P
abbrev x4 := Int.toNat (x2 i0)
abbrev x5 := Int.toNat ((i0:Int) + 1)
abbrev x6 : List Prop := (x0 i0 = true → p) :: x3 i0 (x3 i0 P)
abbrev x7 : List Prop := p :: rf z.nS :: (∀ i0 < z.nS, rf (z.fl i0)) :: P
abbrev x8 := ∀ i0 < z.nS, rf (z.N i0) ∧ (∀ i1 < z.N i0, rf (z.X i0 i1)) ∧ (∀ i1 < z.N i0, rf (z.Y i0 i1))
abbrev x9 := VT.done [a = firstE (stE z) z.nS]
abbrev x10 := covF (z.N (x4 i0)) (z.X (x4 i0)) (z.Y (x4 i0)) (z.N (x1 i0)) (z.X (x1 i0)) (z.Y (x1 i0))
abbrev x11 := if (x0 i0) = true then g else false
abbrev x12 := x7 z p (x7 z (x8 z) (x8 z :: P))
abbrev x13 : List DV := [DV.lst (z.N (x1 i0)) [fun i1 => dI (z.X (x1 i0) i1), fun i1 => dI (z.Y (x1 i0) i1)]]
abbrev x14 := x6 i0 (0 ≤ x2 i0 ∧ x2 i0 < (z.nS:Int)) (x3 i0 (x3 i0 P))
abbrev x15 : List Prop := ri (((i0:Int) == 0) = true) :: P
abbrev x16 := chk (z.N (x1 i0)) (z.X (x1 i0)) (z.Y (x1 i0))
abbrev x17 := VT.need (x3 i0 (x6 i0 (i64In (x2 i0)) (x14 z i0 (x3 i0 (x6 i0 (FnC prog 146 (DV.lst (z.N (x4 i0)) [fun i1 => dI (z.X (x4 i0) i1), fun i1 => dI (z.Y (x4 i0) i1)] :: x13 z i0) (dB (x10 z i0))) []))))) (VT.ite (x11 i0 (!(x10 z i0))) (x9 z (12:Int)) (VT.need [i64In ((i0:Int) + 1)] (VT.done (x12 z ((i0:Int) + 1 = (↑(x5 i0) : Int)) [rf (z.nS:Int), x5 i0 ≤ z.nS ∧ (∀ i1 < x5 i0, stE z i1 = 0), z.nS - x5 i0 < z.nS - i0]))))
abbrev x18 := decide ((z.fl (x1 i0)) ≤ (z.fl (x4 i0)))
abbrev x19 := VT.ite g (x9 z (10:Int)) (x17 z i0)
abbrev x20 := if ((i0:Int) == 0) = true then (z.fl (x1 i0) != 0) else false
abbrev xt : VT := VT.loop Nat (fun i0 => i0 ≤ z.nS ∧ (∀ i1 < i0, stE z i1 = 0)) (Int.toNat 0) (x12 z (0 = (↑(Int.toNat 0) : Int)) [rf (z.nS:Int)]) (fun i0 => VT.ite (decide ((i0:Int) < (z.nS:Int))) (VT.need [0 ≤ (i0:Int) ∧ (i0:Int) < (z.nS:Int)] (VT.need [FnC prog 121 (x13 z i0) (dI (x16 z i0))] (VT.ite (x16 z i0 != 0) (x9 z (x16 z i0)) (VT.need (x15 i0 (x15 i0 (x15 i0 []))) (VT.ite (x20 z i0) (x19 z i0 (x20 z i0)) (VT.need (x3 i0 (x3 i0 (x6 i0 (i64In (x2 i0)) (x14 z i0 (x3 i0 []))))) (VT.ite (x11 i0 (x18 z i0)) (VT.ite (x11 i0 (x18 z i0)) (x9 z (10:Int)) (x17 z i0)) (x19 z i0 (decide ((z.fl (x1 i0)) > (1000000:Int))))))))))) (x9 z (0:Int)))
end
end w1h
open w1h in
theorem checkStoreys_c (b : Bld) (hS : b.nS ≤ 1000) (hN : ∀ i, i < b.nS → b.N i ≤ 1000) : FnC prog 116 [.lst b.nS (stoC b)] (dI (firstE (stE b) b.nS)) := by
  refine FnC_owed hmix (A84_checkStoreys_c b) (V := xt b) (by kernel_rfl) ?_
  simp only [xt, x0, x1, x2, x3, x4, x5, x6, x7, x8, x9, x10, x11, x12, x13, x14, x15, x16, x17, x18, x19, x20, Rf, VT.holds, AllT, Sq]
  refine ⟨rfl, ⟨Nat.zero_le _, fun j hj => absurd hj (Nat.not_lt_zero j)⟩, fun i ⟨hi, hb⟩ => ⟨fun hlt => ?_, fun hge => by rw [firstE_none (fun j hj => hb j (by omega))]⟩⟩
  have hp : ((i : Int) - 1).toNat = i - 1 := by omega
  simp only [hp]
  have hNi := hN i (by omega)
  have hst : stE b i = if chk (b.N i) (b.X i) (b.Y i) ≠ 0 then chk (b.N i) (b.X i) (b.Y i) else if ordB b i = true then 10 else if 0 < i ∧ covF (b.N (i - 1)) (b.X (i - 1)) (b.Y (i - 1)) (b.N i) (b.X i) (b.Y i) = false then 12 else 0 := rfl
  have q1 : (i : Int) > 0 → i64In ((i : Int) - 1) := fun _ => by unfold i64In; omega
  have q2 : (i : Int) > 0 → 0 ≤ (i : Int) - 1 ∧ (i : Int) - 1 < (b.nS : Int) := fun _ => by omega
  refine ⟨⟨by omega, hlt⟩, checkOutline_c _ _ _ (by omega), fun h => ?_, fun hc => ?_⟩
  · have e : stE b i = chk (b.N i) (b.X i) (b.Y i) := by rw [hst, if_pos h]
    rw [firstE_at hb (by rw [e]; exact h) (by omega), e]
  · have hord : ordB b i = true → 10 = firstE (stE b) b.nS := fun h => by
      have e : stE b i = 10 := by rw [hst, if_neg (by rw [hc]; simp), if_pos h]
      rw [firstE_at hb (by rw [e]; simp) (by omega), e]
    have hcov : (i : Int) > 0 → FnC prog 146 [pts (b.N (i - 1)) (b.X (i - 1)) (b.Y (i - 1)), pts (b.N i) (b.X i) (b.Y i)] (dB (covF (b.N (i - 1)) (b.X (i - 1)) (b.Y (i - 1)) (b.N i) (b.X i) (b.Y i))) := fun h => by
      have hc' := (stE_zero (hb (i - 1) (by omega))).1
      have n1 := chk_n hc
      have n2 := chk_n hc'
      exact covers_c _ _ _ _ _ _ (by omega) (by omega) (chk_inB hc').1 (chk_inB hc').2 (by omega) (by omega) (chk_inB hc).1 (chk_inB hc).2
    have h12 : ordB b i = false → (i : Int) > 0 ∧ covF (b.N (i - 1)) (b.X (i - 1)) (b.Y (i - 1)) (b.N i) (b.X i) (b.Y i) = false → 12 = firstE (stE b) b.nS := fun h h2 => by
      have e : stE b i = 12 := by rw [hst, if_neg (by rw [hc]; simp), if_neg (by rw [h]; simp), if_pos ⟨by omega, h2.2⟩]
      rw [firstE_at hb (by rw [e]; simp) (by omega), e]
    have hnext : ordB b i = false → ((i : Int) > 0 → covF (b.N (i - 1)) (b.X (i - 1)) (b.Y (i - 1)) (b.N i) (b.X i) (b.Y i) = true) → ∀ j, j < i + 1 → stE b j = 0 := fun h h2 j hj => by
      rcases Nat.lt_or_ge j i with h3 | h3
      · exact hb j h3
      · rw [show j = i by omega, hst, if_neg (by rw [hc]; simp), if_neg (by rw [h]; simp), if_neg]
        rintro ⟨h4, h5⟩
        rw [h2 (by omega)] at h5
        cases h5
    refine ⟨fun h1 => ⟨fun _ => hord (decide_eq_true (.inl ⟨by omega, h1.2⟩)), fun hx => absurd (hx h1.1) h1.2⟩, fun h1 => ⟨⟨q1, q2⟩, fun h2 => ⟨fun _ => hord (decide_eq_true (.inr (.inl ⟨by omega, h2.2⟩))), fun hx => absurd h2.2 (hx h2.1)⟩, fun h2 => ⟨fun h3 => hord (decide_eq_true (.inr (.inr h3))), fun h3 => ?_⟩⟩⟩
    have ho : ordB b i = false := by
      rw [ordB, decide_eq_false_iff_not]
      rintro (h | h | h)
      · exact h.2 (h1 (by omega))
      · exact h2 (by omega) h.2
      · exact h3 h
    exact ⟨⟨q1, q2, hcov⟩, h12 ho, fun h4 => ⟨by unfold i64In; omega, by omega, ⟨by omega, hnext ho h4⟩, by omega⟩⟩
end Go.Abs
end
