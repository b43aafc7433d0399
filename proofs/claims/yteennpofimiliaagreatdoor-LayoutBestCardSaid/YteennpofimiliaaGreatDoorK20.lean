/- Contracts. -/
import Derived.Test.YteennpofimiliaaGreatDoorK19
set_option linter.unusedVariables false
set_option linter.unusedSimpArgs false
set_option maxRecDepth 100000
namespace Go.Abs
open Go
def ckI (b : Bld) (i : Nat) : Int := ckB (b.B i 0) (b.B i 1) (b.B i 2) (b.B i 3) (b.B i 4) (b.B i 5)
def blI (b : Bld) (i : Nat) : Bool := blkF b (b.B i 0) (b.B i 1) (b.B i 2) (b.B i 3) (b.B i 4) (b.B i 5)
def shpB (b : Bld) : Bool := decide (b.nS < 1 ∨ b.nS > 20 ∨ b.nO > 100 ∨ b.nB > 50)
def bxE (b : Bld) (i : Nat) : Int := if ckI b i ≠ 0 then ckI b i else if blI b i = true then 12 else 0
def rofB (b : Bld) : Bool := decide (b.roof ≤ b.fl (b.nS - 1) ∨ b.roof > 1000000)
def chkB (b : Bld) : Int := if nameF b.name = false then 4 else if shpB b = true then 11 else if firstE (stE b) b.nS ≠ 0 then firstE (stE b) b.nS else if rofB b = true then 2 else if firstE (opE b) b.nO ≠ 0 then firstE (opE b) b.nO else firstE (bxE b) b.nB
theorem shpB_spec {b : Bld} : shpB b = true ↔ (b.nS < 1 ∨ b.nS > 20 ∨ b.nO > 100 ∨ b.nB > 50) := by unfold shpB; rw [decide_eq_true_eq]
theorem rofB_spec {b : Bld} : rofB b = true ↔ (b.roof ≤ b.fl (b.nS - 1) ∨ b.roof > 1000000) := by unfold rofB; rw [decide_eq_true_eq]
theorem floors_ok {b : Bld} (h1 : shpB b = false) (h2 : ∀ i, i < b.nS → stE b i = 0) (h3 : rofB b = false) : outsOk b ∧ flOk b ∧ ∀ i, i < b.nS → b.fl i < topF b i := by
  have s1 : ¬ (b.nS < 1 ∨ b.nS > 20 ∨ b.nO > 100 ∨ b.nB > 50) := fun h => by rw [shpB_spec.2 h] at h1; cases h1
  have s2 : ¬ (b.roof ≤ b.fl (b.nS - 1) ∨ b.roof > 1000000) := fun h => by rw [rofB_spec.2 h] at h3; cases h3
  obtain ⟨o1, o2, o3⟩ := st_ok h2
  have hl := o2 (b.nS - 1) (by omega)
  refine ⟨o1, ⟨o2, by omega, by omega⟩, fun i hi => ?_⟩
  unfold topF
  split
  · exact o3 i (by assumption)
  · rw [show i = b.nS - 1 by omega]; omega
theorem chkB_zero {b : Bld} (h : chkB b = 0) : nameF b.name = true ∧ shpB b = false ∧ (∀ i, i < b.nS → stE b i = 0) ∧ rofB b = false ∧ (∀ i, i < b.nO → opE b i = 0) ∧ (∀ i, i < b.nB → bxE b i = 0) := by
  unfold chkB at h
  split at h
  · cases h
  · rename_i a1
    split at h
    · cases h
    · rename_i a2
      split at h
      · rename_i a3; exact absurd h a3
      · rename_i a3
        split at h
        · cases h
        · rename_i a4
          split at h
          · rename_i a5; exact absurd h a5
          · rename_i a5
            exact ⟨by simpa using a1, by simpa using a2, firstE_zero (Decidable.not_not.1 a3), by simpa using a4, firstE_zero (Decidable.not_not.1 a5), firstE_zero h⟩
def rChkB (b : Bld) : Orc := .res fun _ => dI (chkB b)
def rBlk (b : Bld) : Orc := .res fun l => dB (blkF b (fI 0 (arg l 1)) (fI 1 (arg l 1)) (fI 2 (arg l 1)) (fI 3 (arg l 1)) (fI 4 (arg l 1)) (fI 5 (arg l 1)))
section
variable {b : Bld}
theorem chk_name (h : nameF b.name = false) : chkB b = 4 := by rw [chkB, if_pos h]
theorem chk_shape (h : nameF b.name = true) (h1 : shpB b = true) : chkB b = 11 := by rw [chkB, if_neg (by rw [h]; simp), if_pos h1]
theorem chk_first (h : nameF b.name = true) (h1 : shpB b = false) (h2 : firstE (stE b) b.nS ≠ 0) : chkB b = firstE (stE b) b.nS := by
  rw [chkB, if_neg (by rw [h]; simp), if_neg (by rw [h1]; simp), if_pos h2]
theorem chk_st (h : nameF b.name = true) (h1 : shpB b = false) {i : Nat} (hi : i < b.nS) (h2 : ∀ j, j < i → stE b j = 0) (h3 : stE b i ≠ 0) : chkB b = stE b i := by
  have e := firstE_at h2 h3 hi
  rw [chk_first h h1 (by rw [e]; exact h3), e]
theorem chk_roof (h : nameF b.name = true) (h1 : shpB b = false) (h2 : ∀ j, j < b.nS → stE b j = 0) (h3 : rofB b = true) : chkB b = 2 := by
  rw [chkB, if_neg (by rw [h]; simp), if_neg (by rw [h1]; simp), if_neg (by rw [firstE_none h2]; simp), if_pos h3]
theorem chk_op (h : nameF b.name = true) (h1 : shpB b = false) (h2 : ∀ j, j < b.nS → stE b j = 0) (h3 : rofB b = false) {i : Nat} (hi : i < b.nO) (h4 : ∀ j, j < i → opE b j = 0) (h5 : opE b i ≠ 0) : chkB b = opE b i := by
  have e := firstE_at h4 h5 hi
  rw [chkB, if_neg (by rw [h]; simp), if_neg (by rw [h1]; simp), if_neg (by rw [firstE_none h2]; simp), if_neg (by rw [h3]; simp), if_pos (by rw [e]; exact h5), e]
theorem chk_bx0 (h : nameF b.name = true) (h1 : shpB b = false) (h2 : ∀ j, j < b.nS → stE b j = 0) (h3 : rofB b = false) (h4 : ∀ j, j < b.nO → opE b j = 0) : chkB b = firstE (bxE b) b.nB := by
  rw [chkB, if_neg (by rw [h]; simp), if_neg (by rw [h1]; simp), if_neg (by rw [firstE_none h2]; simp), if_neg (by rw [h3]; simp), if_neg (by rw [firstE_none h4]; simp)]
theorem chk_bx (h : nameF b.name = true) (h1 : shpB b = false) (h2 : ∀ j, j < b.nS → stE b j = 0) (h3 : rofB b = false) (h4 : ∀ j, j < b.nO → opE b j = 0) {i : Nat} (hi : i < b.nB) (h5 : ∀ j, j < i → bxE b j = 0) (h6 : bxE b i ≠ 0) : chkB b = bxE b i := by
  rw [chk_bx0 h h1 h2 h3 h4, firstE_at h5 h6 hi]
theorem bxE_1 {i : Nat} (h : ckI b i ≠ 0) : bxE b i = ckI b i := by rw [bxE, if_pos h]
theorem bxE_2 {i : Nat} (h : ckI b i = 0) (h2 : blI b i = true) : bxE b i = 12 := by rw [bxE, if_neg (by rw [h]; simp), if_pos h2]
theorem bxE_3 {i : Nat} (h : ckI b i = 0) (h2 : blI b i = false) : bxE b i = 0 := by rw [bxE, if_neg (by rw [h]; simp), if_neg (by rw [h2]; simp)]
theorem upto {P : Nat → Prop} {i : Nat} (h : ∀ j, j < i → P j) (hi : P i) : ∀ j, j < i + 1 → P j := fun j hj => by
  rcases Nat.lt_or_ge j i with h1 | h1
  · exact h j h1
  · rw [show j = i by omega]; exact hi
end
noncomputable def A42_check_b (b : Bld) : Ann := { orc := [(1, [(2, rNameF b)]), (5, [(2, .res fun _ => dI (firstE (stE b) b.nS))]), (13, [(6, .res fun l => dI (opE b (lenOf (arg l 2))))]), (20, [(1, rCkB)]), (23, [(2, rBlk b)])], loops := [(0, { ι := Nat, keep := [1, 60, 61], boxes := [1], ts := fun _ i => [(62, dI (i : Int))], inv := fun _ i => i ≤ b.nO ∧ ∀ j, j < i → opE b j = 0, mu := fun _ i => b.nO - i, rd := fun _ σ => (iOf (σ.get 62)).toNat }), (2, { ι := Nat, keep := [1, 79, 80], boxes := [1], ts := fun _ i => [(81, dI (i : Int))], inv := fun _ i => i ≤ b.nB ∧ ∀ j, j < i → bxE b j = 0, mu := fun _ i => b.nB - i, rd := fun _ σ => (iOf (σ.get 81)).toNat })], cuts := [] }
abbrev check_br0 (b : Bld) (r : List Prop) : List Prop := (b.name = b.name) :: (b.nS = b.nS) :: (∀ i < b.nS, b.fl i = b.fl i) :: (∀ i < b.nS, b.N i = b.N i ∧ (∀ i_1 < b.N i, b.X i i_1 = b.X i i_1) ∧ ∀ i_1 < b.N i, b.Y i i_1 = b.Y i i_1) :: (b.roof = b.roof) :: (b.nO = b.nO) :: (∀ i < b.nO, b.O i (0:Nat) = b.O i (0:Nat)) :: (∀ i < b.nO, b.O i (1:Nat) = b.O i (1:Nat)) :: (∀ i < b.nO, b.O i (2:Nat) = b.O i (2:Nat)) :: (∀ i < b.nO, b.O i (3:Nat) = b.O i (3:Nat)) :: (∀ i < b.nO, b.O i (4:Nat) = b.O i (4:Nat)) :: (∀ i < b.nO, b.O i (5:Nat) = b.O i (5:Nat)) :: (b.nB = b.nB) :: (∀ i < b.nB, b.B i (0:Nat) = b.B i (0:Nat)) :: (∀ i < b.nB, b.B i (1:Nat) = b.B i (1:Nat)) :: (∀ i < b.nB, b.B i (2:Nat) = b.B i (2:Nat)) :: (∀ i < b.nB, b.B i (3:Nat) = b.B i (3:Nat)) :: (∀ i < b.nB, b.B i (4:Nat) = b.B i (4:Nat)) :: (∀ i < b.nB, b.B i (5:Nat) = b.B i (5:Nat)) :: r
abbrev check_br1 (b : Bld) (r : List Prop) : List Prop := (b.nO = b.nO) :: (∀ i < b.nO, b.O i (0:Nat) = b.O i (0:Nat)) :: (∀ i < b.nO, b.O i (1:Nat) = b.O i (1:Nat)) :: (∀ i < b.nO, b.O i (2:Nat) = b.O i (2:Nat)) :: (∀ i < b.nO, b.O i (3:Nat) = b.O i (3:Nat)) :: (∀ i < b.nO, b.O i (4:Nat) = b.O i (4:Nat)) :: (∀ i < b.nO, b.O i (5:Nat) = b.O i (5:Nat)) :: ((b.nO:Int) = (b.nO:Int)) :: r
abbrev check_br2 (b : Bld) (r : List Prop) : List Prop := (b.nB = b.nB) :: (∀ i < b.nB, b.B i (0:Nat) = b.B i (0:Nat)) :: (∀ i < b.nB, b.B i (1:Nat) = b.B i (1:Nat)) :: (∀ i < b.nB, b.B i (2:Nat) = b.B i (2:Nat)) :: (∀ i < b.nB, b.B i (3:Nat) = b.B i (3:Nat)) :: (∀ i < b.nB, b.B i (4:Nat) = b.B i (4:Nat)) :: (∀ i < b.nB, b.B i (5:Nat) = b.B i (5:Nat)) :: ((b.nB:Int) = (b.nB:Int)) :: r
namespace w1k
noncomputable section
variable (z : Bld) (i0 : Nat) (p : Prop) (P : List Prop) (a b : Int) (k l m : Nat) (g h : Bool) (U V : VT) (j15a : Nat → Prop) (j16a : Nat → VT) (j18a : List Value)
abbrev x0 := Int.toNat (i0:Int)
abbrev x1 := if g = true then true else (decide (a > b))
abbrev x2 := decide ((z.nS:Int) < (1:Int))
abbrev x3 : List Value := Value.int IntKind.i64 a :: Value.int IntKind.i64 b :: j18a
abbrev x4 := Int.toNat 0
abbrev x5 := x1 (z.nS:Int) (20:Int) (x2 z)
abbrev x6 := Int.toNat ((i0:Int) + 1)
abbrev x7 := (z.nS:Int) - 1
abbrev x8 := VT.ite g (VT.done [a = chkB z]) U
abbrev x9 := dI (z.O (i0 + x4) k)
abbrev x10 := x1 (z.nO:Int) (100:Int) (x5 z)
abbrev x11 := decide (z.roof ≤ (z.fl (Int.toNat (x7 z))))
abbrev x12 : List Prop := ri ((!g) = true) :: ri ((!h) = true) :: P
abbrev x13 := g = false → (!h) = true
abbrev x14 := opE z (x0 i0 - x4)
abbrev x15 := DV.val (Value.agg (Array.mk (x3 a b j18a)))
abbrev x16 := firstE (stE z) z.nS
abbrev x17 := ckB (z.B (x0 i0) 0) (z.B (x0 i0) 1) (z.B (x0 i0) 2) (z.B (x0 i0) 3) (z.B (x0 i0) 4) (z.B (x0 i0) 5)
abbrev x18 := VT.ite (decide ((i0:Int) < a)) (VT.need [0 ≤ (i0:Int) ∧ (i0:Int) < b] U) V
abbrev x19 := VT.loop Nat j15a x4 ((0 = (x4:Int)) :: P) j16a
abbrev x20 := VT.need [i64In ((i0:Int) + 1)] (VT.done (((i0:Int) + 1 = (↑(x6 i0) : Int)) :: P))
abbrev x21 := check_br0 z [x6 i0 ≤ k ∧ p, l - x6 i0 < m - i0]
abbrev x22 := x15 (z.B (x0 i0) 0) (z.B (x0 i0) 1) (x3 (z.B (x0 i0) 2) (z.B (x0 i0) 3) (x3 (z.B (x0 i0) 4) (z.B (x0 i0) 5) []))
abbrev x23 := blkF z (z.B (x0 i0) 0) (z.B (x0 i0) 1) (z.B (x0 i0) 2) (z.B (x0 i0) 3) (z.B (x0 i0) 4) (z.B (x0 i0) 5)
abbrev xt : VT := VT.need [FnC prog 115 [DV.val (Value.string z.name)] (dB (nameF z.name))] (x8 z (4:Int) (!(nameF z.name)) (VT.need (x12 (ri ((!(x2 z)) = true) :: x13 (x2 z) (x2 z) :: x12 (ri ((!(x5 z)) = true) :: x13 (x5 z) (x5 z) :: x12 [ri ((!(x10 z)) = true), x13 (x10 z) (x10 z)] (x10 z) (x10 z)) (x5 z) (x5 z)) (x2 z) (x2 z)) (x8 z (11:Int) (x1 (z.nB:Int) (50:Int) (x10 z)) (VT.need [FnC prog 116 [DV.lst z.nS [fun i0 => dI (z.fl i0), fun i0 => DV.lst (z.N i0) [fun i1 => dI (z.X i0 i1), fun i1 => dI (z.Y i0 i1)]]] (dI (x16 z))] (x8 z (x16 z) (x16 z != 0) (VT.need (i64In (x7 z) :: (0 ≤ x7 z ∧ x7 z < (z.nS:Int)) :: x12 [x13 (x11 z) (x11 z)] (x11 z) (x11 z)) (x8 z (2:Int) (x1 z.roof (1000000:Int) (x11 z)) (x19 (check_br1 z (check_br0 z [])) (fun i0 => i0 ≤ z.nO ∧ (∀ i1 < i0, opE z i1 = 0)) (fun i0 => x18 i0 (z.nO:Int) (z.nO:Int) (VT.need [(0:Int) ≤ (0:Int) ∧ 0 ≤ (i0:Int) ∧ (i0:Int) ≤ (z.nO:Int), FnC prog 117 [bld z, x15 (z.O (x0 i0) 0) (z.O (x0 i0) 1) (x3 (z.O (x0 i0) 2) (z.O (x0 i0) 3) (x3 (z.O (x0 i0) 4) (z.O (x0 i0) 5) [])), DV.lst (x0 i0 - x4) [fun i0 => x9 z i0 (0:Nat), fun i0 => x9 z i0 (1:Nat), fun i0 => x9 z i0 (2:Nat), fun i0 => x9 z i0 (3:Nat), fun i0 => x9 z i0 (4:Nat), fun i0 => x9 z i0 (5:Nat)]] (dI (x14 z i0))] (x8 z (x14 z i0) (x14 z i0 != 0) (x20 i0 (check_br1 z (x21 z i0 (∀ i1 < x6 i0, opE z i1 = 0) z.nO z.nO z.nO))))) (x19 (check_br2 z (check_br0 z [])) (fun i0 => i0 ≤ z.nB ∧ (∀ i1 < i0, bxE z i1 = 0)) (fun i0 => x18 i0 (z.nB:Int) (z.nB:Int) (VT.need [FnC prog 118 [x22 z i0] (dI (x17 z i0))] (x8 z (x17 z i0) (x17 z i0 != 0) (VT.need [FnC prog 119 [bld z, x22 z i0] (dB (x23 z i0))] (x8 z (12:Int) (x23 z i0) (x20 i0 (check_br2 z (x21 z i0 (∀ i1 < x6 i0, bxE z i1 = 0) z.nB z.nB z.nB))))))) (VT.done [0 = chkB z]))))))))))))
end
end w1k
open w1k in
theorem check_b (b : Bld) (hN : ∀ i, i < b.nS → b.N i ≤ 1000) : FnC prog 80 [bld b] (dI (chkB b)) := by
  refine FnC_owed hmix (A42_check_b b) (V := xt b) (by kernel_rfl) ?_
  simp only [xt, x0, x1, x2, x3, x4, x5, x6, x7, x8, x9, x10, x11, x12, x13, x14, x15, x16, x17, x18, x19, x20, x21, x22, x23, Rf, VT.holds, AllT, Sq]
  simp only [Nat.sub_zero]
  refine ⟨isName_c b.name, fun h => (chk_name h).symm, fun hn => ⟨fun h => (chk_shape hn (shpB_spec.2 (by omega))).symm, fun h => ?_⟩⟩
  have hs : shpB b = false := by
    cases h1 : shpB b with
    | false => rfl
    | true => have := shpB_spec.1 h1; omega
  refine ⟨checkStoreys_c b (by omega) hN, fun h1 => (chk_first hn hs h1).symm, fun h1 => ?_⟩
  have hst := firstE_zero h1
  have e1 : ((b.nS : Int) - 1).toNat = b.nS - 1 := by omega
  rw [e1]
  refine ⟨⟨by unfold i64In; omega, by omega, by omega⟩, fun h2 => (chk_roof hn hs hst (rofB_spec.2 h2)).symm, fun h2 => ?_⟩
  have hr : rofB b = false := by
    cases h3 : rofB b with
    | false => rfl
    | true => have := rofB_spec.1 h3; omega
  obtain ⟨f1, f2, f3⟩ := floors_ok hs hst hr
  refine ⟨rfl, ⟨Nat.zero_le _, fun j hj => absurd hj (Nat.not_lt_zero j)⟩, fun i ⟨hi, hb⟩ => ⟨fun hlt => ⟨⟨by omega, hlt⟩, ⟨⟨Int.le_refl _, by omega, by omega⟩, opening_c b i (by omega) (by omega) f1 f2⟩, fun h3 => (chk_op hn hs hst hr (by omega) hb h3).symm, fun h3 => ⟨by unfold i64In; omega, by omega, ⟨by omega, upto hb h3⟩, by omega⟩⟩, fun hge => ?_⟩⟩
  have hop : ∀ j, j < b.nO → opE b j = 0 := fun j hj => hb j (by omega)
  refine ⟨rfl, ⟨Nat.zero_le _, fun j hj => absurd hj (Nat.not_lt_zero j)⟩, fun k ⟨hk, hb2⟩ => ⟨fun hlt => ⟨⟨by omega, hlt⟩, checkBox_c _ _ _ _ _ _, fun h3 => ?_, fun h3 => ⟨blocks_c b _ _ _ _ _ _ (by omega) f1 h3, fun h4 => ?_, fun h4 => ⟨by unfold i64In; omega, by omega, ⟨by omega, upto hb2 (bxE_3 h3 h4)⟩, by omega⟩⟩⟩, fun hge2 => ?_⟩⟩
  · have e := bxE_1 (b := b) (i := k) h3
    rw [chk_bx hn hs hst hr hop (by omega) hb2 (by rw [e]; exact h3), e]; rfl
  · have e := bxE_2 (b := b) (i := k) h3 h4
    rw [chk_bx hn hs hst hr hop (by omega) hb2 (by rw [e]; simp), e]
  · rw [chk_bx0 hn hs hst hr hop, firstE_none (fun j hj => hb2 j (by omega))]
noncomputable def A41_checkR_b (b : Bld) : Ann := { orc := [(1, [(2, rNameF b)]), (3, [(3, rWithin)]), (9, [(2, rChk)]), (14, [(12, rCov)]), (21, [(2, .res fun l => dI (opE b (aI l 1).toNat))]), (27, [(5, rCkB)]), (30, [(6, rBlk b)])], loops := [(0, { ι := Nat, keep := [1], boxes := [1], ts := fun _ i => [(3, dI (i : Int))], inv := fun _ i => i ≤ b.nS ∧ ∀ j, j < i → stE b j = 0, mu := fun _ i => b.nS - i, rd := fun _ σ => (iOf (σ.get 3)).toNat }), (2, { ι := Nat, keep := [1], boxes := [1], ts := fun _ i => [(6, dI (i : Int))], inv := fun _ i => i ≤ b.nO ∧ ∀ j, j < i → opE b j = 0, mu := fun _ i => b.nO - i, rd := fun _ σ => (iOf (σ.get 6)).toNat }), (4, { ι := Nat, keep := [1], boxes := [1], ts := fun _ i => [(8, dI (i : Int))], inv := fun _ i => i ≤ b.nB ∧ ∀ j, j < i → bxE b j = 0, mu := fun _ i => b.nB - i, rd := fun _ σ => (iOf (σ.get 8)).toNat })], cuts := [] }
abbrev checkR_br0 (b : Bld) (r : List Prop) : List Prop := (b.name = b.name) :: (b.nS = b.nS) :: (∀ i < b.nS, b.fl i = b.fl i) :: (∀ i < b.nS, b.N i = b.N i ∧ (∀ i_1 < b.N i, b.X i i_1 = b.X i i_1) ∧ ∀ i_1 < b.N i, b.Y i i_1 = b.Y i i_1) :: (b.roof = b.roof) :: (b.nO = b.nO) :: (∀ i < b.nO, b.O i (0:Nat) = b.O i (0:Nat)) :: (∀ i < b.nO, b.O i (1:Nat) = b.O i (1:Nat)) :: (∀ i < b.nO, b.O i (2:Nat) = b.O i (2:Nat)) :: (∀ i < b.nO, b.O i (3:Nat) = b.O i (3:Nat)) :: (∀ i < b.nO, b.O i (4:Nat) = b.O i (4:Nat)) :: (∀ i < b.nO, b.O i (5:Nat) = b.O i (5:Nat)) :: (b.nB = b.nB) :: (∀ i < b.nB, b.B i (0:Nat) = b.B i (0:Nat)) :: (∀ i < b.nB, b.B i (1:Nat) = b.B i (1:Nat)) :: (∀ i < b.nB, b.B i (2:Nat) = b.B i (2:Nat)) :: (∀ i < b.nB, b.B i (3:Nat) = b.B i (3:Nat)) :: (∀ i < b.nB, b.B i (4:Nat) = b.B i (4:Nat)) :: (∀ i < b.nB, b.B i (5:Nat) = b.B i (5:Nat)) :: r
namespace w1l
noncomputable section
variable (z : Bld) (i0 : Nat) (p : Prop) (P : List Prop) (a b : Int) (k l m : Nat) (g h : Bool) (E : List DV) (U V : VT) (j12a : Nat → Prop) (j13a : Nat → VT) (j18a : List Value)
abbrev x0 : Int := (i0:Int)
abbrev x1 := Int.toNat (x0 i0)
abbrev x2 := z.B (x1 i0) k
abbrev x3 : Int := (z.nS:Int)
abbrev x4 := decide ((x0 i0) > (0:Int))
abbrev x5 := if (x0 i0 == 0) = true then (z.fl (x1 i0) != 0) else false
abbrev x6 := Int.toNat (x0 i0 - 1)
abbrev x7 : List Prop := ri (g = true) :: ri (h = true) :: P
abbrev x8 := Int.toNat (x0 i0 + 1)
abbrev x9 := (!(x5 z i0)) && (x4 i0)
abbrev x10 := decide ((1 ≤ x3 z) ∧ (x3 z ≤ 20))
abbrev x11 : List Value := Value.int IntKind.i64 (x2 z i0 k) :: Value.int IntKind.i64 (x2 z i0 l) :: j18a
abbrev x12 := if g = true then true else (decide (a > b))
abbrev x13 := VT.need P (VT.ite g (VT.done [a = chkB z]) U)
abbrev x14 := if (x4 i0) = true then g else false
abbrev x15 := x12 (z.nO:Int) (100:Int) (!(x10 z))
abbrev x16 : List Prop := p :: ri (g = true) :: P
abbrev x17 := decide (z.roof ≤ (z.fl (Int.toNat (x3 z - 1))))
abbrev x18 := g = false → h = true
abbrev x19 := if (x5 z i0) = true then true else (x14 i0 (decide ((z.fl (x1 i0)) ≤ (z.fl (x6 i0)))))
abbrev x20 : List Prop := ri (g = true) :: (h = true → p) :: P
abbrev x21 := FnC prog k E (dB g)
abbrev x22 := x7 P (x4 i0) (x4 i0)
abbrev x23 := x7 P (x9 z i0) (x9 z i0)
abbrev x24 := VT.ite (decide ((x0 i0) < a)) U V
abbrev x25 := chk (z.N (x1 i0)) (z.X (x1 i0)) (z.Y (x1 i0))
abbrev x26 := VT.loop Nat j12a (Int.toNat 0) ((0 = (↑(Int.toNat 0) : Int)) :: checkR_br0 z []) j13a
abbrev x27 := VT.need [i64In (x0 i0 + 1)] (VT.done ((x0 i0 + 1 = (↑(x8 i0) : Int)) :: checkR_br0 z [x8 i0 ≤ k ∧ p, l - x8 i0 < m - i0]))
abbrev x28 := ckB (x2 z i0 (0:Nat)) (x2 z i0 (1:Nat)) (x2 z i0 (2:Nat)) (x2 z i0 (3:Nat)) (x2 z i0 (4:Nat)) (x2 z i0 (5:Nat))
abbrev x29 := 0 ≤ x0 i0 - 1 ∧ x0 i0 - 1 < x3 z
abbrev x30 := DV.lst (z.N (x1 i0)) [fun i1 => dI (z.X (x1 i0) i1), fun i1 => dI (z.Y (x1 i0) i1)]
abbrev x31 := DV.val (Value.agg (Array.mk (x11 z i0 (0:Nat) (1:Nat) (x11 z i0 (2:Nat) (3:Nat) (x11 z i0 (4:Nat) (5:Nat) [])))))
abbrev x32 := covF (z.N (x6 i0)) (z.X (x6 i0)) (z.Y (x6 i0)) (z.N (x1 i0)) (z.X (x1 i0)) (z.Y (x1 i0))
abbrev x33 := blkF z (x2 z i0 (0:Nat)) (x2 z i0 (1:Nat)) (x2 z i0 (2:Nat)) (x2 z i0 (3:Nat)) (x2 z i0 (4:Nat)) (x2 z i0 (5:Nat))
abbrev xt : VT := x13 z [x21 (95:Nat) (nameF z.name) [DV.val (Value.string z.name)]] (4:Int) (!(nameF z.name)) (x13 z (x16 (x21 (34:Nat) (x10 z) [dI (x3 z), dI 1, dI 20]) (x7 (x16 (x18 (!(x10 z)) (!(!(x10 z)))) (x7 [x18 (x15 z) (!(x15 z))] (!(x15 z)) (!(x15 z))) (!(x15 z))) (!(!(x10 z))) (!(!(x10 z)))) (!(!(x10 z)))) (11:Int) (x12 (z.nB:Int) (50:Int) (x15 z)) (x26 z (fun i0 => i0 ≤ z.nS ∧ (∀ i1 < i0, stE z i1 = 0)) (fun i0 => x24 i0 (x3 z) (VT.need [0 ≤ x0 i0 ∧ x0 i0 < x3 z] (x13 z [FnC prog 96 [x30 z i0] (dI (x25 z i0))] (x25 z i0) (x25 z i0 != 0) (x13 z (x7 (x7 (x7 (x23 z i0 (x16 (x9 z i0 = true → i64In (x0 i0 - 1)) (x20 (x29 z i0) (x23 z i0 (x23 z i0 (x20 (x4 i0 = true → x9 z i0 = true) (x16 (x18 (x5 z i0) (!(x5 z i0))) [ri ((!(x19 z i0)) = true), x18 (x19 z i0) (!(x19 z i0))] (!(x19 z i0))) (!(x5 z i0)) (!(x5 z i0))))) (x9 z i0) (x9 z i0)) (x9 z i0))) (!(x5 z i0)) (x9 z i0)) (x0 i0 == 0) (!(x5 z i0))) (x0 i0 == 0) (x0 i0 == 0)) (10:Int) (x12 (z.fl (x1 i0)) (1000000:Int) (x19 z i0)) (x13 z (x22 i0 (x16 (x4 i0 = true → i64In (x0 i0 - 1)) (x20 (x29 z i0) (x22 i0 (x22 i0 (x20 (x21 (97:Nat) (x32 z i0) [DV.lst (z.N (x6 i0)) [fun i1 => dI (z.X (x6 i0) i1), fun i1 => dI (z.Y (x6 i0) i1)], x30 z i0]) (x22 i0 []) (x4 i0) (x4 i0)))) (x4 i0) (x4 i0)) (x4 i0))) (12:Int) (x14 i0 (!(x32 z i0))) (x27 z i0 (∀ i1 < x8 i0, stE z i1 = 0) z.nS z.nS z.nS))))) (x13 z (i64In (x3 z - 1) :: (0 ≤ x3 z - 1 ∧ x3 z - 1 < x3 z) :: x7 [x18 (x17 z) (!(x17 z))] (!(x17 z)) (!(x17 z))) (2:Int) (x12 z.roof (1000000:Int) (x17 z)) (x26 z (fun i0 => i0 ≤ z.nO ∧ (∀ i1 < i0, opE z i1 = 0)) (fun i0 => x24 i0 (z.nO:Int) (x13 z [FnC prog 98 [bld z, dI (x0 i0)] (dI (opE z (x1 i0)))] (opE z (x1 i0)) (opE z (x1 i0) != 0) (x27 z i0 (∀ i1 < x8 i0, opE z i1 = 0) z.nO z.nO z.nO)) (x26 z (fun i0 => i0 ≤ z.nB ∧ (∀ i1 < i0, bxE z i1 = 0)) (fun i0 => x24 i0 (z.nB:Int) (x13 z [0 ≤ x0 i0 ∧ x0 i0 < (z.nB:Int), FnC prog 99 [x31 z i0] (dI (x28 z i0))] (x28 z i0) (x28 z i0 != 0) (x13 z [0 ≤ x0 i0 ∧ x0 i0 < (z.nB:Int), x21 (100:Nat) (x33 z i0) [bld z, x31 z i0]] (12:Int) (x33 z i0) (x27 z i0 (∀ i1 < x8 i0, bxE z i1 = 0) z.nB z.nB z.nB))) (VT.done [0 = chkB z])))))))))
end
end w1l
open w1l in
theorem checkR_b (b : Bld) (hN : ∀ i, i < b.nS → b.N i ≤ 1000) : FnC prog 62 [bld b] (dI (chkB b)) := by
  refine FnC_owed hmix (A41_checkR_b b) (V := xt b) (by kernel_rfl) ?_
  simp only [xt, x0, x1, x2, x3, x4, x5, x6, x7, x8, x9, x10, x11, x12, x13, x14, x15, x16, x17, x18, x19, x20, x21, x22, x23, x24, x25, x26, x27, x28, x29, x30, x31, x32, x33, Rf, VT.holds, AllT, Sq]
  refine ⟨isNameR_c b.name, fun h => (chk_name h).symm, fun hn => ⟨within_c _ _ _, fun h => (chk_shape hn (shpB_spec.2 (by omega))).symm, fun h => ?_⟩⟩
  have hs : shpB b = false := by
    cases h1 : shpB b with
    | false => rfl
    | true => have := shpB_spec.1 h1; omega
  refine ⟨rfl, ⟨Nat.zero_le _, fun j hj => absurd hj (Nat.not_lt_zero j)⟩, fun i ⟨hi, hb0⟩ => ⟨fun hlt => ?_, fun hge0 => ?_⟩⟩
  · have hp : ((i : Int) - 1).toNat = i - 1 := by omega
    simp only [hp]
    have hNi := hN i (by omega)
    have hst : stE b i = if chk (b.N i) (b.X i) (b.Y i) ≠ 0 then chk (b.N i) (b.X i) (b.Y i) else if ordB b i = true then 10 else if 0 < i ∧ covF (b.N (i - 1)) (b.X (i - 1)) (b.Y (i - 1)) (b.N i) (b.X i) (b.Y i) = false then 12 else 0 := rfl
    refine ⟨⟨by omega, hlt⟩, checkR_c _ _ _ (by omega), fun h1 => ?_, fun hc => ?_⟩
    · have e : stE b i = chk (b.N i) (b.X i) (b.Y i) := by rw [hst, if_pos h1]
      rw [chk_st hn hs (by omega) hb0 (by rw [e]; exact h1), e]
    · refine ⟨⟨fun _ => by unfold i64In; omega, fun _ => by omega, fun h1 h2 => ⟨h1, h2⟩⟩, fun h1 => ?_, fun h1 => ?_⟩
      · have ho : ordB b i = true := by
          rw [ordB, decide_eq_true_eq]
          omega
        have e : stE b i = 10 := by rw [hst, if_neg (by rw [hc]; simp), if_pos ho]
        rw [chk_st hn hs (by omega) hb0 (by rw [e]; simp), e]
      · have ho : ordB b i = false := by
          rw [ordB, decide_eq_false_iff_not]
          omega
        refine ⟨⟨fun _ => by unfold i64In; omega, fun _ => by omega, fun h2 => coversR_c _ _ _ _ _ _ (stE_zero (hb0 (i - 1) (by omega))).1 hc⟩, fun h2 => ?_, fun h2 => ⟨by unfold i64In; omega, by omega, ⟨by omega, upto hb0 ?_⟩, by omega⟩⟩
        · have e : stE b i = 12 := by rw [hst, if_neg (by rw [hc]; simp), if_neg (by rw [ho]; simp), if_pos ⟨by omega, h2.2⟩]
          rw [chk_st hn hs (by omega) hb0 (by rw [e]; simp), e]
        · rw [hst, if_neg (by rw [hc]; simp), if_neg (by rw [ho]; simp), if_neg]
          rintro ⟨h4, h5⟩
          rw [h2 (by omega)] at h5
          cases h5
  · have hst : ∀ j, j < b.nS → stE b j = 0 := fun j hj => hb0 j (by omega)
    have e1 : ((b.nS : Int) - 1).toNat = b.nS - 1 := by omega
    rw [e1]
    refine ⟨⟨by unfold i64In; omega, by omega, by omega⟩, fun h2 => (chk_roof hn hs hst (rofB_spec.2 h2)).symm, fun h2 => ?_⟩
    have hr : rofB b = false := by
      cases h3 : rofB b with
      | false => rfl
      | true => have := rofB_spec.1 h3; omega
    obtain ⟨f1, f2, f3⟩ := floors_ok hs hst hr
    refine ⟨rfl, ⟨Nat.zero_le _, fun j hj => absurd hj (Nat.not_lt_zero j)⟩, fun i ⟨hi, hb⟩ => ⟨fun hlt => ⟨openingR_c b i (by omega) (by omega) (by omega) f1 f2 hb, fun h3 => (chk_op hn hs hst hr (by omega) hb h3).symm, fun h3 => ⟨by unfold i64In; omega, by omega, ⟨by omega, upto hb h3⟩, by omega⟩⟩, fun hge => ?_⟩⟩
    have hop : ∀ j, j < b.nO → opE b j = 0 := fun j hj => hb j (by omega)
    refine ⟨rfl, ⟨Nat.zero_le _, fun j hj => absurd hj (Nat.not_lt_zero j)⟩, fun k ⟨hk, hb2⟩ => ⟨fun hlt => ⟨⟨⟨by omega, hlt⟩, checkBoxR_c _ _ _ _ _ _⟩, fun h3 => ?_, fun h3 => ⟨⟨⟨by omega, hlt⟩, blocksR_c b _ _ _ _ _ _ (by omega) f1 f3 h3⟩, fun h4 => ?_, fun h4 => ⟨by unfold i64In; omega, by omega, ⟨by omega, upto hb2 (bxE_3 h3 h4)⟩, by omega⟩⟩⟩, fun hge2 => ?_⟩⟩
    · have e := bxE_1 (b := b) (i := k) h3
      rw [chk_bx hn hs hst hr hop (by omega) hb2 (by rw [e]; exact h3), e]; rfl
    · have e := bxE_2 (b := b) (i := k) h3 h4
      rw [chk_bx hn hs hst hr hop (by omega) hb2 (by rw [e]; simp), e]
    · rw [chk_bx0 hn hs hst hr hop, firstE_none (fun j hj => hb2 j (by omega))]
end Go.Abs
