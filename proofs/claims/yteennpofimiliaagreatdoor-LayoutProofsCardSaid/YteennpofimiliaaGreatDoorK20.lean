/- Contracts. -/
import Derived.Test.YteennpofimiliaaGreatDoorK19
set_option linter.unusedVariables false
set_option linter.unusedSimpArgs false
set_option maxRecDepth 100000
namespace Go.Abs
open Go
def ckI (b : Bld) (i : Nat) : Int := ckB (b.B i 0) (b.B i 1) (b.B i 2) (b.B i 3) (b.B i 4) (b.B i 5)
def blI (b : Bld) (i : Nat) : Bool := blkF b (b.B i 0) (b.B i 1) (b.B i 2) (b.B i 3) (b.B i 4) (b.B i 5)
def shpB (b : Bld) : Bool := decide (b.nS < 1 ∨ b.nS > 20 ∨ b.nO > 100 ∨ b.nB > 50)
def bxE (b : Bld) (i : Nat) : Int := if ckI b i ≠ 0 then ckI b i else if blI b i = true then 12 else 0
def rofB (b : Bld) : Bool := decide (b.roof ≤ b.fl (b.nS - 1) ∨ b.roof > 1000000)
def chkB (b : Bld) : Int := if nameF b.name = false then 4 else if shpB b = true then 11 else if firstE (stE b) b.nS ≠ 0 then firstE (stE b) b.nS else if rofB b = true then 2 else if firstE (opE b) b.nO ≠ 0 then firstE (opE b) b.nO else firstE (bxE b) b.nB
theorem shpB_spec {b : Bld} : shpB b = true ↔ (b.nS < 1 ∨ b.nS > 20 ∨ b.nO > 100 ∨ b.nB > 50) := by unfold shpB; rw [decide_eq_true_eq]
theorem rofB_spec {b : Bld} : rofB b = true ↔ (b.roof ≤ b.fl (b.nS - 1) ∨ b.roof > 1000000) := by unfold rofB; rw [decide_eq_true_eq]
theorem floors_ok {b : Bld} (h1 : shpB b = false) (h2 : ∀ i, i < b.nS → stE b i = 0) (h3 : rofB b = false) : outsOk b ∧ flOk b ∧ ∀ i, i < b.nS → b.fl i < topF b i := by
  have s1 : ¬ (b.nS < 1 ∨ b.nS > 20 ∨ b.nO > 100 ∨ b.nB > 50) := fun h => by rw [shpB_spec.2 h] at h1; cases h1
  have s2 : ¬ (b.roof ≤ b.fl (b.nS - 1) ∨ b.roof > 1000000) := fun h => by rw [rofB_spec.2 h] at h3; cases h3
  obtain ⟨o1, o2, o3⟩ := st_ok h2
  have hl := o2 (b.nS - 1) (by omega)
  refine ⟨o1, ⟨o2, by omega, by omega⟩, fun i hi => ?_⟩
  unfold topF
  split
  · exact o3 i (by assumption)
  · rw [show i = b.nS - 1 by omega]; omega
theorem chkB_zero {b : Bld} (h : chkB b = 0) : nameF b.name = true ∧ shpB b = false ∧ (∀ i, i < b.nS → stE b i = 0) ∧ rofB b = false ∧ (∀ i, i < b.nO → opE b i = 0) ∧ (∀ i, i < b.nB → bxE b i = 0) := by
  unfold chkB at h
  split at h
  · cases h
  · rename_i a1
    split at h
    · cases h
    · rename_i a2
      split at h
      · rename_i a3; exact absurd h a3
      · rename_i a3
        split at h
        · cases h
        · rename_i a4
          split at h
          · rename_i a5; exact absurd h a5
          · rename_i a5
            exact ⟨by simpa using a1, by simpa using a2, firstE_zero (Decidable.not_not.1 a3), by simpa using a4, firstE_zero (Decidable.not_not.1 a5), firstE_zero h⟩
def rChkB (b : Bld) : Orc := .res fun _ => dI (chkB b)
def rBlk (b : Bld) : Orc := .res fun l => dB (blkF b (fI 0 (arg l 1)) (fI 1 (arg l 1)) (fI 2 (arg l 1)) (fI 3 (arg l 1)) (fI 4 (arg l 1)) (fI 5 (arg l 1)))
section
variable {b : Bld}
theorem chk_name (h : nameF b.name = false) : chkB b = 4 := by rw [chkB, if_pos h]
theorem chk_shape (h : nameF b.name = true) (h1 : shpB b = true) : chkB b = 11 := by rw [chkB, if_neg (by rw [h]; simp), if_pos h1]
theorem chk_first (h : nameF b.name = true) (h1 : shpB b = false) (h2 : firstE (stE b) b.nS ≠ 0) : chkB b = firstE (stE b) b.nS := by
  rw [chkB, if_neg (by rw [h]; simp), if_neg (by rw [h1]; simp), if_pos h2]
theorem chk_st (h : nameF b.name = true) (h1 : shpB b = false) {i : Nat} (hi : i < b.nS) (h2 : ∀ j, j < i → stE b j = 0) (h3 : stE b i ≠ 0) : chkB b = stE b i := by
  have e := firstE_at h2 h3 hi
  rw [chk_first h h1 (by rw [e]; exact h3), e]
theorem chk_roof (h : nameF b.name = true) (h1 : shpB b = false) (h2 : ∀ j, j < b.nS → stE b j = 0) (h3 : rofB b = true) : chkB b = 2 := by
  rw [chkB, if_neg (by rw [h]; simp), if_neg (by rw [h1]; simp), if_neg (by rw [firstE_none h2]; simp), if_pos h3]
theorem chk_op (h : nameF b.name = true) (h1 : shpB b = false) (h2 : ∀ j, j < b.nS → stE b j = 0) (h3 : rofB b = false) {i : Nat} (hi : i < b.nO) (h4 : ∀ j, j < i → opE b j = 0) (h5 : opE b i ≠ 0) : chkB b = opE b i := by
  have e := firstE_at h4 h5 hi
  rw [chkB, if_neg (by rw [h]; simp), if_neg (by rw [h1]; simp), if_neg (by rw [firstE_none h2]; simp), if_neg (by rw [h3]; simp), if_pos (by rw [e]; exact h5), e]
theorem chk_bx0 (h : nameF b.name = true) (h1 : shpB b = false) (h2 : ∀ j, j < b.nS → stE b j = 0) (h3 : rofB b = false) (h4 : ∀ j, j < b.nO → opE b j = 0) : chkB b = firstE (bxE b) b.nB := by
  rw [chkB, if_neg (by rw [h]; simp), if_neg (by rw [h1]; simp), if_neg (by rw [firstE_none h2]; simp), if_neg (by rw [h3]; simp), if_neg (by rw [firstE_none h4]; simp)]
theorem chk_bx (h : nameF b.name = true) (h1 : shpB b = false) (h2 : ∀ j, j < b.nS → stE b j = 0) (h3 : rofB b = false) (h4 : ∀ j, j < b.nO → opE b j = 0) {i : Nat} (hi : i < b.nB) (h5 : ∀ j, j < i → bxE b j = 0) (h6 : bxE b i ≠ 0) : chkB b = bxE b i := by
  rw [chk_bx0 h h1 h2 h3 h4, firstE_at h5 h6 hi]
theorem bxE_1 {i : Nat} (h : ckI b i ≠ 0) : bxE b i = ckI b i := by rw [bxE, if_pos h]
theorem bxE_2 {i : Nat} (h : ckI b i = 0) (h2 : blI b i = true) : bxE b i = 12 := by rw [bxE, if_neg (by rw [h]; simp), if_pos h2]
theorem bxE_3 {i : Nat} (h : ckI b i = 0) (h2 : blI b i = false) : bxE b i = 0 := by rw [bxE, if_neg (by rw [h]; simp), if_neg (by rw [h2]; simp)]
theorem upto {P : Nat → Prop} {i : Nat} (h : ∀ j, j < i → P j) (hi : P i) : ∀ j, j < i + 1 → P j := fun j hj => by
  rcases Nat.lt_or_ge j i with h1 | h1
  · exact h j h1
  · rw [show j = i by omega]; exact hi
end
noncomputable def A42_check_b (b : Bld) : Ann := { orc := [(1, [(2, rNameF b)]), (5, [(2, .res fun _ => dI (firstE (stE b) b.nS))]), (13, [(6, .res fun l => dI (opE b (lenOf (arg l 2))))]), (20, [(1, rCkB)]), (23, [(2, rBlk b)])], loops := [(0, { ι := Nat, keep := [1, 60, 61], boxes := [1], ts := fun _ i => [(62, dI (i : Int))], inv := fun _ i => i ≤ b.nO ∧ ∀ j, j < i → opE b j = 0, mu := fun _ i => b.nO - i, rd := fun _ σ => (iOf (σ.get 62)).toNat }), (2, { ι := Nat, keep := [1, 79, 80], boxes := [1], ts := fun _ i => [(81, dI (i : Int))], inv := fun _ i => i ≤ b.nB ∧ ∀ j, j < i → bxE b j = 0, mu := fun _ i => b.nB - i, rd := fun _ σ => (iOf (σ.get 81)).toNat })], cuts := [] }
abbrev q_check_b_0 (b : Bld) : Bool := decide ((b.nS:Int) < (1:Int))
abbrev q_check_b_1 (b : Bld) : Bool := decide ((b.nS:Int) > (20:Int))
abbrev q_check_b_2 (b : Bld) : Bool := decide ((b.nO:Int) > (100:Int))
abbrev q_check_b_3 (b : Bld) : Bool := if (q_check_b_0 b) = true then true else (q_check_b_1 b)
abbrev q_check_b_4 (b : Bld) : Bool := !if (q_check_b_0 b) = true then true else (q_check_b_1 b)
abbrev q_check_b_5 (b : Bld) : Bool := !if (q_check_b_3 b) = true then true else (q_check_b_2 b)
abbrev q_check_b_6 (b : Bld) : Bool := decide (b.roof ≤ b.fl (Int.toNat ((b.nS:Int) - (1:Int))))
abbrev check_br0 (b : Bld) (r : List Prop) : List Prop := (b.name = b.name) :: (b.nS = b.nS) :: (∀ i < b.nS, b.fl i = b.fl i) :: (∀ i < b.nS, b.N i = b.N i ∧ (∀ i_1 < b.N i, b.X i i_1 = b.X i i_1) ∧ ∀ i_1 < b.N i, b.Y i i_1 = b.Y i i_1) :: (b.roof = b.roof) :: (b.nO = b.nO) :: (∀ i < b.nO, b.O i (0:Nat) = b.O i (0:Nat)) :: (∀ i < b.nO, b.O i (1:Nat) = b.O i (1:Nat)) :: (∀ i < b.nO, b.O i (2:Nat) = b.O i (2:Nat)) :: (∀ i < b.nO, b.O i (3:Nat) = b.O i (3:Nat)) :: (∀ i < b.nO, b.O i (4:Nat) = b.O i (4:Nat)) :: (∀ i < b.nO, b.O i (5:Nat) = b.O i (5:Nat)) :: (b.nB = b.nB) :: (∀ i < b.nB, b.B i (0:Nat) = b.B i (0:Nat)) :: (∀ i < b.nB, b.B i (1:Nat) = b.B i (1:Nat)) :: (∀ i < b.nB, b.B i (2:Nat) = b.B i (2:Nat)) :: (∀ i < b.nB, b.B i (3:Nat) = b.B i (3:Nat)) :: (∀ i < b.nB, b.B i (4:Nat) = b.B i (4:Nat)) :: (∀ i < b.nB, b.B i (5:Nat) = b.B i (5:Nat)) :: r
abbrev check_br1 (b : Bld) (r : List Prop) : List Prop := (b.nO = b.nO) :: (∀ i < b.nO, b.O i (0:Nat) = b.O i (0:Nat)) :: (∀ i < b.nO, b.O i (1:Nat) = b.O i (1:Nat)) :: (∀ i < b.nO, b.O i (2:Nat) = b.O i (2:Nat)) :: (∀ i < b.nO, b.O i (3:Nat) = b.O i (3:Nat)) :: (∀ i < b.nO, b.O i (4:Nat) = b.O i (4:Nat)) :: (∀ i < b.nO, b.O i (5:Nat) = b.O i (5:Nat)) :: ((b.nO:Int) = (b.nO:Int)) :: r
abbrev check_br2 (b : Bld) (r : List Prop) : List Prop := (b.nB = b.nB) :: (∀ i < b.nB, b.B i (0:Nat) = b.B i (0:Nat)) :: (∀ i < b.nB, b.B i (1:Nat) = b.B i (1:Nat)) :: (∀ i < b.nB, b.B i (2:Nat) = b.B i (2:Nat)) :: (∀ i < b.nB, b.B i (3:Nat) = b.B i (3:Nat)) :: (∀ i < b.nB, b.B i (4:Nat) = b.B i (4:Nat)) :: (∀ i < b.nB, b.B i (5:Nat) = b.B i (5:Nat)) :: ((b.nB:Int) = (b.nB:Int)) :: r
theorem check_b (b : Bld) (hN : ∀ i, i < b.nS → b.N i ≤ 1000) : FnC prog 80 [bld b] (dI (chkB b)) := by
  refine FnC_owed hmix (A42_check_b b) (V := .need [FnC prog 115 [.val (.string b.name)] ((dB (nameF b.name)))] (.ite (!nameF b.name) (.done [(4:Int) = chkB b]) (.need [(!(q_check_b_0 b)) = true → (!(q_check_b_0 b)) = true, (!(q_check_b_0 b)) = true → (!(q_check_b_0 b)) = true, (!(q_check_b_0 b)) = true → (!(q_check_b_0 b)) = true, (q_check_b_0 b) = false → (!(q_check_b_0 b)) = true, (q_check_b_4 b) = true → (q_check_b_4 b) = true, (q_check_b_4 b) = true → (q_check_b_4 b) = true, (q_check_b_4 b) = true → (q_check_b_4 b) = true, (q_check_b_3 b) = false → (q_check_b_4 b) = true, (q_check_b_5 b) = true → (q_check_b_5 b) = true, (q_check_b_5 b) = true → (q_check_b_5 b) = true, (q_check_b_5 b) = true → (q_check_b_5 b) = true, (if (q_check_b_3 b) = true then true else (q_check_b_2 b)) = false → (q_check_b_5 b) = true] (.ite (if (if (q_check_b_3 b) = true then true else (q_check_b_2 b)) = true then true else decide ((b.nB:Int) > (50:Int))) (.done [(11:Int) = chkB b]) (.need [FnC prog 116 [.lst b.nS [fun i => (dI (b.fl i)), fun i => .lst (b.N i) [fun i_1 => (dI (b.X i i_1)), fun i_1 => (dI (b.Y i i_1))]]] ((dI (firstE (stE b) b.nS)))] (.ite (firstE (stE b) b.nS != (0:Int)) (.done [firstE (stE b) b.nS = chkB b]) (.need [i64In ((b.nS:Int) - (1:Int)), (0:Int) ≤ (b.nS:Int) - (1:Int) ∧ (b.nS:Int) - (1:Int) < (b.nS:Int), (!(q_check_b_6 b)) = true → (!(q_check_b_6 b)) = true, (!(q_check_b_6 b)) = true → (!(q_check_b_6 b)) = true, (q_check_b_6 b) = false → (!(q_check_b_6 b)) = true] (.ite (if (q_check_b_6 b) = true then true else decide (b.roof > (1000000:Int))) (.done [(2:Int) = chkB b]) (.loop Nat (fun a => a ≤ b.nO ∧ ∀ (j : Nat), j < a → opE b j = (0:Int)) (0:Int).toNat (((0:Int) = (↑(0:Int).toNat : Int)) :: (check_br1 b (check_br0 b []))) fun i => .ite (decide ((i:Int) < (b.nO:Int))) (.need [(0:Int) ≤ (i:Int) ∧ (i:Int) < (b.nO:Int)] (.need [(0:Int) ≤ (0:Int) ∧ (0:Int) ≤ (i:Int) ∧ (i:Int) ≤ (b.nO:Int), FnC prog 117
     [(bld b), .val (.agg (Array.mk [.int .i64 (b.O (i:Int).toNat (0:Nat)), .int .i64 (b.O (i:Int).toNat (1:Nat)), .int .i64 (b.O (i:Int).toNat (2:Nat)), .int .i64 (b.O (i:Int).toNat (3:Nat)), .int .i64 (b.O (i:Int).toNat (4:Nat)), .int .i64 (b.O (i:Int).toNat (5:Nat))])), .lst (Int.toNat (i:Int) - (0:Int).toNat) [fun i => (dI (b.O (i + (0:Int).toNat) (0:Nat))), fun i => (dI (b.O (i + (0:Int).toNat) (1:Nat))), fun i => (dI (b.O (i + (0:Int).toNat) (2:Nat))), fun i => (dI (b.O (i + (0:Int).toNat) (3:Nat))), fun i => (dI (b.O (i + (0:Int).toNat) (4:Nat))), fun i => (dI (b.O (i + (0:Int).toNat) (5:Nat)))]] ((dI (opE b (Int.toNat (i:Int) - (0:Int).toNat))))] (.ite (opE b (Int.toNat (i:Int) - (0:Int).toNat) != (0:Int)) (.done [opE b (Int.toNat (i:Int) - (0:Int).toNat) = chkB b]) (.need [i64In ((i:Int) + (1:Int))] (.done (((i:Int) + (1:Int) = (↑((i:Int) + (1:Int)).toNat : Int)) :: (check_br1 b (check_br0 b [Int.toNat ((i:Int) + (1:Int)) ≤ b.nO ∧ ∀ (j : Nat), j < ((i:Int) + (1:Int)).toNat → opE b j = (0:Int), b.nO - ((i:Int) + (1:Int)).toNat < b.nO - i])))))))) (.loop Nat (fun a => a ≤ b.nB ∧ ∀ (j : Nat), j < a → bxE b j = (0:Int)) (0:Int).toNat (((0:Int) = (↑(0:Int).toNat : Int)) :: (check_br2 b (check_br0 b []))) fun i => .ite (decide ((i:Int) < (b.nB:Int))) (.need [(0:Int) ≤ (i:Int) ∧ (i:Int) < (b.nB:Int)] (.need [FnC prog 118 [.val (.agg (Array.mk [.int .i64 (b.B (i:Int).toNat (0:Nat)), .int .i64 (b.B (i:Int).toNat (1:Nat)), .int .i64 (b.B (i:Int).toNat (2:Nat)), .int .i64 (b.B (i:Int).toNat (3:Nat)), .int .i64 (b.B (i:Int).toNat (4:Nat)), .int .i64 (b.B (i:Int).toNat (5:Nat))]))] ((dI (ckB (b.B (i:Int).toNat (0:Nat)) (b.B (i:Int).toNat (1:Nat))
     (b.B (i:Int).toNat (2:Nat)) (b.B (i:Int).toNat (3:Nat)) (b.B (i:Int).toNat (4:Nat)) (b.B (i:Int).toNat (5:Nat)))))] (.ite (ckB (b.B (i:Int).toNat (0:Nat)) (b.B (i:Int).toNat (1:Nat)) (b.B (i:Int).toNat (2:Nat)) (b.B (i:Int).toNat (3:Nat)) (b.B (i:Int).toNat (4:Nat)) (b.B (i:Int).toNat (5:Nat)) != (0:Int)) (.done [ckB (b.B (i:Int).toNat (0:Nat)) (b.B (i:Int).toNat (1:Nat)) (b.B (i:Int).toNat (2:Nat)) (b.B (i:Int).toNat (3:Nat)) (b.B (i:Int).toNat (4:Nat)) (b.B (i:Int).toNat (5:Nat)) = chkB b]) (.need [FnC prog 119 [(bld b), .val (.agg (Array.mk [.int .i64 (b.B (i:Int).toNat (0:Nat)), .int .i64 (b.B (i:Int).toNat (1:Nat)), .int .i64 (b.B (i:Int).toNat (2:Nat)), .int .i64 (b.B (i:Int).toNat (3:Nat)), .int .i64 (b.B (i:Int).toNat (4:Nat)), .int .i64 (b.B (i:Int).toNat (5:Nat))]))] ((dB (blkF b (b.B (i:Int).toNat (0:Nat)) (b.B (i:Int).toNat (1:Nat)) (b.B (i:Int).toNat (2:Nat)) (b.B (i:Int).toNat (3:Nat)) (b.B (i:Int).toNat (4:Nat)) (b.B (i:Int).toNat (5:Nat)))))] (.ite (blkF b (b.B (i:Int).toNat (0:Nat)) (b.B (i:Int).toNat (1:Nat)) (b.B (i:Int).toNat (2:Nat)) (b.B (i:Int).toNat (3:Nat)) (b.B (i:Int).toNat (4:Nat)) (b.B (i:Int).toNat (5:Nat))) (.done [(12:Int) = chkB b]) (.need [i64In ((i:Int) + (1:Int))] (.done (((i:Int) + (1:Int) = (↑((i:Int) + (1:Int)).toNat : Int)) :: (check_br2 b (check_br0 b [Int.toNat ((i:Int) + (1:Int)) ≤ b.nB ∧ ∀ (j : Nat), j < ((i:Int) + (1:Int)).toNat → bxE b j = (0:Int), b.nB - ((i:Int) + (1:Int)).toNat < b.nB - i])))))))))) (.done [(0:Int) = chkB b]))))))))))) (by kernel_rfl) ?_
  simp only [q_check_b_0, q_check_b_1, q_check_b_2, q_check_b_3, q_check_b_4, q_check_b_5, q_check_b_6, VT.holds, AllT, Sq]
  simp only [Nat.sub_zero]
  refine ⟨isName_c b.name, fun h => (chk_name h).symm, fun hn => ⟨fun h => (chk_shape hn (shpB_spec.2 (by omega))).symm, fun h => ?_⟩⟩
  have hs : shpB b = false := by
    cases h1 : shpB b with
    | false => rfl
    | true => have := shpB_spec.1 h1; omega
  refine ⟨checkStoreys_c b (by omega) hN, fun h1 => (chk_first hn hs h1).symm, fun h1 => ?_⟩
  have hst := firstE_zero h1
  have e1 : ((b.nS : Int) - 1).toNat = b.nS - 1 := by omega
  rw [e1]
  refine ⟨⟨by unfold i64In; omega, by omega, by omega⟩, fun h2 => (chk_roof hn hs hst (rofB_spec.2 h2)).symm, fun h2 => ?_⟩
  have hr : rofB b = false := by
    cases h3 : rofB b with
    | false => rfl
    | true => have := rofB_spec.1 h3; omega
  obtain ⟨f1, f2, f3⟩ := floors_ok hs hst hr
  refine ⟨rfl, ⟨Nat.zero_le _, fun j hj => absurd hj (Nat.not_lt_zero j)⟩, fun i ⟨hi, hb⟩ => ⟨fun hlt => ⟨⟨by omega, hlt⟩, ⟨⟨Int.le_refl _, by omega, by omega⟩, opening_c b i (by omega) (by omega) f1 f2⟩, fun h3 => (chk_op hn hs hst hr (by omega) hb h3).symm, fun h3 => ⟨by unfold i64In; omega, by omega, ⟨by omega, upto hb h3⟩, by omega⟩⟩, fun hge => ?_⟩⟩
  have hop : ∀ j, j < b.nO → opE b j = 0 := fun j hj => hb j (by omega)
  refine ⟨rfl, ⟨Nat.zero_le _, fun j hj => absurd hj (Nat.not_lt_zero j)⟩, fun k ⟨hk, hb2⟩ => ⟨fun hlt => ⟨⟨by omega, hlt⟩, checkBox_c _ _ _ _ _ _, fun h3 => ?_, fun h3 => ⟨blocks_c b _ _ _ _ _ _ (by omega) f1 h3, fun h4 => ?_, fun h4 => ⟨by unfold i64In; omega, by omega, ⟨by omega, upto hb2 (bxE_3 h3 h4)⟩, by omega⟩⟩⟩, fun hge2 => ?_⟩⟩
  · have e := bxE_1 (b := b) (i := k) h3
    rw [chk_bx hn hs hst hr hop (by omega) hb2 (by rw [e]; exact h3), e]; rfl
  · have e := bxE_2 (b := b) (i := k) h3 h4
    rw [chk_bx hn hs hst hr hop (by omega) hb2 (by rw [e]; simp), e]
  · rw [chk_bx0 hn hs hst hr hop, firstE_none (fun j hj => hb2 j (by omega))]
noncomputable def A41_checkR_b (b : Bld) : Ann := { orc := [(1, [(2, rNameF b)]), (3, [(3, rWithin)]), (9, [(2, rChk)]), (14, [(12, rCov)]), (21, [(2, .res fun l => dI (opE b (aI l 1).toNat))]), (27, [(5, rCkB)]), (30, [(6, rBlk b)])], loops := [(0, { ι := Nat, keep := [1], boxes := [1], ts := fun _ i => [(3, dI (i : Int))], inv := fun _ i => i ≤ b.nS ∧ ∀ j, j < i → stE b j = 0, mu := fun _ i => b.nS - i, rd := fun _ σ => (iOf (σ.get 3)).toNat }), (2, { ι := Nat, keep := [1], boxes := [1], ts := fun _ i => [(6, dI (i : Int))], inv := fun _ i => i ≤ b.nO ∧ ∀ j, j < i → opE b j = 0, mu := fun _ i => b.nO - i, rd := fun _ σ => (iOf (σ.get 6)).toNat }), (4, { ι := Nat, keep := [1], boxes := [1], ts := fun _ i => [(8, dI (i : Int))], inv := fun _ i => i ≤ b.nB ∧ ∀ j, j < i → bxE b j = 0, mu := fun _ i => b.nB - i, rd := fun _ σ => (iOf (σ.get 8)).toNat })], cuts := [] }
abbrev q_checkR_b_0 (b : Bld) : Bool := decide ((b.nO:Int) > (100:Int))
abbrev q_checkR_b_1 (b : Bld) : Bool := decide (b.roof ≤ b.fl (Int.toNat ((b.nS:Int) - (1:Int))))
abbrev q_checkR_b_2 (b : Bld) : Bool := decide ((1:Int) ≤ (b.nS:Int) ∧ (b.nS:Int) ≤ (20:Int))
abbrev q_checkR_b_3 (b : Bld) : Bool := !if (!(q_checkR_b_2 b)) = true then true else (q_checkR_b_0 b)
abbrev q_checkR_b_4 (b : Bld) (i : Nat) : Bool := decide (b.fl (Int.toNat (i:Int)) ≤ b.fl (Int.toNat ((i:Int) - (1:Int))))
abbrev q_checkR_b_5 (i : Nat) (b : Bld) : Bool := if ((i:Int) == (0:Int)) = true then b.fl (Int.toNat (i:Int)) != (0:Int) else false
abbrev q_checkR_b_6 (i : Nat) (b : Bld) : Bool := !if ((i:Int) == (0:Int)) = true then b.fl (Int.toNat (i:Int)) != (0:Int) else false
abbrev q_checkR_b_7 (i : Nat) (b : Bld) : Bool := !if (q_checkR_b_5 i b) = true then true else if decide ((i:Int) > (0:Int)) = true then (q_checkR_b_4 b i) else false
abbrev checkR_br0 (b : Bld) (r : List Prop) : List Prop := (b.name = b.name) :: (b.nS = b.nS) :: (∀ i < b.nS, b.fl i = b.fl i) :: (∀ i < b.nS, b.N i = b.N i ∧ (∀ i_1 < b.N i, b.X i i_1 = b.X i i_1) ∧ ∀ i_1 < b.N i, b.Y i i_1 = b.Y i i_1) :: (b.roof = b.roof) :: (b.nO = b.nO) :: (∀ i < b.nO, b.O i (0:Nat) = b.O i (0:Nat)) :: (∀ i < b.nO, b.O i (1:Nat) = b.O i (1:Nat)) :: (∀ i < b.nO, b.O i (2:Nat) = b.O i (2:Nat)) :: (∀ i < b.nO, b.O i (3:Nat) = b.O i (3:Nat)) :: (∀ i < b.nO, b.O i (4:Nat) = b.O i (4:Nat)) :: (∀ i < b.nO, b.O i (5:Nat) = b.O i (5:Nat)) :: (b.nB = b.nB) :: (∀ i < b.nB, b.B i (0:Nat) = b.B i (0:Nat)) :: (∀ i < b.nB, b.B i (1:Nat) = b.B i (1:Nat)) :: (∀ i < b.nB, b.B i (2:Nat) = b.B i (2:Nat)) :: (∀ i < b.nB, b.B i (3:Nat) = b.B i (3:Nat)) :: (∀ i < b.nB, b.B i (4:Nat) = b.B i (4:Nat)) :: (∀ i < b.nB, b.B i (5:Nat) = b.B i (5:Nat)) :: r
theorem checkR_b (b : Bld) (hN : ∀ i, i < b.nS → b.N i ≤ 1000) : FnC prog 62 [bld b] (dI (chkB b)) := by
  refine FnC_owed hmix (A41_checkR_b b) (V := .need [FnC prog 95 [.val (.string b.name)] ((dB (nameF b.name)))] (.ite (!nameF b.name) (.done [(4:Int) = chkB b]) (.need [FnC prog 34 [(dI (b.nS:Int)), (dI (1:Int)), (dI (20:Int))] ((dB ((q_checkR_b_2 b)))), (!!(q_checkR_b_2 b)) = true → (!!(q_checkR_b_2 b)) = true, (!!(q_checkR_b_2 b)) = true → (!!(q_checkR_b_2 b)) = true, (!!(q_checkR_b_2 b)) = true → (!!(q_checkR_b_2 b)) = true, (!(q_checkR_b_2 b)) = false → (!!(q_checkR_b_2 b)) = true, (q_checkR_b_3 b) = true → (q_checkR_b_3 b) = true, (q_checkR_b_3 b) = true → (q_checkR_b_3 b) = true, (q_checkR_b_3 b) = true → (q_checkR_b_3 b) = true, (if (!(q_checkR_b_2 b)) = true then true else (q_checkR_b_0 b)) = false → (q_checkR_b_3 b) = true] (.ite (if (if (!(q_checkR_b_2 b)) = true then true else (q_checkR_b_0 b)) = true then true else decide ((b.nB:Int) > (50:Int))) (.done [(11:Int) = chkB b]) (.loop Nat (fun a => a ≤ b.nS ∧ ∀ (j : Nat), j < a → stE b j = (0:Int)) (0:Int).toNat (((0:Int) = (↑(0:Int).toNat : Int)) :: (checkR_br0 b [])) fun i => .ite (decide ((i:Int) < (b.nS:Int))) (.need [(0:Int) ≤ (i:Int) ∧ (i:Int) < (b.nS:Int)] (.need [FnC prog 96 [.lst (b.N (i:Int).toNat) [fun i_1 => (dI (b.X (i:Int).toNat i_1)), fun i_1 => (dI (b.Y (i:Int).toNat i_1))]] ((dI (chk (b.N (i:Int).toNat) (b.X (i:Int).toNat) (b.Y (i:Int).toNat))))] (.ite (chk (b.N (i:Int).toNat) (b.X (i:Int).toNat) (b.Y (i:Int).toNat) != (0:Int)) (.done [chk (b.N (i:Int).toNat) (b.X (i:Int).toNat) (b.Y (i:Int).toNat) = chkB b]) (.need [((i:Int) == (0:Int)) = true → ((i:Int) == (0:Int)) = true, ((i:Int) == (0:Int)) = true → ((i:Int) == (0:Int)) = true, ((i:Int) == (0:Int)) = true → ((i:Int) == (0:Int)) = true, (q_checkR_b_6 i b) = true → (q_checkR_b_6 i b) = true, (q_checkR_b_6 i b) = true → (q_checkR_b_6 i b) = true, ((q_checkR_b_6 i b) &&
     decide ((i:Int) > (0:Int))) = true → ((q_checkR_b_6 i b) && decide ((i:Int) > (0:Int))) = true, ((q_checkR_b_6 i b) && decide ((i:Int) > (0:Int))) = true → ((q_checkR_b_6 i b) && decide ((i:Int) > (0:Int))) = true, ((q_checkR_b_6 i b) && decide ((i:Int) > (0:Int))) = true → ((q_checkR_b_6 i b) && decide ((i:Int) > (0:Int))) = true, ((q_checkR_b_6 i b) && decide ((i:Int) > (0:Int))) = true → i64In ((i:Int) - (1:Int)), ((q_checkR_b_6 i b) && decide ((i:Int) > (0:Int))) = true → ((q_checkR_b_6 i b) && decide ((i:Int) > (0:Int))) = true, ((q_checkR_b_6 i b) && decide ((i:Int) > (0:Int))) = true → ((q_checkR_b_6 i b) && decide ((i:Int) > (0:Int))) = true, ((q_checkR_b_6 i b) && decide ((i:Int) > (0:Int))) = true → (0:Int) ≤ (i:Int) - (1:Int) ∧ (i:Int) - (1:Int) < (b.nS:Int), ((q_checkR_b_6 i b) && decide ((i:Int) > (0:Int))) = true → ((q_checkR_b_6 i b) && decide ((i:Int) > (0:Int))) = true, ((q_checkR_b_6 i b) && decide ((i:Int) > (0:Int))) = true → ((q_checkR_b_6 i b) && decide ((i:Int) > (0:Int))) = true, ((q_checkR_b_6 i b) && decide ((i:Int) > (0:Int))) = true → ((q_checkR_b_6 i b) && decide ((i:Int) > (0:Int))) = true, ((q_checkR_b_6 i b) && decide ((i:Int) > (0:Int))) = true → ((q_checkR_b_6 i b) && decide ((i:Int) > (0:Int))) = true, (q_checkR_b_6 i b) = true → (q_checkR_b_6 i b) = true, (q_checkR_b_6 i b) = true → decide ((i:Int) > (0:Int)) = true → ((q_checkR_b_6 i b) && decide ((i:Int) > (0:Int))) = true, (q_checkR_b_5 i b) = false → (q_checkR_b_6 i b) = true, (q_checkR_b_7 i b) = true → (q_checkR_b_7 i b) = true, (q_checkR_b_7 i b) = true → (q_checkR_b_7 i b) = true, (if (q_checkR_b_5 i b) = true then true else if decide ((i:Int) > (0:Int)) = true then (q_checkR_b_4 b i) else false) = false → (q_checkR_b_7 i b) = true] (.ite (if (if (q_checkR_b_5 i b) = true then true else if decide ((i:Int) > (0:Int)) = true then
     (q_checkR_b_4 b i) else false) = true then true else decide (b.fl (i:Int).toNat > (1000000:Int))) (.done [(10:Int) = chkB b]) (.need [decide ((i:Int) > (0:Int)) = true → decide ((i:Int) > (0:Int)) = true, decide ((i:Int) > (0:Int)) = true → decide ((i:Int) > (0:Int)) = true, decide ((i:Int) > (0:Int)) = true → i64In ((i:Int) - (1:Int)), decide ((i:Int) > (0:Int)) = true → decide ((i:Int) > (0:Int)) = true, decide ((i:Int) > (0:Int)) = true → decide ((i:Int) > (0:Int)) = true, decide ((i:Int) > (0:Int)) = true → (0:Int) ≤ (i:Int) - (1:Int) ∧ (i:Int) - (1:Int) < (b.nS:Int), decide ((i:Int) > (0:Int)) = true → decide ((i:Int) > (0:Int)) = true, decide ((i:Int) > (0:Int)) = true → decide ((i:Int) > (0:Int)) = true, decide ((i:Int) > (0:Int)) = true → decide ((i:Int) > (0:Int)) = true, decide ((i:Int) > (0:Int)) = true → decide ((i:Int) > (0:Int)) = true, decide ((i:Int) > (0:Int)) = true → decide ((i:Int) > (0:Int)) = true, decide ((i:Int) > (0:Int)) = true → FnC prog 97 [.lst (b.N ((i:Int) - (1:Int)).toNat) [fun i_1 => (dI (b.X ((i:Int) - (1:Int)).toNat i_1)), fun i_1 => (dI (b.Y ((i:Int) - (1:Int)).toNat i_1))], .lst (b.N (i:Int).toNat) [fun i_1 => (dI (b.X (i:Int).toNat i_1)), fun i_1 => (dI (b.Y (i:Int).toNat i_1))]] ((dB (covF (b.N ((i:Int) - (1:Int)).toNat) (b.X ((i:Int) - (1:Int)).toNat) (b.Y ((i:Int) - (1:Int)).toNat) (b.N (i:Int).toNat) (b.X (i:Int).toNat) (b.Y (i:Int).toNat)))), decide ((i:Int) > (0:Int)) = true → decide ((i:Int) > (0:Int)) = true, decide ((i:Int) > (0:Int)) = true → decide ((i:Int) > (0:Int)) = true] (.ite (if decide ((i:Int) > (0:Int)) = true then !covF (b.N ((i:Int) - (1:Int)).toNat) (b.X ((i:Int) - (1:Int)).toNat) (b.Y (Int.toNat
     ((i:Int) - (1:Int)))) (b.N (i:Int).toNat) (b.X (i:Int).toNat) (b.Y (i:Int).toNat) else false) (.done [(12:Int) = chkB b]) (.need [i64In ((i:Int) + (1:Int))] (.done (((i:Int) + (1:Int) = (↑((i:Int) + (1:Int)).toNat : Int)) :: (checkR_br0 b [Int.toNat ((i:Int) + (1:Int)) ≤ b.nS ∧ ∀ (j : Nat), j < ((i:Int) + (1:Int)).toNat → stE b j = (0:Int), b.nS - ((i:Int) + (1:Int)).toNat < b.nS - i]))))))))))) (.need [i64In ((b.nS:Int) - (1:Int)), (0:Int) ≤ (b.nS:Int) - (1:Int) ∧ (b.nS:Int) - (1:Int) < (b.nS:Int), (!(q_checkR_b_1 b)) = true → (!(q_checkR_b_1 b)) = true, (!(q_checkR_b_1 b)) = true → (!(q_checkR_b_1 b)) = true, (q_checkR_b_1 b) = false → (!(q_checkR_b_1 b)) = true] (.ite (if (q_checkR_b_1 b) = true then true else decide (b.roof > (1000000:Int))) (.done [(2:Int) = chkB b]) (.loop Nat (fun a => a ≤ b.nO ∧ ∀ (j : Nat), j < a → opE b j = (0:Int)) (0:Int).toNat (((0:Int) = (↑(0:Int).toNat : Int)) :: (checkR_br0 b [])) fun i => .ite (decide ((i:Int) < (b.nO:Int))) (.need [FnC prog 98 [(bld b), (dI (i:Int))] ((dI (opE b (i:Int).toNat)))] (.ite (opE b (i:Int).toNat != (0:Int)) (.done [opE b (i:Int).toNat = chkB b]) (.need [i64In ((i:Int) + (1:Int))] (.done (((i:Int) + (1:Int) = (↑((i:Int) + (1:Int)).toNat : Int)) :: (checkR_br0 b [Int.toNat ((i:Int) + (1:Int)) ≤ b.nO ∧ ∀ (j : Nat), j < ((i:Int) + (1:Int)).toNat → opE b j = (0:Int), b.nO - ((i:Int) + (1:Int)).toNat < b.nO - i])))))) (.loop Nat (fun a => a ≤ b.nB ∧ ∀ (j : Nat), j < a → bxE b j = (0:Int)) (0:Int).toNat (((0:Int) = (↑(0:Int).toNat : Int)) :: (checkR_br0 b [])) fun i => .ite (decide ((i:Int) < (b.nB:Int))) (.need [(0:Int) ≤ (i:Int) ∧ (i:Int) < (b.nB:Int), FnC prog 99 [.val (.agg (Array.mk [.int .i64 (b.B (i:Int).toNat (0:Nat)), .int .i64 (b.B
     (i:Int).toNat (1:Nat)), .int .i64 (b.B (i:Int).toNat (2:Nat)), .int .i64 (b.B (i:Int).toNat (3:Nat)), .int .i64 (b.B (i:Int).toNat (4:Nat)), .int .i64 (b.B (i:Int).toNat (5:Nat))]))] ((dI (ckB (b.B (i:Int).toNat (0:Nat)) (b.B (i:Int).toNat (1:Nat)) (b.B (i:Int).toNat (2:Nat)) (b.B (i:Int).toNat (3:Nat)) (b.B (i:Int).toNat (4:Nat)) (b.B (i:Int).toNat (5:Nat)))))] (.ite (ckB (b.B (i:Int).toNat (0:Nat)) (b.B (i:Int).toNat (1:Nat)) (b.B (i:Int).toNat (2:Nat)) (b.B (i:Int).toNat (3:Nat)) (b.B (i:Int).toNat (4:Nat)) (b.B (i:Int).toNat (5:Nat)) != (0:Int)) (.done [ckB (b.B (i:Int).toNat (0:Nat)) (b.B (i:Int).toNat (1:Nat)) (b.B (i:Int).toNat (2:Nat)) (b.B (i:Int).toNat (3:Nat)) (b.B (i:Int).toNat (4:Nat)) (b.B (i:Int).toNat (5:Nat)) = chkB b]) (.need [(0:Int) ≤ (i:Int) ∧ (i:Int) < (b.nB:Int), FnC prog 100 [(bld b), .val (.agg (Array.mk [.int .i64 (b.B (i:Int).toNat (0:Nat)), .int .i64 (b.B (i:Int).toNat (1:Nat)), .int .i64 (b.B (i:Int).toNat (2:Nat)), .int .i64 (b.B (i:Int).toNat (3:Nat)), .int .i64 (b.B (i:Int).toNat (4:Nat)), .int .i64 (b.B (i:Int).toNat (5:Nat))]))] ((dB (blkF b (b.B (i:Int).toNat (0:Nat)) (b.B (i:Int).toNat (1:Nat)) (b.B (i:Int).toNat (2:Nat)) (b.B (i:Int).toNat (3:Nat)) (b.B (i:Int).toNat (4:Nat)) (b.B (i:Int).toNat (5:Nat)))))] (.ite (blkF b (b.B (i:Int).toNat (0:Nat)) (b.B (i:Int).toNat (1:Nat)) (b.B (i:Int).toNat (2:Nat)) (b.B (i:Int).toNat (3:Nat)) (b.B (i:Int).toNat (4:Nat)) (b.B (i:Int).toNat (5:Nat))) (.done [(12:Int) = chkB b]) (.need [i64In ((i:Int) + (1:Int))] (.done
     (((i:Int) + (1:Int) = (↑((i:Int) + (1:Int)).toNat : Int)) :: (checkR_br0 b [Int.toNat ((i:Int) + (1:Int)) ≤ b.nB ∧ ∀ (j : Nat), j < ((i:Int) + (1:Int)).toNat → bxE b j = (0:Int), b.nB - ((i:Int) + (1:Int)).toNat < b.nB - i])))))))) (.done [(0:Int) = chkB b])))))))))) (by kernel_rfl) ?_
  simp only [q_checkR_b_0, q_checkR_b_1, q_checkR_b_2, q_checkR_b_3, q_checkR_b_4, q_checkR_b_5, q_checkR_b_6, q_checkR_b_7, VT.holds, AllT, Sq]
  refine ⟨isNameR_c b.name, fun h => (chk_name h).symm, fun hn => ⟨within_c _ _ _, fun h => (chk_shape hn (shpB_spec.2 (by omega))).symm, fun h => ?_⟩⟩
  have hs : shpB b = false := by
    cases h1 : shpB b with
    | false => rfl
    | true => have := shpB_spec.1 h1; omega
  refine ⟨rfl, ⟨Nat.zero_le _, fun j hj => absurd hj (Nat.not_lt_zero j)⟩, fun i ⟨hi, hb0⟩ => ⟨fun hlt => ?_, fun hge0 => ?_⟩⟩
  · have hp : ((i : Int) - 1).toNat = i - 1 := by omega
    simp only [hp]
    have hNi := hN i (by omega)
    have hst : stE b i = if chk (b.N i) (b.X i) (b.Y i) ≠ 0 then chk (b.N i) (b.X i) (b.Y i) else if ordB b i = true then 10 else if 0 < i ∧ covF (b.N (i - 1)) (b.X (i - 1)) (b.Y (i - 1)) (b.N i) (b.X i) (b.Y i) = false then 12 else 0 := rfl
    refine ⟨⟨by omega, hlt⟩, checkR_c _ _ _ (by omega), fun h1 => ?_, fun hc => ?_⟩
    · have e : stE b i = chk (b.N i) (b.X i) (b.Y i) := by rw [hst, if_pos h1]
      rw [chk_st hn hs (by omega) hb0 (by rw [e]; exact h1), e]
    · refine ⟨⟨fun _ => by unfold i64In; omega, fun _ => by omega, fun h1 h2 => ⟨h1, h2⟩⟩, fun h1 => ?_, fun h1 => ?_⟩
      · have ho : ordB b i = true := by
          rw [ordB, decide_eq_true_eq]
          omega
        have e : stE b i = 10 := by rw [hst, if_neg (by rw [hc]; simp), if_pos ho]
        rw [chk_st hn hs (by omega) hb0 (by rw [e]; simp), e]
      · have ho : ordB b i = false := by
          rw [ordB, decide_eq_false_iff_not]
          omega
        refine ⟨⟨fun _ => by unfold i64In; omega, fun _ => by omega, fun h2 => coversR_c _ _ _ _ _ _ (stE_zero (hb0 (i - 1) (by omega))).1 hc⟩, fun h2 => ?_, fun h2 => ⟨by unfold i64In; omega, by omega, ⟨by omega, upto hb0 ?_⟩, by omega⟩⟩
        · have e : stE b i = 12 := by rw [hst, if_neg (by rw [hc]; simp), if_neg (by rw [ho]; simp), if_pos ⟨by omega, h2.2⟩]
          rw [chk_st hn hs (by omega) hb0 (by rw [e]; simp), e]
        · rw [hst, if_neg (by rw [hc]; simp), if_neg (by rw [ho]; simp), if_neg]
          rintro ⟨h4, h5⟩
          rw [h2 (by omega)] at h5
          cases h5
  · have hst : ∀ j, j < b.nS → stE b j = 0 := fun j hj => hb0 j (by omega)
    have e1 : ((b.nS : Int) - 1).toNat = b.nS - 1 := by omega
    rw [e1]
    refine ⟨⟨by unfold i64In; omega, by omega, by omega⟩, fun h2 => (chk_roof hn hs hst (rofB_spec.2 h2)).symm, fun h2 => ?_⟩
    have hr : rofB b = false := by
      cases h3 : rofB b with
      | false => rfl
      | true => have := rofB_spec.1 h3; omega
    obtain ⟨f1, f2, f3⟩ := floors_ok hs hst hr
    refine ⟨rfl, ⟨Nat.zero_le _, fun j hj => absurd hj (Nat.not_lt_zero j)⟩, fun i ⟨hi, hb⟩ => ⟨fun hlt => ⟨openingR_c b i (by omega) (by omega) (by omega) f1 f2 hb, fun h3 => (chk_op hn hs hst hr (by omega) hb h3).symm, fun h3 => ⟨by unfold i64In; omega, by omega, ⟨by omega, upto hb h3⟩, by omega⟩⟩, fun hge => ?_⟩⟩
    have hop : ∀ j, j < b.nO → opE b j = 0 := fun j hj => hb j (by omega)
    refine ⟨rfl, ⟨Nat.zero_le _, fun j hj => absurd hj (Nat.not_lt_zero j)⟩, fun k ⟨hk, hb2⟩ => ⟨fun hlt => ⟨⟨⟨by omega, hlt⟩, checkBoxR_c _ _ _ _ _ _⟩, fun h3 => ?_, fun h3 => ⟨⟨⟨by omega, hlt⟩, blocksR_c b _ _ _ _ _ _ (by omega) f1 f3 h3⟩, fun h4 => ?_, fun h4 => ⟨by unfold i64In; omega, by omega, ⟨by omega, upto hb2 (bxE_3 h3 h4)⟩, by omega⟩⟩⟩, fun hge2 => ?_⟩⟩
    · have e := bxE_1 (b := b) (i := k) h3
      rw [chk_bx hn hs hst hr hop (by omega) hb2 (by rw [e]; exact h3), e]; rfl
    · have e := bxE_2 (b := b) (i := k) h3 h4
      rw [chk_bx hn hs hst hr hop (by omega) hb2 (by rw [e]; simp), e]
    · rw [chk_bx0 hn hs hst hr hop, firstE_none (fun j hj => hb2 j (by omega))]
end Go.Abs
