/- Contracts. -/
import Derived.Test.YtagpmenaaekdeaaGreatDoorL7
set_option linter.unusedVariables false
set_option linter.unusedSimpArgs false
set_option maxRecDepth 100000
namespace Go.Abs.Lay
open Go
def waysRV (nB : Nat) (B : Nat → Int) (nO : Nat) (O : Nat → Int) (len : Int) : Int :=
  if len % (unitR nB B O (nB + nO) : Int) = 0 then (if (waysRS nB B nO O len : Int) > 1000000 then 0 else (waysRS nB B nO O len : Int)) else 0
def waysRE (nB : Nat) (B : Nat → Int) (nO : Nat) (O : Nat → Int) (len : Int) : Int :=
  if len % (unitR nB B O (nB + nO) : Int) = 0 then (if (waysRS nB B nO O len : Int) > 1000000 then 8 else 0) else 0
abbrev uR (nB : Nat) (B : Nat → Int) (nO : Nat) (O : Nat → Int) : Nat := unitR nB B O (nB + nO)
noncomputable def A21_tableR_c (nB : Nat) (B : Nat → Int) (nO : Nat) (O : Nat → Int) (W G L len : Int) : Ann := { orc := [(2, [(1, rUnitR)]), (3, [(1, rPartsR)]), (11, [(6, .pos)])], loops := [(0, { ι := Nat, keep := [1, 6, 7], boxes := [], ts := fun _ k => [(8, dI (k : Int))], rw := fun _ k => [(5, 1, k, [fun q => .val (.int .i64 (tabRS nB B nO O q))])], inv := fun _ k => 1 ≤ k ∧ (k : Int) ≤ len / (uR nB B nO O : Int) + 1, mu := fun _ k => (len / (uR nB B nO O : Int) + 1 - (k : Int)).toNat, rd := fun _ σ => (iOf (σ.get 8)).toNat }),
  (2, { ι := Nat, keep := [1, 6, 7, 8], boxes := [], ts := fun σ i => [(10, dI (i : Int)), (9, dI (bestL (plX (uR nB B nO O) (rLen nB B O) (rCode nB) i) (tabRS nB B nO O) (iOf (σ.get 8)).toNat))], rw := fun σ _ => [(5, 1, (iOf (σ.get 8)).toNat, [fun q => .val (.int .i64 (tabRS nB B nO O q))])], inv := fun _ i => i ≤ nB + nO, mu := fun _ i => nB + nO - i, rd := fun _ σ => (iOf (σ.get 10)).toNat })], cuts := [] }
abbrev q_tableR_c_0 (nB : Nat) (B : Nat → Int) (O : Nat → Int) (i_1 : Nat) (nO : Nat) (i : Nat) : Bool := decide (rLen nB B O (Int.toNat (↑i_1 : Int)) / (↑(unitR nB B O (nB + nO)) : Int) ≤ (↑i : Int))
abbrev q_tableR_c_1 (nB : Nat) (B : Nat → Int) (O : Nat → Int) (nO : Nat) (i_1 : Nat) (i : Nat) : Bool := decide (bestL (plX (unitR nB B O (nB + nO)) (rLen nB B O) (rCode nB) i_1) (tabRS nB B nO O) (Int.toNat (↑i : Int)) < (0 : Int))
abbrev q_tableR_c_2 (nB : Nat) (B : Nat → Int) (nO : Nat) (O : Nat → Int) (i : Nat) (i_1 : Nat) : Bool := decide (tabRS nB B nO O (addN (0 : Nat) (Int.toNat ((↑i : Int) - rLen nB B O (Int.toNat (↑i_1 : Int)) / (↑(unitR nB B O (nB + nO)) : Int)))) ≥ (0 : Int))
abbrev q_tableR_c_3 (nB : Nat) (B : Nat → Int) (O : Nat → Int) (i_1 : Nat) (nO : Nat) (i : Nat) : Bool := if (q_tableR_c_0 nB B O i_1 nO i) = true then (q_tableR_c_2 nB B nO O i i_1) else false
abbrev tableR_cr0 (nB : Nat) (B : Nat → Int) (nO : Nat) (O : Nat → Int) (len : Int) (r : List Prop) : List Prop := (len = len) :: ((↑(unitR nB B O (nB + nO)) : Int) = (↑(unitR nB B O (nB + nO)) : Int)) :: (nB + nO = nB + nO) :: (∀ (i : Nat), i < nB + nO → rLen nB B O i = rLen nB B O i) :: (∀ (i : Nat), i < nB + nO → rCode nB i = rCode nB i) :: r
theorem tableR_c (nB : Nat) (B : Nat → Int) (nO : Nat) (O : Nat → Int) (W G L len : Int) (hs : sysE nB B nO O W G L = 0) (hl : lenR nB B nO O len = 0) : FnC prog 96 [sys nB B nO O W G L, dI len] (.lst (len / (uR nB B nO O : Int) + 1).toNat [fun k => .val (.int .i64 (tabRS nB B nO O k))]) := by
  refine FnC_owed hmix (A21_tableR_c nB B nO O W G L len) (V := .need [FnC prog (55 : Nat) [.agg [.lst nB [fun i => (dI (B i))], .lst nO [fun i => (dI (O i))], (dI W), (dI G), (dI L)]] ((dI (↑(unitR nB B O (nB + nO)) : Int)))] (.need [FnC prog (132 : Nat) [.agg [.lst nB [fun i => (dI (B i))], .lst nO [fun i => (dI (O i))], (dI W), (dI G), (dI L)]] (.lst (nB + nO) [fun i => (dI (rLen nB B O i)), fun i => (dI (rCode nB i))])] (.loop Nat (fun a => (1 : Nat) ≤ a ∧ (↑a : Int) ≤ len / (↑(unitR nB B O (nB + nO)) : Int) + (1 : Int)) (Int.toNat (1 : Int)) (((1 : Int) = (↑(Int.toNat (1 : Int)) : Int)) :: (((0 : Nat) = (0 : Nat)) :: (((1 : Nat) = Int.toNat (1 : Int)) :: (tableR_cr0 nB B nO O len [(1 : Nat) = Int.toNat (1 : Int), ∀ (i : Nat), i < Int.toNat (1 : Int) → (0 : Int) = tabRS nB B nO O i])))) fun i => .need [i64In ((↑i : Int) * (↑(unitR nB B O (nB + nO)) : Int))] (.ite (decide ((↑i : Int) * (↑(unitR nB B O (nB + nO)) : Int) ≤ len)) (.loop Nat (fun a => a ≤ nB + nO) (Int.toNat (0 : Int)) (((0 : Int) = (↑(Int.toNat (0 : Int)) : Int)) :: (((-1 : Int) = bestL (plX (unitR nB B O (nB + nO)) (rLen nB B O) (rCode nB) (Int.toNat (0 : Int))) (tabRS nB B nO O) (Int.toNat (↑i : Int))) :: (((0 : Nat) = (0 : Nat)) :: ((i = Int.toNat (↑i : Int)) :: (tableR_cr0 nB B nO O len [(↑i : Int) = (↑i : Int), i = Int.toNat (↑i : Int), ∀ (i_1 : Nat), i_1 < Int.toNat (↑i : Int) → tabRS nB B nO O i_1 = tabRS nB B nO O i_1]))))) fun i_1 => .ite (decide ((↑i_1 : Int) < (↑(nB + nO) : Int))) (.need [(0 : Int) ≤ (↑i_1 : Int) ∧ (↑i_1 : Int) < (↑(nB + nO) : Int), (0 : Int) ≤ rLen nB B O (Int.toNat (↑i_1 : Int)) ∧ (0 : Int) < (↑(unitR nB B O (nB + nO)) : Int) ∧ rLen nB B O (Int.toNat (↑i_1 : Int)) ≤ (9223372036854775807 : Int)] (.need [(q_tableR_c_0 nB B O i_1 nO i) = true → (q_tableR_c_0 nB B O i_1 nO i) = true, (q_tableR_c_0 nB B O i_1 nO i) = true → (q_tableR_c_0 nB B O i_1 nO i) = true, (q_tableR_c_0 nB B O i_1 nO i) = true → i64In ((↑i : Int) - rLen nB B O (Int.toNat (↑i_1 : Int)) / (↑(unitR nB B O (nB + nO)) : Int)), (q_tableR_c_0 nB B O i_1 nO i) = true →
     (q_tableR_c_0 nB B O i_1 nO i) = true, (q_tableR_c_0 nB B O i_1 nO i) = true → (q_tableR_c_0 nB B O i_1 nO i) = true, (q_tableR_c_0 nB B O i_1 nO i) = true → (0 : Int) ≤ (↑i : Int) - rLen nB B O (Int.toNat (↑i_1 : Int)) / (↑(unitR nB B O (nB + nO)) : Int) ∧ (↑i : Int) - rLen nB B O (Int.toNat (↑i_1 : Int)) / (↑(unitR nB B O (nB + nO)) : Int) < (↑(Int.toNat (↑i : Int)) : Int), (q_tableR_c_0 nB B O i_1 nO i) = true → (q_tableR_c_0 nB B O i_1 nO i) = true, (q_tableR_c_0 nB B O i_1 nO i) = true → addN (0 : Nat) (Int.toNat ((↑i : Int) - rLen nB B O (Int.toNat (↑i_1 : Int)) / (↑(unitR nB B O (nB + nO)) : Int))) < Int.toNat (↑i : Int), (q_tableR_c_0 nB B O i_1 nO i) = true → (q_tableR_c_0 nB B O i_1 nO i) = true, (q_tableR_c_0 nB B O i_1 nO i) = true → (q_tableR_c_0 nB B O i_1 nO i) = true, (q_tableR_c_3 nB B O i_1 nO i) = true → (q_tableR_c_3 nB B O i_1 nO i) = true, (q_tableR_c_3 nB B O i_1 nO i) = true → (q_tableR_c_3 nB B O i_1 nO i) = true, ((q_tableR_c_3 nB B O i_1 nO i) && !(q_tableR_c_1 nB B O nO i_1 i)) = true → ((q_tableR_c_3 nB B O i_1 nO i) && !(q_tableR_c_1 nB B O nO i_1 i)) = true, ((q_tableR_c_3 nB B O i_1 nO i) && !(q_tableR_c_1 nB B O nO i_1 i)) = true → ((q_tableR_c_3 nB B O i_1 nO i) && !(q_tableR_c_1 nB B O nO i_1 i)) = true, ((q_tableR_c_3 nB B O i_1 nO i) && !(q_tableR_c_1 nB B O nO i_1 i)) = true → i64In ((↑i : Int) - rLen nB B O (Int.toNat (↑i_1 : Int)) / (↑(unitR nB B O (nB + nO)) : Int)), ((q_tableR_c_3 nB B O i_1 nO i) && !(q_tableR_c_1 nB B O nO i_1 i)) = true → ((q_tableR_c_3 nB B O i_1 nO i) && !(q_tableR_c_1 nB B O nO i_1 i)) = true, ((q_tableR_c_3 nB B O i_1 nO i) && !(q_tableR_c_1 nB B O nO i_1 i)) = true → ((q_tableR_c_3 nB B O i_1 nO i) && !(q_tableR_c_1 nB B O nO i_1 i)) = true, ((q_tableR_c_3 nB B O i_1 nO i) && !(q_tableR_c_1 nB B O nO i_1 i)) = true → (0 : Int) ≤ (↑i : Int) - rLen nB B O (Int.toNat (↑i_1 : Int)) / (↑(unitR nB B O (nB + nO)) : Int) ∧ (↑i : Int) - rLen nB B O (Int.toNat (↑i_1 : Int)) / (↑(unitR nB B O (nB + nO)) : Int)
     < (↑(Int.toNat (↑i : Int)) : Int), ((q_tableR_c_3 nB B O i_1 nO i) && !(q_tableR_c_1 nB B O nO i_1 i)) = true → ((q_tableR_c_3 nB B O i_1 nO i) && !(q_tableR_c_1 nB B O nO i_1 i)) = true, ((q_tableR_c_3 nB B O i_1 nO i) && !(q_tableR_c_1 nB B O nO i_1 i)) = true → addN (0 : Nat) (Int.toNat ((↑i : Int) - rLen nB B O (Int.toNat (↑i_1 : Int)) / (↑(unitR nB B O (nB + nO)) : Int))) < Int.toNat (↑i : Int), ((q_tableR_c_3 nB B O i_1 nO i) && !(q_tableR_c_1 nB B O nO i_1 i)) = true → ((q_tableR_c_3 nB B O i_1 nO i) && !(q_tableR_c_1 nB B O nO i_1 i)) = true, ((q_tableR_c_3 nB B O i_1 nO i) && !(q_tableR_c_1 nB B O nO i_1 i)) = true → ((q_tableR_c_3 nB B O i_1 nO i) && !(q_tableR_c_1 nB B O nO i_1 i)) = true, ((q_tableR_c_3 nB B O i_1 nO i) && !(q_tableR_c_1 nB B O nO i_1 i)) = true → (0 : Int) ≤ (↑i_1 : Int) ∧ (↑i_1 : Int) < (↑(nB + nO) : Int), ((q_tableR_c_3 nB B O i_1 nO i) && !(q_tableR_c_1 nB B O nO i_1 i)) = true → ((q_tableR_c_3 nB B O i_1 nO i) && !(q_tableR_c_1 nB B O nO i_1 i)) = true, ((q_tableR_c_3 nB B O i_1 nO i) && !(q_tableR_c_1 nB B O nO i_1 i)) = true → ((q_tableR_c_3 nB B O i_1 nO i) && !(q_tableR_c_1 nB B O nO i_1 i)) = true, ((q_tableR_c_3 nB B O i_1 nO i) && !(q_tableR_c_1 nB B O nO i_1 i)) = true → ((q_tableR_c_3 nB B O i_1 nO i) && !(q_tableR_c_1 nB B O nO i_1 i)) = true, ((q_tableR_c_3 nB B O i_1 nO i) && !(q_tableR_c_1 nB B O nO i_1 i)) = true → ((q_tableR_c_3 nB B O i_1 nO i) && !(q_tableR_c_1 nB B O nO i_1 i)) = true, ((q_tableR_c_3 nB B O i_1 nO i) && !(q_tableR_c_1 nB B O nO i_1 i)) = true → i64In (tabRS nB B nO O (addN (0 : Nat) (Int.toNat ((↑i : Int) - rLen nB B O (Int.toNat (↑i_1 : Int)) / (↑(unitR nB B O (nB + nO)) : Int)))) + rCode nB (Int.toNat (↑i_1 : Int))), ((q_tableR_c_3 nB B O i_1 nO i) && !(q_tableR_c_1 nB B O nO i_1 i)) = true → ((q_tableR_c_3 nB B O i_1 nO i) && !(q_tableR_c_1 nB B O nO i_1 i)) = true, ((q_tableR_c_3 nB B O i_1 nO i) && !(q_tableR_c_1 nB B O nO i_1 i)) = true → ((q_tableR_c_3 nB B O i_1 nO i) && !(q_tableR_c_1 nB
     B O nO i_1 i)) = true, (q_tableR_c_3 nB B O i_1 nO i) = true → (q_tableR_c_3 nB B O i_1 nO i) = true, (q_tableR_c_3 nB B O i_1 nO i) = true → (q_tableR_c_1 nB B O nO i_1 i) = false → ((q_tableR_c_3 nB B O i_1 nO i) && !(q_tableR_c_1 nB B O nO i_1 i)) = true, (q_tableR_c_3 nB B O i_1 nO i) = true → (q_tableR_c_3 nB B O i_1 nO i) = true] (.ite (if (q_tableR_c_3 nB B O i_1 nO i) = true then if (q_tableR_c_1 nB B O nO i_1 i) = true then true else decide (tabRS nB B nO O (addN (0 : Nat) (Int.toNat ((↑i : Int) - rLen nB B O (Int.toNat (↑i_1 : Int)) / (↑(unitR nB B O (nB + nO)) : Int)))) + rCode nB (Int.toNat (↑i_1 : Int)) < bestL (plX (unitR nB B O (nB + nO)) (rLen nB B O) (rCode nB) i_1) (tabRS nB B nO O) (Int.toNat (↑i : Int))) else false) (.need [i64In ((↑i : Int) - rLen nB B O (Int.toNat (↑i_1 : Int)) / (↑(unitR nB B O (nB + nO)) : Int)), (0 : Int) ≤ (↑i : Int) - rLen nB B O (Int.toNat (↑i_1 : Int)) / (↑(unitR nB B O (nB + nO)) : Int) ∧ (↑i : Int) - rLen nB B O (Int.toNat (↑i_1 : Int)) / (↑(unitR nB B O (nB + nO)) : Int) < (↑(Int.toNat (↑i : Int)) : Int), addN (0 : Nat) (Int.toNat ((↑i : Int) - rLen nB B O (Int.toNat (↑i_1 : Int)) / (↑(unitR nB B O (nB + nO)) : Int))) < Int.toNat (↑i : Int), (0 : Int) ≤ (↑i_1 : Int) ∧ (↑i_1 : Int) < (↑(nB + nO) : Int), i64In (tabRS nB B nO O (addN (0 : Nat) (Int.toNat ((↑i : Int) - rLen nB B O (Int.toNat (↑i_1 : Int)) / (↑(unitR nB B O (nB + nO)) : Int)))) + rCode nB (Int.toNat (↑i_1 : Int)))] (.need [i64In ((↑i_1 : Int) + (1 : Int))] (.done (((↑i_1 : Int) + (1 : Int) = (↑(Int.toNat ((↑i_1 : Int) + (1 : Int))) : Int)) :: ((tabRS nB B nO O (addN (0 : Nat) (Int.toNat ((↑i : Int) - rLen nB B O (Int.toNat (↑i_1 : Int)) / (↑(unitR nB B O (nB + nO)) : Int)))) + rCode nB (Int.toNat (↑i_1 : Int)) = bestL (plX (unitR nB B O (nB + nO)) (rLen nB B O) (rCode nB) (Int.toNat ((↑i_1 : Int) + (1 : Int)))) (tabRS nB B nO O) (Int.toNat (↑i : Int))) :: (((0 : Nat) = (0 : Nat)) :: ((Int.toNat (↑i : Int) = Int.toNat (↑i : Int)) :: (tableR_cr0 nB B nO O
     len [(↑i : Int) = (↑i : Int), Int.toNat (↑i : Int) = Int.toNat (↑i : Int), ∀ (i_2 : Nat), i_2 < Int.toNat (↑i : Int) → tabRS nB B nO O i_2 = tabRS nB B nO O i_2, Int.toNat ((↑i_1 : Int) + (1 : Int)) ≤ nB + nO, nB + nO - Int.toNat ((↑i_1 : Int) + (1 : Int)) < nB + nO - i_1])))))))) (.need [i64In ((↑i_1 : Int) + (1 : Int))] (.done (((↑i_1 : Int) + (1 : Int) = (↑(Int.toNat ((↑i_1 : Int) + (1 : Int))) : Int)) :: ((bestL (plX (unitR nB B O (nB + nO)) (rLen nB B O) (rCode nB) i_1) (tabRS nB B nO O) (Int.toNat (↑i : Int)) = bestL (plX (unitR nB B O (nB + nO)) (rLen nB B O) (rCode nB) (Int.toNat ((↑i_1 : Int) + (1 : Int)))) (tabRS nB B nO O) (Int.toNat (↑i : Int))) :: (((0 : Nat) = (0 : Nat)) :: ((Int.toNat (↑i : Int) = Int.toNat (↑i : Int)) :: (tableR_cr0 nB B nO O len [(↑i : Int) = (↑i : Int), Int.toNat (↑i : Int) = Int.toNat (↑i : Int), ∀ (i_2 : Nat), i_2 < Int.toNat (↑i : Int) → tabRS nB B nO O i_2 = tabRS nB B nO O i_2, Int.toNat ((↑i_1 : Int) + (1 : Int)) ≤ nB + nO, nB + nO - Int.toNat ((↑i_1 : Int) + (1 : Int)) < nB + nO - i_1])))))))))) (.need [Int.toNat (↑i : Int) ≤ Int.toNat (↑i : Int), (Int.toNat (↑i : Int) + (1 : Nat)) * (nat_lit 7 + (1 : Nat)) ≤ (140737488355328 : Nat), (1 : Nat) ≤ (1 : Nat)] (.need [i64In ((↑i : Int) + (1 : Int))] (.done (((↑i : Int) + (1 : Int) = (↑(Int.toNat ((↑i : Int) + (1 : Int))) : Int)) :: (((0 : Nat) = (0 : Nat)) :: ((Int.toNat (↑i : Int) + (1 : Nat) = Int.toNat ((↑i : Int) + (1 : Int))) :: (tableR_cr0 nB B nO O len [Int.toNat (↑i : Int) + (1 : Nat) = Int.toNat ((↑i : Int) + (1 : Int)), ∀ (i_2 : Nat), i_2 < Int.toNat ((↑i : Int) + (1 : Int)) → (if decide (i_2 < Int.toNat (↑i : Int)) = true then tabRS nB B nO O i_2 else bestL (plX (unitR nB B O (nB + nO)) (rLen nB B O) (rCode nB) i_1) (tabRS nB B nO O) (Int.toNat (↑i : Int))) = tabRS nB B nO O i_2, (1 : Nat) ≤ Int.toNat ((↑i : Int) + (1 : Int)) ∧ (↑(Int.toNat ((↑i : Int) + (1 : Int))) : Int) ≤ len / (↑(unitR nB B O (nB + nO)) : Int) + (1 : Int), Int.toNat (len / (↑(unitR nB B O (nB +
     nO)) : Int) + (1 : Int) - (↑(Int.toNat ((↑i : Int) + (1 : Int))) : Int)) < Int.toNat (len / (↑(unitR nB B O (nB + nO)) : Int) + (1 : Int) - (↑i : Int))])))))))) (.done [i ≤ i, i = Int.toNat (len / (↑(unitR nB B O (nB + nO)) : Int) + (1 : Int)), ∀ (i : Nat), i < Int.toNat (len / (↑(unitR nB B O (nB + nO)) : Int) + (1 : Int)) → tabRS nB B nO O i = tabRS nB B nO O i]))))) (by kernel_rfl) ?_
  simp only [q_tableR_c_0, q_tableR_c_1, q_tableR_c_2, q_tableR_c_3, VT.holds, AllT, imp_self, implies_true, and_true, true_and, toNat_succ, toNat_add2, toNat_zero', Int.toNat_natCast, Bool.if_true_left, Bool.if_false_right, Bool.decide_eq_true, Bool.or_eq_true, Bool.or_eq_false_iff, Bool.and_eq_true, Bool.and_eq_false_imp, Bool.not_eq_true', Bool.not_eq_false', Bool.not_not, bne_iff_ne, bne_eq_false_iff_eq, beq_iff_eq, beq_eq_false_iff_ne, decide_eq_true_eq, decide_eq_false_iff_not, ne_eq]
  obtain ⟨s1, s2, s3, sB, sO, _, _⟩ := sys_ok hs
  have hu := unitR_bd s1 sB sO
  have hlen : 0 ≤ len ∧ len ≤ 4000 * (unitR nB B O (nB + nO) : Int) := by
    unfold lenR at hl
    split at hl
    · cases hl
    · split at hl
      · cases hl
      · omega
  obtain ⟨q0, q1⟩ := quo_bd hu.1 hlen.1 hlen.2
  have hmp := fun {i} (hi : i < nB + nO) => unitsR_pos sB sO hi
  have huc := unitR_c nB B nO O W G L s2 s3 sB sO
  have hpc := partsR_c nB B nO O W G L s2 s3
  have hbd : ∀ p ∈ plX (unitR nB B O (nB + nO)) (rLen nB B O) (rCode nB) (nB + nO), 0 ≤ p.2 ∧ p.2 ≤ 10001 := fun p hp => by
    obtain ⟨i, hi, rfl⟩ := List.mem_map.1 hp
    exact rCode_bd nB i
  have hT := tabL_bd hbd
  have hT0 := tabL_zero (plX (unitR nB B O (nB + nO)) (rLen nB B O) (rCode nB) (nB + nO))
  have hTe := fun {k} => tabL_eq (plX (unitR nB B O (nB + nO)) (rLen nB B O) (rCode nB) (nB + nO)) (k := k)
  simp only [tabRS]
  generalize hTT : tabL (plX (unitR nB B O (nB + nO)) (rLen nB B O) (rCode nB) (nB + nO)) = T at *
  generalize unitR nB B O (nB + nO) = u at *
  have hmul : ∀ k : Nat, (k : Int) * (u : Int) ≤ len ↔ (k : Int) ≤ len / (u : Int) := fun k => (Int.le_ediv_iff_mul_le (by omega)).symm
  generalize hQ : len / (u : Int) = Q at *
  refine ⟨huc, hpc, ⟨rfl, rfl, rfl, fun i hi => by rw [show i = 0 by omega, hT0]⟩, ⟨by omega, by omega⟩, fun k ⟨k1, k2⟩ => ⟨?_, fun hk => ⟨⟨rfl, rfl⟩, Nat.zero_le _, fun i hi => ⟨fun hlt => ?_, fun hge => ?_⟩⟩, fun hk => ?_⟩⟩
  · have hm := Int.mul_le_mul (a := (k : Int)) (b := (u : Int)) (c := 4001) (d := 10000) (by omega) (by omega) (by omega) (by omega)
    have hm0 := Int.mul_nonneg (a := (k : Int)) (b := (u : Int)) (by omega) (by omega)
    unfold i64In; omega
  · rw [hmul] at hk
    have hi' : i < nB + nO := by omega
    have hx := rLen_bd sB sO hi'
    have e : rLen nB B O i / (u : Int) = (unitsOf u (rLen nB B O i) : Int) := by
      unfold unitsOf
      have := Int.ediv_nonneg (a := rLen nB B O i) (b := (u : Int)) (by omega) (by omega)
      omega
    have m1 := hmp hi'
    have hc := rCode_bd nB i
    have hs : bestL (plX u (rLen nB B O) (rCode nB) (i + 1)) T k = minP (bestL (plX u (rLen nB B O) (rCode nB) i) T k) (candL T k (unitsOf u (rLen nB B O i), rCode nB i)) := by
      rw [plX, range_snoc, bestL_snoc]; rfl
    simp only [e, Int.toNat_sub, addN_zero, hs]
    generalize unitsOf u (rLen nB B O i) = m at *
    have t1 := hT (k - m)
    generalize bestL (plX u (rLen nB B O) (rCode nB) i) T k = b at *
    generalize rCode nB i = c at *
    refine ⟨⟨⟨by omega, by omega⟩, by omega, by omega, by omega⟩, ⟨fun _ => by unfold i64In; omega, fun _ => by omega, fun _ => by omega, fun _ => by unfold i64In; omega, fun _ => by omega, fun _ => by omega, fun _ => by omega, fun _ => by unfold i64In; omega, fun a b => ⟨a, b⟩⟩, fun ⟨⟨h2, h3⟩, h4⟩ => ⟨⟨by unfold i64In; omega, by omega, by omega, by omega, by unfold i64In; omega⟩, by unfold i64In; omega, rfl, ?_, by omega, by omega⟩, fun h2 => ⟨by unfold i64In; omega, rfl, ?_, by omega, by omega⟩⟩
    · have hcd : candL T k (m, c) = T (k - m) + c := by
        unfold candL
        rw [if_pos (show 1 ≤ m ∧ m ≤ k ∧ 0 ≤ T (k - m) from ⟨m1, by omega, by omega⟩)]
      rw [hcd, minP, if_neg (by omega), if_pos h4]
    · by_cases h5 : (m : Int) ≤ (k : Int) ∧ T (k - m) ≥ 0
      · have hcd : candL T k (m, c) = T (k - m) + c := by
          unfold candL
          rw [if_pos (show 1 ≤ m ∧ m ≤ k ∧ 0 ≤ T (k - m) from ⟨m1, by omega, by omega⟩)]
        have h6 := h2 h5
        rw [hcd, minP, if_neg (by omega), if_neg (by omega)]
      · have hcd : candL T k (m, c) = -1 := by
          unfold candL
          rw [if_neg]
          intro ⟨_, h6, h7⟩
          dsimp only at h6 h7
          exact h5 ⟨by omega, by omega⟩
        rw [hcd, minP, if_pos (by omega)]
  · rw [hmul] at hk
    rw [show i = nB + nO by omega]
    refine ⟨⟨Nat.le_refl _, by omega, Nat.le_refl _⟩, by unfold i64In; omega, rfl, fun q hq => ?_, ⟨by omega, by omega⟩, by omega⟩
    by_cases e : q < k
    · rw [if_pos e]
    · rw [if_neg e, show q = k by omega, hTe (by omega)]
  · rw [hmul] at hk
    exact ⟨Nat.le_refl _, by omega⟩
end Go.Abs.Lay
