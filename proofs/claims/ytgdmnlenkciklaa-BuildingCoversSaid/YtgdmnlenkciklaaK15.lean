/- Contracts. -/
import Derived.Test.YtgdmnlenkciklaaK14
set_option linter.unusedVariables false
set_option linter.unusedSimpArgs false
set_option maxRecDepth 100000
namespace Go.Abs
open Go
theorem gridL_c (y : Bool) (n : Nat) (X Y : Nat → Int) (m : Nat) (X' Y' : Nat → Int) (hn2 : n ≤ 800) (hm2 : m ≤ 800) :
    FnC prog 78 [dB y, .lst 2 [fun i => pts (N2 n m i) (X2 X X' i) (X2 Y Y' i)]] (numsL (if y = true then gr n Y m Y' else gr n X m X')) := by
  have h := gridR_c y 2 (N2 n m) (X2 X X') (X2 Y Y') (by omega) (by simp [allN, N2]; omega)
  cases y with
  | true => exact h
  | false => exact h
theorem cell_at (n : Nat) (X Y : Nat → Int) (m : Nat) (X' Y' : Nat → Int) {i k : Nat} (hk : k < (gr n Y m Y').length - 1) : cellM n X Y m X' Y' (((gr n Y m Y').length - 1) * i + k) = ((gr n X m X').getD i 0 + (gr n X m X').getD (i + 1) 0, (gr n Y m Y').getD k 0 + (gr n Y m Y').getD (k + 1) 0) := by
  unfold cellM
  rw [mid_at _ _ hk]
noncomputable def A36_coversR_c (n : Nat) (X Y : Nat → Int) (m : Nat) (X' Y' : Nat → Int) : Ann := { orc := [(1, [(3, .res fun _ => numsL (gr n X m X')), (7, .res fun _ => numsL (gr n Y m Y'))]), (8, [(19, rMid), (40, rMid)])], loops := [(0, { ι := Nat, keep := [0, 1, 5, 6], boxes := [], ts := fun _ i => [(7, dI (i : Int))], inv := fun _ i => i ≤ (gr n X m X').length - 1 ∧ ∀ c, c < ((gr n Y m Y').length - 1) * i → badC n X Y m X' Y' c = false, mu := fun _ i => (gr n X m X').length - i, rd := fun _ σ => (iOf (σ.get 7)).toNat }), (2, { ι := Nat, keep := [0, 1, 5, 6, 7], boxes := [], ts := fun _ k => [(8, dI (k : Int))], inv := fun σ k => k ≤ (gr n Y m Y').length - 1 ∧ ∀ c, c < ((gr n Y m Y').length - 1) * (iOf (σ.get 7)).toNat + k → badC n X Y m X' Y' c = false, mu := fun _ k => (gr n Y m Y').length - k, rd := fun _ σ => (iOf (σ.get 8)).toNat })], cuts := [] }
theorem coversR_c (n : Nat) (X Y : Nat → Int) (m : Nat) (X' Y' : Nat → Int) (h : chk n X Y = 0) (h' : chk m X' Y' = 0) : FnC prog 36 [pts n X Y, pts m X' Y'] (dB (covF n X Y m X' Y')) := by
  refine FnC_owed hmix (A36_coversR_c n X Y m X' Y') (V := VT.need
        [(2 : Nat) ≤ (2 : Nat),
          FnC prog (78 : Nat)
            [DV.val (Value.bool false),
              DV.lst (2 : Nat)
                [fun (i : Nat) =>
                  DV.lst (if decide (i = (0 : Nat)) = true then n else m)
                    [fun (i_1 : Nat) =>
                      DV.val (Value.int IntKind.i64 (if decide (i = (0 : Nat)) = true then X i_1 else X' i_1)),
                      fun (i_1 : Nat) =>
                      DV.val (Value.int IntKind.i64 (if decide (i = (0 : Nat)) = true then Y i_1 else Y' i_1))]]]
            (DV.lst (List.length (gr n X m X'))
              [fun (i : Nat) => DV.val (Value.int IntKind.i64 (List.getD (gr n X m X') i (0 : Int)))]),
          (2 : Nat) ≤ (2 : Nat),
          FnC prog (78 : Nat)
            [DV.val (Value.bool true),
              DV.lst (2 : Nat)
                [fun (i : Nat) =>
                  DV.lst (if decide (i = (0 : Nat)) = true then n else m)
                    [fun (i_1 : Nat) =>
                      DV.val (Value.int IntKind.i64 (if decide (i = (0 : Nat)) = true then X i_1 else X' i_1)),
                      fun (i_1 : Nat) =>
                      DV.val (Value.int IntKind.i64 (if decide (i = (0 : Nat)) = true then Y i_1 else Y' i_1))]]]
            (DV.lst (List.length (gr n Y m Y'))
              [fun (i : Nat) => DV.val (Value.int IntKind.i64 (List.getD (gr n Y m Y') i (0 : Int)))])]
        (VT.loop Nat
          (fun (a : Nat) =>
            a ≤ List.length (gr n X m X') - (1 : Nat) ∧
              ∀ (c : Nat), c < (List.length (gr n Y m Y') - (1 : Nat)) * a → badC n X Y m X' Y' c = false)
          (Int.toNat (0 : Int))
          [(0 : Int) = (↑(Int.toNat (0 : Int)) : Int), n = n, ∀ (i : Nat), i < n → X i = X i,
            ∀ (i : Nat), i < n → Y i = Y i, m = m, ∀ (i : Nat), i < m → X' i = X' i, ∀ (i : Nat), i < m → Y' i = Y' i,
            List.length (gr n X m X') = List.length (gr n X m X'),
            ∀ (i : Nat),
              i < List.length (gr n X m X') → List.getD (gr n X m X') i (0 : Int) = List.getD (gr n X m X') i (0 : Int),
            List.length (gr n Y m Y') = List.length (gr n Y m Y'),
            ∀ (i : Nat),
              i < List.length (gr n Y m Y') → List.getD (gr n Y m Y') i (0 : Int) = List.getD (gr n Y m Y') i (0 : Int)]
          fun (i : Nat) =>
          VT.need [i64In ((↑i : Int) + (1 : Int))]
            (VT.ite (decide ((↑i : Int) + (1 : Int) < (↑(List.length (gr n X m X')) : Int)))
              (VT.loop Nat
                (fun (a : Nat) =>
                  a ≤ List.length (gr n Y m Y') - (1 : Nat) ∧
                    ∀ (c : Nat),
                      c < (List.length (gr n Y m Y') - (1 : Nat)) * Int.toNat (↑i : Int) + a → badC n X Y m X' Y' c = false)
                (Int.toNat (0 : Int))
                [(0 : Int) = (↑(Int.toNat (0 : Int)) : Int), n = n, ∀ (i : Nat), i < n → X i = X i,
                  ∀ (i : Nat), i < n → Y i = Y i, m = m, ∀ (i : Nat), i < m → X' i = X' i, ∀ (i : Nat), i < m → Y' i = Y' i,
                  List.length (gr n X m X') = List.length (gr n X m X'),
                  ∀ (i : Nat),
                    i < List.length (gr n X m X') →
                      List.getD (gr n X m X') i (0 : Int) = List.getD (gr n X m X') i (0 : Int),
                  List.length (gr n Y m Y') = List.length (gr n Y m Y'),
                  ∀ (i : Nat),
                    i < List.length (gr n Y m Y') →
                      List.getD (gr n Y m Y') i (0 : Int) = List.getD (gr n Y m Y') i (0 : Int),
                  (↑i : Int) = (↑i : Int)]
                fun (i_1 : Nat) =>
                VT.need [i64In ((↑i_1 : Int) + (1 : Int))]
                  (VT.ite (decide ((↑i_1 : Int) + (1 : Int) < (↑(List.length (gr n Y m Y')) : Int)))
                    (VT.need
                      [(0 : Int) ≤ (↑i : Int) ∧ (↑i : Int) < (↑(List.length (gr n X m X')) : Int),
                        i64In ((↑i : Int) + (1 : Int)),
                        (0 : Int) ≤ (↑i : Int) + (1 : Int) ∧ (↑i : Int) + (1 : Int) < (↑(List.length (gr n X m X')) : Int),
                        (0 : Int) ≤ (↑i_1 : Int) ∧ (↑i_1 : Int) < (↑(List.length (gr n Y m Y')) : Int),
                        i64In ((↑i_1 : Int) + (1 : Int)),
                        (0 : Int) ≤ (↑i_1 : Int) + (1 : Int) ∧
                          (↑i_1 : Int) + (1 : Int) < (↑(List.length (gr n Y m Y')) : Int),
                        FnC prog (79 : Nat)
                          [DV.lst m
                              [fun (i : Nat) => DV.val (Value.int IntKind.i64 (X' i)), fun (i : Nat) =>
                                DV.val (Value.int IntKind.i64 (Y' i))],
                            DV.val (Value.int IntKind.i64 (List.getD (gr n X m X') (Int.toNat (↑i : Int)) (0 : Int))),
                            DV.val
                              (Value.int IntKind.i64
                                (List.getD (gr n X m X') (Int.toNat ((↑i : Int) + (1 : Int))) (0 : Int))),
                            DV.val (Value.int IntKind.i64 (List.getD (gr n Y m Y') (Int.toNat (↑i_1 : Int)) (0 : Int))),
                            DV.val
                              (Value.int IntKind.i64
                                (List.getD (gr n Y m Y') (Int.toNat ((↑i_1 : Int) + (1 : Int))) (0 : Int)))]
                          (DV.val
                            (Value.bool
                              (midF m X' Y'
                                (List.getD (gr n X m X') (Int.toNat (↑i : Int)) (0 : Int) +
                                  List.getD (gr n X m X') (Int.toNat ((↑i : Int) + (1 : Int))) (0 : Int))
                                (List.getD (gr n Y m Y') (Int.toNat (↑i_1 : Int)) (0 : Int) +
                                  List.getD (gr n Y m Y') (Int.toNat ((↑i_1 : Int) + (1 : Int))) (0 : Int))))),
                        midF m X' Y'
                              (List.getD (gr n X m X') (Int.toNat (↑i : Int)) (0 : Int) +
                                List.getD (gr n X m X') (Int.toNat ((↑i : Int) + (1 : Int))) (0 : Int))
                              (List.getD (gr n Y m Y') (Int.toNat (↑i_1 : Int)) (0 : Int) +
                                List.getD (gr n Y m Y') (Int.toNat ((↑i_1 : Int) + (1 : Int))) (0 : Int)) =
                            true →
                          midF m X' Y'
                              (List.getD (gr n X m X') (Int.toNat (↑i : Int)) (0 : Int) +
                                List.getD (gr n X m X') (Int.toNat ((↑i : Int) + (1 : Int))) (0 : Int))
                              (List.getD (gr n Y m Y') (Int.toNat (↑i_1 : Int)) (0 : Int) +
                                List.getD (gr n Y m Y') (Int.toNat ((↑i_1 : Int) + (1 : Int))) (0 : Int)) =
                            true,
                        midF m X' Y'
                              (List.getD (gr n X m X') (Int.toNat (↑i : Int)) (0 : Int) +
                                List.getD (gr n X m X') (Int.toNat ((↑i : Int) + (1 : Int))) (0 : Int))
                              (List.getD (gr n Y m Y') (Int.toNat (↑i_1 : Int)) (0 : Int) +
                                List.getD (gr n Y m Y') (Int.toNat ((↑i_1 : Int) + (1 : Int))) (0 : Int)) =
                            true →
                          midF m X' Y'
                              (List.getD (gr n X m X') (Int.toNat (↑i : Int)) (0 : Int) +
                                List.getD (gr n X m X') (Int.toNat ((↑i : Int) + (1 : Int))) (0 : Int))
                              (List.getD (gr n Y m Y') (Int.toNat (↑i_1 : Int)) (0 : Int) +
                                List.getD (gr n Y m Y') (Int.toNat ((↑i_1 : Int) + (1 : Int))) (0 : Int)) =
                            true,
                        midF m X' Y'
                              (List.getD (gr n X m X') (Int.toNat (↑i : Int)) (0 : Int) +
                                List.getD (gr n X m X') (Int.toNat ((↑i : Int) + (1 : Int))) (0 : Int))
                              (List.getD (gr n Y m Y') (Int.toNat (↑i_1 : Int)) (0 : Int) +
                                List.getD (gr n Y m Y') (Int.toNat ((↑i_1 : Int) + (1 : Int))) (0 : Int)) =
                            true →
                          (0 : Int) ≤ (↑i : Int) ∧ (↑i : Int) < (↑(List.length (gr n X m X')) : Int),
                        midF m X' Y'
                              (List.getD (gr n X m X') (Int.toNat (↑i : Int)) (0 : Int) +
                                List.getD (gr n X m X') (Int.toNat ((↑i : Int) + (1 : Int))) (0 : Int))
                              (List.getD (gr n Y m Y') (Int.toNat (↑i_1 : Int)) (0 : Int) +
                                List.getD (gr n Y m Y') (Int.toNat ((↑i_1 : Int) + (1 : Int))) (0 : Int)) =
                            true →
                          midF m X' Y'
                              (List.getD (gr n X m X') (Int.toNat (↑i : Int)) (0 : Int) +
                                List.getD (gr n X m X') (Int.toNat ((↑i : Int) + (1 : Int))) (0 : Int))
                              (List.getD (gr n Y m Y') (Int.toNat (↑i_1 : Int)) (0 : Int) +
                                List.getD (gr n Y m Y') (Int.toNat ((↑i_1 : Int) + (1 : Int))) (0 : Int)) =
                            true,
                        midF m X' Y'
                              (List.getD (gr n X m X') (Int.toNat (↑i : Int)) (0 : Int) +
                                List.getD (gr n X m X') (Int.toNat ((↑i : Int) + (1 : Int))) (0 : Int))
                              (List.getD (gr n Y m Y') (Int.toNat (↑i_1 : Int)) (0 : Int) +
                                List.getD (gr n Y m Y') (Int.toNat ((↑i_1 : Int) + (1 : Int))) (0 : Int)) =
                            true →
                          midF m X' Y'
                              (List.getD (gr n X m X') (Int.toNat (↑i : Int)) (0 : Int) +
                                List.getD (gr n X m X') (Int.toNat ((↑i : Int) + (1 : Int))) (0 : Int))
                              (List.getD (gr n Y m Y') (Int.toNat (↑i_1 : Int)) (0 : Int) +
                                List.getD (gr n Y m Y') (Int.toNat ((↑i_1 : Int) + (1 : Int))) (0 : Int)) =
                            true,
                        midF m X' Y'
                              (List.getD (gr n X m X') (Int.toNat (↑i : Int)) (0 : Int) +
                                List.getD (gr n X m X') (Int.toNat ((↑i : Int) + (1 : Int))) (0 : Int))
                              (List.getD (gr n Y m Y') (Int.toNat (↑i_1 : Int)) (0 : Int) +
                                List.getD (gr n Y m Y') (Int.toNat ((↑i_1 : Int) + (1 : Int))) (0 : Int)) =
                            true →
                          i64In ((↑i : Int) + (1 : Int)),
                        midF m X' Y'
                              (List.getD (gr n X m X') (Int.toNat (↑i : Int)) (0 : Int) +
                                List.getD (gr n X m X') (Int.toNat ((↑i : Int) + (1 : Int))) (0 : Int))
                              (List.getD (gr n Y m Y') (Int.toNat (↑i_1 : Int)) (0 : Int) +
                                List.getD (gr n Y m Y') (Int.toNat ((↑i_1 : Int) + (1 : Int))) (0 : Int)) =
                            true →
                          midF m X' Y'
                              (List.getD (gr n X m X') (Int.toNat (↑i : Int)) (0 : Int) +
                                List.getD (gr n X m X') (Int.toNat ((↑i : Int) + (1 : Int))) (0 : Int))
                              (List.getD (gr n Y m Y') (Int.toNat (↑i_1 : Int)) (0 : Int) +
                                List.getD (gr n Y m Y') (Int.toNat ((↑i_1 : Int) + (1 : Int))) (0 : Int)) =
                            true,
                        midF m X' Y'
                              (List.getD (gr n X m X') (Int.toNat (↑i : Int)) (0 : Int) +
                                List.getD (gr n X m X') (Int.toNat ((↑i : Int) + (1 : Int))) (0 : Int))
                              (List.getD (gr n Y m Y') (Int.toNat (↑i_1 : Int)) (0 : Int) +
                                List.getD (gr n Y m Y') (Int.toNat ((↑i_1 : Int) + (1 : Int))) (0 : Int)) =
                            true →
                          midF m X' Y'
                              (List.getD (gr n X m X') (Int.toNat (↑i : Int)) (0 : Int) +
                                List.getD (gr n X m X') (Int.toNat ((↑i : Int) + (1 : Int))) (0 : Int))
                              (List.getD (gr n Y m Y') (Int.toNat (↑i_1 : Int)) (0 : Int) +
                                List.getD (gr n Y m Y') (Int.toNat ((↑i_1 : Int) + (1 : Int))) (0 : Int)) =
                            true,
                        midF m X' Y'
                              (List.getD (gr n X m X') (Int.toNat (↑i : Int)) (0 : Int) +
                                List.getD (gr n X m X') (Int.toNat ((↑i : Int) + (1 : Int))) (0 : Int))
                              (List.getD (gr n Y m Y') (Int.toNat (↑i_1 : Int)) (0 : Int) +
                                List.getD (gr n Y m Y') (Int.toNat ((↑i_1 : Int) + (1 : Int))) (0 : Int)) =
                            true →
                          (0 : Int) ≤ (↑i : Int) + (1 : Int) ∧
                            (↑i : Int) + (1 : Int) < (↑(List.length (gr n X m X')) : Int),
                        midF m X' Y'
                              (List.getD (gr n X m X') (Int.toNat (↑i : Int)) (0 : Int) +
                                List.getD (gr n X m X') (Int.toNat ((↑i : Int) + (1 : Int))) (0 : Int))
                              (List.getD (gr n Y m Y') (Int.toNat (↑i_1 : Int)) (0 : Int) +
                                List.getD (gr n Y m Y') (Int.toNat ((↑i_1 : Int) + (1 : Int))) (0 : Int)) =
                            true →
                          midF m X' Y'
                              (List.getD (gr n X m X') (Int.toNat (↑i : Int)) (0 : Int) +
                                List.getD (gr n X m X') (Int.toNat ((↑i : Int) + (1 : Int))) (0 : Int))
                              (List.getD (gr n Y m Y') (Int.toNat (↑i_1 : Int)) (0 : Int) +
                                List.getD (gr n Y m Y') (Int.toNat ((↑i_1 : Int) + (1 : Int))) (0 : Int)) =
                            true,
                        midF m X' Y'
                              (List.getD (gr n X m X') (Int.toNat (↑i : Int)) (0 : Int) +
                                List.getD (gr n X m X') (Int.toNat ((↑i : Int) + (1 : Int))) (0 : Int))
                              (List.getD (gr n Y m Y') (Int.toNat (↑i_1 : Int)) (0 : Int) +
                                List.getD (gr n Y m Y') (Int.toNat ((↑i_1 : Int) + (1 : Int))) (0 : Int)) =
                            true →
                          midF m X' Y'
                              (List.getD (gr n X m X') (Int.toNat (↑i : Int)) (0 : Int) +
                                List.getD (gr n X m X') (Int.toNat ((↑i : Int) + (1 : Int))) (0 : Int))
                              (List.getD (gr n Y m Y') (Int.toNat (↑i_1 : Int)) (0 : Int) +
                                List.getD (gr n Y m Y') (Int.toNat ((↑i_1 : Int) + (1 : Int))) (0 : Int)) =
                            true,
                        midF m X' Y'
                              (List.getD (gr n X m X') (Int.toNat (↑i : Int)) (0 : Int) +
                                List.getD (gr n X m X') (Int.toNat ((↑i : Int) + (1 : Int))) (0 : Int))
                              (List.getD (gr n Y m Y') (Int.toNat (↑i_1 : Int)) (0 : Int) +
                                List.getD (gr n Y m Y') (Int.toNat ((↑i_1 : Int) + (1 : Int))) (0 : Int)) =
                            true →
                          midF m X' Y'
                              (List.getD (gr n X m X') (Int.toNat (↑i : Int)) (0 : Int) +
                                List.getD (gr n X m X') (Int.toNat ((↑i : Int) + (1 : Int))) (0 : Int))
                              (List.getD (gr n Y m Y') (Int.toNat (↑i_1 : Int)) (0 : Int) +
                                List.getD (gr n Y m Y') (Int.toNat ((↑i_1 : Int) + (1 : Int))) (0 : Int)) =
                            true,
                        midF m X' Y'
                              (List.getD (gr n X m X') (Int.toNat (↑i : Int)) (0 : Int) +
                                List.getD (gr n X m X') (Int.toNat ((↑i : Int) + (1 : Int))) (0 : Int))
                              (List.getD (gr n Y m Y') (Int.toNat (↑i_1 : Int)) (0 : Int) +
                                List.getD (gr n Y m Y') (Int.toNat ((↑i_1 : Int) + (1 : Int))) (0 : Int)) =
                            true →
                          (0 : Int) ≤ (↑i_1 : Int) ∧ (↑i_1 : Int) < (↑(List.length (gr n Y m Y')) : Int),
                        midF m X' Y'
                              (List.getD (gr n X m X') (Int.toNat (↑i : Int)) (0 : Int) +
                                List.getD (gr n X m X') (Int.toNat ((↑i : Int) + (1 : Int))) (0 : Int))
                              (List.getD (gr n Y m Y') (Int.toNat (↑i_1 : Int)) (0 : Int) +
                                List.getD (gr n Y m Y') (Int.toNat ((↑i_1 : Int) + (1 : Int))) (0 : Int)) =
                            true →
                          midF m X' Y'
                              (List.getD (gr n X m X') (Int.toNat (↑i : Int)) (0 : Int) +
                                List.getD (gr n X m X') (Int.toNat ((↑i : Int) + (1 : Int))) (0 : Int))
                              (List.getD (gr n Y m Y') (Int.toNat (↑i_1 : Int)) (0 : Int) +
                                List.getD (gr n Y m Y') (Int.toNat ((↑i_1 : Int) + (1 : Int))) (0 : Int)) =
                            true,
                        midF m X' Y'
                              (List.getD (gr n X m X') (Int.toNat (↑i : Int)) (0 : Int) +
                                List.getD (gr n X m X') (Int.toNat ((↑i : Int) + (1 : Int))) (0 : Int))
                              (List.getD (gr n Y m Y') (Int.toNat (↑i_1 : Int)) (0 : Int) +
                                List.getD (gr n Y m Y') (Int.toNat ((↑i_1 : Int) + (1 : Int))) (0 : Int)) =
                            true →
                          midF m X' Y'
                              (List.getD (gr n X m X') (Int.toNat (↑i : Int)) (0 : Int) +
                                List.getD (gr n X m X') (Int.toNat ((↑i : Int) + (1 : Int))) (0 : Int))
                              (List.getD (gr n Y m Y') (Int.toNat (↑i_1 : Int)) (0 : Int) +
                                List.getD (gr n Y m Y') (Int.toNat ((↑i_1 : Int) + (1 : Int))) (0 : Int)) =
                            true,
                        midF m X' Y'
                              (List.getD (gr n X m X') (Int.toNat (↑i : Int)) (0 : Int) +
                                List.getD (gr n X m X') (Int.toNat ((↑i : Int) + (1 : Int))) (0 : Int))
                              (List.getD (gr n Y m Y') (Int.toNat (↑i_1 : Int)) (0 : Int) +
                                List.getD (gr n Y m Y') (Int.toNat ((↑i_1 : Int) + (1 : Int))) (0 : Int)) =
                            true →
                          i64In ((↑i_1 : Int) + (1 : Int)),
                        midF m X' Y'
                              (List.getD (gr n X m X') (Int.toNat (↑i : Int)) (0 : Int) +
                                List.getD (gr n X m X') (Int.toNat ((↑i : Int) + (1 : Int))) (0 : Int))
                              (List.getD (gr n Y m Y') (Int.toNat (↑i_1 : Int)) (0 : Int) +
                                List.getD (gr n Y m Y') (Int.toNat ((↑i_1 : Int) + (1 : Int))) (0 : Int)) =
                            true →
                          midF m X' Y'
                              (List.getD (gr n X m X') (Int.toNat (↑i : Int)) (0 : Int) +
                                List.getD (gr n X m X') (Int.toNat ((↑i : Int) + (1 : Int))) (0 : Int))
                              (List.getD (gr n Y m Y') (Int.toNat (↑i_1 : Int)) (0 : Int) +
                                List.getD (gr n Y m Y') (Int.toNat ((↑i_1 : Int) + (1 : Int))) (0 : Int)) =
                            true,
                        midF m X' Y'
                              (List.getD (gr n X m X') (Int.toNat (↑i : Int)) (0 : Int) +
                                List.getD (gr n X m X') (Int.toNat ((↑i : Int) + (1 : Int))) (0 : Int))
                              (List.getD (gr n Y m Y') (Int.toNat (↑i_1 : Int)) (0 : Int) +
                                List.getD (gr n Y m Y') (Int.toNat ((↑i_1 : Int) + (1 : Int))) (0 : Int)) =
                            true →
                          midF m X' Y'
                              (List.getD (gr n X m X') (Int.toNat (↑i : Int)) (0 : Int) +
                                List.getD (gr n X m X') (Int.toNat ((↑i : Int) + (1 : Int))) (0 : Int))
                              (List.getD (gr n Y m Y') (Int.toNat (↑i_1 : Int)) (0 : Int) +
                                List.getD (gr n Y m Y') (Int.toNat ((↑i_1 : Int) + (1 : Int))) (0 : Int)) =
                            true,
                        midF m X' Y'
                              (List.getD (gr n X m X') (Int.toNat (↑i : Int)) (0 : Int) +
                                List.getD (gr n X m X') (Int.toNat ((↑i : Int) + (1 : Int))) (0 : Int))
                              (List.getD (gr n Y m Y') (Int.toNat (↑i_1 : Int)) (0 : Int) +
                                List.getD (gr n Y m Y') (Int.toNat ((↑i_1 : Int) + (1 : Int))) (0 : Int)) =
                            true →
                          (0 : Int) ≤ (↑i_1 : Int) + (1 : Int) ∧
                            (↑i_1 : Int) + (1 : Int) < (↑(List.length (gr n Y m Y')) : Int),
                        midF m X' Y'
                              (List.getD (gr n X m X') (Int.toNat (↑i : Int)) (0 : Int) +
                                List.getD (gr n X m X') (Int.toNat ((↑i : Int) + (1 : Int))) (0 : Int))
                              (List.getD (gr n Y m Y') (Int.toNat (↑i_1 : Int)) (0 : Int) +
                                List.getD (gr n Y m Y') (Int.toNat ((↑i_1 : Int) + (1 : Int))) (0 : Int)) =
                            true →
                          midF m X' Y'
                              (List.getD (gr n X m X') (Int.toNat (↑i : Int)) (0 : Int) +
                                List.getD (gr n X m X') (Int.toNat ((↑i : Int) + (1 : Int))) (0 : Int))
                              (List.getD (gr n Y m Y') (Int.toNat (↑i_1 : Int)) (0 : Int) +
                                List.getD (gr n Y m Y') (Int.toNat ((↑i_1 : Int) + (1 : Int))) (0 : Int)) =
                            true,
                        midF m X' Y'
                              (List.getD (gr n X m X') (Int.toNat (↑i : Int)) (0 : Int) +
                                List.getD (gr n X m X') (Int.toNat ((↑i : Int) + (1 : Int))) (0 : Int))
                              (List.getD (gr n Y m Y') (Int.toNat (↑i_1 : Int)) (0 : Int) +
                                List.getD (gr n Y m Y') (Int.toNat ((↑i_1 : Int) + (1 : Int))) (0 : Int)) =
                            true →
                          midF m X' Y'
                              (List.getD (gr n X m X') (Int.toNat (↑i : Int)) (0 : Int) +
                                List.getD (gr n X m X') (Int.toNat ((↑i : Int) + (1 : Int))) (0 : Int))
                              (List.getD (gr n Y m Y') (Int.toNat (↑i_1 : Int)) (0 : Int) +
                                List.getD (gr n Y m Y') (Int.toNat ((↑i_1 : Int) + (1 : Int))) (0 : Int)) =
                            true,
                        midF m X' Y'
                              (List.getD (gr n X m X') (Int.toNat (↑i : Int)) (0 : Int) +
                                List.getD (gr n X m X') (Int.toNat ((↑i : Int) + (1 : Int))) (0 : Int))
                              (List.getD (gr n Y m Y') (Int.toNat (↑i_1 : Int)) (0 : Int) +
                                List.getD (gr n Y m Y') (Int.toNat ((↑i_1 : Int) + (1 : Int))) (0 : Int)) =
                            true →
                          midF m X' Y'
                              (List.getD (gr n X m X') (Int.toNat (↑i : Int)) (0 : Int) +
                                List.getD (gr n X m X') (Int.toNat ((↑i : Int) + (1 : Int))) (0 : Int))
                              (List.getD (gr n Y m Y') (Int.toNat (↑i_1 : Int)) (0 : Int) +
                                List.getD (gr n Y m Y') (Int.toNat ((↑i_1 : Int) + (1 : Int))) (0 : Int)) =
                            true,
                        midF m X' Y'
                              (List.getD (gr n X m X') (Int.toNat (↑i : Int)) (0 : Int) +
                                List.getD (gr n X m X') (Int.toNat ((↑i : Int) + (1 : Int))) (0 : Int))
                              (List.getD (gr n Y m Y') (Int.toNat (↑i_1 : Int)) (0 : Int) +
                                List.getD (gr n Y m Y') (Int.toNat ((↑i_1 : Int) + (1 : Int))) (0 : Int)) =
                            true →
                          midF m X' Y'
                              (List.getD (gr n X m X') (Int.toNat (↑i : Int)) (0 : Int) +
                                List.getD (gr n X m X') (Int.toNat ((↑i : Int) + (1 : Int))) (0 : Int))
                              (List.getD (gr n Y m Y') (Int.toNat (↑i_1 : Int)) (0 : Int) +
                                List.getD (gr n Y m Y') (Int.toNat ((↑i_1 : Int) + (1 : Int))) (0 : Int)) =
                            true,
                        midF m X' Y'
                              (List.getD (gr n X m X') (Int.toNat (↑i : Int)) (0 : Int) +
                                List.getD (gr n X m X') (Int.toNat ((↑i : Int) + (1 : Int))) (0 : Int))
                              (List.getD (gr n Y m Y') (Int.toNat (↑i_1 : Int)) (0 : Int) +
                                List.getD (gr n Y m Y') (Int.toNat ((↑i_1 : Int) + (1 : Int))) (0 : Int)) =
                            true →
                          midF m X' Y'
                              (List.getD (gr n X m X') (Int.toNat (↑i : Int)) (0 : Int) +
                                List.getD (gr n X m X') (Int.toNat ((↑i : Int) + (1 : Int))) (0 : Int))
                              (List.getD (gr n Y m Y') (Int.toNat (↑i_1 : Int)) (0 : Int) +
                                List.getD (gr n Y m Y') (Int.toNat ((↑i_1 : Int) + (1 : Int))) (0 : Int)) =
                            true,
                        midF m X' Y'
                              (List.getD (gr n X m X') (Int.toNat (↑i : Int)) (0 : Int) +
                                List.getD (gr n X m X') (Int.toNat ((↑i : Int) + (1 : Int))) (0 : Int))
                              (List.getD (gr n Y m Y') (Int.toNat (↑i_1 : Int)) (0 : Int) +
                                List.getD (gr n Y m Y') (Int.toNat ((↑i_1 : Int) + (1 : Int))) (0 : Int)) =
                            true →
                          midF m X' Y'
                              (List.getD (gr n X m X') (Int.toNat (↑i : Int)) (0 : Int) +
                                List.getD (gr n X m X') (Int.toNat ((↑i : Int) + (1 : Int))) (0 : Int))
                              (List.getD (gr n Y m Y') (Int.toNat (↑i_1 : Int)) (0 : Int) +
                                List.getD (gr n Y m Y') (Int.toNat ((↑i_1 : Int) + (1 : Int))) (0 : Int)) =
                            true,
                        midF m X' Y'
                              (List.getD (gr n X m X') (Int.toNat (↑i : Int)) (0 : Int) +
                                List.getD (gr n X m X') (Int.toNat ((↑i : Int) + (1 : Int))) (0 : Int))
                              (List.getD (gr n Y m Y') (Int.toNat (↑i_1 : Int)) (0 : Int) +
                                List.getD (gr n Y m Y') (Int.toNat ((↑i_1 : Int) + (1 : Int))) (0 : Int)) =
                            true →
                          FnC prog (79 : Nat)
                            [DV.lst n
                                [fun (i : Nat) => DV.val (Value.int IntKind.i64 (X i)), fun (i : Nat) =>
                                  DV.val (Value.int IntKind.i64 (Y i))],
                              DV.val (Value.int IntKind.i64 (List.getD (gr n X m X') (Int.toNat (↑i : Int)) (0 : Int))),
                              DV.val
                                (Value.int IntKind.i64
                                  (List.getD (gr n X m X') (Int.toNat ((↑i : Int) + (1 : Int))) (0 : Int))),
                              DV.val (Value.int IntKind.i64 (List.getD (gr n Y m Y') (Int.toNat (↑i_1 : Int)) (0 : Int))),
                              DV.val
                                (Value.int IntKind.i64
                                  (List.getD (gr n Y m Y') (Int.toNat ((↑i_1 : Int) + (1 : Int))) (0 : Int)))]
                            (DV.val
                              (Value.bool
                                (midF n X Y
                                  (List.getD (gr n X m X') (Int.toNat (↑i : Int)) (0 : Int) +
                                    List.getD (gr n X m X') (Int.toNat ((↑i : Int) + (1 : Int))) (0 : Int))
                                  (List.getD (gr n Y m Y') (Int.toNat (↑i_1 : Int)) (0 : Int) +
                                    List.getD (gr n Y m Y') (Int.toNat ((↑i_1 : Int) + (1 : Int))) (0 : Int))))),
                        midF m X' Y'
                              (List.getD (gr n X m X') (Int.toNat (↑i : Int)) (0 : Int) +
                                List.getD (gr n X m X') (Int.toNat ((↑i : Int) + (1 : Int))) (0 : Int))
                              (List.getD (gr n Y m Y') (Int.toNat (↑i_1 : Int)) (0 : Int) +
                                List.getD (gr n Y m Y') (Int.toNat ((↑i_1 : Int) + (1 : Int))) (0 : Int)) =
                            true →
                          midF m X' Y'
                              (List.getD (gr n X m X') (Int.toNat (↑i : Int)) (0 : Int) +
                                List.getD (gr n X m X') (Int.toNat ((↑i : Int) + (1 : Int))) (0 : Int))
                              (List.getD (gr n Y m Y') (Int.toNat (↑i_1 : Int)) (0 : Int) +
                                List.getD (gr n Y m Y') (Int.toNat ((↑i_1 : Int) + (1 : Int))) (0 : Int)) =
                            true,
                        midF m X' Y'
                              (List.getD (gr n X m X') (Int.toNat (↑i : Int)) (0 : Int) +
                                List.getD (gr n X m X') (Int.toNat ((↑i : Int) + (1 : Int))) (0 : Int))
                              (List.getD (gr n Y m Y') (Int.toNat (↑i_1 : Int)) (0 : Int) +
                                List.getD (gr n Y m Y') (Int.toNat ((↑i_1 : Int) + (1 : Int))) (0 : Int)) =
                            true →
                          midF m X' Y'
                              (List.getD (gr n X m X') (Int.toNat (↑i : Int)) (0 : Int) +
                                List.getD (gr n X m X') (Int.toNat ((↑i : Int) + (1 : Int))) (0 : Int))
                              (List.getD (gr n Y m Y') (Int.toNat (↑i_1 : Int)) (0 : Int) +
                                List.getD (gr n Y m Y') (Int.toNat ((↑i_1 : Int) + (1 : Int))) (0 : Int)) =
                            true]
                      (VT.ite
                        (if
                            midF m X' Y'
                                (List.getD (gr n X m X') (Int.toNat (↑i : Int)) (0 : Int) +
                                  List.getD (gr n X m X') (Int.toNat ((↑i : Int) + (1 : Int))) (0 : Int))
                                (List.getD (gr n Y m Y') (Int.toNat (↑i_1 : Int)) (0 : Int) +
                                  List.getD (gr n Y m Y') (Int.toNat ((↑i_1 : Int) + (1 : Int))) (0 : Int)) =
                              true then
                          !midF n X Y
                              (List.getD (gr n X m X') (Int.toNat (↑i : Int)) (0 : Int) +
                                List.getD (gr n X m X') (Int.toNat ((↑i : Int) + (1 : Int))) (0 : Int))
                              (List.getD (gr n Y m Y') (Int.toNat (↑i_1 : Int)) (0 : Int) +
                                List.getD (gr n Y m Y') (Int.toNat ((↑i_1 : Int) + (1 : Int))) (0 : Int))
                        else false)
                        (VT.done [false = covF n X Y m X' Y'])
                        (VT.need [i64In ((↑i_1 : Int) + (1 : Int))]
                          (VT.done
                            [(↑i_1 : Int) + (1 : Int) = (↑(Int.toNat ((↑i_1 : Int) + (1 : Int))) : Int), n = n,
                              ∀ (i : Nat), i < n → X i = X i, ∀ (i : Nat), i < n → Y i = Y i, m = m,
                              ∀ (i : Nat), i < m → X' i = X' i, ∀ (i : Nat), i < m → Y' i = Y' i,
                              List.length (gr n X m X') = List.length (gr n X m X'),
                              ∀ (i : Nat),
                                i < List.length (gr n X m X') →
                                  List.getD (gr n X m X') i (0 : Int) = List.getD (gr n X m X') i (0 : Int),
                              List.length (gr n Y m Y') = List.length (gr n Y m Y'),
                              ∀ (i : Nat),
                                i < List.length (gr n Y m Y') →
                                  List.getD (gr n Y m Y') i (0 : Int) = List.getD (gr n Y m Y') i (0 : Int),
                              (↑i : Int) = (↑i : Int),
                              Int.toNat ((↑i_1 : Int) + (1 : Int)) ≤ List.length (gr n Y m Y') - (1 : Nat) ∧
                                ∀ (c : Nat),
                                  c <
                                      (List.length (gr n Y m Y') - (1 : Nat)) * Int.toNat (↑i : Int) +
                                        Int.toNat ((↑i_1 : Int) + (1 : Int)) →
                                    badC n X Y m X' Y' c = false,
                              List.length (gr n Y m Y') - Int.toNat ((↑i_1 : Int) + (1 : Int)) <
                                List.length (gr n Y m Y') - i_1]))))
                    (VT.need [i64In ((↑i : Int) + (1 : Int))]
                      (VT.done
                        [(↑i : Int) + (1 : Int) = (↑(Int.toNat ((↑i : Int) + (1 : Int))) : Int), n = n,
                          ∀ (i : Nat), i < n → X i = X i, ∀ (i : Nat), i < n → Y i = Y i, m = m,
                          ∀ (i : Nat), i < m → X' i = X' i, ∀ (i : Nat), i < m → Y' i = Y' i,
                          List.length (gr n X m X') = List.length (gr n X m X'),
                          ∀ (i : Nat),
                            i < List.length (gr n X m X') →
                              List.getD (gr n X m X') i (0 : Int) = List.getD (gr n X m X') i (0 : Int),
                          List.length (gr n Y m Y') = List.length (gr n Y m Y'),
                          ∀ (i : Nat),
                            i < List.length (gr n Y m Y') →
                              List.getD (gr n Y m Y') i (0 : Int) = List.getD (gr n Y m Y') i (0 : Int),
                          Int.toNat ((↑i : Int) + (1 : Int)) ≤ List.length (gr n X m X') - (1 : Nat) ∧
                            ∀ (c : Nat),
                              c < (List.length (gr n Y m Y') - (1 : Nat)) * Int.toNat ((↑i : Int) + (1 : Int)) →
                                badC n X Y m X' Y' c = false,
                          List.length (gr n X m X') - Int.toNat ((↑i : Int) + (1 : Int)) <
                            List.length (gr n X m X') - i]))))
              (VT.done [true = covF n X Y m X' Y'])))) (by kernel_rfl) ?_
  simp only [VT.holds, AllT, imp_self, implies_true, and_true, true_and, toNat_succ, toNat_add2, toNat_zero', Int.toNat_natCast, Bool.if_true_left, Bool.if_false_right, Bool.decide_eq_true, Bool.or_eq_true, Bool.or_eq_false_iff, Bool.and_eq_true, Bool.and_eq_false_imp, Bool.not_eq_true', Bool.not_eq_false', Bool.not_not, bne_iff_ne, bne_eq_false_iff_eq, beq_iff_eq, beq_eq_false_iff_ne, decide_eq_true_eq, decide_eq_false_iff_not, ne_eq]
  have hn := chk_n h
  have hn' := chk_n h'
  obtain ⟨hX, hY⟩ := chk_inB h
  obtain ⟨hX', hY'⟩ := chk_inB h'
  have lx := gr_len n X m X'
  have ly := gr_len n Y m Y'
  have bx := gr_mem n X m X' 1000000 hX hX'
  have by_ := gr_mem n Y m Y' 1000000 hY hY'
  have g1 := gridL_c false n X Y m X' Y' (by omega) (by omega)
  have g2 := gridL_c true n X Y m X' Y' (by omega) (by omega)
  simp only [pair_eq]
  refine ⟨⟨Nat.le_refl _, g1, Nat.le_refl _, g2⟩, rfl, ⟨Nat.zero_le _, fun c hc => absurd hc (by simp)⟩, fun i ⟨hi, hb⟩ => ⟨by unfold i64In; omega, fun hlt => ⟨rfl, ⟨Nat.zero_le _, hb⟩, fun k ⟨hk, hb2⟩ => ⟨by unfold i64In; omega, fun hlt2 => ?_, fun hge => ?_⟩⟩, fun hge => ?_⟩⟩
  · have c1 := bx i (by omega)
    have c2 := bx (i + 1) (by omega)
    have c3 := by_ k (by omega)
    have c4 := by_ (k + 1) (by omega)
    have e1 := midF_has h' (gr_gap (n := n) (X := X) (m := m) (X' := X') (i := i) (by omega)).2 (gr_gap (n := n) (X := Y) (m := m) (X' := Y') (i := k) (by omega)).2
    have e2 := midF_has h (gr_gap (n := n) (X := X) (m := m) (X' := X') (i := i) (by omega)).1 (gr_gap (n := n) (X := Y) (m := m) (X' := Y') (i := k) (by omega)).1
    have hcell := cell_at n X Y m X' Y' (i := i) (k := k) (by omega)
    have hc0 : ((gr n Y m Y').length - 1) * i + k < cellN n X Y m X' Y' := cell_lt' (by omega) (by omega)
    have hbad : badC n X Y m X' Y' (((gr n Y m Y').length - 1) * i + k) = (midF m X' Y' ((gr n X m X').getD i 0 + (gr n X m X').getD (i + 1) 0) ((gr n Y m Y').getD k 0 + (gr n Y m Y').getD (k + 1) 0) && !midF n X Y ((gr n X m X').getD i 0 + (gr n X m X').getD (i + 1) 0) ((gr n Y m Y').getD k 0 + (gr n Y m Y').getD (k + 1) 0)) := by
      rw [badC, hcell, e1, e2]
    have m1 := middle_c m X' Y' _ _ _ _ (by omega) (by omega) hX' hY' c1 c2 c3 c4
    have m2 := middle_c n X Y _ _ _ _ (by omega) (by omega) hX hY c1 c2 c3 c4
    refine ⟨⟨⟨by omega, by omega⟩, by unfold i64In; omega, ⟨by omega, hlt⟩, ⟨by omega, by omega⟩, by unfold i64In; omega, ⟨by omega, hlt2⟩, m1, fun _ => ⟨by omega, by omega⟩, fun _ => by unfold i64In; omega, fun _ => ⟨by omega, hlt⟩, fun _ => ⟨by omega, by omega⟩, fun _ => by unfold i64In; omega, fun _ => ⟨by omega, hlt2⟩, fun _ => m2⟩, fun hx => ?_, fun hx => ⟨by unfold i64In; omega, by omega, ⟨by omega, fun c hc => ?_⟩, by omega⟩⟩
    · rw [eq_comm, covF, decide_eq_false_iff_not]
      intro hall
      have := hall _ hc0
      rw [hbad, hx.1, hx.2] at this
      cases this
    · rcases Nat.lt_or_ge c (((gr n Y m Y').length - 1) * i + k) with h5 | h5
      · exact hb2 c h5
      · rw [show c = ((gr n Y m Y').length - 1) * i + k by omega, hbad]
        generalize midF m X' Y' _ _ = p at *
        cases p with
        | false => rfl
        | true => rw [hx rfl]; rfl
  · have hk' : k = (gr n Y m Y').length - 1 := by omega
    refine ⟨by unfold i64In; omega, by omega, ⟨by omega, fun c hc => hb2 c ?_⟩, by omega⟩
    rw [Nat.mul_add, Nat.mul_one] at hc
    omega
  · have hi' : i = (gr n X m X').length - 1 := by omega
    rw [eq_comm, covF, decide_eq_true_eq]
    intro c hc
    exact hb c (by rw [hi']; exact hc)
noncomputable def A7_covers_law (n : Nat) (X Y : Nat → Int) (m : Nat) (X' Y' : Nat → Int) : Ann := { orc := [(1, [(0, rTrue)]), (3, [(1, rFew), (5, rFew)]), (5, [(1, rPts), (3, rPts), (4, rCovT)]), (6, [(1, rChk)]), (8, [(1, rChk)]), (11, [(6, rCov)])], loops := [], cuts := [] }
theorem covers_law (n : Nat) (X Y : Nat → Int) (m : Nat) (X' Y' : Nat → Int)  : FnC prog 7 [pts n X Y, pts m X' Y'] (dB true) := by
  refine FnC_owed hmix (A7_covers_law n X Y m X' Y') (V := VT.need [FnC prog (10 : Nat) [] (DV.val (Value.bool true))]
        (VT.ite (!true) (VT.done [false = true])
          (VT.need
            [FnC prog (11 : Nat)
                [DV.lst n
                    [fun (i : Nat) => DV.val (Value.int IntKind.i64 (X i)), fun (i : Nat) =>
                      DV.val (Value.int IntKind.i64 (Y i))]]
                (DV.val (Value.bool (decide ((↑n : Int) ≤ (45 : Int))))),
              (!!decide ((↑n : Int) ≤ (45 : Int))) = true → (!!decide ((↑n : Int) ≤ (45 : Int))) = true,
              (!!decide ((↑n : Int) ≤ (45 : Int))) = true →
                FnC prog (11 : Nat)
                  [DV.lst m
                      [fun (i : Nat) => DV.val (Value.int IntKind.i64 (X' i)), fun (i : Nat) =>
                        DV.val (Value.int IntKind.i64 (Y' i))]]
                  (DV.val (Value.bool (decide ((↑m : Int) ≤ (45 : Int))))),
              (!!decide ((↑n : Int) ≤ (45 : Int))) = true → (!!decide ((↑n : Int) ≤ (45 : Int))) = true,
              (!decide ((↑n : Int) ≤ (45 : Int))) = false → (!!decide ((↑n : Int) ≤ (45 : Int))) = true,
              (!if (!decide ((↑n : Int) ≤ (45 : Int))) = true then true else !decide ((↑m : Int) ≤ (45 : Int))) = true →
                (!if (!decide ((↑n : Int) ≤ (45 : Int))) = true then true else !decide ((↑m : Int) ≤ (45 : Int))) = true,
              (!if (!decide ((↑n : Int) ≤ (45 : Int))) = true then true else !decide ((↑m : Int) ≤ (45 : Int))) = true →
                (!if (!decide ((↑n : Int) ≤ (45 : Int))) = true then true else !decide ((↑m : Int) ≤ (45 : Int))) = true,
              (!if (!decide ((↑n : Int) ≤ (45 : Int))) = true then true else !decide ((↑m : Int) ≤ (45 : Int))) = true →
                (!if (!decide ((↑n : Int) ≤ (45 : Int))) = true then true else !decide ((↑m : Int) ≤ (45 : Int))) = true,
              ((!if (!decide ((↑n : Int) ≤ (45 : Int))) = true then true else !decide ((↑m : Int) ≤ (45 : Int))) &&
                    decide ((↑n : Int) > (14 : Int))) =
                  true →
                ((!if (!decide ((↑n : Int) ≤ (45 : Int))) = true then true else !decide ((↑m : Int) ≤ (45 : Int))) &&
                    decide ((↑n : Int) > (14 : Int))) =
                  true,
              ((!if (!decide ((↑n : Int) ≤ (45 : Int))) = true then true else !decide ((↑m : Int) ≤ (45 : Int))) &&
                    decide ((↑n : Int) > (14 : Int))) =
                  true →
                ((!if (!decide ((↑n : Int) ≤ (45 : Int))) = true then true else !decide ((↑m : Int) ≤ (45 : Int))) &&
                    decide ((↑n : Int) > (14 : Int))) =
                  true,
              (!if (!decide ((↑n : Int) ≤ (45 : Int))) = true then true else !decide ((↑m : Int) ≤ (45 : Int))) = true →
                (!if (!decide ((↑n : Int) ≤ (45 : Int))) = true then true else !decide ((↑m : Int) ≤ (45 : Int))) = true,
              (!if (!decide ((↑n : Int) ≤ (45 : Int))) = true then true else !decide ((↑m : Int) ≤ (45 : Int))) = true →
                decide ((↑n : Int) > (14 : Int)) = true →
                  ((!if (!decide ((↑n : Int) ≤ (45 : Int))) = true then true else !decide ((↑m : Int) ≤ (45 : Int))) &&
                      decide ((↑n : Int) > (14 : Int))) =
                    true,
              (if (!decide ((↑n : Int) ≤ (45 : Int))) = true then true else !decide ((↑m : Int) ≤ (45 : Int))) = false →
                (!if (!decide ((↑n : Int) ≤ (45 : Int))) = true then true else !decide ((↑m : Int) ≤ (45 : Int))) = true,
              (!if
                        (if (!decide ((↑n : Int) ≤ (45 : Int))) = true then true else !decide ((↑m : Int) ≤ (45 : Int))) =
                          true then
                      true
                    else if decide ((↑n : Int) > (14 : Int)) = true then decide ((↑n : Int) ≤ (40 : Int)) else false) =
                  true →
                (!if
                        (if (!decide ((↑n : Int) ≤ (45 : Int))) = true then true else !decide ((↑m : Int) ≤ (45 : Int))) =
                          true then
                      true
                    else if decide ((↑n : Int) > (14 : Int)) = true then decide ((↑n : Int) ≤ (40 : Int)) else false) =
                  true,
              (!if
                        (if (!decide ((↑n : Int) ≤ (45 : Int))) = true then true else !decide ((↑m : Int) ≤ (45 : Int))) =
                          true then
                      true
                    else if decide ((↑n : Int) > (14 : Int)) = true then decide ((↑n : Int) ≤ (40 : Int)) else false) =
                  true →
                (!if
                        (if (!decide ((↑n : Int) ≤ (45 : Int))) = true then true else !decide ((↑m : Int) ≤ (45 : Int))) =
                          true then
                      true
                    else if decide ((↑n : Int) > (14 : Int)) = true then decide ((↑n : Int) ≤ (40 : Int)) else false) =
                  true,
              (!if
                        (if (!decide ((↑n : Int) ≤ (45 : Int))) = true then true else !decide ((↑m : Int) ≤ (45 : Int))) =
                          true then
                      true
                    else if decide ((↑n : Int) > (14 : Int)) = true then decide ((↑n : Int) ≤ (40 : Int)) else false) =
                  true →
                (!if
                        (if (!decide ((↑n : Int) ≤ (45 : Int))) = true then true else !decide ((↑m : Int) ≤ (45 : Int))) =
                          true then
                      true
                    else if decide ((↑n : Int) > (14 : Int)) = true then decide ((↑n : Int) ≤ (40 : Int)) else false) =
                  true,
              ((!if
                          (if (!decide ((↑n : Int) ≤ (45 : Int))) = true then true else !decide ((↑m : Int) ≤ (45 : Int))) =
                            true then
                        true
                      else if decide ((↑n : Int) > (14 : Int)) = true then decide ((↑n : Int) ≤ (40 : Int)) else false) &&
                    decide ((↑m : Int) > (14 : Int))) =
                  true →
                ((!if
                          (if (!decide ((↑n : Int) ≤ (45 : Int))) = true then true else !decide ((↑m : Int) ≤ (45 : Int))) =
                            true then
                        true
                      else if decide ((↑n : Int) > (14 : Int)) = true then decide ((↑n : Int) ≤ (40 : Int)) else false) &&
                    decide ((↑m : Int) > (14 : Int))) =
                  true,
              ((!if
                          (if (!decide ((↑n : Int) ≤ (45 : Int))) = true then true else !decide ((↑m : Int) ≤ (45 : Int))) =
                            true then
                        true
                      else if decide ((↑n : Int) > (14 : Int)) = true then decide ((↑n : Int) ≤ (40 : Int)) else false) &&
                    decide ((↑m : Int) > (14 : Int))) =
                  true →
                ((!if
                          (if (!decide ((↑n : Int) ≤ (45 : Int))) = true then true else !decide ((↑m : Int) ≤ (45 : Int))) =
                            true then
                        true
                      else if decide ((↑n : Int) > (14 : Int)) = true then decide ((↑n : Int) ≤ (40 : Int)) else false) &&
                    decide ((↑m : Int) > (14 : Int))) =
                  true,
              (!if
                        (if (!decide ((↑n : Int) ≤ (45 : Int))) = true then true else !decide ((↑m : Int) ≤ (45 : Int))) =
                          true then
                      true
                    else if decide ((↑n : Int) > (14 : Int)) = true then decide ((↑n : Int) ≤ (40 : Int)) else false) =
                  true →
                (!if
                        (if (!decide ((↑n : Int) ≤ (45 : Int))) = true then true else !decide ((↑m : Int) ≤ (45 : Int))) =
                          true then
                      true
                    else if decide ((↑n : Int) > (14 : Int)) = true then decide ((↑n : Int) ≤ (40 : Int)) else false) =
                  true,
              (!if
                        (if (!decide ((↑n : Int) ≤ (45 : Int))) = true then true else !decide ((↑m : Int) ≤ (45 : Int))) =
                          true then
                      true
                    else if decide ((↑n : Int) > (14 : Int)) = true then decide ((↑n : Int) ≤ (40 : Int)) else false) =
                  true →
                decide ((↑m : Int) > (14 : Int)) = true →
                  ((!if
                            (if (!decide ((↑n : Int) ≤ (45 : Int))) = true then true
                              else !decide ((↑m : Int) ≤ (45 : Int))) =
                              true then
                          true
                        else if decide ((↑n : Int) > (14 : Int)) = true then decide ((↑n : Int) ≤ (40 : Int)) else false) &&
                      decide ((↑m : Int) > (14 : Int))) =
                    true,
              (if
                      (if (!decide ((↑n : Int) ≤ (45 : Int))) = true then true else !decide ((↑m : Int) ≤ (45 : Int))) =
                        true then
                    true
                  else if decide ((↑n : Int) > (14 : Int)) = true then decide ((↑n : Int) ≤ (40 : Int)) else false) =
                  false →
                (!if
                        (if (!decide ((↑n : Int) ≤ (45 : Int))) = true then true else !decide ((↑m : Int) ≤ (45 : Int))) =
                          true then
                      true
                    else if decide ((↑n : Int) > (14 : Int)) = true then decide ((↑n : Int) ≤ (40 : Int)) else false) =
                  true]
            (VT.ite
              (if
                  (if
                        (if (!decide ((↑n : Int) ≤ (45 : Int))) = true then true else !decide ((↑m : Int) ≤ (45 : Int))) =
                          true then
                      true
                    else if decide ((↑n : Int) > (14 : Int)) = true then decide ((↑n : Int) ≤ (40 : Int)) else false) =
                    true then
                true
              else if decide ((↑m : Int) > (14 : Int)) = true then decide ((↑m : Int) ≤ (40 : Int)) else false)
              (VT.done [true = true])
              (VT.need
                [FnC prog (13 : Nat)
                    [DV.lst n
                        [fun (i : Nat) => DV.val (Value.int IntKind.i64 (X i)), fun (i : Nat) =>
                          DV.val (Value.int IntKind.i64 (Y i))]]
                    (DV.lst n
                      [fun (i : Nat) => DV.val (Value.int IntKind.i64 (X i)), fun (i : Nat) =>
                        DV.val (Value.int IntKind.i64 (Y i))]),
                  FnC prog (13 : Nat)
                    [DV.lst m
                        [fun (i : Nat) => DV.val (Value.int IntKind.i64 (X' i)), fun (i : Nat) =>
                          DV.val (Value.int IntKind.i64 (Y' i))]]
                    (DV.lst m
                      [fun (i : Nat) => DV.val (Value.int IntKind.i64 (X' i)), fun (i : Nat) =>
                        DV.val (Value.int IntKind.i64 (Y' i))]),
                  FnC prog (35 : Nat)
                    [DV.lst n
                        [fun (i : Nat) => DV.val (Value.int IntKind.i64 (X i)), fun (i : Nat) =>
                          DV.val (Value.int IntKind.i64 (Y i))],
                      DV.lst m
                        [fun (i : Nat) => DV.val (Value.int IntKind.i64 (X' i)), fun (i : Nat) =>
                          DV.val (Value.int IntKind.i64 (Y' i))]]
                    (DV.tup
                      [DV.val (Value.bool (covB n X Y m X' Y')), DV.val (Value.int IntKind.i64 (covE n X Y m X' Y'))])]
                (VT.need
                  [FnC prog (15 : Nat)
                      [DV.lst n
                          [fun (i : Nat) => DV.val (Value.int IntKind.i64 (X i)), fun (i : Nat) =>
                            DV.val (Value.int IntKind.i64 (Y i))]]
                      (DV.val (Value.int IntKind.i64 (chk n X Y)))]
                  (VT.ite (chk n X Y == (0 : Int))
                    (VT.need
                      [FnC prog (15 : Nat)
                          [DV.lst m
                              [fun (i : Nat) => DV.val (Value.int IntKind.i64 (X' i)), fun (i : Nat) =>
                                DV.val (Value.int IntKind.i64 (Y' i))]]
                          (DV.val (Value.int IntKind.i64 (chk m X' Y')))]
                      (VT.ite (chk m X' Y' != (0 : Int))
                        (VT.need
                          [(covE n X Y m X' Y' == chk m X' Y') = true → (covE n X Y m X' Y' == chk m X' Y') = true,
                            (covE n X Y m X' Y' == chk m X' Y') = true → (covE n X Y m X' Y' == chk m X' Y') = true]
                          (VT.done
                            [(if (covE n X Y m X' Y' == chk m X' Y') = true then !covB n X Y m X' Y' else false) = true]))
                        (VT.need
                          [(covE n X Y m X' Y' == (0 : Int)) = true → (covE n X Y m X' Y' == (0 : Int)) = true,
                            (covE n X Y m X' Y' == (0 : Int)) = true → (covE n X Y m X' Y' == (0 : Int)) = true,
                            (covE n X Y m X' Y' == (0 : Int)) = true →
                              FnC prog (36 : Nat)
                                [DV.lst n
                                    [fun (i : Nat) => DV.val (Value.int IntKind.i64 (X i)), fun (i : Nat) =>
                                      DV.val (Value.int IntKind.i64 (Y i))],
                                  DV.lst m
                                    [fun (i : Nat) => DV.val (Value.int IntKind.i64 (X' i)), fun (i : Nat) =>
                                      DV.val (Value.int IntKind.i64 (Y' i))]]
                                (DV.val (Value.bool (covF n X Y m X' Y'))),
                            (covE n X Y m X' Y' == (0 : Int)) = true → (covE n X Y m X' Y' == (0 : Int)) = true,
                            (covE n X Y m X' Y' == (0 : Int)) = true → (covE n X Y m X' Y' == (0 : Int)) = true,
                            (covE n X Y m X' Y' == (0 : Int)) = true → (covE n X Y m X' Y' == (0 : Int)) = true]
                          (VT.done
                            [(if (covE n X Y m X' Y' == (0 : Int)) = true then
                                  if false = true then !covB n X Y m X' Y' == covF n X Y m X' Y'
                                  else covB n X Y m X' Y' == covF n X Y m X' Y'
                                else false) =
                                true]))))
                    (VT.ite (chk n X Y != (0 : Int))
                      (VT.need
                        [(covE n X Y m X' Y' == chk n X Y) = true → (covE n X Y m X' Y' == chk n X Y) = true,
                          (covE n X Y m X' Y' == chk n X Y) = true → (covE n X Y m X' Y' == chk n X Y) = true]
                        (VT.done
                          [(if (covE n X Y m X' Y' == chk n X Y) = true then !covB n X Y m X' Y' else false) = true]))
                      (VT.need
                        [(covE n X Y m X' Y' == (0 : Int)) = true → (covE n X Y m X' Y' == (0 : Int)) = true,
                          (covE n X Y m X' Y' == (0 : Int)) = true → (covE n X Y m X' Y' == (0 : Int)) = true,
                          (covE n X Y m X' Y' == (0 : Int)) = true →
                            FnC prog (36 : Nat)
                              [DV.lst n
                                  [fun (i : Nat) => DV.val (Value.int IntKind.i64 (X i)), fun (i : Nat) =>
                                    DV.val (Value.int IntKind.i64 (Y i))],
                                DV.lst m
                                  [fun (i : Nat) => DV.val (Value.int IntKind.i64 (X' i)), fun (i : Nat) =>
                                    DV.val (Value.int IntKind.i64 (Y' i))]]
                              (DV.val (Value.bool (covF n X Y m X' Y'))),
                          (covE n X Y m X' Y' == (0 : Int)) = true → (covE n X Y m X' Y' == (0 : Int)) = true,
                          (covE n X Y m X' Y' == (0 : Int)) = true → (covE n X Y m X' Y' == (0 : Int)) = true,
                          (covE n X Y m X' Y' == (0 : Int)) = true → (covE n X Y m X' Y' == (0 : Int)) = true]
                        (VT.done
                          [(if (covE n X Y m X' Y' == (0 : Int)) = true then
                                if false = true then !covB n X Y m X' Y' == covF n X Y m X' Y'
                                else covB n X Y m X' Y' == covF n X Y m X' Y'
                              else false) =
                              true])))))))))) (by kernel_rfl) ?_
  simp only [VT.holds, AllT, imp_self, implies_true, and_true, true_and, toNat_succ, toNat_add2, toNat_zero', Int.toNat_natCast, Bool.if_true_left, Bool.if_false_right, Bool.decide_eq_true, Bool.or_eq_true, Bool.or_eq_false_iff, Bool.and_eq_true, Bool.and_eq_false_imp, Bool.not_eq_true', Bool.not_eq_false', Bool.not_not, bne_iff_ne, bne_eq_false_iff_eq, beq_iff_eq, beq_eq_false_iff_ne, decide_eq_true_eq, decide_eq_false_iff_not, ne_eq]
  have eE : covE n X Y m X' Y' = if chk n X Y ≠ 0 then chk n X Y else chk m X' Y' := rfl
  have eB : covB n X Y m X' Y' = (decide (covE n X Y m X' Y' = 0) && covF n X Y m X' Y') := rfl
  refine ⟨awake_c, fun h => (by cases h), fun _ => ⟨⟨few_c n X Y, fun _ => few_c m X' Y', fun h1 h2 => ⟨h1, h2⟩, fun h1 h2 => ⟨h1, h2⟩⟩, fun hg => ?_⟩⟩
  have hn : n ≤ 45 := by omega
  have hm : m ≤ 45 := by omega
  refine ⟨⟨points_c n X Y (by omega), points_c m X' Y' (by omega), coversTop_c n X Y m X' Y' (by omega) (by omega)⟩, checkR_c n X Y (by omega), fun h => ⟨checkR_c m X' Y' (by omega), fun h' => ?_, fun h' => ?_⟩, fun h => ⟨fun _ => ?_, fun h' => absurd h' h⟩⟩
  · have e : covE n X Y m X' Y' = chk m X' Y' := by rw [eE, if_neg (by rw [h]; simp)]
    exact ⟨e, by rw [eB, e, decide_eq_false h']; rfl⟩
  · have e : covE n X Y m X' Y' = 0 := by rw [eE, if_neg (by rw [h]; simp), h']
    refine ⟨fun _ => coversR_c n X Y m X' Y' h h', e, ?_⟩
    rw [eB, e]
    simp
  · have e : covE n X Y m X' Y' = chk n X Y := by rw [eE, if_pos h]
    exact ⟨e, by rw [eB, e, decide_eq_false h]; rfl⟩
end Go.Abs
