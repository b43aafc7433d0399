/- Contracts. -/
import Derived.Test.YtgdmnlenkciklaaK10
set_option linter.unusedVariables false
set_option linter.unusedSimpArgs false
set_option maxRecDepth 100000
namespace Go.Abs
open Go
noncomputable def A32_pierces_c (u1 u2 u3 v1 v2 v3 a1 a2 a3 b1 b2 b3 : Int) : Ann := { orc := [(1, [(1, rCkB)]), (7, [(1, rNdE)]), (19, [(6, rRat), (13, rRat)]), (22, [(2, rLess)]), (24, [(2, rLess)]), (27, [(2, rLess)])], loops := [(0, { ι := Nat, keep := [3, 4, 5, 26], boxes := [3, 4, 5], ts := fun _ i => [(27, dI (i : Int))], inv := fun _ i => i ≤ 2 ∧ ∀ j, j < i → nE ([a1, b1].getD j 0) ([a2, b2].getD j 0) ([a3, b3].getD j 0) = 0, mu := fun _ i => 2 - i, rd := fun _ σ => (iOf (σ.get 27)).toNat }),
  (2, { ι := Nat, keep := [65, 12, 13], boxes := [], ts := fun _ i => [(66, dI (i : Int))], bx := fun _ i => [(12, [dI (lw (three a1 a2 a3) (three b1 b2 b3) (three u1 u2 u3) (three v1 v2 v3) i).1, dI (lw (three a1 a2 a3) (three b1 b2 b3) (three u1 u2 u3) (three v1 v2 v3) i).2]), (13, [dI (hg (three a1 a2 a3) (three b1 b2 b3) (three u1 u2 u3) (three v1 v2 v3) i).1, dI (hg (three a1 a2 a3) (three b1 b2 b3) (three u1 u2 u3) (three v1 v2 v3) i).2])], inv := fun _ i => i ≤ 3 ∧ ∀ j, j < i → sOk (three a1 a2 a3 j) (three b1 b2 b3 j) (three u1 u2 u3 j) (three v1 v2 v3 j) = true, mu := fun _ i => 3 - i, rd := fun _ σ => (iOf (σ.get 66)).toNat })], cuts := [(22, { ι := Unit, keep := [65, 66, 12, 13, 17, 18], boxes := [12, 13], ts := fun _ _ => [], bx := fun σ _ => [(17, [dI (sL (three a1 a2 a3 (jI σ)) (three b1 b2 b3 (jI σ)) (three u1 u2 u3 (jI σ)) (three v1 v2 v3 (jI σ))), dI (sD (three a1 a2 a3 (jI σ)) (three b1 b2 b3 (jI σ)))]), (18, [dI (sU (three a1 a2 a3 (jI σ)) (three b1 b2 b3 (jI σ)) (three u1 u2 u3 (jI σ)) (three v1 v2 v3 (jI σ))), dI (sD (three a1 a2 a3 (jI σ)) (three b1 b2 b3 (jI σ)))])], inv := fun _ _ => True, mu := fun _ _ => 0, rd := fun _ _ => () }),
  (24, { ι := Unit, keep := [65, 66, 12, 13, 18], boxes := [13, 18], ts := fun _ _ => [], bx := fun σ _ => [(12, [dI (lw (three a1 a2 a3) (three b1 b2 b3) (three u1 u2 u3) (three v1 v2 v3) (jI σ + 1)).1, dI (lw (three a1 a2 a3) (three b1 b2 b3) (three u1 u2 u3) (three v1 v2 v3) (jI σ + 1)).2])], inv := fun _ _ => True, mu := fun _ _ => 0, rd := fun _ _ => () })] }
theorem pierces_c (u1 u2 u3 v1 v2 v3 a1 a2 a3 b1 b2 b3 : Int)  : FnC prog 32 [bx u1 u2 u3 v1 v2 v3, nd a1 a2 a3, nd b1 b2 b3] (.tup [dB (isP u1 u2 u3 v1 v2 v3 a1 a2 a3 b1 b2 b3), dI (erP u1 u2 u3 v1 v2 v3 a1 a2 a3 b1 b2 b3)]) := by
  refine FnC_owed hmix (A32_pierces_c u1 u2 u3 v1 v2 v3 a1 a2 a3 b1 b2 b3) (V := VT.need
        [FnC prog (30 : Nat)
            [DV.val
                (Value.agg
                  {
                    toList :=
                      [Value.int IntKind.i64 u1, Value.int IntKind.i64 u2, Value.int IntKind.i64 u3,
                        Value.int IntKind.i64 v1, Value.int IntKind.i64 v2, Value.int IntKind.i64 v3] })]
            (DV.val (Value.int IntKind.i64 (ckB u1 u2 u3 v1 v2 v3)))]
        (VT.ite (ckB u1 u2 u3 v1 v2 v3 != (0 : Int))
          (VT.done
            [false = isP u1 u2 u3 v1 v2 v3 a1 a2 a3 b1 b2 b3,
              ckB u1 u2 u3 v1 v2 v3 = erP u1 u2 u3 v1 v2 v3 a1 a2 a3 b1 b2 b3])
          (VT.loop Nat
            (fun (a : Nat) =>
              a ≤ (2 : Nat) ∧
                ∀ (j : Nat),
                  j < a →
                    nE (List.getD [a1, b1] j (0 : Int)) (List.getD [a2, b2] j (0 : Int)) (List.getD [a3, b3] j (0 : Int)) =
                      (0 : Int))
            (Int.toNat (0 : Int))
            [(0 : Int) = (↑(Int.toNat (0 : Int)) : Int), a1 = a1, a2 = a2, a3 = a3, b1 = b1, b2 = b2, b3 = b3, u1 = u1,
              u2 = u2, u3 = u3, v1 = v1, v2 = v2, v3 = v3, a1 = a1, a2 = a2, a3 = a3, b1 = b1, b2 = b2, b3 = b3]
            fun (i : Nat) =>
            VT.ite (decide ((↑i : Int) < (2 : Int)))
              (VT.need [(0 : Int) ≤ (↑i : Int) ∧ (↑i : Int) < (↑(2 : Nat) : Int)]
                (VT.need
                  [FnC prog (72 : Nat)
                      [DV.val
                          (Value.agg
                            {
                              toList :=
                                [Value.int IntKind.i64 (List.getD [a1, b1] (Int.toNat (↑i : Int)) (0 : Int)),
                                  Value.int IntKind.i64 (List.getD [a2, b2] (Int.toNat (↑i : Int)) (0 : Int)),
                                  Value.int IntKind.i64 (List.getD [a3, b3] (Int.toNat (↑i : Int)) (0 : Int))] })]
                      (DV.val
                        (Value.int IntKind.i64
                          (nE (List.getD [a1, b1] (Int.toNat (↑i : Int)) (0 : Int))
                            (List.getD [a2, b2] (Int.toNat (↑i : Int)) (0 : Int))
                            (List.getD [a3, b3] (Int.toNat (↑i : Int)) (0 : Int)))))]
                  (VT.ite
                    (nE (List.getD [a1, b1] (Int.toNat (↑i : Int)) (0 : Int))
                        (List.getD [a2, b2] (Int.toNat (↑i : Int)) (0 : Int))
                        (List.getD [a3, b3] (Int.toNat (↑i : Int)) (0 : Int)) !=
                      (0 : Int))
                    (VT.done
                      [false = isP u1 u2 u3 v1 v2 v3 a1 a2 a3 b1 b2 b3,
                        nE (List.getD [a1, b1] (Int.toNat (↑i : Int)) (0 : Int))
                            (List.getD [a2, b2] (Int.toNat (↑i : Int)) (0 : Int))
                            (List.getD [a3, b3] (Int.toNat (↑i : Int)) (0 : Int)) =
                          erP u1 u2 u3 v1 v2 v3 a1 a2 a3 b1 b2 b3])
                    (VT.need [i64In ((↑i : Int) + (1 : Int))]
                      (VT.done
                        [(↑i : Int) + (1 : Int) = (↑(Int.toNat ((↑i : Int) + (1 : Int))) : Int), a1 = a1, a2 = a2, a3 = a3,
                          b1 = b1, b2 = b2, b3 = b3, u1 = u1, u2 = u2, u3 = u3, v1 = v1, v2 = v2, v3 = v3, a1 = a1, a2 = a2,
                          a3 = a3, b1 = b1, b2 = b2, b3 = b3,
                          Int.toNat ((↑i : Int) + (1 : Int)) ≤ (2 : Nat) ∧
                            ∀ (j : Nat),
                              j < Int.toNat ((↑i : Int) + (1 : Int)) →
                                nE (List.getD [a1, b1] j (0 : Int)) (List.getD [a2, b2] j (0 : Int))
                                    (List.getD [a3, b3] j (0 : Int)) =
                                  (0 : Int),
                          (2 : Nat) - Int.toNat ((↑i : Int) + (1 : Int)) < (2 : Nat) - i])))))
              (VT.loop Nat
                (fun (a : Nat) =>
                  a ≤ (3 : Nat) ∧
                    ∀ (j : Nat),
                      j < a → sOk (three a1 a2 a3 j) (three b1 b2 b3 j) (three u1 u2 u3 j) (three v1 v2 v3 j) = true)
                (Int.toNat (0 : Int))
                [(0 : Int) = (↑(Int.toNat (0 : Int)) : Int), a1 = a1, b1 = b1, u1 = u1, v1 = v1, a2 = a2, b2 = b2, u2 = u2,
                  v2 = v2, a3 = a3, b3 = b3, u3 = u3, v3 = v3,
                  (0 : Int) =
                    (lw (three a1 a2 a3) (three b1 b2 b3) (three u1 u2 u3) (three v1 v2 v3) (Int.toNat (0 : Int))).fst,
                  (1 : Int) =
                    (lw (three a1 a2 a3) (three b1 b2 b3) (three u1 u2 u3) (three v1 v2 v3) (Int.toNat (0 : Int))).snd,
                  (1 : Int) =
                    (hg (three a1 a2 a3) (three b1 b2 b3) (three u1 u2 u3) (three v1 v2 v3) (Int.toNat (0 : Int))).fst,
                  (1 : Int) =
                    (hg (three a1 a2 a3) (three b1 b2 b3) (three u1 u2 u3) (three v1 v2 v3) (Int.toNat (0 : Int))).snd]
                fun (i : Nat) =>
                VT.ite (decide ((↑i : Int) < (3 : Int)))
                  (VT.need [(0 : Int) ≤ (↑i : Int) ∧ (↑i : Int) < (↑(3 : Nat) : Int)]
                    (VT.need
                      [i64In
                          (List.getD [b1, b2, b3] (Int.toNat (↑i : Int)) (0 : Int) -
                            List.getD [a1, a2, a3] (Int.toNat (↑i : Int)) (0 : Int))]
                      (VT.ite
                        (List.getD [b1, b2, b3] (Int.toNat (↑i : Int)) (0 : Int) -
                            List.getD [a1, a2, a3] (Int.toNat (↑i : Int)) (0 : Int) ==
                          (0 : Int))
                        (VT.need
                          [(!decide
                                    (List.getD [a1, a2, a3] (Int.toNat (↑i : Int)) (0 : Int) ≤
                                      List.getD [u1, u2, u3] (Int.toNat (↑i : Int)) (0 : Int))) =
                                true →
                              (!decide
                                    (List.getD [a1, a2, a3] (Int.toNat (↑i : Int)) (0 : Int) ≤
                                      List.getD [u1, u2, u3] (Int.toNat (↑i : Int)) (0 : Int))) =
                                true,
                            (!decide
                                    (List.getD [a1, a2, a3] (Int.toNat (↑i : Int)) (0 : Int) ≤
                                      List.getD [u1, u2, u3] (Int.toNat (↑i : Int)) (0 : Int))) =
                                true →
                              (!decide
                                    (List.getD [a1, a2, a3] (Int.toNat (↑i : Int)) (0 : Int) ≤
                                      List.getD [u1, u2, u3] (Int.toNat (↑i : Int)) (0 : Int))) =
                                true,
                            (!decide
                                    (List.getD [a1, a2, a3] (Int.toNat (↑i : Int)) (0 : Int) ≤
                                      List.getD [u1, u2, u3] (Int.toNat (↑i : Int)) (0 : Int))) =
                                true →
                              (!decide
                                    (List.getD [a1, a2, a3] (Int.toNat (↑i : Int)) (0 : Int) ≤
                                      List.getD [u1, u2, u3] (Int.toNat (↑i : Int)) (0 : Int))) =
                                true,
                            (!decide
                                    (List.getD [a1, a2, a3] (Int.toNat (↑i : Int)) (0 : Int) ≤
                                      List.getD [u1, u2, u3] (Int.toNat (↑i : Int)) (0 : Int))) =
                                true →
                              (!decide
                                    (List.getD [a1, a2, a3] (Int.toNat (↑i : Int)) (0 : Int) ≤
                                      List.getD [u1, u2, u3] (Int.toNat (↑i : Int)) (0 : Int))) =
                                true,
                            decide
                                  (List.getD [a1, a2, a3] (Int.toNat (↑i : Int)) (0 : Int) ≤
                                    List.getD [u1, u2, u3] (Int.toNat (↑i : Int)) (0 : Int)) =
                                false →
                              (!decide
                                    (List.getD [a1, a2, a3] (Int.toNat (↑i : Int)) (0 : Int) ≤
                                      List.getD [u1, u2, u3] (Int.toNat (↑i : Int)) (0 : Int))) =
                                true]
                          (VT.ite
                            (if
                                decide
                                    (List.getD [a1, a2, a3] (Int.toNat (↑i : Int)) (0 : Int) ≤
                                      List.getD [u1, u2, u3] (Int.toNat (↑i : Int)) (0 : Int)) =
                                  true then
                              true
                            else
                              decide
                                (List.getD [a1, a2, a3] (Int.toNat (↑i : Int)) (0 : Int) ≥
                                  List.getD [v1, v2, v3] (Int.toNat (↑i : Int)) (0 : Int)))
                            (VT.done
                              [false = isP u1 u2 u3 v1 v2 v3 a1 a2 a3 b1 b2 b3,
                                (0 : Int) = erP u1 u2 u3 v1 v2 v3 a1 a2 a3 b1 b2 b3])
                            (VT.need [i64In ((↑i : Int) + (1 : Int))]
                              (VT.done
                                [(↑i : Int) + (1 : Int) = (↑(Int.toNat ((↑i : Int) + (1 : Int))) : Int), a1 = a1, b1 = b1,
                                  u1 = u1, v1 = v1, a2 = a2, b2 = b2, u2 = u2, v2 = v2, a3 = a3, b3 = b3, u3 = u3, v3 = v3,
                                  (lw (three a1 a2 a3) (three b1 b2 b3) (three u1 u2 u3) (three v1 v2 v3) i).fst =
                                    (lw (three a1 a2 a3) (three b1 b2 b3) (three u1 u2 u3) (three v1 v2 v3)
                                        (Int.toNat ((↑i : Int) + (1 : Int)))).fst,
                                  (lw (three a1 a2 a3) (three b1 b2 b3) (three u1 u2 u3) (three v1 v2 v3) i).snd =
                                    (lw (three a1 a2 a3) (three b1 b2 b3) (three u1 u2 u3) (three v1 v2 v3)
                                        (Int.toNat ((↑i : Int) + (1 : Int)))).snd,
                                  (hg (three a1 a2 a3) (three b1 b2 b3) (three u1 u2 u3) (three v1 v2 v3) i).fst =
                                    (hg (three a1 a2 a3) (three b1 b2 b3) (three u1 u2 u3) (three v1 v2 v3)
                                        (Int.toNat ((↑i : Int) + (1 : Int)))).fst,
                                  (hg (three a1 a2 a3) (three b1 b2 b3) (three u1 u2 u3) (three v1 v2 v3) i).snd =
                                    (hg (three a1 a2 a3) (three b1 b2 b3) (three u1 u2 u3) (three v1 v2 v3)
                                        (Int.toNat ((↑i : Int) + (1 : Int)))).snd,
                                  Int.toNat ((↑i : Int) + (1 : Int)) ≤ (3 : Nat) ∧
                                    ∀ (j : Nat),
                                      j < Int.toNat ((↑i : Int) + (1 : Int)) →
                                        sOk (three a1 a2 a3 j) (three b1 b2 b3 j) (three u1 u2 u3 j) (three v1 v2 v3 j) =
                                          true,
                                  (3 : Nat) - Int.toNat ((↑i : Int) + (1 : Int)) < (3 : Nat) - i]))))
                        (VT.need
                          [i64In
                              (List.getD [u1, u2, u3] (Int.toNat (↑i : Int)) (0 : Int) -
                                List.getD [a1, a2, a3] (Int.toNat (↑i : Int)) (0 : Int)),
                            FnC prog (73 : Nat)
                              [DV.val
                                  (Value.int IntKind.i64
                                    (List.getD [u1, u2, u3] (Int.toNat (↑i : Int)) (0 : Int) -
                                      List.getD [a1, a2, a3] (Int.toNat (↑i : Int)) (0 : Int))),
                                DV.val
                                  (Value.int IntKind.i64
                                    (List.getD [b1, b2, b3] (Int.toNat (↑i : Int)) (0 : Int) -
                                      List.getD [a1, a2, a3] (Int.toNat (↑i : Int)) (0 : Int)))]
                              (DV.val
                                (Value.agg
                                  {
                                    toList :=
                                      [Value.int IntKind.i64
                                          (if
                                              List.getD [b1, b2, b3] (Int.toNat (↑i : Int)) (0 : Int) -
                                                  List.getD [a1, a2, a3] (Int.toNat (↑i : Int)) (0 : Int) <
                                                (0 : Int) then
                                            -(List.getD [u1, u2, u3] (Int.toNat (↑i : Int)) (0 : Int) -
                                                List.getD [a1, a2, a3] (Int.toNat (↑i : Int)) (0 : Int))
                                          else
                                            List.getD [u1, u2, u3] (Int.toNat (↑i : Int)) (0 : Int) -
                                              List.getD [a1, a2, a3] (Int.toNat (↑i : Int)) (0 : Int)),
                                        Value.int IntKind.i64
                                          (if
                                              List.getD [b1, b2, b3] (Int.toNat (↑i : Int)) (0 : Int) -
                                                  List.getD [a1, a2, a3] (Int.toNat (↑i : Int)) (0 : Int) <
                                                (0 : Int) then
                                            -(List.getD [b1, b2, b3] (Int.toNat (↑i : Int)) (0 : Int) -
                                                List.getD [a1, a2, a3] (Int.toNat (↑i : Int)) (0 : Int))
                                          else
                                            List.getD [b1, b2, b3] (Int.toNat (↑i : Int)) (0 : Int) -
                                              List.getD [a1, a2, a3] (Int.toNat (↑i : Int)) (0 : Int))] })),
                            i64In
                              (List.getD [v1, v2, v3] (Int.toNat (↑i : Int)) (0 : Int) -
                                List.getD [a1, a2, a3] (Int.toNat (↑i : Int)) (0 : Int)),
                            FnC prog (73 : Nat)
                              [DV.val
                                  (Value.int IntKind.i64
                                    (List.getD [v1, v2, v3] (Int.toNat (↑i : Int)) (0 : Int) -
                                      List.getD [a1, a2, a3] (Int.toNat (↑i : Int)) (0 : Int))),
                                DV.val
                                  (Value.int IntKind.i64
                                    (List.getD [b1, b2, b3] (Int.toNat (↑i : Int)) (0 : Int) -
                                      List.getD [a1, a2, a3] (Int.toNat (↑i : Int)) (0 : Int)))]
                              (DV.val
                                (Value.agg
                                  {
                                    toList :=
                                      [Value.int IntKind.i64
                                          (if
                                              List.getD [b1, b2, b3] (Int.toNat (↑i : Int)) (0 : Int) -
                                                  List.getD [a1, a2, a3] (Int.toNat (↑i : Int)) (0 : Int) <
                                                (0 : Int) then
                                            -(List.getD [v1, v2, v3] (Int.toNat (↑i : Int)) (0 : Int) -
                                                List.getD [a1, a2, a3] (Int.toNat (↑i : Int)) (0 : Int))
                                          else
                                            List.getD [v1, v2, v3] (Int.toNat (↑i : Int)) (0 : Int) -
                                              List.getD [a1, a2, a3] (Int.toNat (↑i : Int)) (0 : Int)),
                                        Value.int IntKind.i64
                                          (if
                                              List.getD [b1, b2, b3] (Int.toNat (↑i : Int)) (0 : Int) -
                                                  List.getD [a1, a2, a3] (Int.toNat (↑i : Int)) (0 : Int) <
                                                (0 : Int) then
                                            -(List.getD [b1, b2, b3] (Int.toNat (↑i : Int)) (0 : Int) -
                                                List.getD [a1, a2, a3] (Int.toNat (↑i : Int)) (0 : Int))
                                          else
                                            List.getD [b1, b2, b3] (Int.toNat (↑i : Int)) (0 : Int) -
                                              List.getD [a1, a2, a3] (Int.toNat (↑i : Int)) (0 : Int))] }))]
                          (VT.cut PUnit (fun (a : PUnit) => True)
                            (VT.ite
                              (decide
                                (List.getD [b1, b2, b3] (Int.toNat (↑i : Int)) (0 : Int) -
                                    List.getD [a1, a2, a3] (Int.toNat (↑i : Int)) (0 : Int) <
                                  (0 : Int)))
                              (VT.done
                                [a1 = a1, b1 = b1, u1 = u1, v1 = v1, a2 = a2, b2 = b2, u2 = u2, v2 = v2, a3 = a3, b3 = b3,
                                  u3 = u3, v3 = v3, (↑i : Int) = (↑i : Int),
                                  (if
                                        List.getD [b1, b2, b3] (Int.toNat (↑i : Int)) (0 : Int) -
                                            List.getD [a1, a2, a3] (Int.toNat (↑i : Int)) (0 : Int) <
                                          (0 : Int) then
                                      -(List.getD [v1, v2, v3] (Int.toNat (↑i : Int)) (0 : Int) -
                                          List.getD [a1, a2, a3] (Int.toNat (↑i : Int)) (0 : Int))
                                    else
                                      List.getD [v1, v2, v3] (Int.toNat (↑i : Int)) (0 : Int) -
                                        List.getD [a1, a2, a3] (Int.toNat (↑i : Int)) (0 : Int)) =
                                    sL (three a1 a2 a3 (Int.toNat (↑i : Int))) (three b1 b2 b3 (Int.toNat (↑i : Int)))
                                      (three u1 u2 u3 (Int.toNat (↑i : Int))) (three v1 v2 v3 (Int.toNat (↑i : Int))),
                                  (if
                                        List.getD [b1, b2, b3] (Int.toNat (↑i : Int)) (0 : Int) -
                                            List.getD [a1, a2, a3] (Int.toNat (↑i : Int)) (0 : Int) <
                                          (0 : Int) then
                                      -(List.getD [b1, b2, b3] (Int.toNat (↑i : Int)) (0 : Int) -
                                          List.getD [a1, a2, a3] (Int.toNat (↑i : Int)) (0 : Int))
                                    else
                                      List.getD [b1, b2, b3] (Int.toNat (↑i : Int)) (0 : Int) -
                                        List.getD [a1, a2, a3] (Int.toNat (↑i : Int)) (0 : Int)) =
                                    sD (three a1 a2 a3 (Int.toNat (↑i : Int))) (three b1 b2 b3 (Int.toNat (↑i : Int))),
                                  (if
                                        List.getD [b1, b2, b3] (Int.toNat (↑i : Int)) (0 : Int) -
                                            List.getD [a1, a2, a3] (Int.toNat (↑i : Int)) (0 : Int) <
                                          (0 : Int) then
                                      -(List.getD [u1, u2, u3] (Int.toNat (↑i : Int)) (0 : Int) -
                                          List.getD [a1, a2, a3] (Int.toNat (↑i : Int)) (0 : Int))
                                    else
                                      List.getD [u1, u2, u3] (Int.toNat (↑i : Int)) (0 : Int) -
                                        List.getD [a1, a2, a3] (Int.toNat (↑i : Int)) (0 : Int)) =
                                    sU (three a1 a2 a3 (Int.toNat (↑i : Int))) (three b1 b2 b3 (Int.toNat (↑i : Int)))
                                      (three u1 u2 u3 (Int.toNat (↑i : Int))) (three v1 v2 v3 (Int.toNat (↑i : Int))),
                                  (if
                                        List.getD [b1, b2, b3] (Int.toNat (↑i : Int)) (0 : Int) -
                                            List.getD [a1, a2, a3] (Int.toNat (↑i : Int)) (0 : Int) <
                                          (0 : Int) then
                                      -(List.getD [b1, b2, b3] (Int.toNat (↑i : Int)) (0 : Int) -
                                          List.getD [a1, a2, a3] (Int.toNat (↑i : Int)) (0 : Int))
                                    else
                                      List.getD [b1, b2, b3] (Int.toNat (↑i : Int)) (0 : Int) -
                                        List.getD [a1, a2, a3] (Int.toNat (↑i : Int)) (0 : Int)) =
                                    sD (three a1 a2 a3 (Int.toNat (↑i : Int))) (three b1 b2 b3 (Int.toNat (↑i : Int))),
                                  (lw (three a1 a2 a3) (three b1 b2 b3) (three u1 u2 u3) (three v1 v2 v3) i).fst =
                                    (lw (three a1 a2 a3) (three b1 b2 b3) (three u1 u2 u3) (three v1 v2 v3) i).fst,
                                  (lw (three a1 a2 a3) (three b1 b2 b3) (three u1 u2 u3) (three v1 v2 v3) i).snd =
                                    (lw (three a1 a2 a3) (three b1 b2 b3) (three u1 u2 u3) (three v1 v2 v3) i).snd,
                                  (hg (three a1 a2 a3) (three b1 b2 b3) (three u1 u2 u3) (three v1 v2 v3) i).fst =
                                    (hg (three a1 a2 a3) (three b1 b2 b3) (three u1 u2 u3) (three v1 v2 v3) i).fst,
                                  (hg (three a1 a2 a3) (three b1 b2 b3) (three u1 u2 u3) (three v1 v2 v3) i).snd =
                                    (hg (three a1 a2 a3) (three b1 b2 b3) (three u1 u2 u3) (three v1 v2 v3) i).snd,
                                  True])
                              (VT.done
                                [a1 = a1, b1 = b1, u1 = u1, v1 = v1, a2 = a2, b2 = b2, u2 = u2, v2 = v2, a3 = a3, b3 = b3,
                                  u3 = u3, v3 = v3, (↑i : Int) = (↑i : Int),
                                  (if
                                        List.getD [b1, b2, b3] (Int.toNat (↑i : Int)) (0 : Int) -
                                            List.getD [a1, a2, a3] (Int.toNat (↑i : Int)) (0 : Int) <
                                          (0 : Int) then
                                      -(List.getD [u1, u2, u3] (Int.toNat (↑i : Int)) (0 : Int) -
                                          List.getD [a1, a2, a3] (Int.toNat (↑i : Int)) (0 : Int))
                                    else
                                      List.getD [u1, u2, u3] (Int.toNat (↑i : Int)) (0 : Int) -
                                        List.getD [a1, a2, a3] (Int.toNat (↑i : Int)) (0 : Int)) =
                                    sL (three a1 a2 a3 (Int.toNat (↑i : Int))) (three b1 b2 b3 (Int.toNat (↑i : Int)))
                                      (three u1 u2 u3 (Int.toNat (↑i : Int))) (three v1 v2 v3 (Int.toNat (↑i : Int))),
                                  (if
                                        List.getD [b1, b2, b3] (Int.toNat (↑i : Int)) (0 : Int) -
                                            List.getD [a1, a2, a3] (Int.toNat (↑i : Int)) (0 : Int) <
                                          (0 : Int) then
                                      -(List.getD [b1, b2, b3] (Int.toNat (↑i : Int)) (0 : Int) -
                                          List.getD [a1, a2, a3] (Int.toNat (↑i : Int)) (0 : Int))
                                    else
                                      List.getD [b1, b2, b3] (Int.toNat (↑i : Int)) (0 : Int) -
                                        List.getD [a1, a2, a3] (Int.toNat (↑i : Int)) (0 : Int)) =
                                    sD (three a1 a2 a3 (Int.toNat (↑i : Int))) (three b1 b2 b3 (Int.toNat (↑i : Int))),
                                  (if
                                        List.getD [b1, b2, b3] (Int.toNat (↑i : Int)) (0 : Int) -
                                            List.getD [a1, a2, a3] (Int.toNat (↑i : Int)) (0 : Int) <
                                          (0 : Int) then
                                      -(List.getD [v1, v2, v3] (Int.toNat (↑i : Int)) (0 : Int) -
                                          List.getD [a1, a2, a3] (Int.toNat (↑i : Int)) (0 : Int))
                                    else
                                      List.getD [v1, v2, v3] (Int.toNat (↑i : Int)) (0 : Int) -
                                        List.getD [a1, a2, a3] (Int.toNat (↑i : Int)) (0 : Int)) =
                                    sU (three a1 a2 a3 (Int.toNat (↑i : Int))) (three b1 b2 b3 (Int.toNat (↑i : Int)))
                                      (three u1 u2 u3 (Int.toNat (↑i : Int))) (three v1 v2 v3 (Int.toNat (↑i : Int))),
                                  (if
                                        List.getD [b1, b2, b3] (Int.toNat (↑i : Int)) (0 : Int) -
                                            List.getD [a1, a2, a3] (Int.toNat (↑i : Int)) (0 : Int) <
                                          (0 : Int) then
                                      -(List.getD [b1, b2, b3] (Int.toNat (↑i : Int)) (0 : Int) -
                                          List.getD [a1, a2, a3] (Int.toNat (↑i : Int)) (0 : Int))
                                    else
                                      List.getD [b1, b2, b3] (Int.toNat (↑i : Int)) (0 : Int) -
                                        List.getD [a1, a2, a3] (Int.toNat (↑i : Int)) (0 : Int)) =
                                    sD (three a1 a2 a3 (Int.toNat (↑i : Int))) (three b1 b2 b3 (Int.toNat (↑i : Int))),
                                  (lw (three a1 a2 a3) (three b1 b2 b3) (three u1 u2 u3) (three v1 v2 v3) i).fst =
                                    (lw (three a1 a2 a3) (three b1 b2 b3) (three u1 u2 u3) (three v1 v2 v3) i).fst,
                                  (lw (three a1 a2 a3) (three b1 b2 b3) (three u1 u2 u3) (three v1 v2 v3) i).snd =
                                    (lw (three a1 a2 a3) (three b1 b2 b3) (three u1 u2 u3) (three v1 v2 v3) i).snd,
                                  (hg (three a1 a2 a3) (three b1 b2 b3) (three u1 u2 u3) (three v1 v2 v3) i).fst =
                                    (hg (three a1 a2 a3) (three b1 b2 b3) (three u1 u2 u3) (three v1 v2 v3) i).fst,
                                  (hg (three a1 a2 a3) (three b1 b2 b3) (three u1 u2 u3) (three v1 v2 v3) i).snd =
                                    (hg (three a1 a2 a3) (three b1 b2 b3) (three u1 u2 u3) (three v1 v2 v3) i).snd,
                                  True]))
                            fun (i_1 : PUnit) =>
                            VT.cut PUnit (fun (a : PUnit) => True)
                              (VT.need
                                [FnC prog (74 : Nat)
                                    [DV.val
                                        (Value.agg
                                          {
                                            toList :=
                                              [Value.int IntKind.i64
                                                  (lw (three a1 a2 a3) (three b1 b2 b3) (three u1 u2 u3) (three v1 v2 v3)
                                                      i).fst,
                                                Value.int IntKind.i64
                                                  (lw (three a1 a2 a3) (three b1 b2 b3) (three u1 u2 u3) (three v1 v2 v3)
                                                      i).snd] }),
                                      DV.val
                                        (Value.agg
                                          {
                                            toList :=
                                              [Value.int IntKind.i64
                                                  (sL (three a1 a2 a3 (Int.toNat (↑i : Int)))
                                                    (three b1 b2 b3 (Int.toNat (↑i : Int)))
                                                    (three u1 u2 u3 (Int.toNat (↑i : Int)))
                                                    (three v1 v2 v3 (Int.toNat (↑i : Int)))),
                                                Value.int IntKind.i64
                                                  (sD (three a1 a2 a3 (Int.toNat (↑i : Int)))
                                                    (three b1 b2 b3 (Int.toNat (↑i : Int))))] })]
                                    (DV.val
                                      (Value.bool
                                        (decide
                                          ((lw (three a1 a2 a3) (three b1 b2 b3) (three u1 u2 u3) (three v1 v2 v3) i).fst *
                                              sD (three a1 a2 a3 (Int.toNat (↑i : Int)))
                                                (three b1 b2 b3 (Int.toNat (↑i : Int))) <
                                            sL (three a1 a2 a3 (Int.toNat (↑i : Int)))
                                                (three b1 b2 b3 (Int.toNat (↑i : Int)))
                                                (three u1 u2 u3 (Int.toNat (↑i : Int)))
                                                (three v1 v2 v3 (Int.toNat (↑i : Int))) *
                                              (lw (three a1 a2 a3) (three b1 b2 b3) (three u1 u2 u3) (three v1 v2 v3)
                                                  i).snd))))]
                                (VT.ite
                                  (decide
                                    ((lw (three a1 a2 a3) (three b1 b2 b3) (three u1 u2 u3) (three v1 v2 v3) i).fst *
                                        sD (three a1 a2 a3 (Int.toNat (↑i : Int))) (three b1 b2 b3 (Int.toNat (↑i : Int))) <
                                      sL (three a1 a2 a3 (Int.toNat (↑i : Int))) (three b1 b2 b3 (Int.toNat (↑i : Int)))
                                          (three u1 u2 u3 (Int.toNat (↑i : Int))) (three v1 v2 v3 (Int.toNat (↑i : Int))) *
                                        (lw (three a1 a2 a3) (three b1 b2 b3) (three u1 u2 u3) (three v1 v2 v3) i).snd))
                                  (VT.done
                                    [a1 = a1, b1 = b1, u1 = u1, v1 = v1, a2 = a2, b2 = b2, u2 = u2, v2 = v2, a3 = a3,
                                      b3 = b3, u3 = u3, v3 = v3, (↑i : Int) = (↑i : Int),
                                      sL (three a1 a2 a3 (Int.toNat (↑i : Int))) (three b1 b2 b3 (Int.toNat (↑i : Int)))
                                          (three u1 u2 u3 (Int.toNat (↑i : Int))) (three v1 v2 v3 (Int.toNat (↑i : Int))) =
                                        (lw (three a1 a2 a3) (three b1 b2 b3) (three u1 u2 u3) (three v1 v2 v3)
                                            (Int.toNat (↑i : Int) + (1 : Nat))).fst,
                                      sD (three a1 a2 a3 (Int.toNat (↑i : Int))) (three b1 b2 b3 (Int.toNat (↑i : Int))) =
                                        (lw (three a1 a2 a3) (three b1 b2 b3) (three u1 u2 u3) (three v1 v2 v3)
                                            (Int.toNat (↑i : Int) + (1 : Nat))).snd,
                                      (hg (three a1 a2 a3) (three b1 b2 b3) (three u1 u2 u3) (three v1 v2 v3) i).fst =
                                        (hg (three a1 a2 a3) (three b1 b2 b3) (three u1 u2 u3) (three v1 v2 v3) i).fst,
                                      (hg (three a1 a2 a3) (three b1 b2 b3) (three u1 u2 u3) (three v1 v2 v3) i).snd =
                                        (hg (three a1 a2 a3) (three b1 b2 b3) (three u1 u2 u3) (three v1 v2 v3) i).snd,
                                      sU (three a1 a2 a3 (Int.toNat (↑i : Int))) (three b1 b2 b3 (Int.toNat (↑i : Int)))
                                          (three u1 u2 u3 (Int.toNat (↑i : Int))) (three v1 v2 v3 (Int.toNat (↑i : Int))) =
                                        sU (three a1 a2 a3 (Int.toNat (↑i : Int))) (three b1 b2 b3 (Int.toNat (↑i : Int)))
                                          (three u1 u2 u3 (Int.toNat (↑i : Int))) (three v1 v2 v3 (Int.toNat (↑i : Int))),
                                      sD (three a1 a2 a3 (Int.toNat (↑i : Int))) (three b1 b2 b3 (Int.toNat (↑i : Int))) =
                                        sD (three a1 a2 a3 (Int.toNat (↑i : Int))) (three b1 b2 b3 (Int.toNat (↑i : Int))),
                                      True])
                                  (VT.done
                                    [a1 = a1, b1 = b1, u1 = u1, v1 = v1, a2 = a2, b2 = b2, u2 = u2, v2 = v2, a3 = a3,
                                      b3 = b3, u3 = u3, v3 = v3, (↑i : Int) = (↑i : Int),
                                      (lw (three a1 a2 a3) (three b1 b2 b3) (three u1 u2 u3) (three v1 v2 v3) i).fst =
                                        (lw (three a1 a2 a3) (three b1 b2 b3) (three u1 u2 u3) (three v1 v2 v3)
                                            (Int.toNat (↑i : Int) + (1 : Nat))).fst,
                                      (lw (three a1 a2 a3) (three b1 b2 b3) (three u1 u2 u3) (three v1 v2 v3) i).snd =
                                        (lw (three a1 a2 a3) (three b1 b2 b3) (three u1 u2 u3) (three v1 v2 v3)
                                            (Int.toNat (↑i : Int) + (1 : Nat))).snd,
                                      (hg (three a1 a2 a3) (three b1 b2 b3) (three u1 u2 u3) (three v1 v2 v3) i).fst =
                                        (hg (three a1 a2 a3) (three b1 b2 b3) (three u1 u2 u3) (three v1 v2 v3) i).fst,
                                      (hg (three a1 a2 a3) (three b1 b2 b3) (three u1 u2 u3) (three v1 v2 v3) i).snd =
                                        (hg (three a1 a2 a3) (three b1 b2 b3) (three u1 u2 u3) (three v1 v2 v3) i).snd,
                                      sU (three a1 a2 a3 (Int.toNat (↑i : Int))) (three b1 b2 b3 (Int.toNat (↑i : Int)))
                                          (three u1 u2 u3 (Int.toNat (↑i : Int))) (three v1 v2 v3 (Int.toNat (↑i : Int))) =
                                        sU (three a1 a2 a3 (Int.toNat (↑i : Int))) (three b1 b2 b3 (Int.toNat (↑i : Int)))
                                          (three u1 u2 u3 (Int.toNat (↑i : Int))) (three v1 v2 v3 (Int.toNat (↑i : Int))),
                                      sD (three a1 a2 a3 (Int.toNat (↑i : Int))) (three b1 b2 b3 (Int.toNat (↑i : Int))) =
                                        sD (three a1 a2 a3 (Int.toNat (↑i : Int))) (three b1 b2 b3 (Int.toNat (↑i : Int))),
                                      True])))
                              fun (i_2 : PUnit) =>
                              VT.need
                                [FnC prog (74 : Nat)
                                    [DV.val
                                        (Value.agg
                                          {
                                            toList :=
                                              [Value.int IntKind.i64
                                                  (sU (three a1 a2 a3 (Int.toNat (↑i : Int)))
                                                    (three b1 b2 b3 (Int.toNat (↑i : Int)))
                                                    (three u1 u2 u3 (Int.toNat (↑i : Int)))
                                                    (three v1 v2 v3 (Int.toNat (↑i : Int)))),
                                                Value.int IntKind.i64
                                                  (sD (three a1 a2 a3 (Int.toNat (↑i : Int)))
                                                    (three b1 b2 b3 (Int.toNat (↑i : Int))))] }),
                                      DV.val
                                        (Value.agg
                                          {
                                            toList :=
                                              [Value.int IntKind.i64
                                                  (hg (three a1 a2 a3) (three b1 b2 b3) (three u1 u2 u3) (three v1 v2 v3)
                                                      i).fst,
                                                Value.int IntKind.i64
                                                  (hg (three a1 a2 a3) (three b1 b2 b3) (three u1 u2 u3) (three v1 v2 v3)
                                                      i).snd] })]
                                    (DV.val
                                      (Value.bool
                                        (decide
                                          (sU (three a1 a2 a3 (Int.toNat (↑i : Int)))
                                                (three b1 b2 b3 (Int.toNat (↑i : Int)))
                                                (three u1 u2 u3 (Int.toNat (↑i : Int)))
                                                (three v1 v2 v3 (Int.toNat (↑i : Int))) *
                                              (hg (three a1 a2 a3) (three b1 b2 b3) (three u1 u2 u3) (three v1 v2 v3)
                                                  i).snd <
                                            (hg (three a1 a2 a3) (three b1 b2 b3) (three u1 u2 u3) (three v1 v2 v3) i).fst *
                                              sD (three a1 a2 a3 (Int.toNat (↑i : Int)))
                                                (three b1 b2 b3 (Int.toNat (↑i : Int)))))))]
                                (VT.ite
                                  (decide
                                    (sU (three a1 a2 a3 (Int.toNat (↑i : Int))) (three b1 b2 b3 (Int.toNat (↑i : Int)))
                                          (three u1 u2 u3 (Int.toNat (↑i : Int))) (three v1 v2 v3 (Int.toNat (↑i : Int))) *
                                        (hg (three a1 a2 a3) (three b1 b2 b3) (three u1 u2 u3) (three v1 v2 v3) i).snd <
                                      (hg (three a1 a2 a3) (three b1 b2 b3) (three u1 u2 u3) (three v1 v2 v3) i).fst *
                                        sD (three a1 a2 a3 (Int.toNat (↑i : Int))) (three b1 b2 b3 (Int.toNat (↑i : Int)))))
                                  (VT.need [i64In ((↑i : Int) + (1 : Int))]
                                    (VT.done
                                      [(↑i : Int) + (1 : Int) = (↑(Int.toNat ((↑i : Int) + (1 : Int))) : Int), a1 = a1,
                                        b1 = b1, u1 = u1, v1 = v1, a2 = a2, b2 = b2, u2 = u2, v2 = v2, a3 = a3, b3 = b3,
                                        u3 = u3, v3 = v3,
                                        (lw (three a1 a2 a3) (three b1 b2 b3) (three u1 u2 u3) (three v1 v2 v3)
                                              (Int.toNat (↑i : Int) + (1 : Nat))).fst =
                                          (lw (three a1 a2 a3) (three b1 b2 b3) (three u1 u2 u3) (three v1 v2 v3)
                                              (Int.toNat ((↑i : Int) + (1 : Int)))).fst,
                                        (lw (three a1 a2 a3) (three b1 b2 b3) (three u1 u2 u3) (three v1 v2 v3)
                                              (Int.toNat (↑i : Int) + (1 : Nat))).snd =
                                          (lw (three a1 a2 a3) (three b1 b2 b3) (three u1 u2 u3) (three v1 v2 v3)
                                              (Int.toNat ((↑i : Int) + (1 : Int)))).snd,
                                        sU (three a1 a2 a3 (Int.toNat (↑i : Int))) (three b1 b2 b3 (Int.toNat (↑i : Int)))
                                            (three u1 u2 u3 (Int.toNat (↑i : Int)))
                                            (three v1 v2 v3 (Int.toNat (↑i : Int))) =
                                          (hg (three a1 a2 a3) (three b1 b2 b3) (three u1 u2 u3) (three v1 v2 v3)
                                              (Int.toNat ((↑i : Int) + (1 : Int)))).fst,
                                        sD (three a1 a2 a3 (Int.toNat (↑i : Int))) (three b1 b2 b3 (Int.toNat (↑i : Int))) =
                                          (hg (three a1 a2 a3) (three b1 b2 b3) (three u1 u2 u3) (three v1 v2 v3)
                                              (Int.toNat ((↑i : Int) + (1 : Int)))).snd,
                                        Int.toNat ((↑i : Int) + (1 : Int)) ≤ (3 : Nat) ∧
                                          ∀ (j : Nat),
                                            j < Int.toNat ((↑i : Int) + (1 : Int)) →
                                              sOk (three a1 a2 a3 j) (three b1 b2 b3 j) (three u1 u2 u3 j)
                                                  (three v1 v2 v3 j) =
                                                true,
                                        (3 : Nat) - Int.toNat ((↑i : Int) + (1 : Int)) < (3 : Nat) - i]))
                                  (VT.need [i64In ((↑i : Int) + (1 : Int))]
                                    (VT.done
                                      [(↑i : Int) + (1 : Int) = (↑(Int.toNat ((↑i : Int) + (1 : Int))) : Int), a1 = a1,
                                        b1 = b1, u1 = u1, v1 = v1, a2 = a2, b2 = b2, u2 = u2, v2 = v2, a3 = a3, b3 = b3,
                                        u3 = u3, v3 = v3,
                                        (lw (three a1 a2 a3) (three b1 b2 b3) (three u1 u2 u3) (three v1 v2 v3)
                                              (Int.toNat (↑i : Int) + (1 : Nat))).fst =
                                          (lw (three a1 a2 a3) (three b1 b2 b3) (three u1 u2 u3) (three v1 v2 v3)
                                              (Int.toNat ((↑i : Int) + (1 : Int)))).fst,
                                        (lw (three a1 a2 a3) (three b1 b2 b3) (three u1 u2 u3) (three v1 v2 v3)
                                              (Int.toNat (↑i : Int) + (1 : Nat))).snd =
                                          (lw (three a1 a2 a3) (three b1 b2 b3) (three u1 u2 u3) (three v1 v2 v3)
                                              (Int.toNat ((↑i : Int) + (1 : Int)))).snd,
                                        (hg (three a1 a2 a3) (three b1 b2 b3) (three u1 u2 u3) (three v1 v2 v3) i).fst =
                                          (hg (three a1 a2 a3) (three b1 b2 b3) (three u1 u2 u3) (three v1 v2 v3)
                                              (Int.toNat ((↑i : Int) + (1 : Int)))).fst,
                                        (hg (three a1 a2 a3) (three b1 b2 b3) (three u1 u2 u3) (three v1 v2 v3) i).snd =
                                          (hg (three a1 a2 a3) (three b1 b2 b3) (three u1 u2 u3) (three v1 v2 v3)
                                              (Int.toNat ((↑i : Int) + (1 : Int)))).snd,
                                        Int.toNat ((↑i : Int) + (1 : Int)) ≤ (3 : Nat) ∧
                                          ∀ (j : Nat),
                                            j < Int.toNat ((↑i : Int) + (1 : Int)) →
                                              sOk (three a1 a2 a3 j) (three b1 b2 b3 j) (three u1 u2 u3 j)
                                                  (three v1 v2 v3 j) =
                                                true,
                                        (3 : Nat) - Int.toNat ((↑i : Int) + (1 : Int)) < (3 : Nat) - i]))))))))
                  (VT.need
                    [FnC prog (74 : Nat)
                        [DV.val
                            (Value.agg
                              {
                                toList :=
                                  [Value.int IntKind.i64
                                      (lw (three a1 a2 a3) (three b1 b2 b3) (three u1 u2 u3) (three v1 v2 v3) i).fst,
                                    Value.int IntKind.i64
                                      (lw (three a1 a2 a3) (three b1 b2 b3) (three u1 u2 u3) (three v1 v2 v3) i).snd] }),
                          DV.val
                            (Value.agg
                              {
                                toList :=
                                  [Value.int IntKind.i64
                                      (hg (three a1 a2 a3) (three b1 b2 b3) (three u1 u2 u3) (three v1 v2 v3) i).fst,
                                    Value.int IntKind.i64
                                      (hg (three a1 a2 a3) (three b1 b2 b3) (three u1 u2 u3) (three v1 v2 v3) i).snd] })]
                        (DV.val
                          (Value.bool
                            (decide
                              ((lw (three a1 a2 a3) (three b1 b2 b3) (three u1 u2 u3) (three v1 v2 v3) i).fst *
                                  (hg (three a1 a2 a3) (three b1 b2 b3) (three u1 u2 u3) (three v1 v2 v3) i).snd <
                                (hg (three a1 a2 a3) (three b1 b2 b3) (three u1 u2 u3) (three v1 v2 v3) i).fst *
                                  (lw (three a1 a2 a3) (three b1 b2 b3) (three u1 u2 u3) (three v1 v2 v3) i).snd))))]
                    (VT.done
                      [decide
                            ((lw (three a1 a2 a3) (three b1 b2 b3) (three u1 u2 u3) (three v1 v2 v3) i).fst *
                                (hg (three a1 a2 a3) (three b1 b2 b3) (three u1 u2 u3) (three v1 v2 v3) i).snd <
                              (hg (three a1 a2 a3) (three b1 b2 b3) (three u1 u2 u3) (three v1 v2 v3) i).fst *
                                (lw (three a1 a2 a3) (three b1 b2 b3) (three u1 u2 u3) (three v1 v2 v3) i).snd) =
                          isP u1 u2 u3 v1 v2 v3 a1 a2 a3 b1 b2 b3,
                        (0 : Int) = erP u1 u2 u3 v1 v2 v3 a1 a2 a3 b1 b2 b3])))))) (by kernel_rfl) ?_
  simp only [VT.holds, AllT, imp_self, implies_true, and_true, true_and, toNat_succ, toNat_add2, toNat_zero', Int.toNat_natCast, Bool.if_true_left, Bool.if_false_right, Bool.decide_eq_true, Bool.or_eq_true, Bool.or_eq_false_iff, Bool.and_eq_true, Bool.and_eq_false_imp, Bool.not_eq_true', Bool.not_eq_false', Bool.not_not, bne_iff_ne, bne_eq_false_iff_eq, beq_iff_eq, beq_eq_false_iff_ne, decide_eq_true_eq, decide_eq_false_iff_not, ne_eq]
  refine ⟨checkBox_c _ _ _ _ _ _, fun h => ?_, fun h => ⟨rfl, ⟨by omega, fun j hj => (by omega)⟩, fun i ⟨hi, hb⟩ => ⟨fun hlt => ⟨by omega, checkNode_c _ _ _, fun hne => ?_, fun he => ⟨by unfold i64In; omega, rfl, ⟨by omega, fun j hj => ?_⟩, by omega⟩⟩, fun hge => ?_⟩⟩⟩
  · have er : erP u1 u2 u3 v1 v2 v3 a1 a2 a3 b1 b2 b3 = ckB u1 u2 u3 v1 v2 v3 := by rw [erP, if_pos h]
    exact ⟨by rw [isP, er, decide_eq_false h, Bool.false_and], er.symm⟩
  · have er : erP u1 u2 u3 v1 v2 v3 a1 a2 a3 b1 b2 b3 = nE ([a1, b1].getD i 0) ([a2, b2].getD i 0) ([a3, b3].getD i 0) := by
      match i, hlt, hne, hb with
      | 0, _, hne, _ =>
        have hne' : nE a1 a2 a3 ≠ 0 := hne
        rw [erP, if_neg (fun hx => hx h), if_pos hne']; rfl
      | 1, _, hne, hb =>
        have h0 : nE a1 a2 a3 = 0 := hb 0 (by omega)
        rw [erP, if_neg (fun hx => hx h), if_neg (fun hx => hx h0)]; rfl
      | i + 2, hlt, _, _ => omega
    exact ⟨by rw [isP, er, decide_eq_false hne, Bool.false_and], er.symm⟩
  · by_cases e : j = i
    · subst e; exact he
    · exact hb j (by omega)
  · have na : nE a1 a2 a3 = 0 := hb 0 (by omega)
    have nb : nE b1 b2 b3 = 0 := hb 1 (by omega)
    have er : erP u1 u2 u3 v1 v2 v3 a1 a2 a3 b1 b2 b3 = 0 := by rw [erP, if_neg (fun hx => hx h), if_neg (fun hx => hx na), nb]
    have is : isP u1 u2 u3 v1 v2 v3 a1 a2 a3 b1 b2 b3 = pier u1 u2 u3 v1 v2 v3 a1 a2 a3 b1 b2 b3 := by rw [isP, er]; simp
    obtain ⟨mu1, mu2, mu3, mv1, mv2, mv3⟩ := ckB_mB h
    obtain ⟨ma1, ma2, ma3⟩ := nE_mB na
    obtain ⟨mb1, mb2, mb3⟩ := nE_mB nb
    have bA := three_bd ma1 ma2 ma3
    have bB := three_bd mb1 mb2 mb3
    have bU := three_bd mu1 mu2 mu3
    have bV := three_bd mv1 mv2 mv3
    have bl := lw_bd bA bB bU bV
    have bh := hg_bd bA bB bU bV
    refine ⟨⟨rfl, rfl, rfl, rfl, rfl⟩, ⟨by omega, fun j hj => (by omega)⟩, fun i2 ⟨hi2, ho⟩ => ⟨fun hlt2 => ?_, fun hge2 => ?_⟩⟩
    · have cA : mB ([a1, a2, a3].getD i2 0) := bA i2
      have cB : mB ([b1, b2, b3].getD i2 0) := bB i2
      have cU : mB ([u1, u2, u3].getD i2 0) := bU i2
      have cV : mB ([v1, v2, v3].getD i2 0) := bV i2
      have tA : three a1 a2 a3 i2 = [a1, a2, a3].getD i2 0 := rfl
      have tB : three b1 b2 b3 i2 = [b1, b2, b3].getD i2 0 := rfl
      have tU : three u1 u2 u3 i2 = [u1, u2, u3].getD i2 0 := rfl
      have tV : three v1 v2 v3 i2 = [v1, v2, v3].getD i2 0 := rfl
      have l1 : three a1 a2 a3 i2 = three b1 b2 b3 i2 → lw (three a1 a2 a3) (three b1 b2 b3) (three u1 u2 u3) (three v1 v2 v3) (i2 + 1) = lw (three a1 a2 a3) (three b1 b2 b3) (three u1 u2 u3) (three v1 v2 v3) i2 := fun hx => by rw [lw, if_pos hx]
      have g1 : three a1 a2 a3 i2 = three b1 b2 b3 i2 → hg (three a1 a2 a3) (three b1 b2 b3) (three u1 u2 u3) (three v1 v2 v3) (i2 + 1) = hg (three a1 a2 a3) (three b1 b2 b3) (three u1 u2 u3) (three v1 v2 v3) i2 := fun hx => by rw [hg, if_pos hx]
      have sl := sL_bd (a := three a1 a2 a3 i2) (b := three b1 b2 b3 i2) (bA i2) (bU i2) (bV i2)
      have su := sU_bd (a := three a1 a2 a3 i2) (b := three b1 b2 b3 i2) (bA i2) (bU i2) (bV i2)
      have sd := sD_bd (bA i2) (bB i2)
      unfold mB at cA cB cU cV
      refine ⟨by omega, by unfold i64In; omega, fun hz => ⟨fun hout => ?_, fun hin => ?_⟩, fun hnz => ?_⟩
      · have so : sOk (three a1 a2 a3 i2) (three b1 b2 b3 i2) (three u1 u2 u3 i2) (three v1 v2 v3 i2) = false := by
          unfold sOk; rw [decide_eq_false_iff_not, tA, tB, tU, tV]; omega
        exact ⟨by rw [is, pier_no (by omega) so], er.symm⟩
      · have hAB : three a1 a2 a3 i2 = three b1 b2 b3 i2 := by rw [tA, tB]; omega
        refine ⟨by unfold i64In; omega, rfl, by rw [l1 hAB], by rw [l1 hAB], by rw [g1 hAB], by rw [g1 hAB], ⟨by omega, fun j hj => ?_⟩, by omega⟩
        by_cases e : j = i2
        · subst e
          unfold sOk; rw [decide_eq_true_eq, tA, tB, tU, tV]; omega
        · exact ho j (by omega)
      · have hAB : ¬ three a1 a2 a3 i2 = three b1 b2 b3 i2 := by rw [tA, tB]; omega
        have on : ∀ j, j < i2 + 1 → sOk (three a1 a2 a3 j) (three b1 b2 b3 j) (three u1 u2 u3 j) (three v1 v2 v3 j) = true := fun j hj => by
          by_cases e : j = i2
          · subst e
            unfold sOk; rw [decide_eq_true_eq]; exact .inl hAB
          · exact ho j (by omega)
        refine ⟨⟨by unfold i64In; omega, ratioOf_c _ _ (by unfold nB; omega) (by unfold nB; omega), by unfold i64In; omega, ratioOf_c _ _ (by unfold nB; omega) (by unfold nB; omega)⟩, ⟨fun hneg => ?_, fun hpos => ?_⟩, fun _ _ => ⟨⟨less_c _ _ _ _ (bl i2).1 (bl i2).2 sl sd, fun hl => ?_, fun hl => ?_⟩, fun _ _ => ⟨less_c _ _ _ _ su sd (bh i2).1 (bh i2).2, fun hl => ⟨by unfold i64In; omega, rfl, ?_, ?_, ⟨by omega, on⟩, by omega⟩, fun hl => ⟨by unfold i64In; omega, rfl, ?_, ?_, ⟨by omega, on⟩, by omega⟩⟩⟩⟩
        · rw [if_pos hneg, if_pos hneg, if_pos hneg]
          unfold sL sU sD
          rw [if_neg hAB, if_neg hAB, if_neg hAB, tA, tB, tU, tV, if_pos (by omega), if_pos (by omega), if_pos (by omega)]
          omega
        · rw [if_neg hpos, if_neg hpos, if_neg hpos]
          unfold sL sU sD
          rw [if_neg hAB, if_neg hAB, if_neg hAB, tA, tB, tU, tV, if_neg (by omega), if_neg (by omega), if_neg (by omega)]
          omega
        · rw [lw, if_neg hAB, if_pos hl]; exact ⟨rfl, rfl⟩
        · rw [lw, if_neg hAB, if_neg hl]; exact ⟨rfl, rfl⟩
        · rw [hg, if_neg hAB, if_pos hl]
        · rw [hg, if_neg hAB, if_pos hl]
        · rw [hg, if_neg hAB, if_neg hl]
        · rw [hg, if_neg hAB, if_neg hl]
    · have e3 : i2 = 3 := by omega
      subst e3
      have pw := pier_walk (three a1 a2 a3) (three b1 b2 b3) (three u1 u2 u3) (three v1 v2 v3)
      rw [ho 0 (by omega), ho 1 (by omega), ho 2 (by omega)] at pw
      simp only [Bool.true_and] at pw
      refine ⟨less_c _ _ _ _ (bl 3).1 (bl 3).2 (bh 3).1 (bh 3).2, ?_, er.symm⟩
      rw [is]; exact pw
noncomputable def A6_pierceLaw_c (u1 u2 u3 v1 v2 v3 a1 a2 a3 b1 b2 b3 : Int) : Ann := { orc := [(1, [(0, rTrue)]), (3, [(3, rPi)]), (4, [(3, rPi)]), (5, [(1, rCkB)]), (7, [(1, rNdE)]), (9, [(1, rNdE)]), (12, [(3, rPiR)])], loops := [], cuts := [(10, { ι := Int, keep := [3, 4, 5, 7, 8, 9, 10], boxes := [3, 4, 5], ts := fun _ d => [(11, dI d)], inv := fun _ d => d = erP u1 u2 u3 v1 v2 v3 a1 a2 a3 b1 b2 b3, mu := fun _ _ => 0, rd := fun _ σ => iOf (σ.get 11) })] }
theorem pierceLaw_c (u1 u2 u3 v1 v2 v3 a1 a2 a3 b1 b2 b3 : Int)  : FnC prog 6 [bx u1 u2 u3 v1 v2 v3, nd a1 a2 a3, nd b1 b2 b3] (dB true) := by
  refine FnC_owed hmix (A6_pierceLaw_c u1 u2 u3 v1 v2 v3 a1 a2 a3 b1 b2 b3) (V := VT.need [FnC prog (10 : Nat) [] (DV.val (Value.bool true))]
        (VT.ite (!true) (VT.done [false = true])
          (VT.need
            [FnC prog (32 : Nat)
                [DV.val
                    (Value.agg
                      {
                        toList :=
                          [Value.int IntKind.i64 u1, Value.int IntKind.i64 u2, Value.int IntKind.i64 u3,
                            Value.int IntKind.i64 v1, Value.int IntKind.i64 v2, Value.int IntKind.i64 v3] }),
                  DV.val
                    (Value.agg
                      { toList := [Value.int IntKind.i64 a1, Value.int IntKind.i64 a2, Value.int IntKind.i64 a3] }),
                  DV.val
                    (Value.agg
                      { toList := [Value.int IntKind.i64 b1, Value.int IntKind.i64 b2, Value.int IntKind.i64 b3] })]
                (DV.tup
                  [DV.val (Value.bool (isP u1 u2 u3 v1 v2 v3 a1 a2 a3 b1 b2 b3)),
                    DV.val (Value.int IntKind.i64 (erP u1 u2 u3 v1 v2 v3 a1 a2 a3 b1 b2 b3))])]
            (VT.need
              [FnC prog (32 : Nat)
                  [DV.val
                      (Value.agg
                        {
                          toList :=
                            [Value.int IntKind.i64 u1, Value.int IntKind.i64 u2, Value.int IntKind.i64 u3,
                              Value.int IntKind.i64 v1, Value.int IntKind.i64 v2, Value.int IntKind.i64 v3] }),
                    DV.val
                      (Value.agg
                        { toList := [Value.int IntKind.i64 b1, Value.int IntKind.i64 b2, Value.int IntKind.i64 b3] }),
                    DV.val
                      (Value.agg
                        { toList := [Value.int IntKind.i64 a1, Value.int IntKind.i64 a2, Value.int IntKind.i64 a3] })]
                  (DV.tup
                    [DV.val (Value.bool (isP u1 u2 u3 v1 v2 v3 b1 b2 b3 a1 a2 a3)),
                      DV.val (Value.int IntKind.i64 (erP u1 u2 u3 v1 v2 v3 b1 b2 b3 a1 a2 a3))])]
              (VT.need
                [FnC prog (29 : Nat)
                    [DV.val
                        (Value.agg
                          {
                            toList :=
                              [Value.int IntKind.i64 u1, Value.int IntKind.i64 u2, Value.int IntKind.i64 u3,
                                Value.int IntKind.i64 v1, Value.int IntKind.i64 v2, Value.int IntKind.i64 v3] })]
                    (DV.val (Value.int IntKind.i64 (ckB u1 u2 u3 v1 v2 v3)))]
                (VT.ite (ckB u1 u2 u3 v1 v2 v3 == (0 : Int))
                  (VT.need
                    [FnC prog (33 : Nat)
                        [DV.val
                            (Value.agg
                              { toList := [Value.int IntKind.i64 a1, Value.int IntKind.i64 a2, Value.int IntKind.i64 a3] })]
                        (DV.val (Value.int IntKind.i64 (nE a1 a2 a3)))]
                    (VT.cut Int (fun (a : Int) => a = erP u1 u2 u3 v1 v2 v3 a1 a2 a3 b1 b2 b3)
                      (VT.ite (nE a1 a2 a3 == (0 : Int))
                        (VT.need
                          [FnC prog (33 : Nat)
                              [DV.val
                                  (Value.agg
                                    {
                                      toList :=
                                        [Value.int IntKind.i64 b1, Value.int IntKind.i64 b2, Value.int IntKind.i64 b3] })]
                              (DV.val (Value.int IntKind.i64 (nE b1 b2 b3)))]
                          (VT.done
                            [nE b1 b2 b3 = nE b1 b2 b3,
                              isP u1 u2 u3 v1 v2 v3 a1 a2 a3 b1 b2 b3 = isP u1 u2 u3 v1 v2 v3 a1 a2 a3 b1 b2 b3,
                              erP u1 u2 u3 v1 v2 v3 a1 a2 a3 b1 b2 b3 = erP u1 u2 u3 v1 v2 v3 a1 a2 a3 b1 b2 b3,
                              isP u1 u2 u3 v1 v2 v3 b1 b2 b3 a1 a2 a3 = isP u1 u2 u3 v1 v2 v3 b1 b2 b3 a1 a2 a3,
                              erP u1 u2 u3 v1 v2 v3 b1 b2 b3 a1 a2 a3 = erP u1 u2 u3 v1 v2 v3 b1 b2 b3 a1 a2 a3, u1 = u1,
                              u2 = u2, u3 = u3, v1 = v1, v2 = v2, v3 = v3, a1 = a1, a2 = a2, a3 = a3, b1 = b1, b2 = b2,
                              b3 = b3, nE b1 b2 b3 = erP u1 u2 u3 v1 v2 v3 a1 a2 a3 b1 b2 b3]))
                        (VT.done
                          [nE a1 a2 a3 = nE a1 a2 a3,
                            isP u1 u2 u3 v1 v2 v3 a1 a2 a3 b1 b2 b3 = isP u1 u2 u3 v1 v2 v3 a1 a2 a3 b1 b2 b3,
                            erP u1 u2 u3 v1 v2 v3 a1 a2 a3 b1 b2 b3 = erP u1 u2 u3 v1 v2 v3 a1 a2 a3 b1 b2 b3,
                            isP u1 u2 u3 v1 v2 v3 b1 b2 b3 a1 a2 a3 = isP u1 u2 u3 v1 v2 v3 b1 b2 b3 a1 a2 a3,
                            erP u1 u2 u3 v1 v2 v3 b1 b2 b3 a1 a2 a3 = erP u1 u2 u3 v1 v2 v3 b1 b2 b3 a1 a2 a3, u1 = u1,
                            u2 = u2, u3 = u3, v1 = v1, v2 = v2, v3 = v3, a1 = a1, a2 = a2, a3 = a3, b1 = b1, b2 = b2,
                            b3 = b3, nE a1 a2 a3 = erP u1 u2 u3 v1 v2 v3 a1 a2 a3 b1 b2 b3]))
                      fun (i : Int) =>
                      VT.ite (i != (0 : Int))
                        (VT.need
                          [(erP u1 u2 u3 v1 v2 v3 a1 a2 a3 b1 b2 b3 == i) = true →
                              (erP u1 u2 u3 v1 v2 v3 a1 a2 a3 b1 b2 b3 == i) = true,
                            (erP u1 u2 u3 v1 v2 v3 a1 a2 a3 b1 b2 b3 == i) = true →
                              (erP u1 u2 u3 v1 v2 v3 a1 a2 a3 b1 b2 b3 == i) = true,
                            (erP u1 u2 u3 v1 v2 v3 a1 a2 a3 b1 b2 b3 == i) = true →
                              (erP u1 u2 u3 v1 v2 v3 a1 a2 a3 b1 b2 b3 == i) = true,
                            (if (erP u1 u2 u3 v1 v2 v3 a1 a2 a3 b1 b2 b3 == i) = true then
                                  erP u1 u2 u3 v1 v2 v3 b1 b2 b3 a1 a2 a3 == i
                                else false) =
                                true →
                              (if (erP u1 u2 u3 v1 v2 v3 a1 a2 a3 b1 b2 b3 == i) = true then
                                  erP u1 u2 u3 v1 v2 v3 b1 b2 b3 a1 a2 a3 == i
                                else false) =
                                true,
                            (if (erP u1 u2 u3 v1 v2 v3 a1 a2 a3 b1 b2 b3 == i) = true then
                                  erP u1 u2 u3 v1 v2 v3 b1 b2 b3 a1 a2 a3 == i
                                else false) =
                                true →
                              (if (erP u1 u2 u3 v1 v2 v3 a1 a2 a3 b1 b2 b3 == i) = true then
                                  erP u1 u2 u3 v1 v2 v3 b1 b2 b3 a1 a2 a3 == i
                                else false) =
                                true,
                            (if
                                    (if (erP u1 u2 u3 v1 v2 v3 a1 a2 a3 b1 b2 b3 == i) = true then
                                        erP u1 u2 u3 v1 v2 v3 b1 b2 b3 a1 a2 a3 == i
                                      else false) =
                                      true then
                                  !isP u1 u2 u3 v1 v2 v3 a1 a2 a3 b1 b2 b3
                                else false) =
                                true →
                              (if
                                    (if (erP u1 u2 u3 v1 v2 v3 a1 a2 a3 b1 b2 b3 == i) = true then
                                        erP u1 u2 u3 v1 v2 v3 b1 b2 b3 a1 a2 a3 == i
                                      else false) =
                                      true then
                                  !isP u1 u2 u3 v1 v2 v3 a1 a2 a3 b1 b2 b3
                                else false) =
                                true,
                            (if
                                    (if (erP u1 u2 u3 v1 v2 v3 a1 a2 a3 b1 b2 b3 == i) = true then
                                        erP u1 u2 u3 v1 v2 v3 b1 b2 b3 a1 a2 a3 == i
                                      else false) =
                                      true then
                                  !isP u1 u2 u3 v1 v2 v3 a1 a2 a3 b1 b2 b3
                                else false) =
                                true →
                              (if
                                    (if (erP u1 u2 u3 v1 v2 v3 a1 a2 a3 b1 b2 b3 == i) = true then
                                        erP u1 u2 u3 v1 v2 v3 b1 b2 b3 a1 a2 a3 == i
                                      else false) =
                                      true then
                                  !isP u1 u2 u3 v1 v2 v3 a1 a2 a3 b1 b2 b3
                                else false) =
                                true]
                          (VT.done
                            [(if
                                    (if
                                          (if (erP u1 u2 u3 v1 v2 v3 a1 a2 a3 b1 b2 b3 == i) = true then
                                              erP u1 u2 u3 v1 v2 v3 b1 b2 b3 a1 a2 a3 == i
                                            else false) =
                                            true then
                                        !isP u1 u2 u3 v1 v2 v3 a1 a2 a3 b1 b2 b3
                                      else false) =
                                      true then
                                  !isP u1 u2 u3 v1 v2 v3 b1 b2 b3 a1 a2 a3
                                else false) =
                                true]))
                        (VT.need
                          [FnC prog (34 : Nat)
                              [DV.val
                                  (Value.agg
                                    {
                                      toList :=
                                        [Value.int IntKind.i64 u1, Value.int IntKind.i64 u2, Value.int IntKind.i64 u3,
                                          Value.int IntKind.i64 v1, Value.int IntKind.i64 v2, Value.int IntKind.i64 v3] }),
                                DV.val
                                  (Value.agg
                                    {
                                      toList :=
                                        [Value.int IntKind.i64 a1, Value.int IntKind.i64 a2, Value.int IntKind.i64 a3] }),
                                DV.val
                                  (Value.agg
                                    {
                                      toList :=
                                        [Value.int IntKind.i64 b1, Value.int IntKind.i64 b2, Value.int IntKind.i64 b3] })]
                              (DV.val (Value.bool (pier u1 u2 u3 v1 v2 v3 a1 a2 a3 b1 b2 b3)))]
                          (VT.need
                            [(erP u1 u2 u3 v1 v2 v3 a1 a2 a3 b1 b2 b3 == (0 : Int)) = true →
                                (erP u1 u2 u3 v1 v2 v3 a1 a2 a3 b1 b2 b3 == (0 : Int)) = true,
                              (erP u1 u2 u3 v1 v2 v3 a1 a2 a3 b1 b2 b3 == (0 : Int)) = true →
                                (erP u1 u2 u3 v1 v2 v3 a1 a2 a3 b1 b2 b3 == (0 : Int)) = true,
                              (if (erP u1 u2 u3 v1 v2 v3 a1 a2 a3 b1 b2 b3 == (0 : Int)) = true then
                                    erP u1 u2 u3 v1 v2 v3 b1 b2 b3 a1 a2 a3 == (0 : Int)
                                  else false) =
                                  true →
                                (if (erP u1 u2 u3 v1 v2 v3 a1 a2 a3 b1 b2 b3 == (0 : Int)) = true then
                                    erP u1 u2 u3 v1 v2 v3 b1 b2 b3 a1 a2 a3 == (0 : Int)
                                  else false) =
                                  true,
                              (if (erP u1 u2 u3 v1 v2 v3 a1 a2 a3 b1 b2 b3 == (0 : Int)) = true then
                                    erP u1 u2 u3 v1 v2 v3 b1 b2 b3 a1 a2 a3 == (0 : Int)
                                  else false) =
                                  true →
                                (if (erP u1 u2 u3 v1 v2 v3 a1 a2 a3 b1 b2 b3 == (0 : Int)) = true then
                                    erP u1 u2 u3 v1 v2 v3 b1 b2 b3 a1 a2 a3 == (0 : Int)
                                  else false) =
                                  true,
                              (if (erP u1 u2 u3 v1 v2 v3 a1 a2 a3 b1 b2 b3 == (0 : Int)) = true then
                                    erP u1 u2 u3 v1 v2 v3 b1 b2 b3 a1 a2 a3 == (0 : Int)
                                  else false) =
                                  true →
                                (if (erP u1 u2 u3 v1 v2 v3 a1 a2 a3 b1 b2 b3 == (0 : Int)) = true then
                                    erP u1 u2 u3 v1 v2 v3 b1 b2 b3 a1 a2 a3 == (0 : Int)
                                  else false) =
                                  true,
                              (if
                                      (if (erP u1 u2 u3 v1 v2 v3 a1 a2 a3 b1 b2 b3 == (0 : Int)) = true then
                                          erP u1 u2 u3 v1 v2 v3 b1 b2 b3 a1 a2 a3 == (0 : Int)
                                        else false) =
                                        true then
                                    if false = true then
                                      !isP u1 u2 u3 v1 v2 v3 a1 a2 a3 b1 b2 b3 == pier u1 u2 u3 v1 v2 v3 a1 a2 a3 b1 b2 b3
                                    else isP u1 u2 u3 v1 v2 v3 a1 a2 a3 b1 b2 b3 == pier u1 u2 u3 v1 v2 v3 a1 a2 a3 b1 b2 b3
                                  else false) =
                                  true →
                                (if
                                      (if (erP u1 u2 u3 v1 v2 v3 a1 a2 a3 b1 b2 b3 == (0 : Int)) = true then
                                          erP u1 u2 u3 v1 v2 v3 b1 b2 b3 a1 a2 a3 == (0 : Int)
                                        else false) =
                                        true then
                                    if false = true then
                                      !isP u1 u2 u3 v1 v2 v3 a1 a2 a3 b1 b2 b3 == pier u1 u2 u3 v1 v2 v3 a1 a2 a3 b1 b2 b3
                                    else isP u1 u2 u3 v1 v2 v3 a1 a2 a3 b1 b2 b3 == pier u1 u2 u3 v1 v2 v3 a1 a2 a3 b1 b2 b3
                                  else false) =
                                  true,
                              (if
                                      (if (erP u1 u2 u3 v1 v2 v3 a1 a2 a3 b1 b2 b3 == (0 : Int)) = true then
                                          erP u1 u2 u3 v1 v2 v3 b1 b2 b3 a1 a2 a3 == (0 : Int)
                                        else false) =
                                        true then
                                    if false = true then
                                      !isP u1 u2 u3 v1 v2 v3 a1 a2 a3 b1 b2 b3 == pier u1 u2 u3 v1 v2 v3 a1 a2 a3 b1 b2 b3
                                    else isP u1 u2 u3 v1 v2 v3 a1 a2 a3 b1 b2 b3 == pier u1 u2 u3 v1 v2 v3 a1 a2 a3 b1 b2 b3
                                  else false) =
                                  true →
                                (if
                                      (if (erP u1 u2 u3 v1 v2 v3 a1 a2 a3 b1 b2 b3 == (0 : Int)) = true then
                                          erP u1 u2 u3 v1 v2 v3 b1 b2 b3 a1 a2 a3 == (0 : Int)
                                        else false) =
                                        true then
                                    if false = true then
                                      !isP u1 u2 u3 v1 v2 v3 a1 a2 a3 b1 b2 b3 == pier u1 u2 u3 v1 v2 v3 a1 a2 a3 b1 b2 b3
                                    else isP u1 u2 u3 v1 v2 v3 a1 a2 a3 b1 b2 b3 == pier u1 u2 u3 v1 v2 v3 a1 a2 a3 b1 b2 b3
                                  else false) =
                                  true,
                              (if
                                      (if (erP u1 u2 u3 v1 v2 v3 a1 a2 a3 b1 b2 b3 == (0 : Int)) = true then
                                          erP u1 u2 u3 v1 v2 v3 b1 b2 b3 a1 a2 a3 == (0 : Int)
                                        else false) =
                                        true then
                                    if false = true then
                                      !isP u1 u2 u3 v1 v2 v3 a1 a2 a3 b1 b2 b3 == pier u1 u2 u3 v1 v2 v3 a1 a2 a3 b1 b2 b3
                                    else isP u1 u2 u3 v1 v2 v3 a1 a2 a3 b1 b2 b3 == pier u1 u2 u3 v1 v2 v3 a1 a2 a3 b1 b2 b3
                                  else false) =
                                  true →
                                (if
                                      (if (erP u1 u2 u3 v1 v2 v3 a1 a2 a3 b1 b2 b3 == (0 : Int)) = true then
                                          erP u1 u2 u3 v1 v2 v3 b1 b2 b3 a1 a2 a3 == (0 : Int)
                                        else false) =
                                        true then
                                    if false = true then
                                      !isP u1 u2 u3 v1 v2 v3 a1 a2 a3 b1 b2 b3 == pier u1 u2 u3 v1 v2 v3 a1 a2 a3 b1 b2 b3
                                    else isP u1 u2 u3 v1 v2 v3 a1 a2 a3 b1 b2 b3 == pier u1 u2 u3 v1 v2 v3 a1 a2 a3 b1 b2 b3
                                  else false) =
                                  true]
                            (VT.done
                              [(if
                                      (if
                                            (if (erP u1 u2 u3 v1 v2 v3 a1 a2 a3 b1 b2 b3 == (0 : Int)) = true then
                                                erP u1 u2 u3 v1 v2 v3 b1 b2 b3 a1 a2 a3 == (0 : Int)
                                              else false) =
                                              true then
                                          if false = true then
                                            !isP u1 u2 u3 v1 v2 v3 a1 a2 a3 b1 b2 b3 ==
                                                pier u1 u2 u3 v1 v2 v3 a1 a2 a3 b1 b2 b3
                                          else
                                            isP u1 u2 u3 v1 v2 v3 a1 a2 a3 b1 b2 b3 ==
                                              pier u1 u2 u3 v1 v2 v3 a1 a2 a3 b1 b2 b3
                                        else false) =
                                        true then
                                    if false = true then
                                      !isP u1 u2 u3 v1 v2 v3 b1 b2 b3 a1 a2 a3 == pier u1 u2 u3 v1 v2 v3 a1 a2 a3 b1 b2 b3
                                    else isP u1 u2 u3 v1 v2 v3 b1 b2 b3 a1 a2 a3 == pier u1 u2 u3 v1 v2 v3 a1 a2 a3 b1 b2 b3
                                  else false) =
                                  true])))))
                  (VT.cut Int (fun (a : Int) => a = erP u1 u2 u3 v1 v2 v3 a1 a2 a3 b1 b2 b3)
                    (VT.ite (ckB u1 u2 u3 v1 v2 v3 == (0 : Int))
                      (VT.need
                        [FnC prog (33 : Nat)
                            [DV.val
                                (Value.agg
                                  {
                                    toList :=
                                      [Value.int IntKind.i64 b1, Value.int IntKind.i64 b2, Value.int IntKind.i64 b3] })]
                            (DV.val (Value.int IntKind.i64 (nE b1 b2 b3)))]
                        (VT.done
                          [nE b1 b2 b3 = nE b1 b2 b3,
                            isP u1 u2 u3 v1 v2 v3 a1 a2 a3 b1 b2 b3 = isP u1 u2 u3 v1 v2 v3 a1 a2 a3 b1 b2 b3,
                            erP u1 u2 u3 v1 v2 v3 a1 a2 a3 b1 b2 b3 = erP u1 u2 u3 v1 v2 v3 a1 a2 a3 b1 b2 b3,
                            isP u1 u2 u3 v1 v2 v3 b1 b2 b3 a1 a2 a3 = isP u1 u2 u3 v1 v2 v3 b1 b2 b3 a1 a2 a3,
                            erP u1 u2 u3 v1 v2 v3 b1 b2 b3 a1 a2 a3 = erP u1 u2 u3 v1 v2 v3 b1 b2 b3 a1 a2 a3, u1 = u1,
                            u2 = u2, u3 = u3, v1 = v1, v2 = v2, v3 = v3, a1 = a1, a2 = a2, a3 = a3, b1 = b1, b2 = b2,
                            b3 = b3, nE b1 b2 b3 = erP u1 u2 u3 v1 v2 v3 a1 a2 a3 b1 b2 b3]))
                      (VT.done
                        [ckB u1 u2 u3 v1 v2 v3 = ckB u1 u2 u3 v1 v2 v3,
                          isP u1 u2 u3 v1 v2 v3 a1 a2 a3 b1 b2 b3 = isP u1 u2 u3 v1 v2 v3 a1 a2 a3 b1 b2 b3,
                          erP u1 u2 u3 v1 v2 v3 a1 a2 a3 b1 b2 b3 = erP u1 u2 u3 v1 v2 v3 a1 a2 a3 b1 b2 b3,
                          isP u1 u2 u3 v1 v2 v3 b1 b2 b3 a1 a2 a3 = isP u1 u2 u3 v1 v2 v3 b1 b2 b3 a1 a2 a3,
                          erP u1 u2 u3 v1 v2 v3 b1 b2 b3 a1 a2 a3 = erP u1 u2 u3 v1 v2 v3 b1 b2 b3 a1 a2 a3, u1 = u1,
                          u2 = u2, u3 = u3, v1 = v1, v2 = v2, v3 = v3, a1 = a1, a2 = a2, a3 = a3, b1 = b1, b2 = b2, b3 = b3,
                          ckB u1 u2 u3 v1 v2 v3 = erP u1 u2 u3 v1 v2 v3 a1 a2 a3 b1 b2 b3]))
                    fun (i : Int) =>
                    VT.ite (i != (0 : Int))
                      (VT.need
                        [(erP u1 u2 u3 v1 v2 v3 a1 a2 a3 b1 b2 b3 == i) = true →
                            (erP u1 u2 u3 v1 v2 v3 a1 a2 a3 b1 b2 b3 == i) = true,
                          (erP u1 u2 u3 v1 v2 v3 a1 a2 a3 b1 b2 b3 == i) = true →
                            (erP u1 u2 u3 v1 v2 v3 a1 a2 a3 b1 b2 b3 == i) = true,
                          (erP u1 u2 u3 v1 v2 v3 a1 a2 a3 b1 b2 b3 == i) = true →
                            (erP u1 u2 u3 v1 v2 v3 a1 a2 a3 b1 b2 b3 == i) = true,
                          (if (erP u1 u2 u3 v1 v2 v3 a1 a2 a3 b1 b2 b3 == i) = true then
                                erP u1 u2 u3 v1 v2 v3 b1 b2 b3 a1 a2 a3 == i
                              else false) =
                              true →
                            (if (erP u1 u2 u3 v1 v2 v3 a1 a2 a3 b1 b2 b3 == i) = true then
                                erP u1 u2 u3 v1 v2 v3 b1 b2 b3 a1 a2 a3 == i
                              else false) =
                              true,
                          (if (erP u1 u2 u3 v1 v2 v3 a1 a2 a3 b1 b2 b3 == i) = true then
                                erP u1 u2 u3 v1 v2 v3 b1 b2 b3 a1 a2 a3 == i
                              else false) =
                              true →
                            (if (erP u1 u2 u3 v1 v2 v3 a1 a2 a3 b1 b2 b3 == i) = true then
                                erP u1 u2 u3 v1 v2 v3 b1 b2 b3 a1 a2 a3 == i
                              else false) =
                              true,
                          (if
                                  (if (erP u1 u2 u3 v1 v2 v3 a1 a2 a3 b1 b2 b3 == i) = true then
                                      erP u1 u2 u3 v1 v2 v3 b1 b2 b3 a1 a2 a3 == i
                                    else false) =
                                    true then
                                !isP u1 u2 u3 v1 v2 v3 a1 a2 a3 b1 b2 b3
                              else false) =
                              true →
                            (if
                                  (if (erP u1 u2 u3 v1 v2 v3 a1 a2 a3 b1 b2 b3 == i) = true then
                                      erP u1 u2 u3 v1 v2 v3 b1 b2 b3 a1 a2 a3 == i
                                    else false) =
                                    true then
                                !isP u1 u2 u3 v1 v2 v3 a1 a2 a3 b1 b2 b3
                              else false) =
                              true,
                          (if
                                  (if (erP u1 u2 u3 v1 v2 v3 a1 a2 a3 b1 b2 b3 == i) = true then
                                      erP u1 u2 u3 v1 v2 v3 b1 b2 b3 a1 a2 a3 == i
                                    else false) =
                                    true then
                                !isP u1 u2 u3 v1 v2 v3 a1 a2 a3 b1 b2 b3
                              else false) =
                              true →
                            (if
                                  (if (erP u1 u2 u3 v1 v2 v3 a1 a2 a3 b1 b2 b3 == i) = true then
                                      erP u1 u2 u3 v1 v2 v3 b1 b2 b3 a1 a2 a3 == i
                                    else false) =
                                    true then
                                !isP u1 u2 u3 v1 v2 v3 a1 a2 a3 b1 b2 b3
                              else false) =
                              true]
                        (VT.done
                          [(if
                                  (if
                                        (if (erP u1 u2 u3 v1 v2 v3 a1 a2 a3 b1 b2 b3 == i) = true then
                                            erP u1 u2 u3 v1 v2 v3 b1 b2 b3 a1 a2 a3 == i
                                          else false) =
                                          true then
                                      !isP u1 u2 u3 v1 v2 v3 a1 a2 a3 b1 b2 b3
                                    else false) =
                                    true then
                                !isP u1 u2 u3 v1 v2 v3 b1 b2 b3 a1 a2 a3
                              else false) =
                              true]))
                      (VT.need
                        [FnC prog (34 : Nat)
                            [DV.val
                                (Value.agg
                                  {
                                    toList :=
                                      [Value.int IntKind.i64 u1, Value.int IntKind.i64 u2, Value.int IntKind.i64 u3,
                                        Value.int IntKind.i64 v1, Value.int IntKind.i64 v2, Value.int IntKind.i64 v3] }),
                              DV.val
                                (Value.agg
                                  {
                                    toList :=
                                      [Value.int IntKind.i64 a1, Value.int IntKind.i64 a2, Value.int IntKind.i64 a3] }),
                              DV.val
                                (Value.agg
                                  {
                                    toList :=
                                      [Value.int IntKind.i64 b1, Value.int IntKind.i64 b2, Value.int IntKind.i64 b3] })]
                            (DV.val (Value.bool (pier u1 u2 u3 v1 v2 v3 a1 a2 a3 b1 b2 b3)))]
                        (VT.need
                          [(erP u1 u2 u3 v1 v2 v3 a1 a2 a3 b1 b2 b3 == (0 : Int)) = true →
                              (erP u1 u2 u3 v1 v2 v3 a1 a2 a3 b1 b2 b3 == (0 : Int)) = true,
                            (erP u1 u2 u3 v1 v2 v3 a1 a2 a3 b1 b2 b3 == (0 : Int)) = true →
                              (erP u1 u2 u3 v1 v2 v3 a1 a2 a3 b1 b2 b3 == (0 : Int)) = true,
                            (if (erP u1 u2 u3 v1 v2 v3 a1 a2 a3 b1 b2 b3 == (0 : Int)) = true then
                                  erP u1 u2 u3 v1 v2 v3 b1 b2 b3 a1 a2 a3 == (0 : Int)
                                else false) =
                                true →
                              (if (erP u1 u2 u3 v1 v2 v3 a1 a2 a3 b1 b2 b3 == (0 : Int)) = true then
                                  erP u1 u2 u3 v1 v2 v3 b1 b2 b3 a1 a2 a3 == (0 : Int)
                                else false) =
                                true,
                            (if (erP u1 u2 u3 v1 v2 v3 a1 a2 a3 b1 b2 b3 == (0 : Int)) = true then
                                  erP u1 u2 u3 v1 v2 v3 b1 b2 b3 a1 a2 a3 == (0 : Int)
                                else false) =
                                true →
                              (if (erP u1 u2 u3 v1 v2 v3 a1 a2 a3 b1 b2 b3 == (0 : Int)) = true then
                                  erP u1 u2 u3 v1 v2 v3 b1 b2 b3 a1 a2 a3 == (0 : Int)
                                else false) =
                                true,
                            (if (erP u1 u2 u3 v1 v2 v3 a1 a2 a3 b1 b2 b3 == (0 : Int)) = true then
                                  erP u1 u2 u3 v1 v2 v3 b1 b2 b3 a1 a2 a3 == (0 : Int)
                                else false) =
                                true →
                              (if (erP u1 u2 u3 v1 v2 v3 a1 a2 a3 b1 b2 b3 == (0 : Int)) = true then
                                  erP u1 u2 u3 v1 v2 v3 b1 b2 b3 a1 a2 a3 == (0 : Int)
                                else false) =
                                true,
                            (if
                                    (if (erP u1 u2 u3 v1 v2 v3 a1 a2 a3 b1 b2 b3 == (0 : Int)) = true then
                                        erP u1 u2 u3 v1 v2 v3 b1 b2 b3 a1 a2 a3 == (0 : Int)
                                      else false) =
                                      true then
                                  if false = true then
                                    !isP u1 u2 u3 v1 v2 v3 a1 a2 a3 b1 b2 b3 == pier u1 u2 u3 v1 v2 v3 a1 a2 a3 b1 b2 b3
                                  else isP u1 u2 u3 v1 v2 v3 a1 a2 a3 b1 b2 b3 == pier u1 u2 u3 v1 v2 v3 a1 a2 a3 b1 b2 b3
                                else false) =
                                true →
                              (if
                                    (if (erP u1 u2 u3 v1 v2 v3 a1 a2 a3 b1 b2 b3 == (0 : Int)) = true then
                                        erP u1 u2 u3 v1 v2 v3 b1 b2 b3 a1 a2 a3 == (0 : Int)
                                      else false) =
                                      true then
                                  if false = true then
                                    !isP u1 u2 u3 v1 v2 v3 a1 a2 a3 b1 b2 b3 == pier u1 u2 u3 v1 v2 v3 a1 a2 a3 b1 b2 b3
                                  else isP u1 u2 u3 v1 v2 v3 a1 a2 a3 b1 b2 b3 == pier u1 u2 u3 v1 v2 v3 a1 a2 a3 b1 b2 b3
                                else false) =
                                true,
                            (if
                                    (if (erP u1 u2 u3 v1 v2 v3 a1 a2 a3 b1 b2 b3 == (0 : Int)) = true then
                                        erP u1 u2 u3 v1 v2 v3 b1 b2 b3 a1 a2 a3 == (0 : Int)
                                      else false) =
                                      true then
                                  if false = true then
                                    !isP u1 u2 u3 v1 v2 v3 a1 a2 a3 b1 b2 b3 == pier u1 u2 u3 v1 v2 v3 a1 a2 a3 b1 b2 b3
                                  else isP u1 u2 u3 v1 v2 v3 a1 a2 a3 b1 b2 b3 == pier u1 u2 u3 v1 v2 v3 a1 a2 a3 b1 b2 b3
                                else false) =
                                true →
                              (if
                                    (if (erP u1 u2 u3 v1 v2 v3 a1 a2 a3 b1 b2 b3 == (0 : Int)) = true then
                                        erP u1 u2 u3 v1 v2 v3 b1 b2 b3 a1 a2 a3 == (0 : Int)
                                      else false) =
                                      true then
                                  if false = true then
                                    !isP u1 u2 u3 v1 v2 v3 a1 a2 a3 b1 b2 b3 == pier u1 u2 u3 v1 v2 v3 a1 a2 a3 b1 b2 b3
                                  else isP u1 u2 u3 v1 v2 v3 a1 a2 a3 b1 b2 b3 == pier u1 u2 u3 v1 v2 v3 a1 a2 a3 b1 b2 b3
                                else false) =
                                true,
                            (if
                                    (if (erP u1 u2 u3 v1 v2 v3 a1 a2 a3 b1 b2 b3 == (0 : Int)) = true then
                                        erP u1 u2 u3 v1 v2 v3 b1 b2 b3 a1 a2 a3 == (0 : Int)
                                      else false) =
                                      true then
                                  if false = true then
                                    !isP u1 u2 u3 v1 v2 v3 a1 a2 a3 b1 b2 b3 == pier u1 u2 u3 v1 v2 v3 a1 a2 a3 b1 b2 b3
                                  else isP u1 u2 u3 v1 v2 v3 a1 a2 a3 b1 b2 b3 == pier u1 u2 u3 v1 v2 v3 a1 a2 a3 b1 b2 b3
                                else false) =
                                true →
                              (if
                                    (if (erP u1 u2 u3 v1 v2 v3 a1 a2 a3 b1 b2 b3 == (0 : Int)) = true then
                                        erP u1 u2 u3 v1 v2 v3 b1 b2 b3 a1 a2 a3 == (0 : Int)
                                      else false) =
                                      true then
                                  if false = true then
                                    !isP u1 u2 u3 v1 v2 v3 a1 a2 a3 b1 b2 b3 == pier u1 u2 u3 v1 v2 v3 a1 a2 a3 b1 b2 b3
                                  else isP u1 u2 u3 v1 v2 v3 a1 a2 a3 b1 b2 b3 == pier u1 u2 u3 v1 v2 v3 a1 a2 a3 b1 b2 b3
                                else false) =
                                true]
                          (VT.done
                            [(if
                                    (if
                                          (if (erP u1 u2 u3 v1 v2 v3 a1 a2 a3 b1 b2 b3 == (0 : Int)) = true then
                                              erP u1 u2 u3 v1 v2 v3 b1 b2 b3 a1 a2 a3 == (0 : Int)
                                            else false) =
                                            true then
                                        if false = true then
                                          !isP u1 u2 u3 v1 v2 v3 a1 a2 a3 b1 b2 b3 ==
                                              pier u1 u2 u3 v1 v2 v3 a1 a2 a3 b1 b2 b3
                                        else
                                          isP u1 u2 u3 v1 v2 v3 a1 a2 a3 b1 b2 b3 ==
                                            pier u1 u2 u3 v1 v2 v3 a1 a2 a3 b1 b2 b3
                                      else false) =
                                      true then
                                  if false = true then
                                    !isP u1 u2 u3 v1 v2 v3 b1 b2 b3 a1 a2 a3 == pier u1 u2 u3 v1 v2 v3 a1 a2 a3 b1 b2 b3
                                  else isP u1 u2 u3 v1 v2 v3 b1 b2 b3 a1 a2 a3 == pier u1 u2 u3 v1 v2 v3 a1 a2 a3 b1 b2 b3
                                else false) =
                                true])))))))))) (by kernel_rfl) ?_
  simp only [VT.holds, AllT, imp_self, implies_true, and_true, true_and, toNat_succ, toNat_add2, toNat_zero', Int.toNat_natCast, Bool.if_true_left, Bool.if_false_right, Bool.decide_eq_true, Bool.or_eq_true, Bool.or_eq_false_iff, Bool.and_eq_true, Bool.and_eq_false_imp, Bool.not_eq_true', Bool.not_eq_false', Bool.not_not, bne_iff_ne, bne_eq_false_iff_eq, beq_iff_eq, beq_eq_false_iff_ne, decide_eq_true_eq, decide_eq_false_iff_not, ne_eq]
  have es : erP u1 u2 u3 v1 v2 v3 b1 b2 b3 a1 a2 a3 = erP u1 u2 u3 v1 v2 v3 a1 a2 a3 b1 b2 b3 := by
    unfold erP
    rcases nE_cases a1 a2 a3 with h | h <;> rcases nE_cases b1 b2 b3 with h' | h' <;> simp [h, h']
  have tail : ∀ i : Int, i = erP u1 u2 u3 v1 v2 v3 a1 a2 a3 b1 b2 b3 → (¬i = 0 → ((erP u1 u2 u3 v1 v2 v3 a1 a2 a3 b1 b2 b3 = i ∧ erP u1 u2 u3 v1 v2 v3 b1 b2 b3 a1 a2 a3 = i) ∧ isP u1 u2 u3 v1 v2 v3 a1 a2 a3 b1 b2 b3 = false) ∧ isP u1 u2 u3 v1 v2 v3 b1 b2 b3 a1 a2 a3 = false) ∧ (i = 0 → FnC prog 34 [bx u1 u2 u3 v1 v2 v3, nd a1 a2 a3, nd b1 b2 b3] (dB (pier u1 u2 u3 v1 v2 v3 a1 a2 a3 b1 b2 b3)) ∧ ((erP u1 u2 u3 v1 v2 v3 a1 a2 a3 b1 b2 b3 = 0 ∧ erP u1 u2 u3 v1 v2 v3 b1 b2 b3 a1 a2 a3 = 0) ∧ (if false = true then !isP u1 u2 u3 v1 v2 v3 a1 a2 a3 b1 b2 b3 == pier u1 u2 u3 v1 v2 v3 a1 a2 a3 b1 b2 b3 else isP u1 u2 u3 v1 v2 v3 a1 a2 a3 b1 b2 b3 == pier u1 u2 u3 v1 v2 v3 a1 a2 a3 b1 b2 b3) = true) ∧ (if false = true then !isP u1 u2 u3 v1 v2 v3 b1 b2 b3 a1 a2 a3 == pier u1 u2 u3 v1 v2 v3 a1 a2 a3 b1 b2 b3 else isP u1 u2 u3 v1 v2 v3 b1 b2 b3 a1 a2 a3 == pier u1 u2 u3 v1 v2 v3 a1 a2 a3 b1 b2 b3) = true) := by
    intro i hi
    refine ⟨fun hne => ⟨⟨⟨hi.symm, by rw [es, hi]⟩, ?_⟩, ?_⟩, fun h0 => ?_⟩
    · rw [isP, ← hi, decide_eq_false hne, Bool.false_and]
    · rw [isP, es, ← hi, decide_eq_false hne, Bool.false_and]
    · have e0 : erP u1 u2 u3 v1 v2 v3 a1 a2 a3 b1 b2 b3 = 0 := by rw [← hi, h0]
      have c0 : ckB u1 u2 u3 v1 v2 v3 = 0 ∧ nE a1 a2 a3 = 0 ∧ nE b1 b2 b3 = 0 := by
        unfold erP at e0
        split at e0
        · rename_i hx; exact absurd e0 hx
        · rename_i hx
          split at e0
          · rename_i hy; exact absurd e0 hy
          · rename_i hy; exact ⟨Decidable.not_not.1 hx, Decidable.not_not.1 hy, e0⟩
      obtain ⟨mu1, mu2, mu3, mv1, mv2, mv3⟩ := ckB_mB c0.1
      obtain ⟨ma1, ma2, ma3⟩ := nE_mB c0.2.1
      obtain ⟨mb1, mb2, mb3⟩ := nE_mB c0.2.2
      have i1 : isP u1 u2 u3 v1 v2 v3 a1 a2 a3 b1 b2 b3 = pier u1 u2 u3 v1 v2 v3 a1 a2 a3 b1 b2 b3 := by rw [isP, e0]; simp
      have i2 : isP u1 u2 u3 v1 v2 v3 b1 b2 b3 a1 a2 a3 = pier u1 u2 u3 v1 v2 v3 a1 a2 a3 b1 b2 b3 := by rw [isP, es, e0, pier_swap]; simp
      refine ⟨piercesR_c u1 u2 u3 v1 v2 v3 a1 a2 a3 b1 b2 b3 mu1 mu2 mu3 mv1 mv2 mv3 ma1 ma2 ma3 mb1 mb2 mb3, ⟨⟨e0, by rw [es, e0]⟩, ?_⟩, ?_⟩
      · rw [i1]; simp
      · rw [i2]; simp
  refine ⟨awake_c, by simp, fun _ => ⟨pierces_c u1 u2 u3 v1 v2 v3 a1 a2 a3 b1 b2 b3, pierces_c u1 u2 u3 v1 v2 v3 b1 b2 b3 a1 a2 a3, checkBoxR_c u1 u2 u3 v1 v2 v3, fun h => ⟨nodeErr_c a1 a2 a3, ⟨fun ha => ⟨nodeErr_c b1 b2 b3, ?_⟩, fun ha => ?_⟩, tail⟩, fun h => ⟨⟨fun hx => absurd hx h, fun _ => ?_⟩, tail⟩⟩⟩
  · rw [erP, if_neg (fun hx => hx h), if_neg (fun hx => hx ha)]
  · rw [erP, if_neg (fun hx => hx h), if_pos ha]
  · rw [erP, if_pos h]
end Go.Abs
