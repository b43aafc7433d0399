/- Contracts. -/
import Derived.Test.YtcncodgbneppfaaL7
set_option linter.unusedVariables false
set_option linter.unusedSimpArgs false
set_option maxRecDepth 100000
namespace Go.Abs
open Go
/-- What the specification tells. -/
def waysRV (nB : Nat) (B : Nat → Int) (nO : Nat) (O : Nat → Int) (len : Int) : Int :=
  if len % (unitR nB B O (nB + nO) : Int) = 0 then (if (waysRS nB B nO O len : Int) > 1000000 then 0 else (waysRS nB B nO O len : Int)) else 0
def waysRE (nB : Nat) (B : Nat → Int) (nO : Nat) (O : Nat → Int) (len : Int) : Int :=
  if len % (unitR nB B O (nB + nO) : Int) = 0 then (if (waysRS nB B nO O len : Int) > 1000000 then 8 else 0) else 0
abbrev uR (nB : Nat) (B : Nat → Int) (nO : Nat) (O : Nat → Int) : Nat := unitR nB B O (nB + nO)
noncomputable def A17_waysRTop_c (nB : Nat) (B : Nat → Int) (nO : Nat) (O : Nat → Int) (W G L len : Int) : Ann := { orc := [(1, [(1, rUnitR)]), (2, [(2, .pos)]), (4, [(2, .pos)]), (7, [(1, rPartsR)]), (11, [(6, .pos)]), (14, [(14, .pos)])], loops := [(0, { ι := Nat, keep := [6, 7, 9], boxes := [], ts := fun _ i => [(10, dI (i : Int))], rw := fun σ i => [(8, 1, nOf (σ.get 8), [fun q => .val (.int .i64 (wpX (uR nB B nO O) (rLen nB B O) i q : Nat))])], inv := fun _ i => i ≤ nB + nO, mu := fun _ i => nB + nO - i, rd := fun _ σ => (iOf (σ.get 10)).toNat }),
  (2, { ι := Nat, keep := [6, 7, 9, 10], boxes := [], ts := fun _ k => [(11, dI (k : Int))], rw := fun σ k => [(8, 1, nOf (σ.get 8), [fun q => .val (.int .i64 ((if q < k then stepW (unitsOf (uR nB B nO O) (rLen nB B O (iOf (σ.get 10)).toNat)) (wpX (uR nB B nO O) (rLen nB B O) (iOf (σ.get 10)).toNat) q else wpX (uR nB B nO O) (rLen nB B O) (iOf (σ.get 10)).toNat q : Nat)))])], inv := fun σ k => unitsOf (uR nB B nO O) (rLen nB B O (iOf (σ.get 10)).toNat) ≤ k, mu := fun σ k => nOf (σ.get 8) - k, rd := fun _ σ => (iOf (σ.get 11)).toNat })], cuts := [] }
theorem waysRTop_c (nB : Nat) (B : Nat → Int) (nO : Nat) (O : Nat → Int) (W G L len : Int) (hs : sysE nB B nO O W G L = 0) (hl : lenR nB B nO O len = 0) : FnC prog 17 [sys nB B nO O W G L, dI len] (.tup [dI (waysRV nB B nO O len), dI (waysRE nB B nO O len)]) := by
  refine FnC_owed hmix (A17_waysRTop_c nB B nO O W G L len) (V := VT.need
        [FnC prog (61 : Nat)
            [DV.agg
                [DV.lst nB [fun (i : Nat) => DV.val (Value.int IntKind.i64 (B i))],
                  DV.lst nO [fun (i : Nat) => DV.val (Value.int IntKind.i64 (O i))], DV.val (Value.int IntKind.i64 W),
                  DV.val (Value.int IntKind.i64 G), DV.val (Value.int IntKind.i64 L)]]
            (DV.val (Value.int IntKind.i64 (↑(unitR nB B O (nB + nO)) : Int)))]
        (VT.need [(0 : Int) ≤ len ∧ (0 : Int) < (↑(unitR nB B O (nB + nO)) : Int)]
          (VT.ite (len % (↑(unitR nB B O (nB + nO)) : Int) != (0 : Int))
            (VT.done [(0 : Int) = waysRV nB B nO O len, (0 : Int) = waysRE nB B nO O len])
            (VT.need [(0 : Int) ≤ len ∧ (0 : Int) < (↑(unitR nB B O (nB + nO)) : Int) ∧ len ≤ (9223372036854775807 : Int)]
              (VT.need
                [i64In (len / (↑(unitR nB B O (nB + nO)) : Int) + (1 : Int)),
                  (0 : Int) ≤ len / (↑(unitR nB B O (nB + nO)) : Int) + (1 : Int) ∧
                    len / (↑(unitR nB B O (nB + nO)) : Int) + (1 : Int) =
                        len / (↑(unitR nB B O (nB + nO)) : Int) + (1 : Int) ∧
                      len / (↑(unitR nB B O (nB + nO)) : Int) + (1 : Int) ≤ (140737488355328 : Int) ∧
                        prog.types[(3 : Nat)].4 * Int.toNat (len / (↑(unitR nB B O (nB + nO)) : Int) + (1 : Int)) ≤
                          (281474976710656 : Nat)]
                (VT.need
                  [(0 : Int) ≤ (0 : Int) ∧
                      (0 : Int) < (↑(Int.toNat (len / (↑(unitR nB B O (nB + nO)) : Int) + (1 : Int))) : Int),
                    addN (0 : Nat) (Int.toNat (0 : Int)) < Int.toNat (len / (↑(unitR nB B O (nB + nO)) : Int) + (1 : Int))]
                  (VT.need
                    [FnC prog (62 : Nat)
                        [DV.agg
                            [DV.lst nB [fun (i : Nat) => DV.val (Value.int IntKind.i64 (B i))],
                              DV.lst nO [fun (i : Nat) => DV.val (Value.int IntKind.i64 (O i))],
                              DV.val (Value.int IntKind.i64 W), DV.val (Value.int IntKind.i64 G),
                              DV.val (Value.int IntKind.i64 L)]]
                        (DV.lst (nB + nO)
                          [fun (i : Nat) => DV.val (Value.int IntKind.i64 (rLen nB B O i)), fun (i : Nat) =>
                            DV.val (Value.int IntKind.i64 (rCode nB i))])]
                    (VT.loop Nat (fun (a : Nat) => a ≤ nB + nO) (Int.toNat (0 : Int))
                      [(0 : Int) = (↑(Int.toNat (0 : Int)) : Int), (0 : Nat) = (0 : Nat),
                        Int.toNat (len / (↑(unitR nB B O (nB + nO)) : Int) + (1 : Int)) =
                          Int.toNat (len / (↑(unitR nB B O (nB + nO)) : Int) + (1 : Int)),
                        (↑(unitR nB B O (nB + nO)) : Int) = (↑(unitR nB B O (nB + nO)) : Int),
                        len / (↑(unitR nB B O (nB + nO)) : Int) = len / (↑(unitR nB B O (nB + nO)) : Int),
                        nB + nO = nB + nO, ∀ (i : Nat), i < nB + nO → rLen nB B O i = rLen nB B O i,
                        ∀ (i : Nat), i < nB + nO → rCode nB i = rCode nB i,
                        Int.toNat (len / (↑(unitR nB B O (nB + nO)) : Int) + (1 : Int)) =
                          Int.toNat (len / (↑(unitR nB B O (nB + nO)) : Int) + (1 : Int)),
                        ∀ (i : Nat),
                          i < Int.toNat (len / (↑(unitR nB B O (nB + nO)) : Int) + (1 : Int)) →
                            (if decide (i = addN (0 : Nat) (Int.toNat (0 : Int))) = true then (1 : Int) else (0 : Int)) =
                              (↑(wpX (unitR nB B O (nB + nO)) (rLen nB B O) (Int.toNat (0 : Int)) i) : Int)]
                      fun (i : Nat) =>
                      VT.ite (decide ((↑i : Int) < (↑(nB + nO) : Int)))
                        (VT.need
                          [(0 : Int) ≤ (↑i : Int) ∧ (↑i : Int) < (↑(nB + nO) : Int),
                            (0 : Int) ≤ rLen nB B O (Int.toNat (↑i : Int)) ∧
                              (0 : Int) < (↑(unitR nB B O (nB + nO)) : Int) ∧
                                rLen nB B O (Int.toNat (↑i : Int)) ≤ (9223372036854775807 : Int)]
                          (VT.loop Nat
                            (fun (a : Nat) => unitsOf (unitR nB B O (nB + nO)) (rLen nB B O (Int.toNat (↑i : Int))) ≤ a)
                            (Int.toNat (rLen nB B O (Int.toNat (↑i : Int)) / (↑(unitR nB B O (nB + nO)) : Int)))
                            [rLen nB B O (Int.toNat (↑i : Int)) / (↑(unitR nB B O (nB + nO)) : Int) =
                                (↑(Int.toNat (rLen nB B O (Int.toNat (↑i : Int)) / (↑(unitR nB B O (nB + nO)) : Int))) :
                                  Int),
                              (0 : Nat) = (0 : Nat),
                              Int.toNat (len / (↑(unitR nB B O (nB + nO)) : Int) + (1 : Int)) =
                                Int.toNat (len / (↑(unitR nB B O (nB + nO)) : Int) + (1 : Int)),
                              (↑(unitR nB B O (nB + nO)) : Int) = (↑(unitR nB B O (nB + nO)) : Int),
                              len / (↑(unitR nB B O (nB + nO)) : Int) = len / (↑(unitR nB B O (nB + nO)) : Int),
                              nB + nO = nB + nO, ∀ (i : Nat), i < nB + nO → rLen nB B O i = rLen nB B O i,
                              ∀ (i : Nat), i < nB + nO → rCode nB i = rCode nB i, (↑i : Int) = (↑i : Int),
                              Int.toNat (len / (↑(unitR nB B O (nB + nO)) : Int) + (1 : Int)) =
                                Int.toNat (len / (↑(unitR nB B O (nB + nO)) : Int) + (1 : Int)),
                              ∀ (i_1 : Nat),
                                i_1 < Int.toNat (len / (↑(unitR nB B O (nB + nO)) : Int) + (1 : Int)) →
                                  (↑(wpX (unitR nB B O (nB + nO)) (rLen nB B O) i i_1) : Int) =
                                    (↑(if
                                            i_1 <
                                              Int.toNat
                                                (rLen nB B O (Int.toNat (↑i : Int)) /
                                                  (↑(unitR nB B O (nB + nO)) : Int)) then
                                          stepW (unitsOf (unitR nB B O (nB + nO)) (rLen nB B O (Int.toNat (↑i : Int))))
                                            (wpX (unitR nB B O (nB + nO)) (rLen nB B O) (Int.toNat (↑i : Int))) i_1
                                        else wpX (unitR nB B O (nB + nO)) (rLen nB B O) (Int.toNat (↑i : Int)) i_1) :
                                      Int)]
                            fun (i_1 : Nat) =>
                            VT.ite (decide ((↑i_1 : Int) ≤ len / (↑(unitR nB B O (nB + nO)) : Int)))
                              (VT.need
                                [(0 : Int) ≤ (↑i_1 : Int) ∧
                                    (↑i_1 : Int) <
                                      (↑(Int.toNat (len / (↑(unitR nB B O (nB + nO)) : Int) + (1 : Int))) : Int),
                                  addN (0 : Nat) (Int.toNat (↑i_1 : Int)) <
                                    Int.toNat (len / (↑(unitR nB B O (nB + nO)) : Int) + (1 : Int)),
                                  (0 : Int) ≤ (↑i : Int) ∧ (↑i : Int) < (↑(nB + nO) : Int),
                                  (0 : Int) ≤ rLen nB B O (Int.toNat (↑i : Int)) ∧
                                    (0 : Int) < (↑(unitR nB B O (nB + nO)) : Int) ∧
                                      rLen nB B O (Int.toNat (↑i : Int)) ≤ (9223372036854775807 : Int),
                                  i64In
                                    ((↑i_1 : Int) - rLen nB B O (Int.toNat (↑i : Int)) / (↑(unitR nB B O (nB + nO)) : Int)),
                                  (0 : Int) ≤
                                      (↑i_1 : Int) -
                                        rLen nB B O (Int.toNat (↑i : Int)) / (↑(unitR nB B O (nB + nO)) : Int) ∧
                                    (↑i_1 : Int) - rLen nB B O (Int.toNat (↑i : Int)) / (↑(unitR nB B O (nB + nO)) : Int) <
                                      (↑(Int.toNat (len / (↑(unitR nB B O (nB + nO)) : Int) + (1 : Int))) : Int),
                                  addN (0 : Nat)
                                      (Int.toNat
                                        ((↑i_1 : Int) -
                                          rLen nB B O (Int.toNat (↑i : Int)) / (↑(unitR nB B O (nB + nO)) : Int))) <
                                    Int.toNat (len / (↑(unitR nB B O (nB + nO)) : Int) + (1 : Int)),
                                  i64In
                                    ((↑(if addN (0 : Nat) (Int.toNat (↑i_1 : Int)) < i_1 then
                                            stepW (unitsOf (unitR nB B O (nB + nO)) (rLen nB B O (Int.toNat (↑i : Int))))
                                              (wpX (unitR nB B O (nB + nO)) (rLen nB B O) (Int.toNat (↑i : Int)))
                                              (addN (0 : Nat) (Int.toNat (↑i_1 : Int)))
                                          else
                                            wpX (unitR nB B O (nB + nO)) (rLen nB B O) (Int.toNat (↑i : Int))
                                              (addN (0 : Nat) (Int.toNat (↑i_1 : Int)))) :
                                        Int) +
                                      (↑(if
                                              addN (0 : Nat)
                                                  (Int.toNat
                                                    ((↑i_1 : Int) -
                                                      rLen nB B O (Int.toNat (↑i : Int)) /
                                                        (↑(unitR nB B O (nB + nO)) : Int))) <
                                                i_1 then
                                            stepW (unitsOf (unitR nB B O (nB + nO)) (rLen nB B O (Int.toNat (↑i : Int))))
                                              (wpX (unitR nB B O (nB + nO)) (rLen nB B O) (Int.toNat (↑i : Int)))
                                              (addN (0 : Nat)
                                                (Int.toNat
                                                  ((↑i_1 : Int) -
                                                    rLen nB B O (Int.toNat (↑i : Int)) /
                                                      (↑(unitR nB B O (nB + nO)) : Int))))
                                          else
                                            wpX (unitR nB B O (nB + nO)) (rLen nB B O) (Int.toNat (↑i : Int))
                                              (addN (0 : Nat)
                                                (Int.toNat
                                                  ((↑i_1 : Int) -
                                                    rLen nB B O (Int.toNat (↑i : Int)) /
                                                      (↑(unitR nB B O (nB + nO)) : Int))))) :
                                        Int)),
                                  (0 : Int) ≤ (↑i_1 : Int) ∧
                                    (↑i_1 : Int) <
                                      (↑(Int.toNat (len / (↑(unitR nB B O (nB + nO)) : Int) + (1 : Int))) : Int),
                                  addN (0 : Nat) (Int.toNat (↑i_1 : Int)) <
                                    Int.toNat (len / (↑(unitR nB B O (nB + nO)) : Int) + (1 : Int))]
                                (VT.need [i64In ((↑i_1 : Int) + (1 : Int))]
                                  (VT.done
                                    [(↑i_1 : Int) + (1 : Int) = (↑(Int.toNat ((↑i_1 : Int) + (1 : Int))) : Int),
                                      (0 : Nat) = (0 : Nat),
                                      Int.toNat (len / (↑(unitR nB B O (nB + nO)) : Int) + (1 : Int)) =
                                        Int.toNat (len / (↑(unitR nB B O (nB + nO)) : Int) + (1 : Int)),
                                      (↑(unitR nB B O (nB + nO)) : Int) = (↑(unitR nB B O (nB + nO)) : Int),
                                      len / (↑(unitR nB B O (nB + nO)) : Int) = len / (↑(unitR nB B O (nB + nO)) : Int),
                                      nB + nO = nB + nO, ∀ (i : Nat), i < nB + nO → rLen nB B O i = rLen nB B O i,
                                      ∀ (i : Nat), i < nB + nO → rCode nB i = rCode nB i, (↑i : Int) = (↑i : Int),
                                      Int.toNat (len / (↑(unitR nB B O (nB + nO)) : Int) + (1 : Int)) =
                                        Int.toNat (len / (↑(unitR nB B O (nB + nO)) : Int) + (1 : Int)),
                                      ∀ (i_2 : Nat),
                                        i_2 < Int.toNat (len / (↑(unitR nB B O (nB + nO)) : Int) + (1 : Int)) →
                                          (if decide (i_2 = addN (0 : Nat) (Int.toNat (↑i_1 : Int))) = true then
                                              mins
                                                ((↑(if addN (0 : Nat) (Int.toNat (↑i_1 : Int)) < i_1 then
                                                        stepW
                                                          (unitsOf (unitR nB B O (nB + nO))
                                                            (rLen nB B O (Int.toNat (↑i : Int))))
                                                          (wpX (unitR nB B O (nB + nO)) (rLen nB B O)
                                                            (Int.toNat (↑i : Int)))
                                                          (addN (0 : Nat) (Int.toNat (↑i_1 : Int)))
                                                      else
                                                        wpX (unitR nB B O (nB + nO)) (rLen nB B O) (Int.toNat (↑i : Int))
                                                          (addN (0 : Nat) (Int.toNat (↑i_1 : Int)))) :
                                                    Int) +
                                                  (↑(if
                                                          addN (0 : Nat)
                                                              (Int.toNat
                                                                ((↑i_1 : Int) -
                                                                  rLen nB B O (Int.toNat (↑i : Int)) /
                                                                    (↑(unitR nB B O (nB + nO)) : Int))) <
                                                            i_1 then
                                                        stepW
                                                          (unitsOf (unitR nB B O (nB + nO))
                                                            (rLen nB B O (Int.toNat (↑i : Int))))
                                                          (wpX (unitR nB B O (nB + nO)) (rLen nB B O)
                                                            (Int.toNat (↑i : Int)))
                                                          (addN (0 : Nat)
                                                            (Int.toNat
                                                              ((↑i_1 : Int) -
                                                                rLen nB B O (Int.toNat (↑i : Int)) /
                                                                  (↑(unitR nB B O (nB + nO)) : Int))))
                                                      else
                                                        wpX (unitR nB B O (nB + nO)) (rLen nB B O) (Int.toNat (↑i : Int))
                                                          (addN (0 : Nat)
                                                            (Int.toNat
                                                              ((↑i_1 : Int) -
                                                                rLen nB B O (Int.toNat (↑i : Int)) /
                                                                  (↑(unitR nB B O (nB + nO)) : Int))))) :
                                                    Int))
                                                [(1000001 : Int)]
                                            else
                                              (↑(if i_2 < i_1 then
                                                    stepW
                                                      (unitsOf (unitR nB B O (nB + nO))
                                                        (rLen nB B O (Int.toNat (↑i : Int))))
                                                      (wpX (unitR nB B O (nB + nO)) (rLen nB B O) (Int.toNat (↑i : Int)))
                                                      i_2
                                                  else
                                                    wpX (unitR nB B O (nB + nO)) (rLen nB B O) (Int.toNat (↑i : Int)) i_2) :
                                                Int)) =
                                            (↑(if i_2 < Int.toNat ((↑i_1 : Int) + (1 : Int)) then
                                                  stepW
                                                    (unitsOf (unitR nB B O (nB + nO)) (rLen nB B O (Int.toNat (↑i : Int))))
                                                    (wpX (unitR nB B O (nB + nO)) (rLen nB B O) (Int.toNat (↑i : Int))) i_2
                                                else
                                                  wpX (unitR nB B O (nB + nO)) (rLen nB B O) (Int.toNat (↑i : Int)) i_2) :
                                              Int),
                                      unitsOf (unitR nB B O (nB + nO)) (rLen nB B O (Int.toNat (↑i : Int))) ≤
                                        Int.toNat ((↑i_1 : Int) + (1 : Int)),
                                      Int.toNat (len / (↑(unitR nB B O (nB + nO)) : Int) + (1 : Int)) -
                                          Int.toNat ((↑i_1 : Int) + (1 : Int)) <
                                        Int.toNat (len / (↑(unitR nB B O (nB + nO)) : Int) + (1 : Int)) - i_1])))
                              (VT.need [i64In ((↑i : Int) + (1 : Int))]
                                (VT.done
                                  [(↑i : Int) + (1 : Int) = (↑(Int.toNat ((↑i : Int) + (1 : Int))) : Int),
                                    (0 : Nat) = (0 : Nat),
                                    Int.toNat (len / (↑(unitR nB B O (nB + nO)) : Int) + (1 : Int)) =
                                      Int.toNat (len / (↑(unitR nB B O (nB + nO)) : Int) + (1 : Int)),
                                    (↑(unitR nB B O (nB + nO)) : Int) = (↑(unitR nB B O (nB + nO)) : Int),
                                    len / (↑(unitR nB B O (nB + nO)) : Int) = len / (↑(unitR nB B O (nB + nO)) : Int),
                                    nB + nO = nB + nO, ∀ (i : Nat), i < nB + nO → rLen nB B O i = rLen nB B O i,
                                    ∀ (i : Nat), i < nB + nO → rCode nB i = rCode nB i,
                                    Int.toNat (len / (↑(unitR nB B O (nB + nO)) : Int) + (1 : Int)) =
                                      Int.toNat (len / (↑(unitR nB B O (nB + nO)) : Int) + (1 : Int)),
                                    ∀ (i_2 : Nat),
                                      i_2 < Int.toNat (len / (↑(unitR nB B O (nB + nO)) : Int) + (1 : Int)) →
                                        (↑(if i_2 < i_1 then
                                                stepW
                                                  (unitsOf (unitR nB B O (nB + nO)) (rLen nB B O (Int.toNat (↑i : Int))))
                                                  (wpX (unitR nB B O (nB + nO)) (rLen nB B O) (Int.toNat (↑i : Int))) i_2
                                              else wpX (unitR nB B O (nB + nO)) (rLen nB B O) (Int.toNat (↑i : Int)) i_2) :
                                            Int) =
                                          (↑(wpX (unitR nB B O (nB + nO)) (rLen nB B O) (Int.toNat ((↑i : Int) + (1 : Int)))
                                                i_2) :
                                            Int),
                                    Int.toNat ((↑i : Int) + (1 : Int)) ≤ nB + nO,
                                    nB + nO - Int.toNat ((↑i : Int) + (1 : Int)) < nB + nO - i]))))
                        (VT.need
                          [(0 : Int) ≤ len / (↑(unitR nB B O (nB + nO)) : Int) ∧
                              len / (↑(unitR nB B O (nB + nO)) : Int) <
                                (↑(Int.toNat (len / (↑(unitR nB B O (nB + nO)) : Int) + (1 : Int))) : Int),
                            addN (0 : Nat) (Int.toNat (len / (↑(unitR nB B O (nB + nO)) : Int))) <
                              Int.toNat (len / (↑(unitR nB B O (nB + nO)) : Int) + (1 : Int))]
                          (VT.ite
                            (decide
                              ((↑(wpX (unitR nB B O (nB + nO)) (rLen nB B O) i
                                      (addN (0 : Nat) (Int.toNat (len / (↑(unitR nB B O (nB + nO)) : Int))))) :
                                  Int) >
                                (1000000 : Int)))
                            (VT.done [(0 : Int) = waysRV nB B nO O len, (8 : Int) = waysRE nB B nO O len])
                            (VT.need
                              [(0 : Int) ≤ len / (↑(unitR nB B O (nB + nO)) : Int) ∧
                                  len / (↑(unitR nB B O (nB + nO)) : Int) <
                                    (↑(Int.toNat (len / (↑(unitR nB B O (nB + nO)) : Int) + (1 : Int))) : Int),
                                addN (0 : Nat) (Int.toNat (len / (↑(unitR nB B O (nB + nO)) : Int))) <
                                  Int.toNat (len / (↑(unitR nB B O (nB + nO)) : Int) + (1 : Int))]
                              (VT.done
                                [(↑(wpX (unitR nB B O (nB + nO)) (rLen nB B O) i
                                          (addN (0 : Nat) (Int.toNat (len / (↑(unitR nB B O (nB + nO)) : Int))))) :
                                      Int) =
                                    waysRV nB B nO O len,
                                  (0 : Int) = waysRE nB B nO O len])))))))))))) (by kernel_rfl) ?_
  simp only [VT.holds, AllT, imp_self, implies_true, and_true, true_and, toNat_succ, toNat_add2, toNat_zero', Int.toNat_natCast, Bool.if_true_left, Bool.if_false_right, Bool.decide_eq_true, Bool.or_eq_true, Bool.or_eq_false_iff, Bool.and_eq_true, Bool.and_eq_false_imp, Bool.not_eq_true', Bool.not_eq_false', Bool.not_not, bne_iff_ne, bne_eq_false_iff_eq, beq_iff_eq, beq_eq_false_iff_ne, decide_eq_true_eq, decide_eq_false_iff_not, ne_eq]
  obtain ⟨s1, s2, s3, sB, sO, _, _⟩ := sys_ok hs
  have hu := unitR_bd s1 sB sO
  have hlen : 0 ≤ len ∧ len ≤ 4000 * (unitR nB B O (nB + nO) : Int) := by
    unfold lenR at hl
    split at hl
    · cases hl
    · split at hl
      · cases hl
      · omega
  obtain ⟨q0, q1⟩ := quo_bd hu.1 hlen.1 hlen.2
  have hmp := fun {i} (hi : i < nB + nO) => unitsR_pos sB sO hi
  have huc := unitR_c nB B nO O W G L s2 s3 sB sO
  have hpc := partsR_c nB B nO O W G L s2 s3
  have hby : prog.types[3].bytes = 8 := by kernel_rfl
  rw [hby]
  have hS : waysRS nB B nO O len = wpX (unitR nB B O (nB + nO)) (rLen nB B O) (nB + nO) (len / (unitR nB B O (nB + nO) : Int)).toNat := rfl
  simp only [waysRV, waysRE]
  simp only [hS]
  have hle : ∀ i q, wpX (unitR nB B O (nB + nO)) (rLen nB B O) i q ≤ 1000001 := fun i q => waysL_le _ _
  generalize unitR nB B O (nB + nO) = u at *
  generalize hQ : len / (u : Int) = Q at *
  refine ⟨huc, ⟨hlen.1, by omega⟩, fun hr => by rw [if_neg hr, if_neg hr]; exact ⟨rfl, rfl⟩, fun hr => ?_⟩
  rw [if_pos hr, if_pos hr]
  refine ⟨⟨hlen.1, by omega, by omega⟩, ⟨by unfold i64In; omega, by omega, by omega, by omega⟩, ⟨⟨by omega, by omega⟩, by simp [addN]; omega⟩, hpc, ⟨rfl, fun q hq => ?_⟩, Nat.zero_le _, fun i hi => ⟨fun hlt => ?_, fun hge => ?_⟩⟩
  · rw [addN_zero]
    show _ = (((if q = 0 then 1 else 0 : Nat) : Nat) : Int)
    split <;> rfl
  · have hi' : i < nB + nO := by omega
    have hx := rLen_bd sB sO hi'
    have m1 := hmp hi'
    have e : rLen nB B O i / (u : Int) = (unitsOf u (rLen nB B O i) : Int) := by
      unfold unitsOf
      have := Int.ediv_nonneg (a := rLen nB B O i) (b := (u : Int)) (by omega) (by omega)
      omega
    have hs : wpX u (rLen nB B O) (i + 1) = stepW (unitsOf u (rLen nB B O i)) (wpX u (rLen nB B O) i) := by
      rw [wpX, range_snoc, waysL_snoc]; rfl
    simp only [e, Int.toNat_sub, addN_zero, hs, Int.toNat_natCast]
    have hW := hle i
    generalize unitsOf u (rLen nB B O i) = m at *
    generalize wpX u (rLen nB B O) i = V at *
    have hSl := stepW_le (m := m) hW
    refine ⟨⟨⟨by omega, by omega⟩, by omega, by omega, by omega⟩, ⟨trivial, fun q hq => ?_⟩, Nat.le_refl _, fun k hk => ⟨fun hk2 => ?_, fun hk2 => ?_⟩⟩
    · split
      · rw [stepW_lt (by omega)]
      · rfl
    · have lt : k - m < k := by omega
      simp only [if_pos lt, Nat.lt_irrefl, if_false, if_true]
      have a1 := hW k
      have a2 := hSl (k - m)
      refine ⟨⟨⟨by omega, by omega⟩, by omega, ⟨by omega, by omega⟩, ⟨by omega, by omega, by omega⟩, by unfold i64In; omega, ⟨by omega, by omega⟩, by omega, by unfold i64In; omega, ⟨by omega, by omega⟩, by omega⟩, by unfold i64In; omega, rfl, fun q hq => ?_, by omega, by omega⟩
      by_cases e2 : q = k
      · rw [if_pos e2, if_pos (by omega), e2, stepW_ge m1 hk]
        simp only [mins]
        split <;> omega
      · rw [if_neg e2]
        by_cases e3 : q < k
        · rw [if_pos e3, if_pos (by omega)]
        · rw [if_neg e3, if_neg (by omega)]
    · refine ⟨by unfold i64In; omega, rfl, fun q hq => ?_, by omega, by omega⟩
      rw [if_pos (by omega)]
  · rw [show i = nB + nO by omega]
    rw [addN_zero]
    refine ⟨⟨⟨by omega, by omega⟩, by omega⟩, fun hw => ?_, fun hw => ?_⟩
    · rw [if_pos hw, if_pos hw]; exact ⟨rfl, rfl⟩
    · rw [if_neg hw, if_neg hw]; exact ⟨⟨⟨by omega, by omega⟩, by omega⟩, rfl, rfl⟩
noncomputable def A21_tableR_c (nB : Nat) (B : Nat → Int) (nO : Nat) (O : Nat → Int) (W G L len : Int) : Ann := { orc := [(2, [(1, rUnitR)]), (3, [(1, rPartsR)]), (11, [(6, .pos)])], loops := [(0, { ι := Nat, keep := [1, 6, 7], boxes := [], ts := fun _ k => [(8, dI (k : Int))], rw := fun _ k => [(5, 1, k, [fun q => .val (.int .i64 (tabRS nB B nO O q))])], inv := fun _ k => 1 ≤ k ∧ (k : Int) ≤ len / (uR nB B nO O : Int) + 1, mu := fun _ k => (len / (uR nB B nO O : Int) + 1 - (k : Int)).toNat, rd := fun _ σ => (iOf (σ.get 8)).toNat }),
  (2, { ι := Nat, keep := [1, 6, 7, 8], boxes := [], ts := fun σ i => [(10, dI (i : Int)), (9, dI (bestL (plX (uR nB B nO O) (rLen nB B O) (rCode nB) i) (tabRS nB B nO O) (iOf (σ.get 8)).toNat))], rw := fun σ _ => [(5, 1, (iOf (σ.get 8)).toNat, [fun q => .val (.int .i64 (tabRS nB B nO O q))])], inv := fun _ i => i ≤ nB + nO, mu := fun _ i => nB + nO - i, rd := fun _ σ => (iOf (σ.get 10)).toNat })], cuts := [] }
theorem tableR_c (nB : Nat) (B : Nat → Int) (nO : Nat) (O : Nat → Int) (W G L len : Int) (hs : sysE nB B nO O W G L = 0) (hl : lenR nB B nO O len = 0) : FnC prog 21 [sys nB B nO O W G L, dI len] (.lst (len / (uR nB B nO O : Int) + 1).toNat [fun k => .val (.int .i64 (tabRS nB B nO O k))]) := by
  refine FnC_owed hmix (A21_tableR_c nB B nO O W G L len) (V := VT.need
        [FnC prog (61 : Nat)
            [DV.agg
                [DV.lst nB [fun (i : Nat) => DV.val (Value.int IntKind.i64 (B i))],
                  DV.lst nO [fun (i : Nat) => DV.val (Value.int IntKind.i64 (O i))], DV.val (Value.int IntKind.i64 W),
                  DV.val (Value.int IntKind.i64 G), DV.val (Value.int IntKind.i64 L)]]
            (DV.val (Value.int IntKind.i64 (↑(unitR nB B O (nB + nO)) : Int)))]
        (VT.need
          [FnC prog (62 : Nat)
              [DV.agg
                  [DV.lst nB [fun (i : Nat) => DV.val (Value.int IntKind.i64 (B i))],
                    DV.lst nO [fun (i : Nat) => DV.val (Value.int IntKind.i64 (O i))], DV.val (Value.int IntKind.i64 W),
                    DV.val (Value.int IntKind.i64 G), DV.val (Value.int IntKind.i64 L)]]
              (DV.lst (nB + nO)
                [fun (i : Nat) => DV.val (Value.int IntKind.i64 (rLen nB B O i)), fun (i : Nat) =>
                  DV.val (Value.int IntKind.i64 (rCode nB i))])]
          (VT.loop Nat (fun (a : Nat) => (1 : Nat) ≤ a ∧ (↑a : Int) ≤ len / (↑(unitR nB B O (nB + nO)) : Int) + (1 : Int))
            (Int.toNat (1 : Int))
            [(1 : Int) = (↑(Int.toNat (1 : Int)) : Int), (0 : Nat) = (0 : Nat), (1 : Nat) = Int.toNat (1 : Int), len = len,
              (↑(unitR nB B O (nB + nO)) : Int) = (↑(unitR nB B O (nB + nO)) : Int), nB + nO = nB + nO,
              ∀ (i : Nat), i < nB + nO → rLen nB B O i = rLen nB B O i, ∀ (i : Nat), i < nB + nO → rCode nB i = rCode nB i,
              (1 : Nat) = Int.toNat (1 : Int), ∀ (i : Nat), i < Int.toNat (1 : Int) → (0 : Int) = tabRS nB B nO O i]
            fun (i : Nat) =>
            VT.need [i64In ((↑i : Int) * (↑(unitR nB B O (nB + nO)) : Int))]
              (VT.ite (decide ((↑i : Int) * (↑(unitR nB B O (nB + nO)) : Int) ≤ len))
                (VT.loop Nat (fun (a : Nat) => a ≤ nB + nO) (Int.toNat (0 : Int))
                  [(0 : Int) = (↑(Int.toNat (0 : Int)) : Int),
                    (-1 : Int) =
                      bestL (plX (unitR nB B O (nB + nO)) (rLen nB B O) (rCode nB) (Int.toNat (0 : Int))) (tabRS nB B nO O)
                        (Int.toNat (↑i : Int)),
                    (0 : Nat) = (0 : Nat), i = Int.toNat (↑i : Int), len = len,
                    (↑(unitR nB B O (nB + nO)) : Int) = (↑(unitR nB B O (nB + nO)) : Int), nB + nO = nB + nO,
                    ∀ (i : Nat), i < nB + nO → rLen nB B O i = rLen nB B O i,
                    ∀ (i : Nat), i < nB + nO → rCode nB i = rCode nB i, (↑i : Int) = (↑i : Int), i = Int.toNat (↑i : Int),
                    ∀ (i_1 : Nat), i_1 < Int.toNat (↑i : Int) → tabRS nB B nO O i_1 = tabRS nB B nO O i_1]
                  fun (i_1 : Nat) =>
                  VT.ite (decide ((↑i_1 : Int) < (↑(nB + nO) : Int)))
                    (VT.need
                      [(0 : Int) ≤ (↑i_1 : Int) ∧ (↑i_1 : Int) < (↑(nB + nO) : Int),
                        (0 : Int) ≤ rLen nB B O (Int.toNat (↑i_1 : Int)) ∧
                          (0 : Int) < (↑(unitR nB B O (nB + nO)) : Int) ∧
                            rLen nB B O (Int.toNat (↑i_1 : Int)) ≤ (9223372036854775807 : Int)]
                      (VT.need
                        [decide (rLen nB B O (Int.toNat (↑i_1 : Int)) / (↑(unitR nB B O (nB + nO)) : Int) ≤ (↑i : Int)) =
                              true →
                            decide (rLen nB B O (Int.toNat (↑i_1 : Int)) / (↑(unitR nB B O (nB + nO)) : Int) ≤ (↑i : Int)) =
                              true,
                          decide (rLen nB B O (Int.toNat (↑i_1 : Int)) / (↑(unitR nB B O (nB + nO)) : Int) ≤ (↑i : Int)) =
                              true →
                            decide (rLen nB B O (Int.toNat (↑i_1 : Int)) / (↑(unitR nB B O (nB + nO)) : Int) ≤ (↑i : Int)) =
                              true,
                          decide (rLen nB B O (Int.toNat (↑i_1 : Int)) / (↑(unitR nB B O (nB + nO)) : Int) ≤ (↑i : Int)) =
                              true →
                            i64In ((↑i : Int) - rLen nB B O (Int.toNat (↑i_1 : Int)) / (↑(unitR nB B O (nB + nO)) : Int)),
                          decide (rLen nB B O (Int.toNat (↑i_1 : Int)) / (↑(unitR nB B O (nB + nO)) : Int) ≤ (↑i : Int)) =
                              true →
                            decide (rLen nB B O (Int.toNat (↑i_1 : Int)) / (↑(unitR nB B O (nB + nO)) : Int) ≤ (↑i : Int)) =
                              true,
                          decide (rLen nB B O (Int.toNat (↑i_1 : Int)) / (↑(unitR nB B O (nB + nO)) : Int) ≤ (↑i : Int)) =
                              true →
                            decide (rLen nB B O (Int.toNat (↑i_1 : Int)) / (↑(unitR nB B O (nB + nO)) : Int) ≤ (↑i : Int)) =
                              true,
                          decide (rLen nB B O (Int.toNat (↑i_1 : Int)) / (↑(unitR nB B O (nB + nO)) : Int) ≤ (↑i : Int)) =
                              true →
                            (0 : Int) ≤
                                (↑i : Int) - rLen nB B O (Int.toNat (↑i_1 : Int)) / (↑(unitR nB B O (nB + nO)) : Int) ∧
                              (↑i : Int) - rLen nB B O (Int.toNat (↑i_1 : Int)) / (↑(unitR nB B O (nB + nO)) : Int) <
                                (↑(Int.toNat (↑i : Int)) : Int),
                          decide (rLen nB B O (Int.toNat (↑i_1 : Int)) / (↑(unitR nB B O (nB + nO)) : Int) ≤ (↑i : Int)) =
                              true →
                            decide (rLen nB B O (Int.toNat (↑i_1 : Int)) / (↑(unitR nB B O (nB + nO)) : Int) ≤ (↑i : Int)) =
                              true,
                          decide (rLen nB B O (Int.toNat (↑i_1 : Int)) / (↑(unitR nB B O (nB + nO)) : Int) ≤ (↑i : Int)) =
                              true →
                            addN (0 : Nat)
                                (Int.toNat
                                  ((↑i : Int) - rLen nB B O (Int.toNat (↑i_1 : Int)) / (↑(unitR nB B O (nB + nO)) : Int))) <
                              Int.toNat (↑i : Int),
                          decide (rLen nB B O (Int.toNat (↑i_1 : Int)) / (↑(unitR nB B O (nB + nO)) : Int) ≤ (↑i : Int)) =
                              true →
                            decide (rLen nB B O (Int.toNat (↑i_1 : Int)) / (↑(unitR nB B O (nB + nO)) : Int) ≤ (↑i : Int)) =
                              true,
                          decide (rLen nB B O (Int.toNat (↑i_1 : Int)) / (↑(unitR nB B O (nB + nO)) : Int) ≤ (↑i : Int)) =
                              true →
                            decide (rLen nB B O (Int.toNat (↑i_1 : Int)) / (↑(unitR nB B O (nB + nO)) : Int) ≤ (↑i : Int)) =
                              true,
                          (if
                                  decide
                                      (rLen nB B O (Int.toNat (↑i_1 : Int)) / (↑(unitR nB B O (nB + nO)) : Int) ≤
                                        (↑i : Int)) =
                                    true then
                                decide
                                  (tabRS nB B nO O
                                      (addN (0 : Nat)
                                        (Int.toNat
                                          ((↑i : Int) -
                                            rLen nB B O (Int.toNat (↑i_1 : Int)) / (↑(unitR nB B O (nB + nO)) : Int)))) ≥
                                    (0 : Int))
                              else false) =
                              true →
                            (if
                                  decide
                                      (rLen nB B O (Int.toNat (↑i_1 : Int)) / (↑(unitR nB B O (nB + nO)) : Int) ≤
                                        (↑i : Int)) =
                                    true then
                                decide
                                  (tabRS nB B nO O
                                      (addN (0 : Nat)
                                        (Int.toNat
                                          ((↑i : Int) -
                                            rLen nB B O (Int.toNat (↑i_1 : Int)) / (↑(unitR nB B O (nB + nO)) : Int)))) ≥
                                    (0 : Int))
                              else false) =
                              true,
                          (if
                                  decide
                                      (rLen nB B O (Int.toNat (↑i_1 : Int)) / (↑(unitR nB B O (nB + nO)) : Int) ≤
                                        (↑i : Int)) =
                                    true then
                                decide
                                  (tabRS nB B nO O
                                      (addN (0 : Nat)
                                        (Int.toNat
                                          ((↑i : Int) -
                                            rLen nB B O (Int.toNat (↑i_1 : Int)) / (↑(unitR nB B O (nB + nO)) : Int)))) ≥
                                    (0 : Int))
                              else false) =
                              true →
                            (if
                                  decide
                                      (rLen nB B O (Int.toNat (↑i_1 : Int)) / (↑(unitR nB B O (nB + nO)) : Int) ≤
                                        (↑i : Int)) =
                                    true then
                                decide
                                  (tabRS nB B nO O
                                      (addN (0 : Nat)
                                        (Int.toNat
                                          ((↑i : Int) -
                                            rLen nB B O (Int.toNat (↑i_1 : Int)) / (↑(unitR nB B O (nB + nO)) : Int)))) ≥
                                    (0 : Int))
                              else false) =
                              true,
                          ((if
                                    decide
                                        (rLen nB B O (Int.toNat (↑i_1 : Int)) / (↑(unitR nB B O (nB + nO)) : Int) ≤
                                          (↑i : Int)) =
                                      true then
                                  decide
                                    (tabRS nB B nO O
                                        (addN (0 : Nat)
                                          (Int.toNat
                                            ((↑i : Int) -
                                              rLen nB B O (Int.toNat (↑i_1 : Int)) / (↑(unitR nB B O (nB + nO)) : Int)))) ≥
                                      (0 : Int))
                                else false) &&
                                !decide
                                    (bestL (plX (unitR nB B O (nB + nO)) (rLen nB B O) (rCode nB) i_1) (tabRS nB B nO O)
                                        (Int.toNat (↑i : Int)) <
                                      (0 : Int))) =
                              true →
                            ((if
                                    decide
                                        (rLen nB B O (Int.toNat (↑i_1 : Int)) / (↑(unitR nB B O (nB + nO)) : Int) ≤
                                          (↑i : Int)) =
                                      true then
                                  decide
                                    (tabRS nB B nO O
                                        (addN (0 : Nat)
                                          (Int.toNat
                                            ((↑i : Int) -
                                              rLen nB B O (Int.toNat (↑i_1 : Int)) / (↑(unitR nB B O (nB + nO)) : Int)))) ≥
                                      (0 : Int))
                                else false) &&
                                !decide
                                    (bestL (plX (unitR nB B O (nB + nO)) (rLen nB B O) (rCode nB) i_1) (tabRS nB B nO O)
                                        (Int.toNat (↑i : Int)) <
                                      (0 : Int))) =
                              true,
                          ((if
                                    decide
                                        (rLen nB B O (Int.toNat (↑i_1 : Int)) / (↑(unitR nB B O (nB + nO)) : Int) ≤
                                          (↑i : Int)) =
                                      true then
                                  decide
                                    (tabRS nB B nO O
                                        (addN (0 : Nat)
                                          (Int.toNat
                                            ((↑i : Int) -
                                              rLen nB B O (Int.toNat (↑i_1 : Int)) / (↑(unitR nB B O (nB + nO)) : Int)))) ≥
                                      (0 : Int))
                                else false) &&
                                !decide
                                    (bestL (plX (unitR nB B O (nB + nO)) (rLen nB B O) (rCode nB) i_1) (tabRS nB B nO O)
                                        (Int.toNat (↑i : Int)) <
                                      (0 : Int))) =
                              true →
                            ((if
                                    decide
                                        (rLen nB B O (Int.toNat (↑i_1 : Int)) / (↑(unitR nB B O (nB + nO)) : Int) ≤
                                          (↑i : Int)) =
                                      true then
                                  decide
                                    (tabRS nB B nO O
                                        (addN (0 : Nat)
                                          (Int.toNat
                                            ((↑i : Int) -
                                              rLen nB B O (Int.toNat (↑i_1 : Int)) / (↑(unitR nB B O (nB + nO)) : Int)))) ≥
                                      (0 : Int))
                                else false) &&
                                !decide
                                    (bestL (plX (unitR nB B O (nB + nO)) (rLen nB B O) (rCode nB) i_1) (tabRS nB B nO O)
                                        (Int.toNat (↑i : Int)) <
                                      (0 : Int))) =
                              true,
                          ((if
                                    decide
                                        (rLen nB B O (Int.toNat (↑i_1 : Int)) / (↑(unitR nB B O (nB + nO)) : Int) ≤
                                          (↑i : Int)) =
                                      true then
                                  decide
                                    (tabRS nB B nO O
                                        (addN (0 : Nat)
                                          (Int.toNat
                                            ((↑i : Int) -
                                              rLen nB B O (Int.toNat (↑i_1 : Int)) / (↑(unitR nB B O (nB + nO)) : Int)))) ≥
                                      (0 : Int))
                                else false) &&
                                !decide
                                    (bestL (plX (unitR nB B O (nB + nO)) (rLen nB B O) (rCode nB) i_1) (tabRS nB B nO O)
                                        (Int.toNat (↑i : Int)) <
                                      (0 : Int))) =
                              true →
                            i64In ((↑i : Int) - rLen nB B O (Int.toNat (↑i_1 : Int)) / (↑(unitR nB B O (nB + nO)) : Int)),
                          ((if
                                    decide
                                        (rLen nB B O (Int.toNat (↑i_1 : Int)) / (↑(unitR nB B O (nB + nO)) : Int) ≤
                                          (↑i : Int)) =
                                      true then
                                  decide
                                    (tabRS nB B nO O
                                        (addN (0 : Nat)
                                          (Int.toNat
                                            ((↑i : Int) -
                                              rLen nB B O (Int.toNat (↑i_1 : Int)) / (↑(unitR nB B O (nB + nO)) : Int)))) ≥
                                      (0 : Int))
                                else false) &&
                                !decide
                                    (bestL (plX (unitR nB B O (nB + nO)) (rLen nB B O) (rCode nB) i_1) (tabRS nB B nO O)
                                        (Int.toNat (↑i : Int)) <
                                      (0 : Int))) =
                              true →
                            ((if
                                    decide
                                        (rLen nB B O (Int.toNat (↑i_1 : Int)) / (↑(unitR nB B O (nB + nO)) : Int) ≤
                                          (↑i : Int)) =
                                      true then
                                  decide
                                    (tabRS nB B nO O
                                        (addN (0 : Nat)
                                          (Int.toNat
                                            ((↑i : Int) -
                                              rLen nB B O (Int.toNat (↑i_1 : Int)) / (↑(unitR nB B O (nB + nO)) : Int)))) ≥
                                      (0 : Int))
                                else false) &&
                                !decide
                                    (bestL (plX (unitR nB B O (nB + nO)) (rLen nB B O) (rCode nB) i_1) (tabRS nB B nO O)
                                        (Int.toNat (↑i : Int)) <
                                      (0 : Int))) =
                              true,
                          ((if
                                    decide
                                        (rLen nB B O (Int.toNat (↑i_1 : Int)) / (↑(unitR nB B O (nB + nO)) : Int) ≤
                                          (↑i : Int)) =
                                      true then
                                  decide
                                    (tabRS nB B nO O
                                        (addN (0 : Nat)
                                          (Int.toNat
                                            ((↑i : Int) -
                                              rLen nB B O (Int.toNat (↑i_1 : Int)) / (↑(unitR nB B O (nB + nO)) : Int)))) ≥
                                      (0 : Int))
                                else false) &&
                                !decide
                                    (bestL (plX (unitR nB B O (nB + nO)) (rLen nB B O) (rCode nB) i_1) (tabRS nB B nO O)
                                        (Int.toNat (↑i : Int)) <
                                      (0 : Int))) =
                              true →
                            ((if
                                    decide
                                        (rLen nB B O (Int.toNat (↑i_1 : Int)) / (↑(unitR nB B O (nB + nO)) : Int) ≤
                                          (↑i : Int)) =
                                      true then
                                  decide
                                    (tabRS nB B nO O
                                        (addN (0 : Nat)
                                          (Int.toNat
                                            ((↑i : Int) -
                                              rLen nB B O (Int.toNat (↑i_1 : Int)) / (↑(unitR nB B O (nB + nO)) : Int)))) ≥
                                      (0 : Int))
                                else false) &&
                                !decide
                                    (bestL (plX (unitR nB B O (nB + nO)) (rLen nB B O) (rCode nB) i_1) (tabRS nB B nO O)
                                        (Int.toNat (↑i : Int)) <
                                      (0 : Int))) =
                              true,
                          ((if
                                    decide
                                        (rLen nB B O (Int.toNat (↑i_1 : Int)) / (↑(unitR nB B O (nB + nO)) : Int) ≤
                                          (↑i : Int)) =
                                      true then
                                  decide
                                    (tabRS nB B nO O
                                        (addN (0 : Nat)
                                          (Int.toNat
                                            ((↑i : Int) -
                                              rLen nB B O (Int.toNat (↑i_1 : Int)) / (↑(unitR nB B O (nB + nO)) : Int)))) ≥
                                      (0 : Int))
                                else false) &&
                                !decide
                                    (bestL (plX (unitR nB B O (nB + nO)) (rLen nB B O) (rCode nB) i_1) (tabRS nB B nO O)
                                        (Int.toNat (↑i : Int)) <
                                      (0 : Int))) =
                              true →
                            (0 : Int) ≤
                                (↑i : Int) - rLen nB B O (Int.toNat (↑i_1 : Int)) / (↑(unitR nB B O (nB + nO)) : Int) ∧
                              (↑i : Int) - rLen nB B O (Int.toNat (↑i_1 : Int)) / (↑(unitR nB B O (nB + nO)) : Int) <
                                (↑(Int.toNat (↑i : Int)) : Int),
                          ((if
                                    decide
                                        (rLen nB B O (Int.toNat (↑i_1 : Int)) / (↑(unitR nB B O (nB + nO)) : Int) ≤
                                          (↑i : Int)) =
                                      true then
                                  decide
                                    (tabRS nB B nO O
                                        (addN (0 : Nat)
                                          (Int.toNat
                                            ((↑i : Int) -
                                              rLen nB B O (Int.toNat (↑i_1 : Int)) / (↑(unitR nB B O (nB + nO)) : Int)))) ≥
                                      (0 : Int))
                                else false) &&
                                !decide
                                    (bestL (plX (unitR nB B O (nB + nO)) (rLen nB B O) (rCode nB) i_1) (tabRS nB B nO O)
                                        (Int.toNat (↑i : Int)) <
                                      (0 : Int))) =
                              true →
                            ((if
                                    decide
                                        (rLen nB B O (Int.toNat (↑i_1 : Int)) / (↑(unitR nB B O (nB + nO)) : Int) ≤
                                          (↑i : Int)) =
                                      true then
                                  decide
                                    (tabRS nB B nO O
                                        (addN (0 : Nat)
                                          (Int.toNat
                                            ((↑i : Int) -
                                              rLen nB B O (Int.toNat (↑i_1 : Int)) / (↑(unitR nB B O (nB + nO)) : Int)))) ≥
                                      (0 : Int))
                                else false) &&
                                !decide
                                    (bestL (plX (unitR nB B O (nB + nO)) (rLen nB B O) (rCode nB) i_1) (tabRS nB B nO O)
                                        (Int.toNat (↑i : Int)) <
                                      (0 : Int))) =
                              true,
                          ((if
                                    decide
                                        (rLen nB B O (Int.toNat (↑i_1 : Int)) / (↑(unitR nB B O (nB + nO)) : Int) ≤
                                          (↑i : Int)) =
                                      true then
                                  decide
                                    (tabRS nB B nO O
                                        (addN (0 : Nat)
                                          (Int.toNat
                                            ((↑i : Int) -
                                              rLen nB B O (Int.toNat (↑i_1 : Int)) / (↑(unitR nB B O (nB + nO)) : Int)))) ≥
                                      (0 : Int))
                                else false) &&
                                !decide
                                    (bestL (plX (unitR nB B O (nB + nO)) (rLen nB B O) (rCode nB) i_1) (tabRS nB B nO O)
                                        (Int.toNat (↑i : Int)) <
                                      (0 : Int))) =
                              true →
                            addN (0 : Nat)
                                (Int.toNat
                                  ((↑i : Int) - rLen nB B O (Int.toNat (↑i_1 : Int)) / (↑(unitR nB B O (nB + nO)) : Int))) <
                              Int.toNat (↑i : Int),
                          ((if
                                    decide
                                        (rLen nB B O (Int.toNat (↑i_1 : Int)) / (↑(unitR nB B O (nB + nO)) : Int) ≤
                                          (↑i : Int)) =
                                      true then
                                  decide
                                    (tabRS nB B nO O
                                        (addN (0 : Nat)
                                          (Int.toNat
                                            ((↑i : Int) -
                                              rLen nB B O (Int.toNat (↑i_1 : Int)) / (↑(unitR nB B O (nB + nO)) : Int)))) ≥
                                      (0 : Int))
                                else false) &&
                                !decide
                                    (bestL (plX (unitR nB B O (nB + nO)) (rLen nB B O) (rCode nB) i_1) (tabRS nB B nO O)
                                        (Int.toNat (↑i : Int)) <
                                      (0 : Int))) =
                              true →
                            ((if
                                    decide
                                        (rLen nB B O (Int.toNat (↑i_1 : Int)) / (↑(unitR nB B O (nB + nO)) : Int) ≤
                                          (↑i : Int)) =
                                      true then
                                  decide
                                    (tabRS nB B nO O
                                        (addN (0 : Nat)
                                          (Int.toNat
                                            ((↑i : Int) -
                                              rLen nB B O (Int.toNat (↑i_1 : Int)) / (↑(unitR nB B O (nB + nO)) : Int)))) ≥
                                      (0 : Int))
                                else false) &&
                                !decide
                                    (bestL (plX (unitR nB B O (nB + nO)) (rLen nB B O) (rCode nB) i_1) (tabRS nB B nO O)
                                        (Int.toNat (↑i : Int)) <
                                      (0 : Int))) =
                              true,
                          ((if
                                    decide
                                        (rLen nB B O (Int.toNat (↑i_1 : Int)) / (↑(unitR nB B O (nB + nO)) : Int) ≤
                                          (↑i : Int)) =
                                      true then
                                  decide
                                    (tabRS nB B nO O
                                        (addN (0 : Nat)
                                          (Int.toNat
                                            ((↑i : Int) -
                                              rLen nB B O (Int.toNat (↑i_1 : Int)) / (↑(unitR nB B O (nB + nO)) : Int)))) ≥
                                      (0 : Int))
                                else false) &&
                                !decide
                                    (bestL (plX (unitR nB B O (nB + nO)) (rLen nB B O) (rCode nB) i_1) (tabRS nB B nO O)
                                        (Int.toNat (↑i : Int)) <
                                      (0 : Int))) =
                              true →
                            ((if
                                    decide
                                        (rLen nB B O (Int.toNat (↑i_1 : Int)) / (↑(unitR nB B O (nB + nO)) : Int) ≤
                                          (↑i : Int)) =
                                      true then
                                  decide
                                    (tabRS nB B nO O
                                        (addN (0 : Nat)
                                          (Int.toNat
                                            ((↑i : Int) -
                                              rLen nB B O (Int.toNat (↑i_1 : Int)) / (↑(unitR nB B O (nB + nO)) : Int)))) ≥
                                      (0 : Int))
                                else false) &&
                                !decide
                                    (bestL (plX (unitR nB B O (nB + nO)) (rLen nB B O) (rCode nB) i_1) (tabRS nB B nO O)
                                        (Int.toNat (↑i : Int)) <
                                      (0 : Int))) =
                              true,
                          ((if
                                    decide
                                        (rLen nB B O (Int.toNat (↑i_1 : Int)) / (↑(unitR nB B O (nB + nO)) : Int) ≤
                                          (↑i : Int)) =
                                      true then
                                  decide
                                    (tabRS nB B nO O
                                        (addN (0 : Nat)
                                          (Int.toNat
                                            ((↑i : Int) -
                                              rLen nB B O (Int.toNat (↑i_1 : Int)) / (↑(unitR nB B O (nB + nO)) : Int)))) ≥
                                      (0 : Int))
                                else false) &&
                                !decide
                                    (bestL (plX (unitR nB B O (nB + nO)) (rLen nB B O) (rCode nB) i_1) (tabRS nB B nO O)
                                        (Int.toNat (↑i : Int)) <
                                      (0 : Int))) =
                              true →
                            (0 : Int) ≤ (↑i_1 : Int) ∧ (↑i_1 : Int) < (↑(nB + nO) : Int),
                          ((if
                                    decide
                                        (rLen nB B O (Int.toNat (↑i_1 : Int)) / (↑(unitR nB B O (nB + nO)) : Int) ≤
                                          (↑i : Int)) =
                                      true then
                                  decide
                                    (tabRS nB B nO O
                                        (addN (0 : Nat)
                                          (Int.toNat
                                            ((↑i : Int) -
                                              rLen nB B O (Int.toNat (↑i_1 : Int)) / (↑(unitR nB B O (nB + nO)) : Int)))) ≥
                                      (0 : Int))
                                else false) &&
                                !decide
                                    (bestL (plX (unitR nB B O (nB + nO)) (rLen nB B O) (rCode nB) i_1) (tabRS nB B nO O)
                                        (Int.toNat (↑i : Int)) <
                                      (0 : Int))) =
                              true →
                            ((if
                                    decide
                                        (rLen nB B O (Int.toNat (↑i_1 : Int)) / (↑(unitR nB B O (nB + nO)) : Int) ≤
                                          (↑i : Int)) =
                                      true then
                                  decide
                                    (tabRS nB B nO O
                                        (addN (0 : Nat)
                                          (Int.toNat
                                            ((↑i : Int) -
                                              rLen nB B O (Int.toNat (↑i_1 : Int)) / (↑(unitR nB B O (nB + nO)) : Int)))) ≥
                                      (0 : Int))
                                else false) &&
                                !decide
                                    (bestL (plX (unitR nB B O (nB + nO)) (rLen nB B O) (rCode nB) i_1) (tabRS nB B nO O)
                                        (Int.toNat (↑i : Int)) <
                                      (0 : Int))) =
                              true,
                          ((if
                                    decide
                                        (rLen nB B O (Int.toNat (↑i_1 : Int)) / (↑(unitR nB B O (nB + nO)) : Int) ≤
                                          (↑i : Int)) =
                                      true then
                                  decide
                                    (tabRS nB B nO O
                                        (addN (0 : Nat)
                                          (Int.toNat
                                            ((↑i : Int) -
                                              rLen nB B O (Int.toNat (↑i_1 : Int)) / (↑(unitR nB B O (nB + nO)) : Int)))) ≥
                                      (0 : Int))
                                else false) &&
                                !decide
                                    (bestL (plX (unitR nB B O (nB + nO)) (rLen nB B O) (rCode nB) i_1) (tabRS nB B nO O)
                                        (Int.toNat (↑i : Int)) <
                                      (0 : Int))) =
                              true →
                            ((if
                                    decide
                                        (rLen nB B O (Int.toNat (↑i_1 : Int)) / (↑(unitR nB B O (nB + nO)) : Int) ≤
                                          (↑i : Int)) =
                                      true then
                                  decide
                                    (tabRS nB B nO O
                                        (addN (0 : Nat)
                                          (Int.toNat
                                            ((↑i : Int) -
                                              rLen nB B O (Int.toNat (↑i_1 : Int)) / (↑(unitR nB B O (nB + nO)) : Int)))) ≥
                                      (0 : Int))
                                else false) &&
                                !decide
                                    (bestL (plX (unitR nB B O (nB + nO)) (rLen nB B O) (rCode nB) i_1) (tabRS nB B nO O)
                                        (Int.toNat (↑i : Int)) <
                                      (0 : Int))) =
                              true,
                          ((if
                                    decide
                                        (rLen nB B O (Int.toNat (↑i_1 : Int)) / (↑(unitR nB B O (nB + nO)) : Int) ≤
                                          (↑i : Int)) =
                                      true then
                                  decide
                                    (tabRS nB B nO O
                                        (addN (0 : Nat)
                                          (Int.toNat
                                            ((↑i : Int) -
                                              rLen nB B O (Int.toNat (↑i_1 : Int)) / (↑(unitR nB B O (nB + nO)) : Int)))) ≥
                                      (0 : Int))
                                else false) &&
                                !decide
                                    (bestL (plX (unitR nB B O (nB + nO)) (rLen nB B O) (rCode nB) i_1) (tabRS nB B nO O)
                                        (Int.toNat (↑i : Int)) <
                                      (0 : Int))) =
                              true →
                            ((if
                                    decide
                                        (rLen nB B O (Int.toNat (↑i_1 : Int)) / (↑(unitR nB B O (nB + nO)) : Int) ≤
                                          (↑i : Int)) =
                                      true then
                                  decide
                                    (tabRS nB B nO O
                                        (addN (0 : Nat)
                                          (Int.toNat
                                            ((↑i : Int) -
                                              rLen nB B O (Int.toNat (↑i_1 : Int)) / (↑(unitR nB B O (nB + nO)) : Int)))) ≥
                                      (0 : Int))
                                else false) &&
                                !decide
                                    (bestL (plX (unitR nB B O (nB + nO)) (rLen nB B O) (rCode nB) i_1) (tabRS nB B nO O)
                                        (Int.toNat (↑i : Int)) <
                                      (0 : Int))) =
                              true,
                          ((if
                                    decide
                                        (rLen nB B O (Int.toNat (↑i_1 : Int)) / (↑(unitR nB B O (nB + nO)) : Int) ≤
                                          (↑i : Int)) =
                                      true then
                                  decide
                                    (tabRS nB B nO O
                                        (addN (0 : Nat)
                                          (Int.toNat
                                            ((↑i : Int) -
                                              rLen nB B O (Int.toNat (↑i_1 : Int)) / (↑(unitR nB B O (nB + nO)) : Int)))) ≥
                                      (0 : Int))
                                else false) &&
                                !decide
                                    (bestL (plX (unitR nB B O (nB + nO)) (rLen nB B O) (rCode nB) i_1) (tabRS nB B nO O)
                                        (Int.toNat (↑i : Int)) <
                                      (0 : Int))) =
                              true →
                            ((if
                                    decide
                                        (rLen nB B O (Int.toNat (↑i_1 : Int)) / (↑(unitR nB B O (nB + nO)) : Int) ≤
                                          (↑i : Int)) =
                                      true then
                                  decide
                                    (tabRS nB B nO O
                                        (addN (0 : Nat)
                                          (Int.toNat
                                            ((↑i : Int) -
                                              rLen nB B O (Int.toNat (↑i_1 : Int)) / (↑(unitR nB B O (nB + nO)) : Int)))) ≥
                                      (0 : Int))
                                else false) &&
                                !decide
                                    (bestL (plX (unitR nB B O (nB + nO)) (rLen nB B O) (rCode nB) i_1) (tabRS nB B nO O)
                                        (Int.toNat (↑i : Int)) <
                                      (0 : Int))) =
                              true,
                          ((if
                                    decide
                                        (rLen nB B O (Int.toNat (↑i_1 : Int)) / (↑(unitR nB B O (nB + nO)) : Int) ≤
                                          (↑i : Int)) =
                                      true then
                                  decide
                                    (tabRS nB B nO O
                                        (addN (0 : Nat)
                                          (Int.toNat
                                            ((↑i : Int) -
                                              rLen nB B O (Int.toNat (↑i_1 : Int)) / (↑(unitR nB B O (nB + nO)) : Int)))) ≥
                                      (0 : Int))
                                else false) &&
                                !decide
                                    (bestL (plX (unitR nB B O (nB + nO)) (rLen nB B O) (rCode nB) i_1) (tabRS nB B nO O)
                                        (Int.toNat (↑i : Int)) <
                                      (0 : Int))) =
                              true →
                            i64In
                              (tabRS nB B nO O
                                  (addN (0 : Nat)
                                    (Int.toNat
                                      ((↑i : Int) -
                                        rLen nB B O (Int.toNat (↑i_1 : Int)) / (↑(unitR nB B O (nB + nO)) : Int)))) +
                                rCode nB (Int.toNat (↑i_1 : Int))),
                          ((if
                                    decide
                                        (rLen nB B O (Int.toNat (↑i_1 : Int)) / (↑(unitR nB B O (nB + nO)) : Int) ≤
                                          (↑i : Int)) =
                                      true then
                                  decide
                                    (tabRS nB B nO O
                                        (addN (0 : Nat)
                                          (Int.toNat
                                            ((↑i : Int) -
                                              rLen nB B O (Int.toNat (↑i_1 : Int)) / (↑(unitR nB B O (nB + nO)) : Int)))) ≥
                                      (0 : Int))
                                else false) &&
                                !decide
                                    (bestL (plX (unitR nB B O (nB + nO)) (rLen nB B O) (rCode nB) i_1) (tabRS nB B nO O)
                                        (Int.toNat (↑i : Int)) <
                                      (0 : Int))) =
                              true →
                            ((if
                                    decide
                                        (rLen nB B O (Int.toNat (↑i_1 : Int)) / (↑(unitR nB B O (nB + nO)) : Int) ≤
                                          (↑i : Int)) =
                                      true then
                                  decide
                                    (tabRS nB B nO O
                                        (addN (0 : Nat)
                                          (Int.toNat
                                            ((↑i : Int) -
                                              rLen nB B O (Int.toNat (↑i_1 : Int)) / (↑(unitR nB B O (nB + nO)) : Int)))) ≥
                                      (0 : Int))
                                else false) &&
                                !decide
                                    (bestL (plX (unitR nB B O (nB + nO)) (rLen nB B O) (rCode nB) i_1) (tabRS nB B nO O)
                                        (Int.toNat (↑i : Int)) <
                                      (0 : Int))) =
                              true,
                          ((if
                                    decide
                                        (rLen nB B O (Int.toNat (↑i_1 : Int)) / (↑(unitR nB B O (nB + nO)) : Int) ≤
                                          (↑i : Int)) =
                                      true then
                                  decide
                                    (tabRS nB B nO O
                                        (addN (0 : Nat)
                                          (Int.toNat
                                            ((↑i : Int) -
                                              rLen nB B O (Int.toNat (↑i_1 : Int)) / (↑(unitR nB B O (nB + nO)) : Int)))) ≥
                                      (0 : Int))
                                else false) &&
                                !decide
                                    (bestL (plX (unitR nB B O (nB + nO)) (rLen nB B O) (rCode nB) i_1) (tabRS nB B nO O)
                                        (Int.toNat (↑i : Int)) <
                                      (0 : Int))) =
                              true →
                            ((if
                                    decide
                                        (rLen nB B O (Int.toNat (↑i_1 : Int)) / (↑(unitR nB B O (nB + nO)) : Int) ≤
                                          (↑i : Int)) =
                                      true then
                                  decide
                                    (tabRS nB B nO O
                                        (addN (0 : Nat)
                                          (Int.toNat
                                            ((↑i : Int) -
                                              rLen nB B O (Int.toNat (↑i_1 : Int)) / (↑(unitR nB B O (nB + nO)) : Int)))) ≥
                                      (0 : Int))
                                else false) &&
                                !decide
                                    (bestL (plX (unitR nB B O (nB + nO)) (rLen nB B O) (rCode nB) i_1) (tabRS nB B nO O)
                                        (Int.toNat (↑i : Int)) <
                                      (0 : Int))) =
                              true,
                          (if
                                  decide
                                      (rLen nB B O (Int.toNat (↑i_1 : Int)) / (↑(unitR nB B O (nB + nO)) : Int) ≤
                                        (↑i : Int)) =
                                    true then
                                decide
                                  (tabRS nB B nO O
                                      (addN (0 : Nat)
                                        (Int.toNat
                                          ((↑i : Int) -
                                            rLen nB B O (Int.toNat (↑i_1 : Int)) / (↑(unitR nB B O (nB + nO)) : Int)))) ≥
                                    (0 : Int))
                              else false) =
                              true →
                            (if
                                  decide
                                      (rLen nB B O (Int.toNat (↑i_1 : Int)) / (↑(unitR nB B O (nB + nO)) : Int) ≤
                                        (↑i : Int)) =
                                    true then
                                decide
                                  (tabRS nB B nO O
                                      (addN (0 : Nat)
                                        (Int.toNat
                                          ((↑i : Int) -
                                            rLen nB B O (Int.toNat (↑i_1 : Int)) / (↑(unitR nB B O (nB + nO)) : Int)))) ≥
                                    (0 : Int))
                              else false) =
                              true,
                          (if
                                  decide
                                      (rLen nB B O (Int.toNat (↑i_1 : Int)) / (↑(unitR nB B O (nB + nO)) : Int) ≤
                                        (↑i : Int)) =
                                    true then
                                decide
                                  (tabRS nB B nO O
                                      (addN (0 : Nat)
                                        (Int.toNat
                                          ((↑i : Int) -
                                            rLen nB B O (Int.toNat (↑i_1 : Int)) / (↑(unitR nB B O (nB + nO)) : Int)))) ≥
                                    (0 : Int))
                              else false) =
                              true →
                            decide
                                  (bestL (plX (unitR nB B O (nB + nO)) (rLen nB B O) (rCode nB) i_1) (tabRS nB B nO O)
                                      (Int.toNat (↑i : Int)) <
                                    (0 : Int)) =
                                false →
                              ((if
                                      decide
                                          (rLen nB B O (Int.toNat (↑i_1 : Int)) / (↑(unitR nB B O (nB + nO)) : Int) ≤
                                            (↑i : Int)) =
                                        true then
                                    decide
                                      (tabRS nB B nO O
                                          (addN (0 : Nat)
                                            (Int.toNat
                                              ((↑i : Int) -
                                                rLen nB B O (Int.toNat (↑i_1 : Int)) /
                                                  (↑(unitR nB B O (nB + nO)) : Int)))) ≥
                                        (0 : Int))
                                  else false) &&
                                  !decide
                                      (bestL (plX (unitR nB B O (nB + nO)) (rLen nB B O) (rCode nB) i_1) (tabRS nB B nO O)
                                          (Int.toNat (↑i : Int)) <
                                        (0 : Int))) =
                                true,
                          (if
                                  decide
                                      (rLen nB B O (Int.toNat (↑i_1 : Int)) / (↑(unitR nB B O (nB + nO)) : Int) ≤
                                        (↑i : Int)) =
                                    true then
                                decide
                                  (tabRS nB B nO O
                                      (addN (0 : Nat)
                                        (Int.toNat
                                          ((↑i : Int) -
                                            rLen nB B O (Int.toNat (↑i_1 : Int)) / (↑(unitR nB B O (nB + nO)) : Int)))) ≥
                                    (0 : Int))
                              else false) =
                              true →
                            (if
                                  decide
                                      (rLen nB B O (Int.toNat (↑i_1 : Int)) / (↑(unitR nB B O (nB + nO)) : Int) ≤
                                        (↑i : Int)) =
                                    true then
                                decide
                                  (tabRS nB B nO O
                                      (addN (0 : Nat)
                                        (Int.toNat
                                          ((↑i : Int) -
                                            rLen nB B O (Int.toNat (↑i_1 : Int)) / (↑(unitR nB B O (nB + nO)) : Int)))) ≥
                                    (0 : Int))
                              else false) =
                              true]
                        (VT.ite
                          (if
                              (if
                                    decide
                                        (rLen nB B O (Int.toNat (↑i_1 : Int)) / (↑(unitR nB B O (nB + nO)) : Int) ≤
                                          (↑i : Int)) =
                                      true then
                                  decide
                                    (tabRS nB B nO O
                                        (addN (0 : Nat)
                                          (Int.toNat
                                            ((↑i : Int) -
                                              rLen nB B O (Int.toNat (↑i_1 : Int)) / (↑(unitR nB B O (nB + nO)) : Int)))) ≥
                                      (0 : Int))
                                else false) =
                                true then
                            if
                                decide
                                    (bestL (plX (unitR nB B O (nB + nO)) (rLen nB B O) (rCode nB) i_1) (tabRS nB B nO O)
                                        (Int.toNat (↑i : Int)) <
                                      (0 : Int)) =
                                  true then
                              true
                            else
                              decide
                                (tabRS nB B nO O
                                      (addN (0 : Nat)
                                        (Int.toNat
                                          ((↑i : Int) -
                                            rLen nB B O (Int.toNat (↑i_1 : Int)) / (↑(unitR nB B O (nB + nO)) : Int)))) +
                                    rCode nB (Int.toNat (↑i_1 : Int)) <
                                  bestL (plX (unitR nB B O (nB + nO)) (rLen nB B O) (rCode nB) i_1) (tabRS nB B nO O)
                                    (Int.toNat (↑i : Int)))
                          else false)
                          (VT.need
                            [i64In ((↑i : Int) - rLen nB B O (Int.toNat (↑i_1 : Int)) / (↑(unitR nB B O (nB + nO)) : Int)),
                              (0 : Int) ≤
                                  (↑i : Int) - rLen nB B O (Int.toNat (↑i_1 : Int)) / (↑(unitR nB B O (nB + nO)) : Int) ∧
                                (↑i : Int) - rLen nB B O (Int.toNat (↑i_1 : Int)) / (↑(unitR nB B O (nB + nO)) : Int) <
                                  (↑(Int.toNat (↑i : Int)) : Int),
                              addN (0 : Nat)
                                  (Int.toNat
                                    ((↑i : Int) -
                                      rLen nB B O (Int.toNat (↑i_1 : Int)) / (↑(unitR nB B O (nB + nO)) : Int))) <
                                Int.toNat (↑i : Int),
                              (0 : Int) ≤ (↑i_1 : Int) ∧ (↑i_1 : Int) < (↑(nB + nO) : Int),
                              i64In
                                (tabRS nB B nO O
                                    (addN (0 : Nat)
                                      (Int.toNat
                                        ((↑i : Int) -
                                          rLen nB B O (Int.toNat (↑i_1 : Int)) / (↑(unitR nB B O (nB + nO)) : Int)))) +
                                  rCode nB (Int.toNat (↑i_1 : Int)))]
                            (VT.need [i64In ((↑i_1 : Int) + (1 : Int))]
                              (VT.done
                                [(↑i_1 : Int) + (1 : Int) = (↑(Int.toNat ((↑i_1 : Int) + (1 : Int))) : Int),
                                  tabRS nB B nO O
                                        (addN (0 : Nat)
                                          (Int.toNat
                                            ((↑i : Int) -
                                              rLen nB B O (Int.toNat (↑i_1 : Int)) / (↑(unitR nB B O (nB + nO)) : Int)))) +
                                      rCode nB (Int.toNat (↑i_1 : Int)) =
                                    bestL
                                      (plX (unitR nB B O (nB + nO)) (rLen nB B O) (rCode nB)
                                        (Int.toNat ((↑i_1 : Int) + (1 : Int))))
                                      (tabRS nB B nO O) (Int.toNat (↑i : Int)),
                                  (0 : Nat) = (0 : Nat), Int.toNat (↑i : Int) = Int.toNat (↑i : Int), len = len,
                                  (↑(unitR nB B O (nB + nO)) : Int) = (↑(unitR nB B O (nB + nO)) : Int), nB + nO = nB + nO,
                                  ∀ (i : Nat), i < nB + nO → rLen nB B O i = rLen nB B O i,
                                  ∀ (i : Nat), i < nB + nO → rCode nB i = rCode nB i, (↑i : Int) = (↑i : Int),
                                  Int.toNat (↑i : Int) = Int.toNat (↑i : Int),
                                  ∀ (i_2 : Nat), i_2 < Int.toNat (↑i : Int) → tabRS nB B nO O i_2 = tabRS nB B nO O i_2,
                                  Int.toNat ((↑i_1 : Int) + (1 : Int)) ≤ nB + nO,
                                  nB + nO - Int.toNat ((↑i_1 : Int) + (1 : Int)) < nB + nO - i_1])))
                          (VT.need [i64In ((↑i_1 : Int) + (1 : Int))]
                            (VT.done
                              [(↑i_1 : Int) + (1 : Int) = (↑(Int.toNat ((↑i_1 : Int) + (1 : Int))) : Int),
                                bestL (plX (unitR nB B O (nB + nO)) (rLen nB B O) (rCode nB) i_1) (tabRS nB B nO O)
                                    (Int.toNat (↑i : Int)) =
                                  bestL
                                    (plX (unitR nB B O (nB + nO)) (rLen nB B O) (rCode nB)
                                      (Int.toNat ((↑i_1 : Int) + (1 : Int))))
                                    (tabRS nB B nO O) (Int.toNat (↑i : Int)),
                                (0 : Nat) = (0 : Nat), Int.toNat (↑i : Int) = Int.toNat (↑i : Int), len = len,
                                (↑(unitR nB B O (nB + nO)) : Int) = (↑(unitR nB B O (nB + nO)) : Int), nB + nO = nB + nO,
                                ∀ (i : Nat), i < nB + nO → rLen nB B O i = rLen nB B O i,
                                ∀ (i : Nat), i < nB + nO → rCode nB i = rCode nB i, (↑i : Int) = (↑i : Int),
                                Int.toNat (↑i : Int) = Int.toNat (↑i : Int),
                                ∀ (i_2 : Nat), i_2 < Int.toNat (↑i : Int) → tabRS nB B nO O i_2 = tabRS nB B nO O i_2,
                                Int.toNat ((↑i_1 : Int) + (1 : Int)) ≤ nB + nO,
                                nB + nO - Int.toNat ((↑i_1 : Int) + (1 : Int)) < nB + nO - i_1])))))
                    (VT.need
                      [Int.toNat (↑i : Int) ≤ Int.toNat (↑i : Int),
                        (Int.toNat (↑i : Int) + (1 : Nat)) * (nat_lit 7 + (1 : Nat)) ≤ (140737488355328 : Nat),
                        (1 : Nat) ≤ (1 : Nat)]
                      (VT.need [i64In ((↑i : Int) + (1 : Int))]
                        (VT.done
                          [(↑i : Int) + (1 : Int) = (↑(Int.toNat ((↑i : Int) + (1 : Int))) : Int), (0 : Nat) = (0 : Nat),
                            Int.toNat (↑i : Int) + (1 : Nat) = Int.toNat ((↑i : Int) + (1 : Int)), len = len,
                            (↑(unitR nB B O (nB + nO)) : Int) = (↑(unitR nB B O (nB + nO)) : Int), nB + nO = nB + nO,
                            ∀ (i : Nat), i < nB + nO → rLen nB B O i = rLen nB B O i,
                            ∀ (i : Nat), i < nB + nO → rCode nB i = rCode nB i,
                            Int.toNat (↑i : Int) + (1 : Nat) = Int.toNat ((↑i : Int) + (1 : Int)),
                            ∀ (i_2 : Nat),
                              i_2 < Int.toNat ((↑i : Int) + (1 : Int)) →
                                (if decide (i_2 < Int.toNat (↑i : Int)) = true then tabRS nB B nO O i_2
                                  else
                                    bestL (plX (unitR nB B O (nB + nO)) (rLen nB B O) (rCode nB) i_1) (tabRS nB B nO O)
                                      (Int.toNat (↑i : Int))) =
                                  tabRS nB B nO O i_2,
                            (1 : Nat) ≤ Int.toNat ((↑i : Int) + (1 : Int)) ∧
                              (↑(Int.toNat ((↑i : Int) + (1 : Int))) : Int) ≤
                                len / (↑(unitR nB B O (nB + nO)) : Int) + (1 : Int),
                            Int.toNat
                                (len / (↑(unitR nB B O (nB + nO)) : Int) + (1 : Int) -
                                  (↑(Int.toNat ((↑i : Int) + (1 : Int))) : Int)) <
                              Int.toNat (len / (↑(unitR nB B O (nB + nO)) : Int) + (1 : Int) - (↑i : Int))]))))
                (VT.done
                  [i ≤ i, i = Int.toNat (len / (↑(unitR nB B O (nB + nO)) : Int) + (1 : Int)),
                    ∀ (i : Nat),
                      i < Int.toNat (len / (↑(unitR nB B O (nB + nO)) : Int) + (1 : Int)) →
                        tabRS nB B nO O i = tabRS nB B nO O i]))))) (by kernel_rfl) ?_
  simp only [VT.holds, AllT, imp_self, implies_true, and_true, true_and, toNat_succ, toNat_add2, toNat_zero', Int.toNat_natCast, Bool.if_true_left, Bool.if_false_right, Bool.decide_eq_true, Bool.or_eq_true, Bool.or_eq_false_iff, Bool.and_eq_true, Bool.and_eq_false_imp, Bool.not_eq_true', Bool.not_eq_false', Bool.not_not, bne_iff_ne, bne_eq_false_iff_eq, beq_iff_eq, beq_eq_false_iff_ne, decide_eq_true_eq, decide_eq_false_iff_not, ne_eq]
  obtain ⟨s1, s2, s3, sB, sO, _, _⟩ := sys_ok hs
  have hu := unitR_bd s1 sB sO
  have hlen : 0 ≤ len ∧ len ≤ 4000 * (unitR nB B O (nB + nO) : Int) := by
    unfold lenR at hl
    split at hl
    · cases hl
    · split at hl
      · cases hl
      · omega
  obtain ⟨q0, q1⟩ := quo_bd hu.1 hlen.1 hlen.2
  have hmp := fun {i} (hi : i < nB + nO) => unitsR_pos sB sO hi
  have huc := unitR_c nB B nO O W G L s2 s3 sB sO
  have hpc := partsR_c nB B nO O W G L s2 s3
  have hbd : ∀ p ∈ plX (unitR nB B O (nB + nO)) (rLen nB B O) (rCode nB) (nB + nO), 0 ≤ p.2 ∧ p.2 ≤ 10001 := fun p hp => by
    obtain ⟨i, hi, rfl⟩ := List.mem_map.1 hp
    exact rCode_bd nB i
  have hT := tabL_bd hbd
  have hT0 := tabL_zero (plX (unitR nB B O (nB + nO)) (rLen nB B O) (rCode nB) (nB + nO))
  have hTe := fun {k} => tabL_eq (plX (unitR nB B O (nB + nO)) (rLen nB B O) (rCode nB) (nB + nO)) (k := k)
  simp only [tabRS]
  generalize hTT : tabL (plX (unitR nB B O (nB + nO)) (rLen nB B O) (rCode nB) (nB + nO)) = T at *
  generalize unitR nB B O (nB + nO) = u at *
  have hmul : ∀ k : Nat, (k : Int) * (u : Int) ≤ len ↔ (k : Int) ≤ len / (u : Int) := fun k => (Int.le_ediv_iff_mul_le (by omega)).symm
  generalize hQ : len / (u : Int) = Q at *
  refine ⟨huc, hpc, ⟨rfl, rfl, rfl, fun i hi => by rw [show i = 0 by omega, hT0]⟩, ⟨by omega, by omega⟩, fun k ⟨k1, k2⟩ => ⟨?_, fun hk => ⟨⟨rfl, rfl⟩, Nat.zero_le _, fun i hi => ⟨fun hlt => ?_, fun hge => ?_⟩⟩, fun hk => ?_⟩⟩
  · have hm := Int.mul_le_mul (a := (k : Int)) (b := (u : Int)) (c := 4001) (d := 10000) (by omega) (by omega) (by omega) (by omega)
    have hm0 := Int.mul_nonneg (a := (k : Int)) (b := (u : Int)) (by omega) (by omega)
    unfold i64In; omega
  · rw [hmul] at hk
    have hi' : i < nB + nO := by omega
    have hx := rLen_bd sB sO hi'
    have e : rLen nB B O i / (u : Int) = (unitsOf u (rLen nB B O i) : Int) := by
      unfold unitsOf
      have := Int.ediv_nonneg (a := rLen nB B O i) (b := (u : Int)) (by omega) (by omega)
      omega
    have m1 := hmp hi'
    have hc := rCode_bd nB i
    have hs : bestL (plX u (rLen nB B O) (rCode nB) (i + 1)) T k = minP (bestL (plX u (rLen nB B O) (rCode nB) i) T k) (candL T k (unitsOf u (rLen nB B O i), rCode nB i)) := by
      rw [plX, range_snoc, bestL_snoc]; rfl
    simp only [e, Int.toNat_sub, addN_zero, hs]
    generalize unitsOf u (rLen nB B O i) = m at *
    have t1 := hT (k - m)
    generalize bestL (plX u (rLen nB B O) (rCode nB) i) T k = b at *
    generalize rCode nB i = c at *
    refine ⟨⟨⟨by omega, by omega⟩, by omega, by omega, by omega⟩, ⟨fun _ => by unfold i64In; omega, fun _ => by omega, fun _ => by omega, fun _ => by unfold i64In; omega, fun _ => by omega, fun _ => by omega, fun _ => by omega, fun _ => by unfold i64In; omega, fun a b => ⟨a, b⟩⟩, fun ⟨⟨h2, h3⟩, h4⟩ => ⟨⟨by unfold i64In; omega, by omega, by omega, by omega, by unfold i64In; omega⟩, by unfold i64In; omega, rfl, ?_, by omega, by omega⟩, fun h2 => ⟨by unfold i64In; omega, rfl, ?_, by omega, by omega⟩⟩
    · have hcd : candL T k (m, c) = T (k - m) + c := by
        unfold candL
        rw [if_pos (show 1 ≤ m ∧ m ≤ k ∧ 0 ≤ T (k - m) from ⟨m1, by omega, by omega⟩)]
      rw [hcd, minP, if_neg (by omega), if_pos h4]
    · by_cases h5 : (m : Int) ≤ (k : Int) ∧ T (k - m) ≥ 0
      · have hcd : candL T k (m, c) = T (k - m) + c := by
          unfold candL
          rw [if_pos (show 1 ≤ m ∧ m ≤ k ∧ 0 ≤ T (k - m) from ⟨m1, by omega, by omega⟩)]
        have h6 := h2 h5
        rw [hcd, minP, if_neg (by omega), if_neg (by omega)]
      · have hcd : candL T k (m, c) = -1 := by
          unfold candL
          rw [if_neg]
          intro ⟨_, h6, h7⟩
          dsimp only at h6 h7
          exact h5 ⟨by omega, by omega⟩
        rw [hcd, minP, if_pos (by omega)]
  · rw [hmul] at hk
    rw [show i = nB + nO by omega]
    refine ⟨⟨Nat.le_refl _, by omega, Nat.le_refl _⟩, by unfold i64In; omega, rfl, fun q hq => ?_, ⟨by omega, by omega⟩, by omega⟩
    by_cases e : q < k
    · rw [if_pos e]
    · rw [if_neg e, show q = k by omega, hTe (by omega)]
  · rw [hmul] at hk
    exact ⟨Nat.le_refl _, by omega⟩
noncomputable def A22_gapsR_c (nB : Nat) (B : Nat → Int) (nO : Nat) (O : Nat → Int) (W G L len : Int) : Ann := { orc := [(2, [(2, rTabR)]), (7, [(3, rUnitR)])], loops := [(0, { ι := Nat, keep := [2, 6], boxes := [2], ts := fun _ k => [(7, dI (k : Int))], rw := fun _ k => [(5, 1, (gapsL (tabRS nB B nO O) k).length, [fun j => .val (.int .i64 (((gapsL (tabRS nB B nO O) k).getD j 0 : Nat) * (uR nB B nO O : Nat)))])], inv := fun σ k => k ≤ lenOf (σ.get 6), mu := fun σ k => lenOf (σ.get 6) - k, rd := fun _ σ => (iOf (σ.get 7)).toNat })], cuts := [] }
theorem gapsR_c (nB : Nat) (B : Nat → Int) (nO : Nat) (O : Nat → Int) (W G L len : Int) (hs : sysE nB B nO O W G L = 0) (hl : lenR nB B nO O len = 0) : FnC prog 22 [sys nB B nO O W G L, dI len] (.lst (gapsL (tabRS nB B nO O) (len / (uR nB B nO O : Int) + 1).toNat).length [fun j => .val (.int .i64 (((gapsL (tabRS nB B nO O) (len / (uR nB B nO O : Int) + 1).toNat).getD j 0 : Nat) * (uR nB B nO O : Nat)))]) := by
  refine FnC_owed hmix (A22_gapsR_c nB B nO O W G L len) (V := VT.need
        [FnC prog (21 : Nat)
            [DV.agg
                [DV.lst nB [fun (i : Nat) => DV.val (Value.int IntKind.i64 (B i))],
                  DV.lst nO [fun (i : Nat) => DV.val (Value.int IntKind.i64 (O i))], DV.val (Value.int IntKind.i64 W),
                  DV.val (Value.int IntKind.i64 G), DV.val (Value.int IntKind.i64 L)],
              DV.val (Value.int IntKind.i64 len)]
            (DV.lst (Int.toNat (len / (↑(unitR nB B O (nB + nO)) : Int) + (1 : Int)))
              [fun (k : Nat) => DV.val (Value.int IntKind.i64 (tabRS nB B nO O k))])]
        (VT.loop Nat (fun (a : Nat) => a ≤ Int.toNat (len / (↑(unitR nB B O (nB + nO)) : Int) + (1 : Int)))
          (Int.toNat (0 : Int))
          [(0 : Int) = (↑(Int.toNat (0 : Int)) : Int), (0 : Nat) = (0 : Nat), nat_lit 0 = (0 : Nat),
            Int.toNat (len / (↑(unitR nB B O (nB + nO)) : Int) + (1 : Int)) =
              Int.toNat (len / (↑(unitR nB B O (nB + nO)) : Int) + (1 : Int)),
            ∀ (i : Nat),
              i < Int.toNat (len / (↑(unitR nB B O (nB + nO)) : Int) + (1 : Int)) → tabRS nB B nO O i = tabRS nB B nO O i,
            nat_lit 0 = (0 : Nat), nB = nB, ∀ (i : Nat), i < nB → B i = B i, nO = nO, ∀ (i : Nat), i < nO → O i = O i,
            W = W, G = G, L = L]
          fun (i : Nat) =>
          VT.ite (decide ((↑i : Int) < (↑(Int.toNat (len / (↑(unitR nB B O (nB + nO)) : Int) + (1 : Int))) : Int)))
            (VT.need
              [(0 : Int) ≤ (↑i : Int) ∧
                  (↑i : Int) < (↑(Int.toNat (len / (↑(unitR nB B O (nB + nO)) : Int) + (1 : Int))) : Int)]
              (VT.ite (decide (tabRS nB B nO O (Int.toNat (↑i : Int)) < (0 : Int)))
                (VT.need
                  [FnC prog (61 : Nat)
                      [DV.agg
                          [DV.lst nB [fun (i : Nat) => DV.val (Value.int IntKind.i64 (B i))],
                            DV.lst nO [fun (i : Nat) => DV.val (Value.int IntKind.i64 (O i))],
                            DV.val (Value.int IntKind.i64 W), DV.val (Value.int IntKind.i64 G),
                            DV.val (Value.int IntKind.i64 L)]]
                      (DV.val (Value.int IntKind.i64 (↑(unitR nB B O (nB + nO)) : Int))),
                    i64In ((↑i : Int) * (↑(unitR nB B O (nB + nO)) : Int)),
                    List.length (gapsL (tabRS nB B nO O) i) ≤ List.length (gapsL (tabRS nB B nO O) i),
                    (List.length (gapsL (tabRS nB B nO O) i) + (1 : Nat)) * (nat_lit 7 + (1 : Nat)) ≤
                      (140737488355328 : Nat),
                    (1 : Nat) ≤ (1 : Nat)]
                  (VT.need [i64In ((↑i : Int) + (1 : Int))]
                    (VT.done
                      [(↑i : Int) + (1 : Int) = (↑(Int.toNat ((↑i : Int) + (1 : Int))) : Int), (0 : Nat) = (0 : Nat),
                        List.length (gapsL (tabRS nB B nO O) i) + (1 : Nat) =
                          List.length (gapsL (tabRS nB B nO O) (Int.toNat ((↑i : Int) + (1 : Int)))),
                        Int.toNat (len / (↑(unitR nB B O (nB + nO)) : Int) + (1 : Int)) =
                          Int.toNat (len / (↑(unitR nB B O (nB + nO)) : Int) + (1 : Int)),
                        ∀ (i : Nat),
                          i < Int.toNat (len / (↑(unitR nB B O (nB + nO)) : Int) + (1 : Int)) →
                            tabRS nB B nO O i = tabRS nB B nO O i,
                        List.length (gapsL (tabRS nB B nO O) i) + (1 : Nat) =
                          List.length (gapsL (tabRS nB B nO O) (Int.toNat ((↑i : Int) + (1 : Int)))),
                        ∀ (i_1 : Nat),
                          i_1 < List.length (gapsL (tabRS nB B nO O) (Int.toNat ((↑i : Int) + (1 : Int)))) →
                            (if decide (i_1 < List.length (gapsL (tabRS nB B nO O) i)) = true then
                                (↑(List.getD (gapsL (tabRS nB B nO O) i) i_1 (0 : Nat)) : Int) *
                                  (↑(unitR nB B O (nB + nO)) : Int)
                              else (↑i : Int) * (↑(unitR nB B O (nB + nO)) : Int)) =
                              (↑(List.getD (gapsL (tabRS nB B nO O) (Int.toNat ((↑i : Int) + (1 : Int)))) i_1 (0 : Nat)) :
                                  Int) *
                                (↑(unitR nB B O (nB + nO)) : Int),
                        nB = nB, ∀ (i : Nat), i < nB → B i = B i, nO = nO, ∀ (i : Nat), i < nO → O i = O i, W = W, G = G,
                        L = L,
                        Int.toNat ((↑i : Int) + (1 : Int)) ≤
                          Int.toNat (len / (↑(unitR nB B O (nB + nO)) : Int) + (1 : Int)),
                        Int.toNat (len / (↑(unitR nB B O (nB + nO)) : Int) + (1 : Int)) -
                            Int.toNat ((↑i : Int) + (1 : Int)) <
                          Int.toNat (len / (↑(unitR nB B O (nB + nO)) : Int) + (1 : Int)) - i])))
                (VT.need [i64In ((↑i : Int) + (1 : Int))]
                  (VT.done
                    [(↑i : Int) + (1 : Int) = (↑(Int.toNat ((↑i : Int) + (1 : Int))) : Int), (0 : Nat) = (0 : Nat),
                      List.length (gapsL (tabRS nB B nO O) i) =
                        List.length (gapsL (tabRS nB B nO O) (Int.toNat ((↑i : Int) + (1 : Int)))),
                      Int.toNat (len / (↑(unitR nB B O (nB + nO)) : Int) + (1 : Int)) =
                        Int.toNat (len / (↑(unitR nB B O (nB + nO)) : Int) + (1 : Int)),
                      ∀ (i : Nat),
                        i < Int.toNat (len / (↑(unitR nB B O (nB + nO)) : Int) + (1 : Int)) →
                          tabRS nB B nO O i = tabRS nB B nO O i,
                      List.length (gapsL (tabRS nB B nO O) i) =
                        List.length (gapsL (tabRS nB B nO O) (Int.toNat ((↑i : Int) + (1 : Int)))),
                      ∀ (i_1 : Nat),
                        i_1 < List.length (gapsL (tabRS nB B nO O) (Int.toNat ((↑i : Int) + (1 : Int)))) →
                          (↑(List.getD (gapsL (tabRS nB B nO O) i) i_1 (0 : Nat)) : Int) *
                              (↑(unitR nB B O (nB + nO)) : Int) =
                            (↑(List.getD (gapsL (tabRS nB B nO O) (Int.toNat ((↑i : Int) + (1 : Int)))) i_1 (0 : Nat)) :
                                Int) *
                              (↑(unitR nB B O (nB + nO)) : Int),
                      nB = nB, ∀ (i : Nat), i < nB → B i = B i, nO = nO, ∀ (i : Nat), i < nO → O i = O i, W = W, G = G,
                      L = L,
                      Int.toNat ((↑i : Int) + (1 : Int)) ≤ Int.toNat (len / (↑(unitR nB B O (nB + nO)) : Int) + (1 : Int)),
                      Int.toNat (len / (↑(unitR nB B O (nB + nO)) : Int) + (1 : Int)) - Int.toNat ((↑i : Int) + (1 : Int)) <
                        Int.toNat (len / (↑(unitR nB B O (nB + nO)) : Int) + (1 : Int)) - i]))))
            (VT.done
              [List.length (gapsL (tabRS nB B nO O) i) ≤ List.length (gapsL (tabRS nB B nO O) i),
                List.length (gapsL (tabRS nB B nO O) i) =
                  List.length (gapsL (tabRS nB B nO O) (Int.toNat (len / (↑(unitR nB B O (nB + nO)) : Int) + (1 : Int)))),
                ∀ (i_1 : Nat),
                  i_1 <
                      List.length
                        (gapsL (tabRS nB B nO O) (Int.toNat (len / (↑(unitR nB B O (nB + nO)) : Int) + (1 : Int)))) →
                    (↑(List.getD (gapsL (tabRS nB B nO O) i) i_1 (0 : Nat)) : Int) * (↑(unitR nB B O (nB + nO)) : Int) =
                      (↑(List.getD
                              (gapsL (tabRS nB B nO O) (Int.toNat (len / (↑(unitR nB B O (nB + nO)) : Int) + (1 : Int))))
                              i_1 (0 : Nat)) :
                          Int) *
                        (↑(unitR nB B O (nB + nO)) : Int)]))) (by kernel_rfl) ?_
  simp only [VT.holds, AllT, imp_self, implies_true, and_true, true_and, toNat_succ, toNat_add2, toNat_zero', Int.toNat_natCast, Bool.if_true_left, Bool.if_false_right, Bool.decide_eq_true, Bool.or_eq_true, Bool.or_eq_false_iff, Bool.and_eq_true, Bool.and_eq_false_imp, Bool.not_eq_true', Bool.not_eq_false', Bool.not_not, bne_iff_ne, bne_eq_false_iff_eq, beq_iff_eq, beq_eq_false_iff_ne, decide_eq_true_eq, decide_eq_false_iff_not, ne_eq]
  obtain ⟨s1, s2, s3, sB, sO, _, _⟩ := sys_ok hs
  have hu := unitR_bd s1 sB sO
  have hlen : 0 ≤ len ∧ len ≤ 4000 * (unitR nB B O (nB + nO) : Int) := by
    unfold lenR at hl
    split at hl
    · cases hl
    · split at hl
      · cases hl
      · omega
  obtain ⟨q0, q1⟩ := quo_bd hu.1 hlen.1 hlen.2
  have hmp := fun {i} (hi : i < nB + nO) => unitsR_pos sB sO hi
  have huc := unitR_c nB B nO O W G L s2 s3 sB sO
  have hpc := partsR_c nB B nO O W G L s2 s3
  have htc := tableR_c nB B nO O W G L len hs hl
  have hgl := gapsL_len (tabRS nB B nO O)
  have hgs := gapsL_snoc (tabRS nB B nO O)
  generalize tabRS nB B nO O = T at *
  generalize hU : unitR nB B O (nB + nO) = u at *
  rw [show (uR nB B nO O : Int) = (u : Int) from congrArg Int.ofNat hU] at htc
  generalize hQ : len / (u : Int) = Q at *
  refine ⟨htc, rfl, Nat.zero_le _, fun k hk => ⟨fun hlt => ⟨⟨by omega, by omega⟩, fun hn => ?_, fun hn => ?_⟩, fun hge => ?_⟩⟩
  · have hg := hgl k
    have he : gapsL T (k + 1) = gapsL T k ++ [k] := by rw [hgs, if_pos hn]
    have hl : (gapsL T (k + 1)).length = (gapsL T k).length + 1 := by rw [he]; simp
    have hm := Int.mul_le_mul (a := (k : Int)) (b := (u : Int)) (c := 4000) (d := 10000) (by omega) (by omega) (by omega) (by omega)
    have hm0 := Int.mul_nonneg (a := (k : Int)) (b := (u : Int)) (by omega) (by omega)
    refine ⟨⟨huc, by unfold i64In; omega, Nat.le_refl _, by omega, Nat.le_refl _⟩, by unfold i64In; omega, rfl, hl.symm, hl.symm, fun j hj => ?_, by omega, by omega⟩
    rw [he] at hj ⊢
    rw [snoc_getD hj]
    split <;> rfl
  · have he : gapsL T (k + 1) = gapsL T k := by rw [hgs, if_neg hn]
    rw [he]
    exact ⟨by unfold i64In; omega, rfl, rfl, rfl, fun _ _ => rfl, by omega, by omega⟩
  · rw [show k = (Q + 1).toNat by omega]
    exact ⟨Nat.le_refl _, rfl, fun _ _ => rfl⟩
end Go.Abs
