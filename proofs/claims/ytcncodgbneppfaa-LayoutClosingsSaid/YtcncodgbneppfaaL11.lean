/- Contracts. -/
import Derived.Test.YtcncodgbneppfaaL10
set_option linter.unusedVariables false
set_option linter.unusedSimpArgs false
set_option maxRecDepth 100000
namespace Go.Abs
open Go
def rShort : Orc := .res fun l => dB (decide (lenOf (fD 0 (arg l 0)) ≤ 100 ∧ lenOf (fD 1 (arg l 0)) ≤ 100))
def rClosing : Orc := .res fun l => clg (lenOf (fD 0 (arg l 0))) (colI 0 (fD 0 (arg l 0))) (lenOf (fD 1 (arg l 0))) (colI 0 (fD 1 (arg l 0)))
def bothL (l : List DV) : Int := bothE (gB l) (gBf l) (gO l) (gOf l) (gW l) (gG l) (gL l) (hC l) (hCf l) (hD l) (hDf l)
def lenT (nB : Nat) (B : Nat → Int) (nO : Nat) (O : Nat → Int) (W G L : Int) (nC : Nat) (C : Nat → Int) (nD : Nat) (D : Nat → Int) : Int := if bothE nB B nO O W G L nC C nD D = 0 then sumI C nC + sumI D nD else 0
def oddT (nB : Nat) (B : Nat → Int) (nO : Nat) (O : Nat → Int) (W G L : Int) (nC : Nat) (C : Nat → Int) (nD : Nat) (D : Nat → Int) : Int := if bothE nB B nO O W G L nC C nD D = 0 then (nD : Int) + cntN C (B (nB - 1)) nC else 0
def bayT (nB : Nat) (B : Nat → Int) (nO : Nat) (O : Nat → Int) (W G L : Int) (nC : Nat) (C : Nat → Int) (nD : Nat) (D : Nat → Int) : Int := if bothE nB B nO O W G L nC C nD D = 0 then nC else 0
def rLenTop : Orc := .res fun l => .tup [dI (lenT (gB l) (gBf l) (gO l) (gOf l) (gW l) (gG l) (gL l) (hC l) (hCf l) (hD l) (hDf l)), dI (bothE (gB l) (gBf l) (gO l) (gOf l) (gW l) (gG l) (gL l) (hC l) (hCf l) (hD l) (hDf l))]
def rCostTop : Orc := .res fun l => .tup [dP (oddT (gB l) (gBf l) (gO l) (gOf l) (gW l) (gG l) (gL l) (hC l) (hCf l) (hD l) (hDf l)) (bayT (gB l) (gBf l) (gO l) (gOf l) (gW l) (gG l) (gL l) (hC l) (hCf l) (hD l) (hDf l)), dI (bothE (gB l) (gBf l) (gO l) (gOf l) (gW l) (gG l) (gL l) (hC l) (hCf l) (hD l) (hDf l))]
def chkT (nB : Nat) (B : Nat → Int) (nO : Nat) (O : Nat → Int) (W G L : Int) (nC : Nat) (C : Nat → Int) (nD : Nat) (D : Nat → Int) (len : Int) : Int := if sysE nB B nO O W G L = 0 then closesE nB B nO O nC C nD D len else sysE nB B nO O W G L
def rChkTop : Orc := .res fun l => dI (chkT (gB l) (gBf l) (gO l) (gOf l) (gW l) (gG l) (gL l) (kC l) (kCf l) (kD l) (kDf l) (aI l 1))
def rClosesR : Orc := .res fun l => dI (closesE (gB l) (gBf l) (gO l) (gOf l) (kC l) (kCf l) (kD l) (kDf l) (aI l 1))
def rCostR : Orc := .res fun l => dP ((hD l : Int) + cntN (hCf l) (gBf l (gB l - 1)) (hC l)) (hC l)
def rLess : Orc := .res fun l => dB (lessC (fI 0 (arg l 0)) (fI 1 (arg l 0)) (fI 0 (arg l 1)) (fI 1 (arg l 1)))
noncomputable def A6_layoutClosings_c (nB : Nat) (B : Nat → Int) (nO : Nat) (O : Nat → Int) (W G L : Int) (nC : Nat) (C : Nat → Int) (nD : Nat) (D : Nat → Int) (len : Int) : Ann := { orc := [(1, [(0, .res fun _ => dB true)]), (3, [(1, rFew), (5, rShort)]), (5, [(1, rCopied), (3, rClosing), (4, rLenTop)]), (6, [(1, rCopied), (3, rClosing), (4, rCostTop)]), (7, [(1, rCopied), (4, rClosing), (5, rChkTop)]), (8, [(1, rSys)]), (10, [(2, rCk)]), (13, [(9, rSum), (16, rCostR)]), (16, [(4, rClosesR), (9, rLess), (12, rLess), (18, rLess), (21, rLess)])], loops := [], cuts := [] }
theorem layoutClosings_c (nB : Nat) (B : Nat → Int) (nO : Nat) (O : Nat → Int) (W G L : Int) (nC : Nat) (C : Nat → Int) (nD : Nat) (D : Nat → Int) (len : Int)  : FnC prog 6 [sys nB B nO O W G L, clg nC C nD D, dI len] (dB true) := by
  refine FnC_owed hmix (A6_layoutClosings_c nB B nO O W G L nC C nD D len) (V := VT.need [FnC prog (11 : Nat) [] (DV.val (Value.bool true))]
        (VT.ite (!true) (VT.done [false = true])
          (VT.need
            [FnC prog (12 : Nat)
                [DV.agg
                    [DV.lst nB [fun (i : Nat) => DV.val (Value.int IntKind.i64 (B i))],
                      DV.lst nO [fun (i : Nat) => DV.val (Value.int IntKind.i64 (O i))], DV.val (Value.int IntKind.i64 W),
                      DV.val (Value.int IntKind.i64 G), DV.val (Value.int IntKind.i64 L)]]
                (DV.val (Value.bool (decide (nB ≤ (12 : Nat) ∧ nO ≤ (12 : Nat))))),
              (!!decide (nB ≤ (12 : Nat) ∧ nO ≤ (12 : Nat))) = true → (!!decide (nB ≤ (12 : Nat) ∧ nO ≤ (12 : Nat))) = true,
              (!!decide (nB ≤ (12 : Nat) ∧ nO ≤ (12 : Nat))) = true →
                FnC prog (31 : Nat)
                  [DV.agg
                      [DV.lst nC [fun (i : Nat) => DV.val (Value.int IntKind.i64 (C i))],
                        DV.lst nD [fun (i : Nat) => DV.val (Value.int IntKind.i64 (D i))]]]
                  (DV.val (Value.bool (decide (nC ≤ (100 : Nat) ∧ nD ≤ (100 : Nat))))),
              (!!decide (nB ≤ (12 : Nat) ∧ nO ≤ (12 : Nat))) = true → (!!decide (nB ≤ (12 : Nat) ∧ nO ≤ (12 : Nat))) = true,
              (!decide (nB ≤ (12 : Nat) ∧ nO ≤ (12 : Nat))) = false → (!!decide (nB ≤ (12 : Nat) ∧ nO ≤ (12 : Nat))) = true]
            (VT.ite
              (if (!decide (nB ≤ (12 : Nat) ∧ nO ≤ (12 : Nat))) = true then true
              else !decide (nC ≤ (100 : Nat) ∧ nD ≤ (100 : Nat)))
              (VT.done [true = true])
              (VT.need
                [FnC prog (14 : Nat)
                    [DV.agg
                        [DV.lst nB [fun (i : Nat) => DV.val (Value.int IntKind.i64 (B i))],
                          DV.lst nO [fun (i : Nat) => DV.val (Value.int IntKind.i64 (O i))],
                          DV.val (Value.int IntKind.i64 W), DV.val (Value.int IntKind.i64 G),
                          DV.val (Value.int IntKind.i64 L)]]
                    (DV.agg
                      [DV.lst nB [fun (i : Nat) => DV.val (Value.int IntKind.i64 (B i))],
                        DV.lst nO [fun (i : Nat) => DV.val (Value.int IntKind.i64 (O i))], DV.val (Value.int IntKind.i64 W),
                        DV.val (Value.int IntKind.i64 G), DV.val (Value.int IntKind.i64 L)]),
                  FnC prog (33 : Nat)
                    [DV.agg
                        [DV.lst nC [fun (i : Nat) => DV.val (Value.int IntKind.i64 (C i))],
                          DV.lst nD [fun (i : Nat) => DV.val (Value.int IntKind.i64 (D i))]]]
                    (DV.agg
                      [DV.lst nC [fun (i : Nat) => DV.val (Value.int IntKind.i64 (C i))],
                        DV.lst nD [fun (i : Nat) => DV.val (Value.int IntKind.i64 (D i))]]),
                  FnC prog (32 : Nat)
                    [DV.agg
                        [DV.lst nB [fun (i : Nat) => DV.val (Value.int IntKind.i64 (B i))],
                          DV.lst nO [fun (i : Nat) => DV.val (Value.int IntKind.i64 (O i))],
                          DV.val (Value.int IntKind.i64 W), DV.val (Value.int IntKind.i64 G),
                          DV.val (Value.int IntKind.i64 L)],
                      DV.agg
                        [DV.lst nC [fun (i : Nat) => DV.val (Value.int IntKind.i64 (C i))],
                          DV.lst nD [fun (i : Nat) => DV.val (Value.int IntKind.i64 (D i))]]]
                    (DV.tup
                      [DV.val (Value.int IntKind.i64 (lenT nB B nO O W G L nC C nD D)),
                        DV.val (Value.int IntKind.i64 (bothE nB B nO O W G L nC C nD D))])]
                (VT.need
                  [FnC prog (14 : Nat)
                      [DV.agg
                          [DV.lst nB [fun (i : Nat) => DV.val (Value.int IntKind.i64 (B i))],
                            DV.lst nO [fun (i : Nat) => DV.val (Value.int IntKind.i64 (O i))],
                            DV.val (Value.int IntKind.i64 W), DV.val (Value.int IntKind.i64 G),
                            DV.val (Value.int IntKind.i64 L)]]
                      (DV.agg
                        [DV.lst nB [fun (i : Nat) => DV.val (Value.int IntKind.i64 (B i))],
                          DV.lst nO [fun (i : Nat) => DV.val (Value.int IntKind.i64 (O i))],
                          DV.val (Value.int IntKind.i64 W), DV.val (Value.int IntKind.i64 G),
                          DV.val (Value.int IntKind.i64 L)]),
                    FnC prog (33 : Nat)
                      [DV.agg
                          [DV.lst nC [fun (i : Nat) => DV.val (Value.int IntKind.i64 (C i))],
                            DV.lst nD [fun (i : Nat) => DV.val (Value.int IntKind.i64 (D i))]]]
                      (DV.agg
                        [DV.lst nC [fun (i : Nat) => DV.val (Value.int IntKind.i64 (C i))],
                          DV.lst nD [fun (i : Nat) => DV.val (Value.int IntKind.i64 (D i))]]),
                    FnC prog (34 : Nat)
                      [DV.agg
                          [DV.lst nB [fun (i : Nat) => DV.val (Value.int IntKind.i64 (B i))],
                            DV.lst nO [fun (i : Nat) => DV.val (Value.int IntKind.i64 (O i))],
                            DV.val (Value.int IntKind.i64 W), DV.val (Value.int IntKind.i64 G),
                            DV.val (Value.int IntKind.i64 L)],
                        DV.agg
                          [DV.lst nC [fun (i : Nat) => DV.val (Value.int IntKind.i64 (C i))],
                            DV.lst nD [fun (i : Nat) => DV.val (Value.int IntKind.i64 (D i))]]]
                      (DV.tup
                        [DV.val
                            (Value.agg
                              {
                                toList :=
                                  [Value.int IntKind.i64 (oddT nB B nO O W G L nC C nD D),
                                    Value.int IntKind.i64 (bayT nB B nO O W G L nC C nD D)] }),
                          DV.val (Value.int IntKind.i64 (bothE nB B nO O W G L nC C nD D))])]
                  (VT.need
                    [FnC prog (14 : Nat)
                        [DV.agg
                            [DV.lst nB [fun (i : Nat) => DV.val (Value.int IntKind.i64 (B i))],
                              DV.lst nO [fun (i : Nat) => DV.val (Value.int IntKind.i64 (O i))],
                              DV.val (Value.int IntKind.i64 W), DV.val (Value.int IntKind.i64 G),
                              DV.val (Value.int IntKind.i64 L)]]
                        (DV.agg
                          [DV.lst nB [fun (i : Nat) => DV.val (Value.int IntKind.i64 (B i))],
                            DV.lst nO [fun (i : Nat) => DV.val (Value.int IntKind.i64 (O i))],
                            DV.val (Value.int IntKind.i64 W), DV.val (Value.int IntKind.i64 G),
                            DV.val (Value.int IntKind.i64 L)]),
                      FnC prog (33 : Nat)
                        [DV.agg
                            [DV.lst nC [fun (i : Nat) => DV.val (Value.int IntKind.i64 (C i))],
                              DV.lst nD [fun (i : Nat) => DV.val (Value.int IntKind.i64 (D i))]]]
                        (DV.agg
                          [DV.lst nC [fun (i : Nat) => DV.val (Value.int IntKind.i64 (C i))],
                            DV.lst nD [fun (i : Nat) => DV.val (Value.int IntKind.i64 (D i))]]),
                      FnC prog (35 : Nat)
                        [DV.agg
                            [DV.lst nB [fun (i : Nat) => DV.val (Value.int IntKind.i64 (B i))],
                              DV.lst nO [fun (i : Nat) => DV.val (Value.int IntKind.i64 (O i))],
                              DV.val (Value.int IntKind.i64 W), DV.val (Value.int IntKind.i64 G),
                              DV.val (Value.int IntKind.i64 L)],
                          DV.val (Value.int IntKind.i64 len),
                          DV.agg
                            [DV.lst nC [fun (i : Nat) => DV.val (Value.int IntKind.i64 (C i))],
                              DV.lst nD [fun (i : Nat) => DV.val (Value.int IntKind.i64 (D i))]]]
                        (DV.val (Value.int IntKind.i64 (chkT nB B nO O W G L nC C nD D len)))]
                    (VT.need
                      [FnC prog (15 : Nat)
                          [DV.agg
                              [DV.lst nB [fun (i : Nat) => DV.val (Value.int IntKind.i64 (B i))],
                                DV.lst nO [fun (i : Nat) => DV.val (Value.int IntKind.i64 (O i))],
                                DV.val (Value.int IntKind.i64 W), DV.val (Value.int IntKind.i64 G),
                                DV.val (Value.int IntKind.i64 L)]]
                          (DV.val (Value.int IntKind.i64 (sysE nB B nO O W G L)))]
                      (VT.ite (sysE nB B nO O W G L == (0 : Int))
                        (VT.need
                          [FnC prog (36 : Nat)
                              [DV.agg
                                  [DV.lst nB [fun (i : Nat) => DV.val (Value.int IntKind.i64 (B i))],
                                    DV.lst nO [fun (i : Nat) => DV.val (Value.int IntKind.i64 (O i))],
                                    DV.val (Value.int IntKind.i64 W), DV.val (Value.int IntKind.i64 G),
                                    DV.val (Value.int IntKind.i64 L)],
                                DV.agg
                                  [DV.lst nC [fun (i : Nat) => DV.val (Value.int IntKind.i64 (C i))],
                                    DV.lst nD [fun (i : Nat) => DV.val (Value.int IntKind.i64 (D i))]]]
                              (DV.val (Value.int IntKind.i64 (ckE nB B nO O nC C nD D)))]
                          (VT.ite (ckE nB B nO O nC C nD D != (0 : Int))
                            (VT.need
                              [(bothE nB B nO O W G L nC C nD D == ckE nB B nO O nC C nD D) = true →
                                  (bothE nB B nO O W G L nC C nD D == ckE nB B nO O nC C nD D) = true,
                                (bothE nB B nO O W G L nC C nD D == ckE nB B nO O nC C nD D) = true →
                                  (bothE nB B nO O W G L nC C nD D == ckE nB B nO O nC C nD D) = true,
                                (bothE nB B nO O W G L nC C nD D == ckE nB B nO O nC C nD D) = true →
                                  (bothE nB B nO O W G L nC C nD D == ckE nB B nO O nC C nD D) = true,
                                (if (bothE nB B nO O W G L nC C nD D == ckE nB B nO O nC C nD D) = true then
                                      bothE nB B nO O W G L nC C nD D == ckE nB B nO O nC C nD D
                                    else false) =
                                    true →
                                  (if (bothE nB B nO O W G L nC C nD D == ckE nB B nO O nC C nD D) = true then
                                      bothE nB B nO O W G L nC C nD D == ckE nB B nO O nC C nD D
                                    else false) =
                                    true,
                                (if (bothE nB B nO O W G L nC C nD D == ckE nB B nO O nC C nD D) = true then
                                      bothE nB B nO O W G L nC C nD D == ckE nB B nO O nC C nD D
                                    else false) =
                                    true →
                                  (if (bothE nB B nO O W G L nC C nD D == ckE nB B nO O nC C nD D) = true then
                                      bothE nB B nO O W G L nC C nD D == ckE nB B nO O nC C nD D
                                    else false) =
                                    true,
                                (if (bothE nB B nO O W G L nC C nD D == ckE nB B nO O nC C nD D) = true then
                                      bothE nB B nO O W G L nC C nD D == ckE nB B nO O nC C nD D
                                    else false) =
                                    true →
                                  (if (bothE nB B nO O W G L nC C nD D == ckE nB B nO O nC C nD D) = true then
                                      bothE nB B nO O W G L nC C nD D == ckE nB B nO O nC C nD D
                                    else false) =
                                    true,
                                (if
                                        (if (bothE nB B nO O W G L nC C nD D == ckE nB B nO O nC C nD D) = true then
                                            bothE nB B nO O W G L nC C nD D == ckE nB B nO O nC C nD D
                                          else false) =
                                          true then
                                      chkT nB B nO O W G L nC C nD D len == ckE nB B nO O nC C nD D
                                    else false) =
                                    true →
                                  (if
                                        (if (bothE nB B nO O W G L nC C nD D == ckE nB B nO O nC C nD D) = true then
                                            bothE nB B nO O W G L nC C nD D == ckE nB B nO O nC C nD D
                                          else false) =
                                          true then
                                      chkT nB B nO O W G L nC C nD D len == ckE nB B nO O nC C nD D
                                    else false) =
                                    true,
                                (if
                                        (if (bothE nB B nO O W G L nC C nD D == ckE nB B nO O nC C nD D) = true then
                                            bothE nB B nO O W G L nC C nD D == ckE nB B nO O nC C nD D
                                          else false) =
                                          true then
                                      chkT nB B nO O W G L nC C nD D len == ckE nB B nO O nC C nD D
                                    else false) =
                                    true →
                                  (if
                                        (if (bothE nB B nO O W G L nC C nD D == ckE nB B nO O nC C nD D) = true then
                                            bothE nB B nO O W G L nC C nD D == ckE nB B nO O nC C nD D
                                          else false) =
                                          true then
                                      chkT nB B nO O W G L nC C nD D len == ckE nB B nO O nC C nD D
                                    else false) =
                                    true,
                                (if
                                        (if
                                              (if (bothE nB B nO O W G L nC C nD D == ckE nB B nO O nC C nD D) = true then
                                                  bothE nB B nO O W G L nC C nD D == ckE nB B nO O nC C nD D
                                                else false) =
                                                true then
                                            chkT nB B nO O W G L nC C nD D len == ckE nB B nO O nC C nD D
                                          else false) =
                                          true then
                                      lenT nB B nO O W G L nC C nD D == (0 : Int)
                                    else false) =
                                    true →
                                  (if
                                        (if
                                              (if (bothE nB B nO O W G L nC C nD D == ckE nB B nO O nC C nD D) = true then
                                                  bothE nB B nO O W G L nC C nD D == ckE nB B nO O nC C nD D
                                                else false) =
                                                true then
                                            chkT nB B nO O W G L nC C nD D len == ckE nB B nO O nC C nD D
                                          else false) =
                                          true then
                                      lenT nB B nO O W G L nC C nD D == (0 : Int)
                                    else false) =
                                    true,
                                (if
                                        (if
                                              (if (bothE nB B nO O W G L nC C nD D == ckE nB B nO O nC C nD D) = true then
                                                  bothE nB B nO O W G L nC C nD D == ckE nB B nO O nC C nD D
                                                else false) =
                                                true then
                                            chkT nB B nO O W G L nC C nD D len == ckE nB B nO O nC C nD D
                                          else false) =
                                          true then
                                      lenT nB B nO O W G L nC C nD D == (0 : Int)
                                    else false) =
                                    true →
                                  (if
                                        (if
                                              (if (bothE nB B nO O W G L nC C nD D == ckE nB B nO O nC C nD D) = true then
                                                  bothE nB B nO O W G L nC C nD D == ckE nB B nO O nC C nD D
                                                else false) =
                                                true then
                                            chkT nB B nO O W G L nC C nD D len == ckE nB B nO O nC C nD D
                                          else false) =
                                          true then
                                      lenT nB B nO O W G L nC C nD D == (0 : Int)
                                    else false) =
                                    true,
                                (if
                                        (if
                                              (if (bothE nB B nO O W G L nC C nD D == ckE nB B nO O nC C nD D) = true then
                                                  bothE nB B nO O W G L nC C nD D == ckE nB B nO O nC C nD D
                                                else false) =
                                                true then
                                            chkT nB B nO O W G L nC C nD D len == ckE nB B nO O nC C nD D
                                          else false) =
                                          true then
                                      lenT nB B nO O W G L nC C nD D == (0 : Int)
                                    else false) =
                                    true →
                                  (if
                                        (if
                                              (if (bothE nB B nO O W G L nC C nD D == ckE nB B nO O nC C nD D) = true then
                                                  bothE nB B nO O W G L nC C nD D == ckE nB B nO O nC C nD D
                                                else false) =
                                                true then
                                            chkT nB B nO O W G L nC C nD D len == ckE nB B nO O nC C nD D
                                          else false) =
                                          true then
                                      lenT nB B nO O W G L nC C nD D == (0 : Int)
                                    else false) =
                                    true]
                              (VT.done
                                [(if
                                        (if
                                              (if
                                                    (if
                                                          (bothE nB B nO O W G L nC C nD D == ckE nB B nO O nC C nD D) =
                                                            true then
                                                        bothE nB B nO O W G L nC C nD D == ckE nB B nO O nC C nD D
                                                      else false) =
                                                      true then
                                                  chkT nB B nO O W G L nC C nD D len == ckE nB B nO O nC C nD D
                                                else false) =
                                                true then
                                            lenT nB B nO O W G L nC C nD D == (0 : Int)
                                          else false) =
                                          true then
                                      oddT nB B nO O W G L nC C nD D == (0 : Int) &&
                                        (bayT nB B nO O W G L nC C nD D == (0 : Int) && true)
                                    else false) =
                                    true]))
                            (VT.need
                              [(!bothE nB B nO O W G L nC C nD D != (0 : Int)) = true →
                                  (!bothE nB B nO O W G L nC C nD D != (0 : Int)) = true,
                                (bothE nB B nO O W G L nC C nD D != (0 : Int)) = false →
                                  (!bothE nB B nO O W G L nC C nD D != (0 : Int)) = true,
                                (!if (bothE nB B nO O W G L nC C nD D != (0 : Int)) = true then true
                                      else bothE nB B nO O W G L nC C nD D != (0 : Int)) =
                                    true →
                                  (!if (bothE nB B nO O W G L nC C nD D != (0 : Int)) = true then true
                                      else bothE nB B nO O W G L nC C nD D != (0 : Int)) =
                                    true,
                                (!if (bothE nB B nO O W G L nC C nD D != (0 : Int)) = true then true
                                      else bothE nB B nO O W G L nC C nD D != (0 : Int)) =
                                    true →
                                  FnC prog (37 : Nat)
                                    [DV.agg
                                        [DV.lst nC [fun (i : Nat) => DV.val (Value.int IntKind.i64 (C i))],
                                          DV.lst nD [fun (i : Nat) => DV.val (Value.int IntKind.i64 (D i))]]]
                                    (DV.val (Value.int IntKind.i64 (sumI C nC + sumI D nD))),
                                (!if (bothE nB B nO O W G L nC C nD D != (0 : Int)) = true then true
                                      else bothE nB B nO O W G L nC C nD D != (0 : Int)) =
                                    true →
                                  (!if (bothE nB B nO O W G L nC C nD D != (0 : Int)) = true then true
                                      else bothE nB B nO O W G L nC C nD D != (0 : Int)) =
                                    true,
                                (!if (bothE nB B nO O W G L nC C nD D != (0 : Int)) = true then true
                                      else bothE nB B nO O W G L nC C nD D != (0 : Int)) =
                                    true →
                                  (!if (bothE nB B nO O W G L nC C nD D != (0 : Int)) = true then true
                                      else bothE nB B nO O W G L nC C nD D != (0 : Int)) =
                                    true,
                                (if (bothE nB B nO O W G L nC C nD D != (0 : Int)) = true then true
                                    else bothE nB B nO O W G L nC C nD D != (0 : Int)) =
                                    false →
                                  (!if (bothE nB B nO O W G L nC C nD D != (0 : Int)) = true then true
                                      else bothE nB B nO O W G L nC C nD D != (0 : Int)) =
                                    true,
                                (!if
                                          (if (bothE nB B nO O W G L nC C nD D != (0 : Int)) = true then true
                                            else bothE nB B nO O W G L nC C nD D != (0 : Int)) =
                                            true then
                                        true
                                      else lenT nB B nO O W G L nC C nD D != sumI C nC + sumI D nD) =
                                    true →
                                  (!if
                                          (if (bothE nB B nO O W G L nC C nD D != (0 : Int)) = true then true
                                            else bothE nB B nO O W G L nC C nD D != (0 : Int)) =
                                            true then
                                        true
                                      else lenT nB B nO O W G L nC C nD D != sumI C nC + sumI D nD) =
                                    true,
                                (!if
                                          (if (bothE nB B nO O W G L nC C nD D != (0 : Int)) = true then true
                                            else bothE nB B nO O W G L nC C nD D != (0 : Int)) =
                                            true then
                                        true
                                      else lenT nB B nO O W G L nC C nD D != sumI C nC + sumI D nD) =
                                    true →
                                  (!if
                                          (if (bothE nB B nO O W G L nC C nD D != (0 : Int)) = true then true
                                            else bothE nB B nO O W G L nC C nD D != (0 : Int)) =
                                            true then
                                        true
                                      else lenT nB B nO O W G L nC C nD D != sumI C nC + sumI D nD) =
                                    true,
                                (!if
                                          (if (bothE nB B nO O W G L nC C nD D != (0 : Int)) = true then true
                                            else bothE nB B nO O W G L nC C nD D != (0 : Int)) =
                                            true then
                                        true
                                      else lenT nB B nO O W G L nC C nD D != sumI C nC + sumI D nD) =
                                    true →
                                  FnC prog (38 : Nat)
                                    [DV.agg
                                        [DV.lst nB [fun (i : Nat) => DV.val (Value.int IntKind.i64 (B i))],
                                          DV.lst nO [fun (i : Nat) => DV.val (Value.int IntKind.i64 (O i))],
                                          DV.val (Value.int IntKind.i64 W), DV.val (Value.int IntKind.i64 G),
                                          DV.val (Value.int IntKind.i64 L)],
                                      DV.agg
                                        [DV.lst nC [fun (i : Nat) => DV.val (Value.int IntKind.i64 (C i))],
                                          DV.lst nD [fun (i : Nat) => DV.val (Value.int IntKind.i64 (D i))]]]
                                    (DV.val
                                      (Value.agg
                                        {
                                          toList :=
                                            [Value.int IntKind.i64 ((↑nD : Int) + cntN C (B (nB - (1 : Nat))) nC),
                                              Value.int IntKind.i64 (↑nC : Int)] })),
                                (!if
                                          (if (bothE nB B nO O W G L nC C nD D != (0 : Int)) = true then true
                                            else bothE nB B nO O W G L nC C nD D != (0 : Int)) =
                                            true then
                                        true
                                      else lenT nB B nO O W G L nC C nD D != sumI C nC + sumI D nD) =
                                    true →
                                  (!if
                                          (if (bothE nB B nO O W G L nC C nD D != (0 : Int)) = true then true
                                            else bothE nB B nO O W G L nC C nD D != (0 : Int)) =
                                            true then
                                        true
                                      else lenT nB B nO O W G L nC C nD D != sumI C nC + sumI D nD) =
                                    true,
                                (!if
                                          (if (bothE nB B nO O W G L nC C nD D != (0 : Int)) = true then true
                                            else bothE nB B nO O W G L nC C nD D != (0 : Int)) =
                                            true then
                                        true
                                      else lenT nB B nO O W G L nC C nD D != sumI C nC + sumI D nD) =
                                    true →
                                  (!if
                                          (if (bothE nB B nO O W G L nC C nD D != (0 : Int)) = true then true
                                            else bothE nB B nO O W G L nC C nD D != (0 : Int)) =
                                            true then
                                        true
                                      else lenT nB B nO O W G L nC C nD D != sumI C nC + sumI D nD) =
                                    true,
                                (if
                                        (if (bothE nB B nO O W G L nC C nD D != (0 : Int)) = true then true
                                          else bothE nB B nO O W G L nC C nD D != (0 : Int)) =
                                          true then
                                      true
                                    else lenT nB B nO O W G L nC C nD D != sumI C nC + sumI D nD) =
                                    false →
                                  (!if
                                          (if (bothE nB B nO O W G L nC C nD D != (0 : Int)) = true then true
                                            else bothE nB B nO O W G L nC C nD D != (0 : Int)) =
                                            true then
                                        true
                                      else lenT nB B nO O W G L nC C nD D != sumI C nC + sumI D nD) =
                                    true]
                              (VT.ite
                                (if
                                    (if
                                          (if (bothE nB B nO O W G L nC C nD D != (0 : Int)) = true then true
                                            else bothE nB B nO O W G L nC C nD D != (0 : Int)) =
                                            true then
                                        true
                                      else lenT nB B nO O W G L nC C nD D != sumI C nC + sumI D nD) =
                                      true then
                                  true
                                else
                                  !(oddT nB B nO O W G L nC C nD D == (↑nD : Int) + cntN C (B (nB - (1 : Nat))) nC &&
                                      (bayT nB B nO O W G L nC C nD D == (↑nC : Int) && true)))
                                (VT.done [false = true])
                                (VT.need [(7 : Int) ≠ (0 : Int), (11 : Int) ≠ (0 : Int)]
                                  (VT.need
                                    [FnC prog (39 : Nat)
                                        [DV.agg
                                            [DV.lst nB [fun (i : Nat) => DV.val (Value.int IntKind.i64 (B i))],
                                              DV.lst nO [fun (i : Nat) => DV.val (Value.int IntKind.i64 (O i))],
                                              DV.val (Value.int IntKind.i64 W), DV.val (Value.int IntKind.i64 G),
                                              DV.val (Value.int IntKind.i64 L)],
                                          DV.val (Value.int IntKind.i64 len),
                                          DV.agg
                                            [DV.lst nC [fun (i : Nat) => DV.val (Value.int IntKind.i64 (C i))],
                                              DV.lst nD [fun (i : Nat) => DV.val (Value.int IntKind.i64 (D i))]]]
                                        (DV.val (Value.int IntKind.i64 (closesE nB B nO O nC C nD D len))),
                                      (chkT nB B nO O W G L nC C nD D len == closesE nB B nO O nC C nD D len) = true →
                                        (chkT nB B nO O W G L nC C nD D len == closesE nB B nO O nC C nD D len) = true,
                                      (chkT nB B nO O W G L nC C nD D len == closesE nB B nO O nC C nD D len) = true →
                                        (chkT nB B nO O W G L nC C nD D len == closesE nB B nO O nC C nD D len) = true,
                                      (chkT nB B nO O W G L nC C nD D len == closesE nB B nO O nC C nD D len) = true →
                                        FnC prog (40 : Nat)
                                          [DV.val
                                              (Value.agg
                                                {
                                                  toList :=
                                                    [Value.int IntKind.i64 (oddT nB B nO O W G L nC C nD D),
                                                      Value.int IntKind.i64 (bayT nB B nO O W G L nC C nD D)] }),
                                            DV.val
                                              (Value.agg
                                                {
                                                  toList :=
                                                    [Value.int IntKind.i64 (Int.tmod len (7 : Int)),
                                                      Value.int IntKind.i64 (Int.tmod len (11 : Int))] })]
                                          (DV.val
                                            (Value.bool
                                              (lessC (oddT nB B nO O W G L nC C nD D) (bayT nB B nO O W G L nC C nD D)
                                                (Int.tmod len (7 : Int)) (Int.tmod len (11 : Int))))),
                                      (chkT nB B nO O W G L nC C nD D len == closesE nB B nO O nC C nD D len) = true →
                                        (chkT nB B nO O W G L nC C nD D len == closesE nB B nO O nC C nD D len) = true,
                                      (chkT nB B nO O W G L nC C nD D len == closesE nB B nO O nC C nD D len) = true →
                                        (chkT nB B nO O W G L nC C nD D len == closesE nB B nO O nC C nD D len) = true,
                                      (chkT nB B nO O W G L nC C nD D len == closesE nB B nO O nC C nD D len) = true →
                                        FnC prog (41 : Nat)
                                          [DV.val
                                              (Value.agg
                                                {
                                                  toList :=
                                                    [Value.int IntKind.i64 (oddT nB B nO O W G L nC C nD D),
                                                      Value.int IntKind.i64 (bayT nB B nO O W G L nC C nD D)] }),
                                            DV.val
                                              (Value.agg
                                                {
                                                  toList :=
                                                    [Value.int IntKind.i64 (Int.tmod len (7 : Int)),
                                                      Value.int IntKind.i64 (Int.tmod len (11 : Int))] })]
                                          (DV.val
                                            (Value.bool
                                              (lessC (oddT nB B nO O W G L nC C nD D) (bayT nB B nO O W G L nC C nD D)
                                                (Int.tmod len (7 : Int)) (Int.tmod len (11 : Int))))),
                                      (chkT nB B nO O W G L nC C nD D len == closesE nB B nO O nC C nD D len) = true →
                                        (chkT nB B nO O W G L nC C nD D len == closesE nB B nO O nC C nD D len) = true,
                                      (chkT nB B nO O W G L nC C nD D len == closesE nB B nO O nC C nD D len) = true →
                                        (chkT nB B nO O W G L nC C nD D len == closesE nB B nO O nC C nD D len) = true,
                                      (chkT nB B nO O W G L nC C nD D len == closesE nB B nO O nC C nD D len) = true →
                                        (chkT nB B nO O W G L nC C nD D len == closesE nB B nO O nC C nD D len) = true,
                                      (if
                                              (chkT nB B nO O W G L nC C nD D len == closesE nB B nO O nC C nD D len) =
                                                true then
                                            if false = true then
                                              !lessC (oddT nB B nO O W G L nC C nD D) (bayT nB B nO O W G L nC C nD D)
                                                    (Int.tmod len (7 : Int)) (Int.tmod len (11 : Int)) ==
                                                  lessC (oddT nB B nO O W G L nC C nD D) (bayT nB B nO O W G L nC C nD D)
                                                    (Int.tmod len (7 : Int)) (Int.tmod len (11 : Int))
                                            else
                                              lessC (oddT nB B nO O W G L nC C nD D) (bayT nB B nO O W G L nC C nD D)
                                                  (Int.tmod len (7 : Int)) (Int.tmod len (11 : Int)) ==
                                                lessC (oddT nB B nO O W G L nC C nD D) (bayT nB B nO O W G L nC C nD D)
                                                  (Int.tmod len (7 : Int)) (Int.tmod len (11 : Int))
                                          else false) =
                                          true →
                                        (if
                                              (chkT nB B nO O W G L nC C nD D len == closesE nB B nO O nC C nD D len) =
                                                true then
                                            if false = true then
                                              !lessC (oddT nB B nO O W G L nC C nD D) (bayT nB B nO O W G L nC C nD D)
                                                    (Int.tmod len (7 : Int)) (Int.tmod len (11 : Int)) ==
                                                  lessC (oddT nB B nO O W G L nC C nD D) (bayT nB B nO O W G L nC C nD D)
                                                    (Int.tmod len (7 : Int)) (Int.tmod len (11 : Int))
                                            else
                                              lessC (oddT nB B nO O W G L nC C nD D) (bayT nB B nO O W G L nC C nD D)
                                                  (Int.tmod len (7 : Int)) (Int.tmod len (11 : Int)) ==
                                                lessC (oddT nB B nO O W G L nC C nD D) (bayT nB B nO O W G L nC C nD D)
                                                  (Int.tmod len (7 : Int)) (Int.tmod len (11 : Int))
                                          else false) =
                                          true,
                                      (if
                                              (chkT nB B nO O W G L nC C nD D len == closesE nB B nO O nC C nD D len) =
                                                true then
                                            if false = true then
                                              !lessC (oddT nB B nO O W G L nC C nD D) (bayT nB B nO O W G L nC C nD D)
                                                    (Int.tmod len (7 : Int)) (Int.tmod len (11 : Int)) ==
                                                  lessC (oddT nB B nO O W G L nC C nD D) (bayT nB B nO O W G L nC C nD D)
                                                    (Int.tmod len (7 : Int)) (Int.tmod len (11 : Int))
                                            else
                                              lessC (oddT nB B nO O W G L nC C nD D) (bayT nB B nO O W G L nC C nD D)
                                                  (Int.tmod len (7 : Int)) (Int.tmod len (11 : Int)) ==
                                                lessC (oddT nB B nO O W G L nC C nD D) (bayT nB B nO O W G L nC C nD D)
                                                  (Int.tmod len (7 : Int)) (Int.tmod len (11 : Int))
                                          else false) =
                                          true →
                                        (if
                                              (chkT nB B nO O W G L nC C nD D len == closesE nB B nO O nC C nD D len) =
                                                true then
                                            if false = true then
                                              !lessC (oddT nB B nO O W G L nC C nD D) (bayT nB B nO O W G L nC C nD D)
                                                    (Int.tmod len (7 : Int)) (Int.tmod len (11 : Int)) ==
                                                  lessC (oddT nB B nO O W G L nC C nD D) (bayT nB B nO O W G L nC C nD D)
                                                    (Int.tmod len (7 : Int)) (Int.tmod len (11 : Int))
                                            else
                                              lessC (oddT nB B nO O W G L nC C nD D) (bayT nB B nO O W G L nC C nD D)
                                                  (Int.tmod len (7 : Int)) (Int.tmod len (11 : Int)) ==
                                                lessC (oddT nB B nO O W G L nC C nD D) (bayT nB B nO O W G L nC C nD D)
                                                  (Int.tmod len (7 : Int)) (Int.tmod len (11 : Int))
                                          else false) =
                                          true,
                                      (if
                                              (chkT nB B nO O W G L nC C nD D len == closesE nB B nO O nC C nD D len) =
                                                true then
                                            if false = true then
                                              !lessC (oddT nB B nO O W G L nC C nD D) (bayT nB B nO O W G L nC C nD D)
                                                    (Int.tmod len (7 : Int)) (Int.tmod len (11 : Int)) ==
                                                  lessC (oddT nB B nO O W G L nC C nD D) (bayT nB B nO O W G L nC C nD D)
                                                    (Int.tmod len (7 : Int)) (Int.tmod len (11 : Int))
                                            else
                                              lessC (oddT nB B nO O W G L nC C nD D) (bayT nB B nO O W G L nC C nD D)
                                                  (Int.tmod len (7 : Int)) (Int.tmod len (11 : Int)) ==
                                                lessC (oddT nB B nO O W G L nC C nD D) (bayT nB B nO O W G L nC C nD D)
                                                  (Int.tmod len (7 : Int)) (Int.tmod len (11 : Int))
                                          else false) =
                                          true →
                                        FnC prog (40 : Nat)
                                          [DV.val
                                              (Value.agg
                                                {
                                                  toList :=
                                                    [Value.int IntKind.i64 (Int.tmod len (7 : Int)),
                                                      Value.int IntKind.i64 (Int.tmod len (11 : Int))] }),
                                            DV.val
                                              (Value.agg
                                                {
                                                  toList :=
                                                    [Value.int IntKind.i64 (oddT nB B nO O W G L nC C nD D),
                                                      Value.int IntKind.i64 (bayT nB B nO O W G L nC C nD D)] })]
                                          (DV.val
                                            (Value.bool
                                              (lessC (Int.tmod len (7 : Int)) (Int.tmod len (11 : Int))
                                                (oddT nB B nO O W G L nC C nD D) (bayT nB B nO O W G L nC C nD D)))),
                                      (if
                                              (chkT nB B nO O W G L nC C nD D len == closesE nB B nO O nC C nD D len) =
                                                true then
                                            if false = true then
                                              !lessC (oddT nB B nO O W G L nC C nD D) (bayT nB B nO O W G L nC C nD D)
                                                    (Int.tmod len (7 : Int)) (Int.tmod len (11 : Int)) ==
                                                  lessC (oddT nB B nO O W G L nC C nD D) (bayT nB B nO O W G L nC C nD D)
                                                    (Int.tmod len (7 : Int)) (Int.tmod len (11 : Int))
                                            else
                                              lessC (oddT nB B nO O W G L nC C nD D) (bayT nB B nO O W G L nC C nD D)
                                                  (Int.tmod len (7 : Int)) (Int.tmod len (11 : Int)) ==
                                                lessC (oddT nB B nO O W G L nC C nD D) (bayT nB B nO O W G L nC C nD D)
                                                  (Int.tmod len (7 : Int)) (Int.tmod len (11 : Int))
                                          else false) =
                                          true →
                                        (if
                                              (chkT nB B nO O W G L nC C nD D len == closesE nB B nO O nC C nD D len) =
                                                true then
                                            if false = true then
                                              !lessC (oddT nB B nO O W G L nC C nD D) (bayT nB B nO O W G L nC C nD D)
                                                    (Int.tmod len (7 : Int)) (Int.tmod len (11 : Int)) ==
                                                  lessC (oddT nB B nO O W G L nC C nD D) (bayT nB B nO O W G L nC C nD D)
                                                    (Int.tmod len (7 : Int)) (Int.tmod len (11 : Int))
                                            else
                                              lessC (oddT nB B nO O W G L nC C nD D) (bayT nB B nO O W G L nC C nD D)
                                                  (Int.tmod len (7 : Int)) (Int.tmod len (11 : Int)) ==
                                                lessC (oddT nB B nO O W G L nC C nD D) (bayT nB B nO O W G L nC C nD D)
                                                  (Int.tmod len (7 : Int)) (Int.tmod len (11 : Int))
                                          else false) =
                                          true,
                                      (if
                                              (chkT nB B nO O W G L nC C nD D len == closesE nB B nO O nC C nD D len) =
                                                true then
                                            if false = true then
                                              !lessC (oddT nB B nO O W G L nC C nD D) (bayT nB B nO O W G L nC C nD D)
                                                    (Int.tmod len (7 : Int)) (Int.tmod len (11 : Int)) ==
                                                  lessC (oddT nB B nO O W G L nC C nD D) (bayT nB B nO O W G L nC C nD D)
                                                    (Int.tmod len (7 : Int)) (Int.tmod len (11 : Int))
                                            else
                                              lessC (oddT nB B nO O W G L nC C nD D) (bayT nB B nO O W G L nC C nD D)
                                                  (Int.tmod len (7 : Int)) (Int.tmod len (11 : Int)) ==
                                                lessC (oddT nB B nO O W G L nC C nD D) (bayT nB B nO O W G L nC C nD D)
                                                  (Int.tmod len (7 : Int)) (Int.tmod len (11 : Int))
                                          else false) =
                                          true →
                                        (if
                                              (chkT nB B nO O W G L nC C nD D len == closesE nB B nO O nC C nD D len) =
                                                true then
                                            if false = true then
                                              !lessC (oddT nB B nO O W G L nC C nD D) (bayT nB B nO O W G L nC C nD D)
                                                    (Int.tmod len (7 : Int)) (Int.tmod len (11 : Int)) ==
                                                  lessC (oddT nB B nO O W G L nC C nD D) (bayT nB B nO O W G L nC C nD D)
                                                    (Int.tmod len (7 : Int)) (Int.tmod len (11 : Int))
                                            else
                                              lessC (oddT nB B nO O W G L nC C nD D) (bayT nB B nO O W G L nC C nD D)
                                                  (Int.tmod len (7 : Int)) (Int.tmod len (11 : Int)) ==
                                                lessC (oddT nB B nO O W G L nC C nD D) (bayT nB B nO O W G L nC C nD D)
                                                  (Int.tmod len (7 : Int)) (Int.tmod len (11 : Int))
                                          else false) =
                                          true,
                                      (if
                                              (chkT nB B nO O W G L nC C nD D len == closesE nB B nO O nC C nD D len) =
                                                true then
                                            if false = true then
                                              !lessC (oddT nB B nO O W G L nC C nD D) (bayT nB B nO O W G L nC C nD D)
                                                    (Int.tmod len (7 : Int)) (Int.tmod len (11 : Int)) ==
                                                  lessC (oddT nB B nO O W G L nC C nD D) (bayT nB B nO O W G L nC C nD D)
                                                    (Int.tmod len (7 : Int)) (Int.tmod len (11 : Int))
                                            else
                                              lessC (oddT nB B nO O W G L nC C nD D) (bayT nB B nO O W G L nC C nD D)
                                                  (Int.tmod len (7 : Int)) (Int.tmod len (11 : Int)) ==
                                                lessC (oddT nB B nO O W G L nC C nD D) (bayT nB B nO O W G L nC C nD D)
                                                  (Int.tmod len (7 : Int)) (Int.tmod len (11 : Int))
                                          else false) =
                                          true →
                                        FnC prog (41 : Nat)
                                          [DV.val
                                              (Value.agg
                                                {
                                                  toList :=
                                                    [Value.int IntKind.i64 (Int.tmod len (7 : Int)),
                                                      Value.int IntKind.i64 (Int.tmod len (11 : Int))] }),
                                            DV.val
                                              (Value.agg
                                                {
                                                  toList :=
                                                    [Value.int IntKind.i64 (oddT nB B nO O W G L nC C nD D),
                                                      Value.int IntKind.i64 (bayT nB B nO O W G L nC C nD D)] })]
                                          (DV.val
                                            (Value.bool
                                              (lessC (Int.tmod len (7 : Int)) (Int.tmod len (11 : Int))
                                                (oddT nB B nO O W G L nC C nD D) (bayT nB B nO O W G L nC C nD D)))),
                                      (if
                                              (chkT nB B nO O W G L nC C nD D len == closesE nB B nO O nC C nD D len) =
                                                true then
                                            if false = true then
                                              !lessC (oddT nB B nO O W G L nC C nD D) (bayT nB B nO O W G L nC C nD D)
                                                    (Int.tmod len (7 : Int)) (Int.tmod len (11 : Int)) ==
                                                  lessC (oddT nB B nO O W G L nC C nD D) (bayT nB B nO O W G L nC C nD D)
                                                    (Int.tmod len (7 : Int)) (Int.tmod len (11 : Int))
                                            else
                                              lessC (oddT nB B nO O W G L nC C nD D) (bayT nB B nO O W G L nC C nD D)
                                                  (Int.tmod len (7 : Int)) (Int.tmod len (11 : Int)) ==
                                                lessC (oddT nB B nO O W G L nC C nD D) (bayT nB B nO O W G L nC C nD D)
                                                  (Int.tmod len (7 : Int)) (Int.tmod len (11 : Int))
                                          else false) =
                                          true →
                                        (if
                                              (chkT nB B nO O W G L nC C nD D len == closesE nB B nO O nC C nD D len) =
                                                true then
                                            if false = true then
                                              !lessC (oddT nB B nO O W G L nC C nD D) (bayT nB B nO O W G L nC C nD D)
                                                    (Int.tmod len (7 : Int)) (Int.tmod len (11 : Int)) ==
                                                  lessC (oddT nB B nO O W G L nC C nD D) (bayT nB B nO O W G L nC C nD D)
                                                    (Int.tmod len (7 : Int)) (Int.tmod len (11 : Int))
                                            else
                                              lessC (oddT nB B nO O W G L nC C nD D) (bayT nB B nO O W G L nC C nD D)
                                                  (Int.tmod len (7 : Int)) (Int.tmod len (11 : Int)) ==
                                                lessC (oddT nB B nO O W G L nC C nD D) (bayT nB B nO O W G L nC C nD D)
                                                  (Int.tmod len (7 : Int)) (Int.tmod len (11 : Int))
                                          else false) =
                                          true,
                                      (if
                                              (chkT nB B nO O W G L nC C nD D len == closesE nB B nO O nC C nD D len) =
                                                true then
                                            if false = true then
                                              !lessC (oddT nB B nO O W G L nC C nD D) (bayT nB B nO O W G L nC C nD D)
                                                    (Int.tmod len (7 : Int)) (Int.tmod len (11 : Int)) ==
                                                  lessC (oddT nB B nO O W G L nC C nD D) (bayT nB B nO O W G L nC C nD D)
                                                    (Int.tmod len (7 : Int)) (Int.tmod len (11 : Int))
                                            else
                                              lessC (oddT nB B nO O W G L nC C nD D) (bayT nB B nO O W G L nC C nD D)
                                                  (Int.tmod len (7 : Int)) (Int.tmod len (11 : Int)) ==
                                                lessC (oddT nB B nO O W G L nC C nD D) (bayT nB B nO O W G L nC C nD D)
                                                  (Int.tmod len (7 : Int)) (Int.tmod len (11 : Int))
                                          else false) =
                                          true →
                                        (if
                                              (chkT nB B nO O W G L nC C nD D len == closesE nB B nO O nC C nD D len) =
                                                true then
                                            if false = true then
                                              !lessC (oddT nB B nO O W G L nC C nD D) (bayT nB B nO O W G L nC C nD D)
                                                    (Int.tmod len (7 : Int)) (Int.tmod len (11 : Int)) ==
                                                  lessC (oddT nB B nO O W G L nC C nD D) (bayT nB B nO O W G L nC C nD D)
                                                    (Int.tmod len (7 : Int)) (Int.tmod len (11 : Int))
                                            else
                                              lessC (oddT nB B nO O W G L nC C nD D) (bayT nB B nO O W G L nC C nD D)
                                                  (Int.tmod len (7 : Int)) (Int.tmod len (11 : Int)) ==
                                                lessC (oddT nB B nO O W G L nC C nD D) (bayT nB B nO O W G L nC C nD D)
                                                  (Int.tmod len (7 : Int)) (Int.tmod len (11 : Int))
                                          else false) =
                                          true,
                                      (if
                                              (chkT nB B nO O W G L nC C nD D len == closesE nB B nO O nC C nD D len) =
                                                true then
                                            if false = true then
                                              !lessC (oddT nB B nO O W G L nC C nD D) (bayT nB B nO O W G L nC C nD D)
                                                    (Int.tmod len (7 : Int)) (Int.tmod len (11 : Int)) ==
                                                  lessC (oddT nB B nO O W G L nC C nD D) (bayT nB B nO O W G L nC C nD D)
                                                    (Int.tmod len (7 : Int)) (Int.tmod len (11 : Int))
                                            else
                                              lessC (oddT nB B nO O W G L nC C nD D) (bayT nB B nO O W G L nC C nD D)
                                                  (Int.tmod len (7 : Int)) (Int.tmod len (11 : Int)) ==
                                                lessC (oddT nB B nO O W G L nC C nD D) (bayT nB B nO O W G L nC C nD D)
                                                  (Int.tmod len (7 : Int)) (Int.tmod len (11 : Int))
                                          else false) =
                                          true →
                                        (if
                                              (chkT nB B nO O W G L nC C nD D len == closesE nB B nO O nC C nD D len) =
                                                true then
                                            if false = true then
                                              !lessC (oddT nB B nO O W G L nC C nD D) (bayT nB B nO O W G L nC C nD D)
                                                    (Int.tmod len (7 : Int)) (Int.tmod len (11 : Int)) ==
                                                  lessC (oddT nB B nO O W G L nC C nD D) (bayT nB B nO O W G L nC C nD D)
                                                    (Int.tmod len (7 : Int)) (Int.tmod len (11 : Int))
                                            else
                                              lessC (oddT nB B nO O W G L nC C nD D) (bayT nB B nO O W G L nC C nD D)
                                                  (Int.tmod len (7 : Int)) (Int.tmod len (11 : Int)) ==
                                                lessC (oddT nB B nO O W G L nC C nD D) (bayT nB B nO O W G L nC C nD D)
                                                  (Int.tmod len (7 : Int)) (Int.tmod len (11 : Int))
                                          else false) =
                                          true]
                                    (VT.done
                                      [(if
                                              (if
                                                    (chkT nB B nO O W G L nC C nD D len ==
                                                        closesE nB B nO O nC C nD D len) =
                                                      true then
                                                  if false = true then
                                                    !lessC (oddT nB B nO O W G L nC C nD D) (bayT nB B nO O W G L nC C nD D)
                                                          (Int.tmod len (7 : Int)) (Int.tmod len (11 : Int)) ==
                                                        lessC (oddT nB B nO O W G L nC C nD D)
                                                          (bayT nB B nO O W G L nC C nD D) (Int.tmod len (7 : Int))
                                                          (Int.tmod len (11 : Int))
                                                  else
                                                    lessC (oddT nB B nO O W G L nC C nD D) (bayT nB B nO O W G L nC C nD D)
                                                        (Int.tmod len (7 : Int)) (Int.tmod len (11 : Int)) ==
                                                      lessC (oddT nB B nO O W G L nC C nD D)
                                                        (bayT nB B nO O W G L nC C nD D) (Int.tmod len (7 : Int))
                                                        (Int.tmod len (11 : Int))
                                                else false) =
                                                true then
                                            if false = true then
                                              !lessC (Int.tmod len (7 : Int)) (Int.tmod len (11 : Int))
                                                    (oddT nB B nO O W G L nC C nD D) (bayT nB B nO O W G L nC C nD D) ==
                                                  lessC (Int.tmod len (7 : Int)) (Int.tmod len (11 : Int))
                                                    (oddT nB B nO O W G L nC C nD D) (bayT nB B nO O W G L nC C nD D)
                                            else
                                              lessC (Int.tmod len (7 : Int)) (Int.tmod len (11 : Int))
                                                  (oddT nB B nO O W G L nC C nD D) (bayT nB B nO O W G L nC C nD D) ==
                                                lessC (Int.tmod len (7 : Int)) (Int.tmod len (11 : Int))
                                                  (oddT nB B nO O W G L nC C nD D) (bayT nB B nO O W G L nC C nD D)
                                          else false) =
                                          true])))))))
                        (VT.ite (sysE nB B nO O W G L != (0 : Int))
                          (VT.need
                            [(bothE nB B nO O W G L nC C nD D == sysE nB B nO O W G L) = true →
                                (bothE nB B nO O W G L nC C nD D == sysE nB B nO O W G L) = true,
                              (bothE nB B nO O W G L nC C nD D == sysE nB B nO O W G L) = true →
                                (bothE nB B nO O W G L nC C nD D == sysE nB B nO O W G L) = true,
                              (bothE nB B nO O W G L nC C nD D == sysE nB B nO O W G L) = true →
                                (bothE nB B nO O W G L nC C nD D == sysE nB B nO O W G L) = true,
                              (if (bothE nB B nO O W G L nC C nD D == sysE nB B nO O W G L) = true then
                                    bothE nB B nO O W G L nC C nD D == sysE nB B nO O W G L
                                  else false) =
                                  true →
                                (if (bothE nB B nO O W G L nC C nD D == sysE nB B nO O W G L) = true then
                                    bothE nB B nO O W G L nC C nD D == sysE nB B nO O W G L
                                  else false) =
                                  true,
                              (if (bothE nB B nO O W G L nC C nD D == sysE nB B nO O W G L) = true then
                                    bothE nB B nO O W G L nC C nD D == sysE nB B nO O W G L
                                  else false) =
                                  true →
                                (if (bothE nB B nO O W G L nC C nD D == sysE nB B nO O W G L) = true then
                                    bothE nB B nO O W G L nC C nD D == sysE nB B nO O W G L
                                  else false) =
                                  true,
                              (if (bothE nB B nO O W G L nC C nD D == sysE nB B nO O W G L) = true then
                                    bothE nB B nO O W G L nC C nD D == sysE nB B nO O W G L
                                  else false) =
                                  true →
                                (if (bothE nB B nO O W G L nC C nD D == sysE nB B nO O W G L) = true then
                                    bothE nB B nO O W G L nC C nD D == sysE nB B nO O W G L
                                  else false) =
                                  true,
                              (if
                                      (if (bothE nB B nO O W G L nC C nD D == sysE nB B nO O W G L) = true then
                                          bothE nB B nO O W G L nC C nD D == sysE nB B nO O W G L
                                        else false) =
                                        true then
                                    chkT nB B nO O W G L nC C nD D len == sysE nB B nO O W G L
                                  else false) =
                                  true →
                                (if
                                      (if (bothE nB B nO O W G L nC C nD D == sysE nB B nO O W G L) = true then
                                          bothE nB B nO O W G L nC C nD D == sysE nB B nO O W G L
                                        else false) =
                                        true then
                                    chkT nB B nO O W G L nC C nD D len == sysE nB B nO O W G L
                                  else false) =
                                  true,
                              (if
                                      (if (bothE nB B nO O W G L nC C nD D == sysE nB B nO O W G L) = true then
                                          bothE nB B nO O W G L nC C nD D == sysE nB B nO O W G L
                                        else false) =
                                        true then
                                    chkT nB B nO O W G L nC C nD D len == sysE nB B nO O W G L
                                  else false) =
                                  true →
                                (if
                                      (if (bothE nB B nO O W G L nC C nD D == sysE nB B nO O W G L) = true then
                                          bothE nB B nO O W G L nC C nD D == sysE nB B nO O W G L
                                        else false) =
                                        true then
                                    chkT nB B nO O W G L nC C nD D len == sysE nB B nO O W G L
                                  else false) =
                                  true,
                              (if
                                      (if
                                            (if (bothE nB B nO O W G L nC C nD D == sysE nB B nO O W G L) = true then
                                                bothE nB B nO O W G L nC C nD D == sysE nB B nO O W G L
                                              else false) =
                                              true then
                                          chkT nB B nO O W G L nC C nD D len == sysE nB B nO O W G L
                                        else false) =
                                        true then
                                    lenT nB B nO O W G L nC C nD D == (0 : Int)
                                  else false) =
                                  true →
                                (if
                                      (if
                                            (if (bothE nB B nO O W G L nC C nD D == sysE nB B nO O W G L) = true then
                                                bothE nB B nO O W G L nC C nD D == sysE nB B nO O W G L
                                              else false) =
                                              true then
                                          chkT nB B nO O W G L nC C nD D len == sysE nB B nO O W G L
                                        else false) =
                                        true then
                                    lenT nB B nO O W G L nC C nD D == (0 : Int)
                                  else false) =
                                  true,
                              (if
                                      (if
                                            (if (bothE nB B nO O W G L nC C nD D == sysE nB B nO O W G L) = true then
                                                bothE nB B nO O W G L nC C nD D == sysE nB B nO O W G L
                                              else false) =
                                              true then
                                          chkT nB B nO O W G L nC C nD D len == sysE nB B nO O W G L
                                        else false) =
                                        true then
                                    lenT nB B nO O W G L nC C nD D == (0 : Int)
                                  else false) =
                                  true →
                                (if
                                      (if
                                            (if (bothE nB B nO O W G L nC C nD D == sysE nB B nO O W G L) = true then
                                                bothE nB B nO O W G L nC C nD D == sysE nB B nO O W G L
                                              else false) =
                                              true then
                                          chkT nB B nO O W G L nC C nD D len == sysE nB B nO O W G L
                                        else false) =
                                        true then
                                    lenT nB B nO O W G L nC C nD D == (0 : Int)
                                  else false) =
                                  true,
                              (if
                                      (if
                                            (if (bothE nB B nO O W G L nC C nD D == sysE nB B nO O W G L) = true then
                                                bothE nB B nO O W G L nC C nD D == sysE nB B nO O W G L
                                              else false) =
                                              true then
                                          chkT nB B nO O W G L nC C nD D len == sysE nB B nO O W G L
                                        else false) =
                                        true then
                                    lenT nB B nO O W G L nC C nD D == (0 : Int)
                                  else false) =
                                  true →
                                (if
                                      (if
                                            (if (bothE nB B nO O W G L nC C nD D == sysE nB B nO O W G L) = true then
                                                bothE nB B nO O W G L nC C nD D == sysE nB B nO O W G L
                                              else false) =
                                              true then
                                          chkT nB B nO O W G L nC C nD D len == sysE nB B nO O W G L
                                        else false) =
                                        true then
                                    lenT nB B nO O W G L nC C nD D == (0 : Int)
                                  else false) =
                                  true]
                            (VT.done
                              [(if
                                      (if
                                            (if
                                                  (if (bothE nB B nO O W G L nC C nD D == sysE nB B nO O W G L) = true then
                                                      bothE nB B nO O W G L nC C nD D == sysE nB B nO O W G L
                                                    else false) =
                                                    true then
                                                chkT nB B nO O W G L nC C nD D len == sysE nB B nO O W G L
                                              else false) =
                                              true then
                                          lenT nB B nO O W G L nC C nD D == (0 : Int)
                                        else false) =
                                        true then
                                    oddT nB B nO O W G L nC C nD D == (0 : Int) &&
                                      (bayT nB B nO O W G L nC C nD D == (0 : Int) && true)
                                  else false) =
                                  true]))
                          (VT.need
                            [(!bothE nB B nO O W G L nC C nD D != (0 : Int)) = true →
                                (!bothE nB B nO O W G L nC C nD D != (0 : Int)) = true,
                              (bothE nB B nO O W G L nC C nD D != (0 : Int)) = false →
                                (!bothE nB B nO O W G L nC C nD D != (0 : Int)) = true,
                              (!if (bothE nB B nO O W G L nC C nD D != (0 : Int)) = true then true
                                    else bothE nB B nO O W G L nC C nD D != (0 : Int)) =
                                  true →
                                (!if (bothE nB B nO O W G L nC C nD D != (0 : Int)) = true then true
                                    else bothE nB B nO O W G L nC C nD D != (0 : Int)) =
                                  true,
                              (!if (bothE nB B nO O W G L nC C nD D != (0 : Int)) = true then true
                                    else bothE nB B nO O W G L nC C nD D != (0 : Int)) =
                                  true →
                                FnC prog (37 : Nat)
                                  [DV.agg
                                      [DV.lst nC [fun (i : Nat) => DV.val (Value.int IntKind.i64 (C i))],
                                        DV.lst nD [fun (i : Nat) => DV.val (Value.int IntKind.i64 (D i))]]]
                                  (DV.val (Value.int IntKind.i64 (sumI C nC + sumI D nD))),
                              (!if (bothE nB B nO O W G L nC C nD D != (0 : Int)) = true then true
                                    else bothE nB B nO O W G L nC C nD D != (0 : Int)) =
                                  true →
                                (!if (bothE nB B nO O W G L nC C nD D != (0 : Int)) = true then true
                                    else bothE nB B nO O W G L nC C nD D != (0 : Int)) =
                                  true,
                              (!if (bothE nB B nO O W G L nC C nD D != (0 : Int)) = true then true
                                    else bothE nB B nO O W G L nC C nD D != (0 : Int)) =
                                  true →
                                (!if (bothE nB B nO O W G L nC C nD D != (0 : Int)) = true then true
                                    else bothE nB B nO O W G L nC C nD D != (0 : Int)) =
                                  true,
                              (if (bothE nB B nO O W G L nC C nD D != (0 : Int)) = true then true
                                  else bothE nB B nO O W G L nC C nD D != (0 : Int)) =
                                  false →
                                (!if (bothE nB B nO O W G L nC C nD D != (0 : Int)) = true then true
                                    else bothE nB B nO O W G L nC C nD D != (0 : Int)) =
                                  true,
                              (!if
                                        (if (bothE nB B nO O W G L nC C nD D != (0 : Int)) = true then true
                                          else bothE nB B nO O W G L nC C nD D != (0 : Int)) =
                                          true then
                                      true
                                    else lenT nB B nO O W G L nC C nD D != sumI C nC + sumI D nD) =
                                  true →
                                (!if
                                        (if (bothE nB B nO O W G L nC C nD D != (0 : Int)) = true then true
                                          else bothE nB B nO O W G L nC C nD D != (0 : Int)) =
                                          true then
                                      true
                                    else lenT nB B nO O W G L nC C nD D != sumI C nC + sumI D nD) =
                                  true,
                              (!if
                                        (if (bothE nB B nO O W G L nC C nD D != (0 : Int)) = true then true
                                          else bothE nB B nO O W G L nC C nD D != (0 : Int)) =
                                          true then
                                      true
                                    else lenT nB B nO O W G L nC C nD D != sumI C nC + sumI D nD) =
                                  true →
                                (!if
                                        (if (bothE nB B nO O W G L nC C nD D != (0 : Int)) = true then true
                                          else bothE nB B nO O W G L nC C nD D != (0 : Int)) =
                                          true then
                                      true
                                    else lenT nB B nO O W G L nC C nD D != sumI C nC + sumI D nD) =
                                  true,
                              (!if
                                        (if (bothE nB B nO O W G L nC C nD D != (0 : Int)) = true then true
                                          else bothE nB B nO O W G L nC C nD D != (0 : Int)) =
                                          true then
                                      true
                                    else lenT nB B nO O W G L nC C nD D != sumI C nC + sumI D nD) =
                                  true →
                                FnC prog (38 : Nat)
                                  [DV.agg
                                      [DV.lst nB [fun (i : Nat) => DV.val (Value.int IntKind.i64 (B i))],
                                        DV.lst nO [fun (i : Nat) => DV.val (Value.int IntKind.i64 (O i))],
                                        DV.val (Value.int IntKind.i64 W), DV.val (Value.int IntKind.i64 G),
                                        DV.val (Value.int IntKind.i64 L)],
                                    DV.agg
                                      [DV.lst nC [fun (i : Nat) => DV.val (Value.int IntKind.i64 (C i))],
                                        DV.lst nD [fun (i : Nat) => DV.val (Value.int IntKind.i64 (D i))]]]
                                  (DV.val
                                    (Value.agg
                                      {
                                        toList :=
                                          [Value.int IntKind.i64 ((↑nD : Int) + cntN C (B (nB - (1 : Nat))) nC),
                                            Value.int IntKind.i64 (↑nC : Int)] })),
                              (!if
                                        (if (bothE nB B nO O W G L nC C nD D != (0 : Int)) = true then true
                                          else bothE nB B nO O W G L nC C nD D != (0 : Int)) =
                                          true then
                                      true
                                    else lenT nB B nO O W G L nC C nD D != sumI C nC + sumI D nD) =
                                  true →
                                (!if
                                        (if (bothE nB B nO O W G L nC C nD D != (0 : Int)) = true then true
                                          else bothE nB B nO O W G L nC C nD D != (0 : Int)) =
                                          true then
                                      true
                                    else lenT nB B nO O W G L nC C nD D != sumI C nC + sumI D nD) =
                                  true,
                              (!if
                                        (if (bothE nB B nO O W G L nC C nD D != (0 : Int)) = true then true
                                          else bothE nB B nO O W G L nC C nD D != (0 : Int)) =
                                          true then
                                      true
                                    else lenT nB B nO O W G L nC C nD D != sumI C nC + sumI D nD) =
                                  true →
                                (!if
                                        (if (bothE nB B nO O W G L nC C nD D != (0 : Int)) = true then true
                                          else bothE nB B nO O W G L nC C nD D != (0 : Int)) =
                                          true then
                                      true
                                    else lenT nB B nO O W G L nC C nD D != sumI C nC + sumI D nD) =
                                  true,
                              (if
                                      (if (bothE nB B nO O W G L nC C nD D != (0 : Int)) = true then true
                                        else bothE nB B nO O W G L nC C nD D != (0 : Int)) =
                                        true then
                                    true
                                  else lenT nB B nO O W G L nC C nD D != sumI C nC + sumI D nD) =
                                  false →
                                (!if
                                        (if (bothE nB B nO O W G L nC C nD D != (0 : Int)) = true then true
                                          else bothE nB B nO O W G L nC C nD D != (0 : Int)) =
                                          true then
                                      true
                                    else lenT nB B nO O W G L nC C nD D != sumI C nC + sumI D nD) =
                                  true]
                            (VT.ite
                              (if
                                  (if
                                        (if (bothE nB B nO O W G L nC C nD D != (0 : Int)) = true then true
                                          else bothE nB B nO O W G L nC C nD D != (0 : Int)) =
                                          true then
                                      true
                                    else lenT nB B nO O W G L nC C nD D != sumI C nC + sumI D nD) =
                                    true then
                                true
                              else
                                !(oddT nB B nO O W G L nC C nD D == (↑nD : Int) + cntN C (B (nB - (1 : Nat))) nC &&
                                    (bayT nB B nO O W G L nC C nD D == (↑nC : Int) && true)))
                              (VT.done [false = true])
                              (VT.need [(7 : Int) ≠ (0 : Int), (11 : Int) ≠ (0 : Int)]
                                (VT.need
                                  [FnC prog (39 : Nat)
                                      [DV.agg
                                          [DV.lst nB [fun (i : Nat) => DV.val (Value.int IntKind.i64 (B i))],
                                            DV.lst nO [fun (i : Nat) => DV.val (Value.int IntKind.i64 (O i))],
                                            DV.val (Value.int IntKind.i64 W), DV.val (Value.int IntKind.i64 G),
                                            DV.val (Value.int IntKind.i64 L)],
                                        DV.val (Value.int IntKind.i64 len),
                                        DV.agg
                                          [DV.lst nC [fun (i : Nat) => DV.val (Value.int IntKind.i64 (C i))],
                                            DV.lst nD [fun (i : Nat) => DV.val (Value.int IntKind.i64 (D i))]]]
                                      (DV.val (Value.int IntKind.i64 (closesE nB B nO O nC C nD D len))),
                                    (chkT nB B nO O W G L nC C nD D len == closesE nB B nO O nC C nD D len) = true →
                                      (chkT nB B nO O W G L nC C nD D len == closesE nB B nO O nC C nD D len) = true,
                                    (chkT nB B nO O W G L nC C nD D len == closesE nB B nO O nC C nD D len) = true →
                                      (chkT nB B nO O W G L nC C nD D len == closesE nB B nO O nC C nD D len) = true,
                                    (chkT nB B nO O W G L nC C nD D len == closesE nB B nO O nC C nD D len) = true →
                                      FnC prog (40 : Nat)
                                        [DV.val
                                            (Value.agg
                                              {
                                                toList :=
                                                  [Value.int IntKind.i64 (oddT nB B nO O W G L nC C nD D),
                                                    Value.int IntKind.i64 (bayT nB B nO O W G L nC C nD D)] }),
                                          DV.val
                                            (Value.agg
                                              {
                                                toList :=
                                                  [Value.int IntKind.i64 (Int.tmod len (7 : Int)),
                                                    Value.int IntKind.i64 (Int.tmod len (11 : Int))] })]
                                        (DV.val
                                          (Value.bool
                                            (lessC (oddT nB B nO O W G L nC C nD D) (bayT nB B nO O W G L nC C nD D)
                                              (Int.tmod len (7 : Int)) (Int.tmod len (11 : Int))))),
                                    (chkT nB B nO O W G L nC C nD D len == closesE nB B nO O nC C nD D len) = true →
                                      (chkT nB B nO O W G L nC C nD D len == closesE nB B nO O nC C nD D len) = true,
                                    (chkT nB B nO O W G L nC C nD D len == closesE nB B nO O nC C nD D len) = true →
                                      (chkT nB B nO O W G L nC C nD D len == closesE nB B nO O nC C nD D len) = true,
                                    (chkT nB B nO O W G L nC C nD D len == closesE nB B nO O nC C nD D len) = true →
                                      FnC prog (41 : Nat)
                                        [DV.val
                                            (Value.agg
                                              {
                                                toList :=
                                                  [Value.int IntKind.i64 (oddT nB B nO O W G L nC C nD D),
                                                    Value.int IntKind.i64 (bayT nB B nO O W G L nC C nD D)] }),
                                          DV.val
                                            (Value.agg
                                              {
                                                toList :=
                                                  [Value.int IntKind.i64 (Int.tmod len (7 : Int)),
                                                    Value.int IntKind.i64 (Int.tmod len (11 : Int))] })]
                                        (DV.val
                                          (Value.bool
                                            (lessC (oddT nB B nO O W G L nC C nD D) (bayT nB B nO O W G L nC C nD D)
                                              (Int.tmod len (7 : Int)) (Int.tmod len (11 : Int))))),
                                    (chkT nB B nO O W G L nC C nD D len == closesE nB B nO O nC C nD D len) = true →
                                      (chkT nB B nO O W G L nC C nD D len == closesE nB B nO O nC C nD D len) = true,
                                    (chkT nB B nO O W G L nC C nD D len == closesE nB B nO O nC C nD D len) = true →
                                      (chkT nB B nO O W G L nC C nD D len == closesE nB B nO O nC C nD D len) = true,
                                    (chkT nB B nO O W G L nC C nD D len == closesE nB B nO O nC C nD D len) = true →
                                      (chkT nB B nO O W G L nC C nD D len == closesE nB B nO O nC C nD D len) = true,
                                    (if (chkT nB B nO O W G L nC C nD D len == closesE nB B nO O nC C nD D len) = true then
                                          if false = true then
                                            !lessC (oddT nB B nO O W G L nC C nD D) (bayT nB B nO O W G L nC C nD D)
                                                  (Int.tmod len (7 : Int)) (Int.tmod len (11 : Int)) ==
                                                lessC (oddT nB B nO O W G L nC C nD D) (bayT nB B nO O W G L nC C nD D)
                                                  (Int.tmod len (7 : Int)) (Int.tmod len (11 : Int))
                                          else
                                            lessC (oddT nB B nO O W G L nC C nD D) (bayT nB B nO O W G L nC C nD D)
                                                (Int.tmod len (7 : Int)) (Int.tmod len (11 : Int)) ==
                                              lessC (oddT nB B nO O W G L nC C nD D) (bayT nB B nO O W G L nC C nD D)
                                                (Int.tmod len (7 : Int)) (Int.tmod len (11 : Int))
                                        else false) =
                                        true →
                                      (if
                                            (chkT nB B nO O W G L nC C nD D len == closesE nB B nO O nC C nD D len) =
                                              true then
                                          if false = true then
                                            !lessC (oddT nB B nO O W G L nC C nD D) (bayT nB B nO O W G L nC C nD D)
                                                  (Int.tmod len (7 : Int)) (Int.tmod len (11 : Int)) ==
                                                lessC (oddT nB B nO O W G L nC C nD D) (bayT nB B nO O W G L nC C nD D)
                                                  (Int.tmod len (7 : Int)) (Int.tmod len (11 : Int))
                                          else
                                            lessC (oddT nB B nO O W G L nC C nD D) (bayT nB B nO O W G L nC C nD D)
                                                (Int.tmod len (7 : Int)) (Int.tmod len (11 : Int)) ==
                                              lessC (oddT nB B nO O W G L nC C nD D) (bayT nB B nO O W G L nC C nD D)
                                                (Int.tmod len (7 : Int)) (Int.tmod len (11 : Int))
                                        else false) =
                                        true,
                                    (if (chkT nB B nO O W G L nC C nD D len == closesE nB B nO O nC C nD D len) = true then
                                          if false = true then
                                            !lessC (oddT nB B nO O W G L nC C nD D) (bayT nB B nO O W G L nC C nD D)
                                                  (Int.tmod len (7 : Int)) (Int.tmod len (11 : Int)) ==
                                                lessC (oddT nB B nO O W G L nC C nD D) (bayT nB B nO O W G L nC C nD D)
                                                  (Int.tmod len (7 : Int)) (Int.tmod len (11 : Int))
                                          else
                                            lessC (oddT nB B nO O W G L nC C nD D) (bayT nB B nO O W G L nC C nD D)
                                                (Int.tmod len (7 : Int)) (Int.tmod len (11 : Int)) ==
                                              lessC (oddT nB B nO O W G L nC C nD D) (bayT nB B nO O W G L nC C nD D)
                                                (Int.tmod len (7 : Int)) (Int.tmod len (11 : Int))
                                        else false) =
                                        true →
                                      (if
                                            (chkT nB B nO O W G L nC C nD D len == closesE nB B nO O nC C nD D len) =
                                              true then
                                          if false = true then
                                            !lessC (oddT nB B nO O W G L nC C nD D) (bayT nB B nO O W G L nC C nD D)
                                                  (Int.tmod len (7 : Int)) (Int.tmod len (11 : Int)) ==
                                                lessC (oddT nB B nO O W G L nC C nD D) (bayT nB B nO O W G L nC C nD D)
                                                  (Int.tmod len (7 : Int)) (Int.tmod len (11 : Int))
                                          else
                                            lessC (oddT nB B nO O W G L nC C nD D) (bayT nB B nO O W G L nC C nD D)
                                                (Int.tmod len (7 : Int)) (Int.tmod len (11 : Int)) ==
                                              lessC (oddT nB B nO O W G L nC C nD D) (bayT nB B nO O W G L nC C nD D)
                                                (Int.tmod len (7 : Int)) (Int.tmod len (11 : Int))
                                        else false) =
                                        true,
                                    (if (chkT nB B nO O W G L nC C nD D len == closesE nB B nO O nC C nD D len) = true then
                                          if false = true then
                                            !lessC (oddT nB B nO O W G L nC C nD D) (bayT nB B nO O W G L nC C nD D)
                                                  (Int.tmod len (7 : Int)) (Int.tmod len (11 : Int)) ==
                                                lessC (oddT nB B nO O W G L nC C nD D) (bayT nB B nO O W G L nC C nD D)
                                                  (Int.tmod len (7 : Int)) (Int.tmod len (11 : Int))
                                          else
                                            lessC (oddT nB B nO O W G L nC C nD D) (bayT nB B nO O W G L nC C nD D)
                                                (Int.tmod len (7 : Int)) (Int.tmod len (11 : Int)) ==
                                              lessC (oddT nB B nO O W G L nC C nD D) (bayT nB B nO O W G L nC C nD D)
                                                (Int.tmod len (7 : Int)) (Int.tmod len (11 : Int))
                                        else false) =
                                        true →
                                      FnC prog (40 : Nat)
                                        [DV.val
                                            (Value.agg
                                              {
                                                toList :=
                                                  [Value.int IntKind.i64 (Int.tmod len (7 : Int)),
                                                    Value.int IntKind.i64 (Int.tmod len (11 : Int))] }),
                                          DV.val
                                            (Value.agg
                                              {
                                                toList :=
                                                  [Value.int IntKind.i64 (oddT nB B nO O W G L nC C nD D),
                                                    Value.int IntKind.i64 (bayT nB B nO O W G L nC C nD D)] })]
                                        (DV.val
                                          (Value.bool
                                            (lessC (Int.tmod len (7 : Int)) (Int.tmod len (11 : Int))
                                              (oddT nB B nO O W G L nC C nD D) (bayT nB B nO O W G L nC C nD D)))),
                                    (if (chkT nB B nO O W G L nC C nD D len == closesE nB B nO O nC C nD D len) = true then
                                          if false = true then
                                            !lessC (oddT nB B nO O W G L nC C nD D) (bayT nB B nO O W G L nC C nD D)
                                                  (Int.tmod len (7 : Int)) (Int.tmod len (11 : Int)) ==
                                                lessC (oddT nB B nO O W G L nC C nD D) (bayT nB B nO O W G L nC C nD D)
                                                  (Int.tmod len (7 : Int)) (Int.tmod len (11 : Int))
                                          else
                                            lessC (oddT nB B nO O W G L nC C nD D) (bayT nB B nO O W G L nC C nD D)
                                                (Int.tmod len (7 : Int)) (Int.tmod len (11 : Int)) ==
                                              lessC (oddT nB B nO O W G L nC C nD D) (bayT nB B nO O W G L nC C nD D)
                                                (Int.tmod len (7 : Int)) (Int.tmod len (11 : Int))
                                        else false) =
                                        true →
                                      (if
                                            (chkT nB B nO O W G L nC C nD D len == closesE nB B nO O nC C nD D len) =
                                              true then
                                          if false = true then
                                            !lessC (oddT nB B nO O W G L nC C nD D) (bayT nB B nO O W G L nC C nD D)
                                                  (Int.tmod len (7 : Int)) (Int.tmod len (11 : Int)) ==
                                                lessC (oddT nB B nO O W G L nC C nD D) (bayT nB B nO O W G L nC C nD D)
                                                  (Int.tmod len (7 : Int)) (Int.tmod len (11 : Int))
                                          else
                                            lessC (oddT nB B nO O W G L nC C nD D) (bayT nB B nO O W G L nC C nD D)
                                                (Int.tmod len (7 : Int)) (Int.tmod len (11 : Int)) ==
                                              lessC (oddT nB B nO O W G L nC C nD D) (bayT nB B nO O W G L nC C nD D)
                                                (Int.tmod len (7 : Int)) (Int.tmod len (11 : Int))
                                        else false) =
                                        true,
                                    (if (chkT nB B nO O W G L nC C nD D len == closesE nB B nO O nC C nD D len) = true then
                                          if false = true then
                                            !lessC (oddT nB B nO O W G L nC C nD D) (bayT nB B nO O W G L nC C nD D)
                                                  (Int.tmod len (7 : Int)) (Int.tmod len (11 : Int)) ==
                                                lessC (oddT nB B nO O W G L nC C nD D) (bayT nB B nO O W G L nC C nD D)
                                                  (Int.tmod len (7 : Int)) (Int.tmod len (11 : Int))
                                          else
                                            lessC (oddT nB B nO O W G L nC C nD D) (bayT nB B nO O W G L nC C nD D)
                                                (Int.tmod len (7 : Int)) (Int.tmod len (11 : Int)) ==
                                              lessC (oddT nB B nO O W G L nC C nD D) (bayT nB B nO O W G L nC C nD D)
                                                (Int.tmod len (7 : Int)) (Int.tmod len (11 : Int))
                                        else false) =
                                        true →
                                      (if
                                            (chkT nB B nO O W G L nC C nD D len == closesE nB B nO O nC C nD D len) =
                                              true then
                                          if false = true then
                                            !lessC (oddT nB B nO O W G L nC C nD D) (bayT nB B nO O W G L nC C nD D)
                                                  (Int.tmod len (7 : Int)) (Int.tmod len (11 : Int)) ==
                                                lessC (oddT nB B nO O W G L nC C nD D) (bayT nB B nO O W G L nC C nD D)
                                                  (Int.tmod len (7 : Int)) (Int.tmod len (11 : Int))
                                          else
                                            lessC (oddT nB B nO O W G L nC C nD D) (bayT nB B nO O W G L nC C nD D)
                                                (Int.tmod len (7 : Int)) (Int.tmod len (11 : Int)) ==
                                              lessC (oddT nB B nO O W G L nC C nD D) (bayT nB B nO O W G L nC C nD D)
                                                (Int.tmod len (7 : Int)) (Int.tmod len (11 : Int))
                                        else false) =
                                        true,
                                    (if (chkT nB B nO O W G L nC C nD D len == closesE nB B nO O nC C nD D len) = true then
                                          if false = true then
                                            !lessC (oddT nB B nO O W G L nC C nD D) (bayT nB B nO O W G L nC C nD D)
                                                  (Int.tmod len (7 : Int)) (Int.tmod len (11 : Int)) ==
                                                lessC (oddT nB B nO O W G L nC C nD D) (bayT nB B nO O W G L nC C nD D)
                                                  (Int.tmod len (7 : Int)) (Int.tmod len (11 : Int))
                                          else
                                            lessC (oddT nB B nO O W G L nC C nD D) (bayT nB B nO O W G L nC C nD D)
                                                (Int.tmod len (7 : Int)) (Int.tmod len (11 : Int)) ==
                                              lessC (oddT nB B nO O W G L nC C nD D) (bayT nB B nO O W G L nC C nD D)
                                                (Int.tmod len (7 : Int)) (Int.tmod len (11 : Int))
                                        else false) =
                                        true →
                                      FnC prog (41 : Nat)
                                        [DV.val
                                            (Value.agg
                                              {
                                                toList :=
                                                  [Value.int IntKind.i64 (Int.tmod len (7 : Int)),
                                                    Value.int IntKind.i64 (Int.tmod len (11 : Int))] }),
                                          DV.val
                                            (Value.agg
                                              {
                                                toList :=
                                                  [Value.int IntKind.i64 (oddT nB B nO O W G L nC C nD D),
                                                    Value.int IntKind.i64 (bayT nB B nO O W G L nC C nD D)] })]
                                        (DV.val
                                          (Value.bool
                                            (lessC (Int.tmod len (7 : Int)) (Int.tmod len (11 : Int))
                                              (oddT nB B nO O W G L nC C nD D) (bayT nB B nO O W G L nC C nD D)))),
                                    (if (chkT nB B nO O W G L nC C nD D len == closesE nB B nO O nC C nD D len) = true then
                                          if false = true then
                                            !lessC (oddT nB B nO O W G L nC C nD D) (bayT nB B nO O W G L nC C nD D)
                                                  (Int.tmod len (7 : Int)) (Int.tmod len (11 : Int)) ==
                                                lessC (oddT nB B nO O W G L nC C nD D) (bayT nB B nO O W G L nC C nD D)
                                                  (Int.tmod len (7 : Int)) (Int.tmod len (11 : Int))
                                          else
                                            lessC (oddT nB B nO O W G L nC C nD D) (bayT nB B nO O W G L nC C nD D)
                                                (Int.tmod len (7 : Int)) (Int.tmod len (11 : Int)) ==
                                              lessC (oddT nB B nO O W G L nC C nD D) (bayT nB B nO O W G L nC C nD D)
                                                (Int.tmod len (7 : Int)) (Int.tmod len (11 : Int))
                                        else false) =
                                        true →
                                      (if
                                            (chkT nB B nO O W G L nC C nD D len == closesE nB B nO O nC C nD D len) =
                                              true then
                                          if false = true then
                                            !lessC (oddT nB B nO O W G L nC C nD D) (bayT nB B nO O W G L nC C nD D)
                                                  (Int.tmod len (7 : Int)) (Int.tmod len (11 : Int)) ==
                                                lessC (oddT nB B nO O W G L nC C nD D) (bayT nB B nO O W G L nC C nD D)
                                                  (Int.tmod len (7 : Int)) (Int.tmod len (11 : Int))
                                          else
                                            lessC (oddT nB B nO O W G L nC C nD D) (bayT nB B nO O W G L nC C nD D)
                                                (Int.tmod len (7 : Int)) (Int.tmod len (11 : Int)) ==
                                              lessC (oddT nB B nO O W G L nC C nD D) (bayT nB B nO O W G L nC C nD D)
                                                (Int.tmod len (7 : Int)) (Int.tmod len (11 : Int))
                                        else false) =
                                        true,
                                    (if (chkT nB B nO O W G L nC C nD D len == closesE nB B nO O nC C nD D len) = true then
                                          if false = true then
                                            !lessC (oddT nB B nO O W G L nC C nD D) (bayT nB B nO O W G L nC C nD D)
                                                  (Int.tmod len (7 : Int)) (Int.tmod len (11 : Int)) ==
                                                lessC (oddT nB B nO O W G L nC C nD D) (bayT nB B nO O W G L nC C nD D)
                                                  (Int.tmod len (7 : Int)) (Int.tmod len (11 : Int))
                                          else
                                            lessC (oddT nB B nO O W G L nC C nD D) (bayT nB B nO O W G L nC C nD D)
                                                (Int.tmod len (7 : Int)) (Int.tmod len (11 : Int)) ==
                                              lessC (oddT nB B nO O W G L nC C nD D) (bayT nB B nO O W G L nC C nD D)
                                                (Int.tmod len (7 : Int)) (Int.tmod len (11 : Int))
                                        else false) =
                                        true →
                                      (if
                                            (chkT nB B nO O W G L nC C nD D len == closesE nB B nO O nC C nD D len) =
                                              true then
                                          if false = true then
                                            !lessC (oddT nB B nO O W G L nC C nD D) (bayT nB B nO O W G L nC C nD D)
                                                  (Int.tmod len (7 : Int)) (Int.tmod len (11 : Int)) ==
                                                lessC (oddT nB B nO O W G L nC C nD D) (bayT nB B nO O W G L nC C nD D)
                                                  (Int.tmod len (7 : Int)) (Int.tmod len (11 : Int))
                                          else
                                            lessC (oddT nB B nO O W G L nC C nD D) (bayT nB B nO O W G L nC C nD D)
                                                (Int.tmod len (7 : Int)) (Int.tmod len (11 : Int)) ==
                                              lessC (oddT nB B nO O W G L nC C nD D) (bayT nB B nO O W G L nC C nD D)
                                                (Int.tmod len (7 : Int)) (Int.tmod len (11 : Int))
                                        else false) =
                                        true,
                                    (if (chkT nB B nO O W G L nC C nD D len == closesE nB B nO O nC C nD D len) = true then
                                          if false = true then
                                            !lessC (oddT nB B nO O W G L nC C nD D) (bayT nB B nO O W G L nC C nD D)
                                                  (Int.tmod len (7 : Int)) (Int.tmod len (11 : Int)) ==
                                                lessC (oddT nB B nO O W G L nC C nD D) (bayT nB B nO O W G L nC C nD D)
                                                  (Int.tmod len (7 : Int)) (Int.tmod len (11 : Int))
                                          else
                                            lessC (oddT nB B nO O W G L nC C nD D) (bayT nB B nO O W G L nC C nD D)
                                                (Int.tmod len (7 : Int)) (Int.tmod len (11 : Int)) ==
                                              lessC (oddT nB B nO O W G L nC C nD D) (bayT nB B nO O W G L nC C nD D)
                                                (Int.tmod len (7 : Int)) (Int.tmod len (11 : Int))
                                        else false) =
                                        true →
                                      (if
                                            (chkT nB B nO O W G L nC C nD D len == closesE nB B nO O nC C nD D len) =
                                              true then
                                          if false = true then
                                            !lessC (oddT nB B nO O W G L nC C nD D) (bayT nB B nO O W G L nC C nD D)
                                                  (Int.tmod len (7 : Int)) (Int.tmod len (11 : Int)) ==
                                                lessC (oddT nB B nO O W G L nC C nD D) (bayT nB B nO O W G L nC C nD D)
                                                  (Int.tmod len (7 : Int)) (Int.tmod len (11 : Int))
                                          else
                                            lessC (oddT nB B nO O W G L nC C nD D) (bayT nB B nO O W G L nC C nD D)
                                                (Int.tmod len (7 : Int)) (Int.tmod len (11 : Int)) ==
                                              lessC (oddT nB B nO O W G L nC C nD D) (bayT nB B nO O W G L nC C nD D)
                                                (Int.tmod len (7 : Int)) (Int.tmod len (11 : Int))
                                        else false) =
                                        true]
                                  (VT.done
                                    [(if
                                            (if
                                                  (chkT nB B nO O W G L nC C nD D len == closesE nB B nO O nC C nD D len) =
                                                    true then
                                                if false = true then
                                                  !lessC (oddT nB B nO O W G L nC C nD D) (bayT nB B nO O W G L nC C nD D)
                                                        (Int.tmod len (7 : Int)) (Int.tmod len (11 : Int)) ==
                                                      lessC (oddT nB B nO O W G L nC C nD D)
                                                        (bayT nB B nO O W G L nC C nD D) (Int.tmod len (7 : Int))
                                                        (Int.tmod len (11 : Int))
                                                else
                                                  lessC (oddT nB B nO O W G L nC C nD D) (bayT nB B nO O W G L nC C nD D)
                                                      (Int.tmod len (7 : Int)) (Int.tmod len (11 : Int)) ==
                                                    lessC (oddT nB B nO O W G L nC C nD D) (bayT nB B nO O W G L nC C nD D)
                                                      (Int.tmod len (7 : Int)) (Int.tmod len (11 : Int))
                                              else false) =
                                              true then
                                          if false = true then
                                            !lessC (Int.tmod len (7 : Int)) (Int.tmod len (11 : Int))
                                                  (oddT nB B nO O W G L nC C nD D) (bayT nB B nO O W G L nC C nD D) ==
                                                lessC (Int.tmod len (7 : Int)) (Int.tmod len (11 : Int))
                                                  (oddT nB B nO O W G L nC C nD D) (bayT nB B nO O W G L nC C nD D)
                                          else
                                            lessC (Int.tmod len (7 : Int)) (Int.tmod len (11 : Int))
                                                (oddT nB B nO O W G L nC C nD D) (bayT nB B nO O W G L nC C nD D) ==
                                              lessC (Int.tmod len (7 : Int)) (Int.tmod len (11 : Int))
                                                (oddT nB B nO O W G L nC C nD D) (bayT nB B nO O W G L nC C nD D)
                                        else false) =
                                        true]))))))))))))))) (by kernel_rfl) ?_
  simp only [VT.holds, AllT, imp_self, implies_true, and_true, true_and, toNat_succ, toNat_add2, toNat_zero', Int.toNat_natCast, Bool.if_true_left, Bool.if_false_right, Bool.decide_eq_true, Bool.or_eq_true, Bool.or_eq_false_iff, Bool.and_eq_true, Bool.and_eq_false_imp, Bool.not_eq_true', Bool.not_eq_false', Bool.not_not, bne_iff_ne, bne_eq_false_iff_eq, beq_iff_eq, beq_eq_false_iff_ne, decide_eq_true_eq, decide_eq_false_iff_not, ne_eq, Bool.false_eq_true, if_false, Classical.not_not]
  refine ⟨awake_c, fun h => (by cases h), fun _ => ⟨⟨few_c nB B nO O W G L, fun _ => short_c nC C nD D⟩, fun ⟨⟨f1, f2⟩, f3, f4⟩ => ?_⟩⟩
  have cp := copied_c nB B nO O W G L (by omega) (by omega)
  have cl := closing_c nC C nD D (by omega) (by omega)
  refine ⟨⟨cp, cl, lengthTop_c nB B nO O W G L nC C nD D (by omega) (by omega)⟩, ⟨cp, cl, costTop_c nB B nO O W G L nC C nD D (by omega) (by omega)⟩, ⟨cp, cl, checkTop_c nB B nO O W G L len nC C nD D (by omega) (by omega)⟩, systemR_c nB B nO O W G L, fun h => ⟨ckR_c nB B nO O W G L nC C nD D (by omega) (by omega) (by omega) (by omega), fun h2 => ?_, fun h2 => ?_⟩, fun h => ⟨fun _ => ?_, fun h2 => absurd h2 h⟩⟩
  · have b : bothE nB B nO O W G L nC C nD D = ckE nB B nO O nC C nD D := by rw [bothE, if_pos h]
    have b0 : ¬ bothE nB B nO O W G L nC C nD D = 0 := by rw [b]; exact h2
    exact ⟨⟨⟨⟨b, b⟩, by rw [chkT, if_pos h, closesE, if_neg h2]⟩, by rw [lenT, if_neg b0]⟩, by rw [oddT, if_neg b0], by rw [bayT, if_neg b0]⟩
  · have b : bothE nB B nO O W G L nC C nD D = 0 := by rw [bothE, if_pos h, h2]
    obtain ⟨bC, bD⟩ := ck_bd h h2
    obtain ⟨s1, s2, s3, _⟩ := sys_ok h
    have e1 : lenT nB B nO O W G L nC C nD D = sumI C nC + sumI D nD := by rw [lenT, if_pos b]
    have e2 : oddT nB B nO O W G L nC C nD D = nD + cntN C (B (nB - 1)) nC := by rw [oddT, if_pos b]
    have e3 : bayT nB B nO O W G L nC C nD D = nC := by rw [bayT, if_pos b]
    have e4 : chkT nB B nO O W G L nC C nD D len = closesE nB B nO O nC C nD D len := by rw [chkT, if_pos h]
    refine ⟨⟨fun _ => sumR_c nC C nD D (by omega) (by omega) bC bD, fun _ => costR_c nB B nO O W G L nC C nD D s1 (by omega) (by omega) (by omega)⟩, fun hx => ?_, fun _ => ⟨⟨by omega, by omega⟩, ⟨checkR_c nB B nO O W G L len nC C nD D h (by omega) (by omega), fun _ => less_c _ _ _ _, fun _ => lessR_c _ _ _ _, fun _ => less_c _ _ _ _, fun _ => lessR_c _ _ _ _⟩, e4⟩⟩
    · rcases hx with ((hx | hx) | hx) | hx
      · exact absurd b hx
      · exact absurd b hx
      · exact absurd e1 hx
      · exact absurd (hx e2 e3) (by simp)
  · have b : bothE nB B nO O W G L nC C nD D = sysE nB B nO O W G L := by rw [bothE, if_neg h]
    have b0 : ¬ bothE nB B nO O W G L nC C nD D = 0 := by rw [b]; exact h
    exact ⟨⟨⟨⟨b, b⟩, by rw [chkT, if_neg h]⟩, by rw [lenT, if_neg b0]⟩, by rw [oddT, if_neg b0], by rw [bayT, if_neg b0]⟩
end Go.Abs
