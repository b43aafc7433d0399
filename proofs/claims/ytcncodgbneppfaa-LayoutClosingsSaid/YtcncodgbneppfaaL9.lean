/- Contracts. -/
import Derived.Test.YtcncodgbneppfaaL8
set_option linter.unusedVariables false
set_option linter.unusedSimpArgs false
set_option maxRecDepth 100000
namespace Go.Abs
open Go
abbrev plB (i : Nat) : Int := [1000, 2500].getD i 0
abbrev plO (_ : Nat) : Int := 500
abbrev plain : DV := sys 2 plB 1 plO 700 300 2000
def plT (k : Nat) : Int := [0, 10000, 10001, 20001, 20002, 1, 10001].getD k 0
def rPlain : Orc := .res fun _ => plain
theorem plain_sys : sysE 2 plB 1 plO 700 300 2000 = 0 := by decide +kernel
theorem plain_unit : unitP 2 plB 1 plO 3 = 500 := by decide +kernel
theorem plain_meas (len : Int) (h : 0 ≤ len) (h2 : len ≤ 2000000) : measE 2 plB 1 plO 700 300 2000 len = 0 := by
  rw [measE, if_pos plain_sys, plain_unit, if_neg (by omega), if_neg (by omega)]
theorem plain_ways : waysS 2 plB 1 plO 2000 = 3 := by decide +kernel
theorem plain_tab : ∀ k, k < 7 → tabS 2 plB 1 plO k = plT k := by decide +kernel
def rFew : Orc := .res fun l => dB (decide (gB l ≤ 12 ∧ gO l ≤ 12))
def rCopied : Orc := .res fun l => sys (gB l) (gBf l) (gO l) (gOf l) (gW l) (gG l) (gL l)
def rWaysTop : Orc := .res fun l => .tup [dI (waysV (gB l) (gBf l) (gO l) (gOf l) (gW l) (gG l) (gL l) (aI l 1)), dI (waysE (gB l) (gBf l) (gO l) (gOf l) (gW l) (gG l) (gL l) (aI l 1))]
def rTableTop : Orc := .res fun l => .tup [.lst (tabN (gB l) (gBf l) (gO l) (gOf l) (gW l) (gG l) (gL l) (aI l 1)) [fun k => .val (.int .i64 (tabS (gB l) (gBf l) (gO l) (gOf l) k))], dI (measE (gB l) (gBf l) (gO l) (gOf l) (gW l) (gG l) (gL l) (aI l 1))]
def gapN (nB : Nat) (B : Nat → Int) (nO : Nat) (O : Nat → Int) (W G L len : Int) : Nat := (gapsL (tabS nB B nO O) (tabN nB B nO O W G L len)).length
def gapF (nB : Nat) (B : Nat → Int) (nO : Nat) (O : Nat → Int) (W G L len : Int) (j : Nat) : Int := ((gapsL (tabS nB B nO O) (tabN nB B nO O W G L len)).getD j 0 : Nat) * (unitP nB B nO O (nB + nO) : Nat)
def rGapsTop : Orc := .res fun l => .tup [.lst (gapN (gB l) (gBf l) (gO l) (gOf l) (gW l) (gG l) (gL l) (aI l 1)) [fun k => .val (.int .i64 (gapF (gB l) (gBf l) (gO l) (gOf l) (gW l) (gG l) (gL l) (aI l 1) k))], dI (measE (gB l) (gBf l) (gO l) (gOf l) (gW l) (gG l) (gL l) (aI l 1))]
def rLenR : Orc := .res fun l => dI (lenR (gB l) (gBf l) (gO l) (gOf l) (aI l 1))
def rWaysR : Orc := .res fun l => .tup [dI (waysRV (gB l) (gBf l) (gO l) (gOf l) (aI l 1)), dI (waysRE (gB l) (gBf l) (gO l) (gOf l) (aI l 1))]
def gapRN (nB : Nat) (B : Nat → Int) (nO : Nat) (O : Nat → Int) (len : Int) : Nat := (gapsL (tabRS nB B nO O) (len / (uR nB B nO O : Int) + 1).toNat).length
def gapRF (nB : Nat) (B : Nat → Int) (nO : Nat) (O : Nat → Int) (len : Int) (j : Nat) : Int := ((gapsL (tabRS nB B nO O) (len / (uR nB B nO O : Int) + 1).toNat).getD j 0 : Nat) * (uR nB B nO O : Nat)
def rGapsR : Orc := .res fun l => .lst (gapRN (gB l) (gBf l) (gO l) (gOf l) (aI l 1)) [fun k => .val (.int .i64 (gapRF (gB l) (gBf l) (gO l) (gOf l) (aI l 1) k))]
def rInts : Orc := .res fun l => dB (sameN (aN l) (aX l) (lenOf (arg l 1)) (colI 0 (arg l 1)))
theorem measE_eq (nB : Nat) (B : Nat → Int) (nO : Nat) (O : Nat → Int) (W G L len : Int) : measE nB B nO O W G L len = if sysE nB B nO O W G L = 0 then lenR nB B nO O len else sysE nB B nO O W G L := by
  unfold measE lenR
  rw [unit_eq]
theorem tabS_eq (nB : Nat) (B : Nat → Int) (nO : Nat) (O : Nat → Int) : tabS nB B nO O = tabRS nB B nO O := by
  funext k
  unfold tabS tabRS
  rw [table_eq, unit_eq]; rfl
theorem waysS_eq (nB : Nat) (B : Nat → Int) (nO : Nat) (O : Nat → Int) (len : Int) : waysS nB B nO O len = waysRS nB B nO O len := by
  unfold waysS waysRS
  rw [ways_eq, unit_eq]; rfl
theorem tabN_eq {nB : Nat} {B : Nat → Int} {nO : Nat} {O : Nat → Int} {W G L len : Int} (h : measE nB B nO O W G L len = 0) : tabN nB B nO O W G L len = (len / (unitR nB B O (nB + nO) : Int) + 1).toNat := by
  rw [tabN, if_pos h, unit_eq]
theorem same_refl (n : Nat) (A : Nat → Int) : sameN n A n A = true := decide_eq_true ⟨rfl, fun _ _ => rfl⟩
noncomputable def A11_awake_c  : Ann := { orc := [(1, [(0, rPlain), (1, .res fun _ => .tup [nums 7 (tabS 2 plB 1 plO), dI 0])]), (2, [(0, rPlain), (1, .res fun _ => .tup [dI 3, dI 0])]), (3, [(0, rPlain), (4, .res fun _ => .tup [dP 2 2, dI 0])]), (4, [(5, .res fun _ => dB true)])], loops := [], cuts := [] }
theorem awake_c   : FnC prog 11 [] (dB true) := by
  refine FnC_owed hmix (A11_awake_c ) (V := VT.need
        [FnC prog (57 : Nat) []
            (DV.agg
              [DV.lst (2 : Nat)
                  [fun (i : Nat) => DV.val (Value.int IntKind.i64 (List.getD [(1000 : Int), (2500 : Int)] i (0 : Int)))],
                DV.lst (1 : Nat) [fun (i : Nat) => DV.val (Value.int IntKind.i64 (500 : Int))],
                DV.val (Value.int IntKind.i64 (700 : Int)), DV.val (Value.int IntKind.i64 (300 : Int)),
                DV.val (Value.int IntKind.i64 (2000 : Int))]),
          FnC prog (18 : Nat)
            [DV.agg
                [DV.lst (2 : Nat)
                    [fun (i : Nat) => DV.val (Value.int IntKind.i64 (List.getD [(1000 : Int), (2500 : Int)] i (0 : Int)))],
                  DV.lst (1 : Nat) [fun (i : Nat) => DV.val (Value.int IntKind.i64 (500 : Int))],
                  DV.val (Value.int IntKind.i64 (700 : Int)), DV.val (Value.int IntKind.i64 (300 : Int)),
                  DV.val (Value.int IntKind.i64 (2000 : Int))],
              DV.val (Value.int IntKind.i64 (3000 : Int))]
            (DV.tup
              [DV.lst (7 : Nat)
                  [fun (i : Nat) =>
                    DV.val
                      (Value.int IntKind.i64
                        (tabS (2 : Nat) (fun (i : Nat) => List.getD [(1000 : Int), (2500 : Int)] i (0 : Int)) (1 : Nat)
                          (fun (x : Nat) => (500 : Int)) i))],
                DV.val (Value.int IntKind.i64 (0 : Int))])]
        (VT.need
          [FnC prog (57 : Nat) []
              (DV.agg
                [DV.lst (2 : Nat)
                    [fun (i : Nat) => DV.val (Value.int IntKind.i64 (List.getD [(1000 : Int), (2500 : Int)] i (0 : Int)))],
                  DV.lst (1 : Nat) [fun (i : Nat) => DV.val (Value.int IntKind.i64 (500 : Int))],
                  DV.val (Value.int IntKind.i64 (700 : Int)), DV.val (Value.int IntKind.i64 (300 : Int)),
                  DV.val (Value.int IntKind.i64 (2000 : Int))]),
            FnC prog (13 : Nat)
              [DV.agg
                  [DV.lst (2 : Nat)
                      [fun (i : Nat) =>
                        DV.val (Value.int IntKind.i64 (List.getD [(1000 : Int), (2500 : Int)] i (0 : Int)))],
                    DV.lst (1 : Nat) [fun (i : Nat) => DV.val (Value.int IntKind.i64 (500 : Int))],
                    DV.val (Value.int IntKind.i64 (700 : Int)), DV.val (Value.int IntKind.i64 (300 : Int)),
                    DV.val (Value.int IntKind.i64 (2000 : Int))],
                DV.val (Value.int IntKind.i64 (2000 : Int))]
              (DV.tup [DV.val (Value.int IntKind.i64 (3 : Int)), DV.val (Value.int IntKind.i64 (0 : Int))])]
          (VT.need
            [FnC prog (57 : Nat) []
                (DV.agg
                  [DV.lst (2 : Nat)
                      [fun (i : Nat) =>
                        DV.val (Value.int IntKind.i64 (List.getD [(1000 : Int), (2500 : Int)] i (0 : Int)))],
                    DV.lst (1 : Nat) [fun (i : Nat) => DV.val (Value.int IntKind.i64 (500 : Int))],
                    DV.val (Value.int IntKind.i64 (700 : Int)), DV.val (Value.int IntKind.i64 (300 : Int)),
                    DV.val (Value.int IntKind.i64 (2000 : Int))]),
              (2 : Nat) ≤ (2 : Nat), (1 : Nat) ≤ (1 : Nat),
              FnC prog (34 : Nat)
                [DV.agg
                    [DV.lst (2 : Nat)
                        [fun (i : Nat) =>
                          DV.val (Value.int IntKind.i64 (List.getD [(1000 : Int), (2500 : Int)] i (0 : Int)))],
                      DV.lst (1 : Nat) [fun (i : Nat) => DV.val (Value.int IntKind.i64 (500 : Int))],
                      DV.val (Value.int IntKind.i64 (700 : Int)), DV.val (Value.int IntKind.i64 (300 : Int)),
                      DV.val (Value.int IntKind.i64 (2000 : Int))],
                  DV.agg
                    [DV.lst (2 : Nat)
                        [fun (a : Nat) =>
                          DV.val (Value.int IntKind.i64 (List.getD [(2500 : Int), (1000 : Int)] a (0 : Int)))],
                      DV.lst (1 : Nat) [fun (a : Nat) => DV.val (Value.int IntKind.i64 (500 : Int))]]]
                (DV.tup
                  [DV.val (Value.agg { toList := [Value.int IntKind.i64 (2 : Int), Value.int IntKind.i64 (2 : Int)] }),
                    DV.val (Value.int IntKind.i64 (0 : Int))])]
            (VT.need
              [((0 : Int) == (0 : Int)) = true, ((0 : Int) == (0 : Int)) = true → ((0 : Int) == (0 : Int)) = true,
                ((0 : Int) == (0 : Int)) = true → ((0 : Int) == (0 : Int)) = true,
                ((0 : Int) == (0 : Int)) = true → (7 : Nat) ≤ (7 : Nat),
                ((0 : Int) == (0 : Int)) = true →
                  FnC prog (20 : Nat)
                    [DV.lst (7 : Nat)
                        [fun (i : Nat) =>
                          DV.val
                            (Value.int IntKind.i64
                              (tabS (2 : Nat) (fun (i : Nat) => List.getD [(1000 : Int), (2500 : Int)] i (0 : Int))
                                (1 : Nat) (fun (x : Nat) => (500 : Int)) i))],
                      DV.lst (7 : Nat)
                        [fun (a : Nat) =>
                          DV.val
                            (Value.int IntKind.i64
                              (List.getD
                                [(0 : Int), (10000 : Int), (10001 : Int), (20001 : Int), (20002 : Int), (1 : Int),
                                  (10001 : Int)]
                                a (0 : Int)))]]
                    (DV.val (Value.bool true)),
                ((0 : Int) == (0 : Int)) = true → ((0 : Int) == (0 : Int)) = true,
                (if ((0 : Int) == (0 : Int)) = true then true else false) = true →
                  (if ((0 : Int) == (0 : Int)) = true then true else false) = true,
                (if ((0 : Int) == (0 : Int)) = true then true else false) = true →
                  (if ((0 : Int) == (0 : Int)) = true then true else false) = true,
                (if (if ((0 : Int) == (0 : Int)) = true then true else false) = true then (0 : Int) == (0 : Int)
                    else false) =
                    true →
                  (if (if ((0 : Int) == (0 : Int)) = true then true else false) = true then (0 : Int) == (0 : Int)
                    else false) =
                    true,
                (if (if ((0 : Int) == (0 : Int)) = true then true else false) = true then (0 : Int) == (0 : Int)
                    else false) =
                    true →
                  (if (if ((0 : Int) == (0 : Int)) = true then true else false) = true then (0 : Int) == (0 : Int)
                    else false) =
                    true,
                (if
                        (if (if ((0 : Int) == (0 : Int)) = true then true else false) = true then (0 : Int) == (0 : Int)
                          else false) =
                          true then
                      (3 : Int) == (3 : Int)
                    else false) =
                    true →
                  (if
                        (if (if ((0 : Int) == (0 : Int)) = true then true else false) = true then (0 : Int) == (0 : Int)
                          else false) =
                          true then
                      (3 : Int) == (3 : Int)
                    else false) =
                    true,
                (if
                        (if (if ((0 : Int) == (0 : Int)) = true then true else false) = true then (0 : Int) == (0 : Int)
                          else false) =
                          true then
                      (3 : Int) == (3 : Int)
                    else false) =
                    true →
                  (if
                        (if (if ((0 : Int) == (0 : Int)) = true then true else false) = true then (0 : Int) == (0 : Int)
                          else false) =
                          true then
                      (3 : Int) == (3 : Int)
                    else false) =
                    true,
                (if
                        (if
                              (if (if ((0 : Int) == (0 : Int)) = true then true else false) = true then
                                  (0 : Int) == (0 : Int)
                                else false) =
                                true then
                            (3 : Int) == (3 : Int)
                          else false) =
                          true then
                      (0 : Int) == (0 : Int)
                    else false) =
                    true →
                  (if
                        (if
                              (if (if ((0 : Int) == (0 : Int)) = true then true else false) = true then
                                  (0 : Int) == (0 : Int)
                                else false) =
                                true then
                            (3 : Int) == (3 : Int)
                          else false) =
                          true then
                      (0 : Int) == (0 : Int)
                    else false) =
                    true,
                (if
                        (if
                              (if (if ((0 : Int) == (0 : Int)) = true then true else false) = true then
                                  (0 : Int) == (0 : Int)
                                else false) =
                                true then
                            (3 : Int) == (3 : Int)
                          else false) =
                          true then
                      (0 : Int) == (0 : Int)
                    else false) =
                    true →
                  (if
                        (if
                              (if (if ((0 : Int) == (0 : Int)) = true then true else false) = true then
                                  (0 : Int) == (0 : Int)
                                else false) =
                                true then
                            (3 : Int) == (3 : Int)
                          else false) =
                          true then
                      (0 : Int) == (0 : Int)
                    else false) =
                    true,
                (if
                        (if
                              (if (if ((0 : Int) == (0 : Int)) = true then true else false) = true then
                                  (0 : Int) == (0 : Int)
                                else false) =
                                true then
                            (3 : Int) == (3 : Int)
                          else false) =
                          true then
                      (0 : Int) == (0 : Int)
                    else false) =
                    true →
                  (if
                        (if
                              (if (if ((0 : Int) == (0 : Int)) = true then true else false) = true then
                                  (0 : Int) == (0 : Int)
                                else false) =
                                true then
                            (3 : Int) == (3 : Int)
                          else false) =
                          true then
                      (0 : Int) == (0 : Int)
                    else false) =
                    true]
              (VT.done
                [(if
                        (if
                              (if
                                    (if (if ((0 : Int) == (0 : Int)) = true then true else false) = true then
                                        (0 : Int) == (0 : Int)
                                      else false) =
                                      true then
                                  (3 : Int) == (3 : Int)
                                else false) =
                                true then
                            (0 : Int) == (0 : Int)
                          else false) =
                          true then
                      (2 : Int) == (2 : Int) && ((2 : Int) == (2 : Int) && true)
                    else false) =
                    true]))))) (by kernel_rfl) ?_
  simp only [VT.holds, AllT, imp_self, implies_true, and_true, true_and, toNat_succ, toNat_add2, toNat_zero', Int.toNat_natCast, Bool.if_true_left, Bool.if_false_right, Bool.decide_eq_true, Bool.or_eq_true, Bool.or_eq_false_iff, Bool.and_eq_true, Bool.and_eq_false_imp, Bool.not_eq_true', Bool.not_eq_false', Bool.not_not, bne_iff_ne, bne_eq_false_iff_eq, beq_iff_eq, beq_eq_false_iff_ne, decide_eq_true_eq, decide_eq_false_iff_not, ne_eq]
  have p := plain_c
  have t := tableTop_c 2 plB 1 plO 700 300 2000 3000
  have w := waysTop_c 2 plB 1 plO 700 300 2000 2000
  have c := costTop_c 2 plB 1 plO 700 300 2000 2 (fun a => [2500, 1000].getD a 0) 1 (fun _ => 500) (by omega) (by omega)
  rw [show tabN 2 plB 1 plO 700 300 2000 3000 = 7 by rw [tabN, if_pos (plain_meas _ (by omega) (by omega)), plain_unit]; rfl, plain_meas _ (by omega) (by omega)] at t
  rw [show waysE 2 plB 1 plO 700 300 2000 2000 = 0 by rw [waysE, if_pos (plain_meas _ (by omega) (by omega)), plain_unit, if_pos (by decide), plain_ways]; rfl,
    show waysV 2 plB 1 plO 700 300 2000 2000 = 3 by rw [waysV, if_pos (plain_meas _ (by omega) (by omega)), plain_unit, if_pos (by decide), plain_ways]; rfl] at w
  have hb : bothE 2 plB 1 plO 700 300 2000 2 (fun a => [2500, 1000].getD a 0) 1 (fun _ => 500) = 0 := by decide +kernel
  rw [hb, if_pos rfl, if_pos rfl] at c
  have hi := ints_c 7 (tabS 2 plB 1 plO) 7 plT (by omega)
  rw [show sameN 7 (tabS 2 plB 1 plO) 7 plT = true from decide_eq_true ⟨rfl, plain_tab⟩] at hi
  exact ⟨⟨p, t⟩, ⟨p, w⟩, ⟨p, Nat.le_refl _, Nat.le_refl _, c⟩, fun _ => Nat.le_refl _, fun _ => hi⟩
noncomputable def A3_layoutWays_c (nB : Nat) (B : Nat → Int) (nO : Nat) (O : Nat → Int) (W G L len : Int) : Ann := { orc := [(1, [(0, .res fun _ => dB true)]), (3, [(1, rFew)]), (5, [(1, rCopied), (3, rWaysTop)]), (6, [(1, rSys)]), (8, [(2, rLenR)]), (11, [(2, rWaysR)])], loops := [], cuts := [] }
theorem layoutWays_c (nB : Nat) (B : Nat → Int) (nO : Nat) (O : Nat → Int) (W G L len : Int)  : FnC prog 3 [sys nB B nO O W G L, dI len] (dB true) := by
  refine FnC_owed hmix (A3_layoutWays_c nB B nO O W G L len) (V := VT.need [FnC prog (11 : Nat) [] (DV.val (Value.bool true))]
        (VT.ite (!true) (VT.done [false = true])
          (VT.need
            [FnC prog (12 : Nat)
                [DV.agg
                    [DV.lst nB [fun (i : Nat) => DV.val (Value.int IntKind.i64 (B i))],
                      DV.lst nO [fun (i : Nat) => DV.val (Value.int IntKind.i64 (O i))], DV.val (Value.int IntKind.i64 W),
                      DV.val (Value.int IntKind.i64 G), DV.val (Value.int IntKind.i64 L)]]
                (DV.val (Value.bool (decide (nB ≤ (12 : Nat) ∧ nO ≤ (12 : Nat)))))]
            (VT.ite (!decide (nB ≤ (12 : Nat) ∧ nO ≤ (12 : Nat))) (VT.done [true = true])
              (VT.need
                [FnC prog (14 : Nat)
                    [DV.agg
                        [DV.lst nB [fun (i : Nat) => DV.val (Value.int IntKind.i64 (B i))],
                          DV.lst nO [fun (i : Nat) => DV.val (Value.int IntKind.i64 (O i))],
                          DV.val (Value.int IntKind.i64 W), DV.val (Value.int IntKind.i64 G),
                          DV.val (Value.int IntKind.i64 L)]]
                    (DV.agg
                      [DV.lst nB [fun (i : Nat) => DV.val (Value.int IntKind.i64 (B i))],
                        DV.lst nO [fun (i : Nat) => DV.val (Value.int IntKind.i64 (O i))], DV.val (Value.int IntKind.i64 W),
                        DV.val (Value.int IntKind.i64 G), DV.val (Value.int IntKind.i64 L)]),
                  FnC prog (13 : Nat)
                    [DV.agg
                        [DV.lst nB [fun (i : Nat) => DV.val (Value.int IntKind.i64 (B i))],
                          DV.lst nO [fun (i : Nat) => DV.val (Value.int IntKind.i64 (O i))],
                          DV.val (Value.int IntKind.i64 W), DV.val (Value.int IntKind.i64 G),
                          DV.val (Value.int IntKind.i64 L)],
                      DV.val (Value.int IntKind.i64 len)]
                    (DV.tup
                      [DV.val (Value.int IntKind.i64 (waysV nB B nO O W G L len)),
                        DV.val (Value.int IntKind.i64 (waysE nB B nO O W G L len))])]
                (VT.need
                  [FnC prog (15 : Nat)
                      [DV.agg
                          [DV.lst nB [fun (i : Nat) => DV.val (Value.int IntKind.i64 (B i))],
                            DV.lst nO [fun (i : Nat) => DV.val (Value.int IntKind.i64 (O i))],
                            DV.val (Value.int IntKind.i64 W), DV.val (Value.int IntKind.i64 G),
                            DV.val (Value.int IntKind.i64 L)]]
                      (DV.val (Value.int IntKind.i64 (sysE nB B nO O W G L)))]
                  (VT.ite (sysE nB B nO O W G L == (0 : Int))
                    (VT.need
                      [FnC prog (16 : Nat)
                          [DV.agg
                              [DV.lst nB [fun (i : Nat) => DV.val (Value.int IntKind.i64 (B i))],
                                DV.lst nO [fun (i : Nat) => DV.val (Value.int IntKind.i64 (O i))],
                                DV.val (Value.int IntKind.i64 W), DV.val (Value.int IntKind.i64 G),
                                DV.val (Value.int IntKind.i64 L)],
                            DV.val (Value.int IntKind.i64 len)]
                          (DV.val (Value.int IntKind.i64 (lenR nB B nO O len)))]
                      (VT.ite (lenR nB B nO O len == (0 : Int))
                        (VT.need
                          [FnC prog (17 : Nat)
                              [DV.agg
                                  [DV.lst nB [fun (i : Nat) => DV.val (Value.int IntKind.i64 (B i))],
                                    DV.lst nO [fun (i : Nat) => DV.val (Value.int IntKind.i64 (O i))],
                                    DV.val (Value.int IntKind.i64 W), DV.val (Value.int IntKind.i64 G),
                                    DV.val (Value.int IntKind.i64 L)],
                                DV.val (Value.int IntKind.i64 len)]
                              (DV.tup
                                [DV.val (Value.int IntKind.i64 (waysRV nB B nO O len)),
                                  DV.val (Value.int IntKind.i64 (waysRE nB B nO O len))])]
                          (VT.need
                            [(waysE nB B nO O W G L len == waysRE nB B nO O len) = true →
                                (waysE nB B nO O W G L len == waysRE nB B nO O len) = true,
                              (waysE nB B nO O W G L len == waysRE nB B nO O len) = true →
                                (waysE nB B nO O W G L len == waysRE nB B nO O len) = true,
                              (waysE nB B nO O W G L len == waysRE nB B nO O len) = true →
                                (waysE nB B nO O W G L len == waysRE nB B nO O len) = true]
                            (VT.done
                              [(if (waysE nB B nO O W G L len == waysRE nB B nO O len) = true then
                                    waysV nB B nO O W G L len == waysRV nB B nO O len
                                  else false) =
                                  true])))
                        (VT.need
                          [(waysE nB B nO O W G L len == lenR nB B nO O len) = true →
                              (waysE nB B nO O W G L len == lenR nB B nO O len) = true,
                            (waysE nB B nO O W G L len == lenR nB B nO O len) = true →
                              (waysE nB B nO O W G L len == lenR nB B nO O len) = true,
                            (waysE nB B nO O W G L len == lenR nB B nO O len) = true →
                              (waysE nB B nO O W G L len == lenR nB B nO O len) = true]
                          (VT.done
                            [(if (waysE nB B nO O W G L len == lenR nB B nO O len) = true then
                                  waysV nB B nO O W G L len == (0 : Int)
                                else false) =
                                true]))))
                    (VT.ite (sysE nB B nO O W G L == (0 : Int))
                      (VT.need
                        [FnC prog (17 : Nat)
                            [DV.agg
                                [DV.lst nB [fun (i : Nat) => DV.val (Value.int IntKind.i64 (B i))],
                                  DV.lst nO [fun (i : Nat) => DV.val (Value.int IntKind.i64 (O i))],
                                  DV.val (Value.int IntKind.i64 W), DV.val (Value.int IntKind.i64 G),
                                  DV.val (Value.int IntKind.i64 L)],
                              DV.val (Value.int IntKind.i64 len)]
                            (DV.tup
                              [DV.val (Value.int IntKind.i64 (waysRV nB B nO O len)),
                                DV.val (Value.int IntKind.i64 (waysRE nB B nO O len))])]
                        (VT.need
                          [(waysE nB B nO O W G L len == waysRE nB B nO O len) = true →
                              (waysE nB B nO O W G L len == waysRE nB B nO O len) = true,
                            (waysE nB B nO O W G L len == waysRE nB B nO O len) = true →
                              (waysE nB B nO O W G L len == waysRE nB B nO O len) = true,
                            (waysE nB B nO O W G L len == waysRE nB B nO O len) = true →
                              (waysE nB B nO O W G L len == waysRE nB B nO O len) = true]
                          (VT.done
                            [(if (waysE nB B nO O W G L len == waysRE nB B nO O len) = true then
                                  waysV nB B nO O W G L len == waysRV nB B nO O len
                                else false) =
                                true])))
                      (VT.need
                        [(waysE nB B nO O W G L len == sysE nB B nO O W G L) = true →
                            (waysE nB B nO O W G L len == sysE nB B nO O W G L) = true,
                          (waysE nB B nO O W G L len == sysE nB B nO O W G L) = true →
                            (waysE nB B nO O W G L len == sysE nB B nO O W G L) = true,
                          (waysE nB B nO O W G L len == sysE nB B nO O W G L) = true →
                            (waysE nB B nO O W G L len == sysE nB B nO O W G L) = true]
                        (VT.done
                          [(if (waysE nB B nO O W G L len == sysE nB B nO O W G L) = true then
                                waysV nB B nO O W G L len == (0 : Int)
                              else false) =
                              true])))))))))) (by kernel_rfl) ?_
  simp only [VT.holds, AllT, imp_self, implies_true, and_true, true_and, toNat_succ, toNat_add2, toNat_zero', Int.toNat_natCast, Bool.if_true_left, Bool.if_false_right, Bool.decide_eq_true, Bool.or_eq_true, Bool.or_eq_false_iff, Bool.and_eq_true, Bool.and_eq_false_imp, Bool.not_eq_true', Bool.not_eq_false', Bool.not_not, bne_iff_ne, bne_eq_false_iff_eq, beq_iff_eq, beq_eq_false_iff_ne, decide_eq_true_eq, decide_eq_false_iff_not, ne_eq]
  refine ⟨awake_c, fun h => (by cases h), fun _ => ⟨few_c nB B nO O W G L, fun ⟨f1, f2⟩ => ⟨⟨copied_c nB B nO O W G L (by omega) (by omega), waysTop_c nB B nO O W G L len⟩, systemR_c nB B nO O W G L, fun h => ⟨lengthErr_c nB B nO O W G L len h, fun h2 => ⟨waysRTop_c nB B nO O W G L len h h2, ?_, ?_⟩, fun h2 => ⟨?_, ?_⟩⟩, fun h => ⟨fun h2 => absurd h2 h, fun _ => ⟨?_, ?_⟩⟩⟩⟩⟩
  · rw [waysE, if_pos (by rw [measE_eq, if_pos h, h2]), waysRE, unit_eq, waysS_eq]
    split
    · by_cases hw : (waysRS nB B nO O len : Int) ≤ 1000000
      · rw [if_pos hw, if_neg (by omega)]
      · rw [if_neg hw, if_pos (by omega)]
    · rfl
  · rw [waysV, if_pos (by rw [measE_eq, if_pos h, h2]), waysRV, unit_eq, waysS_eq]
    split
    · by_cases hw : (waysRS nB B nO O len : Int) ≤ 1000000
      · rw [if_pos hw, if_neg (by omega)]
      · rw [if_neg hw, if_pos (by omega)]
    · rfl
  · rw [waysE, if_neg (by rw [measE_eq, if_pos h]; exact h2), measE_eq, if_pos h]
  · rw [waysV, if_neg (by rw [measE_eq, if_pos h]; exact h2)]
  · rw [waysE, if_neg (by rw [measE_eq, if_neg h]; exact h), measE_eq, if_neg h]
  · rw [waysV, if_neg (by rw [measE_eq, if_neg h]; exact h)]
noncomputable def A4_layoutTables_c (nB : Nat) (B : Nat → Int) (nO : Nat) (O : Nat → Int) (W G L len : Int) : Ann := { orc := [(1, [(0, .res fun _ => dB true)]), (3, [(1, rFew)]), (5, [(1, rCopied), (3, rTableTop)]), (6, [(1, rCopied), (3, rGapsTop)]), (7, [(1, rSys)]), (9, [(2, rLenR)]), (12, [(10, rTabR), (11, rInts), (17, rGapsR), (18, rInts)])], loops := [], cuts := [] }
theorem layoutTables_c (nB : Nat) (B : Nat → Int) (nO : Nat) (O : Nat → Int) (W G L len : Int)  : FnC prog 4 [sys nB B nO O W G L, dI len] (dB true) := by
  refine FnC_owed hmix (A4_layoutTables_c nB B nO O W G L len) (V := VT.need [FnC prog (11 : Nat) [] (DV.val (Value.bool true))]
        (VT.ite (!true) (VT.done [false = true])
          (VT.need
            [FnC prog (12 : Nat)
                [DV.agg
                    [DV.lst nB [fun (i : Nat) => DV.val (Value.int IntKind.i64 (B i))],
                      DV.lst nO [fun (i : Nat) => DV.val (Value.int IntKind.i64 (O i))], DV.val (Value.int IntKind.i64 W),
                      DV.val (Value.int IntKind.i64 G), DV.val (Value.int IntKind.i64 L)]]
                (DV.val (Value.bool (decide (nB ≤ (12 : Nat) ∧ nO ≤ (12 : Nat)))))]
            (VT.ite (!decide (nB ≤ (12 : Nat) ∧ nO ≤ (12 : Nat))) (VT.done [true = true])
              (VT.need
                [FnC prog (14 : Nat)
                    [DV.agg
                        [DV.lst nB [fun (i : Nat) => DV.val (Value.int IntKind.i64 (B i))],
                          DV.lst nO [fun (i : Nat) => DV.val (Value.int IntKind.i64 (O i))],
                          DV.val (Value.int IntKind.i64 W), DV.val (Value.int IntKind.i64 G),
                          DV.val (Value.int IntKind.i64 L)]]
                    (DV.agg
                      [DV.lst nB [fun (i : Nat) => DV.val (Value.int IntKind.i64 (B i))],
                        DV.lst nO [fun (i : Nat) => DV.val (Value.int IntKind.i64 (O i))], DV.val (Value.int IntKind.i64 W),
                        DV.val (Value.int IntKind.i64 G), DV.val (Value.int IntKind.i64 L)]),
                  FnC prog (18 : Nat)
                    [DV.agg
                        [DV.lst nB [fun (i : Nat) => DV.val (Value.int IntKind.i64 (B i))],
                          DV.lst nO [fun (i : Nat) => DV.val (Value.int IntKind.i64 (O i))],
                          DV.val (Value.int IntKind.i64 W), DV.val (Value.int IntKind.i64 G),
                          DV.val (Value.int IntKind.i64 L)],
                      DV.val (Value.int IntKind.i64 len)]
                    (DV.tup
                      [DV.lst (tabN nB B nO O W G L len)
                          [fun (k : Nat) => DV.val (Value.int IntKind.i64 (tabS nB B nO O k))],
                        DV.val (Value.int IntKind.i64 (measE nB B nO O W G L len))])]
                (VT.need
                  [FnC prog (14 : Nat)
                      [DV.agg
                          [DV.lst nB [fun (i : Nat) => DV.val (Value.int IntKind.i64 (B i))],
                            DV.lst nO [fun (i : Nat) => DV.val (Value.int IntKind.i64 (O i))],
                            DV.val (Value.int IntKind.i64 W), DV.val (Value.int IntKind.i64 G),
                            DV.val (Value.int IntKind.i64 L)]]
                      (DV.agg
                        [DV.lst nB [fun (i : Nat) => DV.val (Value.int IntKind.i64 (B i))],
                          DV.lst nO [fun (i : Nat) => DV.val (Value.int IntKind.i64 (O i))],
                          DV.val (Value.int IntKind.i64 W), DV.val (Value.int IntKind.i64 G),
                          DV.val (Value.int IntKind.i64 L)]),
                    FnC prog (19 : Nat)
                      [DV.agg
                          [DV.lst nB [fun (i : Nat) => DV.val (Value.int IntKind.i64 (B i))],
                            DV.lst nO [fun (i : Nat) => DV.val (Value.int IntKind.i64 (O i))],
                            DV.val (Value.int IntKind.i64 W), DV.val (Value.int IntKind.i64 G),
                            DV.val (Value.int IntKind.i64 L)],
                        DV.val (Value.int IntKind.i64 len)]
                      (DV.tup
                        [DV.lst (gapN nB B nO O W G L len)
                            [fun (k : Nat) => DV.val (Value.int IntKind.i64 (gapF nB B nO O W G L len k))],
                          DV.val (Value.int IntKind.i64 (measE nB B nO O W G L len))])]
                  (VT.need
                    [FnC prog (15 : Nat)
                        [DV.agg
                            [DV.lst nB [fun (i : Nat) => DV.val (Value.int IntKind.i64 (B i))],
                              DV.lst nO [fun (i : Nat) => DV.val (Value.int IntKind.i64 (O i))],
                              DV.val (Value.int IntKind.i64 W), DV.val (Value.int IntKind.i64 G),
                              DV.val (Value.int IntKind.i64 L)]]
                        (DV.val (Value.int IntKind.i64 (sysE nB B nO O W G L)))]
                    (VT.ite (sysE nB B nO O W G L == (0 : Int))
                      (VT.need
                        [FnC prog (16 : Nat)
                            [DV.agg
                                [DV.lst nB [fun (i : Nat) => DV.val (Value.int IntKind.i64 (B i))],
                                  DV.lst nO [fun (i : Nat) => DV.val (Value.int IntKind.i64 (O i))],
                                  DV.val (Value.int IntKind.i64 W), DV.val (Value.int IntKind.i64 G),
                                  DV.val (Value.int IntKind.i64 L)],
                              DV.val (Value.int IntKind.i64 len)]
                            (DV.val (Value.int IntKind.i64 (lenR nB B nO O len)))]
                        (VT.ite (lenR nB B nO O len != (0 : Int))
                          (VT.need
                            [(measE nB B nO O W G L len == lenR nB B nO O len) = true →
                                (measE nB B nO O W G L len == lenR nB B nO O len) = true,
                              (measE nB B nO O W G L len == lenR nB B nO O len) = true →
                                (measE nB B nO O W G L len == lenR nB B nO O len) = true,
                              (measE nB B nO O W G L len == lenR nB B nO O len) = true →
                                (measE nB B nO O W G L len == lenR nB B nO O len) = true,
                              (if (measE nB B nO O W G L len == lenR nB B nO O len) = true then
                                    measE nB B nO O W G L len == lenR nB B nO O len
                                  else false) =
                                  true →
                                (if (measE nB B nO O W G L len == lenR nB B nO O len) = true then
                                    measE nB B nO O W G L len == lenR nB B nO O len
                                  else false) =
                                  true,
                              (if (measE nB B nO O W G L len == lenR nB B nO O len) = true then
                                    measE nB B nO O W G L len == lenR nB B nO O len
                                  else false) =
                                  true →
                                (if (measE nB B nO O W G L len == lenR nB B nO O len) = true then
                                    measE nB B nO O W G L len == lenR nB B nO O len
                                  else false) =
                                  true,
                              (if (measE nB B nO O W G L len == lenR nB B nO O len) = true then
                                    measE nB B nO O W G L len == lenR nB B nO O len
                                  else false) =
                                  true →
                                (if (measE nB B nO O W G L len == lenR nB B nO O len) = true then
                                    measE nB B nO O W G L len == lenR nB B nO O len
                                  else false) =
                                  true,
                              (if (measE nB B nO O W G L len == lenR nB B nO O len) = true then
                                    measE nB B nO O W G L len == lenR nB B nO O len
                                  else false) =
                                  true →
                                (if (measE nB B nO O W G L len == lenR nB B nO O len) = true then
                                    measE nB B nO O W G L len == lenR nB B nO O len
                                  else false) =
                                  true,
                              (if (measE nB B nO O W G L len == lenR nB B nO O len) = true then
                                    measE nB B nO O W G L len == lenR nB B nO O len
                                  else false) =
                                  true →
                                i64In ((↑(tabN nB B nO O W G L len) : Int) + (↑(gapN nB B nO O W G L len) : Int)),
                              (if (measE nB B nO O W G L len == lenR nB B nO O len) = true then
                                    measE nB B nO O W G L len == lenR nB B nO O len
                                  else false) =
                                  true →
                                (if (measE nB B nO O W G L len == lenR nB B nO O len) = true then
                                    measE nB B nO O W G L len == lenR nB B nO O len
                                  else false) =
                                  true,
                              (if (measE nB B nO O W G L len == lenR nB B nO O len) = true then
                                    measE nB B nO O W G L len == lenR nB B nO O len
                                  else false) =
                                  true →
                                (if (measE nB B nO O W G L len == lenR nB B nO O len) = true then
                                    measE nB B nO O W G L len == lenR nB B nO O len
                                  else false) =
                                  true]
                            (VT.done
                              [(if
                                      (if (measE nB B nO O W G L len == lenR nB B nO O len) = true then
                                          measE nB B nO O W G L len == lenR nB B nO O len
                                        else false) =
                                        true then
                                    (↑(tabN nB B nO O W G L len) : Int) + (↑(gapN nB B nO O W G L len) : Int) == (0 : Int)
                                  else false) =
                                  true]))
                          (VT.need
                            [(measE nB B nO O W G L len == (0 : Int)) = true →
                                (measE nB B nO O W G L len == (0 : Int)) = true,
                              (measE nB B nO O W G L len == (0 : Int)) = true →
                                (measE nB B nO O W G L len == (0 : Int)) = true,
                              (if (measE nB B nO O W G L len == (0 : Int)) = true then
                                    measE nB B nO O W G L len == (0 : Int)
                                  else false) =
                                  true →
                                (if (measE nB B nO O W G L len == (0 : Int)) = true then
                                    measE nB B nO O W G L len == (0 : Int)
                                  else false) =
                                  true,
                              (if (measE nB B nO O W G L len == (0 : Int)) = true then
                                    measE nB B nO O W G L len == (0 : Int)
                                  else false) =
                                  true →
                                (if (measE nB B nO O W G L len == (0 : Int)) = true then
                                    measE nB B nO O W G L len == (0 : Int)
                                  else false) =
                                  true,
                              (if (measE nB B nO O W G L len == (0 : Int)) = true then
                                    measE nB B nO O W G L len == (0 : Int)
                                  else false) =
                                  true →
                                FnC prog (21 : Nat)
                                  [DV.agg
                                      [DV.lst nB [fun (i : Nat) => DV.val (Value.int IntKind.i64 (B i))],
                                        DV.lst nO [fun (i : Nat) => DV.val (Value.int IntKind.i64 (O i))],
                                        DV.val (Value.int IntKind.i64 W), DV.val (Value.int IntKind.i64 G),
                                        DV.val (Value.int IntKind.i64 L)],
                                    DV.val (Value.int IntKind.i64 len)]
                                  (DV.lst (Int.toNat (len / (↑(unitR nB B O (nB + nO)) : Int) + (1 : Int)))
                                    [fun (k : Nat) => DV.val (Value.int IntKind.i64 (tabRS nB B nO O k))]),
                              (if (measE nB B nO O W G L len == (0 : Int)) = true then
                                    measE nB B nO O W G L len == (0 : Int)
                                  else false) =
                                  true →
                                (if (measE nB B nO O W G L len == (0 : Int)) = true then
                                    measE nB B nO O W G L len == (0 : Int)
                                  else false) =
                                  true,
                              (if (measE nB B nO O W G L len == (0 : Int)) = true then
                                    measE nB B nO O W G L len == (0 : Int)
                                  else false) =
                                  true →
                                (if (measE nB B nO O W G L len == (0 : Int)) = true then
                                    measE nB B nO O W G L len == (0 : Int)
                                  else false) =
                                  true,
                              (if (measE nB B nO O W G L len == (0 : Int)) = true then
                                    measE nB B nO O W G L len == (0 : Int)
                                  else false) =
                                  true →
                                FnC prog (20 : Nat)
                                  [DV.lst (tabN nB B nO O W G L len)
                                      [fun (k : Nat) => DV.val (Value.int IntKind.i64 (tabS nB B nO O k))],
                                    DV.lst (Int.toNat (len / (↑(unitR nB B O (nB + nO)) : Int) + (1 : Int)))
                                      [fun (k : Nat) => DV.val (Value.int IntKind.i64 (tabRS nB B nO O k))]]
                                  (DV.val
                                    (Value.bool
                                      (sameN (tabN nB B nO O W G L len) (tabS nB B nO O)
                                        (Int.toNat (len / (↑(unitR nB B O (nB + nO)) : Int) + (1 : Int)))
                                        (tabRS nB B nO O)))),
                              (if (measE nB B nO O W G L len == (0 : Int)) = true then
                                    measE nB B nO O W G L len == (0 : Int)
                                  else false) =
                                  true →
                                (if (measE nB B nO O W G L len == (0 : Int)) = true then
                                    measE nB B nO O W G L len == (0 : Int)
                                  else false) =
                                  true,
                              (if
                                      (if (measE nB B nO O W G L len == (0 : Int)) = true then
                                          measE nB B nO O W G L len == (0 : Int)
                                        else false) =
                                        true then
                                    sameN (tabN nB B nO O W G L len) (tabS nB B nO O)
                                      (Int.toNat (len / (↑(unitR nB B O (nB + nO)) : Int) + (1 : Int))) (tabRS nB B nO O)
                                  else false) =
                                  true →
                                (if
                                      (if (measE nB B nO O W G L len == (0 : Int)) = true then
                                          measE nB B nO O W G L len == (0 : Int)
                                        else false) =
                                        true then
                                    sameN (tabN nB B nO O W G L len) (tabS nB B nO O)
                                      (Int.toNat (len / (↑(unitR nB B O (nB + nO)) : Int) + (1 : Int))) (tabRS nB B nO O)
                                  else false) =
                                  true,
                              (if
                                      (if (measE nB B nO O W G L len == (0 : Int)) = true then
                                          measE nB B nO O W G L len == (0 : Int)
                                        else false) =
                                        true then
                                    sameN (tabN nB B nO O W G L len) (tabS nB B nO O)
                                      (Int.toNat (len / (↑(unitR nB B O (nB + nO)) : Int) + (1 : Int))) (tabRS nB B nO O)
                                  else false) =
                                  true →
                                (if
                                      (if (measE nB B nO O W G L len == (0 : Int)) = true then
                                          measE nB B nO O W G L len == (0 : Int)
                                        else false) =
                                        true then
                                    sameN (tabN nB B nO O W G L len) (tabS nB B nO O)
                                      (Int.toNat (len / (↑(unitR nB B O (nB + nO)) : Int) + (1 : Int))) (tabRS nB B nO O)
                                  else false) =
                                  true,
                              (if
                                      (if (measE nB B nO O W G L len == (0 : Int)) = true then
                                          measE nB B nO O W G L len == (0 : Int)
                                        else false) =
                                        true then
                                    sameN (tabN nB B nO O W G L len) (tabS nB B nO O)
                                      (Int.toNat (len / (↑(unitR nB B O (nB + nO)) : Int) + (1 : Int))) (tabRS nB B nO O)
                                  else false) =
                                  true →
                                FnC prog (22 : Nat)
                                  [DV.agg
                                      [DV.lst nB [fun (i : Nat) => DV.val (Value.int IntKind.i64 (B i))],
                                        DV.lst nO [fun (i : Nat) => DV.val (Value.int IntKind.i64 (O i))],
                                        DV.val (Value.int IntKind.i64 W), DV.val (Value.int IntKind.i64 G),
                                        DV.val (Value.int IntKind.i64 L)],
                                    DV.val (Value.int IntKind.i64 len)]
                                  (DV.lst (gapRN nB B nO O len)
                                    [fun (k : Nat) => DV.val (Value.int IntKind.i64 (gapRF nB B nO O len k))]),
                              (if
                                      (if (measE nB B nO O W G L len == (0 : Int)) = true then
                                          measE nB B nO O W G L len == (0 : Int)
                                        else false) =
                                        true then
                                    sameN (tabN nB B nO O W G L len) (tabS nB B nO O)
                                      (Int.toNat (len / (↑(unitR nB B O (nB + nO)) : Int) + (1 : Int))) (tabRS nB B nO O)
                                  else false) =
                                  true →
                                (if
                                      (if (measE nB B nO O W G L len == (0 : Int)) = true then
                                          measE nB B nO O W G L len == (0 : Int)
                                        else false) =
                                        true then
                                    sameN (tabN nB B nO O W G L len) (tabS nB B nO O)
                                      (Int.toNat (len / (↑(unitR nB B O (nB + nO)) : Int) + (1 : Int))) (tabRS nB B nO O)
                                  else false) =
                                  true,
                              (if
                                      (if (measE nB B nO O W G L len == (0 : Int)) = true then
                                          measE nB B nO O W G L len == (0 : Int)
                                        else false) =
                                        true then
                                    sameN (tabN nB B nO O W G L len) (tabS nB B nO O)
                                      (Int.toNat (len / (↑(unitR nB B O (nB + nO)) : Int) + (1 : Int))) (tabRS nB B nO O)
                                  else false) =
                                  true →
                                (if
                                      (if (measE nB B nO O W G L len == (0 : Int)) = true then
                                          measE nB B nO O W G L len == (0 : Int)
                                        else false) =
                                        true then
                                    sameN (tabN nB B nO O W G L len) (tabS nB B nO O)
                                      (Int.toNat (len / (↑(unitR nB B O (nB + nO)) : Int) + (1 : Int))) (tabRS nB B nO O)
                                  else false) =
                                  true,
                              (if
                                      (if (measE nB B nO O W G L len == (0 : Int)) = true then
                                          measE nB B nO O W G L len == (0 : Int)
                                        else false) =
                                        true then
                                    sameN (tabN nB B nO O W G L len) (tabS nB B nO O)
                                      (Int.toNat (len / (↑(unitR nB B O (nB + nO)) : Int) + (1 : Int))) (tabRS nB B nO O)
                                  else false) =
                                  true →
                                FnC prog (20 : Nat)
                                  [DV.lst (gapN nB B nO O W G L len)
                                      [fun (k : Nat) => DV.val (Value.int IntKind.i64 (gapF nB B nO O W G L len k))],
                                    DV.lst (gapRN nB B nO O len)
                                      [fun (k : Nat) => DV.val (Value.int IntKind.i64 (gapRF nB B nO O len k))]]
                                  (DV.val
                                    (Value.bool
                                      (sameN (gapN nB B nO O W G L len) (gapF nB B nO O W G L len) (gapRN nB B nO O len)
                                        (gapRF nB B nO O len)))),
                              (if
                                      (if (measE nB B nO O W G L len == (0 : Int)) = true then
                                          measE nB B nO O W G L len == (0 : Int)
                                        else false) =
                                        true then
                                    sameN (tabN nB B nO O W G L len) (tabS nB B nO O)
                                      (Int.toNat (len / (↑(unitR nB B O (nB + nO)) : Int) + (1 : Int))) (tabRS nB B nO O)
                                  else false) =
                                  true →
                                (if
                                      (if (measE nB B nO O W G L len == (0 : Int)) = true then
                                          measE nB B nO O W G L len == (0 : Int)
                                        else false) =
                                        true then
                                    sameN (tabN nB B nO O W G L len) (tabS nB B nO O)
                                      (Int.toNat (len / (↑(unitR nB B O (nB + nO)) : Int) + (1 : Int))) (tabRS nB B nO O)
                                  else false) =
                                  true]
                            (VT.done
                              [(if
                                      (if
                                            (if (measE nB B nO O W G L len == (0 : Int)) = true then
                                                measE nB B nO O W G L len == (0 : Int)
                                              else false) =
                                              true then
                                          sameN (tabN nB B nO O W G L len) (tabS nB B nO O)
                                            (Int.toNat (len / (↑(unitR nB B O (nB + nO)) : Int) + (1 : Int)))
                                            (tabRS nB B nO O)
                                        else false) =
                                        true then
                                    sameN (gapN nB B nO O W G L len) (gapF nB B nO O W G L len) (gapRN nB B nO O len)
                                      (gapRF nB B nO O len)
                                  else false) =
                                  true]))))
                      (VT.ite (sysE nB B nO O W G L != (0 : Int))
                        (VT.need
                          [(measE nB B nO O W G L len == sysE nB B nO O W G L) = true →
                              (measE nB B nO O W G L len == sysE nB B nO O W G L) = true,
                            (measE nB B nO O W G L len == sysE nB B nO O W G L) = true →
                              (measE nB B nO O W G L len == sysE nB B nO O W G L) = true,
                            (measE nB B nO O W G L len == sysE nB B nO O W G L) = true →
                              (measE nB B nO O W G L len == sysE nB B nO O W G L) = true,
                            (if (measE nB B nO O W G L len == sysE nB B nO O W G L) = true then
                                  measE nB B nO O W G L len == sysE nB B nO O W G L
                                else false) =
                                true →
                              (if (measE nB B nO O W G L len == sysE nB B nO O W G L) = true then
                                  measE nB B nO O W G L len == sysE nB B nO O W G L
                                else false) =
                                true,
                            (if (measE nB B nO O W G L len == sysE nB B nO O W G L) = true then
                                  measE nB B nO O W G L len == sysE nB B nO O W G L
                                else false) =
                                true →
                              (if (measE nB B nO O W G L len == sysE nB B nO O W G L) = true then
                                  measE nB B nO O W G L len == sysE nB B nO O W G L
                                else false) =
                                true,
                            (if (measE nB B nO O W G L len == sysE nB B nO O W G L) = true then
                                  measE nB B nO O W G L len == sysE nB B nO O W G L
                                else false) =
                                true →
                              (if (measE nB B nO O W G L len == sysE nB B nO O W G L) = true then
                                  measE nB B nO O W G L len == sysE nB B nO O W G L
                                else false) =
                                true,
                            (if (measE nB B nO O W G L len == sysE nB B nO O W G L) = true then
                                  measE nB B nO O W G L len == sysE nB B nO O W G L
                                else false) =
                                true →
                              (if (measE nB B nO O W G L len == sysE nB B nO O W G L) = true then
                                  measE nB B nO O W G L len == sysE nB B nO O W G L
                                else false) =
                                true,
                            (if (measE nB B nO O W G L len == sysE nB B nO O W G L) = true then
                                  measE nB B nO O W G L len == sysE nB B nO O W G L
                                else false) =
                                true →
                              i64In ((↑(tabN nB B nO O W G L len) : Int) + (↑(gapN nB B nO O W G L len) : Int)),
                            (if (measE nB B nO O W G L len == sysE nB B nO O W G L) = true then
                                  measE nB B nO O W G L len == sysE nB B nO O W G L
                                else false) =
                                true →
                              (if (measE nB B nO O W G L len == sysE nB B nO O W G L) = true then
                                  measE nB B nO O W G L len == sysE nB B nO O W G L
                                else false) =
                                true,
                            (if (measE nB B nO O W G L len == sysE nB B nO O W G L) = true then
                                  measE nB B nO O W G L len == sysE nB B nO O W G L
                                else false) =
                                true →
                              (if (measE nB B nO O W G L len == sysE nB B nO O W G L) = true then
                                  measE nB B nO O W G L len == sysE nB B nO O W G L
                                else false) =
                                true]
                          (VT.done
                            [(if
                                    (if (measE nB B nO O W G L len == sysE nB B nO O W G L) = true then
                                        measE nB B nO O W G L len == sysE nB B nO O W G L
                                      else false) =
                                      true then
                                  (↑(tabN nB B nO O W G L len) : Int) + (↑(gapN nB B nO O W G L len) : Int) == (0 : Int)
                                else false) =
                                true]))
                        (VT.need
                          [(measE nB B nO O W G L len == (0 : Int)) = true →
                              (measE nB B nO O W G L len == (0 : Int)) = true,
                            (measE nB B nO O W G L len == (0 : Int)) = true →
                              (measE nB B nO O W G L len == (0 : Int)) = true,
                            (if (measE nB B nO O W G L len == (0 : Int)) = true then measE nB B nO O W G L len == (0 : Int)
                                else false) =
                                true →
                              (if (measE nB B nO O W G L len == (0 : Int)) = true then
                                  measE nB B nO O W G L len == (0 : Int)
                                else false) =
                                true,
                            (if (measE nB B nO O W G L len == (0 : Int)) = true then measE nB B nO O W G L len == (0 : Int)
                                else false) =
                                true →
                              (if (measE nB B nO O W G L len == (0 : Int)) = true then
                                  measE nB B nO O W G L len == (0 : Int)
                                else false) =
                                true,
                            (if (measE nB B nO O W G L len == (0 : Int)) = true then measE nB B nO O W G L len == (0 : Int)
                                else false) =
                                true →
                              FnC prog (21 : Nat)
                                [DV.agg
                                    [DV.lst nB [fun (i : Nat) => DV.val (Value.int IntKind.i64 (B i))],
                                      DV.lst nO [fun (i : Nat) => DV.val (Value.int IntKind.i64 (O i))],
                                      DV.val (Value.int IntKind.i64 W), DV.val (Value.int IntKind.i64 G),
                                      DV.val (Value.int IntKind.i64 L)],
                                  DV.val (Value.int IntKind.i64 len)]
                                (DV.lst (Int.toNat (len / (↑(unitR nB B O (nB + nO)) : Int) + (1 : Int)))
                                  [fun (k : Nat) => DV.val (Value.int IntKind.i64 (tabRS nB B nO O k))]),
                            (if (measE nB B nO O W G L len == (0 : Int)) = true then measE nB B nO O W G L len == (0 : Int)
                                else false) =
                                true →
                              (if (measE nB B nO O W G L len == (0 : Int)) = true then
                                  measE nB B nO O W G L len == (0 : Int)
                                else false) =
                                true,
                            (if (measE nB B nO O W G L len == (0 : Int)) = true then measE nB B nO O W G L len == (0 : Int)
                                else false) =
                                true →
                              (if (measE nB B nO O W G L len == (0 : Int)) = true then
                                  measE nB B nO O W G L len == (0 : Int)
                                else false) =
                                true,
                            (if (measE nB B nO O W G L len == (0 : Int)) = true then measE nB B nO O W G L len == (0 : Int)
                                else false) =
                                true →
                              FnC prog (20 : Nat)
                                [DV.lst (tabN nB B nO O W G L len)
                                    [fun (k : Nat) => DV.val (Value.int IntKind.i64 (tabS nB B nO O k))],
                                  DV.lst (Int.toNat (len / (↑(unitR nB B O (nB + nO)) : Int) + (1 : Int)))
                                    [fun (k : Nat) => DV.val (Value.int IntKind.i64 (tabRS nB B nO O k))]]
                                (DV.val
                                  (Value.bool
                                    (sameN (tabN nB B nO O W G L len) (tabS nB B nO O)
                                      (Int.toNat (len / (↑(unitR nB B O (nB + nO)) : Int) + (1 : Int)))
                                      (tabRS nB B nO O)))),
                            (if (measE nB B nO O W G L len == (0 : Int)) = true then measE nB B nO O W G L len == (0 : Int)
                                else false) =
                                true →
                              (if (measE nB B nO O W G L len == (0 : Int)) = true then
                                  measE nB B nO O W G L len == (0 : Int)
                                else false) =
                                true,
                            (if
                                    (if (measE nB B nO O W G L len == (0 : Int)) = true then
                                        measE nB B nO O W G L len == (0 : Int)
                                      else false) =
                                      true then
                                  sameN (tabN nB B nO O W G L len) (tabS nB B nO O)
                                    (Int.toNat (len / (↑(unitR nB B O (nB + nO)) : Int) + (1 : Int))) (tabRS nB B nO O)
                                else false) =
                                true →
                              (if
                                    (if (measE nB B nO O W G L len == (0 : Int)) = true then
                                        measE nB B nO O W G L len == (0 : Int)
                                      else false) =
                                      true then
                                  sameN (tabN nB B nO O W G L len) (tabS nB B nO O)
                                    (Int.toNat (len / (↑(unitR nB B O (nB + nO)) : Int) + (1 : Int))) (tabRS nB B nO O)
                                else false) =
                                true,
                            (if
                                    (if (measE nB B nO O W G L len == (0 : Int)) = true then
                                        measE nB B nO O W G L len == (0 : Int)
                                      else false) =
                                      true then
                                  sameN (tabN nB B nO O W G L len) (tabS nB B nO O)
                                    (Int.toNat (len / (↑(unitR nB B O (nB + nO)) : Int) + (1 : Int))) (tabRS nB B nO O)
                                else false) =
                                true →
                              (if
                                    (if (measE nB B nO O W G L len == (0 : Int)) = true then
                                        measE nB B nO O W G L len == (0 : Int)
                                      else false) =
                                      true then
                                  sameN (tabN nB B nO O W G L len) (tabS nB B nO O)
                                    (Int.toNat (len / (↑(unitR nB B O (nB + nO)) : Int) + (1 : Int))) (tabRS nB B nO O)
                                else false) =
                                true,
                            (if
                                    (if (measE nB B nO O W G L len == (0 : Int)) = true then
                                        measE nB B nO O W G L len == (0 : Int)
                                      else false) =
                                      true then
                                  sameN (tabN nB B nO O W G L len) (tabS nB B nO O)
                                    (Int.toNat (len / (↑(unitR nB B O (nB + nO)) : Int) + (1 : Int))) (tabRS nB B nO O)
                                else false) =
                                true →
                              FnC prog (22 : Nat)
                                [DV.agg
                                    [DV.lst nB [fun (i : Nat) => DV.val (Value.int IntKind.i64 (B i))],
                                      DV.lst nO [fun (i : Nat) => DV.val (Value.int IntKind.i64 (O i))],
                                      DV.val (Value.int IntKind.i64 W), DV.val (Value.int IntKind.i64 G),
                                      DV.val (Value.int IntKind.i64 L)],
                                  DV.val (Value.int IntKind.i64 len)]
                                (DV.lst (gapRN nB B nO O len)
                                  [fun (k : Nat) => DV.val (Value.int IntKind.i64 (gapRF nB B nO O len k))]),
                            (if
                                    (if (measE nB B nO O W G L len == (0 : Int)) = true then
                                        measE nB B nO O W G L len == (0 : Int)
                                      else false) =
                                      true then
                                  sameN (tabN nB B nO O W G L len) (tabS nB B nO O)
                                    (Int.toNat (len / (↑(unitR nB B O (nB + nO)) : Int) + (1 : Int))) (tabRS nB B nO O)
                                else false) =
                                true →
                              (if
                                    (if (measE nB B nO O W G L len == (0 : Int)) = true then
                                        measE nB B nO O W G L len == (0 : Int)
                                      else false) =
                                      true then
                                  sameN (tabN nB B nO O W G L len) (tabS nB B nO O)
                                    (Int.toNat (len / (↑(unitR nB B O (nB + nO)) : Int) + (1 : Int))) (tabRS nB B nO O)
                                else false) =
                                true,
                            (if
                                    (if (measE nB B nO O W G L len == (0 : Int)) = true then
                                        measE nB B nO O W G L len == (0 : Int)
                                      else false) =
                                      true then
                                  sameN (tabN nB B nO O W G L len) (tabS nB B nO O)
                                    (Int.toNat (len / (↑(unitR nB B O (nB + nO)) : Int) + (1 : Int))) (tabRS nB B nO O)
                                else false) =
                                true →
                              (if
                                    (if (measE nB B nO O W G L len == (0 : Int)) = true then
                                        measE nB B nO O W G L len == (0 : Int)
                                      else false) =
                                      true then
                                  sameN (tabN nB B nO O W G L len) (tabS nB B nO O)
                                    (Int.toNat (len / (↑(unitR nB B O (nB + nO)) : Int) + (1 : Int))) (tabRS nB B nO O)
                                else false) =
                                true,
                            (if
                                    (if (measE nB B nO O W G L len == (0 : Int)) = true then
                                        measE nB B nO O W G L len == (0 : Int)
                                      else false) =
                                      true then
                                  sameN (tabN nB B nO O W G L len) (tabS nB B nO O)
                                    (Int.toNat (len / (↑(unitR nB B O (nB + nO)) : Int) + (1 : Int))) (tabRS nB B nO O)
                                else false) =
                                true →
                              FnC prog (20 : Nat)
                                [DV.lst (gapN nB B nO O W G L len)
                                    [fun (k : Nat) => DV.val (Value.int IntKind.i64 (gapF nB B nO O W G L len k))],
                                  DV.lst (gapRN nB B nO O len)
                                    [fun (k : Nat) => DV.val (Value.int IntKind.i64 (gapRF nB B nO O len k))]]
                                (DV.val
                                  (Value.bool
                                    (sameN (gapN nB B nO O W G L len) (gapF nB B nO O W G L len) (gapRN nB B nO O len)
                                      (gapRF nB B nO O len)))),
                            (if
                                    (if (measE nB B nO O W G L len == (0 : Int)) = true then
                                        measE nB B nO O W G L len == (0 : Int)
                                      else false) =
                                      true then
                                  sameN (tabN nB B nO O W G L len) (tabS nB B nO O)
                                    (Int.toNat (len / (↑(unitR nB B O (nB + nO)) : Int) + (1 : Int))) (tabRS nB B nO O)
                                else false) =
                                true →
                              (if
                                    (if (measE nB B nO O W G L len == (0 : Int)) = true then
                                        measE nB B nO O W G L len == (0 : Int)
                                      else false) =
                                      true then
                                  sameN (tabN nB B nO O W G L len) (tabS nB B nO O)
                                    (Int.toNat (len / (↑(unitR nB B O (nB + nO)) : Int) + (1 : Int))) (tabRS nB B nO O)
                                else false) =
                                true]
                          (VT.done
                            [(if
                                    (if
                                          (if (measE nB B nO O W G L len == (0 : Int)) = true then
                                              measE nB B nO O W G L len == (0 : Int)
                                            else false) =
                                            true then
                                        sameN (tabN nB B nO O W G L len) (tabS nB B nO O)
                                          (Int.toNat (len / (↑(unitR nB B O (nB + nO)) : Int) + (1 : Int)))
                                          (tabRS nB B nO O)
                                      else false) =
                                      true then
                                  sameN (gapN nB B nO O W G L len) (gapF nB B nO O W G L len) (gapRN nB B nO O len)
                                    (gapRF nB B nO O len)
                                else false) =
                                true]))))))))))) (by kernel_rfl) ?_
  simp only [VT.holds, AllT, imp_self, implies_true, and_true, true_and, toNat_succ, toNat_add2, toNat_zero', Int.toNat_natCast, Bool.if_true_left, Bool.if_false_right, Bool.decide_eq_true, Bool.or_eq_true, Bool.or_eq_false_iff, Bool.and_eq_true, Bool.and_eq_false_imp, Bool.not_eq_true', Bool.not_eq_false', Bool.not_not, bne_iff_ne, bne_eq_false_iff_eq, beq_iff_eq, beq_eq_false_iff_ne, decide_eq_true_eq, decide_eq_false_iff_not, ne_eq]
  have bad : measE nB B nO O W G L len ≠ 0 → tabN nB B nO O W G L len = 0 ∧ gapN nB B nO O W G L len = 0 := fun h => by
    have e : tabN nB B nO O W G L len = 0 := by rw [tabN, if_neg h]
    exact ⟨e, by rw [gapN, e]; rfl⟩
  refine ⟨awake_c, fun h => (by cases h), fun _ => ⟨few_c nB B nO O W G L, fun ⟨f1, f2⟩ => ⟨⟨copied_c nB B nO O W G L (by omega) (by omega), tableTop_c nB B nO O W G L len⟩, ⟨copied_c nB B nO O W G L (by omega) (by omega), gapsTop_c nB B nO O W G L len⟩, systemR_c nB B nO O W G L, fun h => ⟨lengthErr_c nB B nO O W G L len h, fun h2 => ?_, fun h2 => ?_⟩, fun h => ⟨fun _ => ?_, fun h2 => absurd h2 h⟩⟩⟩⟩
  · have e : measE nB B nO O W G L len = lenR nB B nO O len := by rw [measE_eq, if_pos h]
    obtain ⟨b1, b2⟩ := bad (by rw [e]; exact h2)
    rw [b1, b2]
    exact ⟨fun _ => by unfold i64In; omega, ⟨e, e⟩, rfl⟩
  · have e : measE nB B nO O W G L len = 0 := by rw [measE_eq, if_pos h, h2]
    have e1 := tabN_eq e
    have e2 : gapN nB B nO O W G L len = gapRN nB B nO O len := by rw [gapN, gapRN, e1, tabS_eq]
    have e3 : gapF nB B nO O W G L len = gapRF nB B nO O len := by
      funext j
      rw [gapF, gapRF, e1, tabS_eq, unit_eq]
    obtain ⟨l1, l2, l3⟩ := meas_ok e
    rw [unit_eq] at l3
    obtain ⟨s1, s2, s3, sB, sO, _, _⟩ := sys_ok h
    have hu := unitR_bd s1 sB sO
    obtain ⟨q0, q1⟩ := quo_bd hu.1 l2 l3
    have hg := gapsL_len (tabRS nB B nO O) (len / (uR nB B nO O : Int) + 1).toNat
    have hq : (len / (unitR nB B O (nB + nO) : Int) + 1).toNat ≤ 1000000 := by omega
    have hg2 : gapRN nB B nO O len ≤ 1000000 := by
      rw [gapRN]
      exact Nat.le_trans hg hq
    rw [e1, e2, e3, tabS_eq]
    exact ⟨⟨fun _ => tableR_c nB B nO O W G L len h h2, fun _ => ints_c _ _ _ _ (by omega), fun _ => gapsR_c nB B nO O W G L len h h2, fun _ => ints_c _ _ _ _ (by omega)⟩, ⟨⟨e, e⟩, same_refl _ _⟩, same_refl _ _⟩
  · have e : measE nB B nO O W G L len = sysE nB B nO O W G L := by rw [measE_eq, if_neg h]
    obtain ⟨b1, b2⟩ := bad (by rw [e]; exact h)
    rw [b1, b2]
    exact ⟨fun _ => by unfold i64In; omega, ⟨e, e⟩, rfl⟩
end Go.Abs
