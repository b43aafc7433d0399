/- Contracts. -/
import Derived.Test.YtpllaeomcjplnaaL8
set_option linter.unusedVariables false
set_option linter.unusedSimpArgs false
set_option maxRecDepth 100000
namespace Go.Abs
open Go
abbrev plB (i : Nat) : Int := [1000, 2500].getD i 0
abbrev plO (_ : Nat) : Int := 500
abbrev plain : DV := sys 2 plB 1 plO 700 300 2000
def plT (k : Nat) : Int := [0, 10000, 10001, 20001, 20002, 1, 10001].getD k 0
def rPlain : Orc := .res fun _ => plain
theorem plain_sys : sysE 2 plB 1 plO 700 300 2000 = 0 := by decide +kernel
theorem plain_unit : unitP 2 plB 1 plO 3 = 500 := by decide +kernel
theorem plain_meas (len : Int) (h : 0 ≤ len) (h2 : len ≤ 2000000) : measE 2 plB 1 plO 700 300 2000 len = 0 := by
  rw [measE, if_pos plain_sys, plain_unit, if_neg (by omega), if_neg (by omega)]
theorem plain_ways : waysS 2 plB 1 plO 2000 = 3 := by decide +kernel
theorem plain_tab : ∀ k, k < 7 → tabS 2 plB 1 plO k = plT k := by decide +kernel
def rFew : Orc := .res fun l => dB (decide (gB l ≤ 12 ∧ gO l ≤ 12))
def rCopied : Orc := .res fun l => sys (gB l) (gBf l) (gO l) (gOf l) (gW l) (gG l) (gL l)
def rWaysTop : Orc := .res fun l => .tup [dI (waysV (gB l) (gBf l) (gO l) (gOf l) (gW l) (gG l) (gL l) (aI l 1)), dI (waysE (gB l) (gBf l) (gO l) (gOf l) (gW l) (gG l) (gL l) (aI l 1))]
def rTableTop : Orc := .res fun l => .tup [.lst (tabN (gB l) (gBf l) (gO l) (gOf l) (gW l) (gG l) (gL l) (aI l 1)) [fun k => .val (.int .i64 (tabS (gB l) (gBf l) (gO l) (gOf l) k))], dI (measE (gB l) (gBf l) (gO l) (gOf l) (gW l) (gG l) (gL l) (aI l 1))]
def gapN (nB : Nat) (B : Nat → Int) (nO : Nat) (O : Nat → Int) (W G L len : Int) : Nat := (gapsL (tabS nB B nO O) (tabN nB B nO O W G L len)).length
def gapF (nB : Nat) (B : Nat → Int) (nO : Nat) (O : Nat → Int) (W G L len : Int) (j : Nat) : Int := ((gapsL (tabS nB B nO O) (tabN nB B nO O W G L len)).getD j 0 : Nat) * (unitP nB B nO O (nB + nO) : Nat)
def rGapsTop : Orc := .res fun l => .tup [.lst (gapN (gB l) (gBf l) (gO l) (gOf l) (gW l) (gG l) (gL l) (aI l 1)) [fun k => .val (.int .i64 (gapF (gB l) (gBf l) (gO l) (gOf l) (gW l) (gG l) (gL l) (aI l 1) k))], dI (measE (gB l) (gBf l) (gO l) (gOf l) (gW l) (gG l) (gL l) (aI l 1))]
def rLenR : Orc := .res fun l => dI (lenR (gB l) (gBf l) (gO l) (gOf l) (aI l 1))
def rWaysR : Orc := .res fun l => .tup [dI (waysRV (gB l) (gBf l) (gO l) (gOf l) (aI l 1)), dI (waysRE (gB l) (gBf l) (gO l) (gOf l) (aI l 1))]
def gapRN (nB : Nat) (B : Nat → Int) (nO : Nat) (O : Nat → Int) (len : Int) : Nat := (gapsL (tabRS nB B nO O) (len / (uR nB B nO O : Int) + 1).toNat).length
def gapRF (nB : Nat) (B : Nat → Int) (nO : Nat) (O : Nat → Int) (len : Int) (j : Nat) : Int := ((gapsL (tabRS nB B nO O) (len / (uR nB B nO O : Int) + 1).toNat).getD j 0 : Nat) * (uR nB B nO O : Nat)
def rGapsR : Orc := .res fun l => .lst (gapRN (gB l) (gBf l) (gO l) (gOf l) (aI l 1)) [fun k => .val (.int .i64 (gapRF (gB l) (gBf l) (gO l) (gOf l) (aI l 1) k))]
def rInts : Orc := .res fun l => dB (sameN (aN l) (aX l) (lenOf (arg l 1)) (colI 0 (arg l 1)))
theorem measE_eq (nB : Nat) (B : Nat → Int) (nO : Nat) (O : Nat → Int) (W G L len : Int) : measE nB B nO O W G L len = if sysE nB B nO O W G L = 0 then lenR nB B nO O len else sysE nB B nO O W G L := by
  unfold measE lenR
  rw [unit_eq]
theorem tabS_eq (nB : Nat) (B : Nat → Int) (nO : Nat) (O : Nat → Int) : tabS nB B nO O = tabRS nB B nO O := by
  funext k
  unfold tabS tabRS
  rw [table_eq, unit_eq]; rfl
theorem waysS_eq (nB : Nat) (B : Nat → Int) (nO : Nat) (O : Nat → Int) (len : Int) : waysS nB B nO O len = waysRS nB B nO O len := by
  unfold waysS waysRS
  rw [ways_eq, unit_eq]; rfl
theorem tabN_eq {nB : Nat} {B : Nat → Int} {nO : Nat} {O : Nat → Int} {W G L len : Int} (h : measE nB B nO O W G L len = 0) : tabN nB B nO O W G L len = (len / (unitR nB B O (nB + nO) : Int) + 1).toNat := by
  rw [tabN, if_pos h, unit_eq]
theorem same_refl (n : Nat) (A : Nat → Int) : sameN n A n A = true := decide_eq_true ⟨rfl, fun _ _ => rfl⟩
noncomputable def A5_awake_c  : Ann := { orc := [(1, [(0, rPlain), (1, .res fun _ => .tup [nums 7 (tabS 2 plB 1 plO), dI 0])]), (2, [(0, rPlain), (1, .res fun _ => .tup [dI 3, dI 0])]), (3, [(0, rPlain), (4, .res fun _ => .tup [dP 2 2, dI 0])]), (4, [(5, .res fun _ => dB true)])], loops := [], cuts := [] }
theorem awake_c   : FnC prog 5 [] (dB true) := by
  refine FnC_owed hmix (A5_awake_c ) (V := VT.need
        [FnC prog (20 : Nat) []
            (DV.agg
              [DV.lst (2 : Nat)
                  [fun (i : Nat) => DV.val (Value.int IntKind.i64 (List.getD [(1000 : Int), (2500 : Int)] i (0 : Int)))],
                DV.lst (1 : Nat) [fun (i : Nat) => DV.val (Value.int IntKind.i64 (500 : Int))],
                DV.val (Value.int IntKind.i64 (700 : Int)), DV.val (Value.int IntKind.i64 (300 : Int)),
                DV.val (Value.int IntKind.i64 (2000 : Int))]),
          FnC prog (19 : Nat)
            [DV.agg
                [DV.lst (2 : Nat)
                    [fun (i : Nat) => DV.val (Value.int IntKind.i64 (List.getD [(1000 : Int), (2500 : Int)] i (0 : Int)))],
                  DV.lst (1 : Nat) [fun (i : Nat) => DV.val (Value.int IntKind.i64 (500 : Int))],
                  DV.val (Value.int IntKind.i64 (700 : Int)), DV.val (Value.int IntKind.i64 (300 : Int)),
                  DV.val (Value.int IntKind.i64 (2000 : Int))],
              DV.val (Value.int IntKind.i64 (3000 : Int))]
            (DV.tup
              [DV.lst (7 : Nat)
                  [fun (i : Nat) =>
                    DV.val
                      (Value.int IntKind.i64
                        (tabS (2 : Nat) (fun (i : Nat) => List.getD [(1000 : Int), (2500 : Int)] i (0 : Int)) (1 : Nat)
                          (fun (x : Nat) => (500 : Int)) i))],
                DV.val (Value.int IntKind.i64 (0 : Int))])]
        (VT.need
          [FnC prog (20 : Nat) []
              (DV.agg
                [DV.lst (2 : Nat)
                    [fun (i : Nat) => DV.val (Value.int IntKind.i64 (List.getD [(1000 : Int), (2500 : Int)] i (0 : Int)))],
                  DV.lst (1 : Nat) [fun (i : Nat) => DV.val (Value.int IntKind.i64 (500 : Int))],
                  DV.val (Value.int IntKind.i64 (700 : Int)), DV.val (Value.int IntKind.i64 (300 : Int)),
                  DV.val (Value.int IntKind.i64 (2000 : Int))]),
            FnC prog (16 : Nat)
              [DV.agg
                  [DV.lst (2 : Nat)
                      [fun (i : Nat) =>
                        DV.val (Value.int IntKind.i64 (List.getD [(1000 : Int), (2500 : Int)] i (0 : Int)))],
                    DV.lst (1 : Nat) [fun (i : Nat) => DV.val (Value.int IntKind.i64 (500 : Int))],
                    DV.val (Value.int IntKind.i64 (700 : Int)), DV.val (Value.int IntKind.i64 (300 : Int)),
                    DV.val (Value.int IntKind.i64 (2000 : Int))],
                DV.val (Value.int IntKind.i64 (2000 : Int))]
              (DV.tup [DV.val (Value.int IntKind.i64 (3 : Int)), DV.val (Value.int IntKind.i64 (0 : Int))])]
          (VT.need
            [FnC prog (20 : Nat) []
                (DV.agg
                  [DV.lst (2 : Nat)
                      [fun (i : Nat) =>
                        DV.val (Value.int IntKind.i64 (List.getD [(1000 : Int), (2500 : Int)] i (0 : Int)))],
                    DV.lst (1 : Nat) [fun (i : Nat) => DV.val (Value.int IntKind.i64 (500 : Int))],
                    DV.val (Value.int IntKind.i64 (700 : Int)), DV.val (Value.int IntKind.i64 (300 : Int)),
                    DV.val (Value.int IntKind.i64 (2000 : Int))]),
              (2 : Nat) ≤ (2 : Nat), (1 : Nat) ≤ (1 : Nat),
              FnC prog (17 : Nat)
                [DV.agg
                    [DV.lst (2 : Nat)
                        [fun (i : Nat) =>
                          DV.val (Value.int IntKind.i64 (List.getD [(1000 : Int), (2500 : Int)] i (0 : Int)))],
                      DV.lst (1 : Nat) [fun (i : Nat) => DV.val (Value.int IntKind.i64 (500 : Int))],
                      DV.val (Value.int IntKind.i64 (700 : Int)), DV.val (Value.int IntKind.i64 (300 : Int)),
                      DV.val (Value.int IntKind.i64 (2000 : Int))],
                  DV.agg
                    [DV.lst (2 : Nat)
                        [fun (a : Nat) =>
                          DV.val (Value.int IntKind.i64 (List.getD [(2500 : Int), (1000 : Int)] a (0 : Int)))],
                      DV.lst (1 : Nat) [fun (a : Nat) => DV.val (Value.int IntKind.i64 (500 : Int))]]]
                (DV.tup
                  [DV.val (Value.agg { toList := [Value.int IntKind.i64 (2 : Int), Value.int IntKind.i64 (2 : Int)] }),
                    DV.val (Value.int IntKind.i64 (0 : Int))])]
            (VT.need
              [((0 : Int) == (0 : Int)) = true, ((0 : Int) == (0 : Int)) = true → ((0 : Int) == (0 : Int)) = true,
                ((0 : Int) == (0 : Int)) = true → ((0 : Int) == (0 : Int)) = true,
                ((0 : Int) == (0 : Int)) = true → (7 : Nat) ≤ (7 : Nat),
                ((0 : Int) == (0 : Int)) = true →
                  FnC prog (21 : Nat)
                    [DV.lst (7 : Nat)
                        [fun (i : Nat) =>
                          DV.val
                            (Value.int IntKind.i64
                              (tabS (2 : Nat) (fun (i : Nat) => List.getD [(1000 : Int), (2500 : Int)] i (0 : Int))
                                (1 : Nat) (fun (x : Nat) => (500 : Int)) i))],
                      DV.lst (7 : Nat)
                        [fun (a : Nat) =>
                          DV.val
                            (Value.int IntKind.i64
                              (List.getD
                                [(0 : Int), (10000 : Int), (10001 : Int), (20001 : Int), (20002 : Int), (1 : Int),
                                  (10001 : Int)]
                                a (0 : Int)))]]
                    (DV.val (Value.bool true)),
                ((0 : Int) == (0 : Int)) = true → ((0 : Int) == (0 : Int)) = true,
                (if ((0 : Int) == (0 : Int)) = true then true else false) = true →
                  (if ((0 : Int) == (0 : Int)) = true then true else false) = true,
                (if ((0 : Int) == (0 : Int)) = true then true else false) = true →
                  (if ((0 : Int) == (0 : Int)) = true then true else false) = true,
                (if (if ((0 : Int) == (0 : Int)) = true then true else false) = true then (0 : Int) == (0 : Int)
                    else false) =
                    true →
                  (if (if ((0 : Int) == (0 : Int)) = true then true else false) = true then (0 : Int) == (0 : Int)
                    else false) =
                    true,
                (if (if ((0 : Int) == (0 : Int)) = true then true else false) = true then (0 : Int) == (0 : Int)
                    else false) =
                    true →
                  (if (if ((0 : Int) == (0 : Int)) = true then true else false) = true then (0 : Int) == (0 : Int)
                    else false) =
                    true,
                (if
                        (if (if ((0 : Int) == (0 : Int)) = true then true else false) = true then (0 : Int) == (0 : Int)
                          else false) =
                          true then
                      (3 : Int) == (3 : Int)
                    else false) =
                    true →
                  (if
                        (if (if ((0 : Int) == (0 : Int)) = true then true else false) = true then (0 : Int) == (0 : Int)
                          else false) =
                          true then
                      (3 : Int) == (3 : Int)
                    else false) =
                    true,
                (if
                        (if (if ((0 : Int) == (0 : Int)) = true then true else false) = true then (0 : Int) == (0 : Int)
                          else false) =
                          true then
                      (3 : Int) == (3 : Int)
                    else false) =
                    true →
                  (if
                        (if (if ((0 : Int) == (0 : Int)) = true then true else false) = true then (0 : Int) == (0 : Int)
                          else false) =
                          true then
                      (3 : Int) == (3 : Int)
                    else false) =
                    true,
                (if
                        (if
                              (if (if ((0 : Int) == (0 : Int)) = true then true else false) = true then
                                  (0 : Int) == (0 : Int)
                                else false) =
                                true then
                            (3 : Int) == (3 : Int)
                          else false) =
                          true then
                      (0 : Int) == (0 : Int)
                    else false) =
                    true →
                  (if
                        (if
                              (if (if ((0 : Int) == (0 : Int)) = true then true else false) = true then
                                  (0 : Int) == (0 : Int)
                                else false) =
                                true then
                            (3 : Int) == (3 : Int)
                          else false) =
                          true then
                      (0 : Int) == (0 : Int)
                    else false) =
                    true,
                (if
                        (if
                              (if (if ((0 : Int) == (0 : Int)) = true then true else false) = true then
                                  (0 : Int) == (0 : Int)
                                else false) =
                                true then
                            (3 : Int) == (3 : Int)
                          else false) =
                          true then
                      (0 : Int) == (0 : Int)
                    else false) =
                    true →
                  (if
                        (if
                              (if (if ((0 : Int) == (0 : Int)) = true then true else false) = true then
                                  (0 : Int) == (0 : Int)
                                else false) =
                                true then
                            (3 : Int) == (3 : Int)
                          else false) =
                          true then
                      (0 : Int) == (0 : Int)
                    else false) =
                    true,
                (if
                        (if
                              (if (if ((0 : Int) == (0 : Int)) = true then true else false) = true then
                                  (0 : Int) == (0 : Int)
                                else false) =
                                true then
                            (3 : Int) == (3 : Int)
                          else false) =
                          true then
                      (0 : Int) == (0 : Int)
                    else false) =
                    true →
                  (if
                        (if
                              (if (if ((0 : Int) == (0 : Int)) = true then true else false) = true then
                                  (0 : Int) == (0 : Int)
                                else false) =
                                true then
                            (3 : Int) == (3 : Int)
                          else false) =
                          true then
                      (0 : Int) == (0 : Int)
                    else false) =
                    true]
              (VT.done
                [(if
                        (if
                              (if
                                    (if (if ((0 : Int) == (0 : Int)) = true then true else false) = true then
                                        (0 : Int) == (0 : Int)
                                      else false) =
                                      true then
                                  (3 : Int) == (3 : Int)
                                else false) =
                                true then
                            (0 : Int) == (0 : Int)
                          else false) =
                          true then
                      (2 : Int) == (2 : Int) && ((2 : Int) == (2 : Int) && true)
                    else false) =
                    true]))))) (by kernel_rfl) ?_
  simp only [VT.holds, AllT, imp_self, implies_true, and_true, true_and, toNat_succ, toNat_add2, toNat_zero', Int.toNat_natCast, Bool.if_true_left, Bool.if_false_right, Bool.decide_eq_true, Bool.or_eq_true, Bool.or_eq_false_iff, Bool.and_eq_true, Bool.and_eq_false_imp, Bool.not_eq_true', Bool.not_eq_false', Bool.not_not, bne_iff_ne, bne_eq_false_iff_eq, beq_iff_eq, beq_eq_false_iff_ne, decide_eq_true_eq, decide_eq_false_iff_not, ne_eq]
  have p := plain_c
  have t := tableTop_c 2 plB 1 plO 700 300 2000 3000
  have w := waysTop_c 2 plB 1 plO 700 300 2000 2000
  have c := costTop_c 2 plB 1 plO 700 300 2000 2 (fun a => [2500, 1000].getD a 0) 1 (fun _ => 500) (by omega) (by omega)
  rw [show tabN 2 plB 1 plO 700 300 2000 3000 = 7 by rw [tabN, if_pos (plain_meas _ (by omega) (by omega)), plain_unit]; rfl, plain_meas _ (by omega) (by omega)] at t
  rw [show waysE 2 plB 1 plO 700 300 2000 2000 = 0 by rw [waysE, if_pos (plain_meas _ (by omega) (by omega)), plain_unit, if_pos (by decide), plain_ways]; rfl,
    show waysV 2 plB 1 plO 700 300 2000 2000 = 3 by rw [waysV, if_pos (plain_meas _ (by omega) (by omega)), plain_unit, if_pos (by decide), plain_ways]; rfl] at w
  have hb : bothE 2 plB 1 plO 700 300 2000 2 (fun a => [2500, 1000].getD a 0) 1 (fun _ => 500) = 0 := by decide +kernel
  rw [hb, if_pos rfl, if_pos rfl] at c
  have hi := ints_c 7 (tabS 2 plB 1 plO) 7 plT (by omega)
  rw [show sameN 7 (tabS 2 plB 1 plO) 7 plT = true from decide_eq_true ⟨rfl, plain_tab⟩] at hi
  exact ⟨⟨p, t⟩, ⟨p, w⟩, ⟨p, Nat.le_refl _, Nat.le_refl _, c⟩, fun _ => Nat.le_refl _, fun _ => hi⟩
end Go.Abs
