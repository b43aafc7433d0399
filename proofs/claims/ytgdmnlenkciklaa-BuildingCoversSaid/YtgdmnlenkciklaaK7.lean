/- Contracts. -/
import Derived.Test.YtgdmnlenkciklaaK6
set_option linter.unusedVariables false
set_option linter.unusedSimpArgs false
set_option maxRecDepth 100000
namespace Go.Abs
open Go
abbrev nums (n : Nat) (A : Nat → Int) : DV := .lst n [fun i => .val (.int .i64 (A i))]
def ellX (i : Nat) : Int := [0, 4000, 4000, 2000, 2000, 0].getD i 0
def ellY (i : Nat) : Int := [0, 0, 2000, 2000, 4000, 4000].getD i 0
def rPts : Orc := .res fun l => pts (aN l) (aX l) (aY l)
def rEll : Orc := .res fun _ => pts 6 ellX ellY
def sameN (n : Nat) (A : Nat → Int) (m : Nat) (B : Nat → Int) : Bool := decide (n = m ∧ ∀ i, i < n → A i = B i)
def rInts : Orc := .res fun l => dB (sameN (aN l) (aX l) (lenOf (arg l 1)) (colI 0 (arg l 1)))
def rTrue : Orc := .res fun _ => dB true
def rFew : Orc := .res fun l => dB (decide ((aN l : Int) ≤ 45))
def rBst : Orc := .res fun l => dI (if whF (aN l) (aX l) (aY l) (fI 0 (arg l 1)) (fI 1 (arg l 1)) ≥ 0 then 0 else bst (aN l) (aX l) (aY l) (fI 0 (arg l 1)) (fI 1 (arg l 1)) (aN l))
noncomputable def A13_points_c (n : Nat) (X Y : Nat → Int) : Ann := { orc := [], loops := [], cuts := [] }
theorem points_c (n : Nat) (X Y : Nat → Int) (hn : n ≤ 1000000) : FnC prog 13 [pts n X Y] (pts n X Y) := by
  refine FnC_owed hmix (A13_points_c n X Y) (V := VT.need [(0 : Nat) ≤ (0 : Nat), ((0 : Nat) + n) * (nat_lit 15 + (1 : Nat)) ≤ (140737488355328 : Nat)]
        (VT.done
          [(0 : Nat) + n ≤ (0 : Nat) + n, (0 : Nat) + n = n,
            ∀ (i : Nat), i < n → (if decide (i < (0 : Nat)) = true then (0 : Int) else X (i - (0 : Nat))) = X i,
            ∀ (i : Nat), i < n → (if decide (i < (0 : Nat)) = true then (0 : Int) else Y (i - (0 : Nat))) = Y i])) (by kernel_rfl) ?_
  simp only [VT.holds, AllT, imp_self, implies_true, and_true, true_and, toNat_succ, toNat_add2, toNat_zero', Int.toNat_natCast, Bool.if_true_left, Bool.if_false_right, Bool.decide_eq_true, Bool.or_eq_true, Bool.or_eq_false_iff, Bool.and_eq_true, Bool.and_eq_false_imp, Bool.not_eq_true', Bool.not_eq_false', Bool.not_not, bne_iff_ne, bne_eq_false_iff_eq, beq_iff_eq, beq_eq_false_iff_ne, decide_eq_true_eq, decide_eq_false_iff_not, ne_eq]
  exact ⟨⟨by omega, by omega⟩, by omega, by omega, fun i _ => by rw [if_neg (by omega)]; rfl, fun i _ => by rw [if_neg (by omega)]; rfl⟩
noncomputable def A50_ell_c  : Ann := { orc := [], loops := [], cuts := [] }
theorem ell_c   : FnC prog 50 [] (pts 6 ellX ellY) := by
  refine FnC_owed hmix (A50_ell_c ) (V := VT.done
        [(6 : Nat) ≤ (6 : Nat), (6 : Nat) = (6 : Nat),
          ∀ (i : Nat),
            i < (6 : Nat) →
              List.getD [(0 : Int), (4000 : Int), (4000 : Int), (2000 : Int), (2000 : Int), (0 : Int)] i (0 : Int) = ellX i,
          ∀ (i : Nat),
            i < (6 : Nat) →
              List.getD [(0 : Int), (0 : Int), (2000 : Int), (2000 : Int), (4000 : Int), (4000 : Int)] i (0 : Int) = ellY i]) (by kernel_rfl) ?_
  simp only [VT.holds, AllT, imp_self, implies_true, and_true, true_and, toNat_succ, toNat_add2, toNat_zero', Int.toNat_natCast, Bool.if_true_left, Bool.if_false_right, Bool.decide_eq_true, Bool.or_eq_true, Bool.or_eq_false_iff, Bool.and_eq_true, Bool.and_eq_false_imp, Bool.not_eq_true', Bool.not_eq_false', Bool.not_not, bne_iff_ne, bne_eq_false_iff_eq, beq_iff_eq, beq_eq_false_iff_ne, decide_eq_true_eq, decide_eq_false_iff_not, ne_eq]
  exact ⟨Nat.le_refl 6, fun _ _ => rfl, fun _ _ => rfl⟩
noncomputable def A25_ints_c (n : Nat) (A : Nat → Int) (m : Nat) (B : Nat → Int) : Ann := { orc := [], loops := [(0, { ι := Nat, keep := [0, 1], boxes := [], ts := fun _ i => [(5, dI (i : Int))], inv := fun _ i => i ≤ n ∧ ∀ j, j < i → A j = B j, mu := fun _ i => n - i, rd := fun _ σ => (iOf (σ.get 5)).toNat })], cuts := [] }
theorem ints_c (n : Nat) (A : Nat → Int) (m : Nat) (B : Nat → Int) (hn : n ≤ 1000000000) : FnC prog 25 [nums n A, nums m B] (dB (sameN n A m B)) := by
  refine FnC_owed hmix (A25_ints_c n A m B) (V := VT.ite ((↑n : Int) != (↑m : Int)) (VT.done [false = sameN n A m B])
        (VT.loop Nat (fun (a : Nat) => a ≤ n ∧ ∀ (j : Nat), j < a → A j = B j) (Int.toNat (0 : Int))
          [(0 : Int) = (↑(Int.toNat (0 : Int)) : Int), n = n, ∀ (i : Nat), i < n → A i = A i, m = m,
            ∀ (i : Nat), i < m → B i = B i]
          fun (i : Nat) =>
          VT.ite (decide ((↑i : Int) < (↑n : Int)))
            (VT.need [(0 : Int) ≤ (↑i : Int) ∧ (↑i : Int) < (↑n : Int), (0 : Int) ≤ (↑i : Int) ∧ (↑i : Int) < (↑m : Int)]
              (VT.ite (A (Int.toNat (↑i : Int)) != B (Int.toNat (↑i : Int))) (VT.done [false = sameN n A m B])
                (VT.need [i64In ((↑i : Int) + (1 : Int))]
                  (VT.done
                    [(↑i : Int) + (1 : Int) = (↑(Int.toNat ((↑i : Int) + (1 : Int))) : Int), n = n,
                      ∀ (i : Nat), i < n → A i = A i, m = m, ∀ (i : Nat), i < m → B i = B i,
                      Int.toNat ((↑i : Int) + (1 : Int)) ≤ n ∧
                        ∀ (j : Nat), j < Int.toNat ((↑i : Int) + (1 : Int)) → A j = B j,
                      n - Int.toNat ((↑i : Int) + (1 : Int)) < n - i]))))
            (VT.done [true = sameN n A m B]))) (by kernel_rfl) ?_
  simp only [VT.holds, AllT, imp_self, implies_true, and_true, true_and, toNat_succ, toNat_add2, toNat_zero', Int.toNat_natCast, Bool.if_true_left, Bool.if_false_right, Bool.decide_eq_true, Bool.or_eq_true, Bool.or_eq_false_iff, Bool.and_eq_true, Bool.and_eq_false_imp, Bool.not_eq_true', Bool.not_eq_false', Bool.not_not, bne_iff_ne, bne_eq_false_iff_eq, beq_iff_eq, beq_eq_false_iff_ne, decide_eq_true_eq, decide_eq_false_iff_not, ne_eq]
  refine ⟨fun h => ?_, fun h => ⟨rfl, ⟨by omega, fun j hj => (by omega)⟩, fun i ⟨hi, hb⟩ => ⟨fun hlt => ⟨⟨by omega, by omega, by omega⟩, fun hne => ?_, fun he => ⟨by unfold i64In; omega, rfl, ⟨by omega, fun j hj => ?_⟩, by omega⟩⟩, fun hge => ?_⟩⟩⟩
  · unfold sameN
    rw [eq_comm, decide_eq_false_iff_not]
    intro hx; omega
  · unfold sameN
    rw [eq_comm, decide_eq_false_iff_not]
    intro hx; exact hne (hx.2 i (by omega))
  · by_cases e : j = i
    · subst e; exact he
    · exact hb j (by omega)
  · unfold sameN
    rw [eq_comm, decide_eq_true_eq]
    exact ⟨by omega, fun j hj => hb j (by omega)⟩
noncomputable def A10_awake_c  : Ann := { orc := [(1, [(0, rEll), (1, rAr)]), (2, [(0, rEll), (1, rCo)]), (3, [(0, rEll), (2, rDi)]), (4, [(13, rInts)])], loops := [], cuts := [] }
theorem awake_c   : FnC prog 10 [] (dB true) := by
  refine FnC_owed hmix (A10_awake_c ) (V := VT.need
        [FnC prog (50 : Nat) []
            (DV.lst (6 : Nat)
              [fun (i : Nat) => DV.val (Value.int IntKind.i64 (ellX i)), fun (i : Nat) =>
                DV.val (Value.int IntKind.i64 (ellY i))]),
          FnC prog (19 : Nat)
            [DV.lst (6 : Nat)
                [fun (i : Nat) => DV.val (Value.int IntKind.i64 (ellX i)), fun (i : Nat) =>
                  DV.val (Value.int IntKind.i64 (ellY i))]]
            (DV.tup
              [DV.val (Value.int IntKind.i64 (arF (6 : Nat) ellX ellY)),
                DV.val (Value.int IntKind.i64 (chk (6 : Nat) ellX ellY))])]
        (VT.need
          [FnC prog (50 : Nat) []
              (DV.lst (6 : Nat)
                [fun (i : Nat) => DV.val (Value.int IntKind.i64 (ellX i)), fun (i : Nat) =>
                  DV.val (Value.int IntKind.i64 (ellY i))]),
            FnC prog (21 : Nat)
              [DV.lst (6 : Nat)
                  [fun (i : Nat) => DV.val (Value.int IntKind.i64 (ellX i)), fun (i : Nat) =>
                    DV.val (Value.int IntKind.i64 (ellY i))]]
              (DV.tup
                [DV.lst (coN (6 : Nat) ellX ellY)
                    [fun (k : Nat) => DV.val (Value.int IntKind.i64 (cor (6 : Nat) ellX ellY k))],
                  DV.val (Value.int IntKind.i64 (chk (6 : Nat) ellX ellY))])]
          (VT.need
            [FnC prog (50 : Nat) []
                (DV.lst (6 : Nat)
                  [fun (i : Nat) => DV.val (Value.int IntKind.i64 (ellX i)), fun (i : Nat) =>
                    DV.val (Value.int IntKind.i64 (ellY i))]),
              FnC prog (14 : Nat)
                [DV.lst (6 : Nat)
                    [fun (i : Nat) => DV.val (Value.int IntKind.i64 (ellX i)), fun (i : Nat) =>
                      DV.val (Value.int IntKind.i64 (ellY i))],
                  DV.val (Value.agg { toList := [Value.int IntKind.i64 (5000 : Int), Value.int IntKind.i64 (5000 : Int)] })]
                (DV.tup
                  [DV.val (Value.int IntKind.i64 (diR (6 : Nat) ellX ellY (5000 : Int) (5000 : Int))),
                    DV.val (Value.int IntKind.i64 (whE (6 : Nat) ellX ellY (5000 : Int) (5000 : Int)))])]
            (VT.need
              [(chk (6 : Nat) ellX ellY == (0 : Int)) = true → (chk (6 : Nat) ellX ellY == (0 : Int)) = true,
                (chk (6 : Nat) ellX ellY == (0 : Int)) = true → (chk (6 : Nat) ellX ellY == (0 : Int)) = true,
                (if (chk (6 : Nat) ellX ellY == (0 : Int)) = true then arF (6 : Nat) ellX ellY == (12000000 : Int)
                    else false) =
                    true →
                  (if (chk (6 : Nat) ellX ellY == (0 : Int)) = true then arF (6 : Nat) ellX ellY == (12000000 : Int)
                    else false) =
                    true,
                (if (chk (6 : Nat) ellX ellY == (0 : Int)) = true then arF (6 : Nat) ellX ellY == (12000000 : Int)
                    else false) =
                    true →
                  (if (chk (6 : Nat) ellX ellY == (0 : Int)) = true then arF (6 : Nat) ellX ellY == (12000000 : Int)
                    else false) =
                    true,
                (if
                      (if (chk (6 : Nat) ellX ellY == (0 : Int)) = true then arF (6 : Nat) ellX ellY == (12000000 : Int)
                        else false) =
                        true then
                    chk (6 : Nat) ellX ellY == (0 : Int)
                  else false) =
                  true,
                (if
                        (if (chk (6 : Nat) ellX ellY == (0 : Int)) = true then arF (6 : Nat) ellX ellY == (12000000 : Int)
                          else false) =
                          true then
                      chk (6 : Nat) ellX ellY == (0 : Int)
                    else false) =
                    true →
                  (if
                        (if (chk (6 : Nat) ellX ellY == (0 : Int)) = true then arF (6 : Nat) ellX ellY == (12000000 : Int)
                          else false) =
                          true then
                      chk (6 : Nat) ellX ellY == (0 : Int)
                    else false) =
                    true,
                (if
                        (if (chk (6 : Nat) ellX ellY == (0 : Int)) = true then arF (6 : Nat) ellX ellY == (12000000 : Int)
                          else false) =
                          true then
                      chk (6 : Nat) ellX ellY == (0 : Int)
                    else false) =
                    true →
                  (if
                        (if (chk (6 : Nat) ellX ellY == (0 : Int)) = true then arF (6 : Nat) ellX ellY == (12000000 : Int)
                          else false) =
                          true then
                      chk (6 : Nat) ellX ellY == (0 : Int)
                    else false) =
                    true,
                (if
                        (if (chk (6 : Nat) ellX ellY == (0 : Int)) = true then arF (6 : Nat) ellX ellY == (12000000 : Int)
                          else false) =
                          true then
                      chk (6 : Nat) ellX ellY == (0 : Int)
                    else false) =
                    true →
                  (6 : Nat) ≤ (6 : Nat),
                (if
                        (if (chk (6 : Nat) ellX ellY == (0 : Int)) = true then arF (6 : Nat) ellX ellY == (12000000 : Int)
                          else false) =
                          true then
                      chk (6 : Nat) ellX ellY == (0 : Int)
                    else false) =
                    true →
                  FnC prog (25 : Nat)
                    [DV.lst (coN (6 : Nat) ellX ellY)
                        [fun (k : Nat) => DV.val (Value.int IntKind.i64 (cor (6 : Nat) ellX ellY k))],
                      DV.lst (6 : Nat)
                        [fun (a : Nat) =>
                          DV.val
                            (Value.int IntKind.i64
                              (List.getD [(1 : Int), (1 : Int), (1 : Int), (-1 : Int), (1 : Int), (1 : Int)] a (0 : Int)))]]
                    (DV.val
                      (Value.bool
                        (sameN (coN (6 : Nat) ellX ellY) (cor (6 : Nat) ellX ellY) (6 : Nat) fun (i : Nat) =>
                          List.getD [(1 : Int), (1 : Int), (1 : Int), (-1 : Int), (1 : Int), (1 : Int)] i (0 : Int)))),
                (if
                        (if (chk (6 : Nat) ellX ellY == (0 : Int)) = true then arF (6 : Nat) ellX ellY == (12000000 : Int)
                          else false) =
                          true then
                      chk (6 : Nat) ellX ellY == (0 : Int)
                    else false) =
                    true →
                  (if
                        (if (chk (6 : Nat) ellX ellY == (0 : Int)) = true then arF (6 : Nat) ellX ellY == (12000000 : Int)
                          else false) =
                          true then
                      chk (6 : Nat) ellX ellY == (0 : Int)
                    else false) =
                    true,
                (if
                        (if
                              (if (chk (6 : Nat) ellX ellY == (0 : Int)) = true then
                                  arF (6 : Nat) ellX ellY == (12000000 : Int)
                                else false) =
                                true then
                            chk (6 : Nat) ellX ellY == (0 : Int)
                          else false) =
                          true then
                      sameN (coN (6 : Nat) ellX ellY) (cor (6 : Nat) ellX ellY) (6 : Nat) fun (i : Nat) =>
                        List.getD [(1 : Int), (1 : Int), (1 : Int), (-1 : Int), (1 : Int), (1 : Int)] i (0 : Int)
                    else false) =
                    true →
                  (if
                        (if
                              (if (chk (6 : Nat) ellX ellY == (0 : Int)) = true then
                                  arF (6 : Nat) ellX ellY == (12000000 : Int)
                                else false) =
                                true then
                            chk (6 : Nat) ellX ellY == (0 : Int)
                          else false) =
                          true then
                      sameN (coN (6 : Nat) ellX ellY) (cor (6 : Nat) ellX ellY) (6 : Nat) fun (i : Nat) =>
                        List.getD [(1 : Int), (1 : Int), (1 : Int), (-1 : Int), (1 : Int), (1 : Int)] i (0 : Int)
                    else false) =
                    true,
                (if
                        (if
                              (if (chk (6 : Nat) ellX ellY == (0 : Int)) = true then
                                  arF (6 : Nat) ellX ellY == (12000000 : Int)
                                else false) =
                                true then
                            chk (6 : Nat) ellX ellY == (0 : Int)
                          else false) =
                          true then
                      sameN (coN (6 : Nat) ellX ellY) (cor (6 : Nat) ellX ellY) (6 : Nat) fun (i : Nat) =>
                        List.getD [(1 : Int), (1 : Int), (1 : Int), (-1 : Int), (1 : Int), (1 : Int)] i (0 : Int)
                    else false) =
                    true →
                  (if
                        (if
                              (if (chk (6 : Nat) ellX ellY == (0 : Int)) = true then
                                  arF (6 : Nat) ellX ellY == (12000000 : Int)
                                else false) =
                                true then
                            chk (6 : Nat) ellX ellY == (0 : Int)
                          else false) =
                          true then
                      sameN (coN (6 : Nat) ellX ellY) (cor (6 : Nat) ellX ellY) (6 : Nat) fun (i : Nat) =>
                        List.getD [(1 : Int), (1 : Int), (1 : Int), (-1 : Int), (1 : Int), (1 : Int)] i (0 : Int)
                    else false) =
                    true,
                (if
                        (if
                              (if
                                    (if (chk (6 : Nat) ellX ellY == (0 : Int)) = true then
                                        arF (6 : Nat) ellX ellY == (12000000 : Int)
                                      else false) =
                                      true then
                                  chk (6 : Nat) ellX ellY == (0 : Int)
                                else false) =
                                true then
                            sameN (coN (6 : Nat) ellX ellY) (cor (6 : Nat) ellX ellY) (6 : Nat) fun (i : Nat) =>
                              List.getD [(1 : Int), (1 : Int), (1 : Int), (-1 : Int), (1 : Int), (1 : Int)] i (0 : Int)
                          else false) =
                          true then
                      whE (6 : Nat) ellX ellY (5000 : Int) (5000 : Int) == (0 : Int)
                    else false) =
                    true →
                  (if
                        (if
                              (if
                                    (if (chk (6 : Nat) ellX ellY == (0 : Int)) = true then
                                        arF (6 : Nat) ellX ellY == (12000000 : Int)
                                      else false) =
                                      true then
                                  chk (6 : Nat) ellX ellY == (0 : Int)
                                else false) =
                                true then
                            sameN (coN (6 : Nat) ellX ellY) (cor (6 : Nat) ellX ellY) (6 : Nat) fun (i : Nat) =>
                              List.getD [(1 : Int), (1 : Int), (1 : Int), (-1 : Int), (1 : Int), (1 : Int)] i (0 : Int)
                          else false) =
                          true then
                      whE (6 : Nat) ellX ellY (5000 : Int) (5000 : Int) == (0 : Int)
                    else false) =
                    true,
                (if
                        (if
                              (if
                                    (if (chk (6 : Nat) ellX ellY == (0 : Int)) = true then
                                        arF (6 : Nat) ellX ellY == (12000000 : Int)
                                      else false) =
                                      true then
                                  chk (6 : Nat) ellX ellY == (0 : Int)
                                else false) =
                                true then
                            sameN (coN (6 : Nat) ellX ellY) (cor (6 : Nat) ellX ellY) (6 : Nat) fun (i : Nat) =>
                              List.getD [(1 : Int), (1 : Int), (1 : Int), (-1 : Int), (1 : Int), (1 : Int)] i (0 : Int)
                          else false) =
                          true then
                      whE (6 : Nat) ellX ellY (5000 : Int) (5000 : Int) == (0 : Int)
                    else false) =
                    true →
                  (if
                        (if
                              (if
                                    (if (chk (6 : Nat) ellX ellY == (0 : Int)) = true then
                                        arF (6 : Nat) ellX ellY == (12000000 : Int)
                                      else false) =
                                      true then
                                  chk (6 : Nat) ellX ellY == (0 : Int)
                                else false) =
                                true then
                            sameN (coN (6 : Nat) ellX ellY) (cor (6 : Nat) ellX ellY) (6 : Nat) fun (i : Nat) =>
                              List.getD [(1 : Int), (1 : Int), (1 : Int), (-1 : Int), (1 : Int), (1 : Int)] i (0 : Int)
                          else false) =
                          true then
                      whE (6 : Nat) ellX ellY (5000 : Int) (5000 : Int) == (0 : Int)
                    else false) =
                    true]
              (VT.done
                [(if
                        (if
                              (if
                                    (if
                                          (if (chk (6 : Nat) ellX ellY == (0 : Int)) = true then
                                              arF (6 : Nat) ellX ellY == (12000000 : Int)
                                            else false) =
                                            true then
                                        chk (6 : Nat) ellX ellY == (0 : Int)
                                      else false) =
                                      true then
                                  sameN (coN (6 : Nat) ellX ellY) (cor (6 : Nat) ellX ellY) (6 : Nat) fun (i : Nat) =>
                                    List.getD [(1 : Int), (1 : Int), (1 : Int), (-1 : Int), (1 : Int), (1 : Int)] i
                                      (0 : Int)
                                else false) =
                                true then
                            whE (6 : Nat) ellX ellY (5000 : Int) (5000 : Int) == (0 : Int)
                          else false) =
                          true then
                      diR (6 : Nat) ellX ellY (5000 : Int) (5000 : Int) == (10000000 : Int)
                    else false) =
                    true]))))) (by kernel_rfl) ?_
  simp only [VT.holds, AllT, imp_self, implies_true, and_true, true_and, toNat_succ, toNat_add2, toNat_zero', Int.toNat_natCast, Bool.if_true_left, Bool.if_false_right, Bool.decide_eq_true, Bool.or_eq_true, Bool.or_eq_false_iff, Bool.and_eq_true, Bool.and_eq_false_imp, Bool.not_eq_true', Bool.not_eq_false', Bool.not_not, bne_iff_ne, bne_eq_false_iff_eq, beq_iff_eq, beq_eq_false_iff_ne, decide_eq_true_eq, decide_eq_false_iff_not, ne_eq]
  have hc : chk 6 ellX ellY = 0 := by decide +kernel
  have ha : arF 6 ellX ellY = 12000000 := by decide +kernel
  have hn : coN 6 ellX ellY = 6 := by decide +kernel
  have hd : diR 6 ellX ellY 5000 5000 = 10000000 := by decide +kernel
  have he : whE 6 ellX ellY 5000 5000 = 0 := by decide +kernel
  have hs : sameN 6 (cor 6 ellX ellY) 6 (fun a => [1, 1, 1, -1, 1, 1].getD a 0) = true := by decide +kernel
  have h4 := ints_c 6 (cor 6 ellX ellY) 6 (fun a => [1, 1, 1, -1, 1, 1].getD a 0) (by omega)
  refine ⟨⟨ell_c, area_c 6 ellX ellY (by omega)⟩, ⟨ell_c, corners_c 6 ellX ellY (by omega)⟩, ⟨ell_c, dist_c 6 ellX ellY 5000 5000 (by omega)⟩, ⟨⟨⟨hc, ha⟩, hc⟩, fun _ => Nat.le_refl 6, fun _ => ?_⟩, ⟨⟨⟨⟨hc, ha⟩, hc⟩, ?_⟩, he⟩, hd⟩
  · rw [hn]; exact h4
  · rw [hn]; exact hs
noncomputable def A3_places_c (n : Nat) (X Y : Nat → Int) (p q : Int) : Ann := { orc := [(1, [(0, rTrue)]), (3, [(1, rFew)]), (5, [(1, rPts), (3, rWh)]), (6, [(1, rPts), (3, rDi)]), (7, [(1, rChk)]), (9, [(1, rPointErr)]), (12, [(10, rWhF), (17, rBst)])], loops := [], cuts := [] }
theorem places_c (n : Nat) (X Y : Nat → Int) (p q : Int)  : FnC prog 3 [pts n X Y, dP p q] (dB true) := by
  refine FnC_owed hmix (A3_places_c n X Y p q) (V := VT.need [FnC prog (10 : Nat) [] (DV.val (Value.bool true))]
        (VT.ite (!true) (VT.done [false = true])
          (VT.need
            [FnC prog (11 : Nat)
                [DV.lst n
                    [fun (i : Nat) => DV.val (Value.int IntKind.i64 (X i)), fun (i : Nat) =>
                      DV.val (Value.int IntKind.i64 (Y i))]]
                (DV.val (Value.bool (decide ((↑n : Int) ≤ (45 : Int)))))]
            (VT.ite (!decide ((↑n : Int) ≤ (45 : Int))) (VT.done [true = true])
              (VT.need
                [FnC prog (13 : Nat)
                    [DV.lst n
                        [fun (i : Nat) => DV.val (Value.int IntKind.i64 (X i)), fun (i : Nat) =>
                          DV.val (Value.int IntKind.i64 (Y i))]]
                    (DV.lst n
                      [fun (i : Nat) => DV.val (Value.int IntKind.i64 (X i)), fun (i : Nat) =>
                        DV.val (Value.int IntKind.i64 (Y i))]),
                  FnC prog (12 : Nat)
                    [DV.lst n
                        [fun (i : Nat) => DV.val (Value.int IntKind.i64 (X i)), fun (i : Nat) =>
                          DV.val (Value.int IntKind.i64 (Y i))],
                      DV.val (Value.agg { toList := [Value.int IntKind.i64 p, Value.int IntKind.i64 q] })]
                    (DV.tup
                      [DV.val (Value.int IntKind.i64 (whR n X Y p q)), DV.val (Value.int IntKind.i64 (whE n X Y p q))])]
                (VT.need
                  [FnC prog (13 : Nat)
                      [DV.lst n
                          [fun (i : Nat) => DV.val (Value.int IntKind.i64 (X i)), fun (i : Nat) =>
                            DV.val (Value.int IntKind.i64 (Y i))]]
                      (DV.lst n
                        [fun (i : Nat) => DV.val (Value.int IntKind.i64 (X i)), fun (i : Nat) =>
                          DV.val (Value.int IntKind.i64 (Y i))]),
                    FnC prog (14 : Nat)
                      [DV.lst n
                          [fun (i : Nat) => DV.val (Value.int IntKind.i64 (X i)), fun (i : Nat) =>
                            DV.val (Value.int IntKind.i64 (Y i))],
                        DV.val (Value.agg { toList := [Value.int IntKind.i64 p, Value.int IntKind.i64 q] })]
                      (DV.tup
                        [DV.val (Value.int IntKind.i64 (diR n X Y p q)), DV.val (Value.int IntKind.i64 (whE n X Y p q))])]
                  (VT.need
                    [FnC prog (15 : Nat)
                        [DV.lst n
                            [fun (i : Nat) => DV.val (Value.int IntKind.i64 (X i)), fun (i : Nat) =>
                              DV.val (Value.int IntKind.i64 (Y i))]]
                        (DV.val (Value.int IntKind.i64 (chk n X Y)))]
                    (VT.ite (chk n X Y == (0 : Int))
                      (VT.need
                        [FnC prog (16 : Nat)
                            [DV.val (Value.agg { toList := [Value.int IntKind.i64 p, Value.int IntKind.i64 q] })]
                            (DV.val (Value.int IntKind.i64 (if inF p = true ∧ inF q = true then (0 : Int) else (2 : Int))))]
                        (VT.ite ((if inF p = true ∧ inF q = true then (0 : Int) else (2 : Int)) != (0 : Int))
                          (VT.need
                            [(whE n X Y p q == if inF p = true ∧ inF q = true then (0 : Int) else (2 : Int)) = true →
                                (whE n X Y p q == if inF p = true ∧ inF q = true then (0 : Int) else (2 : Int)) = true,
                              (whE n X Y p q == if inF p = true ∧ inF q = true then (0 : Int) else (2 : Int)) = true →
                                (whE n X Y p q == if inF p = true ∧ inF q = true then (0 : Int) else (2 : Int)) = true,
                              (whE n X Y p q == if inF p = true ∧ inF q = true then (0 : Int) else (2 : Int)) = true →
                                (whE n X Y p q == if inF p = true ∧ inF q = true then (0 : Int) else (2 : Int)) = true,
                              (if
                                      (whE n X Y p q == if inF p = true ∧ inF q = true then (0 : Int) else (2 : Int)) =
                                        true then
                                    whE n X Y p q == if inF p = true ∧ inF q = true then (0 : Int) else (2 : Int)
                                  else false) =
                                  true →
                                (if
                                      (whE n X Y p q == if inF p = true ∧ inF q = true then (0 : Int) else (2 : Int)) =
                                        true then
                                    whE n X Y p q == if inF p = true ∧ inF q = true then (0 : Int) else (2 : Int)
                                  else false) =
                                  true,
                              (if
                                      (whE n X Y p q == if inF p = true ∧ inF q = true then (0 : Int) else (2 : Int)) =
                                        true then
                                    whE n X Y p q == if inF p = true ∧ inF q = true then (0 : Int) else (2 : Int)
                                  else false) =
                                  true →
                                (if
                                      (whE n X Y p q == if inF p = true ∧ inF q = true then (0 : Int) else (2 : Int)) =
                                        true then
                                    whE n X Y p q == if inF p = true ∧ inF q = true then (0 : Int) else (2 : Int)
                                  else false) =
                                  true,
                              (if
                                      (if
                                            (whE n X Y p q ==
                                                if inF p = true ∧ inF q = true then (0 : Int) else (2 : Int)) =
                                              true then
                                          whE n X Y p q == if inF p = true ∧ inF q = true then (0 : Int) else (2 : Int)
                                        else false) =
                                        true then
                                    whR n X Y p q == (0 : Int)
                                  else false) =
                                  true →
                                (if
                                      (if
                                            (whE n X Y p q ==
                                                if inF p = true ∧ inF q = true then (0 : Int) else (2 : Int)) =
                                              true then
                                          whE n X Y p q == if inF p = true ∧ inF q = true then (0 : Int) else (2 : Int)
                                        else false) =
                                        true then
                                    whR n X Y p q == (0 : Int)
                                  else false) =
                                  true,
                              (if
                                      (if
                                            (whE n X Y p q ==
                                                if inF p = true ∧ inF q = true then (0 : Int) else (2 : Int)) =
                                              true then
                                          whE n X Y p q == if inF p = true ∧ inF q = true then (0 : Int) else (2 : Int)
                                        else false) =
                                        true then
                                    whR n X Y p q == (0 : Int)
                                  else false) =
                                  true →
                                (if
                                      (if
                                            (whE n X Y p q ==
                                                if inF p = true ∧ inF q = true then (0 : Int) else (2 : Int)) =
                                              true then
                                          whE n X Y p q == if inF p = true ∧ inF q = true then (0 : Int) else (2 : Int)
                                        else false) =
                                        true then
                                    whR n X Y p q == (0 : Int)
                                  else false) =
                                  true]
                            (VT.done
                              [(if
                                      (if
                                            (if
                                                  (whE n X Y p q ==
                                                      if inF p = true ∧ inF q = true then (0 : Int) else (2 : Int)) =
                                                    true then
                                                whE n X Y p q ==
                                                  if inF p = true ∧ inF q = true then (0 : Int) else (2 : Int)
                                              else false) =
                                              true then
                                          whR n X Y p q == (0 : Int)
                                        else false) =
                                        true then
                                    diR n X Y p q == (0 : Int)
                                  else false) =
                                  true]))
                          (VT.need
                            [(whE n X Y p q == (0 : Int)) = true → (whE n X Y p q == (0 : Int)) = true,
                              (whE n X Y p q == (0 : Int)) = true → (whE n X Y p q == (0 : Int)) = true,
                              (if (whE n X Y p q == (0 : Int)) = true then whE n X Y p q == (0 : Int) else false) = true →
                                (if (whE n X Y p q == (0 : Int)) = true then whE n X Y p q == (0 : Int) else false) = true,
                              (if (whE n X Y p q == (0 : Int)) = true then whE n X Y p q == (0 : Int) else false) = true →
                                (if (whE n X Y p q == (0 : Int)) = true then whE n X Y p q == (0 : Int) else false) = true,
                              (if (whE n X Y p q == (0 : Int)) = true then whE n X Y p q == (0 : Int) else false) = true →
                                FnC prog (17 : Nat)
                                  [DV.lst n
                                      [fun (i : Nat) => DV.val (Value.int IntKind.i64 (X i)), fun (i : Nat) =>
                                        DV.val (Value.int IntKind.i64 (Y i))],
                                    DV.val (Value.agg { toList := [Value.int IntKind.i64 p, Value.int IntKind.i64 q] })]
                                  (DV.val (Value.int IntKind.i64 (whF n X Y p q))),
                              (if (whE n X Y p q == (0 : Int)) = true then whE n X Y p q == (0 : Int) else false) = true →
                                (if (whE n X Y p q == (0 : Int)) = true then whE n X Y p q == (0 : Int) else false) = true,
                              (if (whE n X Y p q == (0 : Int)) = true then whE n X Y p q == (0 : Int) else false) = true →
                                (if (whE n X Y p q == (0 : Int)) = true then whE n X Y p q == (0 : Int) else false) = true,
                              (if (whE n X Y p q == (0 : Int)) = true then whE n X Y p q == (0 : Int) else false) = true →
                                (if (whE n X Y p q == (0 : Int)) = true then whE n X Y p q == (0 : Int) else false) = true,
                              (if
                                      (if (whE n X Y p q == (0 : Int)) = true then whE n X Y p q == (0 : Int) else false) =
                                        true then
                                    whR n X Y p q == whF n X Y p q
                                  else false) =
                                  true →
                                (if
                                      (if (whE n X Y p q == (0 : Int)) = true then whE n X Y p q == (0 : Int) else false) =
                                        true then
                                    whR n X Y p q == whF n X Y p q
                                  else false) =
                                  true,
                              (if
                                      (if (whE n X Y p q == (0 : Int)) = true then whE n X Y p q == (0 : Int) else false) =
                                        true then
                                    whR n X Y p q == whF n X Y p q
                                  else false) =
                                  true →
                                (if
                                      (if (whE n X Y p q == (0 : Int)) = true then whE n X Y p q == (0 : Int) else false) =
                                        true then
                                    whR n X Y p q == whF n X Y p q
                                  else false) =
                                  true,
                              (if
                                      (if (whE n X Y p q == (0 : Int)) = true then whE n X Y p q == (0 : Int) else false) =
                                        true then
                                    whR n X Y p q == whF n X Y p q
                                  else false) =
                                  true →
                                FnC prog (18 : Nat)
                                  [DV.lst n
                                      [fun (i : Nat) => DV.val (Value.int IntKind.i64 (X i)), fun (i : Nat) =>
                                        DV.val (Value.int IntKind.i64 (Y i))],
                                    DV.val (Value.agg { toList := [Value.int IntKind.i64 p, Value.int IntKind.i64 q] })]
                                  (DV.val
                                    (Value.int IntKind.i64
                                      (if whF n X Y p q ≥ (0 : Int) then (0 : Int) else bst n X Y p q n))),
                              (if
                                      (if (whE n X Y p q == (0 : Int)) = true then whE n X Y p q == (0 : Int) else false) =
                                        true then
                                    whR n X Y p q == whF n X Y p q
                                  else false) =
                                  true →
                                (if
                                      (if (whE n X Y p q == (0 : Int)) = true then whE n X Y p q == (0 : Int) else false) =
                                        true then
                                    whR n X Y p q == whF n X Y p q
                                  else false) =
                                  true,
                              (if
                                      (if (whE n X Y p q == (0 : Int)) = true then whE n X Y p q == (0 : Int) else false) =
                                        true then
                                    whR n X Y p q == whF n X Y p q
                                  else false) =
                                  true →
                                (if
                                      (if (whE n X Y p q == (0 : Int)) = true then whE n X Y p q == (0 : Int) else false) =
                                        true then
                                    whR n X Y p q == whF n X Y p q
                                  else false) =
                                  true,
                              (if
                                      (if (whE n X Y p q == (0 : Int)) = true then whE n X Y p q == (0 : Int) else false) =
                                        true then
                                    whR n X Y p q == whF n X Y p q
                                  else false) =
                                  true →
                                (if
                                      (if (whE n X Y p q == (0 : Int)) = true then whE n X Y p q == (0 : Int) else false) =
                                        true then
                                    whR n X Y p q == whF n X Y p q
                                  else false) =
                                  true]
                            (VT.done
                              [(if
                                      (if
                                            (if (whE n X Y p q == (0 : Int)) = true then whE n X Y p q == (0 : Int)
                                              else false) =
                                              true then
                                          whR n X Y p q == whF n X Y p q
                                        else false) =
                                        true then
                                    diR n X Y p q == if whF n X Y p q ≥ (0 : Int) then (0 : Int) else bst n X Y p q n
                                  else false) =
                                  true]))))
                      (VT.ite (chk n X Y != (0 : Int))
                        (VT.need
                          [(whE n X Y p q == chk n X Y) = true → (whE n X Y p q == chk n X Y) = true,
                            (whE n X Y p q == chk n X Y) = true → (whE n X Y p q == chk n X Y) = true,
                            (whE n X Y p q == chk n X Y) = true → (whE n X Y p q == chk n X Y) = true,
                            (if (whE n X Y p q == chk n X Y) = true then whE n X Y p q == chk n X Y else false) = true →
                              (if (whE n X Y p q == chk n X Y) = true then whE n X Y p q == chk n X Y else false) = true,
                            (if (whE n X Y p q == chk n X Y) = true then whE n X Y p q == chk n X Y else false) = true →
                              (if (whE n X Y p q == chk n X Y) = true then whE n X Y p q == chk n X Y else false) = true,
                            (if
                                    (if (whE n X Y p q == chk n X Y) = true then whE n X Y p q == chk n X Y else false) =
                                      true then
                                  whR n X Y p q == (0 : Int)
                                else false) =
                                true →
                              (if
                                    (if (whE n X Y p q == chk n X Y) = true then whE n X Y p q == chk n X Y else false) =
                                      true then
                                  whR n X Y p q == (0 : Int)
                                else false) =
                                true,
                            (if
                                    (if (whE n X Y p q == chk n X Y) = true then whE n X Y p q == chk n X Y else false) =
                                      true then
                                  whR n X Y p q == (0 : Int)
                                else false) =
                                true →
                              (if
                                    (if (whE n X Y p q == chk n X Y) = true then whE n X Y p q == chk n X Y else false) =
                                      true then
                                  whR n X Y p q == (0 : Int)
                                else false) =
                                true]
                          (VT.done
                            [(if
                                    (if
                                          (if (whE n X Y p q == chk n X Y) = true then whE n X Y p q == chk n X Y
                                            else false) =
                                            true then
                                        whR n X Y p q == (0 : Int)
                                      else false) =
                                      true then
                                  diR n X Y p q == (0 : Int)
                                else false) =
                                true]))
                        (VT.need
                          [(whE n X Y p q == (0 : Int)) = true → (whE n X Y p q == (0 : Int)) = true,
                            (whE n X Y p q == (0 : Int)) = true → (whE n X Y p q == (0 : Int)) = true,
                            (if (whE n X Y p q == (0 : Int)) = true then whE n X Y p q == (0 : Int) else false) = true →
                              (if (whE n X Y p q == (0 : Int)) = true then whE n X Y p q == (0 : Int) else false) = true,
                            (if (whE n X Y p q == (0 : Int)) = true then whE n X Y p q == (0 : Int) else false) = true →
                              (if (whE n X Y p q == (0 : Int)) = true then whE n X Y p q == (0 : Int) else false) = true,
                            (if (whE n X Y p q == (0 : Int)) = true then whE n X Y p q == (0 : Int) else false) = true →
                              FnC prog (17 : Nat)
                                [DV.lst n
                                    [fun (i : Nat) => DV.val (Value.int IntKind.i64 (X i)), fun (i : Nat) =>
                                      DV.val (Value.int IntKind.i64 (Y i))],
                                  DV.val (Value.agg { toList := [Value.int IntKind.i64 p, Value.int IntKind.i64 q] })]
                                (DV.val (Value.int IntKind.i64 (whF n X Y p q))),
                            (if (whE n X Y p q == (0 : Int)) = true then whE n X Y p q == (0 : Int) else false) = true →
                              (if (whE n X Y p q == (0 : Int)) = true then whE n X Y p q == (0 : Int) else false) = true,
                            (if (whE n X Y p q == (0 : Int)) = true then whE n X Y p q == (0 : Int) else false) = true →
                              (if (whE n X Y p q == (0 : Int)) = true then whE n X Y p q == (0 : Int) else false) = true,
                            (if (whE n X Y p q == (0 : Int)) = true then whE n X Y p q == (0 : Int) else false) = true →
                              (if (whE n X Y p q == (0 : Int)) = true then whE n X Y p q == (0 : Int) else false) = true,
                            (if
                                    (if (whE n X Y p q == (0 : Int)) = true then whE n X Y p q == (0 : Int) else false) =
                                      true then
                                  whR n X Y p q == whF n X Y p q
                                else false) =
                                true →
                              (if
                                    (if (whE n X Y p q == (0 : Int)) = true then whE n X Y p q == (0 : Int) else false) =
                                      true then
                                  whR n X Y p q == whF n X Y p q
                                else false) =
                                true,
                            (if
                                    (if (whE n X Y p q == (0 : Int)) = true then whE n X Y p q == (0 : Int) else false) =
                                      true then
                                  whR n X Y p q == whF n X Y p q
                                else false) =
                                true →
                              (if
                                    (if (whE n X Y p q == (0 : Int)) = true then whE n X Y p q == (0 : Int) else false) =
                                      true then
                                  whR n X Y p q == whF n X Y p q
                                else false) =
                                true,
                            (if
                                    (if (whE n X Y p q == (0 : Int)) = true then whE n X Y p q == (0 : Int) else false) =
                                      true then
                                  whR n X Y p q == whF n X Y p q
                                else false) =
                                true →
                              FnC prog (18 : Nat)
                                [DV.lst n
                                    [fun (i : Nat) => DV.val (Value.int IntKind.i64 (X i)), fun (i : Nat) =>
                                      DV.val (Value.int IntKind.i64 (Y i))],
                                  DV.val (Value.agg { toList := [Value.int IntKind.i64 p, Value.int IntKind.i64 q] })]
                                (DV.val
                                  (Value.int IntKind.i64
                                    (if whF n X Y p q ≥ (0 : Int) then (0 : Int) else bst n X Y p q n))),
                            (if
                                    (if (whE n X Y p q == (0 : Int)) = true then whE n X Y p q == (0 : Int) else false) =
                                      true then
                                  whR n X Y p q == whF n X Y p q
                                else false) =
                                true →
                              (if
                                    (if (whE n X Y p q == (0 : Int)) = true then whE n X Y p q == (0 : Int) else false) =
                                      true then
                                  whR n X Y p q == whF n X Y p q
                                else false) =
                                true,
                            (if
                                    (if (whE n X Y p q == (0 : Int)) = true then whE n X Y p q == (0 : Int) else false) =
                                      true then
                                  whR n X Y p q == whF n X Y p q
                                else false) =
                                true →
                              (if
                                    (if (whE n X Y p q == (0 : Int)) = true then whE n X Y p q == (0 : Int) else false) =
                                      true then
                                  whR n X Y p q == whF n X Y p q
                                else false) =
                                true,
                            (if
                                    (if (whE n X Y p q == (0 : Int)) = true then whE n X Y p q == (0 : Int) else false) =
                                      true then
                                  whR n X Y p q == whF n X Y p q
                                else false) =
                                true →
                              (if
                                    (if (whE n X Y p q == (0 : Int)) = true then whE n X Y p q == (0 : Int) else false) =
                                      true then
                                  whR n X Y p q == whF n X Y p q
                                else false) =
                                true]
                          (VT.done
                            [(if
                                    (if
                                          (if (whE n X Y p q == (0 : Int)) = true then whE n X Y p q == (0 : Int)
                                            else false) =
                                            true then
                                        whR n X Y p q == whF n X Y p q
                                      else false) =
                                      true then
                                  diR n X Y p q == if whF n X Y p q ≥ (0 : Int) then (0 : Int) else bst n X Y p q n
                                else false) =
                                true]))))))))))) (by kernel_rfl) ?_
  simp only [VT.holds, AllT, imp_self, implies_true, and_true, true_and, toNat_succ, toNat_add2, toNat_zero', Int.toNat_natCast, Bool.if_true_left, Bool.if_false_right, Bool.decide_eq_true, Bool.or_eq_true, Bool.or_eq_false_iff, Bool.and_eq_true, Bool.and_eq_false_imp, Bool.not_eq_true', Bool.not_eq_false', Bool.not_not, bne_iff_ne, bne_eq_false_iff_eq, beq_iff_eq, beq_eq_false_iff_ne, decide_eq_true_eq, decide_eq_false_iff_not, ne_eq]
  have w0 : chk n X Y = 0 → whE n X Y p q = if inF p = true ∧ inF q = true then 0 else 2 := fun h => by rw [whE, if_neg (by rw [h]; simp)]
  have w1 : chk n X Y ≠ 0 → whE n X Y p q = chk n X Y := fun h => by rw [whE, if_pos h]
  have r1 : whE n X Y p q ≠ 0 → whR n X Y p q = 0 := fun h => by rw [whR, if_pos h]
  have r0 : whE n X Y p q = 0 → whR n X Y p q = whF n X Y p q := fun h => by rw [whR, if_neg (by rw [h]; simp)]
  have d1 : whE n X Y p q ≠ 0 → diR n X Y p q = 0 := fun h => by rw [diR, if_pos (.inl h)]
  have d0 : whE n X Y p q = 0 → diR n X Y p q = if whF n X Y p q ≥ 0 then 0 else bst n X Y p q n := fun h => by
    rw [diR, r0 h]
    by_cases hw : whF n X Y p q ≥ 0
    · rw [if_pos (.inr hw), if_pos hw]
    · rw [if_neg (fun hx => hx.elim (fun hy => hy h) hw), if_neg hw]
  refine ⟨awake_c, by simp, fun _ => ⟨few_c n X Y, fun hn => ⟨⟨points_c n X Y (by omega), whereTop_c n X Y p q (by omega)⟩, ⟨points_c n X Y (by omega), dist_c n X Y p q (by omega)⟩, checkR_c n X Y (by omega), fun h => ⟨pointErr_c p q, fun hne => ?_, fun h0 => ?_⟩, fun h => ⟨fun _ => ?_, fun hx => absurd hx h⟩⟩⟩⟩
  · have := w0 h
    have hw : whE n X Y p q ≠ 0 := by rw [this]; exact hne
    exact ⟨⟨⟨this, this⟩, r1 hw⟩, d1 hw⟩
  · have hw : whE n X Y p q = 0 := by rw [w0 h]; exact h0
    have hn4 := chk_n h
    obtain ⟨hX, hY⟩ := chk_inB h
    have hpq : inF p = true ∧ inF q = true := by
      by_cases e : inF p = true ∧ inF q = true
      · exact e
      · rw [if_neg e] at h0; cases h0
    exact ⟨⟨fun _ => whereR_c n X Y p q (by omega) (by omega), fun _ => distR_c n X Y p q (by omega) (by omega) hX hY hpq.1 hpq.2⟩, ⟨⟨hw, hw⟩, r0 hw⟩, d0 hw⟩
  · have := w1 h
    have hw : whE n X Y p q ≠ 0 := by rw [this]; exact h
    exact ⟨⟨⟨this, this⟩, r1 hw⟩, d1 hw⟩
end Go.Abs
