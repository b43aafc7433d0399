/- Contracts. -/
import Derived.Test.YtbemjdppfiabgaaK5
import Derived.Test.YtbemjdppfiabgaaAbsV
set_option linter.unusedVariables false
set_option linter.unusedSimpArgs false
set_option maxRecDepth 100000
namespace Go.Abs
open Go
def okI (s : Scf) (i : Int) : Bool := decide (0 ≤ i ∧ i < s.nM)
def sqV (s : Scf) (i : Int) : Int := if chkE s = 0 ∧ okI s i = true then sqr s (s.A i.toNat) (s.B i.toNat) else 0
def sqE (s : Scf) (i : Int) : Int := if chkE s ≠ 0 then chkE s else if okI s i = true then 0 else 6
def sdN (s : Scf) : Nat := if chkE s = 0 then flN (opnP s) (nSd s) else 0
abbrev rdD (s : Scf) : DV := .tup [frmD s (rdN s), dI (chkE s)]
def lesR (a b c d : Int) : Bool := decide (a * d < c * b)
def cA (a b : Int) : Int := if a > b then -a else a
def cB (a b : Int) : Int := if a > b then -b else b
def cL (a b lo hi : Int) : Int := if a > b then -hi else lo
def cH (a b lo hi : Int) : Int := if a > b then -lo else hi
def cutB (a b lo hi : Int) : Bool := if a = b then (decide (a > lo) && decide (a < hi)) else true
def cF1 (n d a b lo hi : Int) : Int := if a = b then n else if lesR n d (cL a b lo hi - cA a b) (cB a b - cA a b) = true then cL a b lo hi - cA a b else n
def cF2 (n d a b lo hi : Int) : Int := if a = b then d else if lesR n d (cL a b lo hi - cA a b) (cB a b - cA a b) = true then cB a b - cA a b else d
def cT1 (n d a b lo hi : Int) : Int := if a = b then n else if lesR (cH a b lo hi - cA a b) (cB a b - cA a b) n d = true then cH a b lo hi - cA a b else n
def cT2 (n d a b lo hi : Int) : Int := if a = b then d else if lesR (cH a b lo hi - cA a b) (cB a b - cA a b) n d = true then cB a b - cA a b else d
abbrev d2 (a b : Int) : DV := .val (.agg #[.int .i64 a, .int .i64 b])
abbrev bd6 (x : Int) : Prop := -1000000 ≤ x ∧ x ≤ 1000000
abbrev bd7 (x : Int) : Prop := -2000000 ≤ x ∧ x ≤ 2000000
theorem mul_bd {x y : Int} (hx : bd7 x) (hy : bd7 y) : -4000000000000 ≤ x * y ∧ x * y ≤ 4000000000000 := by
  obtain ⟨h1, h2⟩ := hx
  obtain ⟨h3, h4⟩ := hy
  have a1 : 0 ≤ (x + 2000000) * (y + 2000000) := Int.mul_nonneg (by omega) (by omega)
  have a2 : 0 ≤ (2000000 - x) * (2000000 - y) := Int.mul_nonneg (by omega) (by omega)
  have a3 : 0 ≤ (x + 2000000) * (2000000 - y) := Int.mul_nonneg (by omega) (by omega)
  have a4 : 0 ≤ (2000000 - x) * (y + 2000000) := Int.mul_nonneg (by omega) (by omega)
  rw [Int.add_mul, Int.mul_add, Int.mul_add] at a1
  rw [Int.sub_mul, Int.mul_sub, Int.mul_sub] at a2
  rw [Int.add_mul, Int.mul_sub, Int.mul_sub] at a3
  rw [Int.sub_mul, Int.mul_add, Int.mul_add] at a4
  rw [Int.mul_comm x 2000000] at *
  omega
noncomputable def A28_Square_c (s : Scf) (i : Int) : Ann := { orc := [(1, [(1, .res fun q => rdD s)]), (6, [(6, .res fun q => dI (sqr s (fI 1 (arg q 1)) (fI 2 (arg q 1))))])], loops := [], cuts := [] }
abbrev Square_cd0 (s : Scf) (i : Int) : DV := .agg [.lst s.nN [fun i => (dI (s.X i)), fun i => (dI (s.Y i)), fun i => (dI (s.Z i))], .lst s.nM [fun i => (dI (s.K i)), fun i => (dI (s.A i)), fun i => (dI (s.B i))], DV.mp (KS.ints (3 : Nat)) (fun (l : List Int) => atH s (rdN s) l) fun (l : List Int) => (dI (atL s (rdN s) l))]
theorem Square_c (s : Scf) (i : Int)  : FnC prog 28 [scfD s, dI i] (.tup [dI (sqV s i), dI (sqE s i)]) := by
  refine FnC_owed hmix (A28_Square_c s i) (V := .need [FnC prog (74 : Nat) [.agg [.lst s.nN [fun i => (dI (s.X i)), fun i => (dI (s.Y i)), fun i => (dI (s.Z i))], .lst s.nM [fun i => (dI (s.K i)), fun i => (dI (s.A i)), fun i => (dI (s.B i))]]] (.tup [(Square_cd0 s i), (dI (chkE s))])] (.ite (chkE s != (0 : Int)) (.done [(0 : Int) = sqV s i, chkE s = sqE s i]) (.need [(!decide (i < (0 : Int))) = true → (!decide (i < (0 : Int))) = true, (!decide (i < (0 : Int))) = true → (!decide (i < (0 : Int))) = true, (!decide (i < (0 : Int))) = true → (!decide (i < (0 : Int))) = true, (!decide (i < (0 : Int))) = true → (!decide (i < (0 : Int))) = true, decide (i < (0 : Int)) = false → (!decide (i < (0 : Int))) = true] (.ite (if decide (i < (0 : Int)) = true then true else decide (i ≥ (↑s.nM : Int))) (.done [(0 : Int) = sqV s i, (6 : Int) = sqE s i]) (.need [(0 : Int) ≤ i ∧ i < (↑s.nM : Int), FnC prog (91 : Nat) [(Square_cd0 s i), .val (.agg (Array.mk [.int .i64 (s.K (Int.toNat i)), .int .i64 (s.A (Int.toNat i)), .int .i64 (s.B (Int.toNat i))]))] ((dI (sqr s (s.A (Int.toNat i)) (s.B (Int.toNat i)))))] (.done [sqr s (s.A (Int.toNat i)) (s.B (Int.toNat i)) = sqV s i, (0 : Int) = sqE s i])))))) (by kernel_rfl) ?_
  simp only [VT.holds, AllT, Square_cd0, imp_self, implies_true, and_true, true_and, toNat_succ, toNat_add2, toNat_zero', Int.toNat_natCast, Bool.if_true_left, Bool.if_false_right, Bool.decide_eq_true, Bool.or_eq_true, Bool.or_eq_false_iff, Bool.and_eq_true, Bool.and_eq_false_imp, Bool.not_eq_true', Bool.not_eq_false', Bool.not_not, bne_iff_ne, bne_eq_false_iff_eq, beq_iff_eq, beq_eq_false_iff_ne, decide_eq_true_eq, decide_eq_false_iff_not, ne_eq]
  refine ⟨read_c s, fun h => ⟨by rw [sqV, if_neg (fun h' => h h'.1)], by rw [sqE, if_pos h]⟩, fun h => ⟨fun h1 => ?_, fun h1 => ?_⟩⟩
  · have h2 : ¬ okI s i = true := by rw [okI, decide_eq_true_eq]; omega
    exact ⟨by rw [sqV, if_neg (fun h' => h2 h'.2)], by rw [sqE, if_neg (by rw [h]; simp), if_neg h2]⟩
  · have h2 : okI s i = true := by rw [okI, decide_eq_true_eq]; omega
    have hc := chk_facts h
    obtain ⟨hA, hB⟩ := hc.ends i.toNat (by omega)
    refine ⟨⟨by omega, ?_⟩, by rw [sqV, if_pos ⟨h, h2⟩], by rw [sqE, if_neg (by rw [h]; simp), if_pos h2]⟩
    rw [rdN_ok h]
    exact square_c s _ _ _ hA hB hc
noncomputable def A33_Sides_c (s : Scf) : Ann := { orc := [(1, [(1, .res fun q => rdD s)]), (4, [(1, .res fun q => .lst (flN (opnP s) (nSd s)) (opnD s (nSd s)))])], loops := [], cuts := [] }
abbrev Sides_cd0 (s : Scf) : DV := .agg [.lst s.nN [fun i => (dI (s.X i)), fun i => (dI (s.Y i)), fun i => (dI (s.Z i))], .lst s.nM [fun i => (dI (s.K i)), fun i => (dI (s.A i)), fun i => (dI (s.B i))], DV.mp (KS.ints (3 : Nat)) (fun (l : List Int) => atH s (rdN s) l) fun (l : List Int) => (dI (atL s (rdN s) l))]
theorem Sides_c (s : Scf)  : FnC prog 33 [scfD s] (.tup [.lst (sdN s) (opnD s (nSd s)), dI (chkE s)]) := by
  refine FnC_owed hmix (A33_Sides_c s) (V := .need [FnC prog (74 : Nat) [.agg [.lst s.nN [fun i => (dI (s.X i)), fun i => (dI (s.Y i)), fun i => (dI (s.Z i))], .lst s.nM [fun i => (dI (s.K i)), fun i => (dI (s.A i)), fun i => (dI (s.B i))]]] (.tup [(Sides_cd0 s), (dI (chkE s))])] (.ite (chkE s != (0 : Int)) (.done [sdN s = (0 : Nat), chkE s = chkE s]) (.need [FnC prog (94 : Nat) [(Sides_cd0 s)] (.lst (flN (opnP s) (nSd s)) [fun j => (dI (sdD s (flI (opnP s) (nSd s) j))), fun j => (dI (sdA s (flI (opnP s) (nSd s) j))), fun j => (dI (sdB s (flI (opnP s) (nSd s) j)))])] (.done [flN (opnP s) (nSd s) = sdN s, ∀ (i : Nat), i < sdN s → sdD s (flI (opnP s) (nSd s) i) = sdD s (flI (opnP s) (nSd s) i), ∀ (i : Nat), i < sdN s → sdA s (flI (opnP s) (nSd s) i) = sdA s (flI (opnP s) (nSd s) i), ∀ (i : Nat), i < sdN s → sdB s (flI (opnP s) (nSd s) i) = sdB s (flI (opnP s) (nSd s) i), (0 : Int) = chkE s])))) (by kernel_rfl) ?_
  simp only [VT.holds, AllT, Sides_cd0, imp_self, implies_true, and_true, true_and, toNat_succ, toNat_add2, toNat_zero', Int.toNat_natCast, Bool.if_true_left, Bool.if_false_right, Bool.decide_eq_true, Bool.or_eq_true, Bool.or_eq_false_iff, Bool.and_eq_true, Bool.and_eq_false_imp, Bool.not_eq_true', Bool.not_eq_false', Bool.not_not, bne_iff_ne, bne_eq_false_iff_eq, beq_iff_eq, beq_eq_false_iff_ne, decide_eq_true_eq, decide_eq_false_iff_not, ne_eq]
  refine ⟨read_c s, fun h => by rw [sdN, if_neg h], fun h => ⟨?_, by rw [sdN, if_pos h], h.symm⟩⟩
  rw [rdN_ok h]
  exact open_c s (chk_facts h)
noncomputable def A158_less_c (a b c d : Int) : Ann := { orc := [], loops := [], cuts := [] }
theorem less_c (a b c d : Int) (ha : bd7 a) (hb : bd7 b) (hc : bd7 c) (hd : bd7 d) : FnC prog 158 [d2 a b, d2 c d] (dB (lesR a b c d)) := by
  refine FnC_owed hmix (A158_less_c a b c d) (V := .need [i64In (a * d), i64In (c * b)] (.done [decide (a * d < c * b) = lesR a b c d])) (by kernel_rfl) ?_
  simp only [VT.holds, AllT, imp_self, implies_true, and_true, true_and, toNat_succ, toNat_add2, toNat_zero', Int.toNat_natCast, Bool.if_true_left, Bool.if_false_right, Bool.decide_eq_true, Bool.or_eq_true, Bool.or_eq_false_iff, Bool.and_eq_true, Bool.and_eq_false_imp, Bool.not_eq_true', Bool.not_eq_false', Bool.not_not, bne_iff_ne, bne_eq_false_iff_eq, beq_iff_eq, beq_eq_false_iff_ne, decide_eq_true_eq, decide_eq_false_iff_not, ne_eq]
  have h1 := mul_bd ha hd
  have h2 := mul_bd hc hb
  exact ⟨⟨by unfold i64In; omega, by unfold i64In; omega⟩, rfl⟩
noncomputable def A157_cut_c (n d tn td a b lo hi : Int) : Ann := { orc := [(6, [(4, .res fun q => dB (lesR (fI 0 (arg q 0)) (fI 1 (arg q 0)) (fI 0 (arg q 1)) (fI 1 (arg q 1))))]), (9, [(4, .res fun q => dB (lesR (fI 0 (arg q 0)) (fI 1 (arg q 0)) (fI 0 (arg q 1)) (fI 1 (arg q 1))))])], loops := [], cuts := [] }
theorem cut_c (n d tn td a b lo hi : Int) (hn : bd7 n) (hd : bd7 d) (htn : bd7 tn) (htd : bd7 td) (ha : bd6 a) (hb : bd6 b) (hlo : bd6 lo) (hhi : bd6 hi) : FnW prog 157 [.box [dI n, dI d] [dI (cF1 n d a b lo hi), dI (cF2 n d a b lo hi)], .box [dI tn, dI td] [dI (cT1 tn td a b lo hi), dI (cT2 tn td a b lo hi)], .arg (dI a), .arg (dI b), .arg (dI lo), .arg (dI hi)] (dB (cutB a b lo hi)) := by
  refine FnW_owed hmix (A157_cut_c n d tn td a b lo hi) (V := VT.ite (a == b)
        (VT.need
          [decide (a > lo) = true → decide (a > lo) = true, decide (a > lo) = true → decide (a > lo) = true,
            decide (a > lo) = true → decide (a > lo) = true]
          (VT.done
            [n = cF1 n d a b lo hi, d = cF2 n d a b lo hi, tn = cT1 tn td a b lo hi, td = cT2 tn td a b lo hi,
              (if decide (a > lo) = true then decide (a < hi) else false) = cutB a b lo hi]))
        (VT.ite (decide (a > b))
          (VT.need [i64In (-a), i64In (-b), i64In (-hi), i64In (-lo)]
            (VT.need [i64In (-hi - -a), i64In (-b - -a)]
              (VT.need
                [FnC prog (158 : Nat)
                    [DV.val (Value.agg (Array.mk [Value.int IntKind.i64 n, Value.int IntKind.i64 d])),
                      DV.val (Value.agg (Array.mk [Value.int IntKind.i64 (-hi - -a), Value.int IntKind.i64 (-b - -a)]))]
                    (DV.val (Value.bool (lesR n d (-hi - -a) (-b - -a))))]
                (VT.ite (lesR n d (-hi - -a) (-b - -a))
                  (VT.need [i64In (-lo - -a), i64In (-b - -a)]
                    (VT.need
                      [FnC prog (158 : Nat)
                          [DV.val
                              (Value.agg (Array.mk [Value.int IntKind.i64 (-lo - -a), Value.int IntKind.i64 (-b - -a)])),
                            DV.val (Value.agg (Array.mk [Value.int IntKind.i64 tn, Value.int IntKind.i64 td]))]
                          (DV.val (Value.bool (lesR (-lo - -a) (-b - -a) tn td)))]
                      (VT.ite (lesR (-lo - -a) (-b - -a) tn td)
                        (VT.done
                          [-hi - -a = cF1 n d a b lo hi, -b - -a = cF2 n d a b lo hi, -lo - -a = cT1 tn td a b lo hi,
                            -b - -a = cT2 tn td a b lo hi, true = cutB a b lo hi])
                        (VT.done
                          [-hi - -a = cF1 n d a b lo hi, -b - -a = cF2 n d a b lo hi, tn = cT1 tn td a b lo hi,
                            td = cT2 tn td a b lo hi, true = cutB a b lo hi]))))
                  (VT.need [i64In (-lo - -a), i64In (-b - -a)]
                    (VT.need
                      [FnC prog (158 : Nat)
                          [DV.val
                              (Value.agg (Array.mk [Value.int IntKind.i64 (-lo - -a), Value.int IntKind.i64 (-b - -a)])),
                            DV.val (Value.agg (Array.mk [Value.int IntKind.i64 tn, Value.int IntKind.i64 td]))]
                          (DV.val (Value.bool (lesR (-lo - -a) (-b - -a) tn td)))]
                      (VT.ite (lesR (-lo - -a) (-b - -a) tn td)
                        (VT.done
                          [n = cF1 n d a b lo hi, d = cF2 n d a b lo hi, -lo - -a = cT1 tn td a b lo hi,
                            -b - -a = cT2 tn td a b lo hi, true = cutB a b lo hi])
                        (VT.done
                          [n = cF1 n d a b lo hi, d = cF2 n d a b lo hi, tn = cT1 tn td a b lo hi, td = cT2 tn td a b lo hi,
                            true = cutB a b lo hi]))))))))
          (VT.need [i64In (lo - a), i64In (b - a)]
            (VT.need
              [FnC prog (158 : Nat)
                  [DV.val (Value.agg (Array.mk [Value.int IntKind.i64 n, Value.int IntKind.i64 d])),
                    DV.val (Value.agg (Array.mk [Value.int IntKind.i64 (lo - a), Value.int IntKind.i64 (b - a)]))]
                  (DV.val (Value.bool (lesR n d (lo - a) (b - a))))]
              (VT.ite (lesR n d (lo - a) (b - a))
                (VT.need [i64In (hi - a), i64In (b - a)]
                  (VT.need
                    [FnC prog (158 : Nat)
                        [DV.val (Value.agg (Array.mk [Value.int IntKind.i64 (hi - a), Value.int IntKind.i64 (b - a)])),
                          DV.val (Value.agg (Array.mk [Value.int IntKind.i64 tn, Value.int IntKind.i64 td]))]
                        (DV.val (Value.bool (lesR (hi - a) (b - a) tn td)))]
                    (VT.ite (lesR (hi - a) (b - a) tn td)
                      (VT.done
                        [lo - a = cF1 n d a b lo hi, b - a = cF2 n d a b lo hi, hi - a = cT1 tn td a b lo hi,
                          b - a = cT2 tn td a b lo hi, true = cutB a b lo hi])
                      (VT.done
                        [lo - a = cF1 n d a b lo hi, b - a = cF2 n d a b lo hi, tn = cT1 tn td a b lo hi,
                          td = cT2 tn td a b lo hi, true = cutB a b lo hi]))))
                (VT.need [i64In (hi - a), i64In (b - a)]
                  (VT.need
                    [FnC prog (158 : Nat)
                        [DV.val (Value.agg (Array.mk [Value.int IntKind.i64 (hi - a), Value.int IntKind.i64 (b - a)])),
                          DV.val (Value.agg (Array.mk [Value.int IntKind.i64 tn, Value.int IntKind.i64 td]))]
                        (DV.val (Value.bool (lesR (hi - a) (b - a) tn td)))]
                    (VT.ite (lesR (hi - a) (b - a) tn td)
                      (VT.done
                        [n = cF1 n d a b lo hi, d = cF2 n d a b lo hi, hi - a = cT1 tn td a b lo hi,
                          b - a = cT2 tn td a b lo hi, true = cutB a b lo hi])
                      (VT.done
                        [n = cF1 n d a b lo hi, d = cF2 n d a b lo hi, tn = cT1 tn td a b lo hi, td = cT2 tn td a b lo hi,
                          true = cutB a b lo hi]))))))))) (by kernel_rfl) ?_
  simp only [VT.holds, AllT, imp_self, implies_true, and_true, true_and, toNat_succ, toNat_add2, toNat_zero', Int.toNat_natCast, Bool.if_true_left, Bool.if_false_right, Bool.decide_eq_true, Bool.or_eq_true, Bool.or_eq_false_iff, Bool.and_eq_true, Bool.and_eq_false_imp, Bool.not_eq_true', Bool.not_eq_false', Bool.not_not, bne_iff_ne, bne_eq_false_iff_eq, beq_iff_eq, beq_eq_false_iff_ne, decide_eq_true_eq, decide_eq_false_iff_not, ne_eq]
  refine ⟨fun h => by simp only [cF1, cF2, cT1, cT2, cutB, if_pos h, and_self], fun h => ⟨fun hg => ⟨⟨by unfold i64In; omega, by unfold i64In; omega, by unfold i64In; omega, by unfold i64In; omega⟩, ⟨by unfold i64In; omega, by unfold i64In; omega⟩, less_c _ _ _ _ hn hd (by omega) (by omega), fun h1 => ⟨⟨by unfold i64In; omega, by unfold i64In; omega⟩, less_c _ _ _ _ (by omega) (by omega) htn htd, fun h2 => by simp only [cF1, cF2, cT1, cT2, cutB, cL, cH, cA, cB, if_neg h, if_pos hg, h1, h2, if_true, Bool.false_eq_true, if_false, and_self], fun h2 => by simp only [cF1, cF2, cT1, cT2, cutB, cL, cH, cA, cB, if_neg h, if_pos hg, h1, h2, if_true, Bool.false_eq_true, if_false, and_self]⟩, fun h1 => ⟨⟨by unfold i64In; omega, by unfold i64In; omega⟩, less_c _ _ _ _ (by omega) (by omega) htn htd, fun h2 => by simp only [cF1, cF2, cT1, cT2, cutB, cL, cH, cA, cB, if_neg h, if_pos hg, h1, h2, if_true, Bool.false_eq_true, if_false, and_self], fun h2 => by simp only [cF1, cF2, cT1, cT2, cutB, cL, cH, cA, cB, if_neg h, if_pos hg, h1, h2, if_true, Bool.false_eq_true, if_false, and_self]⟩⟩, fun hg => ⟨⟨by unfold i64In; omega, by unfold i64In; omega⟩, less_c _ _ _ _ hn hd (by omega) (by omega), fun h1 => ⟨⟨by unfold i64In; omega, by unfold i64In; omega⟩, less_c _ _ _ _ (by omega) (by omega) htn htd, fun h2 => by simp only [cF1, cF2, cT1, cT2, cutB, cL, cH, cA, cB, if_neg h, if_neg hg, h1, h2, if_true, Bool.false_eq_true, if_false, and_self], fun h2 => by simp only [cF1, cF2, cT1, cT2, cutB, cL, cH, cA, cB, if_neg h, if_neg hg, h1, h2, if_true, Bool.false_eq_true, if_false, and_self]⟩, fun h1 => ⟨⟨by unfold i64In; omega, by unfold i64In; omega⟩, less_c _ _ _ _ (by omega) (by omega) htn htd, fun h2 => by simp only [cF1, cF2, cT1, cT2, cutB, cL, cH, cA, cB, if_neg h, if_neg hg, h1, h2, if_true, Bool.false_eq_true, if_false, and_self], fun h2 => by simp only [cF1, cF2, cT1, cT2, cutB, cL, cH, cA, cB, if_neg h, if_neg hg, h1, h2, if_true, Bool.false_eq_true, if_false, and_self]⟩⟩⟩⟩
end Go.Abs
