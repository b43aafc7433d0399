/- Contracts. -/
import Derived.Test.YtgdmnlenkciklaaK4
set_option linter.unusedVariables false
set_option linter.unusedSimpArgs false
set_option maxRecDepth 100000
namespace Go.Abs
open Go
theorem ix_nat {n i : Nat} (h : i < n) : ix n (i : Int) = i := by
  unfold ix
  rw [Int.add_emod_right, Int.emod_eq_of_lt (by omega) (by omega)]
  rfl
theorem ix_next {n : Nat} (i : Int) : ((i + 1) % (n : Int)).toNat = ix n (i + 1) := by
  unfold ix; rw [Int.add_emod_right]
theorem ix_prev {n : Nat} (i : Int) : ((i + (n : Int) - 1) % (n : Int)).toNat = ix n (i - 1) := by
  unfold ix; congr 2; omega
def rWithin : Orc := .res fun l => dB (decide (aI l 1 ≤ aI l 0 ∧ aI l 0 ≤ aI l 2))
/-- The specification's direction. -/
def dirR (a b c d : Int) : Int := if dirOk a b c d = true then dirD a b c d else -1
def rDirR : Orc := .res fun l => dI (dirR (fI 0 (arg l 0)) (fI 1 (arg l 0)) (fI 0 (arg l 1)) (fI 1 (arg l 1)))
def rNext : Orc := .res fun l => dP (aX l (ix (aN l) (aI l 1 + 1))) (aY l (ix (aN l) (aI l 1 + 1)))
def touR (a b c d e f g h : Int) : Bool := decide (min a c ≤ max e g ∧ min e g ≤ max a c ∧ min b d ≤ max f h ∧ min f h ≤ max b d)
def rTouR : Orc := .res fun l => dB (touR (fI 0 (arg l 0)) (fI 1 (arg l 0)) (fI 0 (arg l 1)) (fI 1 (arg l 1)) (fI 0 (arg l 2)) (fI 1 (arg l 2)) (fI 0 (arg l 3)) (fI 1 (arg l 3)))
def rBetween : Orc := .res fun l => dB (decide (min (aI l 1) (aI l 2) ≤ aI l 0 ∧ aI l 0 ≤ max (aI l 1) (aI l 2)))
def rOut : Orc := .res fun l => dI (ap (aI l 0) (min (aI l 1) (aI l 2)) (max (aI l 1) (aI l 2)))
def rNodeErr : Orc := .res fun l => dI (if inF (fI 0 (arg l 0)) = true ∧ inF (fI 1 (arg l 0)) = true ∧ inF (fI 2 (arg l 0)) = true then 0 else 2)
def rPointErr : Orc := .res fun l => dI (if inF (fI 0 (arg l 0)) = true ∧ inF (fI 1 (arg l 0)) = true then 0 else 2)
noncomputable def A44_within_c (x l h : Int) : Ann := { orc := [], loops := [], cuts := [] }
theorem within_c (x l h : Int)  : FnC prog 44 [dI x, dI l, dI h] (dB (decide (l ≤ x ∧ x ≤ h))) := by
  refine FnC_owed hmix (A44_within_c x l h) (V := VT.need
        [decide (x ≥ l) = true → decide (x ≥ l) = true, decide (x ≥ l) = true → decide (x ≥ l) = true,
          decide (x ≥ l) = true → decide (x ≥ l) = true]
        (VT.done [(if decide (x ≥ l) = true then decide (x ≤ h) else false) = decide (l ≤ x ∧ x ≤ h)])) (by kernel_rfl) ?_
  simp only [VT.holds, AllT, imp_self, implies_true, and_true, true_and, toNat_succ, toNat_add2, toNat_zero', Int.toNat_natCast, Bool.if_true_left, Bool.if_false_right, Bool.decide_eq_true, Bool.or_eq_true, Bool.or_eq_false_iff, Bool.and_eq_true, Bool.and_eq_false_imp, Bool.not_eq_true', Bool.not_eq_false', Bool.not_not, bne_iff_ne, bne_eq_false_iff_eq, beq_iff_eq, beq_eq_false_iff_ne, decide_eq_true_eq, decide_eq_false_iff_not, ne_eq]
  grind
noncomputable def A55_in_c (x : Int) : Ann := { orc := [(1, [(1, rWithin)])], loops := [], cuts := [] }
theorem in_c (x : Int)  : FnC prog 55 [dI x] (dB (inF x)) := by
  refine FnC_owed hmix (A55_in_c x) (V := VT.need
        [FnC prog (44 : Nat)
            [DV.val (Value.int IntKind.i64 x), DV.val (Value.int IntKind.i64 (-1000000 : Int)),
              DV.val (Value.int IntKind.i64 (1000000 : Int))]
            (DV.val (Value.bool (decide ((-1000000 : Int) ≤ x ∧ x ≤ (1000000 : Int)))))]
        (VT.done [decide ((-1000000 : Int) ≤ x ∧ x ≤ (1000000 : Int)) = inF x])) (by kernel_rfl) ?_
  simp only [VT.holds, AllT, imp_self, implies_true, and_true, true_and, toNat_succ, toNat_add2, toNat_zero', Int.toNat_natCast, Bool.if_true_left, Bool.if_false_right, Bool.decide_eq_true, Bool.or_eq_true, Bool.or_eq_false_iff, Bool.and_eq_true, Bool.and_eq_false_imp, Bool.not_eq_true', Bool.not_eq_false', Bool.not_not, bne_iff_ne, bne_eq_false_iff_eq, beq_iff_eq, beq_eq_false_iff_ne, decide_eq_true_eq, decide_eq_false_iff_not, ne_eq]
  exact ⟨within_c x _ _, rfl⟩
noncomputable def A56_dirR_c (a b c d : Int) : Ann := { orc := [], loops := [], cuts := [] }
theorem dirR_c (a b c d : Int)  : FnC prog 56 [dP a b, dP c d] (dI (dirR a b c d)) := by
  refine FnC_owed hmix (A56_dirR_c a b c d) (V := VT.need
        [(b == d) = true → (b == d) = true, (b == d) = true → (b == d) = true, (b == d) = true → (b == d) = true,
          (b == d) = true → (b == d) = true, (b == d) = true → (b == d) = true]
        (VT.ite (if (b == d) = true then decide (c > a) else false) (VT.done [(0 : Int) = dirR a b c d])
          (VT.need
            [(a == c) = true → (a == c) = true, (a == c) = true → (a == c) = true, (a == c) = true → (a == c) = true,
              (a == c) = true → (a == c) = true, (a == c) = true → (a == c) = true]
            (VT.ite (if (a == c) = true then decide (d > b) else false) (VT.done [(1 : Int) = dirR a b c d])
              (VT.need
                [(b == d) = true → (b == d) = true, (b == d) = true → (b == d) = true, (b == d) = true → (b == d) = true,
                  (b == d) = true → (b == d) = true, (b == d) = true → (b == d) = true]
                (VT.ite (if (b == d) = true then decide (c < a) else false) (VT.done [(2 : Int) = dirR a b c d])
                  (VT.need
                    [(a == c) = true → (a == c) = true, (a == c) = true → (a == c) = true,
                      (a == c) = true → (a == c) = true, (a == c) = true → (a == c) = true,
                      (a == c) = true → (a == c) = true]
                    (VT.ite (if (a == c) = true then decide (d < b) else false) (VT.done [(3 : Int) = dirR a b c d])
                      (VT.done [(-1 : Int) = dirR a b c d]))))))))) (by kernel_rfl) ?_
  simp only [VT.holds, AllT, imp_self, implies_true, and_true, true_and, toNat_succ, toNat_add2, toNat_zero', Int.toNat_natCast, Bool.if_true_left, Bool.if_false_right, Bool.decide_eq_true, Bool.or_eq_true, Bool.or_eq_false_iff, Bool.and_eq_true, Bool.and_eq_false_imp, Bool.not_eq_true', Bool.not_eq_false', Bool.not_not, bne_iff_ne, bne_eq_false_iff_eq, beq_iff_eq, beq_eq_false_iff_ne, decide_eq_true_eq, decide_eq_false_iff_not, ne_eq]
  unfold dirR dirOk dirD
  simp only [decide_eq_true_eq]
  refine ⟨fun h => ?_, fun h1 => ⟨fun h => ?_, fun h2 => ⟨fun h => ?_, fun h3 => ⟨fun h => ?_, fun h4 => ?_⟩⟩⟩⟩
  all_goals grind
noncomputable def A57_next_c (n : Nat) (X Y : Nat → Int) (i : Int) : Ann := { orc := [(1, [(5, .pos)])], loops := [], cuts := [] }
theorem next_c (n : Nat) (X Y : Nat → Int) (i : Int) (hn : 0 < n) (hn2 : n ≤ 1000000) (h1 : 0 ≤ i) (h2 : i ≤ 1000000) : FnC prog 57 [pts n X Y, dI i] (dP (X (ix n (i + 1))) (Y (ix n (i + 1)))) := by
  refine FnC_owed hmix (A57_next_c n X Y i) (V := VT.need
        [i64In (i + (1 : Int)), (0 : Int) ≤ i + (1 : Int) ∧ (0 : Int) < (↑n : Int),
          (0 : Int) ≤ (i + (1 : Int)) % (↑n : Int) ∧ (i + (1 : Int)) % (↑n : Int) < (↑n : Int)]
        (VT.done
          [X (Int.toNat ((i + (1 : Int)) % (↑n : Int))) = X (ix n (i + (1 : Int))),
            Y (Int.toNat ((i + (1 : Int)) % (↑n : Int))) = Y (ix n (i + (1 : Int)))])) (by kernel_rfl) ?_
  simp only [VT.holds, AllT, imp_self, implies_true, and_true, true_and, toNat_succ, toNat_add2, toNat_zero', Int.toNat_natCast, Bool.if_true_left, Bool.if_false_right, Bool.decide_eq_true, Bool.or_eq_true, Bool.or_eq_false_iff, Bool.and_eq_true, Bool.and_eq_false_imp, Bool.not_eq_true', Bool.not_eq_false', Bool.not_not, bne_iff_ne, bne_eq_false_iff_eq, beq_iff_eq, beq_eq_false_iff_ne, decide_eq_true_eq, decide_eq_false_iff_not, ne_eq]
  have := Int.emod_lt_of_pos (i + 1) (show (0 : Int) < n by omega)
  have := Int.emod_nonneg (i + 1) (show (n : Int) ≠ 0 by omega)
  rw [ix_next]
  exact ⟨⟨by unfold i64In; omega, by omega, by omega⟩, rfl, rfl⟩
noncomputable def A58_touchR_c (a b c d e f g h : Int) : Ann := { orc := [], loops := [], cuts := [] }
theorem touchR_c (a b c d e f g h : Int)  : FnC prog 58 [dP a b, dP c d, dP e f, dP g h] (dB (touR a b c d e f g h)) := by
  refine FnC_owed hmix (A58_touchR_c a b c d e f g h) (V := VT.need
        [decide (mins a [c] ≤ maxs e [g]) = true → decide (mins a [c] ≤ maxs e [g]) = true,
          decide (mins a [c] ≤ maxs e [g]) = true → decide (mins a [c] ≤ maxs e [g]) = true,
          decide (mins a [c] ≤ maxs e [g]) = true → decide (mins a [c] ≤ maxs e [g]) = true,
          decide (mins a [c] ≤ maxs e [g]) = true → decide (mins a [c] ≤ maxs e [g]) = true,
          decide (mins a [c] ≤ maxs e [g]) = true → decide (mins a [c] ≤ maxs e [g]) = true,
          decide (mins a [c] ≤ maxs e [g]) = true → decide (mins a [c] ≤ maxs e [g]) = true,
          decide (mins a [c] ≤ maxs e [g]) = true → decide (mins a [c] ≤ maxs e [g]) = true,
          decide (mins a [c] ≤ maxs e [g]) = true → decide (mins a [c] ≤ maxs e [g]) = true,
          decide (mins a [c] ≤ maxs e [g]) = true → decide (mins a [c] ≤ maxs e [g]) = true,
          decide (mins a [c] ≤ maxs e [g]) = true → decide (mins a [c] ≤ maxs e [g]) = true,
          decide (mins a [c] ≤ maxs e [g]) = true → decide (mins a [c] ≤ maxs e [g]) = true,
          (if decide (mins a [c] ≤ maxs e [g]) = true then decide (mins e [g] ≤ maxs a [c]) else false) = true →
            (if decide (mins a [c] ≤ maxs e [g]) = true then decide (mins e [g] ≤ maxs a [c]) else false) = true,
          (if decide (mins a [c] ≤ maxs e [g]) = true then decide (mins e [g] ≤ maxs a [c]) else false) = true →
            (if decide (mins a [c] ≤ maxs e [g]) = true then decide (mins e [g] ≤ maxs a [c]) else false) = true,
          (if decide (mins a [c] ≤ maxs e [g]) = true then decide (mins e [g] ≤ maxs a [c]) else false) = true →
            (if decide (mins a [c] ≤ maxs e [g]) = true then decide (mins e [g] ≤ maxs a [c]) else false) = true,
          (if decide (mins a [c] ≤ maxs e [g]) = true then decide (mins e [g] ≤ maxs a [c]) else false) = true →
            (if decide (mins a [c] ≤ maxs e [g]) = true then decide (mins e [g] ≤ maxs a [c]) else false) = true,
          (if decide (mins a [c] ≤ maxs e [g]) = true then decide (mins e [g] ≤ maxs a [c]) else false) = true →
            (if decide (mins a [c] ≤ maxs e [g]) = true then decide (mins e [g] ≤ maxs a [c]) else false) = true,
          (if decide (mins a [c] ≤ maxs e [g]) = true then decide (mins e [g] ≤ maxs a [c]) else false) = true →
            (if decide (mins a [c] ≤ maxs e [g]) = true then decide (mins e [g] ≤ maxs a [c]) else false) = true,
          (if decide (mins a [c] ≤ maxs e [g]) = true then decide (mins e [g] ≤ maxs a [c]) else false) = true →
            (if decide (mins a [c] ≤ maxs e [g]) = true then decide (mins e [g] ≤ maxs a [c]) else false) = true,
          (if decide (mins a [c] ≤ maxs e [g]) = true then decide (mins e [g] ≤ maxs a [c]) else false) = true →
            (if decide (mins a [c] ≤ maxs e [g]) = true then decide (mins e [g] ≤ maxs a [c]) else false) = true,
          (if decide (mins a [c] ≤ maxs e [g]) = true then decide (mins e [g] ≤ maxs a [c]) else false) = true →
            (if decide (mins a [c] ≤ maxs e [g]) = true then decide (mins e [g] ≤ maxs a [c]) else false) = true,
          (if decide (mins a [c] ≤ maxs e [g]) = true then decide (mins e [g] ≤ maxs a [c]) else false) = true →
            (if decide (mins a [c] ≤ maxs e [g]) = true then decide (mins e [g] ≤ maxs a [c]) else false) = true,
          (if decide (mins a [c] ≤ maxs e [g]) = true then decide (mins e [g] ≤ maxs a [c]) else false) = true →
            (if decide (mins a [c] ≤ maxs e [g]) = true then decide (mins e [g] ≤ maxs a [c]) else false) = true,
          (if (if decide (mins a [c] ≤ maxs e [g]) = true then decide (mins e [g] ≤ maxs a [c]) else false) = true then
                decide (mins b [d] ≤ maxs f [h])
              else false) =
              true →
            (if (if decide (mins a [c] ≤ maxs e [g]) = true then decide (mins e [g] ≤ maxs a [c]) else false) = true then
                decide (mins b [d] ≤ maxs f [h])
              else false) =
              true,
          (if (if decide (mins a [c] ≤ maxs e [g]) = true then decide (mins e [g] ≤ maxs a [c]) else false) = true then
                decide (mins b [d] ≤ maxs f [h])
              else false) =
              true →
            (if (if decide (mins a [c] ≤ maxs e [g]) = true then decide (mins e [g] ≤ maxs a [c]) else false) = true then
                decide (mins b [d] ≤ maxs f [h])
              else false) =
              true,
          (if (if decide (mins a [c] ≤ maxs e [g]) = true then decide (mins e [g] ≤ maxs a [c]) else false) = true then
                decide (mins b [d] ≤ maxs f [h])
              else false) =
              true →
            (if (if decide (mins a [c] ≤ maxs e [g]) = true then decide (mins e [g] ≤ maxs a [c]) else false) = true then
                decide (mins b [d] ≤ maxs f [h])
              else false) =
              true,
          (if (if decide (mins a [c] ≤ maxs e [g]) = true then decide (mins e [g] ≤ maxs a [c]) else false) = true then
                decide (mins b [d] ≤ maxs f [h])
              else false) =
              true →
            (if (if decide (mins a [c] ≤ maxs e [g]) = true then decide (mins e [g] ≤ maxs a [c]) else false) = true then
                decide (mins b [d] ≤ maxs f [h])
              else false) =
              true,
          (if (if decide (mins a [c] ≤ maxs e [g]) = true then decide (mins e [g] ≤ maxs a [c]) else false) = true then
                decide (mins b [d] ≤ maxs f [h])
              else false) =
              true →
            (if (if decide (mins a [c] ≤ maxs e [g]) = true then decide (mins e [g] ≤ maxs a [c]) else false) = true then
                decide (mins b [d] ≤ maxs f [h])
              else false) =
              true,
          (if (if decide (mins a [c] ≤ maxs e [g]) = true then decide (mins e [g] ≤ maxs a [c]) else false) = true then
                decide (mins b [d] ≤ maxs f [h])
              else false) =
              true →
            (if (if decide (mins a [c] ≤ maxs e [g]) = true then decide (mins e [g] ≤ maxs a [c]) else false) = true then
                decide (mins b [d] ≤ maxs f [h])
              else false) =
              true,
          (if (if decide (mins a [c] ≤ maxs e [g]) = true then decide (mins e [g] ≤ maxs a [c]) else false) = true then
                decide (mins b [d] ≤ maxs f [h])
              else false) =
              true →
            (if (if decide (mins a [c] ≤ maxs e [g]) = true then decide (mins e [g] ≤ maxs a [c]) else false) = true then
                decide (mins b [d] ≤ maxs f [h])
              else false) =
              true,
          (if (if decide (mins a [c] ≤ maxs e [g]) = true then decide (mins e [g] ≤ maxs a [c]) else false) = true then
                decide (mins b [d] ≤ maxs f [h])
              else false) =
              true →
            (if (if decide (mins a [c] ≤ maxs e [g]) = true then decide (mins e [g] ≤ maxs a [c]) else false) = true then
                decide (mins b [d] ≤ maxs f [h])
              else false) =
              true,
          (if (if decide (mins a [c] ≤ maxs e [g]) = true then decide (mins e [g] ≤ maxs a [c]) else false) = true then
                decide (mins b [d] ≤ maxs f [h])
              else false) =
              true →
            (if (if decide (mins a [c] ≤ maxs e [g]) = true then decide (mins e [g] ≤ maxs a [c]) else false) = true then
                decide (mins b [d] ≤ maxs f [h])
              else false) =
              true,
          (if (if decide (mins a [c] ≤ maxs e [g]) = true then decide (mins e [g] ≤ maxs a [c]) else false) = true then
                decide (mins b [d] ≤ maxs f [h])
              else false) =
              true →
            (if (if decide (mins a [c] ≤ maxs e [g]) = true then decide (mins e [g] ≤ maxs a [c]) else false) = true then
                decide (mins b [d] ≤ maxs f [h])
              else false) =
              true,
          (if (if decide (mins a [c] ≤ maxs e [g]) = true then decide (mins e [g] ≤ maxs a [c]) else false) = true then
                decide (mins b [d] ≤ maxs f [h])
              else false) =
              true →
            (if (if decide (mins a [c] ≤ maxs e [g]) = true then decide (mins e [g] ≤ maxs a [c]) else false) = true then
                decide (mins b [d] ≤ maxs f [h])
              else false) =
              true]
        (VT.done
          [(if
                  (if
                        (if decide (mins a [c] ≤ maxs e [g]) = true then decide (mins e [g] ≤ maxs a [c]) else false) =
                          true then
                      decide (mins b [d] ≤ maxs f [h])
                    else false) =
                    true then
                decide (mins f [h] ≤ maxs b [d])
              else false) =
              touR a b c d e f g h])) (by kernel_rfl) ?_
  simp only [VT.holds, AllT, imp_self, implies_true, and_true, true_and, toNat_succ, toNat_add2, toNat_zero', Int.toNat_natCast, Bool.if_true_left, Bool.if_false_right, Bool.decide_eq_true, Bool.or_eq_true, Bool.or_eq_false_iff, Bool.and_eq_true, Bool.and_eq_false_imp, Bool.not_eq_true', Bool.not_eq_false', Bool.not_not, bne_iff_ne, bne_eq_false_iff_eq, beq_iff_eq, beq_eq_false_iff_ne, decide_eq_true_eq, decide_eq_false_iff_not, ne_eq, mins, maxs]
  unfold touR
  grind
noncomputable def A60_between_c (x a b : Int) : Ann := { orc := [], loops := [], cuts := [] }
theorem between_c (x a b : Int)  : FnC prog 60 [dI x, dI a, dI b] (dB (decide (min a b ≤ x ∧ x ≤ max a b))) := by
  refine FnC_owed hmix (A60_between_c x a b) (V := VT.need
        [decide (x ≥ mins a [b]) = true → decide (x ≥ mins a [b]) = true,
          decide (x ≥ mins a [b]) = true → decide (x ≥ mins a [b]) = true,
          decide (x ≥ mins a [b]) = true → decide (x ≥ mins a [b]) = true,
          decide (x ≥ mins a [b]) = true → decide (x ≥ mins a [b]) = true,
          decide (x ≥ mins a [b]) = true → decide (x ≥ mins a [b]) = true]
        (VT.done
          [(if decide (x ≥ mins a [b]) = true then decide (x ≤ maxs a [b]) else false) =
              decide (min a b ≤ x ∧ x ≤ max a b)])) (by kernel_rfl) ?_
  simp only [VT.holds, AllT, imp_self, implies_true, and_true, true_and, toNat_succ, toNat_add2, toNat_zero', Int.toNat_natCast, Bool.if_true_left, Bool.if_false_right, Bool.decide_eq_true, Bool.or_eq_true, Bool.or_eq_false_iff, Bool.and_eq_true, Bool.and_eq_false_imp, Bool.not_eq_true', Bool.not_eq_false', Bool.not_not, bne_iff_ne, bne_eq_false_iff_eq, beq_iff_eq, beq_eq_false_iff_ne, decide_eq_true_eq, decide_eq_false_iff_not, ne_eq, mins, maxs]
  grind
noncomputable def A61_out_c (x a b : Int) : Ann := { orc := [], loops := [], cuts := [] }
theorem out_c (x a b : Int) (h1 : -9000000 ≤ x ∧ x ≤ 9000000) (h2 : -9000000 ≤ a ∧ a ≤ 9000000) (h3 : -9000000 ≤ b ∧ b ≤ 9000000) : FnC prog 61 [dI x, dI a, dI b] (dI (ap x (min a b) (max a b))) := by
  refine FnC_owed hmix (A61_out_c x a b) (V := VT.need [i64In (mins a [b] - x), i64In (x - maxs a [b])]
        (VT.done [maxs (0 : Int) [maxs (mins a [b] - x) [x - maxs a [b]]] = ap x (min a b) (max a b)])) (by kernel_rfl) ?_
  simp only [VT.holds, AllT, imp_self, implies_true, and_true, true_and, toNat_succ, toNat_add2, toNat_zero', Int.toNat_natCast, Bool.if_true_left, Bool.if_false_right, Bool.decide_eq_true, Bool.or_eq_true, Bool.or_eq_false_iff, Bool.and_eq_true, Bool.and_eq_false_imp, Bool.not_eq_true', Bool.not_eq_false', Bool.not_not, bne_iff_ne, bne_eq_false_iff_eq, beq_iff_eq, beq_eq_false_iff_ne, decide_eq_true_eq, decide_eq_false_iff_not, ne_eq, mins, maxs, i64In, ap]
  grind
noncomputable def A33_nodeErr_c (x y z : Int) : Ann := { orc := [(1, [(2, rIn), (7, rIn), (13, rIn)])], loops := [], cuts := [] }
theorem nodeErr_c (x y z : Int)  : FnC prog 33 [.val (.agg #[.int .i64 x, .int .i64 y, .int .i64 z])] (dI (if inF x = true ∧ inF y = true ∧ inF z = true then 0 else 2)) := by
  refine FnC_owed hmix (A33_nodeErr_c x y z) (V := VT.need
        [FnC prog (55 : Nat) [DV.val (Value.int IntKind.i64 x)] (DV.val (Value.bool (inF x))),
          (!!inF x) = true → (!!inF x) = true, (!!inF x) = true → (!!inF x) = true,
          (!!inF x) = true → FnC prog (55 : Nat) [DV.val (Value.int IntKind.i64 y)] (DV.val (Value.bool (inF y))),
          (!!inF x) = true → (!!inF x) = true, (!inF x) = false → (!!inF x) = true,
          (!if (!inF x) = true then true else !inF y) = true → (!if (!inF x) = true then true else !inF y) = true,
          (!if (!inF x) = true then true else !inF y) = true → (!if (!inF x) = true then true else !inF y) = true,
          (!if (!inF x) = true then true else !inF y) = true →
            FnC prog (55 : Nat) [DV.val (Value.int IntKind.i64 z)] (DV.val (Value.bool (inF z))),
          (!if (!inF x) = true then true else !inF y) = true → (!if (!inF x) = true then true else !inF y) = true,
          (if (!inF x) = true then true else !inF y) = false → (!if (!inF x) = true then true else !inF y) = true]
        (VT.ite (if (if (!inF x) = true then true else !inF y) = true then true else !inF z)
          (VT.done [(2 : Int) = if inF x = true ∧ inF y = true ∧ inF z = true then (0 : Int) else (2 : Int)])
          (VT.done [(0 : Int) = if inF x = true ∧ inF y = true ∧ inF z = true then (0 : Int) else (2 : Int)]))) (by kernel_rfl) ?_
  simp only [VT.holds, AllT, imp_self, implies_true, and_true, true_and, toNat_succ, toNat_add2, toNat_zero', Int.toNat_natCast, Bool.if_true_left, Bool.if_false_right, Bool.decide_eq_true, Bool.or_eq_true, Bool.or_eq_false_iff, Bool.and_eq_true, Bool.and_eq_false_imp, Bool.not_eq_true', Bool.not_eq_false', Bool.not_not, bne_iff_ne, bne_eq_false_iff_eq, beq_iff_eq, beq_eq_false_iff_ne, decide_eq_true_eq, decide_eq_false_iff_not, ne_eq]
  have := in_c x
  have := in_c y
  have := in_c z
  grind
noncomputable def A16_pointErr_c (x y : Int) : Ann := { orc := [(1, [(5, rNodeErr)])], loops := [], cuts := [] }
theorem pointErr_c (x y : Int)  : FnC prog 16 [dP x y] (dI (if inF x = true ∧ inF y = true then 0 else 2)) := by
  refine FnC_owed hmix (A16_pointErr_c x y) (V := VT.need
        [FnC prog (33 : Nat)
            [DV.val
                (Value.agg
                  { toList := [Value.int IntKind.i64 x, Value.int IntKind.i64 y, Value.int IntKind.i64 (0 : Int)] })]
            (DV.val (Value.int IntKind.i64 (if inF x = true ∧ inF y = true ∧ true = true then (0 : Int) else (2 : Int))))]
        (VT.done
          [(if inF x = true ∧ inF y = true ∧ true = true then (0 : Int) else (2 : Int)) =
              if inF x = true ∧ inF y = true then (0 : Int) else (2 : Int)])) (by kernel_rfl) ?_
  simp only [VT.holds, AllT, imp_self, implies_true, and_true, true_and, toNat_succ, toNat_add2, toNat_zero', Int.toNat_natCast, Bool.if_true_left, Bool.if_false_right, Bool.decide_eq_true, Bool.or_eq_true, Bool.or_eq_false_iff, Bool.and_eq_true, Bool.and_eq_false_imp, Bool.not_eq_true', Bool.not_eq_false', Bool.not_not, bne_iff_ne, bne_eq_false_iff_eq, beq_iff_eq, beq_eq_false_iff_ne, decide_eq_true_eq, decide_eq_false_iff_not, ne_eq]
  have := nodeErr_c x y 0
  have h0 : inF 0 = true := by decide
  simp only [h0, and_true] at this
  exact this
end Go.Abs
