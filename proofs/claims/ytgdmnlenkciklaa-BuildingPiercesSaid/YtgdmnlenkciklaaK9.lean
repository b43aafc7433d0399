/- Contracts. -/
import Derived.Test.YtgdmnlenkciklaaK8
set_option linter.unusedVariables false
set_option linter.unusedSimpArgs false
set_option maxRecDepth 100000
namespace Go.Abs
open Go
abbrev bx (a b c d e f : Int) : DV := .val (.agg #[.int .i64 a, .int .i64 b, .int .i64 c, .int .i64 d, .int .i64 e, .int .i64 f])
/-- The error of a box. -/
def ckB (a b c d e f : Int) : Int := if ¬ (inF a = true ∧ inF b = true ∧ inF c = true ∧ inF d = true ∧ inF e = true ∧ inF f = true) then 2 else if a ≥ d ∨ b ≥ e ∨ c ≥ f then 3 else 0
/-- The insides of two boxes have a common point. -/
def okC (a1 b1 c1 d1 e1 f1 a2 b2 c2 d2 e2 f2 : Int) : Bool := decide (max a1 a2 < min d1 d2 ∧ max b1 b2 < min e1 e2 ∧ max c1 c2 < min f1 f2)
/-- The error of two boxes. -/
def erB (a1 b1 c1 d1 e1 f1 a2 b2 c2 d2 e2 f2 : Int) : Int := if ckB a1 b1 c1 d1 e1 f1 ≠ 0 then ckB a1 b1 c1 d1 e1 f1 else ckB a2 b2 c2 d2 e2 f2
def rCkB : Orc := .res fun l => dI (ckB (fI 0 (arg l 0)) (fI 1 (arg l 0)) (fI 2 (arg l 0)) (fI 3 (arg l 0)) (fI 4 (arg l 0)) (fI 5 (arg l 0)))
def rErB : Orc := .res fun l => dI (if ckB (colI 0 (arg l 0) 0) (colI 1 (arg l 0) 0) (colI 2 (arg l 0) 0) (colI 3 (arg l 0) 0) (colI 4 (arg l 0) 0) (colI 5 (arg l 0) 0) ≠ 0 then ckB (colI 0 (arg l 0) 0) (colI 1 (arg l 0) 0) (colI 2 (arg l 0) 0) (colI 3 (arg l 0) 0) (colI 4 (arg l 0) 0) (colI 5 (arg l 0) 0) else ckB (colI 0 (arg l 0) 1) (colI 1 (arg l 0) 1) (colI 2 (arg l 0) 1) (colI 3 (arg l 0) 1) (colI 4 (arg l 0) 1) (colI 5 (arg l 0) 1))
def rCm : Orc := .res fun l => .tup [bx (max (fI 0 (arg l 0)) (fI 0 (arg l 1))) (max (fI 1 (arg l 0)) (fI 1 (arg l 1))) (max (fI 2 (arg l 0)) (fI 2 (arg l 1))) (min (fI 3 (arg l 0)) (fI 3 (arg l 1))) (min (fI 4 (arg l 0)) (fI 4 (arg l 1))) (min (fI 5 (arg l 0)) (fI 5 (arg l 1))), dB (okC (fI 0 (arg l 0)) (fI 1 (arg l 0)) (fI 2 (arg l 0)) (fI 3 (arg l 0)) (fI 4 (arg l 0)) (fI 5 (arg l 0)) (fI 0 (arg l 1)) (fI 1 (arg l 1)) (fI 2 (arg l 1)) (fI 3 (arg l 1)) (fI 4 (arg l 1)) (fI 5 (arg l 1)))]
def cmR (b : Bool) (x : Int) : Int := if b = true then x else 0
def rCmR : Orc := .res fun l => .tup [bx (cmR (okC (fI 0 (arg l 0)) (fI 1 (arg l 0)) (fI 2 (arg l 0)) (fI 3 (arg l 0)) (fI 4 (arg l 0)) (fI 5 (arg l 0)) (fI 0 (arg l 1)) (fI 1 (arg l 1)) (fI 2 (arg l 1)) (fI 3 (arg l 1)) (fI 4 (arg l 1)) (fI 5 (arg l 1))) (max (fI 0 (arg l 0)) (fI 0 (arg l 1)))) (cmR (okC (fI 0 (arg l 0)) (fI 1 (arg l 0)) (fI 2 (arg l 0)) (fI 3 (arg l 0)) (fI 4 (arg l 0)) (fI 5 (arg l 0)) (fI 0 (arg l 1)) (fI 1 (arg l 1)) (fI 2 (arg l 1)) (fI 3 (arg l 1)) (fI 4 (arg l 1)) (fI 5 (arg l 1))) (max (fI 1 (arg l 0)) (fI 1 (arg l 1)))) (cmR (okC (fI 0 (arg l 0)) (fI 1 (arg l 0)) (fI 2 (arg l 0)) (fI 3 (arg l 0)) (fI 4 (arg l 0)) (fI 5 (arg l 0)) (fI 0 (arg l 1)) (fI 1 (arg l 1)) (fI 2 (arg l 1)) (fI 3 (arg l 1)) (fI 4 (arg l 1)) (fI 5 (arg l 1))) (max (fI 2 (arg l 0)) (fI 2 (arg l 1)))) (cmR (okC (fI 0 (arg l 0)) (fI 1 (arg l 0)) (fI 2 (arg l 0)) (fI 3 (arg l 0)) (fI 4 (arg l 0)) (fI 5 (arg l 0)) (fI 0 (arg l 1)) (fI 1 (arg l 1)) (fI 2 (arg l 1)) (fI 3 (arg l 1)) (fI 4 (arg l 1)) (fI 5 (arg l 1))) (min (fI 3 (arg l 0)) (fI 3 (arg l 1)))) (cmR (okC (fI 0 (arg l 0)) (fI 1 (arg l 0)) (fI 2 (arg l 0)) (fI 3 (arg l 0)) (fI 4 (arg l 0)) (fI 5 (arg l 0)) (fI 0 (arg l 1)) (fI 1 (arg l 1)) (fI 2 (arg l 1)) (fI 3 (arg l 1)) (fI 4 (arg l 1)) (fI 5 (arg l 1))) (min (fI 4 (arg l 0)) (fI 4 (arg l 1)))) (cmR (okC (fI 0 (arg l 0)) (fI 1 (arg l 0)) (fI 2 (arg l 0)) (fI 3 (arg l 0)) (fI 4 (arg l 0)) (fI 5 (arg l 0)) (fI 0 (arg l 1)) (fI 1 (arg l 1)) (fI 2 (arg l 1)) (fI 3 (arg l 1)) (fI 4 (arg l 1)) (fI 5 (arg l 1))) (min (fI 5 (arg l 0)) (fI 5 (arg l 1)))), dB (okC (fI 0 (arg l 0)) (fI 1 (arg l 0)) (fI 2 (arg l 0)) (fI 3 (arg l 0)) (fI 4 (arg l 0)) (fI 5 (arg l 0)) (fI 0 (arg l 1)) (fI 1 (arg l 1)) (fI 2 (arg l 1)) (fI 3 (arg l 1)) (fI 4 (arg l 1)) (fI 5 (arg l 1)))]
def isO (a1 b1 c1 d1 e1 f1 a2 b2 c2 d2 e2 f2 : Int) : Bool := decide (erB a1 b1 c1 d1 e1 f1 a2 b2 c2 d2 e2 f2 = 0) && okC a1 b1 c1 d1 e1 f1 a2 b2 c2 d2 e2 f2
def rOver : Orc := .res fun l => .tup [dB (isO (fI 0 (arg l 0)) (fI 1 (arg l 0)) (fI 2 (arg l 0)) (fI 3 (arg l 0)) (fI 4 (arg l 0)) (fI 5 (arg l 0)) (fI 0 (arg l 1)) (fI 1 (arg l 1)) (fI 2 (arg l 1)) (fI 3 (arg l 1)) (fI 4 (arg l 1)) (fI 5 (arg l 1))), dI (erB (fI 0 (arg l 0)) (fI 1 (arg l 0)) (fI 2 (arg l 0)) (fI 3 (arg l 0)) (fI 4 (arg l 0)) (fI 5 (arg l 0)) (fI 0 (arg l 1)) (fI 1 (arg l 1)) (fI 2 (arg l 1)) (fI 3 (arg l 1)) (fI 4 (arg l 1)) (fI 5 (arg l 1)))]
def erC (a1 b1 c1 d1 e1 f1 a2 b2 c2 d2 e2 f2 : Int) : Int := if erB a1 b1 c1 d1 e1 f1 a2 b2 c2 d2 e2 f2 ≠ 0 then erB a1 b1 c1 d1 e1 f1 a2 b2 c2 d2 e2 f2 else if okC a1 b1 c1 d1 e1 f1 a2 b2 c2 d2 e2 f2 = true then 0 else 27
def rCommon : Orc := .res fun l => .tup [bx (cmR (isO (fI 0 (arg l 0)) (fI 1 (arg l 0)) (fI 2 (arg l 0)) (fI 3 (arg l 0)) (fI 4 (arg l 0)) (fI 5 (arg l 0)) (fI 0 (arg l 1)) (fI 1 (arg l 1)) (fI 2 (arg l 1)) (fI 3 (arg l 1)) (fI 4 (arg l 1)) (fI 5 (arg l 1))) (max (fI 0 (arg l 0)) (fI 0 (arg l 1)))) (cmR (isO (fI 0 (arg l 0)) (fI 1 (arg l 0)) (fI 2 (arg l 0)) (fI 3 (arg l 0)) (fI 4 (arg l 0)) (fI 5 (arg l 0)) (fI 0 (arg l 1)) (fI 1 (arg l 1)) (fI 2 (arg l 1)) (fI 3 (arg l 1)) (fI 4 (arg l 1)) (fI 5 (arg l 1))) (max (fI 1 (arg l 0)) (fI 1 (arg l 1)))) (cmR (isO (fI 0 (arg l 0)) (fI 1 (arg l 0)) (fI 2 (arg l 0)) (fI 3 (arg l 0)) (fI 4 (arg l 0)) (fI 5 (arg l 0)) (fI 0 (arg l 1)) (fI 1 (arg l 1)) (fI 2 (arg l 1)) (fI 3 (arg l 1)) (fI 4 (arg l 1)) (fI 5 (arg l 1))) (max (fI 2 (arg l 0)) (fI 2 (arg l 1)))) (cmR (isO (fI 0 (arg l 0)) (fI 1 (arg l 0)) (fI 2 (arg l 0)) (fI 3 (arg l 0)) (fI 4 (arg l 0)) (fI 5 (arg l 0)) (fI 0 (arg l 1)) (fI 1 (arg l 1)) (fI 2 (arg l 1)) (fI 3 (arg l 1)) (fI 4 (arg l 1)) (fI 5 (arg l 1))) (min (fI 3 (arg l 0)) (fI 3 (arg l 1)))) (cmR (isO (fI 0 (arg l 0)) (fI 1 (arg l 0)) (fI 2 (arg l 0)) (fI 3 (arg l 0)) (fI 4 (arg l 0)) (fI 5 (arg l 0)) (fI 0 (arg l 1)) (fI 1 (arg l 1)) (fI 2 (arg l 1)) (fI 3 (arg l 1)) (fI 4 (arg l 1)) (fI 5 (arg l 1))) (min (fI 4 (arg l 0)) (fI 4 (arg l 1)))) (cmR (isO (fI 0 (arg l 0)) (fI 1 (arg l 0)) (fI 2 (arg l 0)) (fI 3 (arg l 0)) (fI 4 (arg l 0)) (fI 5 (arg l 0)) (fI 0 (arg l 1)) (fI 1 (arg l 1)) (fI 2 (arg l 1)) (fI 3 (arg l 1)) (fI 4 (arg l 1)) (fI 5 (arg l 1))) (min (fI 5 (arg l 0)) (fI 5 (arg l 1)))), dI (erC (fI 0 (arg l 0)) (fI 1 (arg l 0)) (fI 2 (arg l 0)) (fI 3 (arg l 0)) (fI 4 (arg l 0)) (fI 5 (arg l 0)) (fI 0 (arg l 1)) (fI 1 (arg l 1)) (fI 2 (arg l 1)) (fI 3 (arg l 1)) (fI 4 (arg l 1)) (fI 5 (arg l 1)))]
def six (a b c d e f : Int) (j : Nat) : Int := [a, b, c, d, e, f].getD j 0
theorem six_all {a b c d e f : Int} : (∀ j, j < 6 → inF (six a b c d e f j) = true) ↔ (inF a = true ∧ inF b = true ∧ inF c = true ∧ inF d = true ∧ inF e = true ∧ inF f = true) :=
  ⟨fun h => ⟨h 0 (by omega), h 1 (by omega), h 2 (by omega), h 3 (by omega), h 4 (by omega), h 5 (by omega)⟩, fun ⟨h0, h1, h2, h3, h4, h5⟩ j hj => by
    match j, hj with
    | 0, _ => exact h0
    | 1, _ => exact h1
    | 2, _ => exact h2
    | 3, _ => exact h3
    | 4, _ => exact h4
    | 5, _ => exact h5⟩
theorem maxs1 (a b : Int) : maxs a [b] = max a b := by simp only [maxs]; split <;> omega
theorem mins1 (a b : Int) : mins a [b] = min a b := by simp only [mins]; split <;> omega
noncomputable def A30_checkBox_c (a b c d e f : Int) : Ann := { orc := [(4, [(1, rIn)])], loops := [(0, { ι := Nat, keep := [1, 17], boxes := [1], ts := fun _ i => [(18, dI (i : Int))], inv := fun _ i => i ≤ 6 ∧ ∀ j, j < i → inF (six a b c d e f j) = true, mu := fun _ i => 6 - i, rd := fun _ σ => (iOf (σ.get 18)).toNat })], cuts := [] }
theorem checkBox_c (a b c d e f : Int)  : FnC prog 30 [bx a b c d e f] (dI (ckB a b c d e f)) := by
  refine FnC_owed hmix (A30_checkBox_c a b c d e f) (V := VT.loop Nat (fun (a_1 : Nat) => a_1 ≤ (6 : Nat) ∧ ∀ (j : Nat), j < a_1 → inF (six a b c d e f j) = true)
        (Int.toNat (0 : Int))
        [(0 : Int) = (↑(Int.toNat (0 : Int)) : Int), a = a, b = b, c = c, d = d, e = e, f = f, a = a, b = b, c = c, d = d,
          e = e, f = f]
        fun (i : Nat) =>
        VT.ite (decide ((↑i : Int) < (6 : Int)))
          (VT.need [(0 : Int) ≤ (↑i : Int) ∧ (↑i : Int) < (↑(6 : Nat) : Int)]
            (VT.need
              [FnC prog (71 : Nat)
                  [DV.val (Value.int IntKind.i64 (List.getD [a, b, c, d, e, f] (Int.toNat (↑i : Int)) (0 : Int)))]
                  (DV.val (Value.bool (inF (List.getD [a, b, c, d, e, f] (Int.toNat (↑i : Int)) (0 : Int)))))]
              (VT.ite (!inF (List.getD [a, b, c, d, e, f] (Int.toNat (↑i : Int)) (0 : Int)))
                (VT.done [(2 : Int) = ckB a b c d e f])
                (VT.need [i64In ((↑i : Int) + (1 : Int))]
                  (VT.done
                    [(↑i : Int) + (1 : Int) = (↑(Int.toNat ((↑i : Int) + (1 : Int))) : Int), a = a, b = b, c = c, d = d,
                      e = e, f = f, a = a, b = b, c = c, d = d, e = e, f = f,
                      Int.toNat ((↑i : Int) + (1 : Int)) ≤ (6 : Nat) ∧
                        ∀ (j : Nat), j < Int.toNat ((↑i : Int) + (1 : Int)) → inF (six a b c d e f j) = true,
                      (6 : Nat) - Int.toNat ((↑i : Int) + (1 : Int)) < (6 : Nat) - i])))))
          (VT.need
            [(!decide (a ≥ d)) = true → (!decide (a ≥ d)) = true, (!decide (a ≥ d)) = true → (!decide (a ≥ d)) = true,
              (!decide (a ≥ d)) = true → (!decide (a ≥ d)) = true, (!decide (a ≥ d)) = true → (!decide (a ≥ d)) = true,
              decide (a ≥ d) = false → (!decide (a ≥ d)) = true,
              (!if decide (a ≥ d) = true then true else decide (b ≥ e)) = true →
                (!if decide (a ≥ d) = true then true else decide (b ≥ e)) = true,
              (!if decide (a ≥ d) = true then true else decide (b ≥ e)) = true →
                (!if decide (a ≥ d) = true then true else decide (b ≥ e)) = true,
              (!if decide (a ≥ d) = true then true else decide (b ≥ e)) = true →
                (!if decide (a ≥ d) = true then true else decide (b ≥ e)) = true,
              (!if decide (a ≥ d) = true then true else decide (b ≥ e)) = true →
                (!if decide (a ≥ d) = true then true else decide (b ≥ e)) = true,
              (if decide (a ≥ d) = true then true else decide (b ≥ e)) = false →
                (!if decide (a ≥ d) = true then true else decide (b ≥ e)) = true]
            (VT.ite (if (if decide (a ≥ d) = true then true else decide (b ≥ e)) = true then true else decide (c ≥ f))
              (VT.done [(3 : Int) = ckB a b c d e f]) (VT.done [(0 : Int) = ckB a b c d e f])))) (by kernel_rfl) ?_
  simp only [VT.holds, AllT, imp_self, implies_true, and_true, true_and, toNat_succ, toNat_add2, toNat_zero', Int.toNat_natCast, Bool.if_true_left, Bool.if_false_right, Bool.decide_eq_true, Bool.or_eq_true, Bool.or_eq_false_iff, Bool.and_eq_true, Bool.and_eq_false_imp, Bool.not_eq_true', Bool.not_eq_false', Bool.not_not, bne_iff_ne, bne_eq_false_iff_eq, beq_iff_eq, beq_eq_false_iff_ne, decide_eq_true_eq, decide_eq_false_iff_not, ne_eq]
  refine ⟨rfl, ⟨by omega, fun j hj => (by omega)⟩, fun i ⟨hi, hb⟩ => ⟨fun hlt => ⟨by omega, inside_c _, fun hx => ?_, fun hx => ⟨by unfold i64In; omega, rfl, ⟨by omega, fun j hj => ?_⟩, by omega⟩⟩, fun hge => ?_⟩⟩
  · rw [ckB, if_pos (fun hall => ?_)]
    have := six_all.2 hall i (by omega)
    rw [show [a, b, c, d, e, f].getD i 0 = six a b c d e f i from rfl, this] at hx
    cases hx
  · by_cases ej : j = i
    · subst ej; exact hx
    · exact hb j (by omega)
  · have hall := six_all.1 (fun j hj => hb j (by omega))
    refine ⟨fun h => ?_, fun h => ?_⟩
    · rw [ckB, if_neg (fun hx => hx hall), if_pos (by omega)]
    · rw [ckB, if_neg (fun hx => hx hall), if_neg (by omega)]
noncomputable def A29_checkBoxR_c (a b c d e f : Int) : Ann := { orc := [(1, [(2, rIn), (7, rIn), (13, rIn), (19, rIn), (25, rIn), (31, rIn)])], loops := [], cuts := [] }
theorem checkBoxR_c (a b c d e f : Int)  : FnC prog 29 [bx a b c d e f] (dI (ckB a b c d e f)) := by
  refine FnC_owed hmix (A29_checkBoxR_c a b c d e f) (V := VT.need
        [FnC prog (55 : Nat) [DV.val (Value.int IntKind.i64 a)] (DV.val (Value.bool (inF a))),
          (!!inF a) = true → (!!inF a) = true, (!!inF a) = true → (!!inF a) = true,
          (!!inF a) = true → FnC prog (55 : Nat) [DV.val (Value.int IntKind.i64 b)] (DV.val (Value.bool (inF b))),
          (!!inF a) = true → (!!inF a) = true, (!inF a) = false → (!!inF a) = true,
          (!if (!inF a) = true then true else !inF b) = true → (!if (!inF a) = true then true else !inF b) = true,
          (!if (!inF a) = true then true else !inF b) = true → (!if (!inF a) = true then true else !inF b) = true,
          (!if (!inF a) = true then true else !inF b) = true →
            FnC prog (55 : Nat) [DV.val (Value.int IntKind.i64 c)] (DV.val (Value.bool (inF c))),
          (!if (!inF a) = true then true else !inF b) = true → (!if (!inF a) = true then true else !inF b) = true,
          (if (!inF a) = true then true else !inF b) = false → (!if (!inF a) = true then true else !inF b) = true,
          (!if (if (!inF a) = true then true else !inF b) = true then true else !inF c) = true →
            (!if (if (!inF a) = true then true else !inF b) = true then true else !inF c) = true,
          (!if (if (!inF a) = true then true else !inF b) = true then true else !inF c) = true →
            (!if (if (!inF a) = true then true else !inF b) = true then true else !inF c) = true,
          (!if (if (!inF a) = true then true else !inF b) = true then true else !inF c) = true →
            FnC prog (55 : Nat) [DV.val (Value.int IntKind.i64 d)] (DV.val (Value.bool (inF d))),
          (!if (if (!inF a) = true then true else !inF b) = true then true else !inF c) = true →
            (!if (if (!inF a) = true then true else !inF b) = true then true else !inF c) = true,
          (if (if (!inF a) = true then true else !inF b) = true then true else !inF c) = false →
            (!if (if (!inF a) = true then true else !inF b) = true then true else !inF c) = true,
          (!if (if (if (!inF a) = true then true else !inF b) = true then true else !inF c) = true then true else !inF d) =
              true →
            (!if (if (if (!inF a) = true then true else !inF b) = true then true else !inF c) = true then true
                else !inF d) =
              true,
          (!if (if (if (!inF a) = true then true else !inF b) = true then true else !inF c) = true then true else !inF d) =
              true →
            (!if (if (if (!inF a) = true then true else !inF b) = true then true else !inF c) = true then true
                else !inF d) =
              true,
          (!if (if (if (!inF a) = true then true else !inF b) = true then true else !inF c) = true then true else !inF d) =
              true →
            FnC prog (55 : Nat) [DV.val (Value.int IntKind.i64 e)] (DV.val (Value.bool (inF e))),
          (!if (if (if (!inF a) = true then true else !inF b) = true then true else !inF c) = true then true else !inF d) =
              true →
            (!if (if (if (!inF a) = true then true else !inF b) = true then true else !inF c) = true then true
                else !inF d) =
              true,
          (if (if (if (!inF a) = true then true else !inF b) = true then true else !inF c) = true then true else !inF d) =
              false →
            (!if (if (if (!inF a) = true then true else !inF b) = true then true else !inF c) = true then true
                else !inF d) =
              true,
          (!if
                    (if (if (if (!inF a) = true then true else !inF b) = true then true else !inF c) = true then true
                      else !inF d) =
                      true then
                  true
                else !inF e) =
              true →
            (!if
                    (if (if (if (!inF a) = true then true else !inF b) = true then true else !inF c) = true then true
                      else !inF d) =
                      true then
                  true
                else !inF e) =
              true,
          (!if
                    (if (if (if (!inF a) = true then true else !inF b) = true then true else !inF c) = true then true
                      else !inF d) =
                      true then
                  true
                else !inF e) =
              true →
            (!if
                    (if (if (if (!inF a) = true then true else !inF b) = true then true else !inF c) = true then true
                      else !inF d) =
                      true then
                  true
                else !inF e) =
              true,
          (!if
                    (if (if (if (!inF a) = true then true else !inF b) = true then true else !inF c) = true then true
                      else !inF d) =
                      true then
                  true
                else !inF e) =
              true →
            FnC prog (55 : Nat) [DV.val (Value.int IntKind.i64 f)] (DV.val (Value.bool (inF f))),
          (!if
                    (if (if (if (!inF a) = true then true else !inF b) = true then true else !inF c) = true then true
                      else !inF d) =
                      true then
                  true
                else !inF e) =
              true →
            (!if
                    (if (if (if (!inF a) = true then true else !inF b) = true then true else !inF c) = true then true
                      else !inF d) =
                      true then
                  true
                else !inF e) =
              true,
          (if
                  (if (if (if (!inF a) = true then true else !inF b) = true then true else !inF c) = true then true
                    else !inF d) =
                    true then
                true
              else !inF e) =
              false →
            (!if
                    (if (if (if (!inF a) = true then true else !inF b) = true then true else !inF c) = true then true
                      else !inF d) =
                      true then
                  true
                else !inF e) =
              true]
        (VT.ite
          (if
              (if
                    (if (if (if (!inF a) = true then true else !inF b) = true then true else !inF c) = true then true
                      else !inF d) =
                      true then
                  true
                else !inF e) =
                true then
            true
          else !inF f)
          (VT.done [(2 : Int) = ckB a b c d e f])
          (VT.need
            [(!decide (a ≥ d)) = true → (!decide (a ≥ d)) = true, (!decide (a ≥ d)) = true → (!decide (a ≥ d)) = true,
              (!decide (a ≥ d)) = true → (!decide (a ≥ d)) = true, (!decide (a ≥ d)) = true → (!decide (a ≥ d)) = true,
              decide (a ≥ d) = false → (!decide (a ≥ d)) = true,
              (!if decide (a ≥ d) = true then true else decide (b ≥ e)) = true →
                (!if decide (a ≥ d) = true then true else decide (b ≥ e)) = true,
              (!if decide (a ≥ d) = true then true else decide (b ≥ e)) = true →
                (!if decide (a ≥ d) = true then true else decide (b ≥ e)) = true,
              (!if decide (a ≥ d) = true then true else decide (b ≥ e)) = true →
                (!if decide (a ≥ d) = true then true else decide (b ≥ e)) = true,
              (!if decide (a ≥ d) = true then true else decide (b ≥ e)) = true →
                (!if decide (a ≥ d) = true then true else decide (b ≥ e)) = true,
              (if decide (a ≥ d) = true then true else decide (b ≥ e)) = false →
                (!if decide (a ≥ d) = true then true else decide (b ≥ e)) = true]
            (VT.ite (if (if decide (a ≥ d) = true then true else decide (b ≥ e)) = true then true else decide (c ≥ f))
              (VT.done [(3 : Int) = ckB a b c d e f]) (VT.done [(0 : Int) = ckB a b c d e f]))))) (by kernel_rfl) ?_
  simp only [VT.holds, AllT, imp_self, implies_true, and_true, true_and, toNat_succ, toNat_add2, toNat_zero', Int.toNat_natCast, Bool.if_true_left, Bool.if_false_right, Bool.decide_eq_true, Bool.or_eq_true, Bool.or_eq_false_iff, Bool.and_eq_true, Bool.and_eq_false_imp, Bool.not_eq_true', Bool.not_eq_false', Bool.not_not, bne_iff_ne, bne_eq_false_iff_eq, beq_iff_eq, beq_eq_false_iff_ne, decide_eq_true_eq, decide_eq_false_iff_not, ne_eq]
  refine ⟨⟨in_c a, fun _ => in_c b, fun _ => in_c c, fun _ => in_c d, fun _ => in_c e, fun _ => in_c f⟩, fun h => ?_, fun h => ?_⟩
  · rw [ckB, if_pos (fun ⟨h0, h1, h2, h3, h4, h5⟩ => by simp [h0, h1, h2, h3, h4, h5] at h)]
  · have hall : inF a = true ∧ inF b = true ∧ inF c = true ∧ inF d = true ∧ inF e = true ∧ inF f = true := by simpa [and_assoc] using h
    refine ⟨fun h => ?_, fun h => ?_⟩
    · rw [ckB, if_neg (fun hx => hx hall), if_pos (by omega)]
    · rw [ckB, if_neg (fun hx => hx hall), if_neg (by omega)]
noncomputable def A69_checkBoxes_c (A B C D E F : Nat → Int) : Ann := { orc := [(4, [(1, rCkB)])], loops := [(0, { ι := Nat, keep := [6, 7], boxes := [], ts := fun _ i => [(8, dI (i : Int))], inv := fun _ i => i ≤ 2 ∧ ∀ j, j < i → ckB (A j) (B j) (C j) (D j) (E j) (F j) = 0, mu := fun _ i => 2 - i, rd := fun _ σ => (iOf (σ.get 8)).toNat })], cuts := [] }
theorem checkBoxes_c (A B C D E F : Nat → Int)  : FnC prog 69 [.lst 2 [fun i => dI (A i), fun i => dI (B i), fun i => dI (C i), fun i => dI (D i), fun i => dI (E i), fun i => dI (F i)]] (dI (if ckB (A 0) (B 0) (C 0) (D 0) (E 0) (F 0) ≠ 0 then ckB (A 0) (B 0) (C 0) (D 0) (E 0) (F 0) else ckB (A 1) (B 1) (C 1) (D 1) (E 1) (F 1))) := by
  refine FnC_owed hmix (A69_checkBoxes_c A B C D E F) (V := VT.loop Nat
        (fun (a : Nat) => a ≤ (2 : Nat) ∧ ∀ (j : Nat), j < a → ckB (A j) (B j) (C j) (D j) (E j) (F j) = (0 : Int))
        (Int.toNat (0 : Int))
        [(0 : Int) = (↑(Int.toNat (0 : Int)) : Int), (2 : Nat) = (2 : Nat), ∀ (i : Nat), i < (2 : Nat) → A i = A i,
          ∀ (i : Nat), i < (2 : Nat) → B i = B i, ∀ (i : Nat), i < (2 : Nat) → C i = C i,
          ∀ (i : Nat), i < (2 : Nat) → D i = D i, ∀ (i : Nat), i < (2 : Nat) → E i = E i,
          ∀ (i : Nat), i < (2 : Nat) → F i = F i, (↑(2 : Nat) : Int) = (↑(2 : Nat) : Int)]
        fun (i : Nat) =>
        VT.ite (decide ((↑i : Int) < (↑(2 : Nat) : Int)))
          (VT.need [(0 : Int) ≤ (↑i : Int) ∧ (↑i : Int) < (↑(2 : Nat) : Int)]
            (VT.need
              [FnC prog (30 : Nat)
                  [DV.val
                      (Value.agg
                        {
                          toList :=
                            [Value.int IntKind.i64 (A (Int.toNat (↑i : Int))),
                              Value.int IntKind.i64 (B (Int.toNat (↑i : Int))),
                              Value.int IntKind.i64 (C (Int.toNat (↑i : Int))),
                              Value.int IntKind.i64 (D (Int.toNat (↑i : Int))),
                              Value.int IntKind.i64 (E (Int.toNat (↑i : Int))),
                              Value.int IntKind.i64 (F (Int.toNat (↑i : Int)))] })]
                  (DV.val
                    (Value.int IntKind.i64
                      (ckB (A (Int.toNat (↑i : Int))) (B (Int.toNat (↑i : Int))) (C (Int.toNat (↑i : Int)))
                        (D (Int.toNat (↑i : Int))) (E (Int.toNat (↑i : Int))) (F (Int.toNat (↑i : Int))))))]
              (VT.ite
                (ckB (A (Int.toNat (↑i : Int))) (B (Int.toNat (↑i : Int))) (C (Int.toNat (↑i : Int)))
                    (D (Int.toNat (↑i : Int))) (E (Int.toNat (↑i : Int))) (F (Int.toNat (↑i : Int))) !=
                  (0 : Int))
                (VT.done
                  [ckB (A (Int.toNat (↑i : Int))) (B (Int.toNat (↑i : Int))) (C (Int.toNat (↑i : Int)))
                        (D (Int.toNat (↑i : Int))) (E (Int.toNat (↑i : Int))) (F (Int.toNat (↑i : Int))) =
                      if
                          ckB (A (0 : Nat)) (B (0 : Nat)) (C (0 : Nat)) (D (0 : Nat)) (E (0 : Nat)) (F (0 : Nat)) ≠
                            (0 : Int) then
                        ckB (A (0 : Nat)) (B (0 : Nat)) (C (0 : Nat)) (D (0 : Nat)) (E (0 : Nat)) (F (0 : Nat))
                      else ckB (A (1 : Nat)) (B (1 : Nat)) (C (1 : Nat)) (D (1 : Nat)) (E (1 : Nat)) (F (1 : Nat))])
                (VT.need [i64In ((↑i : Int) + (1 : Int))]
                  (VT.done
                    [(↑i : Int) + (1 : Int) = (↑(Int.toNat ((↑i : Int) + (1 : Int))) : Int), (2 : Nat) = (2 : Nat),
                      ∀ (i : Nat), i < (2 : Nat) → A i = A i, ∀ (i : Nat), i < (2 : Nat) → B i = B i,
                      ∀ (i : Nat), i < (2 : Nat) → C i = C i, ∀ (i : Nat), i < (2 : Nat) → D i = D i,
                      ∀ (i : Nat), i < (2 : Nat) → E i = E i, ∀ (i : Nat), i < (2 : Nat) → F i = F i,
                      (↑(2 : Nat) : Int) = (↑(2 : Nat) : Int),
                      Int.toNat ((↑i : Int) + (1 : Int)) ≤ (2 : Nat) ∧
                        ∀ (j : Nat),
                          j < Int.toNat ((↑i : Int) + (1 : Int)) → ckB (A j) (B j) (C j) (D j) (E j) (F j) = (0 : Int),
                      (2 : Nat) - Int.toNat ((↑i : Int) + (1 : Int)) < (2 : Nat) - i])))))
          (VT.done
            [(0 : Int) =
                if ckB (A (0 : Nat)) (B (0 : Nat)) (C (0 : Nat)) (D (0 : Nat)) (E (0 : Nat)) (F (0 : Nat)) ≠ (0 : Int) then
                  ckB (A (0 : Nat)) (B (0 : Nat)) (C (0 : Nat)) (D (0 : Nat)) (E (0 : Nat)) (F (0 : Nat))
                else ckB (A (1 : Nat)) (B (1 : Nat)) (C (1 : Nat)) (D (1 : Nat)) (E (1 : Nat)) (F (1 : Nat))])) (by kernel_rfl) ?_
  simp only [VT.holds, AllT, imp_self, implies_true, and_true, true_and, toNat_succ, toNat_add2, toNat_zero', Int.toNat_natCast, Bool.if_true_left, Bool.if_false_right, Bool.decide_eq_true, Bool.or_eq_true, Bool.or_eq_false_iff, Bool.and_eq_true, Bool.and_eq_false_imp, Bool.not_eq_true', Bool.not_eq_false', Bool.not_not, bne_iff_ne, bne_eq_false_iff_eq, beq_iff_eq, beq_eq_false_iff_ne, decide_eq_true_eq, decide_eq_false_iff_not, ne_eq]
  refine ⟨rfl, ⟨by omega, fun j hj => (by omega)⟩, fun i ⟨hi, hb⟩ => ⟨fun hlt => ⟨by omega, checkBox_c _ _ _ _ _ _, fun hx => ?_, fun hx => ⟨by unfold i64In; omega, rfl, ⟨by omega, fun j hj => ?_⟩, by omega⟩⟩, fun hge => ?_⟩⟩
  · match i, hlt with
    | 0, _ => rw [if_pos hx]
    | 1, _ => rw [if_neg (fun h => h (hb 0 (by omega)))]
    | i + 2, hlt => omega
  · by_cases ej : j = i
    · subst ej; exact hx
    · exact hb j (by omega)
  · rw [if_neg (fun h => h (hb 0 (by omega))), hb 1 (by omega)]
noncomputable def A70_common_c (a1 b1 c1 d1 e1 f1 a2 b2 c2 d2 e2 f2 : Int) : Ann := { orc := [], loops := [], cuts := [] }
theorem common_c (a1 b1 c1 d1 e1 f1 a2 b2 c2 d2 e2 f2 : Int)  : FnC prog 70 [bx a1 b1 c1 d1 e1 f1, bx a2 b2 c2 d2 e2 f2] (.tup [bx (max a1 a2) (max b1 b2) (max c1 c2) (min d1 d2) (min e1 e2) (min f1 f2), dB (okC a1 b1 c1 d1 e1 f1 a2 b2 c2 d2 e2 f2)]) := by
  refine FnC_owed hmix (A70_common_c a1 b1 c1 d1 e1 f1 a2 b2 c2 d2 e2 f2) (V := VT.need
        [decide (maxs a1 [a2] < mins d1 [d2]) = true → decide (maxs a1 [a2] < mins d1 [d2]) = true,
          decide (maxs a1 [a2] < mins d1 [d2]) = true → decide (maxs a1 [a2] < mins d1 [d2]) = true,
          decide (maxs a1 [a2] < mins d1 [d2]) = true → decide (maxs a1 [a2] < mins d1 [d2]) = true,
          decide (maxs a1 [a2] < mins d1 [d2]) = true → decide (maxs a1 [a2] < mins d1 [d2]) = true,
          decide (maxs a1 [a2] < mins d1 [d2]) = true → decide (maxs a1 [a2] < mins d1 [d2]) = true,
          (if decide (maxs a1 [a2] < mins d1 [d2]) = true then decide (maxs b1 [b2] < mins e1 [e2]) else false) = true →
            (if decide (maxs a1 [a2] < mins d1 [d2]) = true then decide (maxs b1 [b2] < mins e1 [e2]) else false) = true,
          (if decide (maxs a1 [a2] < mins d1 [d2]) = true then decide (maxs b1 [b2] < mins e1 [e2]) else false) = true →
            (if decide (maxs a1 [a2] < mins d1 [d2]) = true then decide (maxs b1 [b2] < mins e1 [e2]) else false) = true,
          (if decide (maxs a1 [a2] < mins d1 [d2]) = true then decide (maxs b1 [b2] < mins e1 [e2]) else false) = true →
            (if decide (maxs a1 [a2] < mins d1 [d2]) = true then decide (maxs b1 [b2] < mins e1 [e2]) else false) = true,
          (if decide (maxs a1 [a2] < mins d1 [d2]) = true then decide (maxs b1 [b2] < mins e1 [e2]) else false) = true →
            (if decide (maxs a1 [a2] < mins d1 [d2]) = true then decide (maxs b1 [b2] < mins e1 [e2]) else false) = true,
          (if decide (maxs a1 [a2] < mins d1 [d2]) = true then decide (maxs b1 [b2] < mins e1 [e2]) else false) = true →
            (if decide (maxs a1 [a2] < mins d1 [d2]) = true then decide (maxs b1 [b2] < mins e1 [e2]) else false) = true]
        (VT.done
          [maxs a1 [a2] = max a1 a2, maxs b1 [b2] = max b1 b2, maxs c1 [c2] = max c1 c2, mins d1 [d2] = min d1 d2,
            mins e1 [e2] = min e1 e2, mins f1 [f2] = min f1 f2,
            (if
                  (if decide (maxs a1 [a2] < mins d1 [d2]) = true then decide (maxs b1 [b2] < mins e1 [e2]) else false) =
                    true then
                decide (maxs c1 [c2] < mins f1 [f2])
              else false) =
              okC a1 b1 c1 d1 e1 f1 a2 b2 c2 d2 e2 f2])) (by kernel_rfl) ?_
  simp only [VT.holds, AllT, imp_self, implies_true, and_true, true_and, toNat_succ, toNat_add2, toNat_zero', Int.toNat_natCast, Bool.if_true_left, Bool.if_false_right, Bool.decide_eq_true, Bool.or_eq_true, Bool.or_eq_false_iff, Bool.and_eq_true, Bool.and_eq_false_imp, Bool.not_eq_true', Bool.not_eq_false', Bool.not_not, bne_iff_ne, bne_eq_false_iff_eq, beq_iff_eq, beq_eq_false_iff_ne, decide_eq_true_eq, decide_eq_false_iff_not, ne_eq]
  simp only [maxs1, mins1, true_and]
  simp [okC, Bool.and_assoc]
noncomputable def A31_commonR_c (a1 b1 c1 d1 e1 f1 a2 b2 c2 d2 e2 f2 : Int) : Ann := { orc := [], loops := [], cuts := [] }
theorem commonR_c (a1 b1 c1 d1 e1 f1 a2 b2 c2 d2 e2 f2 : Int)  : FnC prog 31 [bx a1 b1 c1 d1 e1 f1, bx a2 b2 c2 d2 e2 f2] (.tup [bx (cmR (okC a1 b1 c1 d1 e1 f1 a2 b2 c2 d2 e2 f2) (max a1 a2)) (cmR (okC a1 b1 c1 d1 e1 f1 a2 b2 c2 d2 e2 f2) (max b1 b2)) (cmR (okC a1 b1 c1 d1 e1 f1 a2 b2 c2 d2 e2 f2) (max c1 c2)) (cmR (okC a1 b1 c1 d1 e1 f1 a2 b2 c2 d2 e2 f2) (min d1 d2)) (cmR (okC a1 b1 c1 d1 e1 f1 a2 b2 c2 d2 e2 f2) (min e1 e2)) (cmR (okC a1 b1 c1 d1 e1 f1 a2 b2 c2 d2 e2 f2) (min f1 f2)), dB (okC a1 b1 c1 d1 e1 f1 a2 b2 c2 d2 e2 f2)]) := by
  refine FnC_owed hmix (A31_commonR_c a1 b1 c1 d1 e1 f1 a2 b2 c2 d2 e2 f2) (V := VT.need
        [(!decide (maxs a1 [a2] ≥ mins d1 [d2])) = true → (!decide (maxs a1 [a2] ≥ mins d1 [d2])) = true,
          (!decide (maxs a1 [a2] ≥ mins d1 [d2])) = true → (!decide (maxs a1 [a2] ≥ mins d1 [d2])) = true,
          (!decide (maxs a1 [a2] ≥ mins d1 [d2])) = true → (!decide (maxs a1 [a2] ≥ mins d1 [d2])) = true,
          (!decide (maxs a1 [a2] ≥ mins d1 [d2])) = true → (!decide (maxs a1 [a2] ≥ mins d1 [d2])) = true,
          decide (maxs a1 [a2] ≥ mins d1 [d2]) = false → (!decide (maxs a1 [a2] ≥ mins d1 [d2])) = true,
          (!if decide (maxs a1 [a2] ≥ mins d1 [d2]) = true then true else decide (maxs b1 [b2] ≥ mins e1 [e2])) = true →
            (!if decide (maxs a1 [a2] ≥ mins d1 [d2]) = true then true else decide (maxs b1 [b2] ≥ mins e1 [e2])) = true,
          (!if decide (maxs a1 [a2] ≥ mins d1 [d2]) = true then true else decide (maxs b1 [b2] ≥ mins e1 [e2])) = true →
            (!if decide (maxs a1 [a2] ≥ mins d1 [d2]) = true then true else decide (maxs b1 [b2] ≥ mins e1 [e2])) = true,
          (!if decide (maxs a1 [a2] ≥ mins d1 [d2]) = true then true else decide (maxs b1 [b2] ≥ mins e1 [e2])) = true →
            (!if decide (maxs a1 [a2] ≥ mins d1 [d2]) = true then true else decide (maxs b1 [b2] ≥ mins e1 [e2])) = true,
          (!if decide (maxs a1 [a2] ≥ mins d1 [d2]) = true then true else decide (maxs b1 [b2] ≥ mins e1 [e2])) = true →
            (!if decide (maxs a1 [a2] ≥ mins d1 [d2]) = true then true else decide (maxs b1 [b2] ≥ mins e1 [e2])) = true,
          (if decide (maxs a1 [a2] ≥ mins d1 [d2]) = true then true else decide (maxs b1 [b2] ≥ mins e1 [e2])) = false →
            (!if decide (maxs a1 [a2] ≥ mins d1 [d2]) = true then true else decide (maxs b1 [b2] ≥ mins e1 [e2])) = true]
        (VT.ite
          (if
              (if decide (maxs a1 [a2] ≥ mins d1 [d2]) = true then true else decide (maxs b1 [b2] ≥ mins e1 [e2])) =
                true then
            true
          else decide (maxs c1 [c2] ≥ mins f1 [f2]))
          (VT.done
            [(0 : Int) = cmR (okC a1 b1 c1 d1 e1 f1 a2 b2 c2 d2 e2 f2) (max a1 a2),
              (0 : Int) = cmR (okC a1 b1 c1 d1 e1 f1 a2 b2 c2 d2 e2 f2) (max b1 b2),
              (0 : Int) = cmR (okC a1 b1 c1 d1 e1 f1 a2 b2 c2 d2 e2 f2) (max c1 c2),
              (0 : Int) = cmR (okC a1 b1 c1 d1 e1 f1 a2 b2 c2 d2 e2 f2) (min d1 d2),
              (0 : Int) = cmR (okC a1 b1 c1 d1 e1 f1 a2 b2 c2 d2 e2 f2) (min e1 e2),
              (0 : Int) = cmR (okC a1 b1 c1 d1 e1 f1 a2 b2 c2 d2 e2 f2) (min f1 f2),
              false = okC a1 b1 c1 d1 e1 f1 a2 b2 c2 d2 e2 f2])
          (VT.done
            [maxs a1 [a2] = cmR (okC a1 b1 c1 d1 e1 f1 a2 b2 c2 d2 e2 f2) (max a1 a2),
              maxs b1 [b2] = cmR (okC a1 b1 c1 d1 e1 f1 a2 b2 c2 d2 e2 f2) (max b1 b2),
              maxs c1 [c2] = cmR (okC a1 b1 c1 d1 e1 f1 a2 b2 c2 d2 e2 f2) (max c1 c2),
              mins d1 [d2] = cmR (okC a1 b1 c1 d1 e1 f1 a2 b2 c2 d2 e2 f2) (min d1 d2),
              mins e1 [e2] = cmR (okC a1 b1 c1 d1 e1 f1 a2 b2 c2 d2 e2 f2) (min e1 e2),
              mins f1 [f2] = cmR (okC a1 b1 c1 d1 e1 f1 a2 b2 c2 d2 e2 f2) (min f1 f2),
              true = okC a1 b1 c1 d1 e1 f1 a2 b2 c2 d2 e2 f2]))) (by kernel_rfl) ?_
  simp only [VT.holds, AllT, imp_self, implies_true, and_true, true_and, toNat_succ, toNat_add2, toNat_zero', Int.toNat_natCast, Bool.if_true_left, Bool.if_false_right, Bool.decide_eq_true, Bool.or_eq_true, Bool.or_eq_false_iff, Bool.and_eq_true, Bool.and_eq_false_imp, Bool.not_eq_true', Bool.not_eq_false', Bool.not_not, bne_iff_ne, bne_eq_false_iff_eq, beq_iff_eq, beq_eq_false_iff_ne, decide_eq_true_eq, decide_eq_false_iff_not, ne_eq]
  simp only [maxs1, mins1]
  refine ⟨fun h => ?_, fun h => ?_⟩
  · have : okC a1 b1 c1 d1 e1 f1 a2 b2 c2 d2 e2 f2 = false := by unfold okC; rw [decide_eq_false_iff_not]; omega
    simp [this, cmR]
  · have : okC a1 b1 c1 d1 e1 f1 a2 b2 c2 d2 e2 f2 = true := by unfold okC; rw [decide_eq_true_eq]; omega
    simp [this, cmR]
noncomputable def A27_overlap_c (a1 b1 c1 d1 e1 f1 a2 b2 c2 d2 e2 f2 : Int) : Ann := { orc := [(1, [(3, rErB)]), (4, [(2, rCm)])], loops := [], cuts := [] }
theorem overlap_c (a1 b1 c1 d1 e1 f1 a2 b2 c2 d2 e2 f2 : Int)  : FnC prog 27 [bx a1 b1 c1 d1 e1 f1, bx a2 b2 c2 d2 e2 f2] (.tup [dB (isO a1 b1 c1 d1 e1 f1 a2 b2 c2 d2 e2 f2), dI (erB a1 b1 c1 d1 e1 f1 a2 b2 c2 d2 e2 f2)]) := by
  refine FnC_owed hmix (A27_overlap_c a1 b1 c1 d1 e1 f1 a2 b2 c2 d2 e2 f2) (V := VT.need
        [(2 : Nat) ≤ (2 : Nat),
          FnC prog (69 : Nat)
            [DV.lst (2 : Nat)
                [fun (a : Nat) => DV.val (Value.int IntKind.i64 (List.getD [a1, a2] a (0 : Int))), fun (a : Nat) =>
                  DV.val (Value.int IntKind.i64 (List.getD [b1, b2] a (0 : Int))), fun (a : Nat) =>
                  DV.val (Value.int IntKind.i64 (List.getD [c1, c2] a (0 : Int))), fun (a : Nat) =>
                  DV.val (Value.int IntKind.i64 (List.getD [d1, d2] a (0 : Int))), fun (a : Nat) =>
                  DV.val (Value.int IntKind.i64 (List.getD [e1, e2] a (0 : Int))), fun (a : Nat) =>
                  DV.val (Value.int IntKind.i64 (List.getD [f1, f2] a (0 : Int)))]]
            (DV.val
              (Value.int IntKind.i64
                (if ckB a1 b1 c1 d1 e1 f1 ≠ (0 : Int) then ckB a1 b1 c1 d1 e1 f1 else ckB a2 b2 c2 d2 e2 f2)))]
        (VT.ite ((if ckB a1 b1 c1 d1 e1 f1 ≠ (0 : Int) then ckB a1 b1 c1 d1 e1 f1 else ckB a2 b2 c2 d2 e2 f2) != (0 : Int))
          (VT.done
            [false = isO a1 b1 c1 d1 e1 f1 a2 b2 c2 d2 e2 f2,
              (if ckB a1 b1 c1 d1 e1 f1 ≠ (0 : Int) then ckB a1 b1 c1 d1 e1 f1 else ckB a2 b2 c2 d2 e2 f2) =
                erB a1 b1 c1 d1 e1 f1 a2 b2 c2 d2 e2 f2])
          (VT.need
            [FnC prog (70 : Nat)
                [DV.val
                    (Value.agg
                      {
                        toList :=
                          [Value.int IntKind.i64 a1, Value.int IntKind.i64 b1, Value.int IntKind.i64 c1,
                            Value.int IntKind.i64 d1, Value.int IntKind.i64 e1, Value.int IntKind.i64 f1] }),
                  DV.val
                    (Value.agg
                      {
                        toList :=
                          [Value.int IntKind.i64 a2, Value.int IntKind.i64 b2, Value.int IntKind.i64 c2,
                            Value.int IntKind.i64 d2, Value.int IntKind.i64 e2, Value.int IntKind.i64 f2] })]
                (DV.tup
                  [DV.val
                      (Value.agg
                        {
                          toList :=
                            [Value.int IntKind.i64 (max a1 a2), Value.int IntKind.i64 (max b1 b2),
                              Value.int IntKind.i64 (max c1 c2), Value.int IntKind.i64 (min d1 d2),
                              Value.int IntKind.i64 (min e1 e2), Value.int IntKind.i64 (min f1 f2)] }),
                    DV.val (Value.bool (okC a1 b1 c1 d1 e1 f1 a2 b2 c2 d2 e2 f2))])]
            (VT.done
              [okC a1 b1 c1 d1 e1 f1 a2 b2 c2 d2 e2 f2 = isO a1 b1 c1 d1 e1 f1 a2 b2 c2 d2 e2 f2,
                (0 : Int) = erB a1 b1 c1 d1 e1 f1 a2 b2 c2 d2 e2 f2])))) (by kernel_rfl) ?_
  simp only [VT.holds, AllT, imp_self, implies_true, and_true, true_and, toNat_succ, toNat_add2, toNat_zero', Int.toNat_natCast, Bool.if_true_left, Bool.if_false_right, Bool.decide_eq_true, Bool.or_eq_true, Bool.or_eq_false_iff, Bool.and_eq_true, Bool.and_eq_false_imp, Bool.not_eq_true', Bool.not_eq_false', Bool.not_not, bne_iff_ne, bne_eq_false_iff_eq, beq_iff_eq, beq_eq_false_iff_ne, decide_eq_true_eq, decide_eq_false_iff_not, ne_eq]
  refine ⟨⟨Nat.le_refl 2, checkBoxes_c _ _ _ _ _ _⟩, fun h => ?_, fun h => ⟨common_c a1 b1 c1 d1 e1 f1 a2 b2 c2 d2 e2 f2, ?_, ?_⟩⟩
  · have : erB a1 b1 c1 d1 e1 f1 a2 b2 c2 d2 e2 f2 = if ¬ckB a1 b1 c1 d1 e1 f1 = 0 then ckB a1 b1 c1 d1 e1 f1 else ckB a2 b2 c2 d2 e2 f2 := rfl
    rw [this]
    refine ⟨?_, rfl⟩
    rw [isO, this, decide_eq_false h, Bool.false_and]
  · have : erB a1 b1 c1 d1 e1 f1 a2 b2 c2 d2 e2 f2 = 0 := h
    rw [isO, this]; simp
  · exact h.symm
noncomputable def A28_commonTop_c (a1 b1 c1 d1 e1 f1 a2 b2 c2 d2 e2 f2 : Int) : Ann := { orc := [(1, [(3, rErB)]), (4, [(2, rCm)])], loops := [], cuts := [] }
theorem commonTop_c (a1 b1 c1 d1 e1 f1 a2 b2 c2 d2 e2 f2 : Int)  : FnC prog 28 [bx a1 b1 c1 d1 e1 f1, bx a2 b2 c2 d2 e2 f2] (.tup [bx (cmR (isO a1 b1 c1 d1 e1 f1 a2 b2 c2 d2 e2 f2) (max a1 a2)) (cmR (isO a1 b1 c1 d1 e1 f1 a2 b2 c2 d2 e2 f2) (max b1 b2)) (cmR (isO a1 b1 c1 d1 e1 f1 a2 b2 c2 d2 e2 f2) (max c1 c2)) (cmR (isO a1 b1 c1 d1 e1 f1 a2 b2 c2 d2 e2 f2) (min d1 d2)) (cmR (isO a1 b1 c1 d1 e1 f1 a2 b2 c2 d2 e2 f2) (min e1 e2)) (cmR (isO a1 b1 c1 d1 e1 f1 a2 b2 c2 d2 e2 f2) (min f1 f2)), dI (erC a1 b1 c1 d1 e1 f1 a2 b2 c2 d2 e2 f2)]) := by
  refine FnC_owed hmix (A28_commonTop_c a1 b1 c1 d1 e1 f1 a2 b2 c2 d2 e2 f2) (V := VT.need
        [(2 : Nat) ≤ (2 : Nat),
          FnC prog (69 : Nat)
            [DV.lst (2 : Nat)
                [fun (a : Nat) => DV.val (Value.int IntKind.i64 (List.getD [a1, a2] a (0 : Int))), fun (a : Nat) =>
                  DV.val (Value.int IntKind.i64 (List.getD [b1, b2] a (0 : Int))), fun (a : Nat) =>
                  DV.val (Value.int IntKind.i64 (List.getD [c1, c2] a (0 : Int))), fun (a : Nat) =>
                  DV.val (Value.int IntKind.i64 (List.getD [d1, d2] a (0 : Int))), fun (a : Nat) =>
                  DV.val (Value.int IntKind.i64 (List.getD [e1, e2] a (0 : Int))), fun (a : Nat) =>
                  DV.val (Value.int IntKind.i64 (List.getD [f1, f2] a (0 : Int)))]]
            (DV.val
              (Value.int IntKind.i64
                (if ckB a1 b1 c1 d1 e1 f1 ≠ (0 : Int) then ckB a1 b1 c1 d1 e1 f1 else ckB a2 b2 c2 d2 e2 f2)))]
        (VT.ite ((if ckB a1 b1 c1 d1 e1 f1 ≠ (0 : Int) then ckB a1 b1 c1 d1 e1 f1 else ckB a2 b2 c2 d2 e2 f2) != (0 : Int))
          (VT.done
            [(0 : Int) = cmR (isO a1 b1 c1 d1 e1 f1 a2 b2 c2 d2 e2 f2) (max a1 a2),
              (0 : Int) = cmR (isO a1 b1 c1 d1 e1 f1 a2 b2 c2 d2 e2 f2) (max b1 b2),
              (0 : Int) = cmR (isO a1 b1 c1 d1 e1 f1 a2 b2 c2 d2 e2 f2) (max c1 c2),
              (0 : Int) = cmR (isO a1 b1 c1 d1 e1 f1 a2 b2 c2 d2 e2 f2) (min d1 d2),
              (0 : Int) = cmR (isO a1 b1 c1 d1 e1 f1 a2 b2 c2 d2 e2 f2) (min e1 e2),
              (0 : Int) = cmR (isO a1 b1 c1 d1 e1 f1 a2 b2 c2 d2 e2 f2) (min f1 f2),
              (if ckB a1 b1 c1 d1 e1 f1 ≠ (0 : Int) then ckB a1 b1 c1 d1 e1 f1 else ckB a2 b2 c2 d2 e2 f2) =
                erC a1 b1 c1 d1 e1 f1 a2 b2 c2 d2 e2 f2])
          (VT.need
            [FnC prog (70 : Nat)
                [DV.val
                    (Value.agg
                      {
                        toList :=
                          [Value.int IntKind.i64 a1, Value.int IntKind.i64 b1, Value.int IntKind.i64 c1,
                            Value.int IntKind.i64 d1, Value.int IntKind.i64 e1, Value.int IntKind.i64 f1] }),
                  DV.val
                    (Value.agg
                      {
                        toList :=
                          [Value.int IntKind.i64 a2, Value.int IntKind.i64 b2, Value.int IntKind.i64 c2,
                            Value.int IntKind.i64 d2, Value.int IntKind.i64 e2, Value.int IntKind.i64 f2] })]
                (DV.tup
                  [DV.val
                      (Value.agg
                        {
                          toList :=
                            [Value.int IntKind.i64 (max a1 a2), Value.int IntKind.i64 (max b1 b2),
                              Value.int IntKind.i64 (max c1 c2), Value.int IntKind.i64 (min d1 d2),
                              Value.int IntKind.i64 (min e1 e2), Value.int IntKind.i64 (min f1 f2)] }),
                    DV.val (Value.bool (okC a1 b1 c1 d1 e1 f1 a2 b2 c2 d2 e2 f2))])]
            (VT.ite (!okC a1 b1 c1 d1 e1 f1 a2 b2 c2 d2 e2 f2)
              (VT.done
                [(0 : Int) = cmR (isO a1 b1 c1 d1 e1 f1 a2 b2 c2 d2 e2 f2) (max a1 a2),
                  (0 : Int) = cmR (isO a1 b1 c1 d1 e1 f1 a2 b2 c2 d2 e2 f2) (max b1 b2),
                  (0 : Int) = cmR (isO a1 b1 c1 d1 e1 f1 a2 b2 c2 d2 e2 f2) (max c1 c2),
                  (0 : Int) = cmR (isO a1 b1 c1 d1 e1 f1 a2 b2 c2 d2 e2 f2) (min d1 d2),
                  (0 : Int) = cmR (isO a1 b1 c1 d1 e1 f1 a2 b2 c2 d2 e2 f2) (min e1 e2),
                  (0 : Int) = cmR (isO a1 b1 c1 d1 e1 f1 a2 b2 c2 d2 e2 f2) (min f1 f2),
                  (27 : Int) = erC a1 b1 c1 d1 e1 f1 a2 b2 c2 d2 e2 f2])
              (VT.done
                [max a1 a2 = cmR (isO a1 b1 c1 d1 e1 f1 a2 b2 c2 d2 e2 f2) (max a1 a2),
                  max b1 b2 = cmR (isO a1 b1 c1 d1 e1 f1 a2 b2 c2 d2 e2 f2) (max b1 b2),
                  max c1 c2 = cmR (isO a1 b1 c1 d1 e1 f1 a2 b2 c2 d2 e2 f2) (max c1 c2),
                  min d1 d2 = cmR (isO a1 b1 c1 d1 e1 f1 a2 b2 c2 d2 e2 f2) (min d1 d2),
                  min e1 e2 = cmR (isO a1 b1 c1 d1 e1 f1 a2 b2 c2 d2 e2 f2) (min e1 e2),
                  min f1 f2 = cmR (isO a1 b1 c1 d1 e1 f1 a2 b2 c2 d2 e2 f2) (min f1 f2),
                  (0 : Int) = erC a1 b1 c1 d1 e1 f1 a2 b2 c2 d2 e2 f2]))))) (by kernel_rfl) ?_
  simp only [VT.holds, AllT, imp_self, implies_true, and_true, true_and, toNat_succ, toNat_add2, toNat_zero', Int.toNat_natCast, Bool.if_true_left, Bool.if_false_right, Bool.decide_eq_true, Bool.or_eq_true, Bool.or_eq_false_iff, Bool.and_eq_true, Bool.and_eq_false_imp, Bool.not_eq_true', Bool.not_eq_false', Bool.not_not, bne_iff_ne, bne_eq_false_iff_eq, beq_iff_eq, beq_eq_false_iff_ne, decide_eq_true_eq, decide_eq_false_iff_not, ne_eq]
  refine ⟨⟨Nat.le_refl 2, checkBoxes_c _ _ _ _ _ _⟩, fun h => ?_, fun h => ⟨common_c a1 b1 c1 d1 e1 f1 a2 b2 c2 d2 e2 f2, fun ho => ?_, fun ho => ?_⟩⟩
  · have he : erB a1 b1 c1 d1 e1 f1 a2 b2 c2 d2 e2 f2 = if ¬ckB a1 b1 c1 d1 e1 f1 = 0 then ckB a1 b1 c1 d1 e1 f1 else ckB a2 b2 c2 d2 e2 f2 := rfl
    have hi : isO a1 b1 c1 d1 e1 f1 a2 b2 c2 d2 e2 f2 = false := by rw [isO, he, decide_eq_false h, Bool.false_and]
    have hc : erC a1 b1 c1 d1 e1 f1 a2 b2 c2 d2 e2 f2 = erB a1 b1 c1 d1 e1 f1 a2 b2 c2 d2 e2 f2 := by rw [erC, he, if_pos h]
    rw [hc, hi, he]
    simp [cmR]
  · have he : erB a1 b1 c1 d1 e1 f1 a2 b2 c2 d2 e2 f2 = 0 := h
    have hi : isO a1 b1 c1 d1 e1 f1 a2 b2 c2 d2 e2 f2 = false := by rw [isO, ho, Bool.and_false]
    have hc : erC a1 b1 c1 d1 e1 f1 a2 b2 c2 d2 e2 f2 = 27 := by rw [erC, he, if_neg (by simp), if_neg (by rw [ho]; simp)]
    rw [hc, hi]
    simp [cmR]
  · have he : erB a1 b1 c1 d1 e1 f1 a2 b2 c2 d2 e2 f2 = 0 := h
    have hi : isO a1 b1 c1 d1 e1 f1 a2 b2 c2 d2 e2 f2 = true := by rw [isO, ho, he]; rfl
    have hc : erC a1 b1 c1 d1 e1 f1 a2 b2 c2 d2 e2 f2 = 0 := by rw [erC, he, if_neg (by simp), if_pos ho]
    rw [hc, hi]
    simp [cmR]
noncomputable def A5_boxes_c (a1 b1 c1 d1 e1 f1 a2 b2 c2 d2 e2 f2 : Int) : Ann := { orc := [(1, [(0, rTrue)]), (3, [(2, rOver)]), (4, [(2, rCommon)]), (5, [(1, rCkB)]), (6, [(1, rCkB)]), (9, [(1, rCkB)]), (12, [(2, rCmR)])], loops := [], cuts := [] }
theorem boxes_c (a1 b1 c1 d1 e1 f1 a2 b2 c2 d2 e2 f2 : Int)  : FnC prog 5 [bx a1 b1 c1 d1 e1 f1, bx a2 b2 c2 d2 e2 f2] (dB true) := by
  refine FnC_owed hmix (A5_boxes_c a1 b1 c1 d1 e1 f1 a2 b2 c2 d2 e2 f2) (V := VT.need [FnC prog (10 : Nat) [] (DV.val (Value.bool true))]
        (VT.ite (!true) (VT.done [false = true])
          (VT.need
            [FnC prog (27 : Nat)
                [DV.val
                    (Value.agg
                      {
                        toList :=
                          [Value.int IntKind.i64 a1, Value.int IntKind.i64 b1, Value.int IntKind.i64 c1,
                            Value.int IntKind.i64 d1, Value.int IntKind.i64 e1, Value.int IntKind.i64 f1] }),
                  DV.val
                    (Value.agg
                      {
                        toList :=
                          [Value.int IntKind.i64 a2, Value.int IntKind.i64 b2, Value.int IntKind.i64 c2,
                            Value.int IntKind.i64 d2, Value.int IntKind.i64 e2, Value.int IntKind.i64 f2] })]
                (DV.tup
                  [DV.val (Value.bool (isO a1 b1 c1 d1 e1 f1 a2 b2 c2 d2 e2 f2)),
                    DV.val (Value.int IntKind.i64 (erB a1 b1 c1 d1 e1 f1 a2 b2 c2 d2 e2 f2))])]
            (VT.need
              [FnC prog (28 : Nat)
                  [DV.val
                      (Value.agg
                        {
                          toList :=
                            [Value.int IntKind.i64 a1, Value.int IntKind.i64 b1, Value.int IntKind.i64 c1,
                              Value.int IntKind.i64 d1, Value.int IntKind.i64 e1, Value.int IntKind.i64 f1] }),
                    DV.val
                      (Value.agg
                        {
                          toList :=
                            [Value.int IntKind.i64 a2, Value.int IntKind.i64 b2, Value.int IntKind.i64 c2,
                              Value.int IntKind.i64 d2, Value.int IntKind.i64 e2, Value.int IntKind.i64 f2] })]
                  (DV.tup
                    [DV.val
                        (Value.agg
                          {
                            toList :=
                              [Value.int IntKind.i64 (cmR (isO a1 b1 c1 d1 e1 f1 a2 b2 c2 d2 e2 f2) (max a1 a2)),
                                Value.int IntKind.i64 (cmR (isO a1 b1 c1 d1 e1 f1 a2 b2 c2 d2 e2 f2) (max b1 b2)),
                                Value.int IntKind.i64 (cmR (isO a1 b1 c1 d1 e1 f1 a2 b2 c2 d2 e2 f2) (max c1 c2)),
                                Value.int IntKind.i64 (cmR (isO a1 b1 c1 d1 e1 f1 a2 b2 c2 d2 e2 f2) (min d1 d2)),
                                Value.int IntKind.i64 (cmR (isO a1 b1 c1 d1 e1 f1 a2 b2 c2 d2 e2 f2) (min e1 e2)),
                                Value.int IntKind.i64 (cmR (isO a1 b1 c1 d1 e1 f1 a2 b2 c2 d2 e2 f2) (min f1 f2))] }),
                      DV.val (Value.int IntKind.i64 (erC a1 b1 c1 d1 e1 f1 a2 b2 c2 d2 e2 f2))])]
              (VT.need
                [FnC prog (29 : Nat)
                    [DV.val
                        (Value.agg
                          {
                            toList :=
                              [Value.int IntKind.i64 a1, Value.int IntKind.i64 b1, Value.int IntKind.i64 c1,
                                Value.int IntKind.i64 d1, Value.int IntKind.i64 e1, Value.int IntKind.i64 f1] })]
                    (DV.val (Value.int IntKind.i64 (ckB a1 b1 c1 d1 e1 f1)))]
                (VT.need
                  [FnC prog (30 : Nat)
                      [DV.val
                          (Value.agg
                            {
                              toList :=
                                [Value.int IntKind.i64 a1, Value.int IntKind.i64 b1, Value.int IntKind.i64 c1,
                                  Value.int IntKind.i64 d1, Value.int IntKind.i64 e1, Value.int IntKind.i64 f1] })]
                      (DV.val (Value.int IntKind.i64 (ckB a1 b1 c1 d1 e1 f1)))]
                  (VT.ite (ckB a1 b1 c1 d1 e1 f1 != ckB a1 b1 c1 d1 e1 f1) (VT.done [false = true])
                    (VT.ite (ckB a1 b1 c1 d1 e1 f1 == (0 : Int))
                      (VT.need
                        [FnC prog (29 : Nat)
                            [DV.val
                                (Value.agg
                                  {
                                    toList :=
                                      [Value.int IntKind.i64 a2, Value.int IntKind.i64 b2, Value.int IntKind.i64 c2,
                                        Value.int IntKind.i64 d2, Value.int IntKind.i64 e2, Value.int IntKind.i64 f2] })]
                            (DV.val (Value.int IntKind.i64 (ckB a2 b2 c2 d2 e2 f2)))]
                        (VT.ite (ckB a2 b2 c2 d2 e2 f2 != (0 : Int))
                          (VT.need
                            [(erB a1 b1 c1 d1 e1 f1 a2 b2 c2 d2 e2 f2 == ckB a2 b2 c2 d2 e2 f2) = true →
                                (erB a1 b1 c1 d1 e1 f1 a2 b2 c2 d2 e2 f2 == ckB a2 b2 c2 d2 e2 f2) = true,
                              (erB a1 b1 c1 d1 e1 f1 a2 b2 c2 d2 e2 f2 == ckB a2 b2 c2 d2 e2 f2) = true →
                                (erB a1 b1 c1 d1 e1 f1 a2 b2 c2 d2 e2 f2 == ckB a2 b2 c2 d2 e2 f2) = true,
                              (erB a1 b1 c1 d1 e1 f1 a2 b2 c2 d2 e2 f2 == ckB a2 b2 c2 d2 e2 f2) = true →
                                (erB a1 b1 c1 d1 e1 f1 a2 b2 c2 d2 e2 f2 == ckB a2 b2 c2 d2 e2 f2) = true,
                              (if (erB a1 b1 c1 d1 e1 f1 a2 b2 c2 d2 e2 f2 == ckB a2 b2 c2 d2 e2 f2) = true then
                                    erC a1 b1 c1 d1 e1 f1 a2 b2 c2 d2 e2 f2 == ckB a2 b2 c2 d2 e2 f2
                                  else false) =
                                  true →
                                (if (erB a1 b1 c1 d1 e1 f1 a2 b2 c2 d2 e2 f2 == ckB a2 b2 c2 d2 e2 f2) = true then
                                    erC a1 b1 c1 d1 e1 f1 a2 b2 c2 d2 e2 f2 == ckB a2 b2 c2 d2 e2 f2
                                  else false) =
                                  true,
                              (if (erB a1 b1 c1 d1 e1 f1 a2 b2 c2 d2 e2 f2 == ckB a2 b2 c2 d2 e2 f2) = true then
                                    erC a1 b1 c1 d1 e1 f1 a2 b2 c2 d2 e2 f2 == ckB a2 b2 c2 d2 e2 f2
                                  else false) =
                                  true →
                                (if (erB a1 b1 c1 d1 e1 f1 a2 b2 c2 d2 e2 f2 == ckB a2 b2 c2 d2 e2 f2) = true then
                                    erC a1 b1 c1 d1 e1 f1 a2 b2 c2 d2 e2 f2 == ckB a2 b2 c2 d2 e2 f2
                                  else false) =
                                  true,
                              (if
                                      (if (erB a1 b1 c1 d1 e1 f1 a2 b2 c2 d2 e2 f2 == ckB a2 b2 c2 d2 e2 f2) = true then
                                          erC a1 b1 c1 d1 e1 f1 a2 b2 c2 d2 e2 f2 == ckB a2 b2 c2 d2 e2 f2
                                        else false) =
                                        true then
                                    !isO a1 b1 c1 d1 e1 f1 a2 b2 c2 d2 e2 f2
                                  else false) =
                                  true →
                                (if
                                      (if (erB a1 b1 c1 d1 e1 f1 a2 b2 c2 d2 e2 f2 == ckB a2 b2 c2 d2 e2 f2) = true then
                                          erC a1 b1 c1 d1 e1 f1 a2 b2 c2 d2 e2 f2 == ckB a2 b2 c2 d2 e2 f2
                                        else false) =
                                        true then
                                    !isO a1 b1 c1 d1 e1 f1 a2 b2 c2 d2 e2 f2
                                  else false) =
                                  true,
                              (if
                                      (if (erB a1 b1 c1 d1 e1 f1 a2 b2 c2 d2 e2 f2 == ckB a2 b2 c2 d2 e2 f2) = true then
                                          erC a1 b1 c1 d1 e1 f1 a2 b2 c2 d2 e2 f2 == ckB a2 b2 c2 d2 e2 f2
                                        else false) =
                                        true then
                                    !isO a1 b1 c1 d1 e1 f1 a2 b2 c2 d2 e2 f2
                                  else false) =
                                  true →
                                (if
                                      (if (erB a1 b1 c1 d1 e1 f1 a2 b2 c2 d2 e2 f2 == ckB a2 b2 c2 d2 e2 f2) = true then
                                          erC a1 b1 c1 d1 e1 f1 a2 b2 c2 d2 e2 f2 == ckB a2 b2 c2 d2 e2 f2
                                        else false) =
                                        true then
                                    !isO a1 b1 c1 d1 e1 f1 a2 b2 c2 d2 e2 f2
                                  else false) =
                                  true,
                              (if
                                      (if (erB a1 b1 c1 d1 e1 f1 a2 b2 c2 d2 e2 f2 == ckB a2 b2 c2 d2 e2 f2) = true then
                                          erC a1 b1 c1 d1 e1 f1 a2 b2 c2 d2 e2 f2 == ckB a2 b2 c2 d2 e2 f2
                                        else false) =
                                        true then
                                    !isO a1 b1 c1 d1 e1 f1 a2 b2 c2 d2 e2 f2
                                  else false) =
                                  true →
                                (if
                                      (if (erB a1 b1 c1 d1 e1 f1 a2 b2 c2 d2 e2 f2 == ckB a2 b2 c2 d2 e2 f2) = true then
                                          erC a1 b1 c1 d1 e1 f1 a2 b2 c2 d2 e2 f2 == ckB a2 b2 c2 d2 e2 f2
                                        else false) =
                                        true then
                                    !isO a1 b1 c1 d1 e1 f1 a2 b2 c2 d2 e2 f2
                                  else false) =
                                  true]
                            (VT.done
                              [(if
                                      (if
                                            (if
                                                  (erB a1 b1 c1 d1 e1 f1 a2 b2 c2 d2 e2 f2 == ckB a2 b2 c2 d2 e2 f2) =
                                                    true then
                                                erC a1 b1 c1 d1 e1 f1 a2 b2 c2 d2 e2 f2 == ckB a2 b2 c2 d2 e2 f2
                                              else false) =
                                              true then
                                          !isO a1 b1 c1 d1 e1 f1 a2 b2 c2 d2 e2 f2
                                        else false) =
                                        true then
                                    cmR (isO a1 b1 c1 d1 e1 f1 a2 b2 c2 d2 e2 f2) (max a1 a2) == (0 : Int) &&
                                      (cmR (isO a1 b1 c1 d1 e1 f1 a2 b2 c2 d2 e2 f2) (max b1 b2) == (0 : Int) &&
                                        (cmR (isO a1 b1 c1 d1 e1 f1 a2 b2 c2 d2 e2 f2) (max c1 c2) == (0 : Int) &&
                                          (cmR (isO a1 b1 c1 d1 e1 f1 a2 b2 c2 d2 e2 f2) (min d1 d2) == (0 : Int) &&
                                            (cmR (isO a1 b1 c1 d1 e1 f1 a2 b2 c2 d2 e2 f2) (min e1 e2) == (0 : Int) &&
                                              (cmR (isO a1 b1 c1 d1 e1 f1 a2 b2 c2 d2 e2 f2) (min f1 f2) == (0 : Int) &&
                                                true)))))
                                  else false) =
                                  true]))
                          (VT.need
                            [FnC prog (31 : Nat)
                                [DV.val
                                    (Value.agg
                                      {
                                        toList :=
                                          [Value.int IntKind.i64 a1, Value.int IntKind.i64 b1, Value.int IntKind.i64 c1,
                                            Value.int IntKind.i64 d1, Value.int IntKind.i64 e1,
                                            Value.int IntKind.i64 f1] }),
                                  DV.val
                                    (Value.agg
                                      {
                                        toList :=
                                          [Value.int IntKind.i64 a2, Value.int IntKind.i64 b2, Value.int IntKind.i64 c2,
                                            Value.int IntKind.i64 d2, Value.int IntKind.i64 e2,
                                            Value.int IntKind.i64 f2] })]
                                (DV.tup
                                  [DV.val
                                      (Value.agg
                                        {
                                          toList :=
                                            [Value.int IntKind.i64
                                                (cmR (okC a1 b1 c1 d1 e1 f1 a2 b2 c2 d2 e2 f2) (max a1 a2)),
                                              Value.int IntKind.i64
                                                (cmR (okC a1 b1 c1 d1 e1 f1 a2 b2 c2 d2 e2 f2) (max b1 b2)),
                                              Value.int IntKind.i64
                                                (cmR (okC a1 b1 c1 d1 e1 f1 a2 b2 c2 d2 e2 f2) (max c1 c2)),
                                              Value.int IntKind.i64
                                                (cmR (okC a1 b1 c1 d1 e1 f1 a2 b2 c2 d2 e2 f2) (min d1 d2)),
                                              Value.int IntKind.i64
                                                (cmR (okC a1 b1 c1 d1 e1 f1 a2 b2 c2 d2 e2 f2) (min e1 e2)),
                                              Value.int IntKind.i64
                                                (cmR (okC a1 b1 c1 d1 e1 f1 a2 b2 c2 d2 e2 f2) (min f1 f2))] }),
                                    DV.val (Value.bool (okC a1 b1 c1 d1 e1 f1 a2 b2 c2 d2 e2 f2))])]
                            (VT.need
                              [(!erB a1 b1 c1 d1 e1 f1 a2 b2 c2 d2 e2 f2 != (0 : Int)) = true →
                                  (!erB a1 b1 c1 d1 e1 f1 a2 b2 c2 d2 e2 f2 != (0 : Int)) = true,
                                (!erB a1 b1 c1 d1 e1 f1 a2 b2 c2 d2 e2 f2 != (0 : Int)) = true →
                                  (!erB a1 b1 c1 d1 e1 f1 a2 b2 c2 d2 e2 f2 != (0 : Int)) = true,
                                (erB a1 b1 c1 d1 e1 f1 a2 b2 c2 d2 e2 f2 != (0 : Int)) = false →
                                  (!erB a1 b1 c1 d1 e1 f1 a2 b2 c2 d2 e2 f2 != (0 : Int)) = true,
                                (!if (erB a1 b1 c1 d1 e1 f1 a2 b2 c2 d2 e2 f2 != (0 : Int)) = true then true
                                      else
                                        if true = true then
                                          !isO a1 b1 c1 d1 e1 f1 a2 b2 c2 d2 e2 f2 ==
                                              okC a1 b1 c1 d1 e1 f1 a2 b2 c2 d2 e2 f2
                                        else
                                          isO a1 b1 c1 d1 e1 f1 a2 b2 c2 d2 e2 f2 ==
                                            okC a1 b1 c1 d1 e1 f1 a2 b2 c2 d2 e2 f2) =
                                    true →
                                  (!if (erB a1 b1 c1 d1 e1 f1 a2 b2 c2 d2 e2 f2 != (0 : Int)) = true then true
                                      else
                                        if true = true then
                                          !isO a1 b1 c1 d1 e1 f1 a2 b2 c2 d2 e2 f2 ==
                                              okC a1 b1 c1 d1 e1 f1 a2 b2 c2 d2 e2 f2
                                        else
                                          isO a1 b1 c1 d1 e1 f1 a2 b2 c2 d2 e2 f2 ==
                                            okC a1 b1 c1 d1 e1 f1 a2 b2 c2 d2 e2 f2) =
                                    true,
                                (!if (erB a1 b1 c1 d1 e1 f1 a2 b2 c2 d2 e2 f2 != (0 : Int)) = true then true
                                      else
                                        if true = true then
                                          !isO a1 b1 c1 d1 e1 f1 a2 b2 c2 d2 e2 f2 ==
                                              okC a1 b1 c1 d1 e1 f1 a2 b2 c2 d2 e2 f2
                                        else
                                          isO a1 b1 c1 d1 e1 f1 a2 b2 c2 d2 e2 f2 ==
                                            okC a1 b1 c1 d1 e1 f1 a2 b2 c2 d2 e2 f2) =
                                    true →
                                  (!if (erB a1 b1 c1 d1 e1 f1 a2 b2 c2 d2 e2 f2 != (0 : Int)) = true then true
                                      else
                                        if true = true then
                                          !isO a1 b1 c1 d1 e1 f1 a2 b2 c2 d2 e2 f2 ==
                                              okC a1 b1 c1 d1 e1 f1 a2 b2 c2 d2 e2 f2
                                        else
                                          isO a1 b1 c1 d1 e1 f1 a2 b2 c2 d2 e2 f2 ==
                                            okC a1 b1 c1 d1 e1 f1 a2 b2 c2 d2 e2 f2) =
                                    true,
                                (if (erB a1 b1 c1 d1 e1 f1 a2 b2 c2 d2 e2 f2 != (0 : Int)) = true then true
                                    else
                                      if true = true then
                                        !isO a1 b1 c1 d1 e1 f1 a2 b2 c2 d2 e2 f2 == okC a1 b1 c1 d1 e1 f1 a2 b2 c2 d2 e2 f2
                                      else
                                        isO a1 b1 c1 d1 e1 f1 a2 b2 c2 d2 e2 f2 ==
                                          okC a1 b1 c1 d1 e1 f1 a2 b2 c2 d2 e2 f2) =
                                    false →
                                  (!if (erB a1 b1 c1 d1 e1 f1 a2 b2 c2 d2 e2 f2 != (0 : Int)) = true then true
                                      else
                                        if true = true then
                                          !isO a1 b1 c1 d1 e1 f1 a2 b2 c2 d2 e2 f2 ==
                                              okC a1 b1 c1 d1 e1 f1 a2 b2 c2 d2 e2 f2
                                        else
                                          isO a1 b1 c1 d1 e1 f1 a2 b2 c2 d2 e2 f2 ==
                                            okC a1 b1 c1 d1 e1 f1 a2 b2 c2 d2 e2 f2) =
                                    true]
                              (VT.ite
                                (if
                                    (if (erB a1 b1 c1 d1 e1 f1 a2 b2 c2 d2 e2 f2 != (0 : Int)) = true then true
                                      else
                                        if true = true then
                                          !isO a1 b1 c1 d1 e1 f1 a2 b2 c2 d2 e2 f2 ==
                                              okC a1 b1 c1 d1 e1 f1 a2 b2 c2 d2 e2 f2
                                        else
                                          isO a1 b1 c1 d1 e1 f1 a2 b2 c2 d2 e2 f2 ==
                                            okC a1 b1 c1 d1 e1 f1 a2 b2 c2 d2 e2 f2) =
                                      true then
                                  true
                                else
                                  !(cmR (isO a1 b1 c1 d1 e1 f1 a2 b2 c2 d2 e2 f2) (max a1 a2) ==
                                        cmR (okC a1 b1 c1 d1 e1 f1 a2 b2 c2 d2 e2 f2) (max a1 a2) &&
                                      (cmR (isO a1 b1 c1 d1 e1 f1 a2 b2 c2 d2 e2 f2) (max b1 b2) ==
                                          cmR (okC a1 b1 c1 d1 e1 f1 a2 b2 c2 d2 e2 f2) (max b1 b2) &&
                                        (cmR (isO a1 b1 c1 d1 e1 f1 a2 b2 c2 d2 e2 f2) (max c1 c2) ==
                                            cmR (okC a1 b1 c1 d1 e1 f1 a2 b2 c2 d2 e2 f2) (max c1 c2) &&
                                          (cmR (isO a1 b1 c1 d1 e1 f1 a2 b2 c2 d2 e2 f2) (min d1 d2) ==
                                              cmR (okC a1 b1 c1 d1 e1 f1 a2 b2 c2 d2 e2 f2) (min d1 d2) &&
                                            (cmR (isO a1 b1 c1 d1 e1 f1 a2 b2 c2 d2 e2 f2) (min e1 e2) ==
                                                cmR (okC a1 b1 c1 d1 e1 f1 a2 b2 c2 d2 e2 f2) (min e1 e2) &&
                                              (cmR (isO a1 b1 c1 d1 e1 f1 a2 b2 c2 d2 e2 f2) (min f1 f2) ==
                                                  cmR (okC a1 b1 c1 d1 e1 f1 a2 b2 c2 d2 e2 f2) (min f1 f2) &&
                                                true)))))))
                                (VT.done [false = true])
                                (VT.need
                                  [okC a1 b1 c1 d1 e1 f1 a2 b2 c2 d2 e2 f2 = true →
                                      okC a1 b1 c1 d1 e1 f1 a2 b2 c2 d2 e2 f2 = true,
                                    okC a1 b1 c1 d1 e1 f1 a2 b2 c2 d2 e2 f2 = true →
                                      okC a1 b1 c1 d1 e1 f1 a2 b2 c2 d2 e2 f2 = true,
                                    (!if okC a1 b1 c1 d1 e1 f1 a2 b2 c2 d2 e2 f2 = true then
                                            erC a1 b1 c1 d1 e1 f1 a2 b2 c2 d2 e2 f2 == (0 : Int)
                                          else false) =
                                        true →
                                      (!if okC a1 b1 c1 d1 e1 f1 a2 b2 c2 d2 e2 f2 = true then
                                            erC a1 b1 c1 d1 e1 f1 a2 b2 c2 d2 e2 f2 == (0 : Int)
                                          else false) =
                                        true,
                                    (!if okC a1 b1 c1 d1 e1 f1 a2 b2 c2 d2 e2 f2 = true then
                                            erC a1 b1 c1 d1 e1 f1 a2 b2 c2 d2 e2 f2 == (0 : Int)
                                          else false) =
                                        true →
                                      (!if okC a1 b1 c1 d1 e1 f1 a2 b2 c2 d2 e2 f2 = true then
                                            erC a1 b1 c1 d1 e1 f1 a2 b2 c2 d2 e2 f2 == (0 : Int)
                                          else false) =
                                        true,
                                    ((!if okC a1 b1 c1 d1 e1 f1 a2 b2 c2 d2 e2 f2 = true then
                                              erC a1 b1 c1 d1 e1 f1 a2 b2 c2 d2 e2 f2 == (0 : Int)
                                            else false) &&
                                          !okC a1 b1 c1 d1 e1 f1 a2 b2 c2 d2 e2 f2) =
                                        true →
                                      ((!if okC a1 b1 c1 d1 e1 f1 a2 b2 c2 d2 e2 f2 = true then
                                              erC a1 b1 c1 d1 e1 f1 a2 b2 c2 d2 e2 f2 == (0 : Int)
                                            else false) &&
                                          !okC a1 b1 c1 d1 e1 f1 a2 b2 c2 d2 e2 f2) =
                                        true,
                                    (!if okC a1 b1 c1 d1 e1 f1 a2 b2 c2 d2 e2 f2 = true then
                                            erC a1 b1 c1 d1 e1 f1 a2 b2 c2 d2 e2 f2 == (0 : Int)
                                          else false) =
                                        true →
                                      (!if okC a1 b1 c1 d1 e1 f1 a2 b2 c2 d2 e2 f2 = true then
                                            erC a1 b1 c1 d1 e1 f1 a2 b2 c2 d2 e2 f2 == (0 : Int)
                                          else false) =
                                        true,
                                    (!if okC a1 b1 c1 d1 e1 f1 a2 b2 c2 d2 e2 f2 = true then
                                            erC a1 b1 c1 d1 e1 f1 a2 b2 c2 d2 e2 f2 == (0 : Int)
                                          else false) =
                                        true →
                                      (!okC a1 b1 c1 d1 e1 f1 a2 b2 c2 d2 e2 f2) = true →
                                        ((!if okC a1 b1 c1 d1 e1 f1 a2 b2 c2 d2 e2 f2 = true then
                                                erC a1 b1 c1 d1 e1 f1 a2 b2 c2 d2 e2 f2 == (0 : Int)
                                              else false) &&
                                            !okC a1 b1 c1 d1 e1 f1 a2 b2 c2 d2 e2 f2) =
                                          true,
                                    (if okC a1 b1 c1 d1 e1 f1 a2 b2 c2 d2 e2 f2 = true then
                                          erC a1 b1 c1 d1 e1 f1 a2 b2 c2 d2 e2 f2 == (0 : Int)
                                        else false) =
                                        false →
                                      (!if okC a1 b1 c1 d1 e1 f1 a2 b2 c2 d2 e2 f2 = true then
                                            erC a1 b1 c1 d1 e1 f1 a2 b2 c2 d2 e2 f2 == (0 : Int)
                                          else false) =
                                        true]
                                  (VT.done
                                    [(if
                                            (if okC a1 b1 c1 d1 e1 f1 a2 b2 c2 d2 e2 f2 = true then
                                                erC a1 b1 c1 d1 e1 f1 a2 b2 c2 d2 e2 f2 == (0 : Int)
                                              else false) =
                                              true then
                                          true
                                        else
                                          if (!okC a1 b1 c1 d1 e1 f1 a2 b2 c2 d2 e2 f2) = true then
                                            erC a1 b1 c1 d1 e1 f1 a2 b2 c2 d2 e2 f2 == (27 : Int)
                                          else false) =
                                        true])))))))
                      (VT.ite (ckB a1 b1 c1 d1 e1 f1 != (0 : Int))
                        (VT.need
                          [(erB a1 b1 c1 d1 e1 f1 a2 b2 c2 d2 e2 f2 == ckB a1 b1 c1 d1 e1 f1) = true →
                              (erB a1 b1 c1 d1 e1 f1 a2 b2 c2 d2 e2 f2 == ckB a1 b1 c1 d1 e1 f1) = true,
                            (erB a1 b1 c1 d1 e1 f1 a2 b2 c2 d2 e2 f2 == ckB a1 b1 c1 d1 e1 f1) = true →
                              (erB a1 b1 c1 d1 e1 f1 a2 b2 c2 d2 e2 f2 == ckB a1 b1 c1 d1 e1 f1) = true,
                            (erB a1 b1 c1 d1 e1 f1 a2 b2 c2 d2 e2 f2 == ckB a1 b1 c1 d1 e1 f1) = true →
                              (erB a1 b1 c1 d1 e1 f1 a2 b2 c2 d2 e2 f2 == ckB a1 b1 c1 d1 e1 f1) = true,
                            (if (erB a1 b1 c1 d1 e1 f1 a2 b2 c2 d2 e2 f2 == ckB a1 b1 c1 d1 e1 f1) = true then
                                  erC a1 b1 c1 d1 e1 f1 a2 b2 c2 d2 e2 f2 == ckB a1 b1 c1 d1 e1 f1
                                else false) =
                                true →
                              (if (erB a1 b1 c1 d1 e1 f1 a2 b2 c2 d2 e2 f2 == ckB a1 b1 c1 d1 e1 f1) = true then
                                  erC a1 b1 c1 d1 e1 f1 a2 b2 c2 d2 e2 f2 == ckB a1 b1 c1 d1 e1 f1
                                else false) =
                                true,
                            (if (erB a1 b1 c1 d1 e1 f1 a2 b2 c2 d2 e2 f2 == ckB a1 b1 c1 d1 e1 f1) = true then
                                  erC a1 b1 c1 d1 e1 f1 a2 b2 c2 d2 e2 f2 == ckB a1 b1 c1 d1 e1 f1
                                else false) =
                                true →
                              (if (erB a1 b1 c1 d1 e1 f1 a2 b2 c2 d2 e2 f2 == ckB a1 b1 c1 d1 e1 f1) = true then
                                  erC a1 b1 c1 d1 e1 f1 a2 b2 c2 d2 e2 f2 == ckB a1 b1 c1 d1 e1 f1
                                else false) =
                                true,
                            (if
                                    (if (erB a1 b1 c1 d1 e1 f1 a2 b2 c2 d2 e2 f2 == ckB a1 b1 c1 d1 e1 f1) = true then
                                        erC a1 b1 c1 d1 e1 f1 a2 b2 c2 d2 e2 f2 == ckB a1 b1 c1 d1 e1 f1
                                      else false) =
                                      true then
                                  !isO a1 b1 c1 d1 e1 f1 a2 b2 c2 d2 e2 f2
                                else false) =
                                true →
                              (if
                                    (if (erB a1 b1 c1 d1 e1 f1 a2 b2 c2 d2 e2 f2 == ckB a1 b1 c1 d1 e1 f1) = true then
                                        erC a1 b1 c1 d1 e1 f1 a2 b2 c2 d2 e2 f2 == ckB a1 b1 c1 d1 e1 f1
                                      else false) =
                                      true then
                                  !isO a1 b1 c1 d1 e1 f1 a2 b2 c2 d2 e2 f2
                                else false) =
                                true,
                            (if
                                    (if (erB a1 b1 c1 d1 e1 f1 a2 b2 c2 d2 e2 f2 == ckB a1 b1 c1 d1 e1 f1) = true then
                                        erC a1 b1 c1 d1 e1 f1 a2 b2 c2 d2 e2 f2 == ckB a1 b1 c1 d1 e1 f1
                                      else false) =
                                      true then
                                  !isO a1 b1 c1 d1 e1 f1 a2 b2 c2 d2 e2 f2
                                else false) =
                                true →
                              (if
                                    (if (erB a1 b1 c1 d1 e1 f1 a2 b2 c2 d2 e2 f2 == ckB a1 b1 c1 d1 e1 f1) = true then
                                        erC a1 b1 c1 d1 e1 f1 a2 b2 c2 d2 e2 f2 == ckB a1 b1 c1 d1 e1 f1
                                      else false) =
                                      true then
                                  !isO a1 b1 c1 d1 e1 f1 a2 b2 c2 d2 e2 f2
                                else false) =
                                true,
                            (if
                                    (if (erB a1 b1 c1 d1 e1 f1 a2 b2 c2 d2 e2 f2 == ckB a1 b1 c1 d1 e1 f1) = true then
                                        erC a1 b1 c1 d1 e1 f1 a2 b2 c2 d2 e2 f2 == ckB a1 b1 c1 d1 e1 f1
                                      else false) =
                                      true then
                                  !isO a1 b1 c1 d1 e1 f1 a2 b2 c2 d2 e2 f2
                                else false) =
                                true →
                              (if
                                    (if (erB a1 b1 c1 d1 e1 f1 a2 b2 c2 d2 e2 f2 == ckB a1 b1 c1 d1 e1 f1) = true then
                                        erC a1 b1 c1 d1 e1 f1 a2 b2 c2 d2 e2 f2 == ckB a1 b1 c1 d1 e1 f1
                                      else false) =
                                      true then
                                  !isO a1 b1 c1 d1 e1 f1 a2 b2 c2 d2 e2 f2
                                else false) =
                                true]
                          (VT.done
                            [(if
                                    (if
                                          (if (erB a1 b1 c1 d1 e1 f1 a2 b2 c2 d2 e2 f2 == ckB a1 b1 c1 d1 e1 f1) = true then
                                              erC a1 b1 c1 d1 e1 f1 a2 b2 c2 d2 e2 f2 == ckB a1 b1 c1 d1 e1 f1
                                            else false) =
                                            true then
                                        !isO a1 b1 c1 d1 e1 f1 a2 b2 c2 d2 e2 f2
                                      else false) =
                                      true then
                                  cmR (isO a1 b1 c1 d1 e1 f1 a2 b2 c2 d2 e2 f2) (max a1 a2) == (0 : Int) &&
                                    (cmR (isO a1 b1 c1 d1 e1 f1 a2 b2 c2 d2 e2 f2) (max b1 b2) == (0 : Int) &&
                                      (cmR (isO a1 b1 c1 d1 e1 f1 a2 b2 c2 d2 e2 f2) (max c1 c2) == (0 : Int) &&
                                        (cmR (isO a1 b1 c1 d1 e1 f1 a2 b2 c2 d2 e2 f2) (min d1 d2) == (0 : Int) &&
                                          (cmR (isO a1 b1 c1 d1 e1 f1 a2 b2 c2 d2 e2 f2) (min e1 e2) == (0 : Int) &&
                                            (cmR (isO a1 b1 c1 d1 e1 f1 a2 b2 c2 d2 e2 f2) (min f1 f2) == (0 : Int) &&
                                              true)))))
                                else false) =
                                true]))
                        (VT.need
                          [FnC prog (31 : Nat)
                              [DV.val
                                  (Value.agg
                                    {
                                      toList :=
                                        [Value.int IntKind.i64 a1, Value.int IntKind.i64 b1, Value.int IntKind.i64 c1,
                                          Value.int IntKind.i64 d1, Value.int IntKind.i64 e1, Value.int IntKind.i64 f1] }),
                                DV.val
                                  (Value.agg
                                    {
                                      toList :=
                                        [Value.int IntKind.i64 a2, Value.int IntKind.i64 b2, Value.int IntKind.i64 c2,
                                          Value.int IntKind.i64 d2, Value.int IntKind.i64 e2, Value.int IntKind.i64 f2] })]
                              (DV.tup
                                [DV.val
                                    (Value.agg
                                      {
                                        toList :=
                                          [Value.int IntKind.i64
                                              (cmR (okC a1 b1 c1 d1 e1 f1 a2 b2 c2 d2 e2 f2) (max a1 a2)),
                                            Value.int IntKind.i64
                                              (cmR (okC a1 b1 c1 d1 e1 f1 a2 b2 c2 d2 e2 f2) (max b1 b2)),
                                            Value.int IntKind.i64
                                              (cmR (okC a1 b1 c1 d1 e1 f1 a2 b2 c2 d2 e2 f2) (max c1 c2)),
                                            Value.int IntKind.i64
                                              (cmR (okC a1 b1 c1 d1 e1 f1 a2 b2 c2 d2 e2 f2) (min d1 d2)),
                                            Value.int IntKind.i64
                                              (cmR (okC a1 b1 c1 d1 e1 f1 a2 b2 c2 d2 e2 f2) (min e1 e2)),
                                            Value.int IntKind.i64
                                              (cmR (okC a1 b1 c1 d1 e1 f1 a2 b2 c2 d2 e2 f2) (min f1 f2))] }),
                                  DV.val (Value.bool (okC a1 b1 c1 d1 e1 f1 a2 b2 c2 d2 e2 f2))])]
                          (VT.need
                            [(!erB a1 b1 c1 d1 e1 f1 a2 b2 c2 d2 e2 f2 != (0 : Int)) = true →
                                (!erB a1 b1 c1 d1 e1 f1 a2 b2 c2 d2 e2 f2 != (0 : Int)) = true,
                              (!erB a1 b1 c1 d1 e1 f1 a2 b2 c2 d2 e2 f2 != (0 : Int)) = true →
                                (!erB a1 b1 c1 d1 e1 f1 a2 b2 c2 d2 e2 f2 != (0 : Int)) = true,
                              (erB a1 b1 c1 d1 e1 f1 a2 b2 c2 d2 e2 f2 != (0 : Int)) = false →
                                (!erB a1 b1 c1 d1 e1 f1 a2 b2 c2 d2 e2 f2 != (0 : Int)) = true,
                              (!if (erB a1 b1 c1 d1 e1 f1 a2 b2 c2 d2 e2 f2 != (0 : Int)) = true then true
                                    else
                                      if true = true then
                                        !isO a1 b1 c1 d1 e1 f1 a2 b2 c2 d2 e2 f2 == okC a1 b1 c1 d1 e1 f1 a2 b2 c2 d2 e2 f2
                                      else
                                        isO a1 b1 c1 d1 e1 f1 a2 b2 c2 d2 e2 f2 ==
                                          okC a1 b1 c1 d1 e1 f1 a2 b2 c2 d2 e2 f2) =
                                  true →
                                (!if (erB a1 b1 c1 d1 e1 f1 a2 b2 c2 d2 e2 f2 != (0 : Int)) = true then true
                                    else
                                      if true = true then
                                        !isO a1 b1 c1 d1 e1 f1 a2 b2 c2 d2 e2 f2 == okC a1 b1 c1 d1 e1 f1 a2 b2 c2 d2 e2 f2
                                      else
                                        isO a1 b1 c1 d1 e1 f1 a2 b2 c2 d2 e2 f2 ==
                                          okC a1 b1 c1 d1 e1 f1 a2 b2 c2 d2 e2 f2) =
                                  true,
                              (!if (erB a1 b1 c1 d1 e1 f1 a2 b2 c2 d2 e2 f2 != (0 : Int)) = true then true
                                    else
                                      if true = true then
                                        !isO a1 b1 c1 d1 e1 f1 a2 b2 c2 d2 e2 f2 == okC a1 b1 c1 d1 e1 f1 a2 b2 c2 d2 e2 f2
                                      else
                                        isO a1 b1 c1 d1 e1 f1 a2 b2 c2 d2 e2 f2 ==
                                          okC a1 b1 c1 d1 e1 f1 a2 b2 c2 d2 e2 f2) =
                                  true →
                                (!if (erB a1 b1 c1 d1 e1 f1 a2 b2 c2 d2 e2 f2 != (0 : Int)) = true then true
                                    else
                                      if true = true then
                                        !isO a1 b1 c1 d1 e1 f1 a2 b2 c2 d2 e2 f2 == okC a1 b1 c1 d1 e1 f1 a2 b2 c2 d2 e2 f2
                                      else
                                        isO a1 b1 c1 d1 e1 f1 a2 b2 c2 d2 e2 f2 ==
                                          okC a1 b1 c1 d1 e1 f1 a2 b2 c2 d2 e2 f2) =
                                  true,
                              (if (erB a1 b1 c1 d1 e1 f1 a2 b2 c2 d2 e2 f2 != (0 : Int)) = true then true
                                  else
                                    if true = true then
                                      !isO a1 b1 c1 d1 e1 f1 a2 b2 c2 d2 e2 f2 == okC a1 b1 c1 d1 e1 f1 a2 b2 c2 d2 e2 f2
                                    else
                                      isO a1 b1 c1 d1 e1 f1 a2 b2 c2 d2 e2 f2 == okC a1 b1 c1 d1 e1 f1 a2 b2 c2 d2 e2 f2) =
                                  false →
                                (!if (erB a1 b1 c1 d1 e1 f1 a2 b2 c2 d2 e2 f2 != (0 : Int)) = true then true
                                    else
                                      if true = true then
                                        !isO a1 b1 c1 d1 e1 f1 a2 b2 c2 d2 e2 f2 == okC a1 b1 c1 d1 e1 f1 a2 b2 c2 d2 e2 f2
                                      else
                                        isO a1 b1 c1 d1 e1 f1 a2 b2 c2 d2 e2 f2 ==
                                          okC a1 b1 c1 d1 e1 f1 a2 b2 c2 d2 e2 f2) =
                                  true]
                            (VT.ite
                              (if
                                  (if (erB a1 b1 c1 d1 e1 f1 a2 b2 c2 d2 e2 f2 != (0 : Int)) = true then true
                                    else
                                      if true = true then
                                        !isO a1 b1 c1 d1 e1 f1 a2 b2 c2 d2 e2 f2 == okC a1 b1 c1 d1 e1 f1 a2 b2 c2 d2 e2 f2
                                      else
                                        isO a1 b1 c1 d1 e1 f1 a2 b2 c2 d2 e2 f2 ==
                                          okC a1 b1 c1 d1 e1 f1 a2 b2 c2 d2 e2 f2) =
                                    true then
                                true
                              else
                                !(cmR (isO a1 b1 c1 d1 e1 f1 a2 b2 c2 d2 e2 f2) (max a1 a2) ==
                                      cmR (okC a1 b1 c1 d1 e1 f1 a2 b2 c2 d2 e2 f2) (max a1 a2) &&
                                    (cmR (isO a1 b1 c1 d1 e1 f1 a2 b2 c2 d2 e2 f2) (max b1 b2) ==
                                        cmR (okC a1 b1 c1 d1 e1 f1 a2 b2 c2 d2 e2 f2) (max b1 b2) &&
                                      (cmR (isO a1 b1 c1 d1 e1 f1 a2 b2 c2 d2 e2 f2) (max c1 c2) ==
                                          cmR (okC a1 b1 c1 d1 e1 f1 a2 b2 c2 d2 e2 f2) (max c1 c2) &&
                                        (cmR (isO a1 b1 c1 d1 e1 f1 a2 b2 c2 d2 e2 f2) (min d1 d2) ==
                                            cmR (okC a1 b1 c1 d1 e1 f1 a2 b2 c2 d2 e2 f2) (min d1 d2) &&
                                          (cmR (isO a1 b1 c1 d1 e1 f1 a2 b2 c2 d2 e2 f2) (min e1 e2) ==
                                              cmR (okC a1 b1 c1 d1 e1 f1 a2 b2 c2 d2 e2 f2) (min e1 e2) &&
                                            (cmR (isO a1 b1 c1 d1 e1 f1 a2 b2 c2 d2 e2 f2) (min f1 f2) ==
                                                cmR (okC a1 b1 c1 d1 e1 f1 a2 b2 c2 d2 e2 f2) (min f1 f2) &&
                                              true)))))))
                              (VT.done [false = true])
                              (VT.need
                                [okC a1 b1 c1 d1 e1 f1 a2 b2 c2 d2 e2 f2 = true →
                                    okC a1 b1 c1 d1 e1 f1 a2 b2 c2 d2 e2 f2 = true,
                                  okC a1 b1 c1 d1 e1 f1 a2 b2 c2 d2 e2 f2 = true →
                                    okC a1 b1 c1 d1 e1 f1 a2 b2 c2 d2 e2 f2 = true,
                                  (!if okC a1 b1 c1 d1 e1 f1 a2 b2 c2 d2 e2 f2 = true then
                                          erC a1 b1 c1 d1 e1 f1 a2 b2 c2 d2 e2 f2 == (0 : Int)
                                        else false) =
                                      true →
                                    (!if okC a1 b1 c1 d1 e1 f1 a2 b2 c2 d2 e2 f2 = true then
                                          erC a1 b1 c1 d1 e1 f1 a2 b2 c2 d2 e2 f2 == (0 : Int)
                                        else false) =
                                      true,
                                  (!if okC a1 b1 c1 d1 e1 f1 a2 b2 c2 d2 e2 f2 = true then
                                          erC a1 b1 c1 d1 e1 f1 a2 b2 c2 d2 e2 f2 == (0 : Int)
                                        else false) =
                                      true →
                                    (!if okC a1 b1 c1 d1 e1 f1 a2 b2 c2 d2 e2 f2 = true then
                                          erC a1 b1 c1 d1 e1 f1 a2 b2 c2 d2 e2 f2 == (0 : Int)
                                        else false) =
                                      true,
                                  ((!if okC a1 b1 c1 d1 e1 f1 a2 b2 c2 d2 e2 f2 = true then
                                            erC a1 b1 c1 d1 e1 f1 a2 b2 c2 d2 e2 f2 == (0 : Int)
                                          else false) &&
                                        !okC a1 b1 c1 d1 e1 f1 a2 b2 c2 d2 e2 f2) =
                                      true →
                                    ((!if okC a1 b1 c1 d1 e1 f1 a2 b2 c2 d2 e2 f2 = true then
                                            erC a1 b1 c1 d1 e1 f1 a2 b2 c2 d2 e2 f2 == (0 : Int)
                                          else false) &&
                                        !okC a1 b1 c1 d1 e1 f1 a2 b2 c2 d2 e2 f2) =
                                      true,
                                  (!if okC a1 b1 c1 d1 e1 f1 a2 b2 c2 d2 e2 f2 = true then
                                          erC a1 b1 c1 d1 e1 f1 a2 b2 c2 d2 e2 f2 == (0 : Int)
                                        else false) =
                                      true →
                                    (!if okC a1 b1 c1 d1 e1 f1 a2 b2 c2 d2 e2 f2 = true then
                                          erC a1 b1 c1 d1 e1 f1 a2 b2 c2 d2 e2 f2 == (0 : Int)
                                        else false) =
                                      true,
                                  (!if okC a1 b1 c1 d1 e1 f1 a2 b2 c2 d2 e2 f2 = true then
                                          erC a1 b1 c1 d1 e1 f1 a2 b2 c2 d2 e2 f2 == (0 : Int)
                                        else false) =
                                      true →
                                    (!okC a1 b1 c1 d1 e1 f1 a2 b2 c2 d2 e2 f2) = true →
                                      ((!if okC a1 b1 c1 d1 e1 f1 a2 b2 c2 d2 e2 f2 = true then
                                              erC a1 b1 c1 d1 e1 f1 a2 b2 c2 d2 e2 f2 == (0 : Int)
                                            else false) &&
                                          !okC a1 b1 c1 d1 e1 f1 a2 b2 c2 d2 e2 f2) =
                                        true,
                                  (if okC a1 b1 c1 d1 e1 f1 a2 b2 c2 d2 e2 f2 = true then
                                        erC a1 b1 c1 d1 e1 f1 a2 b2 c2 d2 e2 f2 == (0 : Int)
                                      else false) =
                                      false →
                                    (!if okC a1 b1 c1 d1 e1 f1 a2 b2 c2 d2 e2 f2 = true then
                                          erC a1 b1 c1 d1 e1 f1 a2 b2 c2 d2 e2 f2 == (0 : Int)
                                        else false) =
                                      true]
                                (VT.done
                                  [(if
                                          (if okC a1 b1 c1 d1 e1 f1 a2 b2 c2 d2 e2 f2 = true then
                                              erC a1 b1 c1 d1 e1 f1 a2 b2 c2 d2 e2 f2 == (0 : Int)
                                            else false) =
                                            true then
                                        true
                                      else
                                        if (!okC a1 b1 c1 d1 e1 f1 a2 b2 c2 d2 e2 f2) = true then
                                          erC a1 b1 c1 d1 e1 f1 a2 b2 c2 d2 e2 f2 == (27 : Int)
                                        else false) =
                                      true])))))))))))))) (by kernel_rfl) ?_
  simp only [VT.holds, AllT, imp_self, implies_true, and_true, true_and, toNat_succ, toNat_add2, toNat_zero', Int.toNat_natCast, Bool.if_true_left, Bool.if_false_right, Bool.decide_eq_true, Bool.or_eq_true, Bool.or_eq_false_iff, Bool.and_eq_true, Bool.and_eq_false_imp, Bool.not_eq_true', Bool.not_eq_false', Bool.not_not, bne_iff_ne, bne_eq_false_iff_eq, beq_iff_eq, beq_eq_false_iff_ne, decide_eq_true_eq, decide_eq_false_iff_not, ne_eq]
  refine ⟨awake_c, by simp, fun _ => ⟨overlap_c a1 b1 c1 d1 e1 f1 a2 b2 c2 d2 e2 f2, commonTop_c a1 b1 c1 d1 e1 f1 a2 b2 c2 d2 e2 f2, checkBoxR_c a1 b1 c1 d1 e1 f1, checkBox_c a1 b1 c1 d1 e1 f1, fun h => by simp at h, fun _ => ⟨fun h => ⟨checkBoxR_c a2 b2 c2 d2 e2 f2, fun hb => ?_, fun hb => ⟨commonR_c a1 b1 c1 d1 e1 f1 a2 b2 c2 d2 e2 f2, ?_⟩⟩, fun h => ⟨fun _ => ?_, fun hx => absurd hx h⟩⟩⟩⟩
  · have he : erB a1 b1 c1 d1 e1 f1 a2 b2 c2 d2 e2 f2 = ckB a2 b2 c2 d2 e2 f2 := by rw [erB, if_neg (fun hx => hx h)]
    have hi : isO a1 b1 c1 d1 e1 f1 a2 b2 c2 d2 e2 f2 = false := by rw [isO, he, decide_eq_false hb, Bool.false_and]
    have hc : erC a1 b1 c1 d1 e1 f1 a2 b2 c2 d2 e2 f2 = ckB a2 b2 c2 d2 e2 f2 := by rw [erC, he, if_pos hb]
    rw [he, hi, hc]
    simp [cmR]
  · have he : erB a1 b1 c1 d1 e1 f1 a2 b2 c2 d2 e2 f2 = 0 := by rw [erB, if_neg (fun hx => hx h), hb]
    have hi : isO a1 b1 c1 d1 e1 f1 a2 b2 c2 d2 e2 f2 = okC a1 b1 c1 d1 e1 f1 a2 b2 c2 d2 e2 f2 := by rw [isO, he]; simp
    have hc : erC a1 b1 c1 d1 e1 f1 a2 b2 c2 d2 e2 f2 = if okC a1 b1 c1 d1 e1 f1 a2 b2 c2 d2 e2 f2 = true then 0 else 27 := by rw [erC, he, if_neg (by simp)]
    rw [he, hi, hc]
    cases okC a1 b1 c1 d1 e1 f1 a2 b2 c2 d2 e2 f2 <;> simp
  · have he : erB a1 b1 c1 d1 e1 f1 a2 b2 c2 d2 e2 f2 = ckB a1 b1 c1 d1 e1 f1 := by rw [erB, if_pos h]
    have hi : isO a1 b1 c1 d1 e1 f1 a2 b2 c2 d2 e2 f2 = false := by rw [isO, he, decide_eq_false h, Bool.false_and]
    have hc : erC a1 b1 c1 d1 e1 f1 a2 b2 c2 d2 e2 f2 = ckB a1 b1 c1 d1 e1 f1 := by rw [erC, he, if_pos h]
    rw [he, hi, hc]
    simp [cmR]
end Go.Abs
