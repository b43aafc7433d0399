/- Contracts. -/
import Derived.Test.YtpllaeomcjplnaaL6
set_option linter.unusedVariables false
set_option linter.unusedSimpArgs false
set_option maxRecDepth 100000
namespace Go.Abs
open Go
def sameN (n : Nat) (A : Nat → Int) (m : Nat) (B : Nat → Int) : Bool := decide (n = m ∧ ∀ k, k < n → A k = B k)
def rUnitR : Orc := .res fun l => dI (unitR (gB l) (gBf l) (gOf l) (gB l + gO l))
abbrev partsR (nB : Nat) (B : Nat → Int) (nO : Nat) (O : Nat → Int) : DV := .lst (nB + nO) [fun i => .val (.int .i64 (rLen nB B O i)), fun i => .val (.int .i64 (rCode nB i))]
def rPartsR : Orc := .res fun l => partsR (gB l) (gBf l) (gO l) (gOf l)
def allF (nB : Nat) (B O : Nat → Int) (i : Nat) : Int := if i < nB then B i else O (i - nB)
def rRise : Orc := .res fun l => dB (rise (aN l) (aX l))
theorem unitR_succ (nB : Nat) (B : Nat → Int) (O : Nat → Int) (i : Nat) : Int.gcd (unitR nB B O i) (rLen nB B O i) = unitR nB B O (i + 1) := by
  rw [unitR, unitR, range_snoc, gcdL_snoc]
theorem unitR_bd {nB : Nat} {B : Nat → Int} {nO : Nat} {O : Nat → Int} (h1 : 1 ≤ nB) (hB : ∀ k, k < nB → 1 ≤ B k ∧ B k ≤ 10000) (hO : ∀ k, k < nO → 1 ≤ O k ∧ O k ≤ 10000) : 1 ≤ unitR nB B O (nB + nO) ∧ unitR nB B O (nB + nO) ≤ 10000 := by
  rw [← unit_eq]; exact unitP_bd h1 hB hO
def lenR (nB : Nat) (B : Nat → Int) (nO : Nat) (O : Nat → Int) (len : Int) : Int := if len < 0 then 2 else if len > 4000 * (unitR nB B O (nB + nO) : Int) then 8 else 0
def waysRS (nB : Nat) (B : Nat → Int) (nO : Nat) (O : Nat → Int) (len : Int) : Nat := wpX (unitR nB B O (nB + nO)) (rLen nB B O) (nB + nO) (len / (unitR nB B O (nB + nO) : Int)).toNat
def tabRS (nB : Nat) (B : Nat → Int) (nO : Nat) (O : Nat → Int) : Nat → Int := tabL (plX (unitR nB B O (nB + nO)) (rLen nB B O) (rCode nB) (nB + nO))
def rTabR : Orc := .res fun l => .lst (aI l 1 / (unitR (gB l) (gBf l) (gOf l) (gB l + gO l) : Int) + 1).toNat [fun k => .val (.int .i64 (tabRS (gB l) (gBf l) (gO l) (gOf l) k))]
theorem anyBad_app (nB : Nat) (B : Nat → Int) (nO : Nat) (O : Nat → Int) : anyBad (nB + nO) (allF nB B O) = true ↔ anyBad nB B = true ∨ anyBad nO O = true := by
  unfold anyBad
  simp only [anyN_true]
  constructor
  · rintro ⟨k, hk, h⟩
    unfold allF at h
    split at h
    · exact .inl ⟨k, by omega, h⟩
    · exact .inr ⟨k - nB, by omega, h⟩
  · rintro (⟨k, hk, h⟩ | ⟨k, hk, h⟩)
    · refine ⟨k, by omega, ?_⟩
      unfold allF; rw [if_pos hk]; exact h
    · refine ⟨nB + k, by omega, ?_⟩
      unfold allF; rw [if_neg (by omega), Nat.add_sub_cancel_left]; exact h
noncomputable def A21_ints_c (n : Nat) (A : Nat → Int) (m : Nat) (B : Nat → Int) : Ann := { orc := [], loops := [(0, { ι := Nat, keep := [0, 1], boxes := [], ts := fun _ i => [(5, dI (i : Int))], inv := fun _ i => i ≤ n ∧ ∀ j, j < i → A j = B j, mu := fun _ i => n - i, rd := fun _ σ => (iOf (σ.get 5)).toNat })], cuts := [] }
theorem ints_c (n : Nat) (A : Nat → Int) (m : Nat) (B : Nat → Int) (hn : n ≤ 1000000000) : FnC prog 21 [nums n A, nums m B] (dB (sameN n A m B)) := by
  refine FnC_owed hmix (A21_ints_c n A m B) (V := VT.ite ((↑n : Int) != (↑m : Int)) (VT.done [false = sameN n A m B])
        (VT.loop Nat (fun (a : Nat) => a ≤ n ∧ ∀ (j : Nat), j < a → A j = B j) (Int.toNat (0 : Int))
          [(0 : Int) = (↑(Int.toNat (0 : Int)) : Int), n = n, ∀ (i : Nat), i < n → A i = A i, m = m,
            ∀ (i : Nat), i < m → B i = B i]
          fun (i : Nat) =>
          VT.ite (decide ((↑i : Int) < (↑n : Int)))
            (VT.need [(0 : Int) ≤ (↑i : Int) ∧ (↑i : Int) < (↑n : Int), (0 : Int) ≤ (↑i : Int) ∧ (↑i : Int) < (↑m : Int)]
              (VT.ite (A (Int.toNat (↑i : Int)) != B (Int.toNat (↑i : Int))) (VT.done [false = sameN n A m B])
                (VT.need [i64In ((↑i : Int) + (1 : Int))]
                  (VT.done
                    [(↑i : Int) + (1 : Int) = (↑(Int.toNat ((↑i : Int) + (1 : Int))) : Int), n = n,
                      ∀ (i : Nat), i < n → A i = A i, m = m, ∀ (i : Nat), i < m → B i = B i,
                      Int.toNat ((↑i : Int) + (1 : Int)) ≤ n ∧
                        ∀ (j : Nat), j < Int.toNat ((↑i : Int) + (1 : Int)) → A j = B j,
                      n - Int.toNat ((↑i : Int) + (1 : Int)) < n - i]))))
            (VT.done [true = sameN n A m B]))) (by kernel_rfl) ?_
  simp only [VT.holds, AllT, imp_self, implies_true, and_true, true_and, toNat_succ, toNat_add2, toNat_zero', Int.toNat_natCast, Bool.if_true_left, Bool.if_false_right, Bool.decide_eq_true, Bool.or_eq_true, Bool.or_eq_false_iff, Bool.and_eq_true, Bool.and_eq_false_imp, Bool.not_eq_true', Bool.not_eq_false', Bool.not_not, bne_iff_ne, bne_eq_false_iff_eq, beq_iff_eq, beq_eq_false_iff_ne, decide_eq_true_eq, decide_eq_false_iff_not, ne_eq]
  refine ⟨fun h => ?_, fun h => ⟨rfl, ⟨by omega, fun j hj => (by omega)⟩, fun i ⟨hi, hb⟩ => ⟨fun hlt => ⟨⟨by omega, by omega, by omega⟩, fun hne => ?_, fun he => ⟨by unfold i64In; omega, rfl, ⟨by omega, fun j hj => ?_⟩, by omega⟩⟩, fun hge => ?_⟩⟩⟩
  · unfold sameN
    rw [eq_comm, decide_eq_false_iff_not]
    intro hx; omega
  · unfold sameN
    rw [eq_comm, decide_eq_false_iff_not]
    intro hx; exact hne (hx.2 i (by omega))
  · by_cases e : j = i
    · subst e; exact he
    · exact hb j (by omega)
  · unfold sameN
    rw [eq_comm, decide_eq_true_eq]
    exact ⟨by omega, fun j hj => hb j (by omega)⟩
noncomputable def A46_abs_c (n : Int) : Ann := { orc := [], loops := [], cuts := [] }
theorem abs_c (n : Int) (hn : 0 ≤ n) : FnC prog 46 [dI n] (dI n) := by
  refine FnC_owed hmix (A46_abs_c n) (V := VT.ite (decide (n < (0 : Int))) (VT.need [i64In (-n)] (VT.done [-n = n])) (VT.done [n = n])) (by kernel_rfl) ?_
  simp only [VT.holds, AllT, imp_self, implies_true, and_true, true_and, toNat_succ, toNat_add2, toNat_zero', Int.toNat_natCast, Bool.if_true_left, Bool.if_false_right, Bool.decide_eq_true, Bool.or_eq_true, Bool.or_eq_false_iff, Bool.and_eq_true, Bool.and_eq_false_imp, Bool.not_eq_true', Bool.not_eq_false', Bool.not_not, bne_iff_ne, bne_eq_false_iff_eq, beq_iff_eq, beq_eq_false_iff_ne, decide_eq_true_eq, decide_eq_false_iff_not, ne_eq]
  exact fun h => absurd h (by omega)
noncomputable def A36_gcdR_c (a b : Int) : Ann := { orc := [(2, [(3, .pos)]), (3, [(1, .res fun l => dI (aI l 0))])], loops := [(0, { ι := Int × Int, keep := [], boxes := [], ts := fun _ i => [(0, dI i.1), (1, dI i.2)], inv := fun _ i => 0 ≤ i.1 ∧ 0 ≤ i.2 ∧ Int.gcd i.1 i.2 = Int.gcd a b, mu := fun _ i => i.2.toNat, rd := fun _ σ => (iOf (σ.get 0), iOf (σ.get 1)) })], cuts := [] }
theorem gcdR_c (a b : Int) (h1 : 0 ≤ a) (h2 : 0 ≤ b) : FnC prog 36 [dI a, dI b] (dI (Int.gcd a b)) := by
  refine FnC_owed hmix (A36_gcdR_c a b) (V := VT.loop (Int × Int)
        (fun (a_1 : Int × Int) => (0 : Int) ≤ a_1.fst ∧ (0 : Int) ≤ a_1.snd ∧ Int.gcd a_1.fst a_1.snd = Int.gcd a b) (a, b)
        [a = a, b = b] fun (i : Int × Int) =>
        VT.ite (i.snd != (0 : Int))
          (VT.need [(0 : Int) ≤ i.fst ∧ (0 : Int) < i.snd]
            (VT.done
              [i.snd = i.snd, i.fst % i.snd = i.fst % i.snd,
                (0 : Int) ≤ i.snd ∧ (0 : Int) ≤ i.fst % i.snd ∧ Int.gcd i.snd (i.fst % i.snd) = Int.gcd a b,
                Int.toNat (i.fst % i.snd) < Int.toNat i.snd]))
          (VT.need [FnC prog (46 : Nat) [DV.val (Value.int IntKind.i64 i.fst)] (DV.val (Value.int IntKind.i64 i.fst))]
            (VT.done [i.fst = (↑(Int.gcd a b) : Int)]))) (by kernel_rfl) ?_
  simp only [VT.holds, AllT, imp_self, implies_true, and_true, true_and, toNat_succ, toNat_add2, toNat_zero', Int.toNat_natCast, Bool.if_true_left, Bool.if_false_right, Bool.decide_eq_true, Bool.or_eq_true, Bool.or_eq_false_iff, Bool.and_eq_true, Bool.and_eq_false_imp, Bool.not_eq_true', Bool.not_eq_false', Bool.not_not, bne_iff_ne, bne_eq_false_iff_eq, beq_iff_eq, beq_eq_false_iff_ne, decide_eq_true_eq, decide_eq_false_iff_not, ne_eq]
  refine ⟨⟨h1, h2⟩, fun i ⟨h1, h2, h3⟩ => ⟨fun hne => ⟨⟨h1, by omega⟩, ⟨h2, Int.emod_nonneg _ hne, ?_⟩, ?_⟩, fun he => ⟨abs_c _ h1, ?_⟩⟩⟩
  · rw [← h3, gcd_emod]
  · have := Int.emod_lt_of_pos i.1 (show 0 < i.2 by omega)
    have := Int.emod_nonneg i.1 hne
    omega
  · rw [← h3, he, Int.gcd_zero_right]
    omega
noncomputable def A27_unitR_c (nB : Nat) (B : Nat → Int) (nO : Nat) (O : Nat → Int) (W G L : Int) : Ann := { orc := [(5, [(6, rGcd)]), (9, [(6, rGcd)])], loops := [(0, { ι := Nat, keep := [1], boxes := [1], ts := fun _ i => [(3, dI (unitR nB B O i)), (4, dI (i : Int))], inv := fun _ i => i ≤ nB, mu := fun _ i => nB - i, rd := fun _ σ => (iOf (σ.get 4)).toNat }),
  (2, { ι := Nat, keep := [1], boxes := [1], ts := fun _ i => [(3, dI (unitR nB B O (nB + i))), (5, dI (i : Int))], inv := fun _ i => i ≤ nO, mu := fun _ i => nO - i, rd := fun _ σ => (iOf (σ.get 5)).toNat })], cuts := [] }
theorem unitR_c (nB : Nat) (B : Nat → Int) (nO : Nat) (O : Nat → Int) (W G L : Int) (h2 : nB ≤ 8) (h3 : nO ≤ 8) (hB : ∀ k, k < nB → 1 ≤ B k ∧ B k ≤ 10000) (hO : ∀ k, k < nO → 1 ≤ O k ∧ O k ≤ 10000) : FnC prog 27 [sys nB B nO O W G L] (dI (unitR nB B O (nB + nO))) := by
  refine FnC_owed hmix (A27_unitR_c nB B nO O W G L) (V := VT.loop Nat (fun (a : Nat) => a ≤ nB) (Int.toNat (0 : Int))
        [(0 : Int) = (↑(unitR nB B O (Int.toNat (0 : Int))) : Int), (0 : Int) = (↑(Int.toNat (0 : Int)) : Int), nB = nB,
          ∀ (i : Nat), i < nB → B i = B i, nO = nO, ∀ (i : Nat), i < nO → O i = O i, W = W, G = G, L = L]
        fun (i : Nat) =>
        VT.ite (decide ((↑i : Int) < (↑nB : Int)))
          (VT.need
            [(0 : Int) ≤ (↑i : Int) ∧ (↑i : Int) < (↑nB : Int),
              FnC prog (36 : Nat)
                [DV.val (Value.int IntKind.i64 (↑(unitR nB B O i) : Int)),
                  DV.val (Value.int IntKind.i64 (B (Int.toNat (↑i : Int))))]
                (DV.val (Value.int IntKind.i64 (↑(Int.gcd (↑(unitR nB B O i) : Int) (B (Int.toNat (↑i : Int)))) : Int)))]
            (VT.need [i64In ((↑i : Int) + (1 : Int))]
              (VT.done
                [(↑(Int.gcd (↑(unitR nB B O i) : Int) (B (Int.toNat (↑i : Int)))) : Int) =
                    (↑(unitR nB B O (Int.toNat ((↑i : Int) + (1 : Int)))) : Int),
                  (↑i : Int) + (1 : Int) = (↑(Int.toNat ((↑i : Int) + (1 : Int))) : Int), nB = nB,
                  ∀ (i : Nat), i < nB → B i = B i, nO = nO, ∀ (i : Nat), i < nO → O i = O i, W = W, G = G, L = L,
                  Int.toNat ((↑i : Int) + (1 : Int)) ≤ nB, nB - Int.toNat ((↑i : Int) + (1 : Int)) < nB - i])))
          (VT.loop Nat (fun (a : Nat) => a ≤ nO) (Int.toNat (0 : Int))
            [(↑(unitR nB B O i) : Int) = (↑(unitR nB B O (nB + Int.toNat (0 : Int))) : Int),
              (0 : Int) = (↑(Int.toNat (0 : Int)) : Int), nB = nB, ∀ (i : Nat), i < nB → B i = B i, nO = nO,
              ∀ (i : Nat), i < nO → O i = O i, W = W, G = G, L = L]
            fun (i : Nat) =>
            VT.ite (decide ((↑i : Int) < (↑nO : Int)))
              (VT.need
                [(0 : Int) ≤ (↑i : Int) ∧ (↑i : Int) < (↑nO : Int),
                  FnC prog (36 : Nat)
                    [DV.val (Value.int IntKind.i64 (↑(unitR nB B O (nB + i)) : Int)),
                      DV.val (Value.int IntKind.i64 (O (Int.toNat (↑i : Int))))]
                    (DV.val
                      (Value.int IntKind.i64
                        (↑(Int.gcd (↑(unitR nB B O (nB + i)) : Int) (O (Int.toNat (↑i : Int)))) : Int)))]
                (VT.need [i64In ((↑i : Int) + (1 : Int))]
                  (VT.done
                    [(↑(Int.gcd (↑(unitR nB B O (nB + i)) : Int) (O (Int.toNat (↑i : Int)))) : Int) =
                        (↑(unitR nB B O (nB + Int.toNat ((↑i : Int) + (1 : Int)))) : Int),
                      (↑i : Int) + (1 : Int) = (↑(Int.toNat ((↑i : Int) + (1 : Int))) : Int), nB = nB,
                      ∀ (i : Nat), i < nB → B i = B i, nO = nO, ∀ (i : Nat), i < nO → O i = O i, W = W, G = G, L = L,
                      Int.toNat ((↑i : Int) + (1 : Int)) ≤ nO, nO - Int.toNat ((↑i : Int) + (1 : Int)) < nO - i])))
              (VT.done [(↑(unitR nB B O (nB + i)) : Int) = (↑(unitR nB B O (nB + nO)) : Int)]))) (by kernel_rfl) ?_
  simp only [VT.holds, AllT, imp_self, implies_true, and_true, true_and, toNat_succ, toNat_add2, toNat_zero', Int.toNat_natCast, Bool.if_true_left, Bool.if_false_right, Bool.decide_eq_true, Bool.or_eq_true, Bool.or_eq_false_iff, Bool.and_eq_true, Bool.and_eq_false_imp, Bool.not_eq_true', Bool.not_eq_false', Bool.not_not, bne_iff_ne, bne_eq_false_iff_eq, beq_iff_eq, beq_eq_false_iff_ne, decide_eq_true_eq, decide_eq_false_iff_not, ne_eq]
  refine ⟨⟨rfl, rfl⟩, Nat.zero_le _, fun i hi => ⟨fun hlt => ⟨⟨⟨by omega, by omega⟩, gcdR_c _ _ (by omega) (by have := hB i (by omega); omega)⟩, by unfold i64In; omega, ?_, rfl, by omega, by omega⟩, fun hge => ⟨⟨by rw [show i = nB + 0 by omega], rfl⟩, Nat.zero_le _, fun i hi => ⟨fun hlt => ⟨⟨⟨by omega, by omega⟩, gcdR_c _ _ (by omega) (by have := hO i (by omega); omega)⟩, by unfold i64In; omega, ?_, rfl, by omega, by omega⟩, fun hge => by rw [show i = nO by omega]⟩⟩⟩⟩
  · rw [← unitR_succ, rLen, if_pos (by omega)]
  · rw [show nB + (i + 1) = nB + i + 1 by omega, ← unitR_succ, rLen, if_neg (by omega), Nat.add_sub_cancel_left]
noncomputable def A37_partsR_c (nB : Nat) (B : Nat → Int) (nO : Nat) (O : Nat → Int) (W G L : Int) : Ann := { orc := [], loops := [(0, { ι := Nat, keep := [1], boxes := [1], ts := fun _ i => [(4, dI (i : Int))], rw := fun _ i => [(3, 2, i, [fun i => .val (.int .i64 (rLen nB B O i)), fun i => .val (.int .i64 (rCode nB i))])], inv := fun _ i => i ≤ nB, mu := fun _ i => nB - i, rd := fun _ σ => (iOf (σ.get 4)).toNat }),
  (2, { ι := Nat, keep := [1], boxes := [1], ts := fun _ i => [(6, dI (i : Int))], rw := fun _ i => [(3, 2, nB + i, [fun i => .val (.int .i64 (rLen nB B O i)), fun i => .val (.int .i64 (rCode nB i))])], inv := fun _ i => i ≤ nO, mu := fun _ i => nO - i, rd := fun _ σ => (iOf (σ.get 6)).toNat })], cuts := [] }
theorem partsR_c (nB : Nat) (B : Nat → Int) (nO : Nat) (O : Nat → Int) (W G L : Int) (h2 : nB ≤ 8) (h3 : nO ≤ 8) : FnC prog 37 [sys nB B nO O W G L] (partsR nB B nO O) := by
  refine FnC_owed hmix (A37_partsR_c nB B nO O W G L) (V := VT.loop Nat (fun (a : Nat) => a ≤ nB) (Int.toNat (0 : Int))
        [(0 : Int) = (↑(Int.toNat (0 : Int)) : Int), (0 : Nat) = (0 : Nat), Int.toNat (0 : Int) = (0 : Nat),
          Int.toNat (0 : Int) = (0 : Nat), nB = nB, ∀ (i : Nat), i < nB → B i = B i, nO = nO,
          ∀ (i : Nat), i < nO → O i = O i, W = W, G = G, L = L]
        fun (i : Nat) =>
        VT.ite (decide ((↑i : Int) < (↑nB : Int)))
          (VT.need [i64In ((↑nB : Int) - (1 : Int))]
            (VT.ite ((↑i : Int) == (↑nB : Int) - (1 : Int))
              (VT.need
                [(0 : Int) ≤ (↑i : Int) ∧ (↑i : Int) < (↑nB : Int), i ≤ i,
                  (i + (1 : Nat)) * (nat_lit 15 + (1 : Nat)) ≤ (140737488355328 : Nat), (1 : Nat) ≤ (1 : Nat)]
                (VT.need [i64In ((↑i : Int) + (1 : Int))]
                  (VT.done
                    [(↑i : Int) + (1 : Int) = (↑(Int.toNat ((↑i : Int) + (1 : Int))) : Int), (0 : Nat) = (0 : Nat),
                      i + (1 : Nat) = Int.toNat ((↑i : Int) + (1 : Int)),
                      i + (1 : Nat) = Int.toNat ((↑i : Int) + (1 : Int)),
                      ∀ (i_1 : Nat),
                        i_1 < Int.toNat ((↑i : Int) + (1 : Int)) →
                          (if decide (i_1 < i) = true then rLen nB B O i_1 else B (Int.toNat (↑i : Int))) = rLen nB B O i_1,
                      ∀ (i_1 : Nat),
                        i_1 < Int.toNat ((↑i : Int) + (1 : Int)) →
                          (if decide (i_1 < i) = true then rCode nB i_1 else (1 : Int)) = rCode nB i_1,
                      nB = nB, ∀ (i : Nat), i < nB → B i = B i, nO = nO, ∀ (i : Nat), i < nO → O i = O i, W = W, G = G,
                      L = L, Int.toNat ((↑i : Int) + (1 : Int)) ≤ nB, nB - Int.toNat ((↑i : Int) + (1 : Int)) < nB - i])))
              (VT.need
                [(0 : Int) ≤ (↑i : Int) ∧ (↑i : Int) < (↑nB : Int), i ≤ i,
                  (i + (1 : Nat)) * (nat_lit 15 + (1 : Nat)) ≤ (140737488355328 : Nat), (1 : Nat) ≤ (1 : Nat)]
                (VT.need [i64In ((↑i : Int) + (1 : Int))]
                  (VT.done
                    [(↑i : Int) + (1 : Int) = (↑(Int.toNat ((↑i : Int) + (1 : Int))) : Int), (0 : Nat) = (0 : Nat),
                      i + (1 : Nat) = Int.toNat ((↑i : Int) + (1 : Int)),
                      i + (1 : Nat) = Int.toNat ((↑i : Int) + (1 : Int)),
                      ∀ (i_1 : Nat),
                        i_1 < Int.toNat ((↑i : Int) + (1 : Int)) →
                          (if decide (i_1 < i) = true then rLen nB B O i_1 else B (Int.toNat (↑i : Int))) = rLen nB B O i_1,
                      ∀ (i_1 : Nat),
                        i_1 < Int.toNat ((↑i : Int) + (1 : Int)) →
                          (if decide (i_1 < i) = true then rCode nB i_1 else (10001 : Int)) = rCode nB i_1,
                      nB = nB, ∀ (i : Nat), i < nB → B i = B i, nO = nO, ∀ (i : Nat), i < nO → O i = O i, W = W, G = G,
                      L = L, Int.toNat ((↑i : Int) + (1 : Int)) ≤ nB, nB - Int.toNat ((↑i : Int) + (1 : Int)) < nB - i])))))
          (VT.loop Nat (fun (a : Nat) => a ≤ nO) (Int.toNat (0 : Int))
            [(0 : Int) = (↑(Int.toNat (0 : Int)) : Int), (0 : Nat) = (0 : Nat), i = nB + Int.toNat (0 : Int),
              i = nB + Int.toNat (0 : Int), ∀ (i : Nat), i < nB + Int.toNat (0 : Int) → rLen nB B O i = rLen nB B O i,
              ∀ (i : Nat), i < nB + Int.toNat (0 : Int) → rCode nB i = rCode nB i, nB = nB, ∀ (i : Nat), i < nB → B i = B i,
              nO = nO, ∀ (i : Nat), i < nO → O i = O i, W = W, G = G, L = L]
            fun (i : Nat) =>
            VT.ite (decide ((↑i : Int) < (↑nO : Int)))
              (VT.need
                [(0 : Int) ≤ (↑i : Int) ∧ (↑i : Int) < (↑nO : Int), nB + i ≤ nB + i,
                  (nB + i + (1 : Nat)) * (nat_lit 15 + (1 : Nat)) ≤ (140737488355328 : Nat), (1 : Nat) ≤ (1 : Nat)]
                (VT.need [i64In ((↑i : Int) + (1 : Int))]
                  (VT.done
                    [(↑i : Int) + (1 : Int) = (↑(Int.toNat ((↑i : Int) + (1 : Int))) : Int), (0 : Nat) = (0 : Nat),
                      nB + i + (1 : Nat) = nB + Int.toNat ((↑i : Int) + (1 : Int)),
                      nB + i + (1 : Nat) = nB + Int.toNat ((↑i : Int) + (1 : Int)),
                      ∀ (i_1 : Nat),
                        i_1 < nB + Int.toNat ((↑i : Int) + (1 : Int)) →
                          (if decide (i_1 < nB + i) = true then rLen nB B O i_1 else O (Int.toNat (↑i : Int))) =
                            rLen nB B O i_1,
                      ∀ (i_1 : Nat),
                        i_1 < nB + Int.toNat ((↑i : Int) + (1 : Int)) →
                          (if decide (i_1 < nB + i) = true then rCode nB i_1 else (10000 : Int)) = rCode nB i_1,
                      nB = nB, ∀ (i : Nat), i < nB → B i = B i, nO = nO, ∀ (i : Nat), i < nO → O i = O i, W = W, G = G,
                      L = L, Int.toNat ((↑i : Int) + (1 : Int)) ≤ nO, nO - Int.toNat ((↑i : Int) + (1 : Int)) < nO - i])))
              (VT.done
                [nB + i ≤ nB + i, nB + i = nB + nO, ∀ (i : Nat), i < nB + nO → rLen nB B O i = rLen nB B O i,
                  ∀ (i : Nat), i < nB + nO → rCode nB i = rCode nB i]))) (by kernel_rfl) ?_
  simp only [VT.holds, AllT, imp_self, implies_true, and_true, true_and, toNat_succ, toNat_add2, toNat_zero', Int.toNat_natCast, Bool.if_true_left, Bool.if_false_right, Bool.decide_eq_true, Bool.or_eq_true, Bool.or_eq_false_iff, Bool.and_eq_true, Bool.and_eq_false_imp, Bool.not_eq_true', Bool.not_eq_false', Bool.not_not, bne_iff_ne, bne_eq_false_iff_eq, beq_iff_eq, beq_eq_false_iff_ne, decide_eq_true_eq, decide_eq_false_iff_not, ne_eq]
  have e1 : ∀ i, i < nB → ∀ j, j < i + 1 → (if j < i then rLen nB B O j else B i) = rLen nB B O j := fun i hi j hj => by
    by_cases h : j < i
    · rw [if_pos h]
    · rw [if_neg h, show j = i by omega, rLen, if_pos hi]
  refine ⟨rfl, Nat.zero_le _, fun i hi => ⟨fun hlt => ⟨by unfold i64In; omega, fun he => ⟨⟨⟨by omega, by omega⟩, Nat.le_refl _, by omega, Nat.le_refl _⟩, by unfold i64In; omega, rfl, e1 i (by omega), fun j hj => ?_, by omega, by omega⟩, fun he => ⟨⟨⟨by omega, by omega⟩, Nat.le_refl _, by omega, Nat.le_refl _⟩, by unfold i64In; omega, rfl, e1 i (by omega), fun j hj => ?_, by omega, by omega⟩⟩, fun hge => ⟨⟨rfl, by omega, by omega⟩, Nat.zero_le _, fun i hi => ⟨fun hlt => ⟨⟨⟨by omega, by omega⟩, Nat.le_refl _, by omega, Nat.le_refl _⟩, by unfold i64In; omega, rfl, by omega, by omega, fun j hj => ?_, fun j hj => ?_, by omega, by omega⟩, fun hge => ⟨Nat.le_refl _, by omega⟩⟩⟩⟩⟩
  · by_cases h : j < i
    · rw [if_pos h]
    · rw [if_neg h, rCode, if_pos (by omega), if_pos (by omega)]
  · by_cases h : j < i
    · rw [if_pos h]
    · rw [if_neg h, rCode, if_pos (by omega), if_neg (by omega)]
  · by_cases h : j < nB + i
    · rw [if_pos h]
    · rw [if_neg h, rLen, if_neg (by omega), show j - nB = i by omega]
  · by_cases h : j < nB + i
    · rw [if_pos h]
    · rw [if_neg h, rCode, if_neg (by omega)]
noncomputable def A26_rising_c (n : Nat) (A : Nat → Int) : Ann := { orc := [], loops := [(0, { ι := Nat, keep := [0], boxes := [], ts := fun _ i => [(3, dI (i : Int))], inv := fun _ i => 1 ≤ i ∧ ∀ k, k < i → k < n → 0 < k → A (k - 1) < A k, mu := fun _ i => n - i, rd := fun _ σ => (iOf (σ.get 3)).toNat })], cuts := [] }
theorem rising_c (n : Nat) (A : Nat → Int) (hn : n ≤ 1000000) : FnC prog 26 [nums n A] (dB (rise n A)) := by
  refine FnC_owed hmix (A26_rising_c n A) (V := VT.loop Nat (fun (a : Nat) => (1 : Nat) ≤ a ∧ ∀ (k : Nat), k < a → k < n → (0 : Nat) < k → A (k - (1 : Nat)) < A k)
        (Int.toNat (1 : Int)) [(1 : Int) = (↑(Int.toNat (1 : Int)) : Int), n = n, ∀ (i : Nat), i < n → A i = A i]
        fun (i : Nat) =>
        VT.ite (decide ((↑i : Int) < (↑n : Int)))
          (VT.need
            [(0 : Int) ≤ (↑i : Int) ∧ (↑i : Int) < (↑n : Int), i64In ((↑i : Int) - (1 : Int)),
              (0 : Int) ≤ (↑i : Int) - (1 : Int) ∧ (↑i : Int) - (1 : Int) < (↑n : Int)]
            (VT.ite (decide (A (Int.toNat (↑i : Int)) ≤ A (Int.toNat ((↑i : Int) - (1 : Int)))))
              (VT.done [false = rise n A])
              (VT.need [i64In ((↑i : Int) + (1 : Int))]
                (VT.done
                  [(↑i : Int) + (1 : Int) = (↑(Int.toNat ((↑i : Int) + (1 : Int))) : Int), n = n,
                    ∀ (i : Nat), i < n → A i = A i,
                    (1 : Nat) ≤ Int.toNat ((↑i : Int) + (1 : Int)) ∧
                      ∀ (k : Nat), k < Int.toNat ((↑i : Int) + (1 : Int)) → k < n → (0 : Nat) < k → A (k - (1 : Nat)) < A k,
                    n - Int.toNat ((↑i : Int) + (1 : Int)) < n - i]))))
          (VT.done [true = rise n A])) (by kernel_rfl) ?_
  simp only [VT.holds, AllT, imp_self, implies_true, and_true, true_and, toNat_succ, toNat_add2, toNat_zero', Int.toNat_natCast, Bool.if_true_left, Bool.if_false_right, Bool.decide_eq_true, Bool.or_eq_true, Bool.or_eq_false_iff, Bool.and_eq_true, Bool.and_eq_false_imp, Bool.not_eq_true', Bool.not_eq_false', Bool.not_not, bne_iff_ne, bne_eq_false_iff_eq, beq_iff_eq, beq_eq_false_iff_ne, decide_eq_true_eq, decide_eq_false_iff_not, ne_eq]
  refine ⟨rfl, ⟨Nat.le_refl _, fun k hk _ h0 => absurd hk (show ¬ k < 1 by omega)⟩, fun i ⟨hi, hb⟩ => ⟨fun hlt => ⟨⟨⟨by omega, by omega⟩, by unfold i64In; omega, by omega, by omega⟩, fun h => ?_, fun h => ⟨by unfold i64In; omega, rfl, ⟨by omega, fun k hk hn h0 => ?_⟩, by omega⟩⟩, fun hge => ?_⟩⟩
  · rw [rise, eq_comm, decide_eq_false_iff_not]
    intro hx
    have := hx i (by omega) (by omega)
    rw [show i - 1 = ((i : Int) - 1).toNat by omega] at this
    omega
  · by_cases e : k = i
    · rw [show ((i : Int) - 1).toNat = i - 1 by omega] at h
      rw [e]; omega
    · exact hb k (by omega) hn h0
  · rw [rise, eq_comm, decide_eq_true_eq]
    exact fun k hk h0 => hb k (by omega) hk h0
noncomputable def A9_systemR_c (nB : Nat) (B : Nat → Int) (nO : Nat) (O : Nat → Int) (W G L : Int) : Ann := { orc := [(1, [(3, rIn)]), (3, [(2, .row fun l => (aN l, [fun i => .val (.int .i64 (aX l i))]))]), (7, [(4, rIn)]), (9, [(2, rRise), (7, rRise)]), (11, [(2, rIn), (7, rIn), (13, rIn)])], loops := [(0, { ι := Nat, keep := [1], boxes := [1], ts := fun _ i => [(4, dI (i : Int))], rw := fun _ _ => [(3, 1, nB + nO, [fun i => .val (.int .i64 (allF nB B O i))])], inv := fun _ i => i ≤ nB + nO ∧ ∀ j, j < i → badL (allF nB B O j) = false, mu := fun _ i => nB + nO - i, rd := fun _ σ => (iOf (σ.get 4)).toNat })], cuts := [] }
theorem systemR_c (nB : Nat) (B : Nat → Int) (nO : Nat) (O : Nat → Int) (W G L : Int)  : FnC prog 9 [sys nB B nO O W G L] (dI (sysE nB B nO O W G L)) := by
  refine FnC_owed hmix (A9_systemR_c nB B nO O W G L) (V := VT.need
        [FnC prog (15 : Nat)
            [DV.val (Value.int IntKind.i64 (↑nB : Int)), DV.val (Value.int IntKind.i64 (1 : Int)),
              DV.val (Value.int IntKind.i64 (8 : Int))]
            (DV.val (Value.bool (inR (↑nB : Int) (1 : Int) (8 : Int)))),
          (!!inR (↑nB : Int) (1 : Int) (8 : Int)) = true → (!!inR (↑nB : Int) (1 : Int) (8 : Int)) = true,
          (!!inR (↑nB : Int) (1 : Int) (8 : Int)) = true → (!!inR (↑nB : Int) (1 : Int) (8 : Int)) = true,
          (!!inR (↑nB : Int) (1 : Int) (8 : Int)) = true → (!!inR (↑nB : Int) (1 : Int) (8 : Int)) = true,
          (!inR (↑nB : Int) (1 : Int) (8 : Int)) = false → (!!inR (↑nB : Int) (1 : Int) (8 : Int)) = true]
        (VT.ite (if (!inR (↑nB : Int) (1 : Int) (8 : Int)) = true then true else decide ((↑nO : Int) > (8 : Int)))
          (VT.done [(11 : Int) = sysE nB B nO O W G L])
          (VT.need
            [FnR prog (25 : Nat) [DV.lst nB [fun (i : Nat) => DV.val (Value.int IntKind.i64 (B i))]] nB
                [fun (i : Nat) => DV.val (Value.int IntKind.i64 (B i))],
              nB ≤ nB, (nB + nO) * (nat_lit 7 + (1 : Nat)) ≤ (140737488355328 : Nat)]
            (VT.loop Nat (fun (a : Nat) => a ≤ nB + nO ∧ ∀ (j : Nat), j < a → badL (allF nB B O j) = false)
              (Int.toNat (0 : Int))
              [(0 : Int) = (↑(Int.toNat (0 : Int)) : Int), (0 : Nat) = (0 : Nat), nB + nO = nB + nO, nB + nO = nB + nO,
                ∀ (i : Nat), i < nB + nO → (if decide (i < nB) = true then B i else O (i - nB)) = allF nB B O i, nB = nB,
                ∀ (i : Nat), i < nB → B i = B i, nO = nO, ∀ (i : Nat), i < nO → O i = O i, W = W, G = G, L = L]
              fun (i : Nat) =>
              VT.ite (decide ((↑i : Int) < (↑(nB + nO) : Int)))
                (VT.need
                  [(0 : Int) ≤ (↑i : Int) ∧ (↑i : Int) < (↑(nB + nO) : Int),
                    addN (0 : Nat) (Int.toNat (↑i : Int)) < nB + nO,
                    FnC prog (15 : Nat)
                      [DV.val (Value.int IntKind.i64 (allF nB B O (addN (0 : Nat) (Int.toNat (↑i : Int))))),
                        DV.val (Value.int IntKind.i64 (1 : Int)), DV.val (Value.int IntKind.i64 (10000 : Int))]
                      (DV.val
                        (Value.bool (inR (allF nB B O (addN (0 : Nat) (Int.toNat (↑i : Int)))) (1 : Int) (10000 : Int))))]
                  (VT.ite (!inR (allF nB B O (addN (0 : Nat) (Int.toNat (↑i : Int)))) (1 : Int) (10000 : Int))
                    (VT.done [(2 : Int) = sysE nB B nO O W G L])
                    (VT.need [i64In ((↑i : Int) + (1 : Int))]
                      (VT.done
                        [(↑i : Int) + (1 : Int) = (↑(Int.toNat ((↑i : Int) + (1 : Int))) : Int), (0 : Nat) = (0 : Nat),
                          nB + nO = nB + nO, nB + nO = nB + nO, ∀ (i : Nat), i < nB + nO → allF nB B O i = allF nB B O i,
                          nB = nB, ∀ (i : Nat), i < nB → B i = B i, nO = nO, ∀ (i : Nat), i < nO → O i = O i, W = W, G = G,
                          L = L,
                          Int.toNat ((↑i : Int) + (1 : Int)) ≤ nB + nO ∧
                            ∀ (j : Nat), j < Int.toNat ((↑i : Int) + (1 : Int)) → badL (allF nB B O j) = false,
                          nB + nO - Int.toNat ((↑i : Int) + (1 : Int)) < nB + nO - i]))))
                (VT.need
                  [FnC prog (26 : Nat) [DV.lst nB [fun (i : Nat) => DV.val (Value.int IntKind.i64 (B i))]]
                      (DV.val (Value.bool (rise nB B))),
                    (!!rise nB B) = true → (!!rise nB B) = true, (!!rise nB B) = true → (!!rise nB B) = true,
                    (!!rise nB B) = true →
                      FnC prog (26 : Nat) [DV.lst nO [fun (i : Nat) => DV.val (Value.int IntKind.i64 (O i))]]
                        (DV.val (Value.bool (rise nO O))),
                    (!!rise nB B) = true → (!!rise nB B) = true, (!rise nB B) = false → (!!rise nB B) = true]
                  (VT.ite (if (!rise nB B) = true then true else !rise nO O) (VT.done [(10 : Int) = sysE nB B nO O W G L])
                    (VT.need
                      [FnC prog (15 : Nat)
                          [DV.val (Value.int IntKind.i64 W), DV.val (Value.int IntKind.i64 (1 : Int)),
                            DV.val (Value.int IntKind.i64 (5000 : Int))]
                          (DV.val (Value.bool (inR W (1 : Int) (5000 : Int)))),
                        (!!inR W (1 : Int) (5000 : Int)) = true → (!!inR W (1 : Int) (5000 : Int)) = true,
                        (!!inR W (1 : Int) (5000 : Int)) = true → (!!inR W (1 : Int) (5000 : Int)) = true,
                        (!!inR W (1 : Int) (5000 : Int)) = true →
                          FnC prog (15 : Nat)
                            [DV.val (Value.int IntKind.i64 G), DV.val (Value.int IntKind.i64 (0 : Int)),
                              DV.val (Value.int IntKind.i64 (5000 : Int))]
                            (DV.val (Value.bool (inR G (0 : Int) (5000 : Int)))),
                        (!!inR W (1 : Int) (5000 : Int)) = true → (!!inR W (1 : Int) (5000 : Int)) = true,
                        (!inR W (1 : Int) (5000 : Int)) = false → (!!inR W (1 : Int) (5000 : Int)) = true,
                        (!if (!inR W (1 : Int) (5000 : Int)) = true then true else !inR G (0 : Int) (5000 : Int)) = true →
                          (!if (!inR W (1 : Int) (5000 : Int)) = true then true else !inR G (0 : Int) (5000 : Int)) = true,
                        (!if (!inR W (1 : Int) (5000 : Int)) = true then true else !inR G (0 : Int) (5000 : Int)) = true →
                          (!if (!inR W (1 : Int) (5000 : Int)) = true then true else !inR G (0 : Int) (5000 : Int)) = true,
                        (!if (!inR W (1 : Int) (5000 : Int)) = true then true else !inR G (0 : Int) (5000 : Int)) = true →
                          FnC prog (15 : Nat)
                            [DV.val (Value.int IntKind.i64 L), DV.val (Value.int IntKind.i64 (1 : Int)),
                              DV.val (Value.int IntKind.i64 (10000 : Int))]
                            (DV.val (Value.bool (inR L (1 : Int) (10000 : Int)))),
                        (!if (!inR W (1 : Int) (5000 : Int)) = true then true else !inR G (0 : Int) (5000 : Int)) = true →
                          (!if (!inR W (1 : Int) (5000 : Int)) = true then true else !inR G (0 : Int) (5000 : Int)) = true,
                        (if (!inR W (1 : Int) (5000 : Int)) = true then true else !inR G (0 : Int) (5000 : Int)) = false →
                          (!if (!inR W (1 : Int) (5000 : Int)) = true then true else !inR G (0 : Int) (5000 : Int)) = true]
                      (VT.ite
                        (if
                            (if (!inR W (1 : Int) (5000 : Int)) = true then true else !inR G (0 : Int) (5000 : Int)) =
                              true then
                          true
                        else !inR L (1 : Int) (10000 : Int))
                        (VT.done [(2 : Int) = sysE nB B nO O W G L]) (VT.done [(0 : Int) = sysE nB B nO O W G L]))))))))) (by kernel_rfl) ?_
  simp only [VT.holds, AllT, imp_self, implies_true, and_true, true_and, toNat_succ, toNat_add2, toNat_zero', Int.toNat_natCast, Bool.if_true_left, Bool.if_false_right, Bool.decide_eq_true, Bool.or_eq_true, Bool.or_eq_false_iff, Bool.and_eq_true, Bool.and_eq_false_imp, Bool.not_eq_true', Bool.not_eq_false', Bool.not_not, bne_iff_ne, bne_eq_false_iff_eq, beq_iff_eq, beq_eq_false_iff_ne, decide_eq_true_eq, decide_eq_false_iff_not, ne_eq]
  have rg : ∀ x lo hi, inR x lo hi = true ↔ lo ≤ x ∧ x ≤ hi := fun x lo hi => by rw [inR, decide_eq_true_eq]
  have rf : ∀ x lo hi, inR x lo hi = false ↔ ¬ (lo ≤ x ∧ x ≤ hi) := fun x lo hi => by rw [inR, decide_eq_false_iff_not]
  refine ⟨withinR_c _ _ _, fun h => ?_, fun ⟨h, h'⟩ => ?_⟩
  · rw [rf] at h
    rw [sysE, if_pos (by omega)]
  · rw [rf] at h
    have hs : ¬ (nB < 1 ∨ nB > 8 ∨ nO > 8) := by omega
    refine ⟨⟨copyR_c nB B (by omega), Nat.le_refl _, by omega⟩, ⟨rfl, fun i hi => rfl⟩, ⟨Nat.zero_le _, fun j hj => by omega⟩, fun i ⟨hi, hb⟩ => ⟨fun hlt => ?_, fun hge => ?_⟩⟩
    · simp only [addN_zero]
      refine ⟨⟨⟨by omega, by omega⟩, by omega, withinR_c _ _ _⟩, fun h2 => ?_, fun h2 => ⟨by unfold i64In; omega, rfl, ⟨by omega, fun j hj => ?_⟩, by omega⟩⟩
      · rw [sysE, if_neg hs, if_pos]
        rw [← anyBad_app]
        exact anyN_true.2 ⟨i, by omega, by rw [badL, h2]; rfl⟩
      · by_cases e : j = i
        · rw [e, badL, h2]; rfl
        · exact hb j (by omega)
    · have hA : ¬ (anyBad nB B = true ∨ anyBad nO O = true) := by
        rw [← anyBad_app]
        intro hx
        obtain ⟨k, hk, h3⟩ := anyN_true.1 hx
        rw [hb k (by omega)] at h3; cases h3
      refine ⟨⟨rising_c nB B (by omega), fun _ => rising_c nO O (by omega)⟩, fun h2 => ?_, fun h2 => ⟨⟨withinR_c _ _ _, fun _ => withinR_c _ _ _, fun _ => withinR_c _ _ _⟩, fun h3 => ?_, fun h3 => ?_⟩⟩
      · rw [sysE, if_neg hs, if_neg hA, if_pos h2]
      · have h4 : ¬ (rise nB B = false ∨ rise nO O = false) := fun hx => hx.elim h2.1 fun e => by rw [h2.2] at e; cases e
        rw [sysE, if_neg hs, if_neg hA, if_neg h4, if_pos]
        rcases h3 with (h3 | h3) | h3
        · exact .inl h3
        · exact .inr (.inl h3)
        · exact .inr (.inr h3)
      · have h4 : ¬ (rise nB B = false ∨ rise nO O = false) := fun hx => hx.elim h2.1 fun e => by rw [h2.2] at e; cases e
        rw [sysE, if_neg hs, if_neg hA, if_neg h4, if_neg]
        rintro (h5 | h5 | h5)
        · exact h3.1 (.inl h5)
        · exact h3.1 (.inr h5)
        · rw [h3.2] at h5; cases h5
noncomputable def A10_lengthErr_c (nB : Nat) (B : Nat → Int) (nO : Nat) (O : Nat → Int) (W G L len : Int) : Ann := { orc := [(3, [(2, rUnitR)])], loops := [], cuts := [] }
theorem lengthErr_c (nB : Nat) (B : Nat → Int) (nO : Nat) (O : Nat → Int) (W G L len : Int) (hs : sysE nB B nO O W G L = 0) : FnC prog 10 [sys nB B nO O W G L, dI len] (dI (lenR nB B nO O len)) := by
  refine FnC_owed hmix (A10_lengthErr_c nB B nO O W G L len) (V := VT.ite (decide (len < (0 : Int))) (VT.done [(2 : Int) = lenR nB B nO O len])
        (VT.need
          [FnC prog (27 : Nat)
              [DV.agg
                  [DV.lst nB [fun (i : Nat) => DV.val (Value.int IntKind.i64 (B i))],
                    DV.lst nO [fun (i : Nat) => DV.val (Value.int IntKind.i64 (O i))], DV.val (Value.int IntKind.i64 W),
                    DV.val (Value.int IntKind.i64 G), DV.val (Value.int IntKind.i64 L)]]
              (DV.val (Value.int IntKind.i64 (↑(unitR nB B O (nB + nO)) : Int))),
            i64In ((4000 : Int) * (↑(unitR nB B O (nB + nO)) : Int))]
          (VT.ite (decide (len > (4000 : Int) * (↑(unitR nB B O (nB + nO)) : Int)))
            (VT.done [(8 : Int) = lenR nB B nO O len]) (VT.done [(0 : Int) = lenR nB B nO O len])))) (by kernel_rfl) ?_
  simp only [VT.holds, AllT, imp_self, implies_true, and_true, true_and, toNat_succ, toNat_add2, toNat_zero', Int.toNat_natCast, Bool.if_true_left, Bool.if_false_right, Bool.decide_eq_true, Bool.or_eq_true, Bool.or_eq_false_iff, Bool.and_eq_true, Bool.and_eq_false_imp, Bool.not_eq_true', Bool.not_eq_false', Bool.not_not, bne_iff_ne, bne_eq_false_iff_eq, beq_iff_eq, beq_eq_false_iff_ne, decide_eq_true_eq, decide_eq_false_iff_not, ne_eq]
  obtain ⟨s1, s2, s3, sB, sO, _, _⟩ := sys_ok hs
  have hu := unitR_bd s1 sB sO
  refine ⟨fun h => by rw [lenR, if_pos h], fun h => ⟨⟨unitR_c nB B nO O W G L s2 s3 sB sO, by unfold i64In; omega⟩, fun h2 => by rw [lenR, if_neg h, if_pos h2], fun h2 => by rw [lenR, if_neg h, if_neg h2]⟩⟩
end Go.Abs
