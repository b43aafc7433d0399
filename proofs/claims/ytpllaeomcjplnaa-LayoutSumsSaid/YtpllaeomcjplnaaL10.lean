/- Contracts. -/
import Derived.Test.YtpllaeomcjplnaaL9
set_option linter.unusedVariables false
set_option linter.unusedSimpArgs false
set_option maxRecDepth 100000
namespace Go.Abs
open Go
def sumN (N : Nat → Nat) : Nat → Nat
  | 0 => 0
  | i + 1 => sumN N i + N i
def catF (N : Nat → Nat) (A : Nat → Nat → Int) : Nat → Nat → Int
  | 0 => fun _ => 0
  | i + 1 => fun k => if k < sumN N i then catF N A i k else A i (k - sumN N i)
def sumI (f : Nat → Int) : Nat → Int
  | 0 => 0
  | k + 1 => sumI f k + f k
def two {α : Type} (x y : α) (i : Nat) : α := if i = 0 then x else y
def rConcat : Orc := .res fun l => .lst (sumN (fun i => lenOf (colD 0 (arg l 0) i)) (lenOf (arg l 0))) [fun k => .val (.int .i64 (catF (fun i => lenOf (colD 0 (arg l 0) i)) (fun i k => colI 0 (colD 0 (arg l 0) i) k) (lenOf (arg l 0)) k))]
theorem sumN_le {N : Nat → Nat} {b : Nat} {m : Nat} (h : ∀ i, i < m → N i ≤ b) : ∀ i, i ≤ m → sumN N i ≤ i * b
  | 0, _ => Nat.zero_le _
  | i + 1, hi => by
    have := sumN_le h i (by omega)
    have := h i (by omega)
    rw [Nat.succ_mul]
    simp only [sumN]
    omega
theorem sumI_bd {f : Nat → Int} {n : Nat} (h : ∀ k, k < n → 1 ≤ f k ∧ f k ≤ 10000) : ∀ k, k ≤ n → 0 ≤ sumI f k ∧ sumI f k ≤ 10000 * k
  | 0, _ => ⟨Int.le_refl _, Int.le_refl _⟩
  | k + 1, hk => by
    have := sumI_bd h k (by omega)
    have := h k (by omega)
    simp only [sumI]
    omega
theorem sumI_congr {f g : Nat → Int} : ∀ {n : Nat}, (∀ k, k < n → f k = g k) → sumI f n = sumI g n
  | 0, _ => rfl
  | n + 1, h => by
    rw [sumI, sumI, sumI_congr fun k hk => h k (by omega), h n (by omega)]
theorem sumI_add (f g : Nat → Int) (n : Nat) : ∀ m, sumI (fun k => if k < n then f k else g (k - n)) (n + m) = sumI f n + sumI g m
  | 0 => by
    rw [Nat.add_zero, sumI, Int.add_zero]
    exact sumI_congr fun k hk => if_pos hk
  | m + 1 => by
    rw [← Nat.add_assoc, sumI, sumI_add f g n m, if_neg (by omega), Nat.add_sub_cancel_left, sumI, Int.add_assoc]
def rSum : Orc := .res fun l => dI (sumI (colI 0 (fD 0 (arg l 0))) (lenOf (fD 0 (arg l 0))) + sumI (colI 0 (fD 1 (arg l 0))) (lenOf (fD 1 (arg l 0))))
def closesE (nB : Nat) (B : Nat → Int) (nO : Nat) (O : Nat → Int) (nC : Nat) (C : Nat → Int) (nD : Nat) (D : Nat → Int) (len : Int) : Int :=
  if ckE nB B nO O nC C nD D = 0 then (if sumI C nC + sumI D nD = len then 0 else 25) else ckE nB B nO O nC C nD D
abbrev kC (l : List DV) : Nat := lenOf (fD 0 (arg l 2))
abbrev kCf (l : List DV) : Nat → Int := colI 0 (fD 0 (arg l 2))
abbrev kD (l : List DV) : Nat := lenOf (fD 1 (arg l 2))
abbrev kDf (l : List DV) : Nat → Int := colI 0 (fD 1 (arg l 2))
def rHas : Orc := .res fun l => dB (anyN (fun k => aX l k == aI l 1) (aN l))
def lessC (a b x y : Int) : Bool := decide (a < x ∨ (a = x ∧ b < y))
theorem both_ok {nB : Nat} {B : Nat → Int} {nO : Nat} {O : Nat → Int} {W G L : Int} {nC : Nat} {C : Nat → Int} {nD : Nat} {D : Nat → Int} (h : bothE nB B nO O W G L nC C nD D = 0) : sysE nB B nO O W G L = 0 ∧ ckE nB B nO O nC C nD D = 0 := by
  unfold bothE at h
  split at h
  · exact ⟨‹_›, h⟩
  · exact absurd h ‹_›
theorem ck_bd {nB : Nat} {B : Nat → Int} {nO : Nat} {O : Nat → Int} {W G L : Int} {nC : Nat} {C : Nat → Int} {nD : Nat} {D : Nat → Int} (hs : sysE nB B nO O W G L = 0) (h : ckE nB B nO O nC C nD D = 0) :
    (∀ k, k < nC → 1 ≤ C k ∧ C k ≤ 10000) ∧ ∀ k, k < nD → 1 ≤ D k ∧ D k ≤ 10000 := by
  obtain ⟨_, _, _, sB, sO, _, _⟩ := sys_ok hs
  unfold ckE at h
  split at h
  · cases h
  · split at h
    · cases h
    · rename_i h2
      constructor
      · intro k hk
        obtain ⟨j, hj, e⟩ := others_bd (n := nC) (A := C) (m := nB) (O := B) (by cases hx : others nC C nB B with | true => exact absurd (.inl hx) h2 | false => rfl) hk
        rw [← e]; exact sB j hj
      · intro k hk
        obtain ⟨j, hj, e⟩ := others_bd (n := nD) (A := D) (m := nO) (O := O) (by cases hx : others nD D nO O with | true => exact absurd (.inr hx) h2 | false => rfl) hk
        rw [← e]; exact sO j hj
noncomputable def A18_less_c (a b x y : Int) : Ann := { orc := [], loops := [], cuts := [] }
theorem less_c (a b x y : Int)  : FnC prog 18 [dP a b, dP x y] (dB (lessC a b x y)) := by
  refine FnC_owed hmix (A18_less_c a b x y) (V := VT.ite (a != x) (VT.done [decide (a < x) = lessC a b x y]) (VT.done [decide (b < y) = lessC a b x y])) (by kernel_rfl) ?_
  simp only [VT.holds, AllT, imp_self, implies_true, and_true, true_and, toNat_succ, toNat_add2, toNat_zero', Int.toNat_natCast, Bool.if_true_left, Bool.if_false_right, Bool.decide_eq_true, Bool.or_eq_true, Bool.or_eq_false_iff, Bool.and_eq_true, Bool.and_eq_false_imp, Bool.not_eq_true', Bool.not_eq_false', Bool.not_not, bne_iff_ne, bne_eq_false_iff_eq, beq_iff_eq, beq_eq_false_iff_ne, decide_eq_true_eq, decide_eq_false_iff_not, ne_eq]
  refine ⟨fun h => ?_, fun h => ?_⟩
  · unfold lessC
    rw [decide_eq_decide]; omega
  · unfold lessC
    rw [decide_eq_decide]; omega
noncomputable def A38_has_c (n : Nat) (A : Nat → Int) (v : Int) : Ann := { orc := [], loops := [(0, { ι := Nat, keep := [0, 1], boxes := [], ts := fun _ i => [(5, dI (i : Int))], inv := fun _ i => i ≤ n ∧ ∀ j, j < i → (A j == v) = false, mu := fun _ i => n - i, rd := fun _ σ => (iOf (σ.get 5)).toNat })], cuts := [] }
theorem has_c (n : Nat) (A : Nat → Int) (v : Int) (hn : n ≤ 1000000) : FnC prog 38 [nums n A, dI v] (dB (anyN (fun k => A k == v) n)) := by
  refine FnC_owed hmix (A38_has_c n A v) (V := VT.loop Nat (fun (a : Nat) => a ≤ n ∧ ∀ (j : Nat), j < a → (A j == v) = false) (Int.toNat (0 : Int))
        [(0 : Int) = (↑(Int.toNat (0 : Int)) : Int), n = n, ∀ (i : Nat), i < n → A i = A i, v = v] fun (i : Nat) =>
        VT.ite (decide ((↑i : Int) < (↑n : Int)))
          (VT.need [(0 : Int) ≤ (↑i : Int) ∧ (↑i : Int) < (↑n : Int)]
            (VT.ite (A (Int.toNat (↑i : Int)) == v) (VT.done [true = anyN (fun (k : Nat) => A k == v) n])
              (VT.need [i64In ((↑i : Int) + (1 : Int))]
                (VT.done
                  [(↑i : Int) + (1 : Int) = (↑(Int.toNat ((↑i : Int) + (1 : Int))) : Int), n = n,
                    ∀ (i : Nat), i < n → A i = A i, v = v,
                    Int.toNat ((↑i : Int) + (1 : Int)) ≤ n ∧
                      ∀ (j : Nat), j < Int.toNat ((↑i : Int) + (1 : Int)) → (A j == v) = false,
                    n - Int.toNat ((↑i : Int) + (1 : Int)) < n - i]))))
          (VT.done [false = anyN (fun (k : Nat) => A k == v) n])) (by kernel_rfl) ?_
  simp only [VT.holds, AllT, imp_self, implies_true, and_true, true_and, toNat_succ, toNat_add2, toNat_zero', Int.toNat_natCast, Bool.if_true_left, Bool.if_false_right, Bool.decide_eq_true, Bool.or_eq_true, Bool.or_eq_false_iff, Bool.and_eq_true, Bool.and_eq_false_imp, Bool.not_eq_true', Bool.not_eq_false', Bool.not_not, bne_iff_ne, bne_eq_false_iff_eq, beq_iff_eq, beq_eq_false_iff_ne, decide_eq_true_eq, decide_eq_false_iff_not, ne_eq]
  refine ⟨rfl, ⟨Nat.zero_le _, fun j hj => absurd hj (Nat.not_lt_zero j)⟩, fun i ⟨hi, hb⟩ => ⟨fun hlt => ⟨⟨by omega, by omega⟩, fun h => ?_, fun h => ⟨by unfold i64In; omega, rfl, ⟨by omega, fun j hj => ?_⟩, by omega⟩⟩, fun hge => ?_⟩⟩
  · exact (anyN_true.2 ⟨i, by omega, by simpa using h⟩).symm
  · by_cases e : j = i
    · rw [e]; exact h
    · exact hb j (by omega)
  · exact (anyN_false.2 fun k hk => by simpa using hb k (by omega)).symm
noncomputable def A39_fallingR_c (n : Nat) (A : Nat → Int) : Ann := { orc := [], loops := [(0, { ι := Nat, keep := [0], boxes := [], ts := fun _ i => [(3, dI (i : Int))], inv := fun _ i => 1 ≤ i ∧ ∀ k, k < i → k < n → 0 < k → A k ≤ A (k - 1), mu := fun _ i => n - i, rd := fun _ σ => (iOf (σ.get 3)).toNat })], cuts := [] }
theorem fallingR_c (n : Nat) (A : Nat → Int) (hn : n ≤ 1000000) : FnC prog 39 [nums n A] (dB (fallR n A)) := by
  refine FnC_owed hmix (A39_fallingR_c n A) (V := VT.loop Nat (fun (a : Nat) => (1 : Nat) ≤ a ∧ ∀ (k : Nat), k < a → k < n → (0 : Nat) < k → A k ≤ A (k - (1 : Nat)))
        (Int.toNat (1 : Int)) [(1 : Int) = (↑(Int.toNat (1 : Int)) : Int), n = n, ∀ (i : Nat), i < n → A i = A i]
        fun (i : Nat) =>
        VT.ite (decide ((↑i : Int) < (↑n : Int)))
          (VT.need
            [(0 : Int) ≤ (↑i : Int) ∧ (↑i : Int) < (↑n : Int), i64In ((↑i : Int) - (1 : Int)),
              (0 : Int) ≤ (↑i : Int) - (1 : Int) ∧ (↑i : Int) - (1 : Int) < (↑n : Int)]
            (VT.ite (decide (A (Int.toNat (↑i : Int)) > A (Int.toNat ((↑i : Int) - (1 : Int)))))
              (VT.done [false = fallR n A])
              (VT.need [i64In ((↑i : Int) + (1 : Int))]
                (VT.done
                  [(↑i : Int) + (1 : Int) = (↑(Int.toNat ((↑i : Int) + (1 : Int))) : Int), n = n,
                    ∀ (i : Nat), i < n → A i = A i,
                    (1 : Nat) ≤ Int.toNat ((↑i : Int) + (1 : Int)) ∧
                      ∀ (k : Nat), k < Int.toNat ((↑i : Int) + (1 : Int)) → k < n → (0 : Nat) < k → A k ≤ A (k - (1 : Nat)),
                    n - Int.toNat ((↑i : Int) + (1 : Int)) < n - i]))))
          (VT.done [true = fallR n A])) (by kernel_rfl) ?_
  simp only [VT.holds, AllT, imp_self, implies_true, and_true, true_and, toNat_succ, toNat_add2, toNat_zero', Int.toNat_natCast, Bool.if_true_left, Bool.if_false_right, Bool.decide_eq_true, Bool.or_eq_true, Bool.or_eq_false_iff, Bool.and_eq_true, Bool.and_eq_false_imp, Bool.not_eq_true', Bool.not_eq_false', Bool.not_not, bne_iff_ne, bne_eq_false_iff_eq, beq_iff_eq, beq_eq_false_iff_ne, decide_eq_true_eq, decide_eq_false_iff_not, ne_eq]
  refine ⟨rfl, ⟨Nat.le_refl _, fun k hk _ h0 => absurd hk (show ¬ k < 1 by omega)⟩, fun i ⟨hi, hb⟩ => ⟨fun hlt => ⟨⟨⟨by omega, by omega⟩, by unfold i64In; omega, by omega, by omega⟩, fun h => ?_, fun h => ⟨by unfold i64In; omega, rfl, ⟨by omega, fun k hk hn h0 => ?_⟩, by omega⟩⟩, fun hge => ?_⟩⟩
  · rw [fallR, eq_comm, decide_eq_false_iff_not]
    intro hx
    have := hx i (by omega) (by omega)
    rw [show i - 1 = ((i : Int) - 1).toNat by omega] at this
    omega
  · by_cases e : k = i
    · rw [show ((i : Int) - 1).toNat = i - 1 by omega] at h
      rw [e]; omega
    · exact hb k (by omega) hn h0
  · rw [fallR, eq_comm, decide_eq_true_eq]
    exact fun k hk h0 => hb k (by omega) hk h0
noncomputable def A29_ckR_c (nB : Nat) (B : Nat → Int) (nO : Nat) (O : Nat → Int) (W G L : Int) (nC : Nat) (C : Nat → Int) (nD : Nat) (D : Nat → Int) : Ann := { orc := [(6, [(7, rHas)]), (11, [(7, rHas)]), (13, [(2, rFall), (7, rFall)])], loops := [(0, { ι := Nat, keep := [2, 3], boxes := [2, 3], ts := fun _ i => [(5, dI (i : Int))], inv := fun _ i => i ≤ nC ∧ ∀ k, k < i → anyN (fun j => B j == C k) nB = true, mu := fun _ i => nC - i, rd := fun _ σ => (iOf (σ.get 5)).toNat }),
  (2, { ι := Nat, keep := [2, 3], boxes := [2, 3], ts := fun _ i => [(6, dI (i : Int))], inv := fun _ i => i ≤ nD ∧ ∀ k, k < i → anyN (fun j => O j == D k) nO = true, mu := fun _ i => nD - i, rd := fun _ σ => (iOf (σ.get 6)).toNat })], cuts := [] }
theorem ckR_c (nB : Nat) (B : Nat → Int) (nO : Nat) (O : Nat → Int) (W G L : Int) (nC : Nat) (C : Nat → Int) (nD : Nat) (D : Nat → Int) (hb : nB ≤ 1000000) (ho : nO ≤ 1000000) (hc : nC ≤ 1000000) (hd : nD ≤ 1000000) : FnC prog 29 [sys nB B nO O W G L, clg nC C nD D] (dI (ckE nB B nO O nC C nD D)) := by
  refine FnC_owed hmix (A29_ckR_c nB B nO O W G L nC C nD D) (V := VT.need
        [(!decide ((↑nC : Int) > (4000 : Int))) = true → (!decide ((↑nC : Int) > (4000 : Int))) = true,
          (!decide ((↑nC : Int) > (4000 : Int))) = true → (!decide ((↑nC : Int) > (4000 : Int))) = true,
          (!decide ((↑nC : Int) > (4000 : Int))) = true → (!decide ((↑nC : Int) > (4000 : Int))) = true,
          decide ((↑nC : Int) > (4000 : Int)) = false → (!decide ((↑nC : Int) > (4000 : Int))) = true]
        (VT.ite (if decide ((↑nC : Int) > (4000 : Int)) = true then true else decide ((↑nD : Int) > (4000 : Int)))
          (VT.done [(8 : Int) = ckE nB B nO O nC C nD D])
          (VT.loop Nat (fun (a : Nat) => a ≤ nC ∧ ∀ (k : Nat), k < a → anyN (fun (j : Nat) => B j == C k) nB = true)
            (Int.toNat (0 : Int))
            [(0 : Int) = (↑(Int.toNat (0 : Int)) : Int), nB = nB, ∀ (i : Nat), i < nB → B i = B i, nO = nO,
              ∀ (i : Nat), i < nO → O i = O i, W = W, G = G, L = L, nC = nC, ∀ (i : Nat), i < nC → C i = C i, nD = nD,
              ∀ (i : Nat), i < nD → D i = D i]
            fun (i : Nat) =>
            VT.ite (decide ((↑i : Int) < (↑nC : Int)))
              (VT.need
                [(0 : Int) ≤ (↑i : Int) ∧ (↑i : Int) < (↑nC : Int),
                  FnC prog (38 : Nat)
                    [DV.lst nB [fun (i : Nat) => DV.val (Value.int IntKind.i64 (B i))],
                      DV.val (Value.int IntKind.i64 (C (Int.toNat (↑i : Int))))]
                    (DV.val (Value.bool (anyN (fun (k : Nat) => B k == C (Int.toNat (↑i : Int))) nB)))]
                (VT.ite (!anyN (fun (k : Nat) => B k == C (Int.toNat (↑i : Int))) nB)
                  (VT.done [(6 : Int) = ckE nB B nO O nC C nD D])
                  (VT.need [i64In ((↑i : Int) + (1 : Int))]
                    (VT.done
                      [(↑i : Int) + (1 : Int) = (↑(Int.toNat ((↑i : Int) + (1 : Int))) : Int), nB = nB,
                        ∀ (i : Nat), i < nB → B i = B i, nO = nO, ∀ (i : Nat), i < nO → O i = O i, W = W, G = G, L = L,
                        nC = nC, ∀ (i : Nat), i < nC → C i = C i, nD = nD, ∀ (i : Nat), i < nD → D i = D i,
                        Int.toNat ((↑i : Int) + (1 : Int)) ≤ nC ∧
                          ∀ (k : Nat),
                            k < Int.toNat ((↑i : Int) + (1 : Int)) → anyN (fun (j : Nat) => B j == C k) nB = true,
                        nC - Int.toNat ((↑i : Int) + (1 : Int)) < nC - i]))))
              (VT.loop Nat (fun (a : Nat) => a ≤ nD ∧ ∀ (k : Nat), k < a → anyN (fun (j : Nat) => O j == D k) nO = true)
                (Int.toNat (0 : Int))
                [(0 : Int) = (↑(Int.toNat (0 : Int)) : Int), nB = nB, ∀ (i : Nat), i < nB → B i = B i, nO = nO,
                  ∀ (i : Nat), i < nO → O i = O i, W = W, G = G, L = L, nC = nC, ∀ (i : Nat), i < nC → C i = C i, nD = nD,
                  ∀ (i : Nat), i < nD → D i = D i]
                fun (i : Nat) =>
                VT.ite (decide ((↑i : Int) < (↑nD : Int)))
                  (VT.need
                    [(0 : Int) ≤ (↑i : Int) ∧ (↑i : Int) < (↑nD : Int),
                      FnC prog (38 : Nat)
                        [DV.lst nO [fun (i : Nat) => DV.val (Value.int IntKind.i64 (O i))],
                          DV.val (Value.int IntKind.i64 (D (Int.toNat (↑i : Int))))]
                        (DV.val (Value.bool (anyN (fun (k : Nat) => O k == D (Int.toNat (↑i : Int))) nO)))]
                    (VT.ite (!anyN (fun (k : Nat) => O k == D (Int.toNat (↑i : Int))) nO)
                      (VT.done [(6 : Int) = ckE nB B nO O nC C nD D])
                      (VT.need [i64In ((↑i : Int) + (1 : Int))]
                        (VT.done
                          [(↑i : Int) + (1 : Int) = (↑(Int.toNat ((↑i : Int) + (1 : Int))) : Int), nB = nB,
                            ∀ (i : Nat), i < nB → B i = B i, nO = nO, ∀ (i : Nat), i < nO → O i = O i, W = W, G = G, L = L,
                            nC = nC, ∀ (i : Nat), i < nC → C i = C i, nD = nD, ∀ (i : Nat), i < nD → D i = D i,
                            Int.toNat ((↑i : Int) + (1 : Int)) ≤ nD ∧
                              ∀ (k : Nat),
                                k < Int.toNat ((↑i : Int) + (1 : Int)) → anyN (fun (j : Nat) => O j == D k) nO = true,
                            nD - Int.toNat ((↑i : Int) + (1 : Int)) < nD - i]))))
                  (VT.need
                    [FnC prog (39 : Nat) [DV.lst nC [fun (i : Nat) => DV.val (Value.int IntKind.i64 (C i))]]
                        (DV.val (Value.bool (fallR nC C))),
                      (!!fallR nC C) = true → (!!fallR nC C) = true, (!!fallR nC C) = true → (!!fallR nC C) = true,
                      (!!fallR nC C) = true →
                        FnC prog (39 : Nat) [DV.lst nD [fun (i : Nat) => DV.val (Value.int IntKind.i64 (D i))]]
                          (DV.val (Value.bool (fallR nD D))),
                      (!!fallR nC C) = true → (!!fallR nC C) = true, (!fallR nC C) = false → (!!fallR nC C) = true]
                    (VT.ite (if (!fallR nC C) = true then true else !fallR nD D)
                      (VT.done [(10 : Int) = ckE nB B nO O nC C nD D]) (VT.done [(0 : Int) = ckE nB B nO O nC C nD D]))))))) (by kernel_rfl) ?_
  simp only [VT.holds, AllT, imp_self, implies_true, and_true, true_and, toNat_succ, toNat_add2, toNat_zero', Int.toNat_natCast, Bool.if_true_left, Bool.if_false_right, Bool.decide_eq_true, Bool.or_eq_true, Bool.or_eq_false_iff, Bool.and_eq_true, Bool.and_eq_false_imp, Bool.not_eq_true', Bool.not_eq_false', Bool.not_not, bne_iff_ne, bne_eq_false_iff_eq, beq_iff_eq, beq_eq_false_iff_ne, decide_eq_true_eq, decide_eq_false_iff_not, ne_eq]
  have bad : ∀ {n m : Nat} {A V : Nat → Int} {i : Nat}, i < n → anyN (fun k => V k == A i) m = false → others n A m V = true := fun hi h => anyN_true.2 ⟨_, hi, by rw [h]; rfl⟩
  have good : ∀ {n m : Nat} {A V : Nat → Int}, (∀ i, i < n → anyN (fun k => V k == A i) m = true) → others n A m V = false := fun h => anyN_false.2 fun k hk => by rw [h k hk]; rfl
  refine ⟨fun h => by rw [ckE, if_pos (by omega)], fun h => ⟨rfl, ⟨Nat.zero_le _, fun k hk => absurd hk (Nat.not_lt_zero k)⟩, fun i ⟨hi, hv⟩ => ⟨fun hlt => ⟨⟨⟨by omega, by omega⟩, has_c nB B _ hb⟩, fun h2 => ?_, fun h2 => ⟨by unfold i64In; omega, rfl, ⟨by omega, fun k hk => ?_⟩, by omega⟩⟩, fun hge => ⟨rfl, ⟨Nat.zero_le _, fun k hk => absurd hk (Nat.not_lt_zero k)⟩, fun j ⟨hj, hw⟩ => ⟨fun hlt => ⟨⟨⟨by omega, by omega⟩, has_c nO O _ ho⟩, fun h2 => ?_, fun h2 => ⟨by unfold i64In; omega, rfl, ⟨by omega, fun k hk => ?_⟩, by omega⟩⟩, fun hge2 => ?_⟩⟩⟩⟩⟩
  · rw [ckE, if_neg (by omega), if_pos (.inl (bad (by omega) h2))]
  · by_cases e : k = i
    · rw [e]; exact h2
    · exact hv k (by omega)
  · rw [ckE, if_neg (by omega), if_pos (.inr (bad (by omega) h2))]
  · by_cases e : k = j
    · rw [e]; exact h2
    · exact hw k (by omega)
  · have g1 : others nC C nB B = false := good fun k hk => hv k (by omega)
    have g2 : others nD D nO O = false := good fun k hk => hw k (by omega)
    have g3 : ¬ (others nC C nB B = true ∨ others nD D nO O = true) := by rw [g1, g2]; simp
    refine ⟨⟨fallingR_c nC C hc, fun _ => fallingR_c nD D hd⟩, fun h2 => ?_, fun h2 => ?_⟩
    · rw [ckE, if_neg (by omega), if_neg g3, if_pos h2]
    · rw [ckE, if_neg (by omega), if_neg g3, if_neg (fun hx => hx.elim (fun e => h2.1 e) fun e => by rw [h2.2] at e; cases e)]
noncomputable def A30_sumR_c (nC : Nat) (C : Nat → Int) (nD : Nat) (D : Nat → Int) : Ann := { orc := [], loops := [(0, { ι := Nat, keep := [1], boxes := [1], ts := fun _ i => [(4, dI (i : Int)), (3, dI (sumI C i))], inv := fun _ i => i ≤ nC, mu := fun _ i => nC - i, rd := fun _ σ => (iOf (σ.get 4)).toNat }),
  (2, { ι := Nat, keep := [1], boxes := [1], ts := fun _ i => [(5, dI (i : Int)), (3, dI (sumI C nC + sumI D i))], inv := fun _ i => i ≤ nD, mu := fun _ i => nD - i, rd := fun _ σ => (iOf (σ.get 5)).toNat })], cuts := [] }
theorem sumR_c (nC : Nat) (C : Nat → Int) (nD : Nat) (D : Nat → Int) (h1 : nC ≤ 1000000) (h2 : nD ≤ 1000000) (hC : ∀ k, k < nC → 1 ≤ C k ∧ C k ≤ 10000) (hD : ∀ k, k < nD → 1 ≤ D k ∧ D k ≤ 10000) : FnC prog 30 [clg nC C nD D] (dI (sumI C nC + sumI D nD)) := by
  refine FnC_owed hmix (A30_sumR_c nC C nD D) (V := VT.loop Nat (fun (a : Nat) => a ≤ nC) (Int.toNat (0 : Int))
        [(0 : Int) = (↑(Int.toNat (0 : Int)) : Int), (0 : Int) = sumI C (Int.toNat (0 : Int)), nC = nC,
          ∀ (i : Nat), i < nC → C i = C i, nD = nD, ∀ (i : Nat), i < nD → D i = D i]
        fun (i : Nat) =>
        VT.ite (decide ((↑i : Int) < (↑nC : Int)))
          (VT.need [(0 : Int) ≤ (↑i : Int) ∧ (↑i : Int) < (↑nC : Int), i64In (sumI C i + C (Int.toNat (↑i : Int)))]
            (VT.need [i64In ((↑i : Int) + (1 : Int))]
              (VT.done
                [(↑i : Int) + (1 : Int) = (↑(Int.toNat ((↑i : Int) + (1 : Int))) : Int),
                  sumI C i + C (Int.toNat (↑i : Int)) = sumI C (Int.toNat ((↑i : Int) + (1 : Int))), nC = nC,
                  ∀ (i : Nat), i < nC → C i = C i, nD = nD, ∀ (i : Nat), i < nD → D i = D i,
                  Int.toNat ((↑i : Int) + (1 : Int)) ≤ nC, nC - Int.toNat ((↑i : Int) + (1 : Int)) < nC - i])))
          (VT.loop Nat (fun (a : Nat) => a ≤ nD) (Int.toNat (0 : Int))
            [(0 : Int) = (↑(Int.toNat (0 : Int)) : Int), sumI C i = sumI C nC + sumI D (Int.toNat (0 : Int)), nC = nC,
              ∀ (i : Nat), i < nC → C i = C i, nD = nD, ∀ (i : Nat), i < nD → D i = D i]
            fun (i : Nat) =>
            VT.ite (decide ((↑i : Int) < (↑nD : Int)))
              (VT.need
                [(0 : Int) ≤ (↑i : Int) ∧ (↑i : Int) < (↑nD : Int), i64In (sumI C nC + sumI D i + D (Int.toNat (↑i : Int)))]
                (VT.need [i64In ((↑i : Int) + (1 : Int))]
                  (VT.done
                    [(↑i : Int) + (1 : Int) = (↑(Int.toNat ((↑i : Int) + (1 : Int))) : Int),
                      sumI C nC + sumI D i + D (Int.toNat (↑i : Int)) =
                        sumI C nC + sumI D (Int.toNat ((↑i : Int) + (1 : Int))),
                      nC = nC, ∀ (i : Nat), i < nC → C i = C i, nD = nD, ∀ (i : Nat), i < nD → D i = D i,
                      Int.toNat ((↑i : Int) + (1 : Int)) ≤ nD, nD - Int.toNat ((↑i : Int) + (1 : Int)) < nD - i])))
              (VT.done [sumI C nC + sumI D i = sumI C nC + sumI D nD]))) (by kernel_rfl) ?_
  simp only [VT.holds, AllT, imp_self, implies_true, and_true, true_and, toNat_succ, toNat_add2, toNat_zero', Int.toNat_natCast, Bool.if_true_left, Bool.if_false_right, Bool.decide_eq_true, Bool.or_eq_true, Bool.or_eq_false_iff, Bool.and_eq_true, Bool.and_eq_false_imp, Bool.not_eq_true', Bool.not_eq_false', Bool.not_not, bne_iff_ne, bne_eq_false_iff_eq, beq_iff_eq, beq_eq_false_iff_ne, decide_eq_true_eq, decide_eq_false_iff_not, ne_eq]
  have b1 := sumI_bd hC
  have b2 := sumI_bd hD
  refine ⟨⟨rfl, rfl⟩, Nat.zero_le _, fun i hi => ⟨fun hlt => ?_, fun hge => ⟨⟨rfl, by rw [show i = nC by omega, sumI, Int.add_zero]⟩, Nat.zero_le _, fun j hj => ⟨fun hlt => ?_, fun hge => by rw [show j = nD by omega]⟩⟩⟩⟩
  · have h3 := b1 i hi
    have h4 := hC i (by omega)
    exact ⟨⟨⟨by omega, by omega⟩, by unfold i64In; omega⟩, by unfold i64In; omega, rfl, rfl, by omega, by omega⟩
  · have h3 := b2 j hj
    have h4 := hD j (by omega)
    have h5 := b1 nC (Nat.le_refl _)
    exact ⟨⟨⟨by omega, by omega⟩, by unfold i64In; omega⟩, by unfold i64In; omega, rfl, by rw [sumI, Int.add_assoc], by omega, by omega⟩
noncomputable def A14_costR_c (nB : Nat) (B : Nat → Int) (nO : Nat) (O : Nat → Int) (W G L : Int) (nC : Nat) (C : Nat → Int) (nD : Nat) (D : Nat → Int) : Ann := { orc := [], loops := [(0, { ι := Nat, keep := [2, 3, 4, 5], boxes := [2, 3, 4], ts := fun _ i => [(6, dI (i : Int))], bx := fun _ i => [(5, [dI ((nD : Int) + cntN C (B (nB - 1)) i), dI (nC : Int)])], inv := fun _ i => i ≤ nC, mu := fun _ i => nC - i, rd := fun _ σ => (iOf (σ.get 6)).toNat })], cuts := [] }
theorem costR_c (nB : Nat) (B : Nat → Int) (nO : Nat) (O : Nat → Int) (W G L : Int) (nC : Nat) (C : Nat → Int) (nD : Nat) (D : Nat → Int) (h1 : 1 ≤ nB) (h2 : nB ≤ 1000) (hc : nC ≤ 1000000) (hd : nD ≤ 1000000) : FnC prog 14 [sys nB B nO O W G L, clg nC C nD D] (dP ((nD : Int) + cntN C (B (nB - 1)) nC) nC) := by
  refine FnC_owed hmix (A14_costR_c nB B nO O W G L nC C nD D) (V := VT.loop Nat (fun (a : Nat) => a ≤ nC) (Int.toNat (0 : Int))
        [(0 : Int) = (↑(Int.toNat (0 : Int)) : Int),
          (↑nD : Int) = (↑nD : Int) + cntN C (B (nB - (1 : Nat))) (Int.toNat (0 : Int)), (↑nC : Int) = (↑nC : Int), nB = nB,
          ∀ (i : Nat), i < nB → B i = B i, nO = nO, ∀ (i : Nat), i < nO → O i = O i, W = W, G = G, L = L, nC = nC,
          ∀ (i : Nat), i < nC → C i = C i, nD = nD, ∀ (i : Nat), i < nD → D i = D i, (0 : Int) = (0 : Int),
          (0 : Int) = (0 : Int)]
        fun (i : Nat) =>
        VT.ite (decide ((↑i : Int) < (↑nC : Int)))
          (VT.need
            [(0 : Int) ≤ (↑i : Int) ∧ (↑i : Int) < (↑nC : Int), i64In ((↑nB : Int) - (1 : Int)),
              (0 : Int) ≤ (↑nB : Int) - (1 : Int) ∧ (↑nB : Int) - (1 : Int) < (↑nB : Int)]
            (VT.ite (C (Int.toNat (↑i : Int)) != B (Int.toNat ((↑nB : Int) - (1 : Int))))
              (VT.need [i64In ((↑nD : Int) + cntN C (B (nB - (1 : Nat))) i + (1 : Int))]
                (VT.need [i64In ((↑i : Int) + (1 : Int))]
                  (VT.done
                    [(↑i : Int) + (1 : Int) = (↑(Int.toNat ((↑i : Int) + (1 : Int))) : Int),
                      (↑nD : Int) + cntN C (B (nB - (1 : Nat))) i + (1 : Int) =
                        (↑nD : Int) + cntN C (B (nB - (1 : Nat))) (Int.toNat ((↑i : Int) + (1 : Int))),
                      (↑nC : Int) = (↑nC : Int), nB = nB, ∀ (i : Nat), i < nB → B i = B i, nO = nO,
                      ∀ (i : Nat), i < nO → O i = O i, W = W, G = G, L = L, nC = nC, ∀ (i : Nat), i < nC → C i = C i,
                      nD = nD, ∀ (i : Nat), i < nD → D i = D i, (0 : Int) = (0 : Int), (0 : Int) = (0 : Int),
                      Int.toNat ((↑i : Int) + (1 : Int)) ≤ nC, nC - Int.toNat ((↑i : Int) + (1 : Int)) < nC - i])))
              (VT.need [i64In ((↑i : Int) + (1 : Int))]
                (VT.done
                  [(↑i : Int) + (1 : Int) = (↑(Int.toNat ((↑i : Int) + (1 : Int))) : Int),
                    (↑nD : Int) + cntN C (B (nB - (1 : Nat))) i =
                      (↑nD : Int) + cntN C (B (nB - (1 : Nat))) (Int.toNat ((↑i : Int) + (1 : Int))),
                    (↑nC : Int) = (↑nC : Int), nB = nB, ∀ (i : Nat), i < nB → B i = B i, nO = nO,
                    ∀ (i : Nat), i < nO → O i = O i, W = W, G = G, L = L, nC = nC, ∀ (i : Nat), i < nC → C i = C i, nD = nD,
                    ∀ (i : Nat), i < nD → D i = D i, (0 : Int) = (0 : Int), (0 : Int) = (0 : Int),
                    Int.toNat ((↑i : Int) + (1 : Int)) ≤ nC, nC - Int.toNat ((↑i : Int) + (1 : Int)) < nC - i]))))
          (VT.done
            [(↑nD : Int) + cntN C (B (nB - (1 : Nat))) i = (↑nD : Int) + cntN C (B (nB - (1 : Nat))) nC,
              (↑nC : Int) = (↑nC : Int)])) (by kernel_rfl) ?_
  simp only [VT.holds, AllT, imp_self, implies_true, and_true, true_and, toNat_succ, toNat_add2, toNat_zero', Int.toNat_natCast, Bool.if_true_left, Bool.if_false_right, Bool.decide_eq_true, Bool.or_eq_true, Bool.or_eq_false_iff, Bool.and_eq_true, Bool.and_eq_false_imp, Bool.not_eq_true', Bool.not_eq_false', Bool.not_not, bne_iff_ne, bne_eq_false_iff_eq, beq_iff_eq, beq_eq_false_iff_ne, decide_eq_true_eq, decide_eq_false_iff_not, ne_eq]
  have e : ((nB : Int) - 1).toNat = nB - 1 := by omega
  simp only [e]
  refine ⟨⟨rfl, by simp [cntN]⟩, Nat.zero_le _, fun i hi => ⟨fun hlt => ⟨⟨⟨by omega, by omega⟩, by unfold i64In; omega, by omega, by omega⟩, fun hne => ?_, fun he => ?_⟩, fun hge => by rw [show i = nC by omega]⟩⟩
  · have := cntN_bd C (B (nB - 1)) i
    exact ⟨by unfold i64In; omega, by unfold i64In; omega, rfl, by simp only [cntN]; rw [if_neg hne]; omega, by omega, by omega⟩
  · have := cntN_bd C (B (nB - 1)) i
    exact ⟨by unfold i64In; omega, rfl, by simp only [cntN]; rw [if_pos he]; omega, by omega, by omega⟩
noncomputable def A12_checkR_c (nB : Nat) (B : Nat → Int) (nO : Nat) (O : Nat → Int) (W G L len : Int) (nC : Nat) (C : Nat → Int) (nD : Nat) (D : Nat → Int) : Ann := { orc := [(1, [(2, rCk)]), (4, [(1, rSum)])], loops := [], cuts := [] }
theorem checkR_c (nB : Nat) (B : Nat → Int) (nO : Nat) (O : Nat → Int) (W G L len : Int) (nC : Nat) (C : Nat → Int) (nD : Nat) (D : Nat → Int) (hs : sysE nB B nO O W G L = 0) (hc : nC ≤ 1000000) (hd : nD ≤ 1000000) : FnC prog 12 [sys nB B nO O W G L, dI len, clg nC C nD D] (dI (closesE nB B nO O nC C nD D len)) := by
  refine FnC_owed hmix (A12_checkR_c nB B nO O W G L len nC C nD D) (V := VT.need
        [FnC prog (29 : Nat)
            [DV.agg
                [DV.lst nB [fun (i : Nat) => DV.val (Value.int IntKind.i64 (B i))],
                  DV.lst nO [fun (i : Nat) => DV.val (Value.int IntKind.i64 (O i))], DV.val (Value.int IntKind.i64 W),
                  DV.val (Value.int IntKind.i64 G), DV.val (Value.int IntKind.i64 L)],
              DV.agg
                [DV.lst nC [fun (i : Nat) => DV.val (Value.int IntKind.i64 (C i))],
                  DV.lst nD [fun (i : Nat) => DV.val (Value.int IntKind.i64 (D i))]]]
            (DV.val (Value.int IntKind.i64 (ckE nB B nO O nC C nD D)))]
        (VT.ite (ckE nB B nO O nC C nD D != (0 : Int)) (VT.done [ckE nB B nO O nC C nD D = closesE nB B nO O nC C nD D len])
          (VT.need
            [FnC prog (30 : Nat)
                [DV.agg
                    [DV.lst nC [fun (i : Nat) => DV.val (Value.int IntKind.i64 (C i))],
                      DV.lst nD [fun (i : Nat) => DV.val (Value.int IntKind.i64 (D i))]]]
                (DV.val (Value.int IntKind.i64 (sumI C nC + sumI D nD)))]
            (VT.ite (sumI C nC + sumI D nD != len) (VT.done [(25 : Int) = closesE nB B nO O nC C nD D len])
              (VT.done [(0 : Int) = closesE nB B nO O nC C nD D len]))))) (by kernel_rfl) ?_
  simp only [VT.holds, AllT, imp_self, implies_true, and_true, true_and, toNat_succ, toNat_add2, toNat_zero', Int.toNat_natCast, Bool.if_true_left, Bool.if_false_right, Bool.decide_eq_true, Bool.or_eq_true, Bool.or_eq_false_iff, Bool.and_eq_true, Bool.and_eq_false_imp, Bool.not_eq_true', Bool.not_eq_false', Bool.not_not, bne_iff_ne, bne_eq_false_iff_eq, beq_iff_eq, beq_eq_false_iff_ne, decide_eq_true_eq, decide_eq_false_iff_not, ne_eq]
  obtain ⟨s1, s2, s3, _⟩ := sys_ok hs
  refine ⟨ckR_c nB B nO O W G L nC C nD D (by omega) (by omega) hc hd, fun h => by rw [closesE, if_neg h], fun h => ?_⟩
  obtain ⟨bC, bD⟩ := ck_bd hs h
  exact ⟨sumR_c nC C nD D hc hd bC bD, fun h2 => by rw [closesE, if_pos h, if_neg h2], fun h2 => by rw [closesE, if_pos h, if_pos h2]⟩
end Go.Abs
