/- Contracts. -/
import Derived.Test.YtpllaeomcjplnaaLa
set_option linter.unusedVariables false
set_option linter.unusedSimpArgs false
set_option maxRecDepth 100000
namespace Go.Abs
open Go
abbrev dP (x y : Int) : DV := .val (.agg #[.int .i64 x, .int .i64 y])
abbrev aN (l : List DV) : Nat := lenOf (arg l 0)
abbrev aX (l : List DV) : Nat → Int := colI 0 (arg l 0)
abbrev aI (l : List DV) (j : Nat) : Int := iOf (arg l j)
theorem toNat_succ (i : Nat) : Int.toNat ((i : Int) + 1) = i + 1 := by omega
theorem toNat_add2 (i : Nat) : Int.toNat ((i : Int) + 2) = i + 2 := by omega
theorem toNat_zero' : Int.toNat (0 : Int) = 0 := rfl
/-- r is the first number below n at which p holds, or -1. -/
def IsFirst (p : Nat → Bool) (n : Nat) (r : Int) : Prop := (r = -1 ∧ ∀ j, j < n → p j = false) ∨ ∃ i : Nat, i < n ∧ r = i ∧ p i = true ∧ ∀ j, j < i → p j = false
theorem isFirst_exists (p : Nat → Bool) (n : Nat) : ∃ r, IsFirst p n r := by
  induction n with
  | zero => exact ⟨-1, .inl ⟨rfl, fun j h => by omega⟩⟩
  | succ n ih =>
    obtain ⟨r, ⟨h1, h2⟩ | ⟨i, h1, h2, h3, h4⟩⟩ := ih
    · cases hp : p n with
      | true => exact ⟨n, .inr ⟨n, by omega, rfl, hp, h2⟩⟩
      | false =>
        refine ⟨-1, .inl ⟨rfl, fun j h => ?_⟩⟩
        by_cases e : j = n
        · rw [e]; exact hp
        · exact h2 j (by omega)
    · exact ⟨r, .inr ⟨i, by omega, h2, h3, h4⟩⟩
/-- Some number below n at which p holds. -/
def anyN (p : Nat → Bool) (n : Nat) : Bool := !decide (∀ k, k < n → p k = false)
theorem first_any {p : Nat → Bool} {n : Nat} {r : Int} (h : IsFirst p n r) : decide (r ≥ 0) = anyN p n := by
  unfold anyN
  rcases h with ⟨h1, h2⟩ | ⟨i, h1, h2, h3, h4⟩
  · rw [decide_eq_true h2, h1]; rfl
  · have hf : ¬ ∀ k, k < n → p k = false := fun h => by rw [h i h1] at h3; cases h3
    rw [decide_eq_false hf, h2]; simp
def inR (x lo hi : Int) : Bool := decide (lo ≤ x ∧ x ≤ hi)
def rIn : Orc := .res fun l => dB (inR (aI l 0) (aI l 1) (aI l 2))
def badL (x : Int) : Bool := !inR x 1 10000
def rBadL : Orc := .res fun l => dB (badL (aI l 0))
theorem first_step {p : Nat → Bool} {n i : Nat} {r : Int} (h : IsFirst p n r) (hi : i < n) (hb : ∀ j, j < i → p j = false) (hp : p i = true) : r = i := by
  rcases h with ⟨h1, h2⟩ | ⟨k, h1, h2, h3, h4⟩
  · rw [h2 i hi] at hp; cases hp
  · rcases Nat.lt_trichotomy i k with hk | hk | hk
    · rw [h4 i hk] at hp; cases hp
    · rw [h2, hk]
    · rw [hb k hk] at h3; cases h3
theorem first_none {p : Nat → Bool} {n : Nat} {r : Int} (h : IsFirst p n r) (hb : ∀ j, j < n → p j = false) : r = -1 := by
  rcases h with ⟨h1, h2⟩ | ⟨k, h1, h2, h3, h4⟩
  · exact h1
  · rw [hb k h1] at h3; cases h3
noncomputable def A47_within_c (n lo hi : Int) : Ann := { orc := [], loops := [], cuts := [] }
theorem within_c (n lo hi : Int)  : FnC prog 47 [dI n, dI lo, dI hi] (dB (inR n lo hi)) := by
  refine FnC_owed hmix (A47_within_c n lo hi) (V := VT.need
        [decide (n ≥ lo) = true → decide (n ≥ lo) = true, decide (n ≥ lo) = true → decide (n ≥ lo) = true,
          decide (n ≥ lo) = true → decide (n ≥ lo) = true]
        (VT.done [(if decide (n ≥ lo) = true then decide (n ≤ hi) else false) = inR n lo hi])) (by kernel_rfl) ?_
  simp only [VT.holds, AllT, imp_self, implies_true, and_true, true_and, toNat_succ, toNat_add2, toNat_zero', Int.toNat_natCast, Bool.if_true_left, Bool.if_false_right, Bool.decide_eq_true, Bool.or_eq_true, Bool.or_eq_false_iff, Bool.and_eq_true, Bool.and_eq_false_imp, Bool.not_eq_true', Bool.not_eq_false', Bool.not_not, bne_iff_ne, bne_eq_false_iff_eq, beq_iff_eq, beq_eq_false_iff_ne, decide_eq_true_eq, decide_eq_false_iff_not, ne_eq]
  simp [inR]
noncomputable def A15_withinR_c (n lo hi : Int) : Ann := { orc := [], loops := [], cuts := [] }
theorem withinR_c (n lo hi : Int)  : FnC prog 15 [dI n, dI lo, dI hi] (dB (inR n lo hi)) := by
  refine FnC_owed hmix (A15_withinR_c n lo hi) (V := VT.need
        [decide (n ≥ lo) = true → decide (n ≥ lo) = true, decide (n ≥ lo) = true → decide (n ≥ lo) = true,
          decide (n ≥ lo) = true → decide (n ≥ lo) = true]
        (VT.done [(if decide (n ≥ lo) = true then decide (n ≤ hi) else false) = inR n lo hi])) (by kernel_rfl) ?_
  simp only [VT.holds, AllT, imp_self, implies_true, and_true, true_and, toNat_succ, toNat_add2, toNat_zero', Int.toNat_natCast, Bool.if_true_left, Bool.if_false_right, Bool.decide_eq_true, Bool.or_eq_true, Bool.or_eq_false_iff, Bool.and_eq_true, Bool.and_eq_false_imp, Bool.not_eq_true', Bool.not_eq_false', Bool.not_not, bne_iff_ne, bne_eq_false_iff_eq, beq_iff_eq, beq_eq_false_iff_ne, decide_eq_true_eq, decide_eq_false_iff_not, ne_eq]
  simp [inR]
noncomputable def A66_bad_c (n : Int) : Ann := { orc := [(1, [(1, rIn)])], loops := [], cuts := [] }
theorem bad_c (n : Int)  : FnC prog 66 [dI n] (dB (badL n)) := by
  refine FnC_owed hmix (A66_bad_c n) (V := VT.need
        [FnC prog (47 : Nat)
            [DV.val (Value.int IntKind.i64 n), DV.val (Value.int IntKind.i64 (1 : Int)),
              DV.val (Value.int IntKind.i64 (10000 : Int))]
            (DV.val (Value.bool (inR n (1 : Int) (10000 : Int))))]
        (VT.done [(!inR n (1 : Int) (10000 : Int)) = badL n])) (by kernel_rfl) ?_
  simp only [VT.holds, AllT, imp_self, implies_true, and_true, true_and, toNat_succ, toNat_add2, toNat_zero', Int.toNat_natCast, Bool.if_true_left, Bool.if_false_right, Bool.decide_eq_true, Bool.or_eq_true, Bool.or_eq_false_iff, Bool.and_eq_true, Bool.and_eq_false_imp, Bool.not_eq_true', Bool.not_eq_false', Bool.not_not, bne_iff_ne, bne_eq_false_iff_eq, beq_iff_eq, beq_eq_false_iff_ne, decide_eq_true_eq, decide_eq_false_iff_not, ne_eq]
  exact ⟨within_c _ _ _, rfl⟩
noncomputable def A67_index_c (g : Nat) (p : Int → Bool) (n : Nat) (A : Nat → Int) (r : Int) : Ann := { orc := [(4, [(5, .res fun l => dB (p (aI l 0)))])], loops := [(0, { ι := Nat, keep := [0, 1, 7], boxes := [], ts := fun _ i => [(8, dI (i : Int))], inv := fun _ i => i ≤ n ∧ ∀ j, j < i → p (A j) = false, mu := fun _ i => n - i, rd := fun _ σ => (iOf (σ.get 8)).toNat })], cuts := [] }
theorem index_c (g : Nat) (p : Int → Bool) (n : Nat) (A : Nat → Int) (r : Int) (hn2 : n ≤ 1000000) (hg : ∀ x, FnC prog g [dI x] (dB (p x))) (h : IsFirst (fun k => p (A k)) n r) : FnC prog 67 [nums n A, .val (.func (.func g) #[] #[])] (dI r) := by
  refine FnC_owed hmix (A67_index_c g p n A r) (V := VT.loop Nat (fun (a : Nat) => a ≤ n ∧ ∀ (j : Nat), j < a → p (A j) = false) (Int.toNat (0 : Int))
        [(0 : Int) = (↑(Int.toNat (0 : Int)) : Int), n = n, ∀ (i : Nat), i < n → A i = A i,
          Value.func (Fn.func g) { toList := [] } { toList := [] } =
            Value.func (Fn.func g) { toList := [] } { toList := [] },
          (↑n : Int) = (↑n : Int)]
        fun (i : Nat) =>
        VT.ite (decide ((↑i : Int) < (↑n : Int)))
          (VT.need
            [(0 : Int) ≤ (↑i : Int) ∧ (↑i : Int) < (↑n : Int),
              FnC prog g [DV.val (Value.int IntKind.i64 (A (Int.toNat (↑i : Int))))]
                (DV.val (Value.bool (p (A (Int.toNat (↑i : Int))))))]
            (VT.ite (p (A (Int.toNat (↑i : Int)))) (VT.done [(↑i : Int) = r])
              (VT.need [i64In ((↑i : Int) + (1 : Int))]
                (VT.done
                  [(↑i : Int) + (1 : Int) = (↑(Int.toNat ((↑i : Int) + (1 : Int))) : Int), n = n,
                    ∀ (i : Nat), i < n → A i = A i,
                    Value.func (Fn.func g) { toList := [] } { toList := [] } =
                      Value.func (Fn.func g) { toList := [] } { toList := [] },
                    (↑n : Int) = (↑n : Int),
                    Int.toNat ((↑i : Int) + (1 : Int)) ≤ n ∧
                      ∀ (j : Nat), j < Int.toNat ((↑i : Int) + (1 : Int)) → p (A j) = false,
                    n - Int.toNat ((↑i : Int) + (1 : Int)) < n - i]))))
          (VT.done [(-1 : Int) = r])) (by kernel_rfl) ?_
  simp only [VT.holds, AllT, imp_self, implies_true, and_true, true_and, toNat_succ, toNat_add2, toNat_zero', Int.toNat_natCast, Bool.if_true_left, Bool.if_false_right, Bool.decide_eq_true, Bool.or_eq_true, Bool.or_eq_false_iff, Bool.and_eq_true, Bool.and_eq_false_imp, Bool.not_eq_true', Bool.not_eq_false', Bool.not_not, bne_iff_ne, bne_eq_false_iff_eq, beq_iff_eq, beq_eq_false_iff_ne, decide_eq_true_eq, decide_eq_false_iff_not, ne_eq]
  refine ⟨rfl, ⟨Nat.zero_le n, fun j hj => by omega⟩, fun i ⟨hi, hb⟩ => ⟨fun hlt => ⟨⟨by omega, hg _⟩, fun hbad => (first_step h (by omega) hb hbad).symm, fun hok => ⟨by unfold i64In; omega, rfl, ⟨by omega, fun j hj => ?_⟩, by omega⟩⟩, fun hge => (first_none h fun j hj => hb j (by omega)).symm⟩⟩
  by_cases e : j = i
  · rw [e]; exact hok
  · exact hb j (by omega)
noncomputable def A67_indexC_c (p : Int → Bool) (n : Nat) (A : Nat → Int) (m : Nat) (O : Nat → Int) (r : Int) : Ann := { orc := [(4, [(5, .res fun l => dB (p (aI l 0)))])], loops := [(0, { ι := Nat, keep := [0, 1, 7], boxes := [], ts := fun _ i => [(8, dI (i : Int))], inv := fun _ i => i ≤ n ∧ ∀ j, j < i → p (A j) = false, mu := fun _ i => n - i, rd := fun _ σ => (iOf (σ.get 8)).toNat })], cuts := [] }
theorem indexC_c (p : Int → Bool) (n : Nat) (A : Nat → Int) (m : Nat) (O : Nat → Int) (r : Int) (hn2 : n ≤ 1000000) (hg : ∀ x, FnC prog 51 [dI x, .cptr [nums m O]] (dB (p x))) (h : IsFirst (fun k => p (A k)) n r) : FnC prog 67 [nums n A, .clo 51 [.cptr [nums m O]]] (dI r) := by
  refine FnC_owed hmix (A67_indexC_c p n A m O r) (V := VT.loop Nat (fun (a : Nat) => a ≤ n ∧ ∀ (j : Nat), j < a → p (A j) = false) (Int.toNat (0 : Int))
        [(0 : Int) = (↑(Int.toNat (0 : Int)) : Int), n = n, ∀ (i : Nat), i < n → A i = A i, m = m,
          ∀ (i : Nat), i < m → O i = O i, (↑n : Int) = (↑n : Int)]
        fun (i : Nat) =>
        VT.ite (decide ((↑i : Int) < (↑n : Int)))
          (VT.need
            [(0 : Int) ≤ (↑i : Int) ∧ (↑i : Int) < (↑n : Int),
              FnC prog (51 : FuncId)
                [DV.val (Value.int IntKind.i64 (A (Int.toNat (↑i : Int)))),
                  DV.cptr [DV.lst m [fun (i : Nat) => DV.val (Value.int IntKind.i64 (O i))]]]
                (DV.val (Value.bool (p (A (Int.toNat (↑i : Int))))))]
            (VT.ite (p (A (Int.toNat (↑i : Int)))) (VT.done [(↑i : Int) = r])
              (VT.need [i64In ((↑i : Int) + (1 : Int))]
                (VT.done
                  [(↑i : Int) + (1 : Int) = (↑(Int.toNat ((↑i : Int) + (1 : Int))) : Int), n = n,
                    ∀ (i : Nat), i < n → A i = A i, m = m, ∀ (i : Nat), i < m → O i = O i, (↑n : Int) = (↑n : Int),
                    Int.toNat ((↑i : Int) + (1 : Int)) ≤ n ∧
                      ∀ (j : Nat), j < Int.toNat ((↑i : Int) + (1 : Int)) → p (A j) = false,
                    n - Int.toNat ((↑i : Int) + (1 : Int)) < n - i]))))
          (VT.done [(-1 : Int) = r])) (by kernel_rfl) ?_
  simp only [VT.holds, AllT, imp_self, implies_true, and_true, true_and, toNat_succ, toNat_add2, toNat_zero', Int.toNat_natCast, Bool.if_true_left, Bool.if_false_right, Bool.decide_eq_true, Bool.or_eq_true, Bool.or_eq_false_iff, Bool.and_eq_true, Bool.and_eq_false_imp, Bool.not_eq_true', Bool.not_eq_false', Bool.not_not, bne_iff_ne, bne_eq_false_iff_eq, beq_iff_eq, beq_eq_false_iff_ne, decide_eq_true_eq, decide_eq_false_iff_not, ne_eq]
  refine ⟨rfl, ⟨Nat.zero_le n, fun j hj => by omega⟩, fun i ⟨hi, hb⟩ => ⟨fun hlt => ⟨⟨by omega, hg _⟩, fun hbad => (first_step h (by omega) hb hbad).symm, fun hok => ⟨by unfold i64In; omega, rfl, ⟨by omega, fun j hj => ?_⟩, by omega⟩⟩, fun hge => (first_none h fun j hj => hb j (by omega)).symm⟩⟩
  by_cases e : j = i
  · rw [e]; exact hok
  · exact hb j (by omega)
noncomputable def A50_contains_c (g : Nat) (p : Int → Bool) (n : Nat) (A : Nat → Int) (r : Int) : Ann := { orc := [(1, [(2, .res fun _ => dI r)])], loops := [], cuts := [] }
theorem contains_c (g : Nat) (p : Int → Bool) (n : Nat) (A : Nat → Int) (r : Int) (hn2 : n ≤ 1000000) (hg : ∀ x, FnC prog g [dI x] (dB (p x))) (h : IsFirst (fun k => p (A k)) n r) : FnC prog 50 [nums n A, .val (.func (.func g) #[] #[])] (dB (anyN (fun k => p (A k)) n)) := by
  refine FnC_owed hmix (A50_contains_c g p n A r) (V := VT.need
        [FnC prog (67 : Nat)
            [DV.lst n [fun (i : Nat) => DV.val (Value.int IntKind.i64 (A i))],
              DV.val (Value.func (Fn.func g) { toList := [] } { toList := [] })]
            (DV.val (Value.int IntKind.i64 r))]
        (VT.done [decide (r ≥ (0 : Int)) = anyN (fun (k : Nat) => p (A k)) n])) (by kernel_rfl) ?_
  simp only [VT.holds, AllT, imp_self, implies_true, and_true, true_and, toNat_succ, toNat_add2, toNat_zero', Int.toNat_natCast, Bool.if_true_left, Bool.if_false_right, Bool.decide_eq_true, Bool.or_eq_true, Bool.or_eq_false_iff, Bool.and_eq_true, Bool.and_eq_false_imp, Bool.not_eq_true', Bool.not_eq_false', Bool.not_not, bne_iff_ne, bne_eq_false_iff_eq, beq_iff_eq, beq_eq_false_iff_ne, decide_eq_true_eq, decide_eq_false_iff_not, ne_eq]
  exact ⟨index_c g p n A r hn2 hg h, first_any h⟩
noncomputable def A50_containsC_c (p : Int → Bool) (n : Nat) (A : Nat → Int) (m : Nat) (O : Nat → Int) (r : Int) : Ann := { orc := [(1, [(2, .res fun _ => dI r)])], loops := [], cuts := [] }
theorem containsC_c (p : Int → Bool) (n : Nat) (A : Nat → Int) (m : Nat) (O : Nat → Int) (r : Int) (hn2 : n ≤ 1000000) (hg : ∀ x, FnC prog 51 [dI x, .cptr [nums m O]] (dB (p x))) (h : IsFirst (fun k => p (A k)) n r) : FnC prog 50 [nums n A, .clo 51 [.cptr [nums m O]]] (dB (anyN (fun k => p (A k)) n)) := by
  refine FnC_owed hmix (A50_containsC_c p n A m O r) (V := VT.need
        [FnC prog (67 : Nat)
            [DV.lst n [fun (i : Nat) => DV.val (Value.int IntKind.i64 (A i))],
              DV.clo (51 : FuncId) [DV.cptr [DV.lst m [fun (i : Nat) => DV.val (Value.int IntKind.i64 (O i))]]]]
            (DV.val (Value.int IntKind.i64 r))]
        (VT.done [decide (r ≥ (0 : Int)) = anyN (fun (k : Nat) => p (A k)) n])) (by kernel_rfl) ?_
  simp only [VT.holds, AllT, imp_self, implies_true, and_true, true_and, toNat_succ, toNat_add2, toNat_zero', Int.toNat_natCast, Bool.if_true_left, Bool.if_false_right, Bool.decide_eq_true, Bool.or_eq_true, Bool.or_eq_false_iff, Bool.and_eq_true, Bool.and_eq_false_imp, Bool.not_eq_true', Bool.not_eq_false', Bool.not_not, bne_iff_ne, bne_eq_false_iff_eq, beq_iff_eq, beq_eq_false_iff_ne, decide_eq_true_eq, decide_eq_false_iff_not, ne_eq]
  exact ⟨indexC_c p n A m O r hn2 hg h, first_any h⟩
noncomputable def A68_indexV_c (n : Nat) (A : Nat → Int) (v : Int) (r : Int) : Ann := { orc := [], loops := [(0, { ι := Nat, keep := [0, 1, 7], boxes := [], ts := fun _ i => [(8, dI (i : Int))], inv := fun _ i => i ≤ n ∧ ∀ j, j < i → (A j == v) = false, mu := fun _ i => n - i, rd := fun _ σ => (iOf (σ.get 8)).toNat })], cuts := [] }
theorem indexV_c (n : Nat) (A : Nat → Int) (v : Int) (r : Int) (hn2 : n ≤ 1000000) (h : IsFirst (fun k => A k == v) n r) : FnC prog 68 [nums n A, dI v] (dI r) := by
  refine FnC_owed hmix (A68_indexV_c n A v r) (V := VT.loop Nat (fun (a : Nat) => a ≤ n ∧ ∀ (j : Nat), j < a → (A j == v) = false) (Int.toNat (0 : Int))
        [(0 : Int) = (↑(Int.toNat (0 : Int)) : Int), n = n, ∀ (i : Nat), i < n → A i = A i, v = v, (↑n : Int) = (↑n : Int)]
        fun (i : Nat) =>
        VT.ite (decide ((↑i : Int) < (↑n : Int)))
          (VT.need [(0 : Int) ≤ (↑i : Int) ∧ (↑i : Int) < (↑n : Int)]
            (VT.ite (v == A (Int.toNat (↑i : Int))) (VT.done [(↑i : Int) = r])
              (VT.need [i64In ((↑i : Int) + (1 : Int))]
                (VT.done
                  [(↑i : Int) + (1 : Int) = (↑(Int.toNat ((↑i : Int) + (1 : Int))) : Int), n = n,
                    ∀ (i : Nat), i < n → A i = A i, v = v, (↑n : Int) = (↑n : Int),
                    Int.toNat ((↑i : Int) + (1 : Int)) ≤ n ∧
                      ∀ (j : Nat), j < Int.toNat ((↑i : Int) + (1 : Int)) → (A j == v) = false,
                    n - Int.toNat ((↑i : Int) + (1 : Int)) < n - i]))))
          (VT.done [(-1 : Int) = r])) (by kernel_rfl) ?_
  simp only [VT.holds, AllT, imp_self, implies_true, and_true, true_and, toNat_succ, toNat_add2, toNat_zero', Int.toNat_natCast, Bool.if_true_left, Bool.if_false_right, Bool.decide_eq_true, Bool.or_eq_true, Bool.or_eq_false_iff, Bool.and_eq_true, Bool.and_eq_false_imp, Bool.not_eq_true', Bool.not_eq_false', Bool.not_not, bne_iff_ne, bne_eq_false_iff_eq, beq_iff_eq, beq_eq_false_iff_ne, decide_eq_true_eq, decide_eq_false_iff_not, ne_eq]
  refine ⟨rfl, ⟨Nat.zero_le n, fun j hj => by omega⟩, fun i ⟨hi, hb⟩ => ⟨fun hlt => ⟨by omega, fun hbad => (first_step h (by omega) (fun j hj => by simpa using hb j hj) (by simp [hbad])).symm, fun hok => ⟨by unfold i64In; omega, rfl, ⟨by omega, fun j hj => ?_⟩, by omega⟩⟩, fun hge => (first_none h fun j hj => by simpa using hb j (by omega)).symm⟩⟩
  by_cases e : j = i
  · rw [e]; exact fun e => hok e.symm
  · exact hb j (by omega)
noncomputable def A52_containsV_c (n : Nat) (A : Nat → Int) (v : Int) (r : Int) : Ann := { orc := [(1, [(2, .res fun _ => dI r)])], loops := [], cuts := [] }
theorem containsV_c (n : Nat) (A : Nat → Int) (v : Int) (r : Int) (hn2 : n ≤ 1000000) (h : IsFirst (fun k => A k == v) n r) : FnC prog 52 [nums n A, dI v] (dB (anyN (fun k => A k == v) n)) := by
  refine FnC_owed hmix (A52_containsV_c n A v r) (V := VT.need
        [FnC prog (68 : Nat)
            [DV.lst n [fun (i : Nat) => DV.val (Value.int IntKind.i64 (A i))], DV.val (Value.int IntKind.i64 v)]
            (DV.val (Value.int IntKind.i64 r))]
        (VT.done [decide (r ≥ (0 : Int)) = anyN (fun (k : Nat) => A k == v) n])) (by kernel_rfl) ?_
  simp only [VT.holds, AllT, imp_self, implies_true, and_true, true_and, toNat_succ, toNat_add2, toNat_zero', Int.toNat_natCast, Bool.if_true_left, Bool.if_false_right, Bool.decide_eq_true, Bool.or_eq_true, Bool.or_eq_false_iff, Bool.and_eq_true, Bool.and_eq_false_imp, Bool.not_eq_true', Bool.not_eq_false', Bool.not_not, bne_iff_ne, bne_eq_false_iff_eq, beq_iff_eq, beq_eq_false_iff_ne, decide_eq_true_eq, decide_eq_false_iff_not, ne_eq]
  exact ⟨indexV_c n A v r hn2 h, first_any h⟩
noncomputable def A51_missing_c (x : Int) (m : Nat) (O : Nat → Int) : Ann := { orc := [(1, [(2, .res fun l => dB (anyN (fun k => aX l k == aI l 1) (aN l)))])], loops := [], cuts := [] }
theorem missing_c (x : Int) (m : Nat) (O : Nat → Int) (hm : m ≤ 1000000) : FnC prog 51 [dI x, .cptr [nums m O]] (dB (!(anyN (fun k => O k == x) m))) := by
  refine FnC_owed hmix (A51_missing_c x m O) (V := VT.need
        [FnC prog (52 : Nat)
            [DV.lst m [fun (i : Nat) => DV.val (Value.int IntKind.i64 (O i))], DV.val (Value.int IntKind.i64 x)]
            (DV.val (Value.bool (anyN (fun (k : Nat) => O k == x) m)))]
        (VT.done [(!anyN (fun (k : Nat) => O k == x) m) = !anyN (fun (k : Nat) => O k == x) m])) (by kernel_rfl) ?_
  simp only [VT.holds, AllT, imp_self, implies_true, and_true, true_and, toNat_succ, toNat_add2, toNat_zero', Int.toNat_natCast, Bool.if_true_left, Bool.if_false_right, Bool.decide_eq_true, Bool.or_eq_true, Bool.or_eq_false_iff, Bool.and_eq_true, Bool.and_eq_false_imp, Bool.not_eq_true', Bool.not_eq_false', Bool.not_not, bne_iff_ne, bne_eq_false_iff_eq, beq_iff_eq, beq_eq_false_iff_ne, decide_eq_true_eq, decide_eq_false_iff_not, ne_eq]
  obtain ⟨r, hr⟩ := isFirst_exists (fun k => O k == x) m
  exact containsV_c m O x r hm hr
noncomputable def A49_others_c (n : Nat) (A : Nat → Int) (m : Nat) (O : Nat → Int) : Ann := { orc := [(1, [(2, .res fun l => dB (anyN (fun k => !(anyN (fun j => O j == aX l k) m)) (aN l)))])], loops := [], cuts := [] }
theorem others_c (n : Nat) (A : Nat → Int) (m : Nat) (O : Nat → Int) (hn : n ≤ 1000000) (hm : m ≤ 1000000) : FnC prog 49 [nums n A, nums m O] (dB (anyN (fun k => !(anyN (fun j => O j == A k) m)) n)) := by
  refine FnC_owed hmix (A49_others_c n A m O) (V := VT.need
        [FnC prog (50 : Nat)
            [DV.lst n [fun (i : Nat) => DV.val (Value.int IntKind.i64 (A i))],
              DV.clo (51 : Nat) [DV.cptr [DV.lst m [fun (i : Nat) => DV.val (Value.int IntKind.i64 (O i))]]]]
            (DV.val (Value.bool (anyN (fun (k : Nat) => !anyN (fun (j : Nat) => O j == A k) m) n)))]
        (VT.done
          [anyN (fun (k : Nat) => !anyN (fun (j : Nat) => O j == A k) m) n =
              anyN (fun (k : Nat) => !anyN (fun (j : Nat) => O j == A k) m) n])) (by kernel_rfl) ?_
  simp only [VT.holds, AllT, imp_self, implies_true, and_true, true_and, toNat_succ, toNat_add2, toNat_zero', Int.toNat_natCast, Bool.if_true_left, Bool.if_false_right, Bool.decide_eq_true, Bool.or_eq_true, Bool.or_eq_false_iff, Bool.and_eq_true, Bool.and_eq_false_imp, Bool.not_eq_true', Bool.not_eq_false', Bool.not_not, bne_iff_ne, bne_eq_false_iff_eq, beq_iff_eq, beq_eq_false_iff_ne, decide_eq_true_eq, decide_eq_false_iff_not, ne_eq]
  obtain ⟨r, hr⟩ := isFirst_exists (fun k => !(anyN (fun j => O j == A k) m)) n
  exact containsC_c (fun x => !(anyN (fun j => O j == x) m)) n A m O r hn (fun x => missing_c x m O hm) hr
noncomputable def A70_fall_c (a b : Int) : Ann := { orc := [], loops := [], cuts := [] }
theorem fall_c (a b : Int) (h1 : -1000000000 ≤ a ∧ a ≤ 1000000000) (h2 : -1000000000 ≤ b ∧ b ≤ 1000000000) : FnC prog 70 [dI a, dI b] (dI (b - a)) := by
  refine FnC_owed hmix (A70_fall_c a b) (V := VT.need [i64In (b - a)] (VT.done [b - a = b - a])) (by kernel_rfl) ?_
  simp only [VT.holds, AllT, imp_self, implies_true, and_true, true_and, toNat_succ, toNat_add2, toNat_zero', Int.toNat_natCast, Bool.if_true_left, Bool.if_false_right, Bool.decide_eq_true, Bool.or_eq_true, Bool.or_eq_false_iff, Bool.and_eq_true, Bool.and_eq_false_imp, Bool.not_eq_true', Bool.not_eq_false', Bool.not_not, bne_iff_ne, bne_eq_false_iff_eq, beq_iff_eq, beq_eq_false_iff_ne, decide_eq_true_eq, decide_eq_false_iff_not, ne_eq]
  unfold i64In; omega
end Go.Abs
