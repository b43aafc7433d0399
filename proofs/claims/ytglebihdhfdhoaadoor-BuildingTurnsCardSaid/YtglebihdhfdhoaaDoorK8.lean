/- Contracts. -/
import Derived.Test.YtglebihdhfdhoaaDoorK7
set_option linter.unusedVariables false
set_option linter.unusedSimpArgs false
set_option maxRecDepth 100000
namespace Go.Abs
open Go
/-- The length of a side. -/
def lenW (n : Nat) (X Y : Nat → Int) (i : Int) : Int := ((X (ix n (i + 1)) - X (ix n i)).natAbs : Int) + ((Y (ix n (i + 1)) - Y (ix n i)).natAbs : Int)
/-- The sides of an outline, by columns. -/
abbrev wcols (n : Nat) (X Y : Nat → Int) : List (Nat → DV) := [fun i => dI (X i), fun i => dI (Y i), fun i => dI (X (ix n ((i : Int) + 1))), fun i => dI (Y (ix n ((i : Int) + 1))), fun i => dI (lenW n X Y i), fun i => dI (dD n X Y i)]
def rWalls : Orc := .res fun l => .tup [.lst (coN (aN l) (aX l) (aY l)) (wcols (aN l) (aX l) (aY l)), dI (chk (aN l) (aX l) (aY l))]
def rWallsR : Orc := .res fun l => .lst (aN l) (wcols (aN l) (aX l) (aY l))
def rCorR : Orc := .res fun l => .lst (aN l) [fun k => dI (cor (aN l) (aX l) (aY l) k)]
def rAreaR : Orc := .res fun l => dI (twS (aN l) (aX l) (aY l) (aN l) / 2)
theorem dO_of_chk {n : Nat} {X Y : Nat → Int} (h : chk n X Y = 0) {i : Nat} (hi : i < n) : dO n X Y i = true := by
  have := (chk_zero h).2.2.1 i hi
  simp only [formOk, Bool.and_eq_true] at this
  exact this.1.1
theorem last_if {f : Nat → Int} {i : Nat} {s : Int} (h : s = f i) : ∀ k, k < i + 1 → (if k < i then f k else s) = f k := fun k hk => by
  by_cases e : k < i
  · rw [if_pos e]
  · rw [if_neg e, h, show k = i by omega]
theorem ix_cast {n : Nat} (hn : 0 < n) (j : Int) : ((ix n j : Nat) : Int) = j % n := by
  unfold ix
  rw [Int.add_emod_right, Int.toNat_of_nonneg (Int.emod_nonneg _ (by omega))]
theorem ix_ix {n : Nat} (hn : 0 < n) (j : Int) : ix n (ix n j) = ix n j := by
  have h : ix n ((ix n j : Nat) : Int) = ((((ix n j : Nat) : Int) + n) % n).toNat := rfl
  rw [h, ix_cast hn, Int.add_emod_right, Int.emod_emod]
  unfold ix
  rw [Int.add_emod_right]
theorem ix_ix1 {n : Nat} (hn : 0 < n) (j : Int) : ix n ((ix n j : Nat) + 1) = ix n (j + 1) := by
  have h : ix n (((ix n j : Nat) : Int) + 1) = ((((ix n j : Nat) : Int) + 1 + n) % n).toNat := rfl
  rw [h, ix_cast hn, Int.add_emod_right, Int.emod_add_emod]
  unfold ix
  rw [Int.add_emod_right]
theorem dD_ix {n : Nat} {X Y : Nat → Int} (hn : 0 < n) (j : Int) : dD n X Y ((ix n j : Nat) : Int) = dD n X Y j := by
  unfold dD
  rw [ix_ix hn, ix_ix1 hn]
noncomputable def A68_absR_c (x : Int) : Ann := { orc := [], loops := [], cuts := [] }
theorem absR_c (x : Int) (h : -9223372036854775807 ≤ x ∧ x ≤ 9223372036854775807) : FnC prog 44 [dI x] (dI (x.natAbs : Int)) := by
  refine FnC_owed hmix (A68_absR_c x) (V := VT.ite (decide (x < (0 : Int))) (VT.need [i64In (-x)] (VT.done [-x = (↑(Int.natAbs x) : Int)])) (VT.done [x = (↑(Int.natAbs x) : Int)])) (by kernel_rfl) ?_
  simp only [VT.holds, AllT, imp_self, implies_true, and_true, true_and, toNat_succ, toNat_add2, toNat_zero', Int.toNat_natCast, Bool.if_true_left, Bool.if_false_right, Bool.decide_eq_true, Bool.or_eq_true, Bool.or_eq_false_iff, Bool.and_eq_true, Bool.and_eq_false_imp, Bool.not_eq_true', Bool.not_eq_false', Bool.not_not, bne_iff_ne, bne_eq_false_iff_eq, beq_iff_eq, beq_eq_false_iff_ne, decide_eq_true_eq, decide_eq_false_iff_not, ne_eq]
  refine ⟨fun h => ⟨by unfold i64In; omega, by omega⟩, fun h => by omega⟩
noncomputable def A23_wallsR_c (n : Nat) (X Y : Nat → Int) : Ann := { orc := [(5, [(2, rNext)]), (6, [(14, .res fun l => dI ((aI l 0).natAbs : Int)), (23, .res fun l => dI ((aI l 0).natAbs : Int)), (30, rDirR)])], loops := [(0, { ι := Nat, keep := [0], boxes := [], ts := fun _ i => [(4, dI (i : Int))], rw := fun _ i => [(3, 6, i, wcols n X Y)], inv := fun _ i => i ≤ n, mu := fun _ i => n - i, rd := fun _ σ => (iOf (σ.get 4)).toNat })], cuts := [] }
theorem wallsR_c (n : Nat) (X Y : Nat → Int) (h : chk n X Y = 0) : FnC prog 12 [pts n X Y] (.lst n (wcols n X Y)) := by
  refine FnC_owed hmix (A23_wallsR_c n X Y) (V := VT.loop Nat (fun (a : Nat) => a ≤ n) (Int.toNat (0 : Int)) [(0 : Int) = (↑(Int.toNat (0 : Int)) : Int), (0 : Nat) = (0 : Nat), Int.toNat (0 : Int) = (0 : Nat), n = n, ∀ (i : Nat), i < n → X i = X i, ∀ (i : Nat), i < n → Y i = Y i, Int.toNat (0 : Int) = (0 : Nat)] fun (i : Nat) => VT.ite (decide ((↑i : Int) < (↑n : Int))) (VT.need [FnC prog (43 : Nat) [DV.lst n [fun (i : Nat) => DV.val (Value.int IntKind.i64 (X i)), fun (i : Nat) => DV.val (Value.int IntKind.i64 (Y i))], DV.val (Value.int IntKind.i64 (↑i : Int))] (DV.val (Value.agg { toList := [Value.int IntKind.i64 (X (ix n ((↑i : Int) + (1 : Int)))), Value.int IntKind.i64 (Y (ix n ((↑i : Int) + (1 : Int))))] }))] (VT.need [(0 : Int) ≤ (↑i : Int) ∧ (↑i : Int) < (↑n : Int), (0 : Int) ≤ (↑i : Int) ∧ (↑i : Int) < (↑n : Int), i64In (X (ix n ((↑i : Int) + (1 : Int))) - X (Int.toNat (↑i : Int))), FnC prog (44 : Nat) [DV.val (Value.int IntKind.i64 (X (ix n ((↑i : Int) + (1 : Int))) - X (Int.toNat (↑i : Int))))] (DV.val (Value.int IntKind.i64 (↑(Int.natAbs (X (ix n ((↑i : Int) + (1 : Int))) - X (Int.toNat (↑i : Int)))) : Int))), (0 : Int) ≤ (↑i : Int) ∧ (↑i : Int) < (↑n : Int), i64In (Y (ix n ((↑i : Int) + (1 : Int))) - Y (Int.toNat (↑i : Int))), FnC prog (44 : Nat) [DV.val (Value.int IntKind.i64 (Y (ix n ((↑i : Int) + (1 : Int))) - Y (Int.toNat (↑i : Int))))] (DV.val (Value.int IntKind.i64 (↑(Int.natAbs (Y (ix n ((↑i : Int) + (1 : Int))) - Y (Int.toNat (↑i : Int)))) : Int))), i64In ((↑(Int.natAbs (X (ix n ((↑i : Int) + (1 : Int))) - X (Int.toNat (↑i : Int)))) : Int) + (↑(Int.natAbs (Y (ix n ((↑i : Int) + (1 : Int))) - Y (Int.toNat (↑i : Int)))) : Int)), (0 : Int) ≤ (↑i : Int) ∧ (↑i : Int) < (↑n : Int), FnC prog (45 : Nat) [DV.val (Value.agg { toList := [Value.int IntKind.i64 (X (Int.toNat (↑i : Int))), Value.int IntKind.i64 (Y (Int.toNat (↑i : Int)))] }), DV.val (Value.agg { toList := [Value.int IntKind.i64 (X (ix n ((↑i : Int) + (1 : Int)))), Value.int IntKind.i64 (Y (ix n ((↑i : Int) + (1 : Int))))] })] (DV.val
     (Value.int IntKind.i64 (dirR (X (Int.toNat (↑i : Int))) (Y (Int.toNat (↑i : Int))) (X (ix n ((↑i : Int) + (1 : Int)))) (Y (ix n ((↑i : Int) + (1 : Int))))))), i ≤ i, (i + (1 : Nat)) * (nat_lit 47 + (1 : Nat)) ≤ (140737488355328 : Nat), (1 : Nat) ≤ (1 : Nat)] (VT.need [i64In ((↑i : Int) + (1 : Int))] (VT.done [(↑i : Int) + (1 : Int) = (↑(Int.toNat ((↑i : Int) + (1 : Int))) : Int), (0 : Nat) = (0 : Nat), i + (1 : Nat) = Int.toNat ((↑i : Int) + (1 : Int)), n = n, ∀ (i : Nat), i < n → X i = X i, ∀ (i : Nat), i < n → Y i = Y i, i + (1 : Nat) = Int.toNat ((↑i : Int) + (1 : Int)), ∀ (i_1 : Nat), i_1 < Int.toNat ((↑i : Int) + (1 : Int)) → (if decide (i_1 < i) = true then X i_1 else X (Int.toNat (↑i : Int))) = X i_1, ∀ (i_1 : Nat), i_1 < Int.toNat ((↑i : Int) + (1 : Int)) → (if decide (i_1 < i) = true then Y i_1 else Y (Int.toNat (↑i : Int))) = Y i_1, ∀ (i_1 : Nat), i_1 < Int.toNat ((↑i : Int) + (1 : Int)) → (if decide (i_1 < i) = true then X (ix n ((↑i_1 : Int) + (1 : Int))) else X (ix n ((↑i : Int) + (1 : Int)))) = X (ix n ((↑i_1 : Int) + (1 : Int))), ∀ (i_1 : Nat), i_1 < Int.toNat ((↑i : Int) + (1 : Int)) → (if decide (i_1 < i) = true then Y (ix n ((↑i_1 : Int) + (1 : Int))) else Y (ix n ((↑i : Int) + (1 : Int)))) = Y (ix n ((↑i_1 : Int) + (1 : Int))), ∀ (i_1 : Nat), i_1 < Int.toNat ((↑i : Int) + (1 : Int)) → (if decide (i_1 < i) = true then lenW n X Y (↑i_1 : Int) else (↑(Int.natAbs (X (ix n ((↑i : Int) + (1 : Int))) - X (Int.toNat (↑i : Int)))) : Int) + (↑(Int.natAbs (Y (ix n ((↑i : Int) + (1 : Int))) - Y (Int.toNat (↑i : Int)))) : Int)) = lenW n X Y (↑i_1 : Int), ∀ (i_1 : Nat), i_1 < Int.toNat ((↑i : Int) + (1 : Int)) → (if decide (i_1 < i) = true then dD n X Y (↑i_1 : Int) else dirR (X (Int.toNat (↑i : Int))) (Y (Int.toNat (↑i : Int))) (X (ix n ((↑i : Int) + (1 : Int)))) (Y (ix n ((↑i : Int) + (1 : Int))))) = dD n X Y (↑i_1 : Int), Int.toNat ((↑i : Int) + (1 : Int)) ≤ n, n - Int.toNat ((↑i : Int) + (1 : Int)) < n - i])))) (VT.done [i ≤ i, i = n, ∀ (i : Nat), i < n →
     X i = X i, ∀ (i : Nat), i < n → Y i = Y i, ∀ (i : Nat), i < n → X (ix n ((↑i : Int) + (1 : Int))) = X (ix n ((↑i : Int) + (1 : Int))), ∀ (i : Nat), i < n → Y (ix n ((↑i : Int) + (1 : Int))) = Y (ix n ((↑i : Int) + (1 : Int))), ∀ (i : Nat), i < n → lenW n X Y (↑i : Int) = lenW n X Y (↑i : Int), ∀ (i : Nat), i < n → dD n X Y (↑i : Int) = dD n X Y (↑i : Int)])) (by kernel_rfl) ?_
  simp only [VT.holds, AllT, imp_self, implies_true, and_true, true_and, toNat_succ, toNat_add2, toNat_zero', Int.toNat_natCast, Bool.if_true_left, Bool.if_false_right, Bool.decide_eq_true, Bool.or_eq_true, Bool.or_eq_false_iff, Bool.and_eq_true, Bool.and_eq_false_imp, Bool.not_eq_true', Bool.not_eq_false', Bool.not_not, bne_iff_ne, bne_eq_false_iff_eq, beq_iff_eq, beq_eq_false_iff_ne, decide_eq_true_eq, decide_eq_false_iff_not, ne_eq]
  have hn := chk_n h
  obtain ⟨hX, hY⟩ := chk_inB h
  refine ⟨rfl, Nat.zero_le n, fun i hin => ⟨fun hlt => ?_, fun hge => ⟨Nat.le_refl i, by omega⟩⟩⟩
  have e := ix_nat (n := n) (i := i) (by omega)
  have x1 := hX i (by omega)
  have x2 := hX _ (ix_lt (i := (i : Int) + 1) (show 0 < n by omega))
  have y1 := hY i (by omega)
  have y2 := hY _ (ix_lt (i := (i : Int) + 1) (show 0 < n by omega))
  have hr : (0 : Int) ≤ i ∧ (i : Int) < n := by omega
  have hd : dirR (X i) (Y i) (X (ix n ((i : Int) + 1))) (Y (ix n ((i : Int) + 1))) = dD n X Y i := by
    have ho := dO_of_chk h (i := i) (by omega)
    unfold dO at ho
    rw [e] at ho
    unfold dirR dD
    rw [e, if_pos ho]
  have hl : (((X (ix n ((i : Int) + 1)) - X i).natAbs : Int) + ((Y (ix n ((i : Int) + 1)) - Y i).natAbs : Int)) = lenW n X Y i := by unfold lenW; rw [e]
  refine ⟨next_c n X Y i (by omega) (by omega) (by omega) (by omega), ⟨hr, hr, by unfold i64In; omega, absR_c _ (by omega), hr, by unfold i64In; omega, absR_c _ (by omega), by unfold i64In; omega, hr, dirR_c _ _ _ _, Nat.le_refl i, by omega, Nat.le_refl 1⟩, by unfold i64In; omega, rfl, last_if rfl, last_if rfl, last_if (f := fun j => X (ix n ((j : Int) + 1))) rfl, last_if (f := fun j => Y (ix n ((j : Int) + 1))) rfl, last_if (f := fun j => lenW n X Y j) hl, last_if (f := fun j => dD n X Y j) hd, by omega, by omega⟩
end Go.Abs
