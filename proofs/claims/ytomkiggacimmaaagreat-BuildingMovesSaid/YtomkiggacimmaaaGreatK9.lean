/- Contracts. Contracts. Contracts. -/
import Derived.Test.YtomkiggacimmaaaGreatK6
section
section
set_option linter.unusedVariables false
set_option linter.unusedSimpArgs false
set_option maxRecDepth 100000
namespace Go.Abs
open Go
abbrev nums (n : Nat) (A : Nat → Int) : DV := .lst n [fun i => .val (.int .i64 (A i))]
def ellX (i : Nat) : Int := [0, 4000, 4000, 2000, 2000, 0].getD i 0
def ellY (i : Nat) : Int := [0, 0, 2000, 2000, 4000, 4000].getD i 0
def rPts : Orc := .res fun l => pts (aN l) (aX l) (aY l)
def rEll : Orc := .res fun _ => pts 6 ellX ellY
def sameN (n : Nat) (A : Nat → Int) (m : Nat) (B : Nat → Int) : Bool := decide (n = m ∧ ∀ i, i < n → A i = B i)
def rInts : Orc := .res fun l => dB (sameN (aN l) (aX l) (lenOf (arg l 1)) (colI 0 (arg l 1)))
noncomputable def A13_points_c (n : Nat) (X Y : Nat → Int) : Ann := { orc := [], loops := [], cuts := [] }
theorem points_c (n : Nat) (X Y : Nat → Int) (hn : n ≤ 1000000) : FnC prog 26 [pts n X Y] (pts n X Y) := by
  refine FnC_owed hmix (A13_points_c n X Y) (V := VT.need [(0:Nat) ≤ 0, ((0:Nat) + n) * (nat_lit 15 + 1) ≤ 140737488355328] (VT.done [(0:Nat) + n ≤ 0 + n, (0:Nat) + n = n, ∀ i < n, (if decide (i < 0) = true then (0:Int) else X (i - 0)) = X i, ∀ i < n, (if decide (i < 0) = true then (0:Int) else Y (i - 0)) = Y i])) (by kernel_rfl) ?_
  simp only [VT.holds, AllT, Sq]
  exact ⟨⟨by omega, by omega⟩, by omega, by omega, fun i _ => by rw [if_neg (by omega)]; rfl, fun i _ => by rw [if_neg (by omega)]; rfl⟩
noncomputable def A50_ell_c  : Ann := { orc := [], loops := [], cuts := [] }
theorem ell_c   : FnC prog 15 [] (pts 6 ellX ellY) := by
  refine FnC_owed hmix (A50_ell_c ) (V := VT.done [(6:Nat) ≤ 6, (6:Nat) = 6, ∀ i < 6, List.getD [(0:Int), (4000:Int), (4000:Int), (2000:Int), (2000:Int), (0:Int)] i (0:Int) = ellX i, ∀ i < 6, List.getD [(0:Int), (0:Int), (2000:Int), (2000:Int), (4000:Int), (4000:Int)] i (0:Int) = ellY i]) (by kernel_rfl) ?_
  simp only [VT.holds, AllT, Sq]
  exact ⟨Nat.le_refl 6, fun _ _ => rfl, fun _ _ => rfl⟩
noncomputable def A25_ints_c (n : Nat) (A : Nat → Int) (m : Nat) (B : Nat → Int) : Ann := { orc := [], loops := [(0, { ι := Nat, keep := [0, 1], boxes := [], ts := fun _ i => [(5, dI (i : Int))], inv := fun _ i => i ≤ n ∧ ∀ j, j < i → A j = B j, mu := fun _ i => n - i, rd := fun _ σ => (iOf (σ.get 5)).toNat })], cuts := [] }
theorem ints_c (n : Nat) (A : Nat → Int) (m : Nat) (B : Nat → Int) (hn : n ≤ 1000000000) : FnC prog 18 [nums n A, nums m B] (dB (sameN n A m B)) := by
  refine FnC_owed hmix (A25_ints_c n A m B) (V := VT.ite ((n:Int) != (m:Int)) (VT.done [false = sameN n A m B]) (VT.loop Nat (fun (a : Nat) => a ≤ n ∧ ∀ (j : Nat), j < a → A j = B j) (0:Int).toNat [(0:Int) = (↑(0:Int).toNat : Int), n = n, ∀ i < n, A i = A i, m = m, ∀ i < m, B i = B i] fun (i : Nat) => VT.ite (decide ((i:Int) < (n:Int))) (VT.need [(0:Int) ≤ (i:Int) ∧ (i:Int) < (n:Int), (0:Int) ≤ (i:Int) ∧ (i:Int) < (m:Int)] (VT.ite (A (i:Int).toNat != B (i:Int).toNat) (VT.done [false = sameN n A m B]) (VT.need [i64In ((i:Int) + 1)] (VT.done [(i:Int) + 1 = (↑((i:Int) + 1).toNat : Int), n = n, ∀ i < n, A i = A i, m = m, ∀ i < m, B i = B i, Int.toNat ((i:Int) + 1) ≤ n ∧ ∀ (j : Nat), j < ((i:Int) + 1).toNat → A j = B j, n - ((i:Int) + 1).toNat < n - i])))) (VT.done [true = sameN n A m B]))) (by kernel_rfl) ?_
  simp only [VT.holds, AllT, Sq]
  refine ⟨fun h => ?_, fun h => ⟨rfl, ⟨by omega, fun j hj => (by omega)⟩, fun i ⟨hi, hb⟩ => ⟨fun hlt => ⟨⟨by omega, by omega, by omega⟩, fun hne => ?_, fun he => ⟨by unfold i64In; omega, rfl, ⟨by omega, fun j hj => ?_⟩, by omega⟩⟩, fun hge => ?_⟩⟩⟩
  · unfold sameN
    rw [eq_comm, decide_eq_false_iff_not]
    intro hx; omega
  · unfold sameN
    rw [eq_comm, decide_eq_false_iff_not]
    intro hx; exact hne (hx.2 i (by omega))
  · by_cases e : j = i
    · subst e; exact he
    · exact hb j (by omega)
  · unfold sameN
    rw [eq_comm, decide_eq_true_eq]
    exact ⟨by omega, fun j hj => hb j (by omega)⟩
noncomputable def A10_awake_c  : Ann := { orc := [(1, [(0, rEll), (1, rAr)]), (2, [(0, rEll), (1, rCo)]), (3, [(0, rEll), (2, rDi)]), (4, [(13, rInts)])], loops := [], cuts := [] }
theorem awake_c   : FnC prog 4 [] (dB true) := by
  refine FnC_owed hmix (A10_awake_c ) (V := VT.need [FnC prog 15 [] (DV.lst 6 [fun (i : Nat) => DV.val (Value.int IntKind.i64 (ellX i)), fun (i : Nat) => DV.val (Value.int IntKind.i64 (ellY i))]), FnC prog 14 [DV.lst 6 [fun (i : Nat) => DV.val (Value.int IntKind.i64 (ellX i)), fun (i : Nat) => DV.val (Value.int IntKind.i64 (ellY i))]] (DV.tup [DV.val (Value.int IntKind.i64 (arF 6 ellX ellY)), DV.val (Value.int IntKind.i64 (chk 6 ellX ellY))])] (VT.need [FnC prog 15 [] (DV.lst 6 [fun (i : Nat) => DV.val (Value.int IntKind.i64 (ellX i)), fun (i : Nat) => DV.val (Value.int IntKind.i64 (ellY i))]), FnC prog 16 [DV.lst 6 [fun (i : Nat) => DV.val (Value.int IntKind.i64 (ellX i)), fun (i : Nat) => DV.val (Value.int IntKind.i64 (ellY i))]] (DV.tup [DV.lst (coN 6 ellX ellY) [fun (k : Nat) => DV.val (Value.int IntKind.i64 (cor 6 ellX ellY k))], DV.val (Value.int IntKind.i64 (chk 6 ellX ellY))])] (VT.need [FnC prog 15 [] (DV.lst 6 [fun (i : Nat) => DV.val (Value.int IntKind.i64 (ellX i)), fun (i : Nat) => DV.val (Value.int IntKind.i64 (ellY i))]), FnC prog 17 [DV.lst 6 [fun (i : Nat) => DV.val (Value.int IntKind.i64 (ellX i)), fun (i : Nat) => DV.val (Value.int IntKind.i64 (ellY i))], DV.val (Value.agg { toList := [Value.int IntKind.i64 (5000:Int), Value.int IntKind.i64 (5000:Int)] })] (DV.tup [DV.val (Value.int IntKind.i64 (diR 6 ellX ellY (5000:Int) (5000:Int))), DV.val (Value.int IntKind.i64 (whE 6 ellX ellY (5000:Int) (5000:Int)))])] (VT.need [ri ((chk 6 ellX ellY == 0) = true), ri ((chk 6 ellX ellY == 0) = true), ri ((if (chk 6 ellX ellY == 0) = true then arF 6 ellX ellY == 12000000 else false) = true), ri ((if (chk 6 ellX ellY == 0) = true then arF 6 ellX ellY == 12000000 else false) = true), (if (if (chk 6 ellX ellY == 0) = true then arF 6 ellX ellY == 12000000 else false) = true then chk 6 ellX ellY == 0 else false) = true, ri ((if (if (chk 6 ellX ellY == 0) = true then arF 6 ellX ellY == 12000000 else false) = true then chk 6 ellX ellY == 0 else false) = true), ri ((if (if (chk 6 ellX ellY == 0) = true then arF 6 ellX ellY == 12000000 else false) = true then chk 6 ellX ellY == 0 else false) = true), (if (if (chk 6 ellX ellY == 0) = true then arF 6 ellX ellY == 12000000 else false) = true then chk 6 ellX ellY == 0 else false) = true → (6:Nat) ≤ 6, (if (if (chk 6 ellX ellY == 0) = true then arF 6 ellX ellY == 12000000 else false) = true then chk 6 ellX ellY == 0 else false) = true → FnC prog 18 [DV.lst (coN 6 ellX ellY) [fun (k : Nat) => DV.val (Value.int IntKind.i64 (cor 6 ellX ellY k))], DV.lst 6 [fun (a : Nat) => DV.val (Value.int IntKind.i64 (List.getD [(1:Int), (1:Int), (1:Int), (-1:Int), (1:Int), (1:Int)] a (0:Int)))]] (DV.val (Value.bool (sameN (coN 6 ellX ellY) (cor 6 ellX ellY) (6:Nat) fun (i : Nat) => List.getD [(1:Int), (1 :
     Int), (1:Int), (-1:Int), (1:Int), (1:Int)] i (0:Int)))), ri ((if (if (chk 6 ellX ellY == 0) = true then arF 6 ellX ellY == 12000000 else false) = true then chk 6 ellX ellY == 0 else false) = true), ri ((if (if (if (chk 6 ellX ellY == 0) = true then arF 6 ellX ellY == 12000000 else false) = true then chk 6 ellX ellY == 0 else false) = true then sameN (coN 6 ellX ellY) (cor 6 ellX ellY) (6:Nat) fun (i : Nat) => List.getD [(1:Int), (1:Int), (1:Int), (-1:Int), (1:Int), (1:Int)] i (0:Int) else false) = true), ri ((if (if (if (chk 6 ellX ellY == 0) = true then arF 6 ellX ellY == 12000000 else false) = true then chk 6 ellX ellY == 0 else false) = true then sameN (coN 6 ellX ellY) (cor 6 ellX ellY) (6:Nat) fun (i : Nat) => List.getD [(1:Int), (1:Int), (1:Int), (-1:Int), (1:Int), (1:Int)] i (0:Int) else false) = true), ri ((if (if (if (if (chk 6 ellX ellY == 0) = true then arF 6 ellX ellY == 12000000 else false) = true then chk 6 ellX ellY == 0 else false) = true then sameN (coN 6 ellX ellY) (cor 6 ellX ellY) (6:Nat) fun (i : Nat) => List.getD [(1:Int), (1:Int), (1:Int), (-1:Int), (1:Int), (1:Int)] i (0:Int) else false) = true then whE 6 ellX ellY (5000:Int) (5000:Int) == 0 else false) = true), ri ((if (if (if (if (chk 6 ellX ellY == 0) = true then arF 6 ellX ellY == 12000000 else false) = true then chk 6 ellX ellY == 0 else false) = true then sameN (coN 6 ellX ellY) (cor 6 ellX ellY) (6:Nat) fun (i : Nat) => List.getD [(1:Int), (1:Int), (1:Int), (-1:Int), (1:Int), (1:Int)] i (0:Int) else false) = true then whE 6 ellX ellY (5000:Int) (5000:Int) == 0 else false) = true)] (VT.done [(if (if (if (if (if (chk 6 ellX ellY == 0) = true then arF 6
     ellX ellY == 12000000 else false) = true then chk 6 ellX ellY == 0 else false) = true then sameN (coN 6 ellX ellY) (cor 6 ellX ellY) (6:Nat) fun (i : Nat) => List.getD [(1:Int), (1:Int), (1:Int), (-1:Int), (1:Int), (1:Int)] i (0:Int) else false) = true then whE 6 ellX ellY (5000:Int) (5000:Int) == 0 else false) = true then diR 6 ellX ellY (5000:Int) (5000:Int) == 10000000 else false) = true]))))) (by kernel_rfl) ?_
  simp only [VT.holds, AllT, Sq]
  have hc : chk 6 ellX ellY = 0 := by decide +kernel
  have ha : arF 6 ellX ellY = 12000000 := by decide +kernel
  have hn : coN 6 ellX ellY = 6 := by decide +kernel
  have hd : diR 6 ellX ellY 5000 5000 = 10000000 := by decide +kernel
  have he : whE 6 ellX ellY 5000 5000 = 0 := by decide +kernel
  have hs : sameN 6 (cor 6 ellX ellY) 6 (fun a => [1, 1, 1, -1, 1, 1].getD a 0) = true := by decide +kernel
  have h4 := ints_c 6 (cor 6 ellX ellY) 6 (fun a => [1, 1, 1, -1, 1, 1].getD a 0) (by omega)
  refine ⟨⟨ell_c, area_c 6 ellX ellY (by omega)⟩, ⟨ell_c, corners_c 6 ellX ellY (by omega)⟩, ⟨ell_c, dist_c 6 ellX ellY 5000 5000 (by omega)⟩, ⟨⟨⟨hc, ha⟩, hc⟩, fun _ => Nat.le_refl 6, fun _ => ?_⟩, ⟨⟨⟨⟨hc, ha⟩, hc⟩, ?_⟩, he⟩, hd⟩
  · rw [hn]; exact h4
  · rw [hn]; exact hs
end Go.Abs
end
section
set_option linter.unusedVariables false
set_option linter.unusedSimpArgs false
set_option maxRecDepth 100000
namespace Go.Abs
open Go
/-- The length of a side. -/
def lenW (n : Nat) (X Y : Nat → Int) (i : Int) : Int := ((X (ix n (i + 1)) - X (ix n i)).natAbs : Int) + ((Y (ix n (i + 1)) - Y (ix n i)).natAbs : Int)
/-- The sides of an outline, by columns. -/
abbrev wcols (n : Nat) (X Y : Nat → Int) : List (Nat → DV) := [fun i => dI (X i), fun i => dI (Y i), fun i => dI (X (ix n ((i : Int) + 1))), fun i => dI (Y (ix n ((i : Int) + 1))), fun i => dI (lenW n X Y i), fun i => dI (dD n X Y i)]
def rWallsR : Orc := .res fun l => .lst (aN l) (wcols (aN l) (aX l) (aY l))
theorem dO_of_chk {n : Nat} {X Y : Nat → Int} (h : chk n X Y = 0) {i : Nat} (hi : i < n) : dO n X Y i = true := by
  have := (chk_zero h).2.2.1 i hi
  simp only [formOk, Bool.and_eq_true] at this
  exact this.1.1
theorem last_if {f : Nat → Int} {i : Nat} {s : Int} (h : s = f i) : ∀ k, k < i + 1 → (if k < i then f k else s) = f k := fun k hk => by
  by_cases e : k < i
  · rw [if_pos e]
  · rw [if_neg e, h, show k = i by omega]
noncomputable def A68_absR_c (x : Int) : Ann := { orc := [], loops := [], cuts := [] }
theorem absR_c (x : Int) (h : -9223372036854775807 ≤ x ∧ x ≤ 9223372036854775807) : FnC prog 72 [dI x] (dI (x.natAbs : Int)) := by
  refine FnC_owed hmix (A68_absR_c x) (V := VT.ite (decide (x < 0)) (VT.need [i64In (-x)] (VT.done [-x = (↑(Int.natAbs x) : Int)])) (VT.done [x = (↑(Int.natAbs x) : Int)])) (by kernel_rfl) ?_
  simp only [VT.holds, AllT, Sq]
  refine ⟨fun h => ⟨by unfold i64In; omega, by omega⟩, fun h => by omega⟩
noncomputable def A23_wallsR_c (n : Nat) (X Y : Nat → Int) : Ann := { orc := [(5, [(2, rNext)]), (6, [(14, .res fun l => dI ((aI l 0).natAbs : Int)), (23, .res fun l => dI ((aI l 0).natAbs : Int)), (30, rDirR)])], loops := [(0, { ι := Nat, keep := [0], boxes := [], ts := fun _ i => [(4, dI (i : Int))], rw := fun _ i => [(3, 6, i, wcols n X Y)], inv := fun _ i => i ≤ n, mu := fun _ i => n - i, rd := fun _ σ => (iOf (σ.get 4)).toNat })], cuts := [] }
theorem wallsR_c (n : Nat) (X Y : Nat → Int) (h : chk n X Y = 0) : FnC prog 57 [pts n X Y] (.lst n (wcols n X Y)) := by
  refine FnC_owed hmix (A23_wallsR_c n X Y) (V := VT.loop Nat (fun (a : Nat) => a ≤ n) (0:Int).toNat [(0:Int) = (↑(0:Int).toNat : Int), (0:Nat) = 0, Int.toNat (0:Int) = 0, n = n, ∀ i < n, X i = X i, ∀ i < n, Y i = Y i, Int.toNat (0:Int) = 0] fun (i : Nat) => VT.ite (decide ((i:Int) < (n:Int))) (VT.need [FnC prog 52 [DV.lst n [fun (i : Nat) => DV.val (Value.int IntKind.i64 (X i)), fun (i : Nat) => DV.val (Value.int IntKind.i64 (Y i))], DV.val (Value.int IntKind.i64 (i:Int))] (DV.val (Value.agg { toList := [Value.int IntKind.i64 (X (ix n ((i:Int) + 1))), Value.int IntKind.i64 (Y (ix n ((i:Int) + 1)))] }))] (VT.need [(0:Int) ≤ (i:Int) ∧ (i:Int) < (n:Int), (0:Int) ≤ (i:Int) ∧ (i:Int) < (n:Int), i64In (X (ix n ((i:Int) + 1)) - X (i:Int).toNat), FnC prog 72 [DV.val (Value.int IntKind.i64 (X (ix n ((i:Int) + 1)) - X (i:Int).toNat))] (DV.val (Value.int IntKind.i64 (↑(Int.natAbs (X (ix n ((i:Int) + 1)) - X (i:Int).toNat)) : Int))), (0:Int) ≤ (i:Int) ∧ (i:Int) < (n:Int), i64In (Y (ix n ((i:Int) + 1)) - Y (i:Int).toNat), FnC prog 72 [DV.val (Value.int IntKind.i64 (Y (ix n ((i:Int) + 1)) - Y (i:Int).toNat))] (DV.val (Value.int IntKind.i64 (↑(Int.natAbs (Y (ix n ((i:Int) + 1)) - Y (i:Int).toNat)) : Int))), i64In ((↑(Int.natAbs (X (ix n ((i:Int) + 1)) - X (i:Int).toNat)) : Int) + (↑(Int.natAbs (Y (ix n ((i:Int) + 1)) - Y (i:Int).toNat)) : Int)), (0:Int) ≤ (i:Int) ∧ (i:Int) < (n:Int), FnC prog 51 [DV.val (Value.agg { toList := [Value.int IntKind.i64 (X (i:Int).toNat), Value.int IntKind.i64 (Y (i:Int).toNat)] }), DV.val (Value.agg { toList := [Value.int IntKind.i64 (X (ix n ((i:Int) + 1))), Value.int IntKind.i64 (Y (ix n ((i:Int) + 1)))] })] (DV.val
     (Value.int IntKind.i64 (dirR (X (i:Int).toNat) (Y (i:Int).toNat) (X (ix n ((i:Int) + 1))) (Y (ix n ((i:Int) + 1)))))), i ≤ i, (i + 1) * (nat_lit 47 + 1) ≤ 140737488355328, (1:Nat) ≤ 1] (VT.need [i64In ((i:Int) + 1)] (VT.done [(i:Int) + 1 = (↑((i:Int) + 1).toNat : Int), (0:Nat) = 0, i + 1 = ((i:Int) + 1).toNat, n = n, ∀ i < n, X i = X i, ∀ i < n, Y i = Y i, i + 1 = ((i:Int) + 1).toNat, ∀ i_1 < ((i:Int) + 1).toNat, (if decide (i_1 < i) = true then X i_1 else X (i:Int).toNat) = X i_1, ∀ i_1 < ((i:Int) + 1).toNat, (if decide (i_1 < i) = true then Y i_1 else Y (i:Int).toNat) = Y i_1, ∀ i_1 < ((i:Int) + 1).toNat, (if decide (i_1 < i) = true then X (ix n ((i_1:Int) + 1)) else X (ix n ((i:Int) + 1))) = X (ix n ((i_1:Int) + 1)), ∀ i_1 < ((i:Int) + 1).toNat, (if decide (i_1 < i) = true then Y (ix n ((i_1:Int) + 1)) else Y (ix n ((i:Int) + 1))) = Y (ix n ((i_1:Int) + 1)), ∀ i_1 < ((i:Int) + 1).toNat, (if decide (i_1 < i) = true then lenW n X Y (i_1:Int) else (↑(Int.natAbs (X (ix n ((i:Int) + 1)) - X (i:Int).toNat)) : Int) + (↑(Int.natAbs (Y (ix n ((i:Int) + 1)) - Y (i:Int).toNat)) : Int)) = lenW n X Y (i_1:Int), ∀ i_1 < ((i:Int) + 1).toNat, (if decide (i_1 < i) = true then dD n X Y (i_1:Int) else dirR (X (i:Int).toNat) (Y (i:Int).toNat) (X (ix n ((i:Int) + 1))) (Y (ix n ((i:Int) + 1)))) = dD n X Y (i_1:Int), Int.toNat ((i:Int) + 1) ≤ n, n - ((i:Int) + 1).toNat < n - i])))) (VT.done [i ≤ i, i = n, ∀ (i : Nat), i < n →
     X i = X i, ∀ i < n, Y i = Y i, ∀ i < n, X (ix n ((i:Int) + 1)) = X (ix n ((i:Int) + 1)), ∀ i < n, Y (ix n ((i:Int) + 1)) = Y (ix n ((i:Int) + 1)), ∀ i < n, lenW n X Y (i:Int) = lenW n X Y (i:Int), ∀ i < n, dD n X Y (i:Int) = dD n X Y (i:Int)])) (by kernel_rfl) ?_
  simp only [VT.holds, AllT, Sq]
  have hn := chk_n h
  obtain ⟨hX, hY⟩ := chk_inB h
  refine ⟨rfl, Nat.zero_le n, fun i hin => ⟨fun hlt => ?_, fun hge => ⟨Nat.le_refl i, by omega⟩⟩⟩
  have e := ix_nat (n := n) (i := i) (by omega)
  have x1 := hX i (by omega)
  have x2 := hX _ (ix_lt (i := (i : Int) + 1) (show 0 < n by omega))
  have y1 := hY i (by omega)
  have y2 := hY _ (ix_lt (i := (i : Int) + 1) (show 0 < n by omega))
  have hr : (0:Int) ≤ i ∧ (i : Int) < n := by omega
  have hd : dirR (X i) (Y i) (X (ix n ((i : Int) + 1))) (Y (ix n ((i : Int) + 1))) = dD n X Y i := by
    have ho := dO_of_chk h (i := i) (by omega)
    unfold dO at ho
    rw [e] at ho
    unfold dirR dD
    rw [e, if_pos ho]
  have hl : (((X (ix n ((i : Int) + 1)) - X i).natAbs : Int) + ((Y (ix n ((i : Int) + 1)) - Y i).natAbs : Int)) = lenW n X Y i := by unfold lenW; rw [e]
  refine ⟨next_c n X Y i (by omega) (by omega) (by omega) (by omega), ⟨hr, hr, by unfold i64In; omega, absR_c _ (by omega), hr, by unfold i64In; omega, absR_c _ (by omega), by unfold i64In; omega, hr, dirR_c _ _ _ _, Nat.le_refl i, by omega, Nat.le_refl 1⟩, by unfold i64In; omega, rfl, last_if rfl, last_if rfl, last_if (f := fun j => X (ix n ((j : Int) + 1))) rfl, last_if (f := fun j => Y (ix n ((j : Int) + 1))) rfl, last_if (f := fun j => lenW n X Y j) hl, last_if (f := fun j => dD n X Y j) hd, by omega, by omega⟩
end Go.Abs
end
end
section
set_option linter.unusedVariables false
set_option linter.unusedSimpArgs false
set_option maxRecDepth 100000
namespace Go.Abs
open Go
abbrev bx (a b c d e f : Int) : DV := .val (.agg #[.int .i64 a, .int .i64 b, .int .i64 c, .int .i64 d, .int .i64 e, .int .i64 f])
/-- The error of a box. -/
def ckB (a b c d e f : Int) : Int := if ¬ (inF a = true ∧ inF b = true ∧ inF c = true ∧ inF d = true ∧ inF e = true ∧ inF f = true) then 2 else if a ≥ d ∨ b ≥ e ∨ c ≥ f then 3 else 0
def rCkB : Orc := .res fun l => dI (ckB (fI 0 (arg l 0)) (fI 1 (arg l 0)) (fI 2 (arg l 0)) (fI 3 (arg l 0)) (fI 4 (arg l 0)) (fI 5 (arg l 0)))
def six (a b c d e f : Int) (j : Nat) : Int := [a, b, c, d, e, f].getD j 0
theorem six_all {a b c d e f : Int} : (∀ j, j < 6 → inF (six a b c d e f j) = true) ↔ (inF a = true ∧ inF b = true ∧ inF c = true ∧ inF d = true ∧ inF e = true ∧ inF f = true) :=
  ⟨fun h => ⟨h 0 (by omega), h 1 (by omega), h 2 (by omega), h 3 (by omega), h 4 (by omega), h 5 (by omega)⟩, fun ⟨h0, h1, h2, h3, h4, h5⟩ j hj => by
    match j, hj with
    | 0, _ => exact h0
    | 1, _ => exact h1
    | 2, _ => exact h2
    | 3, _ => exact h3
    | 4, _ => exact h4
    | 5, _ => exact h5⟩
theorem maxs1 (a b : Int) : maxs a [b] = max a b := by simp only [maxs]; split <;> omega
theorem mins1 (a b : Int) : mins a [b] = min a b := by simp only [mins]; split <;> omega
noncomputable def A30_checkBox_c (a b c d e f : Int) : Ann := { orc := [(4, [(1, rIn)])], loops := [(0, { ι := Nat, keep := [1, 17], boxes := [1], ts := fun _ i => [(18, dI (i : Int))], inv := fun _ i => i ≤ 6 ∧ ∀ j, j < i → inF (six a b c d e f j) = true, mu := fun _ i => 6 - i, rd := fun _ σ => (iOf (σ.get 18)).toNat })], cuts := [] }
theorem checkBox_c (a b c d e f : Int)  : FnC prog 25 [bx a b c d e f] (dI (ckB a b c d e f)) := by
  refine FnC_owed hmix (A30_checkBox_c a b c d e f) (V := VT.loop Nat (fun (a_1 : Nat) => a_1 ≤ 6 ∧ ∀ (j : Nat), j < a_1 → inF (six a b c d e f j) = true) (0:Int).toNat [(0:Int) = (↑(0:Int).toNat : Int), a = a, b = b, c = c, d = d, e = e, f = f, a = a, b = b, c = c, d = d, e = e, f = f] fun (i : Nat) => VT.ite (decide ((i:Int) < 6)) (VT.need [(0:Int) ≤ (i:Int) ∧ (i:Int) < (↑(6:Nat) : Int)] (VT.need [FnC prog 23 [DV.val (Value.int IntKind.i64 (List.getD [a, b, c, d, e, f] (i:Int).toNat (0:Int)))] (DV.val (Value.bool (inF (List.getD [a, b, c, d, e, f] (i:Int).toNat (0:Int)))))] (VT.ite (!inF (List.getD [a, b, c, d, e, f] (i:Int).toNat (0:Int))) (VT.done [(2:Int) = ckB a b c d e f]) (VT.need [i64In ((i:Int) + 1)] (VT.done [(i:Int) + 1 = (↑((i:Int) + 1).toNat : Int), a = a, b = b, c = c, d = d, e = e, f = f, a = a, b = b, c = c, d = d, e = e, f = f, Int.toNat ((i:Int) + 1) ≤ 6 ∧ ∀ (j : Nat), j < ((i:Int) + 1).toNat → inF (six a b c d e f j) = true, (6:Nat) - ((i:Int) + 1).toNat < 6 - i]))))) (VT.need [ri ((!decide (a ≥ d)) = true), ri ((!decide (a ≥ d)) = true), ri ((!decide (a ≥ d)) = true), ri ((!decide (a ≥ d)) = true), decide (a ≥ d) = false → (!decide (a ≥ d)) = true, ri ((!if decide (a ≥ d) = true then true else decide (b ≥ e)) = true), ri ((!if decide (a ≥ d) = true then true else decide (b ≥ e)) = true), ri ((!if decide (a ≥ d) = true then true else decide (b ≥ e)) = true), ri ((!if decide (a ≥ d) = true then true else decide (b ≥ e)) = true), (if decide (a ≥ d) = true then true else decide (b ≥ e))
     = false → (!if decide (a ≥ d) = true then true else decide (b ≥ e)) = true] (VT.ite (if (if decide (a ≥ d) = true then true else decide (b ≥ e)) = true then true else decide (c ≥ f)) (VT.done [(3:Int) = ckB a b c d e f]) (VT.done [(0:Int) = ckB a b c d e f])))) (by kernel_rfl) ?_
  simp only [VT.holds, AllT, Sq]
  refine ⟨rfl, ⟨by omega, fun j hj => (by omega)⟩, fun i ⟨hi, hb⟩ => ⟨fun hlt => ⟨by omega, inside_c _, fun hx => ?_, fun hx => ⟨by unfold i64In; omega, rfl, ⟨by omega, fun j hj => ?_⟩, by omega⟩⟩, fun hge => ?_⟩⟩
  · rw [ckB, if_pos (fun hall => ?_)]
    have := six_all.2 hall i (by omega)
    rw [show [a, b, c, d, e, f].getD i 0 = six a b c d e f i from rfl, this] at hx
    cases hx
  · by_cases ej : j = i
    · subst ej; exact hx
    · exact hb j (by omega)
  · have hall := six_all.1 (fun j hj => hb j (by omega))
    refine ⟨fun h => ?_, fun h => ?_⟩
    · rw [ckB, if_neg (fun hx => hx hall), if_pos (by omega)]
    · rw [ckB, if_neg (fun hx => hx hall), if_neg (by omega)]
noncomputable def A29_checkBoxR_c (a b c d e f : Int) : Ann := { orc := [(1, [(2, rIn), (7, rIn), (13, rIn), (19, rIn), (25, rIn), (31, rIn)])], loops := [], cuts := [] }
theorem checkBoxR_c (a b c d e f : Int)  : FnC prog 34 [bx a b c d e f] (dI (ckB a b c d e f)) := by
  refine FnC_owed hmix (A29_checkBoxR_c a b c d e f) (V := VT.need [FnC prog 50 [DV.val (Value.int IntKind.i64 a)] (DV.val (Value.bool (inF a))), ri ((!!inF a) = true), ri ((!!inF a) = true), (!!inF a) = true → FnC prog 50 [DV.val (Value.int IntKind.i64 b)] (DV.val (Value.bool (inF b))), ri ((!!inF a) = true), (!inF a) = false → (!!inF a) = true, ri ((!if (!inF a) = true then true else !inF b) = true), ri ((!if (!inF a) = true then true else !inF b) = true), (!if (!inF a) = true then true else !inF b) = true → FnC prog 50 [DV.val (Value.int IntKind.i64 c)] (DV.val (Value.bool (inF c))), ri ((!if (!inF a) = true then true else !inF b) = true), (if (!inF a) = true then true else !inF b) = false → (!if (!inF a) = true then true else !inF b) = true, ri ((!if (if (!inF a) = true then true else !inF b) = true then true else !inF c) = true), ri ((!if (if (!inF a) = true then true else !inF b) = true then true else !inF c) = true), (!if (if (!inF a) = true then true else !inF b) = true then true else !inF c) = true → FnC prog 50 [DV.val (Value.int IntKind.i64 d)] (DV.val (Value.bool (inF d))), ri ((!if (if (!inF a) = true then true else !inF b) = true then true else !inF c) = true), (if (if (!inF a) = true then true else !inF b) = true then true else !inF c) = false → (!if (if (!inF a) = true then true else !inF b) = true then true else !inF c) = true, ri ((!if (if (if (!inF a) = true then true else !inF b) = true then true else !inF c) = true then true else !inF d) = true), ri ((!if (if (if (!inF a) = true then true else !inF b) = true then true else !inF c) = true then true else !inF d) = true), (!if (if (if (!inF a) = true then true else !inF b) = true then true else !inF c) = true then true else !inF d) = true → FnC prog 50 [DV.val (Value.int IntKind.i64 e)] (DV.val (Value.bool (inF e))), ri ((!if (if (if (!inF a) = true then true else !inF b) = true then true else !inF c) = true then true else !inF d) = true), (if (if (if (!inF a) = true then true else !inF b) = true then true else !inF c) = true then true else !inF d) = false → (!if (if (if (!inF a) = true then true else !inF b) = true then true else !inF c) = true then true else !inF d) = true, ri ((!if (if (if (if (!inF a) = true then true else !inF b) = true then true else !inF c) = true then true else !inF d) = true then true else !inF e) = true), ri ((!if (if (if (if (!inF a) = true then true else !inF b) = true then true else !inF c) = true then true else !inF d) = true then true else !inF e) = true), (!if (if (if (if (!inF a) = true then true else !inF b) = true then true else !inF c) = true then true else !inF d) = true then true else !inF e) = true → FnC prog 50 [DV.val (Value.int IntKind.i64 f)] (DV.val (Value.bool (inF f))), ri ((!if (if (if (if (!inF a) = true then true else !inF b) = true then true else !inF c) = true then true else !inF d) = true then true else !inF e) = true), (if (if (if (if (!inF a) = true then true else !inF b) = true then true else !inF c) = true then true else !inF d) = true then true else !inF e) = false → (!if (if (if (if (!inF a) = true then true else !inF b) = true then true else !inF c) = true then true else !inF d) = true then true else !inF e) = true] (VT.ite (if (if (if (if (if (!inF a) = true then true else !inF b) = true then true else !inF c) = true then true else !inF d) = true then true else !inF e) = true then true else !inF f) (VT.done [(2:Int) = ckB a b c d e f]) (VT.need [ri ((!decide (a ≥ d)) = true), ri ((!decide (a ≥ d)) = true), ri ((!decide (a ≥ d)) = true), ri ((!decide (a ≥ d)) = true), decide (a ≥ d) = false → (!decide (a ≥ d)) = true, ri ((!if decide (a ≥ d) = true then true else decide (b ≥ e)) = true), ri ((!if decide (a ≥ d) = true then true else decide (b ≥ e)) = true), ri ((!if decide (a ≥ d) = true then true else decide (b ≥ e)) = true), ri ((!if decide (a ≥ d) = true then true else decide (b ≥ e)) = true), (if decide (a ≥ d) = true then true else decide (b ≥ e)) = false → (!if decide (a ≥ d) = true then true else decide (b ≥ e)) = true] (VT.ite (if (if decide (a ≥ d) = true then true else decide (b ≥ e)) = true then true else decide (c ≥ f)) (VT.done [(3:Int) = ckB a b c d e f]) (VT.done [(0:Int) = ckB a b c d e f]))))) (by kernel_rfl) ?_
  simp only [VT.holds, AllT, Sq]
  refine ⟨⟨in_c a, fun _ => in_c b, fun _ => in_c c, fun _ => in_c d, fun _ => in_c e, fun _ => in_c f⟩, fun h => ?_, fun h => ?_⟩
  · rw [ckB, if_pos (fun ⟨h0, h1, h2, h3, h4, h5⟩ => by simp [h0, h1, h2, h3, h4, h5] at h)]
  · have hall : inF a = true ∧ inF b = true ∧ inF c = true ∧ inF d = true ∧ inF e = true ∧ inF f = true := by simpa [and_assoc] using h
    refine ⟨fun h => ?_, fun h => ?_⟩
    · rw [ckB, if_neg (fun hx => hx hall), if_pos (by omega)]
    · rw [ckB, if_neg (fun hx => hx hall), if_neg (by omega)]
end Go.Abs
end
