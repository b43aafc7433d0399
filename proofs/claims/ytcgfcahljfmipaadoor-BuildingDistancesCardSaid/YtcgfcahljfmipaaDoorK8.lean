/- Contracts. Contracts. -/
import Derived.Test.YtcgfcahljfmipaaDoorK6
section
set_option linter.unusedVariables false
set_option linter.unusedSimpArgs false
set_option maxRecDepth 100000
namespace Go.Abs
open Go
abbrev nums (n : Nat) (A : Nat → Int) : DV := .lst n [fun i => .val (.int .i64 (A i))]
def ellX (i : Nat) : Int := [0, 4000, 4000, 2000, 2000, 0].getD i 0
def ellY (i : Nat) : Int := [0, 0, 2000, 2000, 4000, 4000].getD i 0
def rEll : Orc := .res fun _ => pts 6 ellX ellY
def sameN (n : Nat) (A : Nat → Int) (m : Nat) (B : Nat → Int) : Bool := decide (n = m ∧ ∀ i, i < n → A i = B i)
def rInts : Orc := .res fun l => dB (sameN (aN l) (aX l) (lenOf (arg l 1)) (colI 0 (arg l 1)))
noncomputable def A50_ell_c  : Ann := { orc := [], loops := [], cuts := [] }
theorem ell_c   : FnC prog 21 [] (pts 6 ellX ellY) := by
  refine FnC_owed hmix (A50_ell_c ) (V := VT.done [(6:Nat) ≤ 6, (6:Nat) = 6, ∀ i < 6, List.getD [(0:Int), (4000:Int), (4000:Int), (2000:Int), (2000:Int), (0:Int)] i (0:Int) = ellX i, ∀ i < 6, List.getD [(0:Int), (0:Int), (2000:Int), (2000:Int), (4000:Int), (4000:Int)] i (0:Int) = ellY i]) (by kernel_rfl) ?_
  simp only [VT.holds, AllT, Sq]
  exact ⟨Nat.le_refl 6, fun _ _ => rfl, fun _ _ => rfl⟩
noncomputable def A25_ints_c (n : Nat) (A : Nat → Int) (m : Nat) (B : Nat → Int) : Ann := { orc := [], loops := [(0, { ι := Nat, keep := [0, 1], boxes := [], ts := fun _ i => [(5, dI (i : Int))], inv := fun _ i => i ≤ n ∧ ∀ j, j < i → A j = B j, mu := fun _ i => n - i, rd := fun _ σ => (iOf (σ.get 5)).toNat })], cuts := [] }
theorem ints_c (n : Nat) (A : Nat → Int) (m : Nat) (B : Nat → Int) (hn : n ≤ 1000000000) : FnC prog 23 [nums n A, nums m B] (dB (sameN n A m B)) := by
  refine FnC_owed hmix (A25_ints_c n A m B) (V := VT.ite ((n:Int) != (m:Int)) (VT.done [false = sameN n A m B]) (VT.loop Nat (fun (a : Nat) => a ≤ n ∧ ∀ (j : Nat), j < a → A j = B j) (0:Int).toNat [(0:Int) = (↑(0:Int).toNat : Int), n = n, ∀ i < n, A i = A i, m = m, ∀ i < m, B i = B i] fun (i : Nat) => VT.ite (decide ((i:Int) < (n:Int))) (VT.need [(0:Int) ≤ (i:Int) ∧ (i:Int) < (n:Int), (0:Int) ≤ (i:Int) ∧ (i:Int) < (m:Int)] (VT.ite (A (i:Int).toNat != B (i:Int).toNat) (VT.done [false = sameN n A m B]) (VT.need [i64In ((i:Int) + 1)] (VT.done [(i:Int) + 1 = (↑((i:Int) + 1).toNat : Int), n = n, ∀ i < n, A i = A i, m = m, ∀ i < m, B i = B i, Int.toNat ((i:Int) + 1) ≤ n ∧ ∀ (j : Nat), j < ((i:Int) + 1).toNat → A j = B j, n - ((i:Int) + 1).toNat < n - i])))) (VT.done [true = sameN n A m B]))) (by kernel_rfl) ?_
  simp only [VT.holds, AllT, Sq]
  refine ⟨fun h => ?_, fun h => ⟨rfl, ⟨by omega, fun j hj => (by omega)⟩, fun i ⟨hi, hb⟩ => ⟨fun hlt => ⟨⟨by omega, by omega, by omega⟩, fun hne => ?_, fun he => ⟨by unfold i64In; omega, rfl, ⟨by omega, fun j hj => ?_⟩, by omega⟩⟩, fun hge => ?_⟩⟩⟩
  · unfold sameN
    rw [eq_comm, decide_eq_false_iff_not]
    intro hx; omega
  · unfold sameN
    rw [eq_comm, decide_eq_false_iff_not]
    intro hx; exact hne (hx.2 i (by omega))
  · by_cases e : j = i
    · subst e; exact he
    · exact hb j (by omega)
  · unfold sameN
    rw [eq_comm, decide_eq_true_eq]
    exact ⟨by omega, fun j hj => hb j (by omega)⟩
noncomputable def A10_awake_c  : Ann := { orc := [(1, [(0, rEll), (1, rAr)]), (2, [(0, rEll), (1, rCo)]), (3, [(0, rEll), (2, rDi)]), (4, [(13, rInts)])], loops := [], cuts := [] }
theorem awake_c   : FnC prog 5 [] (dB true) := by
  refine FnC_owed hmix (A10_awake_c ) (V := VT.need [FnC prog 21 [] (DV.lst 6 [fun (i : Nat) => DV.val (Value.int IntKind.i64 (ellX i)), fun (i : Nat) => DV.val (Value.int IntKind.i64 (ellY i))]), FnC prog 20 [DV.lst 6 [fun (i : Nat) => DV.val (Value.int IntKind.i64 (ellX i)), fun (i : Nat) => DV.val (Value.int IntKind.i64 (ellY i))]] (DV.tup [DV.val (Value.int IntKind.i64 (arF 6 ellX ellY)), DV.val (Value.int IntKind.i64 (chk 6 ellX ellY))])] (VT.need [FnC prog 21 [] (DV.lst 6 [fun (i : Nat) => DV.val (Value.int IntKind.i64 (ellX i)), fun (i : Nat) => DV.val (Value.int IntKind.i64 (ellY i))]), FnC prog 22 [DV.lst 6 [fun (i : Nat) => DV.val (Value.int IntKind.i64 (ellX i)), fun (i : Nat) => DV.val (Value.int IntKind.i64 (ellY i))]] (DV.tup [DV.lst (coN 6 ellX ellY) [fun (k : Nat) => DV.val (Value.int IntKind.i64 (cor 6 ellX ellY k))], DV.val (Value.int IntKind.i64 (chk 6 ellX ellY))])] (VT.need [FnC prog 21 [] (DV.lst 6 [fun (i : Nat) => DV.val (Value.int IntKind.i64 (ellX i)), fun (i : Nat) => DV.val (Value.int IntKind.i64 (ellY i))]), FnC prog 16 [DV.lst 6 [fun (i : Nat) => DV.val (Value.int IntKind.i64 (ellX i)), fun (i : Nat) => DV.val (Value.int IntKind.i64 (ellY i))], DV.val (Value.agg { toList := [Value.int IntKind.i64 (5000:Int), Value.int IntKind.i64 (5000:Int)] })] (DV.tup [DV.val (Value.int IntKind.i64 (diR 6 ellX ellY (5000:Int) (5000:Int))), DV.val (Value.int IntKind.i64 (whE 6 ellX ellY (5000:Int) (5000:Int)))])] (VT.need [ri ((chk 6 ellX ellY == 0) = true), ri ((chk 6 ellX ellY == 0) = true), ri ((if (chk 6 ellX ellY == 0) = true then arF 6 ellX ellY == 12000000 else false) = true), ri ((if (chk 6 ellX ellY == 0) = true then arF 6 ellX ellY == 12000000 else false) = true), (if (if (chk 6 ellX ellY == 0) = true then arF 6 ellX ellY == 12000000 else false) = true then chk 6 ellX ellY == 0 else false) = true, ri ((if (if (chk 6 ellX ellY == 0) = true then arF 6 ellX ellY == 12000000 else false) = true then chk 6 ellX ellY == 0 else false) = true), ri ((if (if (chk 6 ellX ellY == 0) = true then arF 6 ellX ellY == 12000000 else false) = true then chk 6 ellX ellY == 0 else false) = true), (if (if (chk 6 ellX ellY == 0) = true then arF 6 ellX ellY == 12000000 else false) = true then chk 6 ellX ellY == 0 else false) = true → (6:Nat) ≤ 6, (if (if (chk 6 ellX ellY == 0) = true then arF 6 ellX ellY == 12000000 else false) = true then chk 6 ellX ellY == 0 else false) = true → FnC prog 23 [DV.lst (coN 6 ellX ellY) [fun (k : Nat) => DV.val (Value.int IntKind.i64 (cor 6 ellX ellY k))], DV.lst 6 [fun (a : Nat) => DV.val (Value.int IntKind.i64 (List.getD [(1:Int), (1:Int), (1:Int), (-1:Int), (1:Int), (1:Int)] a (0:Int)))]] (DV.val (Value.bool (sameN (coN 6 ellX ellY) (cor 6 ellX ellY) (6:Nat) fun (i : Nat) => List.getD [(1:Int), (1 :
     Int), (1:Int), (-1:Int), (1:Int), (1:Int)] i (0:Int)))), ri ((if (if (chk 6 ellX ellY == 0) = true then arF 6 ellX ellY == 12000000 else false) = true then chk 6 ellX ellY == 0 else false) = true), ri ((if (if (if (chk 6 ellX ellY == 0) = true then arF 6 ellX ellY == 12000000 else false) = true then chk 6 ellX ellY == 0 else false) = true then sameN (coN 6 ellX ellY) (cor 6 ellX ellY) (6:Nat) fun (i : Nat) => List.getD [(1:Int), (1:Int), (1:Int), (-1:Int), (1:Int), (1:Int)] i (0:Int) else false) = true), ri ((if (if (if (chk 6 ellX ellY == 0) = true then arF 6 ellX ellY == 12000000 else false) = true then chk 6 ellX ellY == 0 else false) = true then sameN (coN 6 ellX ellY) (cor 6 ellX ellY) (6:Nat) fun (i : Nat) => List.getD [(1:Int), (1:Int), (1:Int), (-1:Int), (1:Int), (1:Int)] i (0:Int) else false) = true), ri ((if (if (if (if (chk 6 ellX ellY == 0) = true then arF 6 ellX ellY == 12000000 else false) = true then chk 6 ellX ellY == 0 else false) = true then sameN (coN 6 ellX ellY) (cor 6 ellX ellY) (6:Nat) fun (i : Nat) => List.getD [(1:Int), (1:Int), (1:Int), (-1:Int), (1:Int), (1:Int)] i (0:Int) else false) = true then whE 6 ellX ellY (5000:Int) (5000:Int) == 0 else false) = true), ri ((if (if (if (if (chk 6 ellX ellY == 0) = true then arF 6 ellX ellY == 12000000 else false) = true then chk 6 ellX ellY == 0 else false) = true then sameN (coN 6 ellX ellY) (cor 6 ellX ellY) (6:Nat) fun (i : Nat) => List.getD [(1:Int), (1:Int), (1:Int), (-1:Int), (1:Int), (1:Int)] i (0:Int) else false) = true then whE 6 ellX ellY (5000:Int) (5000:Int) == 0 else false) = true)] (VT.done [(if (if (if (if (if (chk 6 ellX ellY == 0) = true then arF 6
     ellX ellY == 12000000 else false) = true then chk 6 ellX ellY == 0 else false) = true then sameN (coN 6 ellX ellY) (cor 6 ellX ellY) (6:Nat) fun (i : Nat) => List.getD [(1:Int), (1:Int), (1:Int), (-1:Int), (1:Int), (1:Int)] i (0:Int) else false) = true then whE 6 ellX ellY (5000:Int) (5000:Int) == 0 else false) = true then diR 6 ellX ellY (5000:Int) (5000:Int) == 10000000 else false) = true]))))) (by kernel_rfl) ?_
  simp only [VT.holds, AllT, Sq]
  have hc : chk 6 ellX ellY = 0 := by decide +kernel
  have ha : arF 6 ellX ellY = 12000000 := by decide +kernel
  have hn : coN 6 ellX ellY = 6 := by decide +kernel
  have hd : diR 6 ellX ellY 5000 5000 = 10000000 := by decide +kernel
  have he : whE 6 ellX ellY 5000 5000 = 0 := by decide +kernel
  have hs : sameN 6 (cor 6 ellX ellY) 6 (fun a => [1, 1, 1, -1, 1, 1].getD a 0) = true := by decide +kernel
  have h4 := ints_c 6 (cor 6 ellX ellY) 6 (fun a => [1, 1, 1, -1, 1, 1].getD a 0) (by omega)
  refine ⟨⟨ell_c, area_c 6 ellX ellY (by omega)⟩, ⟨ell_c, corners_c 6 ellX ellY (by omega)⟩, ⟨ell_c, dist_c 6 ellX ellY 5000 5000 (by omega)⟩, ⟨⟨⟨hc, ha⟩, hc⟩, fun _ => Nat.le_refl 6, fun _ => ?_⟩, ⟨⟨⟨⟨hc, ha⟩, hc⟩, ?_⟩, he⟩, hd⟩
  · rw [hn]; exact h4
  · rw [hn]; exact hs
end Go.Abs
end
section
set_option linter.unusedVariables false
set_option linter.unusedSimpArgs false
set_option maxRecDepth 100000
namespace Go.Abs
open Go
/-- The length of a side. -/
def lenW (n : Nat) (X Y : Nat → Int) (i : Int) : Int := ((X (ix n (i + 1)) - X (ix n i)).natAbs : Int) + ((Y (ix n (i + 1)) - Y (ix n i)).natAbs : Int)
theorem last_if {f : Nat → Int} {i : Nat} {s : Int} (h : s = f i) : ∀ k, k < i + 1 → (if k < i then f k else s) = f k := fun k hk => by
  by_cases e : k < i
  · rw [if_pos e]
  · rw [if_neg e, h, show k = i by omega]
noncomputable def A68_absR_c (x : Int) : Ann := { orc := [], loops := [], cuts := [] }
theorem absR_c (x : Int) (h : -9223372036854775807 ≤ x ∧ x ≤ 9223372036854775807) : FnC prog 18 [dI x] (dI (x.natAbs : Int)) := by
  refine FnC_owed hmix (A68_absR_c x) (V := VT.ite (decide (x < 0)) (VT.need [i64In (-x)] (VT.done [-x = (↑(Int.natAbs x) : Int)])) (VT.done [x = (↑(Int.natAbs x) : Int)])) (by kernel_rfl) ?_
  simp only [VT.holds, AllT, Sq]
  refine ⟨fun h => ⟨by unfold i64In; omega, by omega⟩, fun h => by omega⟩
end Go.Abs
end
