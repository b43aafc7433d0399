/- Contracts. Contracts. -/
import Derived.Test.YteennpofimiliaaGreatDoorK6
section
set_option linter.unusedVariables false
set_option linter.unusedSimpArgs false
set_option maxRecDepth 100000
namespace Go.Abs
open Go
abbrev nums (n : Nat) (A : Nat → Int) : DV := .lst n [fun i => .val (.int .i64 (A i))]
def rPts : Orc := .res fun l => pts (aN l) (aX l) (aY l)
def sameN (n : Nat) (A : Nat → Int) (m : Nat) (B : Nat → Int) : Bool := decide (n = m ∧ ∀ i, i < n → A i = B i)
noncomputable def A13_points_c (n : Nat) (X Y : Nat → Int) : Ann := { orc := [], loops := [], cuts := [] }
theorem points_c (n : Nat) (X Y : Nat → Int) (hn : n ≤ 1000000) : FnC prog 46 [pts n X Y] (pts n X Y) := by
  refine FnC_owed hmix (A13_points_c n X Y) (V := .need [(0:Nat) ≤ (0:Nat), ((0:Nat) + n) * (nat_lit 15 + (1:Nat)) ≤ (140737488355328:Nat)] (.done [(0:Nat) + n ≤ (0:Nat) + n, (0:Nat) + n = n, ∀ i < n, (if decide (i < (0:Nat)) = true then (0:Int) else X (i - (0:Nat))) = X i, ∀ i < n, (if decide (i < (0:Nat)) = true then (0:Int) else Y (i - (0:Nat))) = Y i])) (by kernel_rfl) ?_
  simp only [VT.holds, AllT, Sq]
  exact ⟨⟨by omega, by omega⟩, by omega, by omega, fun i _ => by rw [if_neg (by omega)]; rfl, fun i _ => by rw [if_neg (by omega)]; rfl⟩
noncomputable def A25_ints_c (n : Nat) (A : Nat → Int) (m : Nat) (B : Nat → Int) : Ann := { orc := [], loops := [(0, { ι := Nat, keep := [0, 1], boxes := [], ts := fun _ i => [(5, dI (i : Int))], inv := fun _ i => i ≤ n ∧ ∀ j, j < i → A j = B j, mu := fun _ i => n - i, rd := fun _ σ => (iOf (σ.get 5)).toNat })], cuts := [] }
theorem ints_c (n : Nat) (A : Nat → Int) (m : Nat) (B : Nat → Int) (hn : n ≤ 1000000000) : FnC prog 28 [nums n A, nums m B] (dB (sameN n A m B)) := by
  refine FnC_owed hmix (A25_ints_c n A m B) (V := .ite ((n:Int) != (m:Int)) (.done [false = sameN n A m B]) (.loop Nat (fun a => a ≤ n ∧ ∀ (j : Nat), j < a → A j = B j) (0:Int).toNat [(0:Int) = (↑(0:Int).toNat : Int), n = n, ∀ i < n, A i = A i, m = m, ∀ i < m, B i = B i] fun i => .ite (decide ((i:Int) < (n:Int))) (.need [(0:Int) ≤ (i:Int) ∧ (i:Int) < (n:Int), (0:Int) ≤ (i:Int) ∧ (i:Int) < (m:Int)] (.ite (A (i:Int).toNat != B (i:Int).toNat) (.done [false = sameN n A m B]) (.need [i64In ((i:Int) + (1:Int))] (.done [(i:Int) + (1:Int) = (↑((i:Int) + (1:Int)).toNat : Int), n = n, ∀ i < n, A i = A i, m = m, ∀ i < m, B i = B i, Int.toNat ((i:Int) + (1:Int)) ≤ n ∧ ∀ (j : Nat), j < ((i:Int) + (1:Int)).toNat → A j = B j, n - ((i:Int) + (1:Int)).toNat < n - i])))) (.done [true = sameN n A m B]))) (by kernel_rfl) ?_
  simp only [VT.holds, AllT, Sq]
  refine ⟨fun h => ?_, fun h => ⟨rfl, ⟨by omega, fun j hj => (by omega)⟩, fun i ⟨hi, hb⟩ => ⟨fun hlt => ⟨⟨by omega, by omega, by omega⟩, fun hne => ?_, fun he => ⟨by unfold i64In; omega, rfl, ⟨by omega, fun j hj => ?_⟩, by omega⟩⟩, fun hge => ?_⟩⟩⟩
  · unfold sameN
    rw [eq_comm, decide_eq_false_iff_not]
    intro hx; omega
  · unfold sameN
    rw [eq_comm, decide_eq_false_iff_not]
    intro hx; exact hne (hx.2 i (by omega))
  · by_cases e : j = i
    · subst e; exact he
    · exact hb j (by omega)
  · unfold sameN
    rw [eq_comm, decide_eq_true_eq]
    exact ⟨by omega, fun j hj => hb j (by omega)⟩
end Go.Abs
end
section
set_option linter.unusedVariables false
set_option linter.unusedSimpArgs false
set_option maxRecDepth 100000
namespace Go.Abs
open Go
def lenW (n : Nat) (X Y : Nat → Int) (i : Int) : Int := ((X (ix n (i + 1)) - X (ix n i)).natAbs : Int) + ((Y (ix n (i + 1)) - Y (ix n i)).natAbs : Int)
abbrev wcols (n : Nat) (X Y : Nat → Int) : List (Nat → DV) := [fun i => dI (X i), fun i => dI (Y i), fun i => dI (X (ix n ((i : Int) + 1))), fun i => dI (Y (ix n ((i : Int) + 1))), fun i => dI (lenW n X Y i), fun i => dI (dD n X Y i)]
def rWallsR : Orc := .res fun l => .lst (aN l) (wcols (aN l) (aX l) (aY l))
def rCorR : Orc := .res fun l => .lst (aN l) [fun k => dI (cor (aN l) (aX l) (aY l) k)]
theorem dO_of_chk {n : Nat} {X Y : Nat → Int} (h : chk n X Y = 0) {i : Nat} (hi : i < n) : dO n X Y i = true := by
  have := (chk_zero h).2.2.1 i hi
  simp only [formOk, Bool.and_eq_true] at this
  exact this.1.1
theorem last_if {f : Nat → Int} {i : Nat} {s : Int} (h : s = f i) : ∀ k, k < i + 1 → (if k < i then f k else s) = f k := fun k hk => by
  by_cases e : k < i
  · rw [if_pos e]
  · rw [if_neg e, h, show k = i by omega]
theorem ix_cast {n : Nat} (hn : 0 < n) (j : Int) : ((ix n j : Nat) : Int) = j % n := by
  unfold ix
  rw [Int.add_emod_right, Int.toNat_of_nonneg (Int.emod_nonneg _ (by omega))]
theorem ix_ix {n : Nat} (hn : 0 < n) (j : Int) : ix n (ix n j) = ix n j := by
  have h : ix n ((ix n j : Nat) : Int) = ((((ix n j : Nat) : Int) + n) % n).toNat := rfl
  rw [h, ix_cast hn, Int.add_emod_right, Int.emod_emod]
  unfold ix
  rw [Int.add_emod_right]
theorem ix_ix1 {n : Nat} (hn : 0 < n) (j : Int) : ix n ((ix n j : Nat) + 1) = ix n (j + 1) := by
  have h : ix n (((ix n j : Nat) : Int) + 1) = ((((ix n j : Nat) : Int) + 1 + n) % n).toNat := rfl
  rw [h, ix_cast hn, Int.add_emod_right, Int.emod_add_emod]
  unfold ix
  rw [Int.add_emod_right]
theorem dD_ix {n : Nat} {X Y : Nat → Int} (hn : 0 < n) (j : Int) : dD n X Y ((ix n j : Nat) : Int) = dD n X Y j := by
  unfold dD
  rw [ix_ix hn, ix_ix1 hn]
noncomputable def A68_absR_c (x : Int) : Ann := { orc := [], loops := [], cuts := [] }
theorem absR_c (x : Int) (h : -9223372036854775807 ≤ x ∧ x ≤ 9223372036854775807) : FnC prog 109 [dI x] (dI (x.natAbs : Int)) := by
  refine FnC_owed hmix (A68_absR_c x) (V := .ite (decide (x < (0:Int))) (.need [i64In (-x)] (.done [-x = (↑(Int.natAbs x) : Int)])) (.done [x = (↑(Int.natAbs x) : Int)])) (by kernel_rfl) ?_
  simp only [VT.holds, AllT, Sq]
  refine ⟨fun h => ⟨by unfold i64In; omega, by omega⟩, fun h => by omega⟩
noncomputable def A20_walls_c (n : Nat) (X Y : Nat → Int) : Ann := { orc := [(1, [(1, rChk)]), (9, [(3, rAt), (7, rAt), (10, rLen), (13, rWay)])], loops := [(0, { ι := Nat, keep := [0, 5, 15], boxes := [], ts := fun _ i => [(16, dI (i : Int))], rw := fun _ i => [(6, 6, i, wcols n X Y)], inv := fun _ i => i ≤ n, mu := fun _ i => n - i, rd := fun _ σ => (iOf (σ.get 16)).toNat })], cuts := [] }
namespace wr
noncomputable section
structure Z where
  n : Nat
  X : Nat → Int
  Y : Nat → Int
variable (z : Z) (i0 i1 : Nat) (P : List Prop) (a b : Int)
abbrev x0 := (i0:Int) + 1
abbrev x1 := Int.toNat (x0 i0)
abbrev x2 := i0 < coN z.n z.X z.Y → rf a
abbrev x3 := if (decide (i1 < i0)) = true then a else b
abbrev x4 := z.X (ix z.n (x0 i0))
abbrev x5 := z.Y (ix z.n (x0 i0))
abbrev x6 := DV.lst z.n [fun i0 => dI (z.X i0), fun i0 => dI (z.Y i0)]
abbrev x7 := z.X (ix z.n (i0:Int))
abbrev x8 := z.Y (ix z.n (i0:Int))
abbrev x9 : List Prop := rf z.n :: (∀ i0 < z.n, rf (z.X i0)) :: (∀ i0 < z.n, rf (z.Y i0)) :: P
abbrev x10 := chk z.n z.X z.Y
abbrev x11 := dD z.n z.X z.Y (i0:Int)
abbrev x12 := DV.val (Value.agg (Array.mk [Value.int IntKind.i64 a, Value.int IntKind.i64 b]))
abbrev x13 := (↑(Int.natAbs (x4 z i0 - x7 z i0)) : Int) + (↑(Int.natAbs (x5 z i0 - x8 z i0)) : Int)
abbrev xt : VT := VT.need [FnC prog 121 [x6 z] (dI (x10 z))] (VT.ite (x10 z != 0) (VT.done [coN z.n z.X z.Y = 0, rf (x10 z)]) (VT.loop Nat (fun i0 => i0 ≤ z.n) (Int.toNat 0) ((0 = (↑(Int.toNat 0) : Int)) :: rf (0:Nat) :: (Int.toNat 0 = 0) :: x9 z (x9 z [rf (z.n:Int), Int.toNat 0 = 0])) (fun i0 => VT.ite (decide ((i0:Int) < (z.n:Int))) (VT.need [FnC prog 128 [x6 z, dI (i0:Int)] (x12 (x7 z i0) (x8 z i0)), i64In (x0 i0), FnC prog 128 [x6 z, dI (x0 i0)] (x12 (x4 z i0) (x5 z i0)), FnC prog 122 [x6 z, dI (i0:Int)] (dI (x13 z i0)), FnC prog 126 [x6 z, dI (i0:Int)] (dI (x11 z i0)), i0 ≤ i0, (i0 + 1) * ((nat_lit 47) + 1) ≤ 140737488355328, (1:Nat) ≤ (1:Nat)] (VT.need [i64In (x0 i0)] (VT.done ((x0 i0 = (↑(x1 i0) : Int)) :: rf (0:Nat) :: (i0 + 1 = x1 i0) :: x9 z (x9 z [rf (z.n:Int), i0 + 1 = x1 i0, ∀ i1 < x1 i0, x3 i0 i1 (z.X i1) (x7 z i0) = (z.X i1), ∀ i1 < x1 i0, x3 i0 i1 (z.Y i1) (x8 z i0) = (z.Y i1), ∀ i1 < x1 i0, x3 i0 i1 (z.X (ix z.n ((i1:Int) + 1))) (x4 z i0) = (z.X (ix z.n ((i1:Int) + 1))), ∀ i1 < x1 i0, x3 i0 i1 (z.Y (ix z.n ((i1:Int) + 1))) (x5 z i0) = (z.Y (ix z.n ((i1:Int) + 1))), ∀ i1 < x1 i0, x3 i0 i1 (lenW z.n z.X z.Y (i1:Int)) (x13 z i0) = lenW z.n z.X z.Y (i1:Int), ∀ i1 < x1 i0, x3 i0 i1 (dD z.n z.X z.Y (i1:Int)) (x11 z i0) = dD z.n z.X z.Y (i1:Int), x1 i0 ≤ z.n, z.n - x1 i0 < z.n - i0]))))) (VT.done [i0 ≤ i0, i0 = coN z.n z.X z.Y, ∀ (i0 : Nat), x2 z i0 (z.X i0), ∀ (i0 : Nat), x2 z i0 (z.Y i0), ∀ (i0 : Nat), x2 z i0 (x4 z i0), ∀ (i0 : Nat), x2 z i0 (x5 z i0), ∀ (i0 : Nat), x2 z i0 (lenW z.n z.X z.Y (i0:Int)), ∀ (i0 : Nat), x2 z i0 (x11 z i0), 0 = x10 z]))))
end
end wr
open wr in
theorem walls_c (n : Nat) (X Y : Nat → Int) (hn2 : n ≤ 1000000) : FnC prog 83 [pts n X Y] (.tup [.lst (coN n X Y) (wcols n X Y), dI (chk n X Y)]) := by
  refine FnC_owed hmix (A20_walls_c n X Y) (V := xt ⟨n, X, Y⟩) (by kernel_rfl) ?_
  simp only [xt, x0, x1, x2, x3, x4, x5, x6, x7, x8, x9, x10, x11, x12, x13, Rf, VT.holds, AllT, Sq]
  refine ⟨checkOutline_c n X Y hn2, fun h => by rw [coN, if_pos h], fun h => ⟨rfl, Nat.zero_le n, fun i hin => ⟨fun hlt => ?_, fun hge => ⟨Nat.le_refl i, ?_, h.symm⟩⟩⟩⟩
  · have hn := chk_n h
    obtain ⟨hX, hY⟩ := chk_inB h
    have e := ix_nat (n := n) (i := i) (by omega)
    have a1 := at_c n X Y i (by omega) (by omega) (by omega) (by omega)
    refine ⟨⟨a1, by unfold i64In; omega, at_c n X Y (i + 1) (by omega) (by omega) (by omega) (by omega), length_c n X Y i (by omega) (by omega) (by omega) (by omega) hX hY, way_c n X Y i (by omega) (by omega) (by omega) (by omega), Nat.le_refl i, by omega, Nat.le_refl 1⟩, by unfold i64In; omega, rfl, last_if (by rw [e]), last_if (by rw [e]), last_if (f := fun j => X (ix n ((j : Int) + 1))) rfl, last_if (f := fun j => Y (ix n ((j : Int) + 1))) rfl, last_if (f := fun j => lenW n X Y j) rfl, last_if (f := fun j => dD n X Y j) rfl, by omega, by omega⟩
  · rw [coN, if_neg (by rw [h]; simp)]
    omega
noncomputable def A23_wallsR_c (n : Nat) (X Y : Nat → Int) : Ann := { orc := [(5, [(2, rNext)]), (6, [(14, .res fun l => dI ((aI l 0).natAbs : Int)), (23, .res fun l => dI ((aI l 0).natAbs : Int)), (30, rDirR)])], loops := [(0, { ι := Nat, keep := [0], boxes := [], ts := fun _ i => [(4, dI (i : Int))], rw := fun _ i => [(3, 6, i, wcols n X Y)], inv := fun _ i => i ≤ n, mu := fun _ i => n - i, rd := fun _ σ => (iOf (σ.get 4)).toNat })], cuts := [] }
namespace ws
noncomputable section
structure Z where
  n : Nat
  X : Nat → Int
  Y : Nat → Int
variable (z : Z) (i0 i1 : Nat) (P : List Prop) (a b : Int)
abbrev x0 := (i0:Int) + 1
abbrev x1 := Int.toNat (x0 i0)
abbrev x2 := z.X (ix z.n (x0 i0))
abbrev x3 := z.Y (ix z.n (x0 i0))
abbrev x4 := z.X (Int.toNat (i0:Int))
abbrev x5 := z.Y (Int.toNat (i0:Int))
abbrev x6 := if (decide (i1 < i0)) = true then a else b
abbrev x7 := Int.toNat 0
abbrev x8 := ix z.n ((i1:Int) + 1)
abbrev x9 : List Prop := (0 ≤ (i0:Int) ∧ (i0:Int) < (z.n:Int)) :: P
abbrev x10 : List Prop := (∀ i0 < z.n, rf (z.X i0)) :: P
abbrev x11 := ∀ i0 < z.n, rf (z.Y i0)
abbrev x12 : Int := (↑(Int.natAbs (x2 z i0 - x4 z i0)) : Int)
abbrev x13 : Int := (↑(Int.natAbs (x3 z i0 - x5 z i0)) : Int)
abbrev x14 := DV.val (Value.agg (Array.mk [Value.int IntKind.i64 a, Value.int IntKind.i64 b]))
abbrev xt : VT := VT.loop Nat (fun i0 => i0 ≤ z.n) x7 ((0 = (x7:Int)) :: rf (0:Nat) :: (x7 = 0) :: rf z.n :: x10 z [x11 z, x7 = 0]) (fun i0 => VT.ite (decide ((i0:Int) < (z.n:Int))) (VT.need [FnC prog 108 [DV.lst z.n [fun i0 => dI (z.X i0), fun i0 => dI (z.Y i0)], dI (i0:Int)] (x14 (x2 z i0) (x3 z i0))] (VT.need (x9 z i0 (x9 z i0 (i64In (x2 z i0 - x4 z i0) :: FnC prog 109 [dI (x2 z i0 - x4 z i0)] (dI (x12 z i0)) :: x9 z i0 (i64In (x3 z i0 - x5 z i0) :: FnC prog 109 [dI (x3 z i0 - x5 z i0)] (dI (x13 z i0)) :: i64In (x12 z i0 + x13 z i0) :: x9 z i0 [FnC prog 110 [x14 (x4 z i0) (x5 z i0), x14 (x2 z i0) (x3 z i0)] (dI (dirR (x4 z i0) (x5 z i0) (x2 z i0) (x3 z i0))), i0 ≤ i0, (i0 + 1) * ((nat_lit 47) + 1) ≤ 140737488355328, (1:Nat) ≤ (1:Nat)])))) (VT.need [i64In (x0 i0)] (VT.done ((x0 i0 = (↑(x1 i0) : Int)) :: rf (0:Nat) :: (i0 + 1 = x1 i0) :: rf z.n :: x10 z [x11 z, i0 + 1 = x1 i0, ∀ i1 < x1 i0, x6 i0 i1 (z.X i1) (x4 z i0) = (z.X i1), ∀ i1 < x1 i0, x6 i0 i1 (z.Y i1) (x5 z i0) = (z.Y i1), ∀ i1 < x1 i0, x6 i0 i1 (z.X (x8 z i1)) (x2 z i0) = (z.X (x8 z i1)), ∀ i1 < x1 i0, x6 i0 i1 (z.Y (x8 z i1)) (x3 z i0) = (z.Y (x8 z i1)), ∀ i1 < x1 i0, x6 i0 i1 (lenW z.n z.X z.Y (i1:Int)) (x12 z i0 + x13 z i0) = lenW z.n z.X z.Y (i1:Int), ∀ i1 < x1 i0, x6 i0 i1 (dD z.n z.X z.Y (i1:Int)) (dirR (x4 z i0) (x5 z i0) (x2 z i0) (x3 z i0)) = dD z.n z.X z.Y (i1:Int), x1 i0 ≤ z.n, z.n - x1 i0 < z.n - i0]))))) (VT.done ((i0 ≤ i0) :: (i0 = z.n) :: x10 z [x11 z, ∀ i0 < z.n, rf (x2 z i0), ∀ i0 < z.n, rf (x3 z i0), ∀ i0 < z.n, rf (lenW z.n z.X z.Y (i0:Int)), ∀ i0 < z.n, rf (dD z.n z.X z.Y (i0:Int))])))
end
end ws
open ws in
theorem wallsR_c (n : Nat) (X Y : Nat → Int) (h : chk n X Y = 0) : FnC prog 69 [pts n X Y] (.lst n (wcols n X Y)) := by
  refine FnC_owed hmix (A23_wallsR_c n X Y) (V := xt ⟨n, X, Y⟩) (by kernel_rfl) ?_
  simp only [xt, x0, x1, x2, x3, x4, x5, x6, x7, x8, x9, x10, x11, x12, x13, x14, Rf, VT.holds, AllT, Sq]
  have hn := chk_n h
  obtain ⟨hX, hY⟩ := chk_inB h
  refine ⟨rfl, Nat.zero_le n, fun i hin => ⟨fun hlt => ?_, fun hge => ⟨Nat.le_refl i, by omega⟩⟩⟩
  have e := ix_nat (n := n) (i := i) (by omega)
  have x1 := hX i (by omega)
  have x2 := hX _ (ix_lt (i := (i : Int) + 1) (show 0 < n by omega))
  have y1 := hY i (by omega)
  have y2 := hY _ (ix_lt (i := (i : Int) + 1) (show 0 < n by omega))
  have hr : (0:Int) ≤ i ∧ (i : Int) < n := by omega
  have hd : dirR (X i) (Y i) (X (ix n ((i : Int) + 1))) (Y (ix n ((i : Int) + 1))) = dD n X Y i := by
    have ho := dO_of_chk h (i := i) (by omega)
    unfold dO at ho
    rw [e] at ho
    unfold dirR dD
    rw [e, if_pos ho]
  have hl : (((X (ix n ((i : Int) + 1)) - X i).natAbs : Int) + ((Y (ix n ((i : Int) + 1)) - Y i).natAbs : Int)) = lenW n X Y i := by unfold lenW; rw [e]
  refine ⟨next_c n X Y i (by omega) (by omega) (by omega) (by omega), ⟨hr, hr, by unfold i64In; omega, absR_c _ (by omega), hr, by unfold i64In; omega, absR_c _ (by omega), by unfold i64In; omega, hr, dirR_c _ _ _ _, Nat.le_refl i, by omega, Nat.le_refl 1⟩, by unfold i64In; omega, rfl, last_if rfl, last_if rfl, last_if (f := fun j => X (ix n ((j : Int) + 1))) rfl, last_if (f := fun j => Y (ix n ((j : Int) + 1))) rfl, last_if (f := fun j => lenW n X Y j) hl, last_if (f := fun j => dD n X Y j) hd, by omega, by omega⟩
noncomputable def A26_cornersR_c (n : Nat) (X Y : Nat → Int) : Ann := { orc := [(2, [(1, rWallsR)]), (6, [(8, .pos)]), (7, [(2, .pos)])], loops := [(0, { ι := Nat, keep := [0, 4], boxes := [], ts := fun _ i => [(5, dI (i : Int))], rw := fun _ i => [(3, 1, i, [fun k => dI (cor n X Y k)])], inv := fun _ i => i ≤ n, mu := fun _ i => n - i, rd := fun _ σ => (iOf (σ.get 5)).toNat })], cuts := [] }
namespace wt
noncomputable section
structure Z where
  n : Nat
  X : Nat → Int
  Y : Nat → Int
variable (z : Z) (i0 i1 : Nat) (p : Prop) (P : List Prop) (a b : Int) (j11a : Nat → Int)
abbrev x0 := (i0:Int) + 1
abbrev x1 := Int.toNat (x0 i0)
abbrev x2 := (i0:Int) + (z.n:Int) - 1
abbrev x3 := i0 < z.n → rf (j11a (ix z.n (x0 i0)))
abbrev x4 : List Prop := rf z.n :: (∀ i0 < z.n, rf (z.X i0)) :: (∀ i0 < z.n, rf (z.Y i0)) :: P
abbrev x5 := x2 z i0 % (z.n:Int)
abbrev x6 := dD z.n z.X z.Y (↑(Int.toNat a) : Int)
abbrev x7 := ∀ i0 < z.n, rf (dD z.n z.X z.Y (i0:Int))
abbrev x8 := 0 ≤ a ∧ b < (z.n:Int)
abbrev x9 := x4 z (x4 z ((∀ (i0 : Nat), x3 z i0 z.X) :: (∀ (i0 : Nat), x3 z i0 z.Y) :: (∀ i0 < z.n, rf (lenW z.n z.X z.Y (i0:Int))) :: P))
abbrev x10 := i1 < x1 i0 → (if (decide (i1 < i0)) = true then (cor z.n z.X z.Y i1) else a) = cor z.n z.X z.Y i1
abbrev x11 := VT.need [i0 ≤ i0, (i0 + 1) * ((nat_lit 7) + 1) ≤ 140737488355328, (1:Nat) ≤ (1:Nat)] (VT.need [i64In (x0 i0)] (VT.done ((x0 i0 = (↑(x1 i0) : Int)) :: rf (0:Nat) :: (i0 + 1 = x1 i0) :: x9 z [x7 z, i0 + 1 = x1 i0, p, x1 i0 ≤ z.n, z.n - x1 i0 < z.n - i0])))
abbrev xt : VT := VT.need [FnC prog 69 [DV.lst z.n [fun i0 => dI (z.X i0), fun i0 => dI (z.Y i0)]] (DV.lst z.n [fun i0 => dI (z.X i0), fun i0 => dI (z.Y i0), fun i0 => dI (z.X (ix z.n (x0 i0))), fun i0 => dI (z.Y (ix z.n (x0 i0))), fun i0 => dI (lenW z.n z.X z.Y (i0:Int)), fun i0 => dI (dD z.n z.X z.Y (i0:Int))])] (VT.loop Nat (fun i0 => i0 ≤ z.n) (Int.toNat 0) ((0 = (↑(Int.toNat 0) : Int)) :: rf (0:Nat) :: (Int.toNat 0 = 0) :: x9 z [x7 z, Int.toNat 0 = 0]) (fun i0 => VT.ite (decide ((i0:Int) < (z.n:Int))) (VT.need [i64In ((i0:Int) + (z.n:Int)), i64In (x2 z i0), x8 z (x2 z i0) (0:Int), x8 z (x5 z i0) (x5 z i0)] (VT.need [i64In (x6 z (x5 z i0) + 1), 0 ≤ x6 z (x5 z i0) + 1 ∧ (0:Int) < (4:Int), x8 z (i0:Int) (i0:Int)] (VT.ite ((x6 z (x5 z i0) + 1) % 4 == x6 z (i0:Int)) (x11 z i0 (∀ (i1 : Nat), x10 z i0 i1 (1:Int))) (x11 z i0 (∀ (i1 : Nat), x10 z i0 i1 (-(1:Int))))))) (VT.done [i0 ≤ i0, i0 = z.n, ∀ i0 < z.n, rf (cor z.n z.X z.Y i0)])))
end
end wt
open wt in
theorem cornersR_c (n : Nat) (X Y : Nat → Int) (h : chk n X Y = 0) : FnC prog 102 [pts n X Y] (.lst n [fun k => dI (cor n X Y k)]) := by
  refine FnC_owed hmix (A26_cornersR_c n X Y) (V := xt ⟨n, X, Y⟩) (by kernel_rfl) ?_
  simp only [xt, x0, x1, x2, x3, x4, x5, x6, x7, x8, x9, x10, x11, Rf, VT.holds, AllT, Sq]
  have hn := chk_n h
  refine ⟨wallsR_c n X Y h, rfl, Nat.zero_le n, fun i hin => ⟨fun hlt => ?_, fun hge => ⟨Nat.le_refl i, by omega⟩⟩⟩
  have hr : (0:Int) ≤ i ∧ (i : Int) < n := by omega
  have m1 := Int.emod_lt_of_pos ((i : Int) + n - 1) (show (0:Int) < n by omega)
  have m2 := Int.emod_nonneg ((i : Int) + n - 1) (show (n : Int) ≠ 0 by omega)
  rw [ix_prev, dD_ix (by omega)]
  have r := dD_range n X Y ((i : Int) - 1)
  refine ⟨⟨by unfold i64In; omega, by unfold i64In; omega, ⟨by omega, by omega⟩, m2, m1⟩, ⟨by unfold i64In; omega, ⟨by omega, by omega⟩, hr⟩, fun ho => ⟨⟨Nat.le_refl i, by omega, Nat.le_refl 1⟩, by unfold i64In; omega, rfl, last_if (by rw [cor, if_pos ho.symm]), by omega, by omega⟩, fun ho => ⟨⟨Nat.le_refl i, by omega, Nat.le_refl 1⟩, by unfold i64In; omega, rfl, last_if (by rw [cor, if_neg (fun e => ho e.symm)]), by omega, by omega⟩⟩
end Go.Abs
end
