/- Contracts. Contracts. -/
import Derived.Test.YteennpofimiliaaGreatDoorK13
section
set_option linter.unusedVariables false
set_option linter.unusedSimpArgs false
set_option maxRecDepth 100000
namespace Go.Abs
open Go
def rSorted : Orc := .res fun l => numsL (sortI (aX l) (aN l))
def midF (n : Nat) (X Y : Nat → Int) (x y : Int) : Bool := decide (whF n (fun k => 2 * X k) (fun k => 2 * Y k) x y > 0)
def rMid : Orc := .res fun l => dB (midF (aN l) (aX l) (aY l) (aI l 1 + aI l 2) (aI l 3 + aI l 4))
def ZX (y : Bool) (X Y : Nat → Nat → Int) (i k : Nat) : Int := if y = true then Y i k else X i k
theorem crs_has {n : Nat} {X Y : Nat → Int} (hn : 0 < n) {x y : Int} (hy : ∀ k, k < n → y ≠ 2 * Y k) : ∀ k, crs n (fun k => 2 * X k) (fun k => 2 * Y k) x y k = hasC n X Y x y k
  | 0 => rfl
  | k + 1 => by
    have e : crB n (fun k => 2 * X k) (fun k => 2 * Y k) x y k = hasB n X Y x y k := by
      unfold crB hasB lo hi
      rw [decide_eq_decide]
      have h1 := hy _ (ix_lt (i := (k : Int)) hn)
      have h2 := hy _ (ix_lt (i := (k : Int) + 1) hn)
      dsimp only
      generalize X (ix n k) = a at *
      generalize X (ix n (k + 1)) = b at *
      generalize Y (ix n k) = c at *
      generalize Y (ix n (k + 1)) = d at *
      omega
    rw [crs, hasC, e, crs_has hn hy k]
theorem midF_has {n : Nat} {X Y : Nat → Int} (h : chk n X Y = 0) {x y : Int} (hx : ∀ k, k < n → x ≠ 2 * X k) (hy : ∀ k, k < n → y ≠ 2 * Y k) : midF n X Y x y = hasC n X Y x y n := by
  have hn : 0 < n := by have := chk_n h; omega
  have hoff : ∀ i, i < n → onS n (fun k => 2 * X k) (fun k => 2 * Y k) x y i = false := fun i hin => by
    have ho := dO_of_chk h hin
    unfold dO dirOk at ho
    rw [decide_eq_true_eq] at ho
    unfold onS lo hi
    rw [decide_eq_false_iff_not]
    have a1 := hx _ (ix_lt (i := (i : Int)) hn)
    have a2 := hx _ (ix_lt (i := (i : Int) + 1) hn)
    have a3 := hy _ (ix_lt (i := (i : Int)) hn)
    have a4 := hy _ (ix_lt (i := (i : Int) + 1) hn)
    dsimp only
    generalize X (ix n i) = a at *
    generalize X (ix n (i + 1)) = b at *
    generalize Y (ix n i) = c at *
    generalize Y (ix n (i + 1)) = d at *
    omega
  unfold midF whF
  rw [if_neg (fun hx => hx hoff), crs_has hn hy]
  cases hasC n X Y x y n <;> rfl
theorem gr_gap {n : Nat} {X : Nat → Int} {m : Nat} {X' : Nat → Int} {i : Nat} (hi : i + 1 < (gr n X m X').length) : (∀ k, k < n → (gr n X m X').getD i 0 + (gr n X m X').getD (i + 1) 0 ≠ 2 * X k) ∧ (∀ k, k < m → (gr n X m X').getD i 0 + (gr n X m X').getD (i + 1) 0 ≠ 2 * X' k) := by
  obtain ⟨h1, h2⟩ := linesF_asc (allN (N2 n m) (X2 X X') 2)
  have hlt := asc_get h1 (show i < i + 1 by omega) hi
  have key : ∀ x, x ∈ allN (N2 n m) (X2 X X') 2 → (gr n X m X').getD i 0 + (gr n X m X').getD (i + 1) 0 ≠ 2 * x := fun x hx => by
    have := asc_gap h1 hi ((h2 x).2 hx)
    unfold gr
    omega
  exact ⟨fun k hk => key _ (allN_mem (i := 0) (k := k) (by omega) hk), fun k hk => key _ (allN_mem (i := 1) (k := k) (by omega) hk)⟩
theorem addN_zero (i : Nat) : addN 0 i = i := by simp [addN]
theorem insP_get (L : List Int) (a : Nat) (x : Int) (ha : a ≤ L.length) (j : Nat) (hj : j < L.length + 1) : (if j < a + 1 then (if j < a then L.getD j 0 else x) else L.getD (j - (a + 1) + a) 0) = (L.take a ++ (x :: L.drop a)).getD j 0 := by
  have hl : (L.take a).length = a := by rw [List.length_take]; omega
  simp only [List.getD_eq_getElem?_getD]
  by_cases h1 : j < a
  · rw [if_pos (by omega), if_pos h1, List.getElem?_append_left (by omega), List.getElem?_take, if_pos h1]
  · rw [List.getElem?_append_right (by omega), hl]
    by_cases h2 : j = a
    · subst h2
      rw [if_pos (by omega), if_neg (by omega), Nat.sub_self]; rfl
    · rw [if_neg (by omega), show j - a = (j - a - 1) + 1 by omega, List.getElem?_cons_succ, List.getElem?_drop]
      congr 2; omega
theorem insP_len (L : List Int) (a : Nat) (x : Int) (ha : a ≤ L.length) : (L.take a ++ (x :: L.drop a)).length = a + 1 + (L.length - a) := by
  simp only [List.length_append, List.length_take, List.length_cons, List.length_drop]; omega
noncomputable def A97_sorted_c (n : Nat) (A : Nat → Int) : Ann := { orc := [], loops := [(0, { ι := Nat, keep := [0], boxes := [], ts := fun _ i => [(4, dI (i : Int))], rw := fun _ i => [(3, 1, (sortI A i).length, colL (sortI A i))], inv := fun _ i => i ≤ n, mu := fun _ i => n - i, rd := fun _ σ => (iOf (σ.get 4)).toNat }), (2, { ι := Nat, keep := [0, 4], boxes := [], ts := fun _ a => [(5, dI (a : Int))], rw := fun σ _ => [(3, 1, (sortI A (iOf (σ.get 4)).toNat).length, colL (sortI A (iOf (σ.get 4)).toNat))], inv := fun σ a => a ≤ (sortI A (iOf (σ.get 4)).toNat).length ∧ ∀ j, j < a → (sortI A (iOf (σ.get 4)).toNat).getD j 0 < A (iOf (σ.get 4)).toNat, mu := fun σ a => (sortI A (iOf (σ.get 4)).toNat).length - a, rd := fun _ σ => (iOf (σ.get 5)).toNat })], cuts := [] }
namespace wy
noncomputable section
structure Z where
  n : Nat
  A : Nat → Int
variable (z : Z) (i0 i1 i2 : Nat) (p q : Prop) (P : List Prop) (a b : Int) (k l m : Nat) (j8a : Nat → Prop) (j9a : Nat → VT)
abbrev x0 := Int.toNat (k:Int)
abbrev x1 := List.length (sortI z.A k)
abbrev x2 := x1 z (x0 i0)
abbrev x3 : Int := (i1:Int)
abbrev x4 : Int := (↑(x2 z i0) : Int)
abbrev x5 := Int.toNat 0
abbrev x6 := Int.toNat ((i0:Int) + 1)
abbrev x7 := List.getD (sortI z.A k) l 0
abbrev x8 := decide ((x3 i1) < (x4 z i0))
abbrev x9 := !(x3 i1 == x4 z i0)
abbrev x10 := 0 + (x0 i1 - x5)
abbrev x11 : List Prop := p :: rf z.n :: (∀ i0 < z.n, rf (z.A i0)) :: q :: P
abbrev x12 := Int.toNat (x3 i1 + 1)
abbrev x13 := x10 i1 + 1 + (x0 (x2 z i0) - x0 i1)
abbrev x14 : List Prop := ri (x8 z i0 i1 = true) :: ri (x8 z i0 i1 = true) :: P
abbrev x15 : List Prop := (k * ((nat_lit 7) + 1) ≤ 140737488355328) :: (l ≤ m) :: P
abbrev x16 := VT.need [i64In a] (VT.done ((b = (k:Int)) :: rf (0:Nat) :: P))
abbrev x17 := 0 ≤ (i0:Int) ∧ (i0:Int) < (z.n:Int)
abbrev x18 := if (decide (i2 < k)) = true then a else (x7 z (x0 i0) (i2 - l + (0 + m)))
abbrev x19 := VT.loop Nat j8a x5 ((0 = (x5:Int)) :: rf (0:Nat) :: P) j9a
abbrev x20 := x16 (x11 z (k = x1 z (x6 i0)) (l = x1 z (x6 i0)) [p, x6 i0 ≤ z.n, z.n - x6 i0 < z.n - i0]) ((i0:Int) + 1) ((i0:Int) + 1) (x6 i0)
abbrev xt : VT := x19 (x11 z ((nat_lit 0) = 0) ((nat_lit 0) = 0) []) (fun i0 => i0 ≤ z.n) (fun i0 => VT.ite (decide ((i0:Int) < (z.n:Int))) (x19 (x11 z (x1 z i0 = x2 z i0) (rf (i0:Int)) [x1 z i0 = x2 z i0, ∀ i1 < x2 z i0, x7 z i0 i1 = x7 z (x0 i0) i1]) (fun i1 => i1 ≤ x2 z i0 ∧ (∀ i2 < i1, x7 z (x0 i0) i2 < (z.A (x0 i0)))) (fun i1 => VT.need (x14 z i0 i1 ((x8 z i0 i1 = true → 0 ≤ x3 i1 ∧ x3 i1 < x4 z i0) :: ri (x8 z i0 i1 = true) :: (x8 z i0 i1 = true → addN 0 (x0 i1) < x2 z i0) :: ri (x8 z i0 i1 = true) :: ri (x8 z i0 i1 = true) :: (x8 z i0 i1 = true → x17 z i0) :: x14 z i0 i1 (x14 z i0 i1 []))) (VT.ite (if (x8 z i0 i1) = true then (decide ((x7 z (x0 i0) (addN 0 (x0 i1))) < (z.A (x0 i0)))) else false) (x16 (x11 z (rf (x2 z i0)) (rf (i0:Int)) [rf (x2 z i0), ∀ i1 < x2 z i0, rf (x7 z (x0 i0) i1), x12 i1 ≤ x2 z i0 ∧ (∀ i2 < x12 i1, x7 z (x0 i0) i2 < (z.A (x0 i0))), x2 z i0 - x12 i1 < x2 z i0 - i1]) (x3 i1 + 1) (x3 i1 + 1) (x12 i1)) (VT.need [ri (x9 z i0 i1 = true), ri (x9 z i0 i1 = true), x9 z i0 i1 = true → 0 ≤ x3 i1 ∧ x3 i1 < x4 z i0, ri (x9 z i0 i1 = true), x9 z i0 i1 = true → addN 0 (x0 i1) < x2 z i0, ri (x9 z i0 i1 = true), ri (x9 z i0 i1 = true), x9 z i0 i1 = true → x17 z i0, ri (x9 z i0 i1 = true), ri (x9 z i0 i1 = true), ri (x9 z i0 i1 = true), (x3 i1 == x4 z i0) = false → x9 z i0 i1 = true] (VT.ite (if (x3 i1 == x4 z i0) = true then true else (x7 z (x0 i0) (addN 0 (x0 i1)) != (z.A (x0 i0)))) (VT.need (((0:Int) ≤ (0:Int) ∧ 0 ≤ x3 i1 ∧ x3 i1 ≤ x4 z i0) :: ((0:Nat) ≤ (0:Nat)) :: x15 (x17 z i0 :: (x10 i1 ≤ x10 i1) :: x15 ((0 ≤ x3 i1 ∧ x3 i1 ≤ x4 z i0 ∧ x4 z i0 ≤ x4 z i0) :: (x10 i1 + 1 ≤ x10 i1 + 1) :: x15 [] (x13 z i0 i1) (x0 (x2 z i0) - x0 i1 + (0 + x0 i1)) (x2 z i0)) (x10 i1 + 1) (1:Nat) (1:Nat)) (x10 i1) (x0 i1 - x5 + (0 + x5)) (x2 z i0)) (x20 z i0 (∀ i2 < x1 z (x6 i0), x18 z i0 i2 (if (decide (i2 < (x10 i1))) = true then (x18 z i0 i2 (0:Int) (0:Nat) (0:Nat) x5) else (z.A (x0 i0))) (x10 i1 + 1) (x10 i1 + 1) (x0 i1) = x7 z (x6 i0) i2) (x13 z i0 i1) (x13 z i0 i1))) (x20 z i0 (∀ i1 < x1 z (x6 i0), x7 z (x0 i0) i1 = x7 z (x6 i0) i1) (x2 z i0) (x2 z i0))))))) (VT.done [x1 z i0 ≤ x1 z i0, x1 z i0 = x1 z z.n, ∀ i1 < x1 z z.n, x7 z i0 i1 = x7 z z.n i1]))
end
end wy
open wy in
theorem sorted_c (n : Nat) (A : Nat → Int) (hn : n ≤ 1000000) : FnC prog 172 [nums n A] (numsL (sortI A n)) := by
  refine FnC_owed hmix (A97_sorted_c n A) (V := xt ⟨n, A⟩) (by kernel_rfl) ?_
  simp only [xt, x0, x1, x2, x3, x4, x5, x6, x7, x8, x9, x10, x11, x12, x13, x14, x15, x16, x17, x18, x19, x20, Rf, VT.holds, AllT, Sq]
  simp only [Nat.zero_add, Nat.sub_zero, Nat.add_zero, Nat.not_lt_zero, if_false, addN_zero]
  refine ⟨rfl, Nat.zero_le n, fun i hi => ⟨fun hlt => ⟨rfl, ⟨Nat.zero_le _, fun j hj => hj.elim⟩, fun a ⟨ha, hb⟩ => ?_⟩, fun hge => ?_⟩⟩
  · have hl := sortI_len A i
    refine ⟨⟨fun h => ⟨by omega, h⟩, fun h => by omega, fun _ => ⟨by omega, hlt⟩⟩, fun ⟨h1, h2⟩ => ⟨by unfold i64In; omega, by omega, ⟨by omega, fun j hj => ?_⟩, by omega⟩, fun h => ?_⟩
    · rcases Nat.lt_or_ge j a with h | h
      · exact hb j h
      · rw [show j = a by omega]; exact h2
    · have hp : a = posI (A i) (sortI A i) := posI_eq hb (by
        rcases Nat.lt_or_ge a (sortI A i).length with h5 | h5
        · have := h (by omega); exact .inr ⟨h5, by omega⟩
        · exact .inl (by omega))
      refine ⟨⟨fun h1 => ⟨by omega, by omega⟩, fun h1 => by omega, fun _ => ⟨by omega, hlt⟩⟩, fun h1 => ?_, fun ⟨h1, h2⟩ => ?_⟩
      · have e : sortI A (i + 1) = (sortI A i).take a ++ (A i :: (sortI A i).drop a) := by
          show insI (A i) (sortI A i) = _
          rw [insI, ← hp, if_pos]
          rcases h1 with h1 | h1
          · exact .inl (by omega)
          · exact .inr h1
        have el : a + 1 + ((sortI A i).length - a) = (sortI A (i + 1)).length := by rw [e, insP_len _ _ _ ha]
        refine ⟨⟨⟨by omega, by omega, by omega⟩, Nat.le_refl _, by omega, ha, ⟨by omega, hlt⟩, Nat.le_refl _, by omega, Nat.le_refl _, ⟨by omega, by omega, by omega⟩, Nat.le_refl _, by omega, by omega⟩, by unfold i64In; omega, by omega, el, el, fun j hj => ?_, by omega, by omega⟩
        rw [e]
        exact insP_get _ a _ ha j (by omega)
      · have e : sortI A (i + 1) = sortI A i := by
          show insI (A i) (sortI A i) = _
          rw [insI, ← hp, if_neg]
          rintro (h3 | h3)
          · exact h1 (by omega)
          · exact h3 h2
        rw [e]
        exact ⟨by unfold i64In; omega, by omega, rfl, rfl, fun _ _ => rfl, by omega, by omega⟩
  · obtain rfl : i = n := by omega
    exact ⟨Nat.le_refl _, rfl, fun _ _ => rfl⟩
noncomputable def A78_gridR_c (y : Bool) (m : Nat) (N : Nat → Nat) (X Y : Nat → Nat → Int) : Ann := { orc := [(11, [(1, rSorted)])], loops := [(0, { ι := Nat, keep := [0, 1], boxes := [], ts := fun _ i => [(6, dI (i : Int))], rw := fun _ i => [(5, 1, (allN N (ZX y X Y) i).length, colL (allN N (ZX y X Y) i))], inv := fun _ i => i ≤ m, mu := fun _ i => m - i, rd := fun _ σ => (iOf (σ.get 6)).toNat }), (2, { ι := Nat, keep := [0, 1, 6], boxes := [], ts := fun _ k => [(7, dI (k : Int))], rw := fun σ k => [(5, 1, (preN N (ZX y X Y) (iOf (σ.get 6)).toNat k).length, colL (preN N (ZX y X Y) (iOf (σ.get 6)).toNat k))], inv := fun σ k => k ≤ N (iOf (σ.get 6)).toNat, mu := fun σ k => N (iOf (σ.get 6)).toNat - k, rd := fun _ σ => (iOf (σ.get 7)).toNat })], cuts := [] }
namespace wz
noncomputable section
structure Z where
  y : Bool
  m : Nat
  N : Nat → Nat
  X : Nat → Nat → Int
  Y : Nat → Nat → Int
variable (z : Z) (i0 i1 i2 : Nat) (p : Prop) (P : List Prop) (k : Nat) (j8a : Nat → Prop) (j9a : Nat → VT) (j11a : Nat → Nat → Int)
abbrev x0 := Int.toNat (i0:Int)
abbrev x1 := preN z.N (ZX z.y z.X z.Y) (x0 i0) k
abbrev x2 := List.length (x1 z i0 k)
abbrev x3 := allN z.N (ZX z.y z.X z.Y) k
abbrev x4 := Int.toNat ((i1:Int) + 1)
abbrev x5 := List.length (x3 z i0)
abbrev x6 := Int.toNat 0
abbrev x7 := Int.toNat ((i0:Int) + 1)
abbrev x8 := ∀ i0 < z.m, rf (z.N i0) ∧ (∀ i1 < (z.N i0), rf (z.X i0 i1)) ∧ (∀ i1 < (z.N i0), rf (z.Y i0 i1))
abbrev x9 := sortI (fun i1 => List.getD (x3 z i0) i1 0) (x5 z i0)
abbrev x10 := VT.done (p :: rf (0:Nat) :: P)
abbrev x11 := linesF (x3 z z.m)
abbrev x12 := 0 ≤ (i0:Int) ∧ (i0:Int) < (z.m:Int)
abbrev x13 := VT.loop Nat j8a x6 ((0 = (x6:Int)) :: rf (0:Nat) :: P) j9a
abbrev x14 := x2 z i0 i1 = List.length (x3 z (x7 i0))
abbrev x15 := i2 < x2 z i0 (x4 i1) → (if (decide (i2 < (x2 z i0 i1))) = true then (List.getD (x1 z i0 i1) i2 0) else (j11a (x0 i0) (Int.toNat (i1:Int)))) = List.getD (x1 z i0 (x4 i1)) i2 0
abbrev x16 := VT.need [x12 z i0, 0 ≤ (i1:Int) ∧ (i1:Int) < (↑(z.N (x0 i0)) : Int), x2 z i0 i1 ≤ x2 z i0 i1, (x2 z i0 i1 + 1) * ((nat_lit 7) + 1) ≤ 140737488355328, (1:Nat) ≤ (1:Nat)] (VT.need [i64In ((i1:Int) + 1)] (x10 ((i1:Int) + 1 = (↑(x4 i1) : Int)) [x2 z i0 i1 + 1 = x2 z i0 (x4 i1), rf z.y, rf z.m, x8 z, rf (i0:Int), x2 z i0 i1 + 1 = x2 z i0 (x4 i1), p, x4 i1 ≤ (z.N (x0 i0)), (z.N (x0 i0)) - x4 i1 < (z.N (x0 i0)) - i1]))
abbrev xt : VT := x13 [(nat_lit 0) = 0, rf z.y, rf z.m, x8 z, (nat_lit 0) = 0] (fun i0 => i0 ≤ z.m) (fun i0 => VT.ite (decide ((i0:Int) < (z.m:Int))) (x13 [x5 z i0 = x2 z i0 x6, rf z.y, rf z.m, x8 z, rf (i0:Int), x5 z i0 = x2 z i0 x6, ∀ i1 < x2 z i0 x6, List.getD (x3 z i0) i1 0 = List.getD (x1 z i0 x6) i1 0] (fun i1 => i1 ≤ (z.N (x0 i0))) (fun i1 => VT.need [x12 z i0] (VT.ite (decide ((i1:Int) < (↑(z.N (x0 i0)) : Int))) (VT.ite z.y (x16 z i0 i1 (∀ (i2 : Nat), x15 z i0 i1 i2 z.Y)) (x16 z i0 i1 (∀ (i2 : Nat), x15 z i0 i1 i2 z.X))) (VT.need [i64In ((i0:Int) + 1)] (x10 ((i0:Int) + 1 = (↑(x7 i0) : Int)) [x14 z i0 i1, rf z.y, rf z.m, x8 z, x14 z i0 i1, ∀ i2 < List.length (x3 z (x7 i0)), List.getD (x1 z i0 i1) i2 0 = List.getD (x3 z (x7 i0)) i2 0, x7 i0 ≤ z.m, z.m - x7 i0 < z.m - i0]))))) (VT.need [x5 z i0 ≤ x5 z i0, FnC prog 172 [DV.lst (x5 z i0) [fun i1 => dI (List.getD (x3 z i0) i1 0)]] (DV.lst (List.length (x9 z i0)) [fun i1 => dI (List.getD (x9 z i0) i1 0)])] (VT.done [List.length (x9 z i0) = List.length (x11 z), ∀ i1 < List.length (x11 z), List.getD (x9 z i0) i1 0 = List.getD (x11 z) i1 0])))
end
end wz
open wz in
theorem gridR_c (y : Bool) (m : Nat) (N : Nat → Nat) (X Y : Nat → Nat → Int) (hm : m ≤ 1000000) (hb : (allN N X m).length ≤ 1000000) : FnC prog 141 [dB y, .lst m [fun i => pts (N i) (X i) (Y i)]] (numsL (linesF (allN N (ZX y X Y) m))) := by
  refine FnC_owed hmix (A78_gridR_c y m N X Y) (V := xt ⟨y, m, N, X, Y⟩) (by kernel_rfl) ?_
  simp only [xt, x0, x1, x2, x3, x4, x5, x6, x7, x8, x9, x10, x11, x12, x13, x14, x15, x16, Rf, VT.holds, AllT, Sq]
  have hb2 : ∀ Z, (allN N Z m).length ≤ 1000000 := fun Z => by rw [allN_len N Z X]; exact hb
  generalize hZ : ZX y X Y = Z
  have hbZ := hb2 Z
  refine ⟨rfl, Nat.zero_le m, fun i hi => ⟨fun hlt => ⟨?_, Nat.zero_le _, fun k hk => ⟨⟨by omega, hlt⟩, fun hk2 => ?_, fun hk2 => ?_⟩⟩, fun hge => ?_⟩⟩
  · simp only [preN_zero, implies_true, true_and, and_true]; rfl
  · have e1 := allN_le N Z (show i + 1 ≤ m by omega)
    have e3 := preN_len N Z i k
    have e5 : (allN N Z (i + 1)).length = (allN N Z i).length + N i := by simp [allN]
    have f1 : (preN N Z i k).length + 1 = (preN N Z i (k + 1)).length := by rw [preN_succ]; simp
    have g1 : ∀ j, j < (preN N Z i (k + 1)).length → (if j < (preN N Z i k).length then (preN N Z i k).getD j 0 else Z i k) = (preN N Z i (k + 1)).getD j 0 := fun j hj => by
      rw [preN_succ]; exact snoc_get _ _ j (by omega)
    refine ⟨fun hy => ?_, fun hy => ?_⟩
    · rw [show Y i k = Z i k by rw [← hZ, ZX, if_pos hy]]
      exact ⟨⟨⟨by omega, hlt⟩, ⟨by omega, hk2⟩, Nat.le_refl _, by omega, Nat.le_refl _⟩, by unfold i64In; omega, by omega, f1, f1, g1, by omega, by omega⟩
    · rw [show X i k = Z i k by rw [← hZ, ZX, if_neg (by rw [hy]; simp)]]
      exact ⟨⟨⟨by omega, hlt⟩, ⟨by omega, hk2⟩, Nat.le_refl _, by omega, Nat.le_refl _⟩, by unfold i64In; omega, by omega, f1, f1, g1, by omega, by omega⟩
  · obtain rfl : k = N i := by omega
    simp only [preN_all, implies_true, true_and, and_true]
    exact ⟨by unfold i64In; omega, by omega, by omega, by omega⟩
  · obtain rfl : i = m := by omega
    have l1 := sorted_c (allN N Z i).length (fun j => (allN N Z i).getD j 0) hbZ
    refine ⟨⟨Nat.le_refl _, l1⟩, ?_⟩
    rw [sortI_lines, range_get]
    exact ⟨rfl, fun _ _ => rfl⟩
noncomputable def A79_middle_c (n : Nat) (X Y : Nat → Int) (a b c d : Int) : Ann := { orc := [(6, [(8, rWhF)])], loops := [(0, { ι := Nat, keep := [0, 1, 2, 3, 4], boxes := [], ts := fun _ i => [(12, dI (i : Int))], rw := fun _ i => [(11, 2, i, [fun k => dI (2 * X k), fun k => dI (2 * Y k)])], inv := fun _ i => i ≤ n, mu := fun _ i => n - i, rd := fun _ σ => (iOf (σ.get 12)).toNat })], cuts := [] }
namespace w10
noncomputable section
structure Z where
  n : Nat
  X : Nat → Int
  Y : Nat → Int
  a : Int
  b : Int
  c : Int
  d : Int
variable (z : Z) (i0 : Nat) (P : List Prop) (a : Int)
abbrev x0 := Int.toNat ((i0:Int) + 1)
abbrev x1 : List Prop := (0 ≤ (i0:Int) ∧ (i0:Int) < (z.n:Int)) :: i64In a :: P
abbrev x2 : List Prop := rf z.n :: (∀ i0 < z.n, rf (z.X i0)) :: (∀ i0 < z.n, rf (z.Y i0)) :: rf z.a :: rf z.b :: rf z.c :: rf z.d :: P
abbrev x3 := whF i0 (fun i0 => 2 * (z.X i0)) (fun i0 => 2 * (z.Y i0)) (z.a + z.b) (z.c + z.d)
abbrev xt : VT := VT.loop Nat (fun i0 => i0 ≤ z.n) (Int.toNat 0) ((0 = (↑(Int.toNat 0) : Int)) :: rf (0:Nat) :: (Int.toNat 0 = 0) :: x2 z [Int.toNat 0 = 0]) (fun i0 => VT.ite (decide ((i0:Int) < (z.n:Int))) (VT.need (x1 z i0 (x1 z i0 [i0 ≤ i0, (i0 + 1) * ((nat_lit 15) + 1) ≤ 140737488355328, (1:Nat) ≤ (1:Nat)] (2 * (z.Y (Int.toNat (i0:Int))))) (2 * (z.X (Int.toNat (i0:Int))))) (VT.need [i64In ((i0:Int) + 1)] (VT.done (((i0:Int) + 1 = (↑(x0 i0) : Int)) :: rf (0:Nat) :: (i0 + 1 = x0 i0) :: x2 z [i0 + 1 = x0 i0, ∀ i1 < x0 i0, (if (decide (i1 < i0)) = true then (2 * (z.X i1)) else (2 * (z.X (Int.toNat (i0:Int))))) = 2 * (z.X i1), ∀ i1 < x0 i0, (if (decide (i1 < i0)) = true then (2 * (z.Y i1)) else (2 * (z.Y (Int.toNat (i0:Int))))) = 2 * (z.Y i1), x0 i0 ≤ z.n, z.n - x0 i0 < z.n - i0])))) (VT.need [i64In (z.a + z.b), i64In (z.c + z.d), i0 ≤ i0, FnC prog 173 [DV.lst i0 [fun i0 => dI (2 * (z.X i0)), fun i0 => dI (2 * (z.Y i0))], DV.val (Value.agg (Array.mk [Value.int IntKind.i64 (z.a + z.b), Value.int IntKind.i64 (z.c + z.d)]))] (dI (x3 z i0))] (VT.done [decide ((x3 z i0) > (0:Int)) = midF z.n z.X z.Y (z.a + z.b) (z.c + z.d)])))
end
end w10
open w10 in
theorem middle_c (n : Nat) (X Y : Nat → Int) (a b c d : Int) (hn : 0 < n) (hn2 : n ≤ 800) (hX : inB n X) (hY : inB n Y) (ha : -1000000 ≤ a ∧ a ≤ 1000000) (hb : -1000000 ≤ b ∧ b ≤ 1000000) (hc : -1000000 ≤ c ∧ c ≤ 1000000) (hd : -1000000 ≤ d ∧ d ≤ 1000000) : FnC prog 142 [pts n X Y, dI a, dI b, dI c, dI d] (dB (midF n X Y (a + b) (c + d))) := by
  refine FnC_owed hmix (A79_middle_c n X Y a b c d) (V := xt ⟨n, X, Y, a, b, c, d⟩) (by kernel_rfl) ?_
  simp only [xt, x0, x1, x2, x3, Rf, VT.holds, AllT, Sq]
  refine ⟨rfl, Nat.zero_le n, fun i hin => ⟨fun hlt => ?_, fun hge => ?_⟩⟩
  · have b1 := hX i (by omega)
    have b2 := hY i (by omega)
    exact ⟨⟨⟨by omega, hlt⟩, by unfold i64In; omega, ⟨by omega, hlt⟩, by unfold i64In; omega, Nat.le_refl _, by omega, Nat.le_refl _⟩, by unfold i64In; omega, by omega, last_if (f := fun j => 2 * X j) rfl, last_if (f := fun j => 2 * Y j) rfl, by omega, by omega⟩
  · obtain rfl : i = n := by omega
    exact ⟨⟨by unfold i64In; omega, by unfold i64In; omega, Nat.le_refl _, whereR_c _ _ _ _ _ hn hn2⟩, rfl⟩
end Go.Abs
end
section
set_option linter.unusedVariables false
set_option linter.unusedSimpArgs false
set_option maxRecDepth 100000
namespace Go.Abs
open Go
theorem gridL_c (y : Bool) (n : Nat) (X Y : Nat → Int) (m : Nat) (X' Y' : Nat → Int) (hn2 : n ≤ 800) (hm2 : m ≤ 800) :
    FnC prog 141 [dB y, .lst 2 [fun i => pts (N2 n m i) (X2 X X' i) (X2 Y Y' i)]] (numsL (if y = true then gr n Y m Y' else gr n X m X')) := by
  have h := gridR_c y 2 (N2 n m) (X2 X X') (X2 Y Y') (by omega) (by simp [allN, N2]; omega)
  cases y with
  | true => exact h
  | false => exact h
theorem cell_at (n : Nat) (X Y : Nat → Int) (m : Nat) (X' Y' : Nat → Int) {i k : Nat} (hk : k < (gr n Y m Y').length - 1) : cellM n X Y m X' Y' (((gr n Y m Y').length - 1) * i + k) = ((gr n X m X').getD i 0 + (gr n X m X').getD (i + 1) 0, (gr n Y m Y').getD k 0 + (gr n Y m Y').getD (k + 1) 0) := by
  unfold cellM
  rw [mid_at _ _ hk]
noncomputable def A36_coversR_c (n : Nat) (X Y : Nat → Int) (m : Nat) (X' Y' : Nat → Int) : Ann := { orc := [(1, [(3, .res fun _ => numsL (gr n X m X')), (7, .res fun _ => numsL (gr n Y m Y'))]), (8, [(19, rMid), (40, rMid)])], loops := [(0, { ι := Nat, keep := [0, 1, 5, 6], boxes := [], ts := fun _ i => [(7, dI (i : Int))], inv := fun _ i => i ≤ (gr n X m X').length - 1 ∧ ∀ c, c < ((gr n Y m Y').length - 1) * i → badC n X Y m X' Y' c = false, mu := fun _ i => (gr n X m X').length - i, rd := fun _ σ => (iOf (σ.get 7)).toNat }), (2, { ι := Nat, keep := [0, 1, 5, 6, 7], boxes := [], ts := fun _ k => [(8, dI (k : Int))], inv := fun σ k => k ≤ (gr n Y m Y').length - 1 ∧ ∀ c, c < ((gr n Y m Y').length - 1) * (iOf (σ.get 7)).toNat + k → badC n X Y m X' Y' c = false, mu := fun _ k => (gr n Y m Y').length - k, rd := fun _ σ => (iOf (σ.get 8)).toNat })], cuts := [] }
namespace w11
noncomputable section
structure Z where
  n : Nat
  X : Nat → Int
  Y : Nat → Int
  m : Nat
  X' : Nat → Int
  Y' : Nat → Int
variable (z : Z) (i0 i1 i2 : Nat) (p : Prop) (P : List Prop) (a : Int) (k : Nat) (g : Bool) (A : DV) (j11a j11b : Nat → Int) (j13a : Nat → Prop) (j14a : Nat → VT)
abbrev x0 := gr z.n z.Y z.m z.Y'
abbrev x1 := gr z.n z.X z.m z.X'
abbrev x2 := List.getD (x0 z) (Int.toNat a) 0
abbrev x3 := List.getD (x1 z) (Int.toNat a) 0
abbrev x4 := (i0:Int) + 1
abbrev x5 := (i1:Int) + 1
abbrev x6 := midF k j11a j11b (x3 z (i0:Int) + x3 z (x4 i0)) (x2 z (i1:Int) + x2 z (x5 i1))
abbrev x7 := List.length (x0 z)
abbrev x8 : List Prop := ri (x6 z i0 i1 z.m z.X' z.Y' = true) :: P
abbrev x9 := List.length (x1 z)
abbrev x10 : List Prop := (x6 z i0 i1 z.m z.X' z.Y' = true → p) :: x8 z i0 i1 (x8 z i0 i1 P)
abbrev x11 := Int.toNat (x4 i0)
abbrev x12 := Int.toNat (x5 i1)
abbrev x13 := ∀ i0 < x7 z, rf (List.getD (x0 z) i0 0)
abbrev x14 := dI (if (decide (i0 = (0:Nat))) = true then (j11a i1) else (j11b i1))
abbrev x15 : List Prop := p :: rf z.n :: (∀ i0 < z.n, rf (z.X i0)) :: (∀ i0 < z.n, rf (z.Y i0)) :: rf z.m :: (∀ i0 < z.m, rf (z.X' i0)) :: (∀ i0 < z.m, rf (z.Y' i0)) :: rf (x9 z) :: (∀ i0 < x9 z, rf (List.getD (x1 z) i0 0)) :: rf (x7 z) :: P
abbrev x16 := p → badC z.n z.X z.Y z.m z.X' z.Y' k = false
abbrev x17 := 0 ≤ x5 i1 ∧ x5 i1 < (↑(x7 z) : Int)
abbrev x18 := 0 ≤ (i1:Int) ∧ (i1:Int) < (↑(x7 z) : Int)
abbrev x19 := 0 ≤ x4 i0 ∧ x4 i0 < (↑(x9 z) : Int)
abbrev x20 := 0 ≤ (i0:Int) ∧ (i0:Int) < (↑(x9 z) : Int)
abbrev x21 := VT.loop Nat j13a (Int.toNat 0) (x15 z (0 = (↑(Int.toNat 0) : Int)) P) j14a
abbrev x22 := FnC prog 142 [A, dI (x3 z (i0:Int)), dI (x3 z (x4 i0)), dI (x2 z (i1:Int)), dI (x2 z (x5 i1))] (dB g)
abbrev x23 := x16 z (i2 < (x7 z - 1) * Int.toNat (i0:Int) + k) i2
abbrev x24 := FnC prog 141 [dB g, DV.lst 2 [fun i0 => DV.lst (if (decide (i0 = (0:Nat))) = true then z.n else z.m) [fun i1 => x14 i0 i1 z.X z.X', fun i1 => x14 i0 i1 z.Y z.Y']]] A
abbrev x25 := VT.done [g = covF z.n z.X z.Y z.m z.X' z.Y']
abbrev xt : VT := VT.need [(2:Nat) ≤ (2:Nat), x24 z false (DV.lst (x9 z) [fun i0 => dI (List.getD (x1 z) i0 0)]), (2:Nat) ≤ (2:Nat), x24 z true (DV.lst (x7 z) [fun i0 => dI (List.getD (x0 z) i0 0)])] (x21 z [x13 z] (fun i0 => i0 ≤ x9 z - 1 ∧ (∀ (i1 : Nat), x16 z (i1 < (x7 z - 1) * i0) i1)) (fun i0 => VT.need [i64In (x4 i0)] (VT.ite (decide ((x4 i0) < (↑(x9 z) : Int))) (x21 z [x13 z, rf (i0:Int)] (fun i1 => i1 ≤ x7 z - 1 ∧ (∀ (i2 : Nat), x23 z i0 i2 i1)) (fun i1 => VT.need [i64In (x5 i1)] (VT.ite (decide ((x5 i1) < (↑(x7 z) : Int))) (VT.need (x20 z i0 :: i64In (x4 i0) :: x19 z i0 :: x18 z i1 :: i64In (x5 i1) :: x17 z i1 :: x22 z i0 i1 (x6 z i0 i1 z.m z.X' z.Y') (DV.lst z.m [fun i0 => dI (z.X' i0), fun i0 => dI (z.Y' i0)]) :: x8 z i0 i1 (x8 z i0 i1 (x10 z i0 i1 (x20 z i0) (x10 z i0 i1 (i64In (x4 i0)) (x10 z i0 i1 (x19 z i0) (x8 z i0 i1 (x10 z i0 i1 (x18 z i1) (x10 z i0 i1 (i64In (x5 i1)) (x10 z i0 i1 (x17 z i1) (x8 z i0 i1 (x8 z i0 i1 (x8 z i0 i1 (x8 z i0 i1 (x10 z i0 i1 (x22 z i0 i1 (x6 z i0 i1 z.n z.X z.Y) (DV.lst z.n [fun i0 => dI (z.X i0), fun i0 => dI (z.Y i0)])) [])))))))))))))) (VT.ite (if (x6 z i0 i1 z.m z.X' z.Y') = true then (!(x6 z i0 i1 z.n z.X z.Y)) else false) (x25 z false) (VT.need [i64In (x5 i1)] (VT.done (x15 z (x5 i1 = (↑(x12 i1) : Int)) [x13 z, rf (i0:Int), x12 i1 ≤ x7 z - 1 ∧ (∀ (i2 : Nat), x23 z i0 i2 (x12 i1)), x7 z - x12 i1 < x7 z - i1]))))) (VT.need [i64In (x4 i0)] (VT.done (x15 z (x4 i0 = (↑(x11 i0) : Int)) [x13 z, x11 i0 ≤ x9 z - 1 ∧ (∀ (i1 : Nat), x16 z (i1 < (x7 z - 1) * x11 i0) i1), x9 z - x11 i0 < x9 z - i0])))))) (x25 z true))))
end
end w11
open w11 in
theorem coversR_c (n : Nat) (X Y : Nat → Int) (m : Nat) (X' Y' : Nat → Int) (h : chk n X Y = 0) (h' : chk m X' Y' = 0) : FnC prog 97 [pts n X Y, pts m X' Y'] (dB (covF n X Y m X' Y')) := by
  refine FnC_owed hmix (A36_coversR_c n X Y m X' Y') (V := xt ⟨n, X, Y, m, X', Y'⟩) (by kernel_rfl) ?_
  simp only [xt, x0, x1, x2, x3, x4, x5, x6, x7, x8, x9, x10, x11, x12, x13, x14, x15, x16, x17, x18, x19, x20, x21, x22, x23, x24, x25, Rf, VT.holds, AllT, Sq]
  have hn := chk_n h
  have hn' := chk_n h'
  obtain ⟨hX, hY⟩ := chk_inB h
  obtain ⟨hX', hY'⟩ := chk_inB h'
  have lx := gr_len n X m X'
  have ly := gr_len n Y m Y'
  have bx := gr_mem n X m X' 1000000 hX hX'
  have by_ := gr_mem n Y m Y' 1000000 hY hY'
  have g1 := gridL_c false n X Y m X' Y' (by omega) (by omega)
  have g2 := gridL_c true n X Y m X' Y' (by omega) (by omega)
  simp only [pair_eq]
  refine ⟨⟨Nat.le_refl _, g1, Nat.le_refl _, g2⟩, rfl, ⟨Nat.zero_le _, fun c hc => absurd hc (by simp)⟩, fun i ⟨hi, hb⟩ => ⟨by unfold i64In; omega, fun hlt => ⟨rfl, ⟨Nat.zero_le _, hb⟩, fun k ⟨hk, hb2⟩ => ⟨by unfold i64In; omega, fun hlt2 => ?_, fun hge => ?_⟩⟩, fun hge => ?_⟩⟩
  · have c1 := bx i (by omega)
    have c2 := bx (i + 1) (by omega)
    have c3 := by_ k (by omega)
    have c4 := by_ (k + 1) (by omega)
    have e1 := midF_has h' (gr_gap (n := n) (X := X) (m := m) (X' := X') (i := i) (by omega)).2 (gr_gap (n := n) (X := Y) (m := m) (X' := Y') (i := k) (by omega)).2
    have e2 := midF_has h (gr_gap (n := n) (X := X) (m := m) (X' := X') (i := i) (by omega)).1 (gr_gap (n := n) (X := Y) (m := m) (X' := Y') (i := k) (by omega)).1
    have hcell := cell_at n X Y m X' Y' (i := i) (k := k) (by omega)
    have hc0 : ((gr n Y m Y').length - 1) * i + k < cellN n X Y m X' Y' := cell_lt' (by omega) (by omega)
    have hbad : badC n X Y m X' Y' (((gr n Y m Y').length - 1) * i + k) = (midF m X' Y' ((gr n X m X').getD i 0 + (gr n X m X').getD (i + 1) 0) ((gr n Y m Y').getD k 0 + (gr n Y m Y').getD (k + 1) 0) && !midF n X Y ((gr n X m X').getD i 0 + (gr n X m X').getD (i + 1) 0) ((gr n Y m Y').getD k 0 + (gr n Y m Y').getD (k + 1) 0)) := by
      rw [badC, hcell, e1, e2]
    have m1 := middle_c m X' Y' _ _ _ _ (by omega) (by omega) hX' hY' c1 c2 c3 c4
    have m2 := middle_c n X Y _ _ _ _ (by omega) (by omega) hX hY c1 c2 c3 c4
    refine ⟨⟨⟨by omega, by omega⟩, by unfold i64In; omega, ⟨by omega, hlt⟩, ⟨by omega, by omega⟩, by unfold i64In; omega, ⟨by omega, hlt2⟩, m1, fun _ => ⟨by omega, by omega⟩, fun _ => by unfold i64In; omega, fun _ => ⟨by omega, hlt⟩, fun _ => ⟨by omega, by omega⟩, fun _ => by unfold i64In; omega, fun _ => ⟨by omega, hlt2⟩, fun _ => m2⟩, fun hx => ?_, fun hx => ⟨by unfold i64In; omega, by omega, ⟨by omega, fun c hc => ?_⟩, by omega⟩⟩
    · rw [eq_comm, covF, decide_eq_false_iff_not]
      intro hall
      have := hall _ hc0
      rw [hbad, hx.1, hx.2] at this
      cases this
    · rcases Nat.lt_or_ge c (((gr n Y m Y').length - 1) * i + k) with h5 | h5
      · exact hb2 c h5
      · rw [show c = ((gr n Y m Y').length - 1) * i + k by omega, hbad]
        generalize midF m X' Y' _ _ = p at *
        cases p with
        | false => rfl
        | true => rw [hx rfl]; rfl
  · have hk' : k = (gr n Y m Y').length - 1 := by omega
    refine ⟨by unfold i64In; omega, by omega, ⟨by omega, fun c hc => hb2 c ?_⟩, by omega⟩
    rw [Nat.mul_add, Nat.mul_one] at hc
    omega
  · have hi' : i = (gr n X m X').length - 1 := by omega
    rw [eq_comm, covF, decide_eq_true_eq]
    intro c hc
    exact hb c (by rw [hi']; exact hc)
end Go.Abs
end
