/- Contracts. Contracts. -/
import Derived.Test.YteennpofimiliaaGreatDoorKm
import Derived.Test.YteennpofimiliaaGreatDoorKt
section
set_option linter.unusedVariables false
set_option linter.unusedSimpArgs false
set_option maxRecDepth 100000
namespace Go.Abs
open Go
def hasB (n : Nat) (X Y : Nat → Int) (x y : Int) (i : Nat) : Bool := decide (lo n X i = hi n X i ∧ 2 * lo n X i > x ∧ 2 * lo n Y i < y ∧ y < 2 * hi n Y i)
def hasC (n : Nat) (X Y : Nat → Int) (x y : Int) : Nat → Bool
  | 0 => false
  | k + 1 => if hasB n X Y x y k = true then !(hasC n X Y x y k) else hasC n X Y x y k
def rHas : Orc := .res fun l => dB (hasC (aN l) (aX l) (aY l) (aI l 1) (aI l 2) (aN l))
abbrev numsL (l : List Int) : DV := nums l.length (fun i => l.getD i 0)
abbrev colL (l : List Int) : List (Nat → DV) := [fun i => dI (l.getD i 0)]
def rLines : Orc := .take fun l => ((linesF ((List.range (aN l)).map (aX l))).length, fun i => (linesF ((List.range (aN l)).map (aX l))).getD i 0)
def preN (N : Nat → Nat) (X : Nat → Nat → Int) (i k : Nat) : List Int := allN N X i ++ (List.range k).map (X i)
theorem preN_zero (N : Nat → Nat) (X : Nat → Nat → Int) (i : Nat) : preN N X i 0 = allN N X i := by simp [preN]
theorem preN_all (N : Nat → Nat) (X : Nat → Nat → Int) (i : Nat) : preN N X i (N i) = allN N X (i + 1) := rfl
theorem preN_len (N : Nat → Nat) (X : Nat → Nat → Int) (i k : Nat) : (preN N X i k).length = (allN N X i).length + k := by simp [preN]
theorem preN_succ (N : Nat → Nat) (X : Nat → Nat → Int) (i k : Nat) : preN N X i (k + 1) = preN N X i k ++ [X i k] := by
  simp only [preN, List.range_succ, List.map_append, List.map_cons, List.map_nil, List.append_assoc]
theorem snoc_get (l : List Int) (x : Int) (j : Nat) (h : j < l.length + 1) : (if j < l.length then l.getD j 0 else x) = (l ++ [x]).getD j 0 := by
  split
  · rename_i h1; simp [List.getElem?_append_left h1]
  · rw [show j = l.length by omega]; simp
theorem range_get (l : List Int) : (List.range l.length).map (fun i => l.getD i 0) = l := by
  apply List.ext_getElem
  · simp
  · intro i h1 h2
    simp [h2]
theorem allN_le (N : Nat → Nat) (X : Nat → Nat → Int) {i m : Nat} (h : i ≤ m) : (allN N X i).length ≤ (allN N X m).length := by
  induction m with
  | zero => rw [show i = 0 by omega]; exact Nat.le_refl _
  | succ m ih =>
    rcases Nat.lt_or_ge i (m + 1) with h1 | h1
    · have := ih (by omega)
      simp only [allN, List.length_append]; omega
    · rw [show i = m + 1 by omega]; exact Nat.le_refl _
noncomputable def A96_has_c (n : Nat) (X Y : Nat → Int) (x y : Int) : Ann := { orc := [(5, [(2, rSpan)])], loops := [(0, { ι := Nat, keep := [0, 1, 2, 12], boxes := [], ts := fun _ i => [(7, dB (hasC n X Y x y i)), (13, dI (i : Int))], inv := fun _ i => i ≤ n, mu := fun _ i => n - i, rd := fun _ σ => (iOf (σ.get 13)).toNat })], cuts := [] }
namespace wu
noncomputable section
structure Z where
  n : Nat
  X : Nat → Int
  Y : Nat → Int
  x : Int
  y : Int
variable (z : Z) (i0 : Nat) (p : Prop) (P : List Prop) (a b : Int) (k : Nat) (g h : Bool) (E : List DV)
abbrev x0 := lo z.n z.X (i0:Int)
abbrev x1 := x0 z i0 == hi z.n z.X (i0:Int)
abbrev x2 := if (x1 z i0) = true then (decide ((2 * x0 z i0) > z.x)) else false
abbrev x3 := Int.toNat ((i0:Int) + 1)
abbrev x4 := if g = true then (decide (a < b)) else false
abbrev x5 := x4 (2 * lo z.n z.Y (i0:Int)) z.y (x2 z i0)
abbrev x6 : List Prop := ri (g = true) :: ri (h = true) :: P
abbrev x7 := hasC z.n z.X z.Y z.x z.y i0
abbrev x8 : List Prop := (g = true → i64In a) :: ri (h = true) :: P
abbrev x9 : List Prop := (g = hasC z.n z.X z.Y z.x z.y k) :: p :: rf z.n :: (∀ i0 < z.n, rf (z.X i0)) :: (∀ i0 < z.n, rf (z.Y i0)) :: rf z.x :: rf z.y :: rf (z.n:Int) :: P
abbrev x10 : List DV := DV.val (Value.agg (Array.mk [Value.int IntKind.i64 a, Value.int IntKind.i64 b])) :: E
abbrev x11 := VT.done (x9 z ((i0:Int) + 1 = (↑(x3 i0) : Int)) [x3 i0 ≤ z.n, z.n - x3 i0 < z.n - i0] (x3 i0) g)
abbrev xt : VT := VT.loop Nat (fun i0 => i0 ≤ z.n) (Int.toNat 0) (x9 z (0 = (↑(Int.toNat 0) : Int)) [] (Int.toNat 0) false) (fun i0 => VT.ite (decide ((i0:Int) < (z.n:Int))) (VT.need [FnC prog 179 [DV.lst z.n [fun i0 => dI (z.X i0), fun i0 => dI (z.Y i0)], dI (i0:Int)] (DV.tup (x10 (x0 z i0) (lo z.n z.Y (i0:Int)) (x10 (hi z.n z.X (i0:Int)) (hi z.n z.Y (i0:Int)) [])))] (VT.need (x6 (x8 (x6 (x6 (x8 (x6 (x6 (x8 (x6 [] (x5 z i0) (x5 z i0)) (2 * hi z.n z.Y (i0:Int)) (x5 z i0) (x5 z i0)) (x5 z i0) (x5 z i0)) (x2 z i0) (x2 z i0)) (2 * lo z.n z.Y (i0:Int)) (x2 z i0) (x2 z i0)) (x2 z i0) (x2 z i0)) (x1 z i0) (x1 z i0)) (2 * x0 z i0) (x1 z i0) (x1 z i0)) (x1 z i0) (x1 z i0)) (VT.ite (x4 z.y (2 * hi z.n z.Y (i0:Int)) (x5 z i0)) (VT.need [i64In ((i0:Int) + 1)] (x11 z i0 (!(x7 z i0)))) (VT.need [i64In ((i0:Int) + 1)] (x11 z i0 (x7 z i0)))))) (VT.done [x7 z i0 = hasC z.n z.X z.Y z.x z.y z.n]))
end
end wu
open wu in
theorem has_c (n : Nat) (X Y : Nat → Int) (x y : Int) (hn : 0 < n) (hn2 : n ≤ 800) (hX : inB n X) (hY : inB n Y) : FnC prog 176 [pts n X Y, dI x, dI y] (dB (hasC n X Y x y n)) := by
  refine FnC_owed hmix (A96_has_c n X Y x y) (V := xt ⟨n, X, Y, x, y⟩) (by kernel_rfl) ?_
  simp only [xt, x0, x1, x2, x3, x4, x5, x6, x7, x8, x9, x10, x11, Rf, VT.holds, AllT, Sq]
  refine ⟨⟨rfl, rfl⟩, Nat.zero_le n, fun i hi => ⟨fun hlt => ?_, fun hge => by rw [show i = n by omega]⟩⟩
  have b1 := lo_bd hn hX i
  have b2 := lo_bd hn hY i
  have b3 := hi_bd hn hY i
  refine ⟨span_c n X Y i hn (by omega) (by omega) (by omega), ⟨fun _ => by unfold i64In; omega, fun _ => by unfold i64In; omega, fun _ => by unfold i64In; omega⟩, fun h => ⟨by unfold i64In; omega, ?_, by omega, by omega, by omega⟩, fun h => ⟨by unfold i64In; omega, ?_, by omega, by omega, by omega⟩⟩
  · rw [hasC, if_pos]
    unfold hasB
    rw [decide_eq_true_eq]
    exact ⟨h.1.1.1, h.1.1.2, h.1.2, h.2⟩
  · rw [hasC, if_neg]
    unfold hasB
    rw [decide_eq_true_eq]
    rintro ⟨h1, h2, h3, h4⟩
    exact h ⟨⟨h1, h2⟩, h3⟩ h4
noncomputable def A95_cells_c (m : Nat) (N : Nat → Nat) (X Y : Nat → Nat → Int) : Ann := { orc := [(11, [(1, rLines), (3, rLines)])], loops := [(0, { ι := Nat, keep := [11, 12], boxes := [], ts := fun _ i => [(13, dI (i : Int))], rw := fun _ i => [(3, 1, (allN N X i).length, colL (allN N X i)), (4, 1, (allN N Y i).length, colL (allN N Y i))], inv := fun _ i => i ≤ m, mu := fun _ i => m - i, rd := fun _ σ => (iOf (σ.get 13)).toNat }), (2, { ι := Nat, keep := [11, 12, 13, 17, 18], boxes := [], ts := fun _ k => [(19, dI (k : Int))], rw := fun σ k => [(3, 1, (preN N X (iOf (σ.get 13)).toNat k).length, colL (preN N X (iOf (σ.get 13)).toNat k)), (4, 1, (preN N Y (iOf (σ.get 13)).toNat k).length, colL (preN N Y (iOf (σ.get 13)).toNat k))], inv := fun σ k => k ≤ N (iOf (σ.get 13)).toNat, mu := fun σ k => N (iOf (σ.get 13)).toNat - k, rd := fun _ σ => (iOf (σ.get 19)).toNat })], cuts := [] }
namespace wv
noncomputable section
structure Z where
  m : Nat
  N : Nat → Nat
  X : Nat → Nat → Int
  Y : Nat → Nat → Int
variable (z : Z) (i0 i1 i2 : Nat) (p : Prop) (P : List Prop) (k : Nat) (j11a : Nat → Nat → Int) (j12a : List Int) (j15a : Nat → Int)
abbrev x0 : Int := (i0:Int)
abbrev x1 := Int.toNat (x0 i0)
abbrev x2 := preN z.N j11a (x1 i0) k
abbrev x3 := List.length (x2 z i0 k j11a)
abbrev x4 := List.getD j12a i1 0
abbrev x5 := List.length (allN z.N j11a i0)
abbrev x6 := Int.toNat 0
abbrev x7 := List.map j15a (List.range (x5 z i0 j11a))
abbrev x8 := Int.toNat (x0 i0 + 1)
abbrev x9 := Int.toNat ((i1:Int) + 1)
abbrev x10 := x4 i1 (allN z.N z.X i0)
abbrev x11 := x4 i1 (allN z.N z.Y i0)
abbrev x12 : List Prop := p :: rf (0:Nat) :: P
abbrev x13 := List.length (allN z.N j11a (x8 i0))
abbrev x14 := List.getD (x2 z i0 k j11a) i2 0
abbrev x15 : Int := (↑(z.N (x1 i0)) : Int)
abbrev x16 := List.length (linesF (allN z.N j11a z.m))
abbrev x17 := x4 i1 (linesF (x7 z i0 j11a j15a))
abbrev x18 := (nat_lit 0) = 0
abbrev x19 := i1 < (z.N (x1 i0)) → rf (j11a (x1 i0) i1)
abbrev x20 := List.length (linesF (x7 z i0 z.X (fun i1 => x10 z i0 i1)))
abbrev x21 := List.length (linesF (x7 z i0 z.Y (fun i1 => x11 z i0 i1)))
abbrev x22 : List Prop := p :: rf z.m :: (∀ i0 < z.m, rf (z.N i0) ∧ (∀ i1 < (z.N i0), rf (z.X i0 i1)) ∧ (∀ i1 < (z.N i0), rf (z.Y i0 i1))) :: rf (z.m:Int) :: P
abbrev xt : VT := VT.loop Nat (fun i0 => i0 ≤ z.m) x6 (x12 (0 = (x6:Int)) (x12 x18 (x22 z x18 [x18, x18]))) (fun i0 => VT.ite (decide ((x0 i0) < (z.m:Int))) (VT.need [0 ≤ x0 i0 ∧ x0 i0 < (z.m:Int)] (VT.loop Nat (fun i1 => i1 ≤ (z.N (x1 i0))) x6 (x12 (0 = (x6:Int)) (x12 (x5 z i0 z.X = x3 z i0 x6 z.X) (x22 z (x5 z i0 z.Y = x3 z i0 x6 z.Y) [rf (x0 i0), rf (z.N (x1 i0)), ∀ (i1 : Nat), x19 z i0 i1 z.X, ∀ (i1 : Nat), x19 z i0 i1 z.Y, rf (x15 z i0), x5 z i0 z.X = x3 z i0 x6 z.X, ∀ i1 < x3 z i0 x6 z.X, x10 z i0 i1 = x4 i1 (x2 z i0 x6 z.X), x5 z i0 z.Y = x3 z i0 x6 z.Y, ∀ i1 < x3 z i0 x6 z.Y, x11 z i0 i1 = x4 i1 (x2 z i0 x6 z.Y)]))) (fun i1 => VT.ite (decide ((i1:Int) < (x15 z i0))) (VT.need [0 ≤ (i1:Int) ∧ (i1:Int) < x15 z i0] (VT.need [x3 z i0 i1 z.X ≤ x3 z i0 i1 z.X, (x3 z i0 i1 z.X + 1) * ((nat_lit 7) + 1) ≤ 140737488355328, (1:Nat) ≤ (1:Nat), x3 z i0 i1 z.Y ≤ x3 z i0 i1 z.Y, (x3 z i0 i1 z.Y + 1) * ((nat_lit 7) + 1) ≤ 140737488355328, (1:Nat) ≤ (1:Nat)] (VT.need [i64In ((i1:Int) + 1)] (VT.done (x12 ((i1:Int) + 1 = (↑(x9 i1) : Int)) (x12 (x3 z i0 i1 z.X + 1 = x3 z i0 (x9 i1) z.X) (x22 z (x3 z i0 i1 z.Y + 1 = x3 z i0 (x9 i1) z.Y) [rf (x0 i0), rf (z.N (x1 i0)), ∀ (i1 : Nat), x19 z i0 i1 z.X, ∀ (i1 : Nat), x19 z i0 i1 z.Y, rf (x15 z i0), x3 z i0 i1 z.X + 1 = x3 z i0 (x9 i1) z.X, ∀ i2 < x3 z i0 (x9 i1) z.X, (if (decide (i2 < (x3 z i0 i1 z.X))) = true then (x14 z i0 i2 i1 z.X) else (z.X (x1 i0) (Int.toNat (i1:Int)))) = x14 z i0 i2 (x9 i1) z.X, x3 z i0 i1 z.Y + 1 = x3 z i0 (x9 i1) z.Y, ∀ i2 < x3 z i0 (x9 i1) z.Y, (if (decide (i2 < (x3 z i0 i1 z.Y))) = true then (x14 z i0 i2 i1 z.Y) else (z.Y (x1 i0) (Int.toNat (i1:Int)))) = x14 z i0 i2 (x9 i1) z.Y, x9 i1 ≤ (z.N (x1 i0)), (z.N (x1 i0)) - x9 i1 < (z.N (x1 i0)) - i1]))))))) (VT.need [i64In (x0 i0 + 1)] (VT.done (x12 (x0 i0 + 1 = (↑(x8 i0) : Int)) (x12 (x3 z i0 i1 z.X = x13 z i0 z.X) (x22 z (x3 z i0 i1 z.Y = x13 z i0 z.Y) [x3 z i0 i1 z.X = x13 z i0 z.X, ∀ i2 < x13 z i0 z.X, x14 z i0 i2 i1 z.X = List.getD (allN z.N z.X (x8 i0)) i2 0, x3 z i0 i1 z.Y = x13 z i0 z.Y, ∀ i2 < x13 z i0 z.Y, x14 z i0 i2 i1 z.Y = List.getD (allN z.N z.Y (x8 i0)) i2 0, x8 i0 ≤ z.m, z.m - x8 i0 < z.m - i0])))))))) (VT.need [rf (x5 z i0 z.X), intCol (fun i1 => dI (x10 z i0 i1)), FnK prog 186 (x5 z i0 z.X) (fun i1 => iOfC (dI (x10 z i0 i1))) (x20 z i0) (fun i1 => x17 z i0 i1 z.X (fun i1 => x10 z i0 i1)), rf (x5 z i0 z.Y), intCol (fun i1 => dI (x11 z i0 i1)), FnK prog 186 (x5 z i0 z.Y) (fun i1 => iOfC (dI (x11 z i0 i1))) (x21 z i0) (fun i1 => x17 z i0 i1 z.Y (fun i1 => x11 z i0 i1))] (VT.done [x20 z i0 ≤ x20 z i0, x21 z i0 ≤ x21 z i0, x20 z i0 = x16 z z.X, ∀ i1 < x16 z z.X, x17 z i0 i1 z.X (fun i1 => x10 z i0 i1) = x4 i1 (linesF (allN z.N z.X z.m)), x21 z i0 = x16 z z.Y, ∀ i1 < x16 z z.Y, x17 z i0 i1 z.Y (fun i1 => x11 z i0 i1) = x4 i1 (linesF (allN z.N z.Y z.m))])))
end
end wv
open wv in
theorem cells_c (m : Nat) (N : Nat → Nat) (X Y : Nat → Nat → Int) (hm : m ≤ 1000000) (hb : (allN N X m).length ≤ 1000000) : FnC prog 175 [.lst m [fun i => pts (N i) (X i) (Y i)]] (.clo 187 [.cptr [numsL (linesF (allN N X m))], .cptr [numsL (linesF (allN N Y m))]]) := by
  refine FnC_owed hmix (A95_cells_c m N X Y) (V := xt ⟨m, N, X, Y⟩) (by kernel_rfl) ?_
  simp only [xt, x0, x1, x2, x3, x4, x5, x6, x7, x8, x9, x10, x11, x12, x13, x14, x15, x16, x17, x18, x19, x20, x21, x22, Rf, VT.holds, AllT, Sq]
  have hb2 : (allN N Y m).length ≤ 1000000 := by rw [allN_len N Y X]; exact hb
  have hr : ∀ l : List Int, List.map (fun a => l.getD a 0) (List.range l.length) = l := range_get
  refine ⟨rfl, Nat.zero_le m, fun i hi => ⟨fun hlt => ⟨⟨by omega, hlt⟩, ?_, Nat.zero_le _, fun k hk => ⟨fun hk2 => ?_, fun hk2 => ?_⟩⟩, fun hge => ?_⟩⟩
  · simp only [preN_zero, implies_true, true_and, and_true]; rfl
  · have e1 := allN_le N X (show i + 1 ≤ m by omega)
    have e2 := allN_le N Y (show i + 1 ≤ m by omega)
    have e3 := preN_len N X i k
    have e4 := preN_len N Y i k
    have e5 : (allN N X (i + 1)).length = (allN N X i).length + N i := by simp [allN]
    have e6 : (allN N Y (i + 1)).length = (allN N Y i).length + N i := by simp [allN]
    have f1 : (preN N X i k).length + 1 = (preN N X i (k + 1)).length := by rw [preN_succ]; simp
    have f2 : (preN N Y i k).length + 1 = (preN N Y i (k + 1)).length := by rw [preN_succ]; simp
    have g1 : ∀ j, j < (preN N X i (k + 1)).length → (if j < (preN N X i k).length then (preN N X i k).getD j 0 else X i k) = (preN N X i (k + 1)).getD j 0 := fun j hj => by
      rw [preN_succ]; exact snoc_get _ _ j (by omega)
    have g2 : ∀ j, j < (preN N Y i (k + 1)).length → (if j < (preN N Y i k).length then (preN N Y i k).getD j 0 else Y i k) = (preN N Y i (k + 1)).getD j 0 := fun j hj => by
      rw [preN_succ]; exact snoc_get _ _ j (by omega)
    exact ⟨⟨by omega, hk2⟩, ⟨Nat.le_refl _, by omega, Nat.le_refl _, Nat.le_refl _, by omega, Nat.le_refl _⟩, by unfold i64In; omega, by omega, f1, f2, f1, g1, f2, g2, by omega, by omega⟩
  · obtain rfl : k = N i := by omega
    simp only [preN_all, implies_true, true_and, and_true]
    exact ⟨by unfold i64In; omega, by omega, by omega, by omega⟩
  · obtain rfl : i = m := by omega
    have l1 := lines_c (allN N X i).length (fun j => (allN N X i).getD j 0) hb
    have l2 := lines_c (allN N Y i).length (fun j => (allN N Y i).getD j 0) hb2
    refine ⟨⟨fun _ => trivial, l1, fun _ => trivial, l2⟩, Nat.le_refl _, Nat.le_refl _, ?_⟩
    simp only [hr, implies_true, and_true, true_and]
end Go.Abs
end
section
set_option linter.unusedVariables false
set_option linter.unusedSimpArgs false
set_option maxRecDepth 100000
namespace Go.Abs
open Go
abbrev N2 (n m : Nat) (i : Nat) : Nat := if decide (i = 0) = true then n else m
abbrev X2 (X X' : Nat → Int) (i k : Nat) : Int := if decide (i = 0) = true then X k else X' k
def gr (n : Nat) (X : Nat → Int) (m : Nat) (X' : Nat → Int) : List Int := linesF (allN (N2 n m) (X2 X X') 2)
def cellN (n : Nat) (X Y : Nat → Int) (m : Nat) (X' Y' : Nat → Int) : Nat := ((gr n Y m Y').length - 1) * ((gr n X m X').length - 1)
def cellM (n : Nat) (X Y : Nat → Int) (m : Nat) (X' Y' : Nat → Int) (k : Nat) : Int × Int := mid ((gr n Y m Y').length - 1) (fun i => (gr n X m X').getD i 0) (fun i => (gr n Y m Y').getD i 0) k
def badC (n : Nat) (X Y : Nat → Int) (m : Nat) (X' Y' : Nat → Int) (k : Nat) : Bool := hasC m X' Y' (cellM n X Y m X' Y' k).1 (cellM n X Y m X' Y' k).2 m && !hasC n X Y (cellM n X Y m X' Y' k).1 (cellM n X Y m X' Y' k).2 n
def metC (n : Nat) (X Y : Nat → Int) (m : Nat) (X' Y' : Nat → Int) (k : Nat) : Bool := hasC m X' Y' (cellM n X Y m X' Y' k).1 (cellM n X Y m X' Y' k).2 m && hasC n X Y (cellM n X Y m X' Y' k).1 (cellM n X Y m X' Y' k).2 n
def covF (n : Nat) (X Y : Nat → Int) (m : Nat) (X' Y' : Nat → Int) : Bool := decide (∀ k, k < cellN n X Y m X' Y' → badC n X Y m X' Y' k = false)
def metF (n : Nat) (X Y : Nat → Int) (m : Nat) (X' Y' : Nat → Int) : Bool := !decide (∀ k, k < cellN n X Y m X' Y' → metC n X Y m X' Y' k = false)
def rCov : Orc := .res fun l => dB (covF (aN l) (aX l) (aY l) (lenOf (arg l 1)) (colI 0 (arg l 1)) (colI 1 (arg l 1)))
abbrev rCells (n : Nat) (X Y : Nat → Int) (m : Nat) (X' Y' : Nat → Int) : Orc := .res fun _ => .clo 187 [.cptr [numsL (gr n X m X')], .cptr [numsL (gr n Y m Y')]]
theorem gr_mem (n : Nat) (X : Nat → Int) (m : Nat) (X' : Nat → Int) (b : Int) (hX : ∀ k, k < n → -b ≤ X k ∧ X k ≤ b) (hX' : ∀ k, k < m → -b ≤ X' k ∧ X' k ≤ b) : ∀ i, i < (gr n X m X').length → -b ≤ (gr n X m X').getD i 0 ∧ (gr n X m X').getD i 0 ≤ b := fun i hi => by
  have h1 := ((linesF_asc (allN (N2 n m) (X2 X X') 2)).2 _).1 (getD_mem hi)
  refine allN_bd (m := 2) (fun i hi k hk => ?_) _ h1
  match i, hi with
  | 0, _ => exact hX k hk
  | 1, _ => exact hX' k hk
theorem gr_len (n : Nat) (X : Nat → Int) (m : Nat) (X' : Nat → Int) : (gr n X m X').length ≤ n + m := by
  have h := linesF_len (allN (N2 n m) (X2 X X') 2)
  simpa [gr, allN, N2] using h
theorem grid_seq (n : Nat) (X Y : Nat → Int) (m : Nat) (X' Y' : Nat → Int) (hn2 : n ≤ 800) (hX : inB n X) (hY : inB n Y) (hm2 : m ≤ 800) (hX' : inB m X') (hY' : inB m Y') :
    SeqC prog 187 [.cptr [numsL (gr n X m X')], .cptr [numsL (gr n Y m Y')]] (cellN n X Y m X' Y') fun k => [.int .i64 (cellM n X Y m X' Y' k).1, .int .i64 (cellM n X Y m X' Y' k).2] := by
  have l1 := gr_len n X m X'
  have l2 := gr_len n Y m Y'
  refine cells_seq _ _ _ _ (by omega) (by omega) (fun i hi => ?_) (fun i hi => ?_)
  · have := gr_mem n X m X' 1000000 hX hX' i hi; omega
  · have := gr_mem n Y m Y' 1000000 hY hY' i hi; omega
theorem grid_c (n : Nat) (X Y : Nat → Int) (m : Nat) (X' Y' : Nat → Int) (hn2 : n ≤ 800) (hm2 : m ≤ 800) :
    FnC prog 175 [.lst 2 [fun i => pts (N2 n m i) (X2 X X' i) (X2 Y Y' i)]] (.clo 187 [.cptr [numsL (gr n X m X')], .cptr [numsL (gr n Y m Y')]]) :=
  cells_c 2 (N2 n m) (X2 X X') (X2 Y Y') (by omega) (by simp [allN, N2]; omega)
theorem pair_eq (n : Nat) (X Y : Nat → Int) (m : Nat) (X' Y' : Nat → Int) : (DV.lst 2 [fun i => DV.lst (if i = 0 then n else m) [fun k => DV.val (Value.int .i64 (if i = 0 then X k else X' k)), fun k => DV.val (Value.int .i64 (if i = 0 then Y k else Y' k))]]) = .lst 2 [fun i => pts (N2 n m i) (X2 X X' i) (X2 Y Y' i)] := by
  congr 2
  funext i
  by_cases h : i = 0
  · subst h; rfl
  · have hd : decide (i = 0) = false := by simp [h]
    have e1 : N2 n m i = m := by unfold N2; rw [hd]; rfl
    have e2 : X2 X X' i = X' := by funext k; unfold X2; rw [hd]; rfl
    have e3 : X2 Y Y' i = Y' := by funext k; unfold X2; rw [hd]; rfl
    rw [e1, e2, e3]
    simp only [if_neg h]
noncomputable def A77_covers_c (n : Nat) (X Y : Nat → Int) (m : Nat) (X' Y' : Nat → Int) : Ann := { orc := [(1, [(3, rCells n X Y m X' Y')]), (4, [(3, rHas), (8, rHas)])], loops := [], cuts := [], rngs := [(0, { N := cellN n X Y m X' Y', enc := fun k => [.int .i64 (cellM n X Y m X' Y' k).1, .int .i64 (cellM n X Y m X' Y' k).2], keep := [2, 3, 4, 10], boxes := [2, 3, 4], bx := fun _ _ => [], inv := fun _ pre => ∀ k ∈ pre, badC n X Y m X' Y' k = false })] }
namespace ww
noncomputable section
structure Z where
  n : Nat
  X : Nat → Int
  Y : Nat → Int
  m : Nat
  X' : Nat → Int
  Y' : Nat → Int
variable (z : Z) (i0 i1 : Nat) (p : Prop) (P : List Prop) (a : Int) (k l : Nat) (g : Bool) (A : DV) (j13a j13b : Nat → Int)
abbrev x0 := cellM z.n z.X z.Y z.m z.X' z.Y' k
abbrev x1 := DV.val (Value.int IntKind.i64 a)
abbrev x2 (i0 : List Nat × Nat) := hasC k j13a j13b (Prod.fst (x0 z (Prod.snd i0))) (Prod.snd (x0 z (Prod.snd i0))) l
abbrev x3 := List.getD (gr z.n j13a z.m j13b) i0 0
abbrev x4 := List.length (gr z.n z.X z.m z.X')
abbrev x5 := List.length (gr z.n z.Y z.m z.Y')
abbrev x6 := cellN z.n z.X z.Y z.m z.X' z.Y'
abbrev x7 (i0 : List Nat × Nat) : List Prop := ri (x2 z z.m z.m z.X' z.Y' i0 = true) :: P
abbrev x8 := p → badC z.n z.X z.Y z.m z.X' z.Y' k = false
abbrev x9 : List Value := [Value.int IntKind.i64 (Prod.fst (x0 z i0)), Value.int IntKind.i64 (Prod.snd (x0 z i0))]
abbrev x10 (i0 : List Nat × Nat) := FnC prog 176 [A, x1 (Prod.fst (x0 z (Prod.snd i0))), x1 (Prod.snd (x0 z (Prod.snd i0)))] (DV.val (Value.bool g))
abbrev x11 := x1 (if (decide (i0 = (0:Nat))) = true then (j13a i1) else (j13b i1))
abbrev x12 : List DV := [DV.cptr [DV.lst (x4 z) [fun i0 => x1 (x3 z i0 z.X z.X')]], DV.cptr [DV.lst (x5 z) [fun i0 => x1 (x3 z i0 z.Y z.Y')]]]
abbrev x13 : List Prop := [rf (x4 z), ∀ i0 < x4 z, rf (x3 z i0 z.X z.X'), rf (x5 z), ∀ i0 < x5 z, rf (x3 z i0 z.Y z.Y'), rf z.n, ∀ i0 < z.n, rf (z.X i0), ∀ i0 < z.n, rf (z.Y i0), rf z.m, ∀ i0 < z.m, rf (z.X' i0), ∀ i0 < z.m, rf (z.Y' i0), rf false, p]
abbrev x14 := VT.done [g = covF z.n z.X z.Y z.m z.X' z.Y']
abbrev xt : VT := VT.need [(2:Nat) ≤ (2:Nat), FnC prog 175 [DV.lst 2 [fun i0 => DV.lst (if (decide (i0 = (0:Nat))) = true then z.n else z.m) [fun i1 => x11 i0 i1 z.X z.X', fun i1 => x11 i0 i1 z.Y z.Y']]] (DV.clo (187 : FuncId) (x12 z))] (VT.need (SeqC prog (187 : FuncId) (x12 z) (x6 z) (fun i0 => x9 z i0) :: (∀ i0 < x6 z, List.length (x9 z i0) = Array.size (List.toArray [(11:Nat), (12:Nat)])) :: x13 z (∀ (i0 : Nat), x8 z (i0 ∈ []) i0)) (VT.cut (List Nat × Nat) (fun (i0 : List Nat × Nat) => (∀ (i1 : Nat), x8 z (i1 ∈ (Prod.fst i0)) i1) ∧ Prod.snd i0 < x6 z ∧ List.length (Prod.fst i0) < x6 z ∧ (∀ (i1 : Nat), (i1 ∈ (Prod.fst i0)) → i1 < x6 z)) (VT.cut Unit (fun (i0 : Unit) => ∀ (i0 : Nat), x8 z (i0 ∈ (List.range (x6 z))) i0) (VT.done []) (fun (i0 : Unit) => x14 z true)) (fun (i0 : List Nat × Nat) => VT.need (x10 z (x2 z z.m z.m z.X' z.Y' i0) (DV.lst z.m [fun i0 => x1 (z.X' i0), fun i0 => x1 (z.Y' i0)]) i0 :: x7 z (x7 z (x7 z ((x2 z z.m z.m z.X' z.Y' i0 = true → x10 z (x2 z z.n z.n z.X z.Y i0) (DV.lst z.n [fun i0 => x1 (z.X i0), fun i0 => x1 (z.Y i0)]) i0) :: x7 z [ri (x2 z z.m z.m z.X' z.Y' i0 = true)] i0) i0) i0) i0) (VT.ite (if (x2 z z.m z.m z.X' z.Y' i0) = true then (!(x2 z z.n z.n z.X z.Y i0)) else false) (x14 z false) (VT.done (x13 z (∀ (i1 : Nat), x8 z (i1 ∈ ((Prod.fst i0) ++ [Prod.snd i0])) i1)))))))
end
end ww
open ww in
theorem covers_c (n : Nat) (X Y : Nat → Int) (m : Nat) (X' Y' : Nat → Int) (hn : 0 < n) (hn2 : n ≤ 800) (hX : inB n X) (hY : inB n Y) (hm : 0 < m) (hm2 : m ≤ 800) (hX' : inB m X') (hY' : inB m Y') : FnC prog 146 [pts n X Y, pts m X' Y'] (dB (covF n X Y m X' Y')) := by
  refine FnC_owed hmix (A77_covers_c n X Y m X' Y') (V := xt ⟨n, X, Y, m, X', Y'⟩) (by kernel_rfl) ?_
  simp only [xt, x0, x1, x2, x3, x4, x5, x6, x7, x8, x9, x10, x11, x12, x13, x14, Rf, VT.holds, AllT, Sq]
  rw [pair_eq]
  refine ⟨⟨Nat.le_refl _, grid_c n X Y m X' Y' hn2 hm2⟩, ⟨grid_seq n X Y m X' Y' hn2 hX hY hm2 hX' hY', fun _ _ => rfl, fun k hk => by cases hk⟩, fun _ h => ?_, fun i ⟨h1, h2, h3, h4⟩ => ⟨⟨has_c m X' Y' _ _ hm hm2 hX' hY', fun _ => has_c n X Y _ _ hn hn2 hX hY⟩, fun h => ?_, fun h k hk => ?_⟩⟩
  · rw [eq_comm, covF, decide_eq_true_eq]
    exact fun k hk => h k (List.mem_range.2 hk)
  · rw [eq_comm, covF, decide_eq_false_iff_not]
    intro hall
    have := hall i.2 h2
    simp [badC, h.1, h.2] at this
  · rcases List.mem_append.1 hk with hk | hk
    · exact h1 k hk
    · rw [List.mem_singleton.1 hk, badC]
      cases ha : hasC m X' Y' (cellM n X Y m X' Y' i.2).1 (cellM n X Y m X' Y' i.2).2 m with
      | false => rfl
      | true => rw [h ha]; rfl
noncomputable def A98_meets_c (n : Nat) (X Y : Nat → Int) (m : Nat) (X' Y' : Nat → Int) : Ann := { orc := [(1, [(3, rCells n X Y m X' Y')]), (4, [(3, rHas), (8, rHas)])], loops := [], cuts := [], rngs := [(0, { N := cellN n X Y m X' Y', enc := fun k => [.int .i64 (cellM n X Y m X' Y' k).1, .int .i64 (cellM n X Y m X' Y' k).2], keep := [2, 3, 4, 10], boxes := [2, 3, 4], bx := fun _ _ => [], inv := fun _ pre => ∀ k ∈ pre, metC n X Y m X' Y' k = false })] }
namespace wx
noncomputable section
structure Z where
  n : Nat
  X : Nat → Int
  Y : Nat → Int
  m : Nat
  X' : Nat → Int
  Y' : Nat → Int
variable (z : Z) (i0 i1 : Nat) (p : Prop) (P : List Prop) (a : Int) (k l : Nat) (g : Bool) (A : DV) (j13a j13b : Nat → Int)
abbrev x0 := cellM z.n z.X z.Y z.m z.X' z.Y' k
abbrev x1 := DV.val (Value.int IntKind.i64 a)
abbrev x2 (i0 : List Nat × Nat) := hasC k j13a j13b (Prod.fst (x0 z (Prod.snd i0))) (Prod.snd (x0 z (Prod.snd i0))) l
abbrev x3 := List.getD (gr z.n j13a z.m j13b) i0 0
abbrev x4 := List.length (gr z.n z.X z.m z.X')
abbrev x5 := List.length (gr z.n z.Y z.m z.Y')
abbrev x6 := cellN z.n z.X z.Y z.m z.X' z.Y'
abbrev x7 := p → metC z.n z.X z.Y z.m z.X' z.Y' k = false
abbrev x8 (i0 : List Nat × Nat) : List Prop := ri (x2 z z.m z.m z.X' z.Y' i0 = true) :: P
abbrev x9 : List Value := [Value.int IntKind.i64 (Prod.fst (x0 z i0)), Value.int IntKind.i64 (Prod.snd (x0 z i0))]
abbrev x10 (i0 : List Nat × Nat) := FnC prog 176 [A, x1 (Prod.fst (x0 z (Prod.snd i0))), x1 (Prod.snd (x0 z (Prod.snd i0)))] (DV.val (Value.bool g))
abbrev x11 := x1 (if (decide (i0 = (0:Nat))) = true then (j13a i1) else (j13b i1))
abbrev x12 : List Prop := [rf (x4 z), ∀ i0 < x4 z, rf (x3 z i0 z.X z.X'), rf (x5 z), ∀ i0 < x5 z, rf (x3 z i0 z.Y z.Y'), rf z.n, ∀ i0 < z.n, rf (z.X i0), ∀ i0 < z.n, rf (z.Y i0), rf z.m, ∀ i0 < z.m, rf (z.X' i0), ∀ i0 < z.m, rf (z.Y' i0), rf false, p]
abbrev x13 : List DV := [DV.cptr [DV.lst (x4 z) [fun i0 => x1 (x3 z i0 z.X z.X')]], DV.cptr [DV.lst (x5 z) [fun i0 => x1 (x3 z i0 z.Y z.Y')]]]
abbrev x14 := VT.done [g = metF z.n z.X z.Y z.m z.X' z.Y']
abbrev xt : VT := VT.need [(2:Nat) ≤ (2:Nat), FnC prog 175 [DV.lst 2 [fun i0 => DV.lst (if (decide (i0 = (0:Nat))) = true then z.n else z.m) [fun i1 => x11 i0 i1 z.X z.X', fun i1 => x11 i0 i1 z.Y z.Y']]] (DV.clo (187 : FuncId) (x13 z))] (VT.need (SeqC prog (187 : FuncId) (x13 z) (x6 z) (fun i0 => x9 z i0) :: (∀ i0 < x6 z, List.length (x9 z i0) = Array.size (List.toArray [(11:Nat), (12:Nat)])) :: x12 z (∀ (i0 : Nat), x7 z (i0 ∈ []) i0)) (VT.cut (List Nat × Nat) (fun (i0 : List Nat × Nat) => (∀ (i1 : Nat), x7 z (i1 ∈ (Prod.fst i0)) i1) ∧ Prod.snd i0 < x6 z ∧ List.length (Prod.fst i0) < x6 z ∧ (∀ (i1 : Nat), (i1 ∈ (Prod.fst i0)) → i1 < x6 z)) (VT.cut Unit (fun (i0 : Unit) => ∀ (i0 : Nat), x7 z (i0 ∈ (List.range (x6 z))) i0) (VT.done []) (fun (i0 : Unit) => x14 z false)) (fun (i0 : List Nat × Nat) => VT.need (x10 z (x2 z z.m z.m z.X' z.Y' i0) (DV.lst z.m [fun i0 => x1 (z.X' i0), fun i0 => x1 (z.Y' i0)]) i0 :: x8 z (x8 z (x8 z [x2 z z.m z.m z.X' z.Y' i0 = true → x10 z (x2 z z.n z.n z.X z.Y i0) (DV.lst z.n [fun i0 => x1 (z.X i0), fun i0 => x1 (z.Y i0)]) i0, ri (x2 z z.m z.m z.X' z.Y' i0 = true)] i0) i0) i0) (VT.ite (if (x2 z z.m z.m z.X' z.Y' i0) = true then (x2 z z.n z.n z.X z.Y i0) else false) (x14 z true) (VT.done (x12 z (∀ (i1 : Nat), x7 z (i1 ∈ ((Prod.fst i0) ++ [Prod.snd i0])) i1)))))))
end
end wx
open wx in
theorem meets_c (n : Nat) (X Y : Nat → Int) (m : Nat) (X' Y' : Nat → Int) (hn : 0 < n) (hn2 : n ≤ 800) (hX : inB n X) (hY : inB n Y) (hm : 0 < m) (hm2 : m ≤ 800) (hX' : inB m X') (hY' : inB m Y') : FnC prog 149 [pts n X Y, pts m X' Y'] (dB (metF n X Y m X' Y')) := by
  refine FnC_owed hmix (A98_meets_c n X Y m X' Y') (V := xt ⟨n, X, Y, m, X', Y'⟩) (by kernel_rfl) ?_
  simp only [xt, x0, x1, x2, x3, x4, x5, x6, x7, x8, x9, x10, x11, x12, x13, x14, Rf, VT.holds, AllT, Sq]
  rw [pair_eq]
  refine ⟨⟨Nat.le_refl _, grid_c n X Y m X' Y' hn2 hm2⟩, ⟨grid_seq n X Y m X' Y' hn2 hX hY hm2 hX' hY', fun _ _ => rfl, fun k hk => by cases hk⟩, fun _ h => ?_, fun i ⟨h1, h2, h3, h4⟩ => ⟨⟨has_c m X' Y' _ _ hm hm2 hX' hY', fun _ => has_c n X Y _ _ hn hn2 hX hY⟩, fun h => ?_, fun h k hk => ?_⟩⟩
  · rw [eq_comm, metF, Bool.not_eq_false', decide_eq_true_eq]
    exact fun k hk => h k (List.mem_range.2 hk)
  · rw [eq_comm, metF, Bool.not_eq_true', decide_eq_false_iff_not]
    intro hall
    have := hall i.2 h2
    simp [metC, h.1, h.2] at this
  · rcases List.mem_append.1 hk with hk | hk
    · exact h1 k hk
    · rw [List.mem_singleton.1 hk, metC]
      cases ha : hasC m X' Y' (cellM n X Y m X' Y' i.2).1 (cellM n X Y m X' Y' i.2).2 m with
      | false => rfl
      | true => rw [h ha]; rfl
end Go.Abs
end
