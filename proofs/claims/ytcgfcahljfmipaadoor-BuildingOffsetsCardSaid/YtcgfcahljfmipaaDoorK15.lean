/- Contracts. Contracts. Contracts. Contracts. -/
import Derived.Test.YtcgfcahljfmipaaDoorKm
section
section
section
set_option linter.unusedVariables false
set_option linter.unusedSimpArgs false
set_option maxRecDepth 100000
namespace Go.Abs
open Go
/-- A side is right of a place in doubled coordinates; how often, by parity. -/
def hasB (n : Nat) (X Y : Nat → Int) (x y : Int) (i : Nat) : Bool := decide (lo n X i = hi n X i ∧ 2 * lo n X i > x ∧ 2 * lo n Y i < y ∧ y < 2 * hi n Y i)
def hasC (n : Nat) (X Y : Nat → Int) (x y : Int) : Nat → Bool
  | 0 => false
  | k + 1 => if hasB n X Y x y k = true then !(hasC n X Y x y k) else hasC n X Y x y k
abbrev numsL (l : List Int) : DV := nums l.length (fun i => l.getD i 0)
abbrev colL (l : List Int) : List (Nat → DV) := [fun i => dI (l.getD i 0)]
def preN (N : Nat → Nat) (X : Nat → Nat → Int) (i k : Nat) : List Int := allN N X i ++ (List.range k).map (X i)
theorem preN_zero (N : Nat → Nat) (X : Nat → Nat → Int) (i : Nat) : preN N X i 0 = allN N X i := by simp [preN]
theorem preN_all (N : Nat → Nat) (X : Nat → Nat → Int) (i : Nat) : preN N X i (N i) = allN N X (i + 1) := rfl
theorem preN_len (N : Nat → Nat) (X : Nat → Nat → Int) (i k : Nat) : (preN N X i k).length = (allN N X i).length + k := by simp [preN]
theorem preN_succ (N : Nat → Nat) (X : Nat → Nat → Int) (i k : Nat) : preN N X i (k + 1) = preN N X i k ++ [X i k] := by
  simp only [preN, List.range_succ, List.map_append, List.map_cons, List.map_nil, List.append_assoc]
theorem snoc_get (l : List Int) (x : Int) (j : Nat) (h : j < l.length + 1) : (if j < l.length then l.getD j 0 else x) = (l ++ [x]).getD j 0 := by
  split
  · rename_i h1; simp [List.getElem?_append_left h1]
  · rw [show j = l.length by omega]; simp
theorem range_get (l : List Int) : (List.range l.length).map (fun i => l.getD i 0) = l := by
  apply List.ext_getElem
  · simp
  · intro i h1 h2
    simp [h2]
theorem allN_le (N : Nat → Nat) (X : Nat → Nat → Int) {i m : Nat} (h : i ≤ m) : (allN N X i).length ≤ (allN N X m).length := by
  induction m with
  | zero => rw [show i = 0 by omega]; exact Nat.le_refl _
  | succ m ih =>
    rcases Nat.lt_or_ge i (m + 1) with h1 | h1
    · have := ih (by omega)
      simp only [allN, List.length_append]; omega
    · rw [show i = m + 1 by omega]; exact Nat.le_refl _
end Go.Abs
end
section
set_option linter.unusedVariables false
set_option linter.unusedSimpArgs false
set_option maxRecDepth 100000
namespace Go.Abs
open Go
abbrev N2 (n m : Nat) (i : Nat) : Nat := if decide (i = 0) = true then n else m
abbrev X2 (X X' : Nat → Int) (i k : Nat) : Int := if decide (i = 0) = true then X k else X' k
/-- The lines of a grid through the corners of two outlines, in one coordinate. -/
def gr (n : Nat) (X : Nat → Int) (m : Nat) (X' : Nat → Int) : List Int := linesF (allN (N2 n m) (X2 X X') 2)
def cellN (n : Nat) (X Y : Nat → Int) (m : Nat) (X' Y' : Nat → Int) : Nat := ((gr n Y m Y').length - 1) * ((gr n X m X').length - 1)
def cellM (n : Nat) (X Y : Nat → Int) (m : Nat) (X' Y' : Nat → Int) (k : Nat) : Int × Int := midC ((gr n Y m Y').length - 1) (fun i => (gr n X m X').getD i 0) (fun i => (gr n Y m Y').getD i 0) k
def badC (n : Nat) (X Y : Nat → Int) (m : Nat) (X' Y' : Nat → Int) (k : Nat) : Bool := hasC m X' Y' (cellM n X Y m X' Y' k).1 (cellM n X Y m X' Y' k).2 m && !hasC n X Y (cellM n X Y m X' Y' k).1 (cellM n X Y m X' Y' k).2 n
/-- A region is within another one; two regions meet. -/
def covF (n : Nat) (X Y : Nat → Int) (m : Nat) (X' Y' : Nat → Int) : Bool := decide (∀ k, k < cellN n X Y m X' Y' → badC n X Y m X' Y' k = false)
def rCov : Orc := .res fun l => dB (covF (aN l) (aX l) (aY l) (lenOf (arg l 1)) (colI 0 (arg l 1)) (colI 1 (arg l 1)))
theorem gr_mem (n : Nat) (X : Nat → Int) (m : Nat) (X' : Nat → Int) (b : Int) (hX : ∀ k, k < n → -b ≤ X k ∧ X k ≤ b) (hX' : ∀ k, k < m → -b ≤ X' k ∧ X' k ≤ b) : ∀ i, i < (gr n X m X').length → -b ≤ (gr n X m X').getD i 0 ∧ (gr n X m X').getD i 0 ≤ b := fun i hi => by
  have h1 := ((linesF_asc (allN (N2 n m) (X2 X X') 2)).2 _).1 (getD_mem hi)
  refine allN_bd (m := 2) (fun i hi k hk => ?_) _ h1
  match i, hi with
  | 0, _ => exact hX k hk
  | 1, _ => exact hX' k hk
theorem gr_len (n : Nat) (X : Nat → Int) (m : Nat) (X' : Nat → Int) : (gr n X m X').length ≤ n + m := by
  have h := linesF_len (allN (N2 n m) (X2 X X') 2)
  simpa [gr, allN, N2] using h
theorem pair_eq (n : Nat) (X Y : Nat → Int) (m : Nat) (X' Y' : Nat → Int) : (DV.lst 2 [fun i => DV.lst (if i = 0 then n else m) [fun k => DV.val (Value.int .i64 (if i = 0 then X k else X' k)), fun k => DV.val (Value.int .i64 (if i = 0 then Y k else Y' k))]]) = .lst 2 [fun i => pts (N2 n m i) (X2 X X' i) (X2 Y Y' i)] := by
  congr 2
  funext i
  by_cases h : i = 0
  · subst h; rfl
  · have hd : decide (i = 0) = false := by simp [h]
    have e1 : N2 n m i = m := by unfold N2; rw [hd]; rfl
    have e2 : X2 X X' i = X' := by funext k; unfold X2; rw [hd]; rfl
    have e3 : X2 Y Y' i = Y' := by funext k; unfold X2; rw [hd]; rfl
    rw [e1, e2, e3]
    simp only [if_neg h]
end Go.Abs
end
end
section
set_option linter.unusedVariables false
set_option linter.unusedSimpArgs false
set_option maxRecDepth 100000
namespace Go.Abs
open Go
def rSorted : Orc := .res fun l => numsL (sortI (aX l) (aN l))
def midF (n : Nat) (X Y : Nat → Int) (x y : Int) : Bool := decide (whF n (fun k => 2 * X k) (fun k => 2 * Y k) x y > 0)
def rMid : Orc := .res fun l => dB (midF (aN l) (aX l) (aY l) (aI l 1 + aI l 2) (aI l 3 + aI l 4))
def ZX (y : Bool) (X Y : Nat → Nat → Int) (i k : Nat) : Int := if y = true then Y i k else X i k
theorem crs_has {n : Nat} {X Y : Nat → Int} (hn : 0 < n) {x y : Int} (hy : ∀ k, k < n → y ≠ 2 * Y k) : ∀ k, crs n (fun k => 2 * X k) (fun k => 2 * Y k) x y k = hasC n X Y x y k
  | 0 => rfl
  | k + 1 => by
    have e : crB n (fun k => 2 * X k) (fun k => 2 * Y k) x y k = hasB n X Y x y k := by
      unfold crB hasB lo hi
      rw [decide_eq_decide]
      have h1 := hy _ (ix_lt (i := (k : Int)) hn)
      have h2 := hy _ (ix_lt (i := (k : Int) + 1) hn)
      dsimp only
      generalize X (ix n k) = a at *
      generalize X (ix n (k + 1)) = b at *
      generalize Y (ix n k) = c at *
      generalize Y (ix n (k + 1)) = d at *
      omega
    rw [crs, hasC, e, crs_has hn hy k]
theorem midF_has {n : Nat} {X Y : Nat → Int} (h : chk n X Y = 0) {x y : Int} (hx : ∀ k, k < n → x ≠ 2 * X k) (hy : ∀ k, k < n → y ≠ 2 * Y k) : midF n X Y x y = hasC n X Y x y n := by
  have hn : 0 < n := by have := chk_n h; omega
  have hoff : ∀ i, i < n → onS n (fun k => 2 * X k) (fun k => 2 * Y k) x y i = false := fun i hin => by
    have ho := dO_of_chk h hin
    unfold dO dirOk at ho
    rw [decide_eq_true_eq] at ho
    unfold onS lo hi
    rw [decide_eq_false_iff_not]
    have a1 := hx _ (ix_lt (i := (i : Int)) hn)
    have a2 := hx _ (ix_lt (i := (i : Int) + 1) hn)
    have a3 := hy _ (ix_lt (i := (i : Int)) hn)
    have a4 := hy _ (ix_lt (i := (i : Int) + 1) hn)
    dsimp only
    generalize X (ix n i) = a at *
    generalize X (ix n (i + 1)) = b at *
    generalize Y (ix n i) = c at *
    generalize Y (ix n (i + 1)) = d at *
    omega
  unfold midF whF
  rw [if_neg (fun hx => hx hoff), crs_has hn hy]
  cases hasC n X Y x y n <;> rfl
theorem gr_gap {n : Nat} {X : Nat → Int} {m : Nat} {X' : Nat → Int} {i : Nat} (hi : i + 1 < (gr n X m X').length) : (∀ k, k < n → (gr n X m X').getD i 0 + (gr n X m X').getD (i + 1) 0 ≠ 2 * X k) ∧ (∀ k, k < m → (gr n X m X').getD i 0 + (gr n X m X').getD (i + 1) 0 ≠ 2 * X' k) := by
  obtain ⟨h1, h2⟩ := linesF_asc (allN (N2 n m) (X2 X X') 2)
  have hlt := asc_get h1 (show i < i + 1 by omega) hi
  have key : ∀ x, x ∈ allN (N2 n m) (X2 X X') 2 → (gr n X m X').getD i 0 + (gr n X m X').getD (i + 1) 0 ≠ 2 * x := fun x hx => by
    have := asc_gap h1 hi ((h2 x).2 hx)
    unfold gr
    omega
  exact ⟨fun k hk => key _ (allN_mem (i := 0) (k := k) (by omega) hk), fun k hk => key _ (allN_mem (i := 1) (k := k) (by omega) hk)⟩
theorem addN_zero (i : Nat) : addN 0 i = i := by simp [addN]
theorem insP_get (L : List Int) (a : Nat) (x : Int) (ha : a ≤ L.length) (j : Nat) (hj : j < L.length + 1) : (if j < a + 1 then (if j < a then L.getD j 0 else x) else L.getD (j - (a + 1) + a) 0) = (L.take a ++ (x :: L.drop a)).getD j 0 := by
  have hl : (L.take a).length = a := by rw [List.length_take]; omega
  simp only [List.getD_eq_getElem?_getD]
  by_cases h1 : j < a
  · rw [if_pos (by omega), if_pos h1, List.getElem?_append_left (by omega), List.getElem?_take, if_pos h1]
  · rw [List.getElem?_append_right (by omega), hl]
    by_cases h2 : j = a
    · subst h2
      rw [if_pos (by omega), if_neg (by omega), Nat.sub_self]; rfl
    · rw [if_neg (by omega), show j - a = (j - a - 1) + 1 by omega, List.getElem?_cons_succ, List.getElem?_drop]
      congr 2; omega
theorem insP_len (L : List Int) (a : Nat) (x : Int) (ha : a ≤ L.length) : (L.take a ++ (x :: L.drop a)).length = a + 1 + (L.length - a) := by
  simp only [List.length_append, List.length_take, List.length_cons, List.length_drop]; omega
noncomputable def A97_sorted_c (n : Nat) (A : Nat → Int) : Ann := { orc := [], loops := [(0, { ι := Nat, keep := [0], boxes := [], ts := fun _ i => [(4, dI (i : Int))], rw := fun _ i => [(3, 1, (sortI A i).length, colL (sortI A i))], inv := fun _ i => i ≤ n, mu := fun _ i => n - i, rd := fun _ σ => (iOf (σ.get 4)).toNat }), (2, { ι := Nat, keep := [0, 4], boxes := [], ts := fun _ a => [(5, dI (a : Int))], rw := fun σ _ => [(3, 1, (sortI A (iOf (σ.get 4)).toNat).length, colL (sortI A (iOf (σ.get 4)).toNat))], inv := fun σ a => a ≤ (sortI A (iOf (σ.get 4)).toNat).length ∧ ∀ j, j < a → (sortI A (iOf (σ.get 4)).toNat).getD j 0 < A (iOf (σ.get 4)).toNat, mu := fun σ a => (sortI A (iOf (σ.get 4)).toNat).length - a, rd := fun _ σ => (iOf (σ.get 5)).toNat })], cuts := [] }
theorem sorted_c (n : Nat) (A : Nat → Int) (hn : n ≤ 1000000) : FnC prog 53 [nums n A] (numsL (sortI A n)) := by
  refine FnC_owed hmix (A97_sorted_c n A) (V := VT.loop Nat (fun (a : Nat) => a ≤ n) (0:Int).toNat [(0:Int) = (↑(0:Int).toNat : Int), (0:Nat) = 0, nat_lit 0 = 0, n = n, ∀ i < n, A i = A i, nat_lit 0 = 0] fun (i : Nat) => VT.ite (decide ((i:Int) < (n:Int))) (VT.loop Nat (fun (a : Nat) => a ≤ List.length (sortI A (i:Int).toNat) ∧ ∀ (j : Nat), j < a → List.getD (sortI A (i:Int).toNat) j (0:Int) < A (i:Int).toNat) (0:Int).toNat [(0:Int) = (↑(0:Int).toNat : Int), (0:Nat) = 0, List.length (sortI A i) = List.length (sortI A (i:Int).toNat), n = n, ∀ i < n, A i = A i, (i:Int) = (i:Int), List.length (sortI A i) = List.length (sortI A (i:Int).toNat), ∀ i_1 < List.length (sortI A (i:Int).toNat), List.getD (sortI A i) i_1 (0:Int) = List.getD (sortI A (i:Int).toNat) i_1 (0:Int)] fun (i_1 : Nat) => VT.need [ri (decide ((i_1:Int) < (↑(List.length (sortI A (i:Int).toNat)) : Int)) = true), ri (decide ((i_1:Int) < (↑(List.length (sortI A (i:Int).toNat)) : Int)) = true), decide ((i_1:Int) < (↑(List.length (sortI A (i:Int).toNat)) : Int)) = true → (0:Int) ≤ (i_1:Int) ∧ (i_1:Int) < (↑(List.length (sortI A (i:Int).toNat)) : Int), ri (decide ((i_1:Int) < (↑(List.length (sortI A (i:Int).toNat)) : Int)) = true), decide ((i_1:Int) < (↑(List.length (sortI A (i:Int).toNat)) : Int)) = true → addN 0 (i_1:Int).toNat < List.length (sortI A (i:Int).toNat), decide ((i_1:Int) < (↑(List.length (sortI A (i:Int).toNat)) : Int)) = true → decide ((i_1:Int) < (↑(List.length (sortI A (↑i :
     Int).toNat)) : Int)) = true, ri (decide ((i_1:Int) < (↑(List.length (sortI A (i:Int).toNat)) : Int)) = true), decide ((i_1:Int) < (↑(List.length (sortI A (i:Int).toNat)) : Int)) = true → (0:Int) ≤ (i:Int) ∧ (i:Int) < (n:Int), ri (decide ((i_1:Int) < (↑(List.length (sortI A (i:Int).toNat)) : Int)) = true), ri (decide ((i_1:Int) < (↑(List.length (sortI A (i:Int).toNat)) : Int)) = true), ri (decide ((i_1:Int) < (↑(List.length (sortI A (i:Int).toNat)) : Int)) = true), ri (decide ((i_1:Int) < (↑(List.length (sortI A (i:Int).toNat)) : Int)) = true)] (VT.ite (if decide ((i_1:Int) < (↑(List.length (sortI A (i:Int).toNat)) : Int)) = true then decide (List.getD (sortI A (i:Int).toNat) (addN 0 (i_1:Int).toNat) (0:Int) < A (i:Int).toNat) else false) (VT.need [i64In ((i_1:Int) + 1)] (VT.done [(i_1:Int) + 1 = (↑((i_1:Int) + 1).toNat : Int), (0:Nat) = 0, List.length (sortI A (i:Int).toNat) = List.length (sortI A (i:Int).toNat), n = n, ∀ i < n, A i = A i, (i:Int) = (i:Int), List.length (sortI A (i:Int).toNat) = List.length (sortI A (i:Int).toNat), ∀ i_2 < List.length (sortI A (i:Int).toNat), List.getD (sortI A (i:Int).toNat) i_2 (0:Int) = List.getD (sortI A (i:Int).toNat) i_2 (0:Int), Int.toNat ((i_1:Int) + 1) ≤ List.length (sortI A (i:Int).toNat) ∧ ∀ (j : Nat), j < Int.toNat
     ((i_1:Int) + 1) → List.getD (sortI A (i:Int).toNat) j (0:Int) < A (i:Int).toNat, List.length (sortI A (i:Int).toNat) - ((i_1:Int) + 1).toNat < List.length (sortI A (i:Int).toNat) - i_1])) (VT.need [ri ((!(i_1:Int) == (↑(List.length (sortI A (i:Int).toNat)) : Int)) = true), ri ((!(i_1:Int) == (↑(List.length (sortI A (i:Int).toNat)) : Int)) = true), (!(i_1:Int) == (↑(List.length (sortI A (i:Int).toNat)) : Int)) = true → (0:Int) ≤ (i_1:Int) ∧ (i_1:Int) < (↑(List.length (sortI A (i:Int).toNat)) : Int), ri ((!(i_1:Int) == (↑(List.length (sortI A (i:Int).toNat)) : Int)) = true), (!(i_1:Int) == (↑(List.length (sortI A (i:Int).toNat)) : Int)) = true → addN 0 (i_1:Int).toNat < List.length (sortI A (i:Int).toNat), ri ((!(i_1:Int) == (↑(List.length (sortI A (i:Int).toNat)) : Int)) = true), ri ((!(i_1:Int) == (↑(List.length (sortI A (i:Int).toNat)) : Int)) = true), (!(i_1:Int) == (↑(List.length (sortI A (i:Int).toNat)) : Int)) = true → (0:Int) ≤ (i:Int) ∧ (i:Int) < (n:Int), ri ((!(i_1:Int) == (↑(List.length (sortI A (i:Int).toNat)) : Int)) = true), ri ((!(i_1:Int) == (↑(List.length (sortI A (i:Int).toNat)) : Int)) = true), ri ((!(i_1:Int) == (↑(List.length (sortI A (i:Int).toNat)) : Int)) = true), ((i_1:Int) == (↑(List.length (sortI A (i:Int).toNat)) : Int)) = false → (!(i_1:Int) == (↑(List.length (sortI A (i:Int).toNat)) : Int)) = true] (VT.ite (if ((i_1:Int) == (↑(List.length (sortI A (i:Int).toNat)) : Int)) = true then true else List.getD (sortI A (i:Int).toNat) (addN 0 (i_1:Int).toNat) (0:Int) != A (i:Int).toNat) (VT.need [(0:Int) ≤ 0 ∧ (0:Int) ≤ (i_1:Int) ∧ (i_1:Int) ≤ (↑(List.length (sortI A (i:Int).toNat)) : Int), (0:Nat) ≤ 0, ((0:Nat) + (Int.toNat (i_1:Int) - (0:Int).toNat)) * (nat_lit 7 + 1) ≤ 140737488355328, Int.toNat (i_1:Int) - (0:Int).toNat + ((0:Nat) + (0:Int).toNat) ≤ List.length (sortI A (i:Int).toNat), (0:Int) ≤ (i:Int) ∧ (i:Int) < (n:Int), (0:Nat) + (Int.toNat (i_1:Int) - (0:Int).toNat) ≤ 0 + (Int.toNat (i_1:Int) - (0:Int).toNat), ((0:Nat) + (Int.toNat (i_1:Int) - (0:Int).toNat) + 1) * (nat_lit 7 + 1) ≤ 140737488355328, (1:Nat) ≤ 1, (0:Int) ≤ (i_1:Int) ∧ (i_1:Int) ≤ (↑(List.length (sortI A (i:Int).toNat)) : Int) ∧ (↑(List.length (sortI A (i:Int).toNat)) : Int) ≤ (↑(List.length (sortI A (i:Int).toNat)) : Int), (0:Nat) + (Int.toNat (i_1:Int) - (0:Int).toNat) + 1 ≤ 0 + (Int.toNat (i_1:Int) - (0:Int).toNat) + 1, ((0:Nat) + (Int.toNat (i_1:Int) - (0:Int).toNat) + 1 + (Int.toNat (↑(List.length (sortI A (i:Int).toNat)) : Int) - (i_1:Int).toNat)) * (nat_lit 7 + 1) ≤ 140737488355328, Int.toNat (↑(List.length (sortI A (i:Int).toNat)) : Int) - (i_1:Int).toNat + ((0:Nat) + (i_1:Int).toNat) ≤ List.length (sortI A (i:Int).toNat)] (VT.need [i64In ((i:Int) + (1
     : Int))] (VT.done [(i:Int) + 1 = (↑((i:Int) + 1).toNat : Int), (0:Nat) = 0, (0:Nat) + (Int.toNat (i_1:Int) - (0:Int).toNat) + 1 + (Int.toNat (↑(List.length (sortI A (i:Int).toNat)) : Int) - (i_1:Int).toNat) = List.length (sortI A ((i:Int) + 1).toNat), n = n, ∀ i < n, A i = A i, (0:Nat) + (Int.toNat (i_1:Int) - (0:Int).toNat) + 1 + (Int.toNat (↑(List.length (sortI A (i:Int).toNat)) : Int) - (i_1:Int).toNat) = List.length (sortI A ((i:Int) + 1).toNat), ∀ i_2 < List.length (sortI A ((i:Int) + 1).toNat), (if decide (i_2 < 0 + (Int.toNat (i_1:Int) - (0:Int).toNat) + 1) = true then if decide (i_2 < 0 + (Int.toNat (i_1:Int) - (0:Int).toNat)) = true then if decide (i_2 < 0) = true then (0:Int) else List.getD (sortI A (i:Int).toNat) (i_2 - 0 + ((0:Nat) + (0:Int).toNat)) (0:Int) else A (i:Int).toNat else List.getD (sortI A (i:Int).toNat) (i_2 - ((0:Nat) + (Int.toNat (i_1:Int) - (0:Int).toNat) + 1) + ((0:Nat) + (i_1:Int).toNat)) (0:Int)) = List.getD (sortI A ((i:Int) + 1).toNat) i_2 (0:Int), Int.toNat ((i:Int) + 1) ≤ n, n - ((i:Int) + 1).toNat < n - i]))) (VT.need [i64In ((i:Int) + 1)] (VT.done [(i:Int) + 1 = (↑((i:Int) + 1).toNat : Int), (0:Nat) = 0, List.length (sortI A (i:Int).toNat) = List.length (sortI A ((i:Int) + 1).toNat), n = n, ∀ i < n, A i = A i, List.length (sortI A (i:Int).toNat) = List.length (sortI A ((i:Int) + 1).toNat), ∀ i_2 < List.length (sortI A ((i:Int) + 1).toNat), List.getD (sortI A (i:Int).toNat) i_2 (0:Int) = List.getD (sortI A ((↑i :
     Int) + 1).toNat) i_2 (0:Int), Int.toNat ((i:Int) + 1) ≤ n, n - ((i:Int) + 1).toNat < n - i])))))) (VT.done [List.length (sortI A i) ≤ List.length (sortI A i), List.length (sortI A i) = List.length (sortI A n), ∀ i_1 < List.length (sortI A n), List.getD (sortI A i) i_1 (0:Int) = List.getD (sortI A n) i_1 (0:Int)])) (by kernel_rfl) ?_
  simp only [VT.holds, AllT, Sq]
  simp only [Nat.zero_add, Nat.sub_zero, Nat.add_zero, Nat.not_lt_zero, if_false, addN_zero]
  refine ⟨rfl, Nat.zero_le n, fun i hi => ⟨fun hlt => ⟨rfl, ⟨Nat.zero_le _, fun j hj => hj.elim⟩, fun a ⟨ha, hb⟩ => ?_⟩, fun hge => ?_⟩⟩
  · have hl := sortI_len A i
    refine ⟨⟨fun h => ⟨by omega, h⟩, fun h => by omega, fun _ => ⟨by omega, hlt⟩⟩, fun ⟨h1, h2⟩ => ⟨by unfold i64In; omega, by omega, ⟨by omega, fun j hj => ?_⟩, by omega⟩, fun h => ?_⟩
    · rcases Nat.lt_or_ge j a with h | h
      · exact hb j h
      · rw [show j = a by omega]; exact h2
    · have hp : a = posI (A i) (sortI A i) := posI_eq hb (by
        rcases Nat.lt_or_ge a (sortI A i).length with h5 | h5
        · have := h (by omega); exact .inr ⟨h5, by omega⟩
        · exact .inl (by omega))
      refine ⟨⟨fun h1 => ⟨by omega, by omega⟩, fun h1 => by omega, fun _ => ⟨by omega, hlt⟩⟩, fun h1 => ?_, fun ⟨h1, h2⟩ => ?_⟩
      · have e : sortI A (i + 1) = (sortI A i).take a ++ (A i :: (sortI A i).drop a) := by
          show insI (A i) (sortI A i) = _
          rw [insI, ← hp, if_pos]
          rcases h1 with h1 | h1
          · exact .inl (by omega)
          · exact .inr h1
        have el : a + 1 + ((sortI A i).length - a) = (sortI A (i + 1)).length := by rw [e, insP_len _ _ _ ha]
        refine ⟨⟨⟨by omega, by omega, by omega⟩, Nat.le_refl _, by omega, ha, ⟨by omega, hlt⟩, Nat.le_refl _, by omega, Nat.le_refl _, ⟨by omega, by omega, by omega⟩, Nat.le_refl _, by omega, by omega⟩, by unfold i64In; omega, by omega, el, el, fun j hj => ?_, by omega, by omega⟩
        rw [e]
        exact insP_get _ a _ ha j (by omega)
      · have e : sortI A (i + 1) = sortI A i := by
          show insI (A i) (sortI A i) = _
          rw [insI, ← hp, if_neg]
          rintro (h3 | h3)
          · exact h1 (by omega)
          · exact h3 h2
        rw [e]
        exact ⟨by unfold i64In; omega, by omega, rfl, rfl, fun _ _ => rfl, by omega, by omega⟩
  · obtain rfl : i = n := by omega
    exact ⟨Nat.le_refl _, rfl, fun _ _ => rfl⟩
noncomputable def A78_gridR_c (y : Bool) (m : Nat) (N : Nat → Nat) (X Y : Nat → Nat → Int) : Ann := { orc := [(11, [(1, rSorted)])], loops := [(0, { ι := Nat, keep := [0, 1], boxes := [], ts := fun _ i => [(6, dI (i : Int))], rw := fun _ i => [(5, 1, (allN N (ZX y X Y) i).length, colL (allN N (ZX y X Y) i))], inv := fun _ i => i ≤ m, mu := fun _ i => m - i, rd := fun _ σ => (iOf (σ.get 6)).toNat }), (2, { ι := Nat, keep := [0, 1, 6], boxes := [], ts := fun _ k => [(7, dI (k : Int))], rw := fun σ k => [(5, 1, (preN N (ZX y X Y) (iOf (σ.get 6)).toNat k).length, colL (preN N (ZX y X Y) (iOf (σ.get 6)).toNat k))], inv := fun σ k => k ≤ N (iOf (σ.get 6)).toNat, mu := fun σ k => N (iOf (σ.get 6)).toNat - k, rd := fun _ σ => (iOf (σ.get 7)).toNat })], cuts := [] }
theorem gridR_c (y : Bool) (m : Nat) (N : Nat → Nat) (X Y : Nat → Nat → Int) (hm : m ≤ 1000000) (hb : (allN N X m).length ≤ 1000000) : FnC prog 38 [dB y, .lst m [fun i => pts (N i) (X i) (Y i)]] (numsL (linesF (allN N (ZX y X Y) m))) := by
  refine FnC_owed hmix (A78_gridR_c y m N X Y) (V := VT.loop Nat (fun (a : Nat) => a ≤ m) (0:Int).toNat [(0:Int) = (↑(0:Int).toNat : Int), (0:Nat) = 0, nat_lit 0 = 0, y = y, m = m, ∀ i < m, N i = N i ∧ (∀ i_1 < N i, X i i_1 = X i i_1) ∧ ∀ i_1 < N i, Y i i_1 = Y i i_1, nat_lit 0 = 0] fun (i : Nat) => VT.ite (decide ((i:Int) < (m:Int))) (VT.loop Nat (fun (a : Nat) => a ≤ N (i:Int).toNat) (0:Int).toNat [(0:Int) = (↑(0:Int).toNat : Int), (0:Nat) = 0, List.length (allN N (ZX y X Y) i) = List.length (preN N (ZX y X Y) (i:Int).toNat (0:Int).toNat), y = y, m = m, ∀ i < m, N i = N i ∧ (∀ i_1 < N i, X i i_1 = X i i_1) ∧ ∀ i_1 < N i, Y i i_1 = Y i i_1, (i:Int) = (i:Int), List.length (allN N (ZX y X Y) i) = List.length (preN N (ZX y X Y) (i:Int).toNat (0:Int).toNat), ∀ i_1 < List.length (preN N (ZX y X Y) (i:Int).toNat (0:Int).toNat), List.getD (allN N (ZX y X Y) i) i_1 (0:Int) = List.getD (preN N (ZX y X Y) (i:Int).toNat (0:Int).toNat) i_1 (0:Int)] fun (i_1 : Nat) => VT.need [(0:Int) ≤ (i:Int) ∧ (i:Int) < (m:Int)] (VT.ite (decide ((i_1:Int) < (↑(N (i:Int).toNat) : Int))) (VT.ite y (VT.need [(0:Int) ≤ (i:Int) ∧ (i:Int) < (m:Int), (0:Int) ≤ (i_1:Int) ∧ (i_1:Int) < (↑(N (i:Int).toNat) : Int), List.length (preN N (ZX y X Y) (i:Int).toNat i_1) ≤ List.length (preN N (ZX y X Y) (i:Int).toNat i_1), (List.length (preN N (ZX y X Y) (i:Int).toNat i_1) + 1) * (nat_lit 7 + 1) ≤ 140737488355328, (1:Nat) ≤ 1] (VT.need [i64In ((i_1:Int) + 1)] (VT.done [(i_1:Int) + 1 = (↑((i_1:Int) + 1).toNat : Int), (0:Nat) = 0, List.length (preN N (ZX y X Y) (i:Int).toNat i_1) + 1 = List.length (preN N (ZX y X Y) (Int.toNat
     (i:Int)) ((i_1:Int) + 1).toNat), y = y, m = m, ∀ i < m, N i = N i ∧ (∀ i_2 < N i, X i i_2 = X i i_2) ∧ ∀ i_2 < N i, Y i i_2 = Y i i_2, (i:Int) = (i:Int), List.length (preN N (ZX y X Y) (i:Int).toNat i_1) + 1 = List.length (preN N (ZX y X Y) (i:Int).toNat ((i_1:Int) + 1).toNat), ∀ i_2 < List.length (preN N (ZX y X Y) (i:Int).toNat ((i_1:Int) + 1).toNat), (if decide (i_2 < List.length (preN N (ZX y X Y) (i:Int).toNat i_1)) = true then List.getD (preN N (ZX y X Y) (i:Int).toNat i_1) i_2 (0:Int) else Y (i:Int).toNat (i_1:Int).toNat) = List.getD (preN N (ZX y X Y) (i:Int).toNat ((i_1:Int) + 1).toNat) i_2 (0:Int), Int.toNat ((i_1:Int) + 1) ≤ N (i:Int).toNat, N (i:Int).toNat - ((i_1:Int) + 1).toNat < N (i:Int).toNat - i_1]))) (VT.need [(0:Int) ≤ (i:Int) ∧ (i:Int) < (m:Int), (0:Int) ≤ (i_1:Int) ∧ (i_1:Int) < (↑(N (i:Int).toNat) : Int), List.length (preN N (ZX y X Y) (i:Int).toNat i_1) ≤ List.length (preN N (ZX y X Y) (i:Int).toNat i_1), (List.length (preN N (ZX y X Y) (i:Int).toNat i_1) + 1) * (nat_lit 7 + 1) ≤ 140737488355328, (1:Nat) ≤ 1] (VT.need [i64In ((i_1:Int) + 1)] (VT.done [(i_1:Int) + 1 = (↑((i_1:Int) + 1).toNat : Int), (0:Nat) = 0, List.length (preN N (ZX y X Y) (i:Int).toNat i_1) + 1 = List.length (preN N (ZX y X Y) (i:Int).toNat ((i_1:Int) + 1).toNat), y = y, m = m, ∀ i < m, N i = N i ∧ (∀ i_2 < N i, X i i_2 = X i i_2) ∧ ∀ i_2 < N i, Y i i_2 = Y i i_2, (i:Int) = (i:Int), List.length (preN N (ZX y X Y) (i:Int).toNat i_1) + 1 = List.length (preN N (ZX y X Y)
     (i:Int).toNat ((i_1:Int) + 1).toNat), ∀ i_2 < List.length (preN N (ZX y X Y) (i:Int).toNat ((i_1:Int) + 1).toNat), (if decide (i_2 < List.length (preN N (ZX y X Y) (i:Int).toNat i_1)) = true then List.getD (preN N (ZX y X Y) (i:Int).toNat i_1) i_2 (0:Int) else X (i:Int).toNat (i_1:Int).toNat) = List.getD (preN N (ZX y X Y) (i:Int).toNat ((i_1:Int) + 1).toNat) i_2 (0:Int), Int.toNat ((i_1:Int) + 1) ≤ N (i:Int).toNat, N (i:Int).toNat - ((i_1:Int) + 1).toNat < N (i:Int).toNat - i_1])))) (VT.need [i64In ((i:Int) + 1)] (VT.done [(i:Int) + 1 = (↑((i:Int) + 1).toNat : Int), (0:Nat) = 0, List.length (preN N (ZX y X Y) (i:Int).toNat i_1) = List.length (allN N (ZX y X Y) ((i:Int) + 1).toNat), y = y, m = m, ∀ i < m, N i = N i ∧ (∀ i_2 < N i, X i i_2 = X i i_2) ∧ ∀ i_2 < N i, Y i i_2 = Y i i_2, List.length (preN N (ZX y X Y) (i:Int).toNat i_1) = List.length (allN N (ZX y X Y) ((i:Int) + 1).toNat), ∀ i_2 < List.length (allN N (ZX y X Y) ((i:Int) + 1).toNat), List.getD (preN N (ZX y X Y) (i:Int).toNat i_1) i_2 (0:Int) = List.getD (allN N (ZX y X Y) ((i:Int) + 1).toNat) i_2 (0:Int), Int.toNat ((i:Int) + 1) ≤ m, m - ((i:Int) + 1).toNat < m - i])))) (VT.need [List.length (allN N (ZX y X Y) i) ≤ List.length (allN N (ZX y X Y) i), FnC prog 53 [DV.lst (List.length (allN N (ZX y X Y) i)) [fun (i_1 : Nat) => DV.val (Value.int IntKind.i64 (List.getD (allN N (ZX y X Y) i) i_1 (0:Int)))]] (DV.lst (List.length (sortI (fun (a : Nat) => List.getD (allN N (ZX y X Y) i) a (0:Int)) (List.length (allN N (ZX y X Y) i)))) [fun (i_1 : Nat) => DV.val (Value.int IntKind.i64 (List.getD
     (sortI (fun (a : Nat) => List.getD (allN N (ZX y X Y) i) a (0:Int)) (List.length (allN N (ZX y X Y) i))) i_1 (0:Int)))])] (VT.done [List.length (sortI (fun (a : Nat) => List.getD (allN N (ZX y X Y) i) a (0:Int)) (List.length (allN N (ZX y X Y) i))) = List.length (linesF (allN N (ZX y X Y) m)), ∀ i_1 < List.length (linesF (allN N (ZX y X Y) m)), List.getD (sortI (fun (a : Nat) => List.getD (allN N (ZX y X Y) i) a (0:Int)) (List.length (allN N (ZX y X Y) i))) i_1 (0:Int) = List.getD (linesF (allN N (ZX y X Y) m)) i_1 (0:Int)]))) (by kernel_rfl) ?_
  simp only [VT.holds, AllT, Sq]
  have hb2 : ∀ Z, (allN N Z m).length ≤ 1000000 := fun Z => by rw [allN_len N Z X]; exact hb
  generalize hZ : ZX y X Y = Z
  have hbZ := hb2 Z
  refine ⟨rfl, Nat.zero_le m, fun i hi => ⟨fun hlt => ⟨?_, Nat.zero_le _, fun k hk => ⟨⟨by omega, hlt⟩, fun hk2 => ?_, fun hk2 => ?_⟩⟩, fun hge => ?_⟩⟩
  · simp only [preN_zero, implies_true, true_and, and_true]; rfl
  · have e1 := allN_le N Z (show i + 1 ≤ m by omega)
    have e3 := preN_len N Z i k
    have e5 : (allN N Z (i + 1)).length = (allN N Z i).length + N i := by simp [allN]
    have f1 : (preN N Z i k).length + 1 = (preN N Z i (k + 1)).length := by rw [preN_succ]; simp
    have g1 : ∀ j, j < (preN N Z i (k + 1)).length → (if j < (preN N Z i k).length then (preN N Z i k).getD j 0 else Z i k) = (preN N Z i (k + 1)).getD j 0 := fun j hj => by
      rw [preN_succ]; exact snoc_get _ _ j (by omega)
    refine ⟨fun hy => ?_, fun hy => ?_⟩
    · rw [show Y i k = Z i k by rw [← hZ, ZX, if_pos hy]]
      exact ⟨⟨⟨by omega, hlt⟩, ⟨by omega, hk2⟩, Nat.le_refl _, by omega, Nat.le_refl _⟩, by unfold i64In; omega, by omega, f1, f1, g1, by omega, by omega⟩
    · rw [show X i k = Z i k by rw [← hZ, ZX, if_neg (by rw [hy]; simp)]]
      exact ⟨⟨⟨by omega, hlt⟩, ⟨by omega, hk2⟩, Nat.le_refl _, by omega, Nat.le_refl _⟩, by unfold i64In; omega, by omega, f1, f1, g1, by omega, by omega⟩
  · obtain rfl : k = N i := by omega
    simp only [preN_all, implies_true, true_and, and_true]
    exact ⟨by unfold i64In; omega, by omega, by omega, by omega⟩
  · obtain rfl : i = m := by omega
    have l1 := sorted_c (allN N Z i).length (fun j => (allN N Z i).getD j 0) hbZ
    refine ⟨⟨Nat.le_refl _, l1⟩, ?_⟩
    rw [sortI_lines, range_get]
    exact ⟨rfl, fun _ _ => rfl⟩
noncomputable def A79_middle_c (n : Nat) (X Y : Nat → Int) (a b c d : Int) : Ann := { orc := [(6, [(8, rWhF)])], loops := [(0, { ι := Nat, keep := [0, 1, 2, 3, 4], boxes := [], ts := fun _ i => [(12, dI (i : Int))], rw := fun _ i => [(11, 2, i, [fun k => dI (2 * X k), fun k => dI (2 * Y k)])], inv := fun _ i => i ≤ n, mu := fun _ i => n - i, rd := fun _ σ => (iOf (σ.get 12)).toNat })], cuts := [] }
theorem middle_c (n : Nat) (X Y : Nat → Int) (a b c d : Int) (hn : 0 < n) (hn2 : n ≤ 800) (hX : inB n X) (hY : inB n Y) (ha : -1000000 ≤ a ∧ a ≤ 1000000) (hb : -1000000 ≤ b ∧ b ≤ 1000000) (hc : -1000000 ≤ c ∧ c ≤ 1000000) (hd : -1000000 ≤ d ∧ d ≤ 1000000) : FnC prog 39 [pts n X Y, dI a, dI b, dI c, dI d] (dB (midF n X Y (a + b) (c + d))) := by
  refine FnC_owed hmix (A79_middle_c n X Y a b c d) (V := VT.loop Nat (fun (a : Nat) => a ≤ n) (0:Int).toNat [(0:Int) = (↑(0:Int).toNat : Int), (0:Nat) = 0, Int.toNat (0:Int) = 0, n = n, ∀ i < n, X i = X i, ∀ i < n, Y i = Y i, a = a, b = b, c = c, d = d, Int.toNat (0:Int) = 0] fun (i : Nat) => VT.ite (decide ((i:Int) < (n:Int))) (VT.need [(0:Int) ≤ (i:Int) ∧ (i:Int) < (n:Int), i64In ((2:Int) * X (i:Int).toNat), (0:Int) ≤ (i:Int) ∧ (i:Int) < (n:Int), i64In ((2:Int) * Y (i:Int).toNat), i ≤ i, (i + 1) * (nat_lit 15 + 1) ≤ 140737488355328, (1:Nat) ≤ 1] (VT.need [i64In ((i:Int) + 1)] (VT.done [(i:Int) + 1 = (↑((i:Int) + 1).toNat : Int), (0:Nat) = 0, i + 1 = ((i:Int) + 1).toNat, n = n, ∀ i < n, X i = X i, ∀ i < n, Y i = Y i, a = a, b = b, c = c, d = d, i + 1 = ((i:Int) + 1).toNat, ∀ i_1 < ((i:Int) + 1).toNat, (if decide (i_1 < i) = true then (2:Int) * X i_1 else (2:Int) * X (i:Int).toNat) = 2 * X i_1, ∀ i_1 < ((i:Int) + 1).toNat, (if decide (i_1 < i) = true then (2:Int) * Y i_1 else (2:Int) * Y (i:Int).toNat) = 2 * Y i_1, Int.toNat ((i:Int) + 1) ≤ n, n - ((i:Int) + 1).toNat < n - i]))) (VT.need [i64In (a + b), i64In (c + d), i ≤ i, FnC prog 54 [DV.lst i [fun (i : Nat) => DV.val (Value.int IntKind.i64 ((2:Int) * X i)), fun (i : Nat) => DV.val (Value.int IntKind.i64 ((2:Int) * Y i))], DV.val (Value.agg { toList := [Value.int IntKind.i64 (a + b), Value.int IntKind.i64 (c + d)] })] (DV.val (Value.int IntKind.i64 (whF i (fun (a : Nat) => (2:Int) * X a) (fun (a : Nat) => (2:Int) * Y a) (a + b) (c + d))))] (VT.done [decide (whF i (fun (a : Nat) => (2:Int) * X a) (fun (a : Nat) => (2:Int) * Y a) (a + b) (c + d) > (0 :
     Int)) = midF n X Y (a + b) (c + d)]))) (by kernel_rfl) ?_
  simp only [VT.holds, AllT, Sq]
  refine ⟨rfl, Nat.zero_le n, fun i hin => ⟨fun hlt => ?_, fun hge => ?_⟩⟩
  · have b1 := hX i (by omega)
    have b2 := hY i (by omega)
    exact ⟨⟨⟨by omega, hlt⟩, by unfold i64In; omega, ⟨by omega, hlt⟩, by unfold i64In; omega, Nat.le_refl _, by omega, Nat.le_refl _⟩, by unfold i64In; omega, by omega, last_if (f := fun j => 2 * X j) rfl, last_if (f := fun j => 2 * Y j) rfl, by omega, by omega⟩
  · obtain rfl : i = n := by omega
    exact ⟨⟨by unfold i64In; omega, by unfold i64In; omega, Nat.le_refl _, whereR_c _ _ _ _ _ hn hn2⟩, rfl⟩
end Go.Abs
end
end
section
set_option linter.unusedVariables false
set_option linter.unusedSimpArgs false
set_option maxRecDepth 100000
namespace Go.Abs
open Go
theorem gridL_c (y : Bool) (n : Nat) (X Y : Nat → Int) (m : Nat) (X' Y' : Nat → Int) (hn2 : n ≤ 800) (hm2 : m ≤ 800) :
    FnC prog 38 [dB y, .lst 2 [fun i => pts (N2 n m i) (X2 X X' i) (X2 Y Y' i)]] (numsL (if y = true then gr n Y m Y' else gr n X m X')) := by
  have h := gridR_c y 2 (N2 n m) (X2 X X') (X2 Y Y') (by omega) (by simp [allN, N2]; omega)
  cases y with
  | true => exact h
  | false => exact h
theorem cell_at (n : Nat) (X Y : Nat → Int) (m : Nat) (X' Y' : Nat → Int) {i k : Nat} (hk : k < (gr n Y m Y').length - 1) : cellM n X Y m X' Y' (((gr n Y m Y').length - 1) * i + k) = ((gr n X m X').getD i 0 + (gr n X m X').getD (i + 1) 0, (gr n Y m Y').getD k 0 + (gr n Y m Y').getD (k + 1) 0) := by
  unfold cellM
  rw [mid_at _ _ hk]
noncomputable def A36_coversR_c (n : Nat) (X Y : Nat → Int) (m : Nat) (X' Y' : Nat → Int) : Ann := { orc := [(1, [(3, .res fun _ => numsL (gr n X m X')), (7, .res fun _ => numsL (gr n Y m Y'))]), (8, [(19, rMid), (40, rMid)])], loops := [(0, { ι := Nat, keep := [0, 1, 5, 6], boxes := [], ts := fun _ i => [(7, dI (i : Int))], inv := fun _ i => i ≤ (gr n X m X').length - 1 ∧ ∀ c, c < ((gr n Y m Y').length - 1) * i → badC n X Y m X' Y' c = false, mu := fun _ i => (gr n X m X').length - i, rd := fun _ σ => (iOf (σ.get 7)).toNat }), (2, { ι := Nat, keep := [0, 1, 5, 6, 7], boxes := [], ts := fun _ k => [(8, dI (k : Int))], inv := fun σ k => k ≤ (gr n Y m Y').length - 1 ∧ ∀ c, c < ((gr n Y m Y').length - 1) * (iOf (σ.get 7)).toNat + k → badC n X Y m X' Y' c = false, mu := fun _ k => (gr n Y m Y').length - k, rd := fun _ σ => (iOf (σ.get 8)).toNat })], cuts := [] }
theorem coversR_c (n : Nat) (X Y : Nat → Int) (m : Nat) (X' Y' : Nat → Int) (h : chk n X Y = 0) (h' : chk m X' Y' = 0) : FnC prog 14 [pts n X Y, pts m X' Y'] (dB (covF n X Y m X' Y')) := by
  refine FnC_owed hmix (A36_coversR_c n X Y m X' Y') (V := VT.need [(2:Nat) ≤ 2, FnC prog 38 [DV.val (Value.bool false), DV.lst 2 [fun (i : Nat) => DV.lst (if decide (i = 0) = true then n else m) [fun (i_1 : Nat) => DV.val (Value.int IntKind.i64 (if decide (i = 0) = true then X i_1 else X' i_1)), fun (i_1 : Nat) => DV.val (Value.int IntKind.i64 (if decide (i = 0) = true then Y i_1 else Y' i_1))]]] (DV.lst (List.length (gr n X m X')) [fun (i : Nat) => DV.val (Value.int IntKind.i64 (List.getD (gr n X m X') i (0:Int)))]), (2:Nat) ≤ 2, FnC prog 38 [DV.val (Value.bool true), DV.lst 2 [fun (i : Nat) => DV.lst (if decide (i = 0) = true then n else m) [fun (i_1 : Nat) => DV.val (Value.int IntKind.i64 (if decide (i = 0) = true then X i_1 else X' i_1)), fun (i_1 : Nat) => DV.val (Value.int IntKind.i64 (if decide (i = 0) = true then Y i_1 else Y' i_1))]]] (DV.lst (List.length (gr n Y m Y')) [fun (i : Nat) => DV.val (Value.int IntKind.i64 (List.getD (gr n Y m Y') i (0:Int)))])] (VT.loop Nat (fun (a : Nat) => a ≤ List.length (gr n X m X') - 1 ∧ ∀ (c : Nat), c < (List.length (gr n Y m Y') - 1) * a → badC n X Y m X' Y' c = false) (0:Int).toNat [(0:Int) = (↑(0:Int).toNat : Int), n = n, ∀ i < n, X i = X i, ∀ i < n, Y i = Y i, m = m, ∀ i < m, X' i = X' i, ∀ i < m, Y' i = Y' i, List.length (gr n X m X') = List.length (gr n X m X'), ∀ i < List.length (gr n X m X'), List.getD (gr n X m X') i (0:Int) = List.getD (gr n X m X') i (0:Int), List.length (gr n Y m Y') = List.length (gr n Y m Y'), ∀ i < List.length (gr n Y m Y'), List.getD (gr n Y m Y') i (0:Int) = List.getD (gr n Y m Y') i (0:Int)] fun (i : Nat) => VT.need [i64In ((i:Int) + 1)] (VT.ite (decide ((i:Int) + 1 < (↑(List.length (gr n X m X')) : Int))) (VT.loop Nat (fun (a : Nat) => a ≤ List.length (gr n Y m Y') - 1 ∧ ∀ (c : Nat), c <
     (List.length (gr n Y m Y') - 1) * Int.toNat (i:Int) + a → badC n X Y m X' Y' c = false) (0:Int).toNat [(0:Int) = (↑(0:Int).toNat : Int), n = n, ∀ i < n, X i = X i, ∀ i < n, Y i = Y i, m = m, ∀ i < m, X' i = X' i, ∀ i < m, Y' i = Y' i, List.length (gr n X m X') = List.length (gr n X m X'), ∀ i < List.length (gr n X m X'), List.getD (gr n X m X') i (0:Int) = List.getD (gr n X m X') i (0:Int), List.length (gr n Y m Y') = List.length (gr n Y m Y'), ∀ i < List.length (gr n Y m Y'), List.getD (gr n Y m Y') i (0:Int) = List.getD (gr n Y m Y') i (0:Int), (i:Int) = (i:Int)] fun (i_1 : Nat) => VT.need [i64In ((i_1:Int) + 1)] (VT.ite (decide ((i_1:Int) + 1 < (↑(List.length (gr n Y m Y')) : Int))) (VT.need [(0:Int) ≤ (i:Int) ∧ (i:Int) < (↑(List.length (gr n X m X')) : Int), i64In ((i:Int) + 1), (0:Int) ≤ (i:Int) + 1 ∧ (i:Int) + 1 < (↑(List.length (gr n X m X')) : Int), (0:Int) ≤ (i_1:Int) ∧ (i_1:Int) < (↑(List.length (gr n Y m Y')) : Int), i64In ((i_1:Int) + 1), (0:Int) ≤ (i_1:Int) + 1 ∧ (i_1:Int) + 1 < (↑(List.length (gr n Y m Y')) : Int), FnC prog 39 [DV.lst m [fun (i : Nat) => DV.val (Value.int IntKind.i64 (X' i)), fun (i : Nat) => DV.val (Value.int IntKind.i64 (Y' i))], DV.val (Value.int IntKind.i64 (List.getD (gr n X m X') (i:Int).toNat (0:Int))), DV.val (Value.int IntKind.i64 (List.getD (gr n X m X') ((i:Int) + 1).toNat (0:Int))), DV.val (Value.int IntKind.i64 (List.getD (gr n Y m Y') (i_1:Int).toNat (0:Int))), DV.val (Value.int IntKind.i64 (List.getD (gr n Y m Y') ((i_1:Int) + 1).toNat (0:Int)))] (DV.val (Value.bool (midF m X' Y' (List.getD (gr n X m X') (i:Int).toNat (0:Int) + List.getD (gr n X m X') ((i:Int) + 1).toNat (0:Int)) (List.getD (gr n Y m Y')
     (i_1:Int).toNat (0:Int) + List.getD (gr n Y m Y') ((i_1:Int) + 1).toNat (0:Int))))), ri (midF m X' Y' (List.getD (gr n X m X') (i:Int).toNat (0:Int) + List.getD (gr n X m X') ((i:Int) + 1).toNat (0:Int)) (List.getD (gr n Y m Y') (i_1:Int).toNat (0:Int) + List.getD (gr n Y m Y') ((i_1:Int) + 1).toNat (0:Int)) = true), ri (midF m X' Y' (List.getD (gr n X m X') (i:Int).toNat (0:Int) + List.getD (gr n X m X') ((i:Int) + 1).toNat (0:Int)) (List.getD (gr n Y m Y') (i_1:Int).toNat (0:Int) + List.getD (gr n Y m Y') ((i_1:Int) + 1).toNat (0:Int)) = true), midF m X' Y' (List.getD (gr n X m X') (i:Int).toNat (0:Int) + List.getD (gr n X m X') ((i:Int) + 1).toNat (0:Int)) (List.getD (gr n Y m Y') (i_1:Int).toNat (0:Int) + List.getD (gr n Y m Y') ((i_1:Int) + 1).toNat (0:Int)) = true → (0:Int) ≤ (i:Int) ∧ (i:Int) < (↑(List.length (gr n X m X')) : Int), ri (midF m X' Y' (List.getD (gr n X m X') (i:Int).toNat (0:Int) + List.getD (gr n X m X') ((i:Int) + 1).toNat (0:Int)) (List.getD (gr n Y m Y') (i_1:Int).toNat (0:Int) + List.getD (gr n Y m Y') ((i_1:Int) + 1).toNat (0:Int)) = true), ri (midF m X' Y' (List.getD (gr n X m X') (i:Int).toNat (0:Int) + List.getD (gr n X m X') ((i:Int) + 1).toNat (0:Int)) (List.getD (gr n Y m Y') (i_1:Int).toNat (0:Int) + List.getD (gr n Y m Y') ((i_1:Int) + 1).toNat (0:Int)) = true), midF m X' Y' (List.getD (gr n X m X') (i:Int).toNat (0:Int) + List.getD (gr n X m X') ((i:Int) + 1).toNat (0:Int)) (List.getD (gr n Y m Y') (i_1:Int).toNat (0:Int) + List.getD (gr n Y m Y') ((i_1:Int) + 1).toNat (0:Int)) = true → i64In ((i:Int) + 1), ri (midF m X' Y' (List.getD (gr n X m X') (i:Int).toNat (0:Int) + List.getD (gr n X m X') ((i:Int) + 1).toNat (0:Int)) (List.getD (gr n Y m Y') (i_1:Int).toNat (0:Int) + List.getD (gr n Y m Y') ((i_1:Int) + 1).toNat (0:Int)) = true), ri (midF m X' Y' (List.getD (gr n X m X') (i:Int).toNat (0:Int) + List.getD (gr n X m X') ((i:Int) + 1).toNat (0:Int)) (List.getD (gr n Y m Y') (i_1:Int).toNat (0:Int) + List.getD (gr n Y m Y') ((i_1:Int) + 1).toNat (0:Int)) = true), midF m X' Y' (List.getD (gr n X m X') (i:Int).toNat (0:Int) + List.getD (gr n X m X') ((i:Int) + 1).toNat (0:Int)) (List.getD (gr n Y m Y') (i_1:Int).toNat (0:Int) + List.getD (gr n Y m Y') ((i_1:Int) + 1).toNat (0:Int)) = true → (0:Int) ≤ (i:Int) + 1 ∧ (i:Int) + 1 < (↑(List.length (gr n X m X')) : Int), ri (midF m X' Y' (List.getD (gr n X m X') (i:Int).toNat (0:Int) + List.getD (gr n X m X') ((i:Int) + 1).toNat (0:Int)) (List.getD (gr n Y m Y') (i_1:Int).toNat (0:Int) + List.getD (gr n Y m Y') ((i_1:Int) + 1).toNat (0:Int)) = true), ri (midF m X' Y' (List.getD (gr n X m X') (i:Int).toNat (0:Int) + List.getD (gr n X m X') ((i:Int) + 1).toNat (0:Int)) (List.getD (gr n Y m Y') (i_1:Int).toNat (0:Int) + List.getD (gr n Y m Y') ((i_1:Int) + 1).toNat (0:Int)) = true), ri (midF m X' Y' (List.getD (gr n X m X') (i:Int).toNat (0:Int) + List.getD (gr n X m X') ((i:Int) + 1).toNat (0:Int)) (List.getD (gr n Y m Y') (i_1:Int).toNat (0:Int) + List.getD (gr n Y m Y') ((i_1:Int) + 1).toNat (0:Int)) = true), midF m X' Y' (List.getD (gr n X m X') (i:Int).toNat (0:Int) + List.getD (gr n X m X') ((i:Int) + 1).toNat (0:Int)) (List.getD (gr n Y m Y') (i_1:Int).toNat (0:Int) + List.getD (gr n Y m Y') ((i_1:Int) + 1).toNat (0:Int)) = true → (0:Int) ≤ (i_1:Int) ∧ (i_1:Int) < (↑(List.length (gr n Y m Y')) : Int), ri (midF m X' Y' (List.getD (gr n X m X') (i:Int).toNat (0:Int) + List.getD (gr n X m X') ((i:Int) + 1).toNat (0:Int)) (List.getD (gr n Y m Y') (i_1:Int).toNat (0:Int) + List.getD (gr n Y m Y') ((i_1:Int) + 1).toNat (0:Int)) = true), ri (midF m X' Y' (List.getD (gr n X m X') (i:Int).toNat (0:Int) + List.getD (gr n X m X') ((i:Int) + 1).toNat (0:Int)) (List.getD (gr n Y m Y') (i_1:Int).toNat (0:Int) + List.getD (gr n Y m Y') ((i_1:Int) + 1).toNat (0:Int)) = true), midF m X' Y' (List.getD (gr n X m X') (i:Int).toNat
     (0:Int) + List.getD (gr n X m X') ((i:Int) + 1).toNat (0:Int)) (List.getD (gr n Y m Y') (i_1:Int).toNat (0:Int) + List.getD (gr n Y m Y') ((i_1:Int) + 1).toNat (0:Int)) = true → i64In ((i_1:Int) + 1), ri (midF m X' Y' (List.getD (gr n X m X') (i:Int).toNat (0:Int) + List.getD (gr n X m X') ((i:Int) + 1).toNat (0:Int)) (List.getD (gr n Y m Y') (i_1:Int).toNat (0:Int) + List.getD (gr n Y m Y') ((i_1:Int) + 1).toNat (0:Int)) = true), ri (midF m X' Y' (List.getD (gr n X m X') (i:Int).toNat (0:Int) + List.getD (gr n X m X') ((i:Int) + 1).toNat (0:Int)) (List.getD (gr n Y m Y') (i_1:Int).toNat (0:Int) + List.getD (gr n Y m Y') ((i_1:Int) + 1).toNat (0:Int)) = true), midF m X' Y' (List.getD (gr n X m X') (i:Int).toNat (0:Int) + List.getD (gr n X m X') ((i:Int) + 1).toNat (0:Int)) (List.getD (gr n Y m Y') (i_1:Int).toNat (0:Int) + List.getD (gr n Y m Y') ((i_1:Int) + 1).toNat (0:Int)) = true → (0:Int) ≤ (i_1:Int) + 1 ∧ (i_1:Int) + 1 < (↑(List.length (gr n Y m Y')) : Int), midF m X' Y' (List.getD (gr n X m X') (i:Int).toNat (0:Int) + List.getD (gr n X m X') ((i:Int) + 1).toNat (0:Int)) (List.getD (gr n Y m Y') (Int.toNat
     (i_1:Int)) (0:Int) + List.getD (gr n Y m Y') ((i_1:Int) + 1).toNat (0:Int)) = true → midF m X' Y' (List.getD (gr n X m X') (i:Int).toNat (0:Int) + List.getD (gr n X m X') ((i:Int) + 1).toNat (0:Int)) (List.getD (gr n Y m Y') (i_1:Int).toNat (0:Int) + List.getD (gr n Y m Y') ((i_1:Int) + 1).toNat (0:Int)) = true, ri (midF m X' Y' (List.getD (gr n X m X') (i:Int).toNat (0:Int) + List.getD (gr n X m X') ((i:Int) + 1).toNat (0:Int)) (List.getD (gr n Y m Y') (i_1:Int).toNat (0:Int) + List.getD (gr n Y m Y') ((i_1:Int) + 1).toNat (0:Int)) = true), ri (midF m X' Y' (List.getD (gr n X m X') (i:Int).toNat (0:Int) + List.getD (gr n X m X') ((i:Int) + 1).toNat (0:Int)) (List.getD (gr n Y m Y') (i_1:Int).toNat (0:Int) + List.getD (gr n Y m Y') ((i_1:Int) + 1).toNat (0:Int)) = true), ri (midF m X' Y' (List.getD (gr n X m X') (i:Int).toNat (0:Int) + List.getD (gr n X m X') ((i:Int) + 1).toNat (0:Int)) (List.getD (gr n Y m Y') (i_1:Int).toNat (0:Int) + List.getD (gr n Y m Y') ((i_1:Int) + 1).toNat (0:Int)) = true), ri (midF m X' Y' (List.getD (gr n X m X') (i:Int).toNat (0:Int) + List.getD (gr n X m X') ((i:Int) + 1).toNat (0:Int)) (List.getD (gr n Y m Y') (i_1:Int).toNat (0:Int) + List.getD (gr n Y m Y') ((i_1:Int) + 1).toNat (0:Int)) = true), ri (midF m X' Y' (List.getD (gr n X m X') (i:Int).toNat (0:Int) + List.getD (gr n X m X') ((i:Int) + 1).toNat (0:Int)) (List.getD (gr n Y m Y') (i_1:Int).toNat (0:Int) + List.getD (gr n Y m Y') ((i_1:Int) + 1).toNat (0:Int)) = true), midF m X' Y' (List.getD (gr n X m X') (i:Int).toNat (0:Int) + List.getD (gr n X m X') ((i:Int) + 1).toNat (0:Int)) (List.getD (gr n Y m Y') (i_1:Int).toNat (0:Int) + List.getD (gr n Y m Y') ((i_1:Int) + 1).toNat (0:Int)) = true → FnC prog 39 [DV.lst n [fun (i : Nat) => DV.val (Value.int IntKind.i64 (X i)), fun (i : Nat) => DV.val (Value.int IntKind.i64 (Y i))], DV.val (Value.int IntKind.i64 (List.getD (gr n X m X') (i:Int).toNat (0:Int))), DV.val (Value.int IntKind.i64 (List.getD (gr n X m X') ((i:Int) + 1).toNat (0:Int))), DV.val (Value.int IntKind.i64 (List.getD (gr n Y m Y') (Int.toNat
     (i_1:Int)) (0:Int))), DV.val (Value.int IntKind.i64 (List.getD (gr n Y m Y') ((i_1:Int) + 1).toNat (0:Int)))] (DV.val (Value.bool (midF n X Y (List.getD (gr n X m X') (i:Int).toNat (0:Int) + List.getD (gr n X m X') ((i:Int) + 1).toNat (0:Int)) (List.getD (gr n Y m Y') (i_1:Int).toNat (0:Int) + List.getD (gr n Y m Y') ((i_1:Int) + 1).toNat (0:Int))))), ri (midF m X' Y' (List.getD (gr n X m X') (i:Int).toNat (0:Int) + List.getD (gr n X m X') ((i:Int) + 1).toNat (0:Int)) (List.getD (gr n Y m Y') (i_1:Int).toNat (0:Int) + List.getD (gr n Y m Y') ((i_1:Int) + 1).toNat (0:Int)) = true), ri (midF m X' Y' (List.getD (gr n X m X') (i:Int).toNat (0:Int) + List.getD (gr n X m X') ((i:Int) + 1).toNat (0:Int)) (List.getD (gr n Y m Y') (i_1:Int).toNat (0:Int) + List.getD (gr n Y m Y') ((i_1:Int) + 1).toNat (0:Int)) = true)] (VT.ite (if midF m X' Y' (List.getD (gr n X m X') (i:Int).toNat (0:Int) + List.getD (gr n X m X') ((i:Int) + 1).toNat (0:Int)) (List.getD (gr n Y m Y') (i_1:Int).toNat (0:Int) + List.getD (gr n Y m Y') ((i_1:Int) + 1).toNat (0:Int)) = true then !midF n X Y (List.getD (gr n X m X') (i:Int).toNat (0:Int) + List.getD (gr n X m X')
     ((i:Int) + 1).toNat (0:Int)) (List.getD (gr n Y m Y') (i_1:Int).toNat (0:Int) + List.getD (gr n Y m Y') ((i_1:Int) + 1).toNat (0:Int)) else false) (VT.done [false = covF n X Y m X' Y']) (VT.need [i64In ((i_1:Int) + 1)] (VT.done [(i_1:Int) + 1 = (↑((i_1:Int) + 1).toNat : Int), n = n, ∀ i < n, X i = X i, ∀ i < n, Y i = Y i, m = m, ∀ i < m, X' i = X' i, ∀ i < m, Y' i = Y' i, List.length (gr n X m X') = List.length (gr n X m X'), ∀ i < List.length (gr n X m X'), List.getD (gr n X m X') i (0:Int) = List.getD (gr n X m X') i (0:Int), List.length (gr n Y m Y') = List.length (gr n Y m Y'), ∀ i < List.length (gr n Y m Y'), List.getD (gr n Y m Y') i (0:Int) = List.getD (gr n Y m Y') i (0:Int), (i:Int) = (i:Int), Int.toNat ((i_1:Int) + 1) ≤ List.length (gr n Y m Y') - 1 ∧ ∀ (c : Nat), c < (List.length (gr n Y m Y') - 1) * Int.toNat (i:Int) + ((i_1:Int) + 1).toNat → badC n X Y m X' Y' c = false, List.length (gr n Y m Y') - ((i_1:Int) + 1).toNat < List.length (gr n Y m Y') - i_1])))) (VT.need [i64In ((i:Int) + 1)] (VT.done [(i:Int) + 1 = (↑((i:Int) + 1).toNat : Int), n = n, ∀ i < n, X i = X i, ∀ i < n, Y i = Y i, m = m, ∀ i < m, X' i = X' i, ∀ i < m, Y' i = Y' i, List.length (gr n X m X') = List.length (gr n X m X'), ∀ i < List.length (gr n X m X'), List.getD (gr n X m X') i (0:Int) = List.getD (gr n X m X') i (0:Int), List.length (gr n Y m Y') = List.length (gr n Y m Y'), ∀ i < List.length (gr n Y m Y'), List.getD (gr n Y m Y') i (0:Int) = List.getD (gr n Y m Y') i (0:Int), Int.toNat ((i:Int) + 1) ≤ List.length (gr n X m X') - 1 ∧ ∀ (c : Nat), c < (List.length (gr n Y m Y') - 1) * Int.toNat ((i:Int) +
     (1:Int)) → badC n X Y m X' Y' c = false, List.length (gr n X m X') - ((i:Int) + 1).toNat < List.length (gr n X m X') - i])))) (VT.done [true = covF n X Y m X' Y'])))) (by kernel_rfl) ?_
  simp only [VT.holds, AllT, Sq]
  have hn := chk_n h
  have hn' := chk_n h'
  obtain ⟨hX, hY⟩ := chk_inB h
  obtain ⟨hX', hY'⟩ := chk_inB h'
  have lx := gr_len n X m X'
  have ly := gr_len n Y m Y'
  have bx := gr_mem n X m X' 1000000 hX hX'
  have by_ := gr_mem n Y m Y' 1000000 hY hY'
  have g1 := gridL_c false n X Y m X' Y' (by omega) (by omega)
  have g2 := gridL_c true n X Y m X' Y' (by omega) (by omega)
  simp only [pair_eq]
  refine ⟨⟨Nat.le_refl _, g1, Nat.le_refl _, g2⟩, rfl, ⟨Nat.zero_le _, fun c hc => absurd hc (by simp)⟩, fun i ⟨hi, hb⟩ => ⟨by unfold i64In; omega, fun hlt => ⟨rfl, ⟨Nat.zero_le _, hb⟩, fun k ⟨hk, hb2⟩ => ⟨by unfold i64In; omega, fun hlt2 => ?_, fun hge => ?_⟩⟩, fun hge => ?_⟩⟩
  · have c1 := bx i (by omega)
    have c2 := bx (i + 1) (by omega)
    have c3 := by_ k (by omega)
    have c4 := by_ (k + 1) (by omega)
    have e1 := midF_has h' (gr_gap (n := n) (X := X) (m := m) (X' := X') (i := i) (by omega)).2 (gr_gap (n := n) (X := Y) (m := m) (X' := Y') (i := k) (by omega)).2
    have e2 := midF_has h (gr_gap (n := n) (X := X) (m := m) (X' := X') (i := i) (by omega)).1 (gr_gap (n := n) (X := Y) (m := m) (X' := Y') (i := k) (by omega)).1
    have hcell := cell_at n X Y m X' Y' (i := i) (k := k) (by omega)
    have hc0 : ((gr n Y m Y').length - 1) * i + k < cellN n X Y m X' Y' := cell_lt' (by omega) (by omega)
    have hbad : badC n X Y m X' Y' (((gr n Y m Y').length - 1) * i + k) = (midF m X' Y' ((gr n X m X').getD i 0 + (gr n X m X').getD (i + 1) 0) ((gr n Y m Y').getD k 0 + (gr n Y m Y').getD (k + 1) 0) && !midF n X Y ((gr n X m X').getD i 0 + (gr n X m X').getD (i + 1) 0) ((gr n Y m Y').getD k 0 + (gr n Y m Y').getD (k + 1) 0)) := by
      rw [badC, hcell, e1, e2]
    have m1 := middle_c m X' Y' _ _ _ _ (by omega) (by omega) hX' hY' c1 c2 c3 c4
    have m2 := middle_c n X Y _ _ _ _ (by omega) (by omega) hX hY c1 c2 c3 c4
    refine ⟨⟨⟨by omega, by omega⟩, by unfold i64In; omega, ⟨by omega, hlt⟩, ⟨by omega, by omega⟩, by unfold i64In; omega, ⟨by omega, hlt2⟩, m1, fun _ => ⟨by omega, by omega⟩, fun _ => by unfold i64In; omega, fun _ => ⟨by omega, hlt⟩, fun _ => ⟨by omega, by omega⟩, fun _ => by unfold i64In; omega, fun _ => ⟨by omega, hlt2⟩, fun _ => m2⟩, fun hx => ?_, fun hx => ⟨by unfold i64In; omega, by omega, ⟨by omega, fun c hc => ?_⟩, by omega⟩⟩
    · rw [eq_comm, covF, decide_eq_false_iff_not]
      intro hall
      have := hall _ hc0
      rw [hbad, hx.1, hx.2] at this
      cases this
    · rcases Nat.lt_or_ge c (((gr n Y m Y').length - 1) * i + k) with h5 | h5
      · exact hb2 c h5
      · rw [show c = ((gr n Y m Y').length - 1) * i + k by omega, hbad]
        generalize midF m X' Y' _ _ = p at *
        cases p with
        | false => rfl
        | true => rw [hx rfl]; rfl
  · have hk' : k = (gr n Y m Y').length - 1 := by omega
    refine ⟨by unfold i64In; omega, by omega, ⟨by omega, fun c hc => hb2 c ?_⟩, by omega⟩
    rw [Nat.mul_add, Nat.mul_one] at hc
    omega
  · have hi' : i = (gr n X m X').length - 1 := by omega
    rw [eq_comm, covF, decide_eq_true_eq]
    intro c hc
    exact hb c (by rw [hi']; exact hc)
end Go.Abs
end
