/- Contracts. -/
import Derived.Test.YtomkiggacimmaaaGreatKm
import Derived.Test.YtomkiggacimmaaaGreatKt
set_option linter.unusedVariables false
set_option linter.unusedSimpArgs false
set_option maxRecDepth 100000
namespace Go.Abs
open Go
/-- A side is right of a place in doubled coordinates; how often, by parity. -/
def hasB (n : Nat) (X Y : Nat → Int) (x y : Int) (i : Nat) : Bool := decide (lo n X i = hi n X i ∧ 2 * lo n X i > x ∧ 2 * lo n Y i < y ∧ y < 2 * hi n Y i)
def hasC (n : Nat) (X Y : Nat → Int) (x y : Int) : Nat → Bool
  | 0 => false
  | k + 1 => if hasB n X Y x y k = true then !(hasC n X Y x y k) else hasC n X Y x y k
def rHas : Orc := .res fun l => dB (hasC (aN l) (aX l) (aY l) (aI l 1) (aI l 2) (aN l))
abbrev numsL (l : List Int) : DV := nums l.length (fun i => l.getD i 0)
abbrev colL (l : List Int) : List (Nat → DV) := [fun i => dI (l.getD i 0)]
def rLines : Orc := .take fun l => ((linesF ((List.range (aN l)).map (aX l))).length, fun i => (linesF ((List.range (aN l)).map (aX l))).getD i 0)
def preN (N : Nat → Nat) (X : Nat → Nat → Int) (i k : Nat) : List Int := allN N X i ++ (List.range k).map (X i)
theorem preN_zero (N : Nat → Nat) (X : Nat → Nat → Int) (i : Nat) : preN N X i 0 = allN N X i := by simp [preN]
theorem preN_all (N : Nat → Nat) (X : Nat → Nat → Int) (i : Nat) : preN N X i (N i) = allN N X (i + 1) := rfl
theorem preN_len (N : Nat → Nat) (X : Nat → Nat → Int) (i k : Nat) : (preN N X i k).length = (allN N X i).length + k := by simp [preN]
theorem preN_succ (N : Nat → Nat) (X : Nat → Nat → Int) (i k : Nat) : preN N X i (k + 1) = preN N X i k ++ [X i k] := by
  simp only [preN, List.range_succ, List.map_append, List.map_cons, List.map_nil, List.append_assoc]
theorem snoc_get (l : List Int) (x : Int) (j : Nat) (h : j < l.length + 1) : (if j < l.length then l.getD j 0 else x) = (l ++ [x]).getD j 0 := by
  split
  · rename_i h1; simp [List.getElem?_append_left h1]
  · rw [show j = l.length by omega]; simp
theorem range_get (l : List Int) : (List.range l.length).map (fun i => l.getD i 0) = l := by
  apply List.ext_getElem
  · simp
  · intro i h1 h2
    simp [h2]
theorem allN_le (N : Nat → Nat) (X : Nat → Nat → Int) {i m : Nat} (h : i ≤ m) : (allN N X i).length ≤ (allN N X m).length := by
  induction m with
  | zero => rw [show i = 0 by omega]; exact Nat.le_refl _
  | succ m ih =>
    rcases Nat.lt_or_ge i (m + 1) with h1 | h1
    · have := ih (by omega)
      simp only [allN, List.length_append]; omega
    · rw [show i = m + 1 by omega]; exact Nat.le_refl _
noncomputable def A96_has_c (n : Nat) (X Y : Nat → Int) (x y : Int) : Ann := { orc := [(5, [(2, rSpan)])], loops := [(0, { ι := Nat, keep := [0, 1, 2, 12], boxes := [], ts := fun _ i => [(7, dB (hasC n X Y x y i)), (13, dI (i : Int))], inv := fun _ i => i ≤ n, mu := fun _ i => n - i, rd := fun _ σ => (iOf (σ.get 13)).toNat })], cuts := [] }
theorem has_c (n : Nat) (X Y : Nat → Int) (x y : Int) (hn : 0 < n) (hn2 : n ≤ 800) (hX : inB n X) (hY : inB n Y) : FnC prog 78 [pts n X Y, dI x, dI y] (dB (hasC n X Y x y n)) := by
  refine FnC_owed hmix (A96_has_c n X Y x y) (V := VT.loop Nat (fun (a : Nat) => a ≤ n) (0:Int).toNat [false = hasC n X Y x y (0:Int).toNat, (0:Int) = (↑(0:Int).toNat : Int), n = n, ∀ i < n, X i = X i, ∀ i < n, Y i = Y i, x = x, y = y, (n:Int) = (n:Int)] fun (i : Nat) => VT.ite (decide ((i:Int) < (n:Int))) (VT.need [FnC prog 43 [DV.lst n [fun (i : Nat) => DV.val (Value.int IntKind.i64 (X i)), fun (i : Nat) => DV.val (Value.int IntKind.i64 (Y i))], DV.val (Value.int IntKind.i64 (i:Int))] (DV.tup [DV.val (Value.agg { toList := [Value.int IntKind.i64 (lo n X (i:Int)), Value.int IntKind.i64 (lo n Y (i:Int))] }), DV.val (Value.agg { toList := [Value.int IntKind.i64 (hi n X (i:Int)), Value.int IntKind.i64 (hi n Y (i:Int))] })])] (VT.need [ri ((lo n X (i:Int) == hi n X (i:Int)) = true), ri ((lo n X (i:Int) == hi n X (i:Int)) = true), (lo n X (i:Int) == hi n X (i:Int)) = true → i64In ((2:Int) * lo n X (i:Int)), ri ((lo n X (i:Int) == hi n X (i:Int)) = true), ri ((lo n X (i:Int) == hi n X (i:Int)) = true), ri ((lo n X (i:Int) == hi n X (i:Int)) = true), ri ((if (lo n X (i:Int) == hi n X (i:Int)) = true then decide ((2:Int) * lo n X (i:Int) > x) else false) = true), ri ((if (lo n X (i:Int) == hi n X (i:Int)) = true then decide ((2:Int) * lo n X (i:Int) > x) else false) = true), (if (lo n X (i:Int) == hi n X (i:Int)) = true then decide ((2:Int) * lo n X (i:Int) > x) else false) = true → i64In ((2:Int) * lo n Y (↑i :
     Int)), ri ((if (lo n X (i:Int) == hi n X (i:Int)) = true then decide ((2:Int) * lo n X (i:Int) > x) else false) = true), ri ((if (lo n X (i:Int) == hi n X (i:Int)) = true then decide ((2:Int) * lo n X (i:Int) > x) else false) = true), ri ((if (lo n X (i:Int) == hi n X (i:Int)) = true then decide ((2:Int) * lo n X (i:Int) > x) else false) = true), ri ((if (if (lo n X (i:Int) == hi n X (i:Int)) = true then decide ((2:Int) * lo n X (i:Int) > x) else false) = true then decide ((2:Int) * lo n Y (i:Int) < y) else false) = true), ri ((if (if (lo n X (i:Int) == hi n X (i:Int)) = true then decide ((2:Int) * lo n X (i:Int) > x) else false) = true then decide ((2:Int) * lo n Y (i:Int) < y) else false) = true), (if (if (lo n X (i:Int) == hi n X (i:Int)) = true then decide ((2:Int) * lo n X (i:Int) > x) else false) = true then decide ((2:Int) * lo n Y (i:Int) < y) else false) = true → i64In ((2:Int) * hi n Y (i:Int)), ri ((if (if (lo n X (i:Int) == hi n X (i:Int)) = true then decide ((2:Int) * lo n X (i:Int) > x) else false) = true then decide ((2:Int) * lo n Y (i:Int) < y) else false) = true), ri ((if (if (lo n X (i:Int) == hi n X (i:Int)) = true then decide ((2:Int) * lo n X (i:Int) > x) else false) = true then decide ((2:Int) * lo n Y (i:Int) < y) else false) = true), ri ((if (if (lo n X (i:Int) == hi n X (i:Int)) = true then decide ((2:Int) * lo n X (i:Int) > x) else false) = true then decide ((2:Int) * lo n Y (i:Int) < y) else false) = true)] (VT.ite (if (if (if (lo n X (i:Int) == hi n X (i:Int)) = true then decide ((2:Int) * lo n X (i:Int) > x) else false) = true then decide ((2:Int) * lo n Y (i:Int) < y) else false) = true then decide (y < 2 * hi n Y (i:Int)) else false) (VT.need [i64In ((i:Int) + 1)] (VT.done [(!hasC n X Y x y i) = hasC n X Y x y ((i:Int) + 1).toNat, (i:Int) + 1 = (↑((i:Int) + 1).toNat : Int), n = n, ∀ i < n, X i = X i, ∀ i < n, Y i = Y i, x = x, y = y, (n:Int) = (n:Int), Int.toNat ((i:Int) + 1) ≤ n, n - ((i:Int) + 1).toNat < n - i])) (VT.need [i64In ((i:Int) + 1)] (VT.done [hasC n X Y x y i = hasC n X Y x y ((i:Int) + 1).toNat, (i:Int) + 1 = (↑((i:Int) + 1).toNat : Int), n = n, ∀ i < n, X i = X i, ∀ i < n, Y i = Y i, x = x, y = y, (n:Int) = (n:Int), Int.toNat ((i:Int) + 1) ≤ n, n - ((i:Int) + 1).toNat < n - i]))))) (VT.done [hasC n X Y x y i = hasC n X Y x y n])) (by kernel_rfl) ?_
  simp only [VT.holds, AllT, Sq]
  refine ⟨⟨rfl, rfl⟩, Nat.zero_le n, fun i hi => ⟨fun hlt => ?_, fun hge => by rw [show i = n by omega]⟩⟩
  have b1 := lo_bd hn hX i
  have b2 := lo_bd hn hY i
  have b3 := hi_bd hn hY i
  refine ⟨span_c n X Y i hn (by omega) (by omega) (by omega), ⟨fun _ => by unfold i64In; omega, fun _ => by unfold i64In; omega, fun _ => by unfold i64In; omega⟩, fun h => ⟨by unfold i64In; omega, ?_, by omega, by omega, by omega⟩, fun h => ⟨by unfold i64In; omega, ?_, by omega, by omega, by omega⟩⟩
  · rw [hasC, if_pos]
    unfold hasB
    rw [decide_eq_true_eq]
    exact ⟨h.1.1.1, h.1.1.2, h.1.2, h.2⟩
  · rw [hasC, if_neg]
    unfold hasB
    rw [decide_eq_true_eq]
    rintro ⟨h1, h2, h3, h4⟩
    exact h ⟨⟨h1, h2⟩, h3⟩ h4
noncomputable def A95_cells_c (m : Nat) (N : Nat → Nat) (X Y : Nat → Nat → Int) : Ann := { orc := [(11, [(1, rLines), (3, rLines)])], loops := [(0, { ι := Nat, keep := [11, 12], boxes := [], ts := fun _ i => [(13, dI (i : Int))], rw := fun _ i => [(3, 1, (allN N X i).length, colL (allN N X i)), (4, 1, (allN N Y i).length, colL (allN N Y i))], inv := fun _ i => i ≤ m, mu := fun _ i => m - i, rd := fun _ σ => (iOf (σ.get 13)).toNat }), (2, { ι := Nat, keep := [11, 12, 13, 17, 18], boxes := [], ts := fun _ k => [(19, dI (k : Int))], rw := fun σ k => [(3, 1, (preN N X (iOf (σ.get 13)).toNat k).length, colL (preN N X (iOf (σ.get 13)).toNat k)), (4, 1, (preN N Y (iOf (σ.get 13)).toNat k).length, colL (preN N Y (iOf (σ.get 13)).toNat k))], inv := fun σ k => k ≤ N (iOf (σ.get 13)).toNat, mu := fun σ k => N (iOf (σ.get 13)).toNat - k, rd := fun _ σ => (iOf (σ.get 19)).toNat })], cuts := [] }
theorem cells_c (m : Nat) (N : Nat → Nat) (X Y : Nat → Nat → Int) (hm : m ≤ 1000000) (hb : (allN N X m).length ≤ 1000000) : FnC prog 77 [.lst m [fun i => pts (N i) (X i) (Y i)]] (.clo 82 [.cptr [numsL (linesF (allN N X m))], .cptr [numsL (linesF (allN N Y m))]]) := by
  refine FnC_owed hmix (A95_cells_c m N X Y) (V := VT.loop Nat (fun (a : Nat) => a ≤ m) (0:Int).toNat [(0:Int) = (↑(0:Int).toNat : Int), (0:Nat) = 0, nat_lit 0 = 0, (0:Nat) = 0, nat_lit 0 = 0, m = m, ∀ i < m, N i = N i ∧ (∀ i_1 < N i, X i i_1 = X i i_1) ∧ ∀ i_1 < N i, Y i i_1 = Y i i_1, (m:Int) = (m:Int), nat_lit 0 = 0, nat_lit 0 = 0] fun (i : Nat) => VT.ite (decide ((i:Int) < (m:Int))) (VT.need [(0:Int) ≤ (i:Int) ∧ (i:Int) < (m:Int)] (VT.loop Nat (fun (a : Nat) => a ≤ N (i:Int).toNat) (0:Int).toNat [(0:Int) = (↑(0:Int).toNat : Int), (0:Nat) = 0, List.length (allN N X i) = List.length (preN N X (i:Int).toNat (0:Int).toNat), (0:Nat) = 0, List.length (allN N Y i) = List.length (preN N Y (i:Int).toNat (0:Int).toNat), m = m, ∀ i < m, N i = N i ∧ (∀ i_1 < N i, X i i_1 = X i i_1) ∧ ∀ i_1 < N i, Y i i_1 = Y i i_1, (m:Int) = (m:Int), (i:Int) = (i:Int), N (i:Int).toNat = N (i:Int).toNat, ∀ i_1 < N (i:Int).toNat, X (i:Int).toNat i_1 = X (i:Int).toNat i_1, ∀ i_1 < N (i:Int).toNat, Y (i:Int).toNat i_1 = Y (i:Int).toNat i_1, (↑(N (i:Int).toNat) : Int) = (↑(N (i:Int).toNat) : Int), List.length (allN N X i) = List.length (preN N X (i:Int).toNat (0:Int).toNat), ∀ i_1 < List.length (preN N X (i:Int).toNat (0:Int).toNat), List.getD (allN N X i) i_1 (0:Int) = List.getD (preN N X (i:Int).toNat (0:Int).toNat) i_1 (0:Int), List.length (allN N Y i) = List.length (preN N Y (i:Int).toNat (0:Int).toNat), ∀ i_1 < List.length (preN N Y (i:Int).toNat (0:Int).toNat), List.getD (allN N Y i) i_1 (0:Int) = List.getD (preN N Y (i:Int).toNat
     (0:Int).toNat) i_1 (0:Int)] fun (i_1 : Nat) => VT.ite (decide ((i_1:Int) < (↑(N (i:Int).toNat) : Int))) (VT.need [(0:Int) ≤ (i_1:Int) ∧ (i_1:Int) < (↑(N (i:Int).toNat) : Int)] (VT.need [List.length (preN N X (i:Int).toNat i_1) ≤ List.length (preN N X (i:Int).toNat i_1), (List.length (preN N X (i:Int).toNat i_1) + 1) * (nat_lit 7 + 1) ≤ 140737488355328, (1:Nat) ≤ 1, List.length (preN N Y (i:Int).toNat i_1) ≤ List.length (preN N Y (i:Int).toNat i_1), (List.length (preN N Y (i:Int).toNat i_1) + 1) * (nat_lit 7 + 1) ≤ 140737488355328, (1:Nat) ≤ 1] (VT.need [i64In ((i_1:Int) + 1)] (VT.done [(i_1:Int) + 1 = (↑((i_1:Int) + 1).toNat : Int), (0:Nat) = 0, List.length (preN N X (i:Int).toNat i_1) + 1 = List.length (preN N X (i:Int).toNat ((i_1:Int) + 1).toNat), (0:Nat) = 0, List.length (preN N Y (i:Int).toNat i_1) + 1 = List.length (preN N Y (i:Int).toNat ((i_1:Int) + 1).toNat), m = m, ∀ i < m, N i = N i ∧ (∀ i_2 < N i, X i i_2 = X i i_2) ∧ ∀ i_2 < N i, Y i i_2 = Y i i_2, (m:Int) = (m:Int), (i:Int) = (i:Int), N (i:Int).toNat = N (i:Int).toNat, ∀ i_2 < N (i:Int).toNat, X (i:Int).toNat i_2 = X (i:Int).toNat i_2, ∀ i_2 < N (i:Int).toNat, Y (i:Int).toNat i_2 = Y (i:Int).toNat i_2, (↑(N (i:Int).toNat) : Int) = (↑(N (i:Int).toNat) : Int), List.length (preN N X (i:Int).toNat i_1) + 1 = List.length (preN N X (i:Int).toNat ((i_1:Int) + 1).toNat), ∀ i_2 < List.length (preN N X (i:Int).toNat ((i_1:Int) + 1).toNat), (if decide (i_2 <
     List.length (preN N X (i:Int).toNat i_1)) = true then List.getD (preN N X (i:Int).toNat i_1) i_2 (0:Int) else X (i:Int).toNat (i_1:Int).toNat) = List.getD (preN N X (i:Int).toNat ((i_1:Int) + 1).toNat) i_2 (0:Int), List.length (preN N Y (i:Int).toNat i_1) + 1 = List.length (preN N Y (i:Int).toNat ((i_1:Int) + 1).toNat), ∀ i_2 < List.length (preN N Y (i:Int).toNat ((i_1:Int) + 1).toNat), (if decide (i_2 < List.length (preN N Y (i:Int).toNat i_1)) = true then List.getD (preN N Y (i:Int).toNat i_1) i_2 (0:Int) else Y (i:Int).toNat (i_1:Int).toNat) = List.getD (preN N Y (i:Int).toNat ((i_1:Int) + 1).toNat) i_2 (0:Int), Int.toNat ((i_1:Int) + 1) ≤ N (i:Int).toNat, N (i:Int).toNat - ((i_1:Int) + 1).toNat < N (i:Int).toNat - i_1])))) (VT.need [i64In ((i:Int) + 1)] (VT.done [(i:Int) + 1 = (↑((i:Int) + 1).toNat : Int), (0:Nat) = 0, List.length (preN N X (i:Int).toNat i_1) = List.length (allN N X ((i:Int) + 1).toNat), (0:Nat) = 0, List.length (preN N Y (i:Int).toNat i_1) = List.length (allN N Y ((i:Int) + 1).toNat), m = m, ∀ i < m, N i = N i ∧ (∀ i_2 < N i, X i i_2 = X i i_2) ∧ ∀ i_2 < N i, Y i i_2 = Y i i_2, (m:Int) = (m:Int), List.length (preN N X (i:Int).toNat i_1) = List.length (allN N X ((i:Int) + 1).toNat), ∀ i_2 < List.length (allN N X ((i:Int) + 1).toNat), List.getD (preN N X (i:Int).toNat i_1) i_2 (0:Int) = List.getD (allN N X ((i:Int) + 1).toNat) i_2 (0:Int), List.length (preN N Y (i:Int).toNat i_1) = List.length (allN N Y ((i:Int) + (1 :
     Int)).toNat), ∀ i_2 < List.length (allN N Y ((i:Int) + 1).toNat), List.getD (preN N Y (i:Int).toNat i_1) i_2 (0:Int) = List.getD (allN N Y ((i:Int) + 1).toNat) i_2 (0:Int), Int.toNat ((i:Int) + 1) ≤ m, m - ((i:Int) + 1).toNat < m - i])))) (VT.need [List.length (allN N X i) = List.length (allN N X i), intCol fun (i_1 : Nat) => DV.val (Value.int IntKind.i64 (List.getD (allN N X i) i_1 (0:Int))), FnK prog 81 (List.length (allN N X i)) (fun (i_1 : Nat) => iOfC (DV.val (Value.int IntKind.i64 (List.getD (allN N X i) i_1 (0:Int))))) (List.length (linesF (List.map (fun (a : Nat) => List.getD (allN N X i) a (0:Int)) (List.range (List.length (allN N X i)))))) fun (a : Nat) => List.getD (linesF (List.map (fun (a : Nat) => List.getD (allN N X i) a (0:Int)) (List.range (List.length (allN N X i))))) a (0:Int), List.length (allN N Y i) = List.length (allN N Y i), intCol fun (i_1 : Nat) => DV.val (Value.int IntKind.i64 (List.getD (allN N Y i) i_1 (0:Int))), FnK prog 81 (List.length (allN N Y i)) (fun (i_1 : Nat) => iOfC (DV.val (Value.int IntKind.i64 (List.getD (allN N Y i) i_1 (0:Int))))) (List.length (linesF (List.map (fun (a : Nat) => List.getD (allN N Y i) a (0:Int)) (List.range (List.length (allN N Y i)))))) fun (a : Nat) => List.getD (linesF (List.map (fun (a : Nat) => List.getD (allN N Y i) a (0:Int)) (List.range (List.length (allN N Y i))))) a (0:Int)] (VT.done [List.length (linesF (List.map (fun (a : Nat) => List.getD (allN N X i) a (0:Int)) (List.range (List.length (allN N X i))))) ≤ List.length (linesF (List.map (fun (a : Nat) => List.getD (allN N X i) a (0:Int)) (List.range (List.length (allN N X i))))), List.length (linesF (List.map (fun (a : Nat) => List.getD (allN N Y i) a (0:Int)) (List.range (List.length (allN N Y i))))) ≤ List.length (linesF (List.map (fun (a : Nat) => List.getD (allN N Y i) a (0:Int)) (List.range (List.length (allN N Y
     i))))), List.length (linesF (List.map (fun (a : Nat) => List.getD (allN N X i) a (0:Int)) (List.range (List.length (allN N X i))))) = List.length (linesF (allN N X m)), ∀ i_1 < List.length (linesF (allN N X m)), List.getD (linesF (List.map (fun (a : Nat) => List.getD (allN N X i) a (0:Int)) (List.range (List.length (allN N X i))))) i_1 (0:Int) = List.getD (linesF (allN N X m)) i_1 (0:Int), List.length (linesF (List.map (fun (a : Nat) => List.getD (allN N Y i) a (0:Int)) (List.range (List.length (allN N Y i))))) = List.length (linesF (allN N Y m)), ∀ i_1 < List.length (linesF (allN N Y m)), List.getD (linesF (List.map (fun (a : Nat) => List.getD (allN N Y i) a (0:Int)) (List.range (List.length (allN N Y i))))) i_1 (0:Int) = List.getD (linesF (allN N Y m)) i_1 (0:Int)]))) (by kernel_rfl) ?_
  simp only [VT.holds, AllT, Sq]
  have hb2 : (allN N Y m).length ≤ 1000000 := by rw [allN_len N Y X]; exact hb
  have hr : ∀ l : List Int, List.map (fun a => l.getD a 0) (List.range l.length) = l := range_get
  refine ⟨rfl, Nat.zero_le m, fun i hi => ⟨fun hlt => ⟨⟨by omega, hlt⟩, ?_, Nat.zero_le _, fun k hk => ⟨fun hk2 => ?_, fun hk2 => ?_⟩⟩, fun hge => ?_⟩⟩
  · simp only [preN_zero, implies_true, true_and, and_true]; rfl
  · have e1 := allN_le N X (show i + 1 ≤ m by omega)
    have e2 := allN_le N Y (show i + 1 ≤ m by omega)
    have e3 := preN_len N X i k
    have e4 := preN_len N Y i k
    have e5 : (allN N X (i + 1)).length = (allN N X i).length + N i := by simp [allN]
    have e6 : (allN N Y (i + 1)).length = (allN N Y i).length + N i := by simp [allN]
    have f1 : (preN N X i k).length + 1 = (preN N X i (k + 1)).length := by rw [preN_succ]; simp
    have f2 : (preN N Y i k).length + 1 = (preN N Y i (k + 1)).length := by rw [preN_succ]; simp
    have g1 : ∀ j, j < (preN N X i (k + 1)).length → (if j < (preN N X i k).length then (preN N X i k).getD j 0 else X i k) = (preN N X i (k + 1)).getD j 0 := fun j hj => by
      rw [preN_succ]; exact snoc_get _ _ j (by omega)
    have g2 : ∀ j, j < (preN N Y i (k + 1)).length → (if j < (preN N Y i k).length then (preN N Y i k).getD j 0 else Y i k) = (preN N Y i (k + 1)).getD j 0 := fun j hj => by
      rw [preN_succ]; exact snoc_get _ _ j (by omega)
    exact ⟨⟨by omega, hk2⟩, ⟨Nat.le_refl _, by omega, Nat.le_refl _, Nat.le_refl _, by omega, Nat.le_refl _⟩, by unfold i64In; omega, by omega, f1, f2, f1, g1, f2, g2, by omega, by omega⟩
  · obtain rfl : k = N i := by omega
    simp only [preN_all, implies_true, true_and, and_true]
    exact ⟨by unfold i64In; omega, by omega, by omega, by omega⟩
  · obtain rfl : i = m := by omega
    have l1 := lines_c (allN N X i).length (fun j => (allN N X i).getD j 0) hb
    have l2 := lines_c (allN N Y i).length (fun j => (allN N Y i).getD j 0) hb2
    refine ⟨⟨fun _ => trivial, l1, fun _ => trivial, l2⟩, Nat.le_refl _, Nat.le_refl _, ?_⟩
    simp only [hr, implies_true, and_true, true_and]
end Go.Abs
