/- Contracts. Contracts. -/
import Derived.Test.YteennpofimiliaaGreatDoorKm
import Derived.Test.YteennpofimiliaaGreatDoorKt
section
set_option linter.unusedVariables false
set_option linter.unusedSimpArgs false
set_option maxRecDepth 100000
namespace Go.Abs
open Go
def hasB (n : Nat) (X Y : Nat → Int) (x y : Int) (i : Nat) : Bool := decide (lo n X i = hi n X i ∧ 2 * lo n X i > x ∧ 2 * lo n Y i < y ∧ y < 2 * hi n Y i)
def hasC (n : Nat) (X Y : Nat → Int) (x y : Int) : Nat → Bool
  | 0 => false
  | k + 1 => if hasB n X Y x y k = true then !(hasC n X Y x y k) else hasC n X Y x y k
def rHas : Orc := .res fun l => dB (hasC (aN l) (aX l) (aY l) (aI l 1) (aI l 2) (aN l))
abbrev numsL (l : List Int) : DV := nums l.length (fun i => l.getD i 0)
abbrev colL (l : List Int) : List (Nat → DV) := [fun i => dI (l.getD i 0)]
def rLines : Orc := .take fun l => ((linesF ((List.range (aN l)).map (aX l))).length, fun i => (linesF ((List.range (aN l)).map (aX l))).getD i 0)
def preN (N : Nat → Nat) (X : Nat → Nat → Int) (i k : Nat) : List Int := allN N X i ++ (List.range k).map (X i)
theorem preN_zero (N : Nat → Nat) (X : Nat → Nat → Int) (i : Nat) : preN N X i 0 = allN N X i := by simp [preN]
theorem preN_all (N : Nat → Nat) (X : Nat → Nat → Int) (i : Nat) : preN N X i (N i) = allN N X (i + 1) := rfl
theorem preN_len (N : Nat → Nat) (X : Nat → Nat → Int) (i k : Nat) : (preN N X i k).length = (allN N X i).length + k := by simp [preN]
theorem preN_succ (N : Nat → Nat) (X : Nat → Nat → Int) (i k : Nat) : preN N X i (k + 1) = preN N X i k ++ [X i k] := by
  simp only [preN, List.range_succ, List.map_append, List.map_cons, List.map_nil, List.append_assoc]
theorem snoc_get (l : List Int) (x : Int) (j : Nat) (h : j < l.length + 1) : (if j < l.length then l.getD j 0 else x) = (l ++ [x]).getD j 0 := by
  split
  · rename_i h1; simp [List.getElem?_append_left h1]
  · rw [show j = l.length by omega]; simp
theorem range_get (l : List Int) : (List.range l.length).map (fun i => l.getD i 0) = l := by
  apply List.ext_getElem
  · simp
  · intro i h1 h2
    simp [h2]
theorem allN_le (N : Nat → Nat) (X : Nat → Nat → Int) {i m : Nat} (h : i ≤ m) : (allN N X i).length ≤ (allN N X m).length := by
  induction m with
  | zero => rw [show i = 0 by omega]; exact Nat.le_refl _
  | succ m ih =>
    rcases Nat.lt_or_ge i (m + 1) with h1 | h1
    · have := ih (by omega)
      simp only [allN, List.length_append]; omega
    · rw [show i = m + 1 by omega]; exact Nat.le_refl _
noncomputable def A96_has_c (n : Nat) (X Y : Nat → Int) (x y : Int) : Ann := { orc := [(5, [(2, rSpan)])], loops := [(0, { ι := Nat, keep := [0, 1, 2, 12], boxes := [], ts := fun _ i => [(7, dB (hasC n X Y x y i)), (13, dI (i : Int))], inv := fun _ i => i ≤ n, mu := fun _ i => n - i, rd := fun _ σ => (iOf (σ.get 13)).toNat })], cuts := [] }
abbrev q_has_c_0 (n : Nat) (X : Nat → Int) (i : Nat) (x : Int) : Bool := decide ((2:Int) * lo n X (i:Int) > x)
abbrev q_has_c_1 (n : Nat) (Y : Nat → Int) (i : Nat) (y : Int) : Bool := decide ((2:Int) * lo n Y (i:Int) < y)
abbrev q_has_c_2 (n : Nat) (X : Nat → Int) (i : Nat) (x : Int) : Bool := if (lo n X (i:Int) == hi n X (i:Int)) = true then (q_has_c_0 n X i x) else false
abbrev q_has_c_3 (n : Nat) (X : Nat → Int) (i : Nat) (x : Int) (Y : Nat → Int) (y : Int) : Bool := if (q_has_c_2 n X i x) = true then (q_has_c_1 n Y i y) else false
theorem has_c (n : Nat) (X Y : Nat → Int) (x y : Int) (hn : 0 < n) (hn2 : n ≤ 800) (hX : inB n X) (hY : inB n Y) : FnC prog 176 [pts n X Y, dI x, dI y] (dB (hasC n X Y x y n)) := by
  refine FnC_owed hmix (A96_has_c n X Y x y) (V := .loop Nat (fun a => a ≤ n) (0:Int).toNat [false = hasC n X Y x y (0:Int).toNat, (0:Int) = (↑(0:Int).toNat : Int), n = n, ∀ i < n, X i = X i, ∀ i < n, Y i = Y i, x = x, y = y, (n:Int) = (n:Int)] fun i => .ite (decide ((i:Int) < (n:Int))) (.need [FnC prog 179 [.lst n [fun i => (dI (X i)), fun i => (dI (Y i))], (dI (i:Int))] (.tup [.val (.agg ⟨[.int .i64 (lo n X (i:Int)), .int .i64 (lo n Y (i:Int))]⟩), .val (.agg ⟨[.int .i64 (hi n X (i:Int)), .int .i64 (hi n Y (i:Int))]⟩)])] (.need [(lo n X (i:Int) == hi n X (i:Int)) = true → (lo n X (i:Int) == hi n X (i:Int)) = true, (lo n X (i:Int) == hi n X (i:Int)) = true → (lo n X (i:Int) == hi n X (i:Int)) = true, (lo n X (i:Int) == hi n X (i:Int)) = true → i64In ((2:Int) * lo n X (i:Int)), (lo n X (i:Int) == hi n X (i:Int)) = true → (lo n X (i:Int) == hi n X (i:Int)) = true, (lo n X (i:Int) == hi n X (i:Int)) = true → (lo n X (i:Int) == hi n X (i:Int)) = true, (lo n X (i:Int) == hi n X (i:Int)) = true → (lo n X (i:Int) == hi n X (i:Int)) = true, (q_has_c_2 n X i x) = true → (q_has_c_2 n X i x) = true, (q_has_c_2 n X i x) = true → (q_has_c_2 n X i x) = true, (q_has_c_2 n X i x) = true → i64In ((2:Int) * lo n Y (i:Int)), (q_has_c_2 n X i x) = true → (q_has_c_2 n X i x) = true, (q_has_c_2 n X i x) = true → (q_has_c_2 n X i x) = true, (q_has_c_2 n X i x) = true → (q_has_c_2 n X i x) = true, (q_has_c_3 n X i x Y y) = true → (q_has_c_3 n X i x Y y) = true, (q_has_c_3 n X i x Y y) = true → (q_has_c_3 n X i x Y y) = true, (q_has_c_3 n X i x Y y) = true → i64In ((2:Int) * hi n Y (i:Int)), (q_has_c_3 n X i x Y y) = true → (q_has_c_3 n X i x Y y) = true, (q_has_c_3 n X i x Y y) = true → (q_has_c_3 n X i x Y y) = true, (q_has_c_3 n X i x Y y) = true → (q_has_c_3 n X i x Y y) = true] (.ite (if (q_has_c_3 n X i x Y y) = true then decide (y < (2:Int) * hi n Y (i:Int)) else
     false) (.need [i64In ((i:Int) + (1:Int))] (.done [(!hasC n X Y x y i) = hasC n X Y x y ((i:Int) + (1:Int)).toNat, (i:Int) + (1:Int) = (↑((i:Int) + (1:Int)).toNat : Int), n = n, ∀ i < n, X i = X i, ∀ i < n, Y i = Y i, x = x, y = y, (n:Int) = (n:Int), Int.toNat ((i:Int) + (1:Int)) ≤ n, n - ((i:Int) + (1:Int)).toNat < n - i])) (.need [i64In ((i:Int) + (1:Int))] (.done [hasC n X Y x y i = hasC n X Y x y ((i:Int) + (1:Int)).toNat, (i:Int) + (1:Int) = (↑((i:Int) + (1:Int)).toNat : Int), n = n, ∀ i < n, X i = X i, ∀ i < n, Y i = Y i, x = x, y = y, (n:Int) = (n:Int), Int.toNat ((i:Int) + (1:Int)) ≤ n, n - ((i:Int) + (1:Int)).toNat < n - i]))))) (.done [hasC n X Y x y i = hasC n X Y x y n])) (by kernel_rfl) ?_
  simp only [q_has_c_0, q_has_c_1, q_has_c_2, q_has_c_3, VT.holds, AllT, Sq]
  refine ⟨⟨rfl, rfl⟩, Nat.zero_le n, fun i hi => ⟨fun hlt => ?_, fun hge => by rw [show i = n by omega]⟩⟩
  have b1 := lo_bd hn hX i
  have b2 := lo_bd hn hY i
  have b3 := hi_bd hn hY i
  refine ⟨span_c n X Y i hn (by omega) (by omega) (by omega), ⟨fun _ => by unfold i64In; omega, fun _ => by unfold i64In; omega, fun _ => by unfold i64In; omega⟩, fun h => ⟨by unfold i64In; omega, ?_, by omega, by omega, by omega⟩, fun h => ⟨by unfold i64In; omega, ?_, by omega, by omega, by omega⟩⟩
  · rw [hasC, if_pos]
    unfold hasB
    rw [decide_eq_true_eq]
    exact ⟨h.1.1.1, h.1.1.2, h.1.2, h.2⟩
  · rw [hasC, if_neg]
    unfold hasB
    rw [decide_eq_true_eq]
    rintro ⟨h1, h2, h3, h4⟩
    exact h ⟨⟨h1, h2⟩, h3⟩ h4
noncomputable def A95_cells_c (m : Nat) (N : Nat → Nat) (X Y : Nat → Nat → Int) : Ann := { orc := [(11, [(1, rLines), (3, rLines)])], loops := [(0, { ι := Nat, keep := [11, 12], boxes := [], ts := fun _ i => [(13, dI (i : Int))], rw := fun _ i => [(3, 1, (allN N X i).length, colL (allN N X i)), (4, 1, (allN N Y i).length, colL (allN N Y i))], inv := fun _ i => i ≤ m, mu := fun _ i => m - i, rd := fun _ σ => (iOf (σ.get 13)).toNat }), (2, { ι := Nat, keep := [11, 12, 13, 17, 18], boxes := [], ts := fun _ k => [(19, dI (k : Int))], rw := fun σ k => [(3, 1, (preN N X (iOf (σ.get 13)).toNat k).length, colL (preN N X (iOf (σ.get 13)).toNat k)), (4, 1, (preN N Y (iOf (σ.get 13)).toNat k).length, colL (preN N Y (iOf (σ.get 13)).toNat k))], inv := fun σ k => k ≤ N (iOf (σ.get 13)).toNat, mu := fun σ k => N (iOf (σ.get 13)).toNat - k, rd := fun _ σ => (iOf (σ.get 19)).toNat })], cuts := [] }
theorem cells_c (m : Nat) (N : Nat → Nat) (X Y : Nat → Nat → Int) (hm : m ≤ 1000000) (hb : (allN N X m).length ≤ 1000000) : FnC prog 175 [.lst m [fun i => pts (N i) (X i) (Y i)]] (.clo 187 [.cptr [numsL (linesF (allN N X m))], .cptr [numsL (linesF (allN N Y m))]]) := by
  refine FnC_owed hmix (A95_cells_c m N X Y) (V := .loop Nat (fun a => a ≤ m) (0:Int).toNat [(0:Int) = (↑(0:Int).toNat : Int), (0:Nat) = (0:Nat), nat_lit 0 = (0:Nat), (0:Nat) = (0:Nat), nat_lit 0 = (0:Nat), m = m, ∀ i < m, N i = N i ∧ (∀ i_1 < N i, X i i_1 = X i i_1) ∧ ∀ i_1 < N i, Y i i_1 = Y i i_1, (m:Int) = (m:Int), nat_lit 0 = (0:Nat), nat_lit 0 = (0:Nat)] fun i => .ite (decide ((i:Int) < (m:Int))) (.need [(0:Int) ≤ (i:Int) ∧ (i:Int) < (m:Int)] (.loop Nat (fun a => a ≤ N (i:Int).toNat) (0:Int).toNat [(0:Int) = (↑(0:Int).toNat : Int), (0:Nat) = (0:Nat), List.length (allN N X i) = List.length (preN N X (i:Int).toNat (0:Int).toNat), (0:Nat) = (0:Nat), List.length (allN N Y i) = List.length (preN N Y (i:Int).toNat (0:Int).toNat), m = m, ∀ i < m, N i = N i ∧ (∀ i_1 < N i, X i i_1 = X i i_1) ∧ ∀ i_1 < N i, Y i i_1 = Y i i_1, (m:Int) = (m:Int), (i:Int) = (i:Int), N (i:Int).toNat = N (i:Int).toNat, ∀ i_1 < N (i:Int).toNat, X (i:Int).toNat i_1 = X (i:Int).toNat i_1, ∀ i_1 < N (i:Int).toNat, Y (i:Int).toNat i_1 = Y (i:Int).toNat i_1, (↑(N (i:Int).toNat) : Int) = (↑(N (i:Int).toNat) : Int), List.length (allN N X i) = List.length (preN N X (i:Int).toNat (0:Int).toNat), ∀ i_1 < List.length (preN N X (i:Int).toNat (0:Int).toNat), List.getD (allN N X i) i_1 (0:Int) = List.getD (preN N X (i:Int).toNat (0:Int).toNat) i_1 (0:Int), List.length (allN N Y i) = List.length (preN N Y (i:Int).toNat (0:Int).toNat), ∀ i_1 < List.length (preN N Y (i:Int).toNat (0:Int).toNat), List.getD (allN N Y i) i_1 (0:Int) = List.getD (preN N Y (i:Int).toNat (0:Int).toNat) i_1 (0:Int)]
     fun i_1 => .ite (decide ((i_1:Int) < (↑(N (i:Int).toNat) : Int))) (.need [(0:Int) ≤ (i_1:Int) ∧ (i_1:Int) < (↑(N (i:Int).toNat) : Int)] (.need [List.length (preN N X (i:Int).toNat i_1) ≤ List.length (preN N X (i:Int).toNat i_1), (List.length (preN N X (i:Int).toNat i_1) + (1:Nat)) * (nat_lit 7 + (1:Nat)) ≤ (140737488355328:Nat), (1:Nat) ≤ (1:Nat), List.length (preN N Y (i:Int).toNat i_1) ≤ List.length (preN N Y (i:Int).toNat i_1), (List.length (preN N Y (i:Int).toNat i_1) + (1:Nat)) * (nat_lit 7 + (1:Nat)) ≤ (140737488355328:Nat), (1:Nat) ≤ (1:Nat)] (.need [i64In ((i_1:Int) + (1:Int))] (.done [(i_1:Int) + (1:Int) = (↑((i_1:Int) + (1:Int)).toNat : Int), (0:Nat) = (0:Nat), List.length (preN N X (i:Int).toNat i_1) + (1:Nat) = List.length (preN N X (i:Int).toNat ((i_1:Int) + (1:Int)).toNat), (0:Nat) = (0:Nat), List.length (preN N Y (i:Int).toNat i_1) + (1:Nat) = List.length (preN N Y (i:Int).toNat ((i_1:Int) + (1:Int)).toNat), m = m, ∀ i < m, N i = N i ∧ (∀ i_2 < N i, X i i_2 = X i i_2) ∧ ∀ i_2 < N i, Y i i_2 = Y i i_2, (m:Int) = (m:Int), (i:Int) = (i:Int), N (i:Int).toNat = N (i:Int).toNat, ∀ i_2 < N (i:Int).toNat, X (i:Int).toNat i_2 = X (i:Int).toNat i_2, ∀ i_2 < N (i:Int).toNat, Y (i:Int).toNat i_2 = Y (i:Int).toNat i_2, (↑(N (i:Int).toNat) : Int) = (↑(N (i:Int).toNat) : Int), List.length (preN N X (i:Int).toNat i_1) + (1:Nat) = List.length (preN N X (i:Int).toNat ((i_1:Int) + (1:Int)).toNat), ∀ i_2 < List.length (preN N X (i:Int).toNat ((i_1:Int) + (1:Int)).toNat), (if decide (i_2 < List.length (preN N X (i:Int).toNat i_1)) = true
     then List.getD (preN N X (i:Int).toNat i_1) i_2 (0:Int) else X (i:Int).toNat (i_1:Int).toNat) = List.getD (preN N X (i:Int).toNat ((i_1:Int) + (1:Int)).toNat) i_2 (0:Int), List.length (preN N Y (i:Int).toNat i_1) + (1:Nat) = List.length (preN N Y (i:Int).toNat ((i_1:Int) + (1:Int)).toNat), ∀ i_2 < List.length (preN N Y (i:Int).toNat ((i_1:Int) + (1:Int)).toNat), (if decide (i_2 < List.length (preN N Y (i:Int).toNat i_1)) = true then List.getD (preN N Y (i:Int).toNat i_1) i_2 (0:Int) else Y (i:Int).toNat (i_1:Int).toNat) = List.getD (preN N Y (i:Int).toNat ((i_1:Int) + (1:Int)).toNat) i_2 (0:Int), Int.toNat ((i_1:Int) + (1:Int)) ≤ N (i:Int).toNat, N (i:Int).toNat - ((i_1:Int) + (1:Int)).toNat < N (i:Int).toNat - i_1])))) (.need [i64In ((i:Int) + (1:Int))] (.done [(i:Int) + (1:Int) = (↑((i:Int) + (1:Int)).toNat : Int), (0:Nat) = (0:Nat), List.length (preN N X (i:Int).toNat i_1) = List.length (allN N X ((i:Int) + (1:Int)).toNat), (0:Nat) = (0:Nat), List.length (preN N Y (i:Int).toNat i_1) = List.length (allN N Y ((i:Int) + (1:Int)).toNat), m = m, ∀ i < m, N i = N i ∧ (∀ i_2 < N i, X i i_2 = X i i_2) ∧ ∀ i_2 < N i, Y i i_2 = Y i i_2, (m:Int) = (m:Int), List.length (preN N X (i:Int).toNat i_1) = List.length (allN N X ((i:Int) + (1:Int)).toNat), ∀ i_2 < List.length (allN N X ((i:Int) + (1:Int)).toNat), List.getD (preN N X (i:Int).toNat i_1) i_2 (0:Int) = List.getD (allN N X ((i:Int) + (1:Int)).toNat) i_2 (0:Int), List.length (preN N Y (i:Int).toNat i_1) = List.length (allN N Y ((i:Int) + (1:Int)).toNat), ∀ i_2 < List.length (allN N Y (Int.toNat
     ((i:Int) + (1:Int)))), List.getD (preN N Y (i:Int).toNat i_1) i_2 (0:Int) = List.getD (allN N Y ((i:Int) + (1:Int)).toNat) i_2 (0:Int), Int.toNat ((i:Int) + (1:Int)) ≤ m, m - ((i:Int) + (1:Int)).toNat < m - i])))) (.need [List.length (allN N X i) = List.length (allN N X i), intCol fun i_1 => (dI (List.getD (allN N X i) i_1 (0:Int))), FnK prog 186 (List.length (allN N X i)) (fun i_1 => iOfC ((dI (List.getD (allN N X i) i_1 (0:Int))))) (List.length (linesF (List.map (fun a => List.getD (allN N X i) a (0:Int)) (List.range (List.length (allN N X i)))))) fun a => List.getD (linesF (List.map (fun a => List.getD (allN N X i) a (0:Int)) (List.range (List.length (allN N X i))))) a (0:Int), List.length (allN N Y i) = List.length (allN N Y i), intCol fun i_1 => (dI (List.getD (allN N Y i) i_1 (0:Int))), FnK prog 186 (List.length (allN N Y i)) (fun i_1 => iOfC ((dI (List.getD (allN N Y i) i_1 (0:Int))))) (List.length (linesF (List.map (fun a => List.getD (allN N Y i) a (0:Int)) (List.range (List.length (allN N Y i)))))) fun a => List.getD (linesF (List.map (fun a => List.getD (allN N Y i) a (0:Int)) (List.range (List.length (allN N Y i))))) a (0:Int)] (.done [List.length (linesF (List.map (fun a => List.getD (allN N X i) a (0:Int)) (List.range (List.length (allN N X i))))) ≤ List.length (linesF (List.map (fun a => List.getD (allN N X i) a (0:Int)) (List.range (List.length (allN N X i))))), List.length (linesF (List.map (fun a => List.getD (allN N Y i) a (0:Int)) (List.range (List.length (allN N Y i))))) ≤ List.length (linesF (List.map (fun a => List.getD (allN N Y i) a (0:Int)) (List.range (List.length (allN N Y i))))), List.length (linesF (List.map (fun a => List.getD (allN N X i) a (0:Int)) (List.range (List.length (allN N X i))))) = List.length (linesF (allN N X m)), ∀ i_1 < List.length (linesF (allN N X m)), List.getD (linesF (List.map (fun a => List.getD (allN N X i) a
     (0:Int)) (List.range (List.length (allN N X i))))) i_1 (0:Int) = List.getD (linesF (allN N X m)) i_1 (0:Int), List.length (linesF (List.map (fun a => List.getD (allN N Y i) a (0:Int)) (List.range (List.length (allN N Y i))))) = List.length (linesF (allN N Y m)), ∀ i_1 < List.length (linesF (allN N Y m)), List.getD (linesF (List.map (fun a => List.getD (allN N Y i) a (0:Int)) (List.range (List.length (allN N Y i))))) i_1 (0:Int) = List.getD (linesF (allN N Y m)) i_1 (0:Int)]))) (by kernel_rfl) ?_
  simp only [VT.holds, AllT, Sq]
  have hb2 : (allN N Y m).length ≤ 1000000 := by rw [allN_len N Y X]; exact hb
  have hr : ∀ l : List Int, List.map (fun a => l.getD a 0) (List.range l.length) = l := range_get
  refine ⟨rfl, Nat.zero_le m, fun i hi => ⟨fun hlt => ⟨⟨by omega, hlt⟩, ?_, Nat.zero_le _, fun k hk => ⟨fun hk2 => ?_, fun hk2 => ?_⟩⟩, fun hge => ?_⟩⟩
  · simp only [preN_zero, implies_true, true_and, and_true]; rfl
  · have e1 := allN_le N X (show i + 1 ≤ m by omega)
    have e2 := allN_le N Y (show i + 1 ≤ m by omega)
    have e3 := preN_len N X i k
    have e4 := preN_len N Y i k
    have e5 : (allN N X (i + 1)).length = (allN N X i).length + N i := by simp [allN]
    have e6 : (allN N Y (i + 1)).length = (allN N Y i).length + N i := by simp [allN]
    have f1 : (preN N X i k).length + 1 = (preN N X i (k + 1)).length := by rw [preN_succ]; simp
    have f2 : (preN N Y i k).length + 1 = (preN N Y i (k + 1)).length := by rw [preN_succ]; simp
    have g1 : ∀ j, j < (preN N X i (k + 1)).length → (if j < (preN N X i k).length then (preN N X i k).getD j 0 else X i k) = (preN N X i (k + 1)).getD j 0 := fun j hj => by
      rw [preN_succ]; exact snoc_get _ _ j (by omega)
    have g2 : ∀ j, j < (preN N Y i (k + 1)).length → (if j < (preN N Y i k).length then (preN N Y i k).getD j 0 else Y i k) = (preN N Y i (k + 1)).getD j 0 := fun j hj => by
      rw [preN_succ]; exact snoc_get _ _ j (by omega)
    exact ⟨⟨by omega, hk2⟩, ⟨Nat.le_refl _, by omega, Nat.le_refl _, Nat.le_refl _, by omega, Nat.le_refl _⟩, by unfold i64In; omega, by omega, f1, f2, f1, g1, f2, g2, by omega, by omega⟩
  · obtain rfl : k = N i := by omega
    simp only [preN_all, implies_true, true_and, and_true]
    exact ⟨by unfold i64In; omega, by omega, by omega, by omega⟩
  · obtain rfl : i = m := by omega
    have l1 := lines_c (allN N X i).length (fun j => (allN N X i).getD j 0) hb
    have l2 := lines_c (allN N Y i).length (fun j => (allN N Y i).getD j 0) hb2
    refine ⟨⟨fun _ => trivial, l1, fun _ => trivial, l2⟩, Nat.le_refl _, Nat.le_refl _, ?_⟩
    simp only [hr, implies_true, and_true, true_and]
end Go.Abs
end
section
set_option linter.unusedVariables false
set_option linter.unusedSimpArgs false
set_option maxRecDepth 100000
namespace Go.Abs
open Go
abbrev N2 (n m : Nat) (i : Nat) : Nat := if decide (i = 0) = true then n else m
abbrev X2 (X X' : Nat → Int) (i k : Nat) : Int := if decide (i = 0) = true then X k else X' k
def gr (n : Nat) (X : Nat → Int) (m : Nat) (X' : Nat → Int) : List Int := linesF (allN (N2 n m) (X2 X X') 2)
def cellN (n : Nat) (X Y : Nat → Int) (m : Nat) (X' Y' : Nat → Int) : Nat := ((gr n Y m Y').length - 1) * ((gr n X m X').length - 1)
def cellM (n : Nat) (X Y : Nat → Int) (m : Nat) (X' Y' : Nat → Int) (k : Nat) : Int × Int := mid ((gr n Y m Y').length - 1) (fun i => (gr n X m X').getD i 0) (fun i => (gr n Y m Y').getD i 0) k
def badC (n : Nat) (X Y : Nat → Int) (m : Nat) (X' Y' : Nat → Int) (k : Nat) : Bool := hasC m X' Y' (cellM n X Y m X' Y' k).1 (cellM n X Y m X' Y' k).2 m && !hasC n X Y (cellM n X Y m X' Y' k).1 (cellM n X Y m X' Y' k).2 n
def metC (n : Nat) (X Y : Nat → Int) (m : Nat) (X' Y' : Nat → Int) (k : Nat) : Bool := hasC m X' Y' (cellM n X Y m X' Y' k).1 (cellM n X Y m X' Y' k).2 m && hasC n X Y (cellM n X Y m X' Y' k).1 (cellM n X Y m X' Y' k).2 n
def covF (n : Nat) (X Y : Nat → Int) (m : Nat) (X' Y' : Nat → Int) : Bool := decide (∀ k, k < cellN n X Y m X' Y' → badC n X Y m X' Y' k = false)
def metF (n : Nat) (X Y : Nat → Int) (m : Nat) (X' Y' : Nat → Int) : Bool := !decide (∀ k, k < cellN n X Y m X' Y' → metC n X Y m X' Y' k = false)
def rCov : Orc := .res fun l => dB (covF (aN l) (aX l) (aY l) (lenOf (arg l 1)) (colI 0 (arg l 1)) (colI 1 (arg l 1)))
abbrev rCells (n : Nat) (X Y : Nat → Int) (m : Nat) (X' Y' : Nat → Int) : Orc := .res fun _ => .clo 187 [.cptr [numsL (gr n X m X')], .cptr [numsL (gr n Y m Y')]]
theorem gr_mem (n : Nat) (X : Nat → Int) (m : Nat) (X' : Nat → Int) (b : Int) (hX : ∀ k, k < n → -b ≤ X k ∧ X k ≤ b) (hX' : ∀ k, k < m → -b ≤ X' k ∧ X' k ≤ b) : ∀ i, i < (gr n X m X').length → -b ≤ (gr n X m X').getD i 0 ∧ (gr n X m X').getD i 0 ≤ b := fun i hi => by
  have h1 := ((linesF_asc (allN (N2 n m) (X2 X X') 2)).2 _).1 (getD_mem hi)
  refine allN_bd (m := 2) (fun i hi k hk => ?_) _ h1
  match i, hi with
  | 0, _ => exact hX k hk
  | 1, _ => exact hX' k hk
theorem gr_len (n : Nat) (X : Nat → Int) (m : Nat) (X' : Nat → Int) : (gr n X m X').length ≤ n + m := by
  have h := linesF_len (allN (N2 n m) (X2 X X') 2)
  simpa [gr, allN, N2] using h
theorem grid_seq (n : Nat) (X Y : Nat → Int) (m : Nat) (X' Y' : Nat → Int) (hn2 : n ≤ 800) (hX : inB n X) (hY : inB n Y) (hm2 : m ≤ 800) (hX' : inB m X') (hY' : inB m Y') :
    SeqC prog 187 [.cptr [numsL (gr n X m X')], .cptr [numsL (gr n Y m Y')]] (cellN n X Y m X' Y') fun k => [.int .i64 (cellM n X Y m X' Y' k).1, .int .i64 (cellM n X Y m X' Y' k).2] := by
  have l1 := gr_len n X m X'
  have l2 := gr_len n Y m Y'
  refine cells_seq _ _ _ _ (by omega) (by omega) (fun i hi => ?_) (fun i hi => ?_)
  · have := gr_mem n X m X' 1000000 hX hX' i hi; omega
  · have := gr_mem n Y m Y' 1000000 hY hY' i hi; omega
theorem grid_c (n : Nat) (X Y : Nat → Int) (m : Nat) (X' Y' : Nat → Int) (hn2 : n ≤ 800) (hm2 : m ≤ 800) :
    FnC prog 175 [.lst 2 [fun i => pts (N2 n m i) (X2 X X' i) (X2 Y Y' i)]] (.clo 187 [.cptr [numsL (gr n X m X')], .cptr [numsL (gr n Y m Y')]]) :=
  cells_c 2 (N2 n m) (X2 X X') (X2 Y Y') (by omega) (by simp [allN, N2]; omega)
theorem pair_eq (n : Nat) (X Y : Nat → Int) (m : Nat) (X' Y' : Nat → Int) : (DV.lst 2 [fun i => DV.lst (if i = 0 then n else m) [fun k => DV.val (Value.int .i64 (if i = 0 then X k else X' k)), fun k => DV.val (Value.int .i64 (if i = 0 then Y k else Y' k))]]) = .lst 2 [fun i => pts (N2 n m i) (X2 X X' i) (X2 Y Y' i)] := by
  congr 2
  funext i
  by_cases h : i = 0
  · subst h; rfl
  · have hd : decide (i = 0) = false := by simp [h]
    have e1 : N2 n m i = m := by unfold N2; rw [hd]; rfl
    have e2 : X2 X X' i = X' := by funext k; unfold X2; rw [hd]; rfl
    have e3 : X2 Y Y' i = Y' := by funext k; unfold X2; rw [hd]; rfl
    rw [e1, e2, e3]
    simp only [if_neg h]
noncomputable def A77_covers_c (n : Nat) (X Y : Nat → Int) (m : Nat) (X' Y' : Nat → Int) : Ann := { orc := [(1, [(3, rCells n X Y m X' Y')]), (4, [(3, rHas), (8, rHas)])], loops := [], cuts := [], rngs := [(0, { N := cellN n X Y m X' Y', enc := fun k => [.int .i64 (cellM n X Y m X' Y' k).1, .int .i64 (cellM n X Y m X' Y' k).2], keep := [2, 3, 4, 10], boxes := [2, 3, 4], bx := fun _ _ => [], inv := fun _ pre => ∀ k ∈ pre, badC n X Y m X' Y' k = false })] }
abbrev covers_cr0 (n : Nat) (X : Nat → Int) (Y : Nat → Int) (m : Nat) (X' : Nat → Int) (Y' : Nat → Int) (r : List Prop) : List Prop := (List.length (gr n X m X') = List.length (gr n X m X')) :: (∀ i < List.length (gr n X m X'), List.getD (gr n X m X') i (0:Int) = List.getD (gr n X m X') i (0:Int)) :: (List.length (gr n Y m Y') = List.length (gr n Y m Y')) :: (∀ i < List.length (gr n Y m Y'), List.getD (gr n Y m Y') i (0:Int) = List.getD (gr n Y m Y') i (0:Int)) :: (n = n) :: (∀ i < n, X i = X i) :: (∀ i < n, Y i = Y i) :: (m = m) :: (∀ i < m, X' i = X' i) :: (∀ i < m, Y' i = Y' i) :: (false = false) :: r
theorem covers_c (n : Nat) (X Y : Nat → Int) (m : Nat) (X' Y' : Nat → Int) (hn : 0 < n) (hn2 : n ≤ 800) (hX : inB n X) (hY : inB n Y) (hm : 0 < m) (hm2 : m ≤ 800) (hX' : inB m X') (hY' : inB m Y') : FnC prog 146 [pts n X Y, pts m X' Y'] (dB (covF n X Y m X' Y')) := by
  refine FnC_owed hmix (A77_covers_c n X Y m X' Y') (V := VT.need [(2:Nat) ≤ (2:Nat), FnC prog 175 [DV.lst (2:Nat) [fun (i : Nat) => DV.lst (if decide (i = (0:Nat)) = true then n else m) [fun (i_1 : Nat) => DV.val (Value.int IntKind.i64 (if decide (i = (0:Nat)) = true then X i_1 else X' i_1)), fun (i_1 : Nat) => DV.val (Value.int IntKind.i64 (if decide (i = (0:Nat)) = true then Y i_1 else Y' i_1))]]] (DV.clo (187 : FuncId) [DV.cptr [DV.lst (List.length (gr n X m X')) [fun (i : Nat) => DV.val (Value.int IntKind.i64 (List.getD (gr n X m X') i (0:Int)))]], DV.cptr [DV.lst (List.length (gr n Y m Y')) [fun (i : Nat) => DV.val (Value.int IntKind.i64 (List.getD (gr n Y m Y') i (0:Int)))]]])] (VT.need ((SeqC prog (187 : FuncId) [DV.cptr [DV.lst (List.length (gr n X m X')) [fun (i : Nat) => DV.val (Value.int IntKind.i64 (List.getD (gr n X m X') i (0:Int)))]], DV.cptr [DV.lst (List.length (gr n Y m Y')) [fun (i : Nat) => DV.val (Value.int IntKind.i64 (List.getD (gr n Y m Y') i (0:Int)))]]] (cellN n X Y m X' Y') fun (k : Nat) => [Value.int IntKind.i64 (cellM n X Y m X' Y' k).fst, Value.int IntKind.i64 (cellM n X Y m X' Y' k).snd]) :: ((∀ (k : Nat), k < cellN n X Y m X' Y' → List.length [Value.int IntKind.i64 (cellM n X Y m X' Y' k).fst, Value.int IntKind.i64 (cellM n X Y m X' Y' k).snd] = Array.size #[(11:Nat), (12:Nat)]) :: (covers_cr0 n X Y m X' Y' [∀ (k : Nat), k ∈ [] → badC n X Y m X' Y' k = false]))) (VT.cut (List Nat × Nat) (fun (q : List Nat × Nat) => (∀ (k : Nat), k ∈ q.fst → badC n X Y m X' Y' k = false) ∧ q.snd < cellN n X Y m X' Y' ∧ List.length q.fst < cellN n X Y m X' Y' ∧ ∀ (y : Nat), y ∈ q.fst → y < cellN n X Y m X' Y') (VT.cut Unit (fun (u : Unit) => ∀ (k : Nat), k ∈ List.range (cellN n X Y m X' Y') → badC n X Y m X' Y' k = false) (VT.done []) fun (u : Unit) => VT.done [true = covF n X Y m X' Y']) fun (q : List Nat × Nat) => VT.need [FnC prog 176 [DV.lst m [fun (i : Nat) => DV.val (Value.int IntKind.i64 (X' i)), fun (i : Nat) => DV.val (Value.int IntKind.i64 (Y' i))], DV.val
     (Value.int IntKind.i64 (cellM n X Y m X' Y' q.snd).fst), DV.val (Value.int IntKind.i64 (cellM n X Y m X' Y' q.snd).snd)] (DV.val (Value.bool (hasC m X' Y' (cellM n X Y m X' Y' q.snd).fst (cellM n X Y m X' Y' q.snd).snd m))), hasC m X' Y' (cellM n X Y m X' Y' q.snd).fst (cellM n X Y m X' Y' q.snd).snd m = true → hasC m X' Y' (cellM n X Y m X' Y' q.snd).fst (cellM n X Y m X' Y' q.snd).snd m = true, hasC m X' Y' (cellM n X Y m X' Y' q.snd).fst (cellM n X Y m X' Y' q.snd).snd m = true → hasC m X' Y' (cellM n X Y m X' Y' q.snd).fst (cellM n X Y m X' Y' q.snd).snd m = true, hasC m X' Y' (cellM n X Y m X' Y' q.snd).fst (cellM n X Y m X' Y' q.snd).snd m = true → hasC m X' Y' (cellM n X Y m X' Y' q.snd).fst (cellM n X Y m X' Y' q.snd).snd m = true, hasC m X' Y' (cellM n X Y m X' Y' q.snd).fst (cellM n X Y m X' Y' q.snd).snd m = true → FnC prog 176 [DV.lst n [fun (i : Nat) => DV.val (Value.int IntKind.i64 (X i)), fun (i : Nat) => DV.val (Value.int IntKind.i64 (Y i))], DV.val (Value.int IntKind.i64 (cellM n X Y m X' Y' q.snd).fst), DV.val (Value.int IntKind.i64 (cellM n X Y m X' Y' q.snd).snd)] (DV.val (Value.bool (hasC n X Y (cellM n X Y m X' Y' q.snd).fst (cellM n X Y m X' Y' q.snd).snd n))), hasC m X' Y' (cellM n X Y m X' Y' q.snd).fst (cellM n X Y m X' Y' q.snd).snd m = true → hasC m X' Y' (cellM n X Y m X' Y' q.snd).fst (cellM n X Y m X' Y' q.snd).snd m = true, hasC m X' Y' (cellM n X Y m X' Y' q.snd).fst (cellM n X Y m X' Y' q.snd).snd m = true → hasC m X' Y' (cellM n X Y m X' Y' q.snd).fst (cellM n X Y m X' Y' q.snd).snd m = true] (VT.ite (if hasC m X' Y' (cellM n X Y m X' Y' q.snd).fst (cellM n X Y m X' Y' q.snd).snd m = true then !hasC n X Y (cellM n X Y m X' Y' q.snd).fst (cellM n X Y m X' Y' q.snd).snd n else false) (VT.done [false = covF n X Y m X' Y']) (VT.done (covers_cr0 n X Y m X' Y' [∀ (k : Nat), k ∈ q.fst ++ [q.snd] → badC n X Y m X' Y' k = false])))))) (by kernel_rfl) ?_
  simp only [VT.holds, AllT, covers_cr0, Sq]
  rw [pair_eq]
  refine ⟨⟨Nat.le_refl _, grid_c n X Y m X' Y' hn2 hm2⟩, ⟨grid_seq n X Y m X' Y' hn2 hX hY hm2 hX' hY', fun _ _ => rfl, fun k hk => by cases hk⟩, fun _ h => ?_, fun i ⟨h1, h2, h3, h4⟩ => ⟨⟨has_c m X' Y' _ _ hm hm2 hX' hY', fun _ => has_c n X Y _ _ hn hn2 hX hY⟩, fun h => ?_, fun h k hk => ?_⟩⟩
  · rw [eq_comm, covF, decide_eq_true_eq]
    exact fun k hk => h k (List.mem_range.2 hk)
  · rw [eq_comm, covF, decide_eq_false_iff_not]
    intro hall
    have := hall i.2 h2
    simp [badC, h.1, h.2] at this
  · rcases List.mem_append.1 hk with hk | hk
    · exact h1 k hk
    · rw [List.mem_singleton.1 hk, badC]
      cases ha : hasC m X' Y' (cellM n X Y m X' Y' i.2).1 (cellM n X Y m X' Y' i.2).2 m with
      | false => rfl
      | true => rw [h ha]; rfl
noncomputable def A98_meets_c (n : Nat) (X Y : Nat → Int) (m : Nat) (X' Y' : Nat → Int) : Ann := { orc := [(1, [(3, rCells n X Y m X' Y')]), (4, [(3, rHas), (8, rHas)])], loops := [], cuts := [], rngs := [(0, { N := cellN n X Y m X' Y', enc := fun k => [.int .i64 (cellM n X Y m X' Y' k).1, .int .i64 (cellM n X Y m X' Y' k).2], keep := [2, 3, 4, 10], boxes := [2, 3, 4], bx := fun _ _ => [], inv := fun _ pre => ∀ k ∈ pre, metC n X Y m X' Y' k = false })] }
abbrev meets_cr0 (n : Nat) (X : Nat → Int) (Y : Nat → Int) (m : Nat) (X' : Nat → Int) (Y' : Nat → Int) (r : List Prop) : List Prop := (List.length (gr n X m X') = List.length (gr n X m X')) :: (∀ i < List.length (gr n X m X'), List.getD (gr n X m X') i (0:Int) = List.getD (gr n X m X') i (0:Int)) :: (List.length (gr n Y m Y') = List.length (gr n Y m Y')) :: (∀ i < List.length (gr n Y m Y'), List.getD (gr n Y m Y') i (0:Int) = List.getD (gr n Y m Y') i (0:Int)) :: (n = n) :: (∀ i < n, X i = X i) :: (∀ i < n, Y i = Y i) :: (m = m) :: (∀ i < m, X' i = X' i) :: (∀ i < m, Y' i = Y' i) :: (false = false) :: r
theorem meets_c (n : Nat) (X Y : Nat → Int) (m : Nat) (X' Y' : Nat → Int) (hn : 0 < n) (hn2 : n ≤ 800) (hX : inB n X) (hY : inB n Y) (hm : 0 < m) (hm2 : m ≤ 800) (hX' : inB m X') (hY' : inB m Y') : FnC prog 149 [pts n X Y, pts m X' Y'] (dB (metF n X Y m X' Y')) := by
  refine FnC_owed hmix (A98_meets_c n X Y m X' Y') (V := VT.need [(2:Nat) ≤ (2:Nat), FnC prog 175 [DV.lst (2:Nat) [fun (i : Nat) => DV.lst (if decide (i = (0:Nat)) = true then n else m) [fun (i_1 : Nat) => DV.val (Value.int IntKind.i64 (if decide (i = (0:Nat)) = true then X i_1 else X' i_1)), fun (i_1 : Nat) => DV.val (Value.int IntKind.i64 (if decide (i = (0:Nat)) = true then Y i_1 else Y' i_1))]]] (DV.clo (187 : FuncId) [DV.cptr [DV.lst (List.length (gr n X m X')) [fun (i : Nat) => DV.val (Value.int IntKind.i64 (List.getD (gr n X m X') i (0:Int)))]], DV.cptr [DV.lst (List.length (gr n Y m Y')) [fun (i : Nat) => DV.val (Value.int IntKind.i64 (List.getD (gr n Y m Y') i (0:Int)))]]])] (VT.need ((SeqC prog (187 : FuncId) [DV.cptr [DV.lst (List.length (gr n X m X')) [fun (i : Nat) => DV.val (Value.int IntKind.i64 (List.getD (gr n X m X') i (0:Int)))]], DV.cptr [DV.lst (List.length (gr n Y m Y')) [fun (i : Nat) => DV.val (Value.int IntKind.i64 (List.getD (gr n Y m Y') i (0:Int)))]]] (cellN n X Y m X' Y') fun (k : Nat) => [Value.int IntKind.i64 (cellM n X Y m X' Y' k).fst, Value.int IntKind.i64 (cellM n X Y m X' Y' k).snd]) :: ((∀ (k : Nat), k < cellN n X Y m X' Y' → List.length [Value.int IntKind.i64 (cellM n X Y m X' Y' k).fst, Value.int IntKind.i64 (cellM n X Y m X' Y' k).snd] = Array.size #[(11:Nat), (12:Nat)]) :: (meets_cr0 n X Y m X' Y' [∀ (k : Nat), k ∈ [] → metC n X Y m X' Y' k = false]))) (VT.cut (List Nat × Nat) (fun (q : List Nat × Nat) => (∀ (k : Nat), k ∈ q.fst → metC n X Y m X' Y' k = false) ∧ q.snd < cellN n X Y m X' Y' ∧ List.length q.fst < cellN n X Y m X' Y' ∧ ∀ (y : Nat), y ∈ q.fst → y < cellN n X Y m X' Y') (VT.cut Unit (fun (u : Unit) => ∀ (k : Nat), k ∈ List.range (cellN n X Y m X' Y') → metC n X Y m X' Y' k = false) (VT.done []) fun (u : Unit) => VT.done [false = metF n X Y m X' Y']) fun (q : List Nat × Nat) => VT.need [FnC prog 176 [DV.lst m [fun (i : Nat) => DV.val (Value.int IntKind.i64 (X' i)), fun (i : Nat) => DV.val (Value.int IntKind.i64 (Y' i))], DV.val
     (Value.int IntKind.i64 (cellM n X Y m X' Y' q.snd).fst), DV.val (Value.int IntKind.i64 (cellM n X Y m X' Y' q.snd).snd)] (DV.val (Value.bool (hasC m X' Y' (cellM n X Y m X' Y' q.snd).fst (cellM n X Y m X' Y' q.snd).snd m))), hasC m X' Y' (cellM n X Y m X' Y' q.snd).fst (cellM n X Y m X' Y' q.snd).snd m = true → hasC m X' Y' (cellM n X Y m X' Y' q.snd).fst (cellM n X Y m X' Y' q.snd).snd m = true, hasC m X' Y' (cellM n X Y m X' Y' q.snd).fst (cellM n X Y m X' Y' q.snd).snd m = true → hasC m X' Y' (cellM n X Y m X' Y' q.snd).fst (cellM n X Y m X' Y' q.snd).snd m = true, hasC m X' Y' (cellM n X Y m X' Y' q.snd).fst (cellM n X Y m X' Y' q.snd).snd m = true → hasC m X' Y' (cellM n X Y m X' Y' q.snd).fst (cellM n X Y m X' Y' q.snd).snd m = true, hasC m X' Y' (cellM n X Y m X' Y' q.snd).fst (cellM n X Y m X' Y' q.snd).snd m = true → FnC prog 176 [DV.lst n [fun (i : Nat) => DV.val (Value.int IntKind.i64 (X i)), fun (i : Nat) => DV.val (Value.int IntKind.i64 (Y i))], DV.val (Value.int IntKind.i64 (cellM n X Y m X' Y' q.snd).fst), DV.val (Value.int IntKind.i64 (cellM n X Y m X' Y' q.snd).snd)] (DV.val (Value.bool (hasC n X Y (cellM n X Y m X' Y' q.snd).fst (cellM n X Y m X' Y' q.snd).snd n))), hasC m X' Y' (cellM n X Y m X' Y' q.snd).fst (cellM n X Y m X' Y' q.snd).snd m = true → hasC m X' Y' (cellM n X Y m X' Y' q.snd).fst (cellM n X Y m X' Y' q.snd).snd m = true] (VT.ite (if hasC m X' Y' (cellM n X Y m X' Y' q.snd).fst (cellM n X Y m X' Y' q.snd).snd m = true then hasC n X Y (cellM n X Y m X' Y' q.snd).fst (cellM n X Y m X' Y' q.snd).snd n else false) (VT.done [true = metF n X Y m X' Y']) (VT.done (meets_cr0 n X Y m X' Y' [∀ (k : Nat), k ∈ q.fst ++ [q.snd] → metC n X Y m X' Y' k = false])))))) (by kernel_rfl) ?_
  simp only [VT.holds, AllT, meets_cr0, Sq]
  rw [pair_eq]
  refine ⟨⟨Nat.le_refl _, grid_c n X Y m X' Y' hn2 hm2⟩, ⟨grid_seq n X Y m X' Y' hn2 hX hY hm2 hX' hY', fun _ _ => rfl, fun k hk => by cases hk⟩, fun _ h => ?_, fun i ⟨h1, h2, h3, h4⟩ => ⟨⟨has_c m X' Y' _ _ hm hm2 hX' hY', fun _ => has_c n X Y _ _ hn hn2 hX hY⟩, fun h => ?_, fun h k hk => ?_⟩⟩
  · rw [eq_comm, metF, Bool.not_eq_false', decide_eq_true_eq]
    exact fun k hk => h k (List.mem_range.2 hk)
  · rw [eq_comm, metF, Bool.not_eq_true', decide_eq_false_iff_not]
    intro hall
    have := hall i.2 h2
    simp [metC, h.1, h.2] at this
  · rcases List.mem_append.1 hk with hk | hk
    · exact h1 k hk
    · rw [List.mem_singleton.1 hk, metC]
      cases ha : hasC m X' Y' (cellM n X Y m X' Y' i.2).1 (cellM n X Y m X' Y' i.2).2 m with
      | false => rfl
      | true => rw [h ha]; rfl
end Go.Abs
end
