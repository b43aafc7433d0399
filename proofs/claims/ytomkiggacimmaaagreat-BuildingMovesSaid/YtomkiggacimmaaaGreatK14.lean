/- Contracts. Contracts. -/
import Derived.Test.YtomkiggacimmaaaGreatK12
section
set_option linter.unusedVariables false
set_option linter.unusedSimpArgs false
set_option maxRecDepth 100000
namespace Go.Abs
open Go
abbrev N2 (n m : Nat) (i : Nat) : Nat := if decide (i = 0) = true then n else m
abbrev X2 (X X' : Nat → Int) (i k : Nat) : Int := if decide (i = 0) = true then X k else X' k
/-- The lines of a grid through the corners of two outlines, in one coordinate. -/
def gr (n : Nat) (X : Nat → Int) (m : Nat) (X' : Nat → Int) : List Int := linesF (allN (N2 n m) (X2 X X') 2)
def cellN (n : Nat) (X Y : Nat → Int) (m : Nat) (X' Y' : Nat → Int) : Nat := ((gr n Y m Y').length - 1) * ((gr n X m X').length - 1)
def cellM (n : Nat) (X Y : Nat → Int) (m : Nat) (X' Y' : Nat → Int) (k : Nat) : Int × Int := midC ((gr n Y m Y').length - 1) (fun i => (gr n X m X').getD i 0) (fun i => (gr n Y m Y').getD i 0) k
def badC (n : Nat) (X Y : Nat → Int) (m : Nat) (X' Y' : Nat → Int) (k : Nat) : Bool := hasC m X' Y' (cellM n X Y m X' Y' k).1 (cellM n X Y m X' Y' k).2 m && !hasC n X Y (cellM n X Y m X' Y' k).1 (cellM n X Y m X' Y' k).2 n
def metC (n : Nat) (X Y : Nat → Int) (m : Nat) (X' Y' : Nat → Int) (k : Nat) : Bool := hasC m X' Y' (cellM n X Y m X' Y' k).1 (cellM n X Y m X' Y' k).2 m && hasC n X Y (cellM n X Y m X' Y' k).1 (cellM n X Y m X' Y' k).2 n
/-- A region is within another one; two regions meet. -/
def covF (n : Nat) (X Y : Nat → Int) (m : Nat) (X' Y' : Nat → Int) : Bool := decide (∀ k, k < cellN n X Y m X' Y' → badC n X Y m X' Y' k = false)
def metF (n : Nat) (X Y : Nat → Int) (m : Nat) (X' Y' : Nat → Int) : Bool := !decide (∀ k, k < cellN n X Y m X' Y' → metC n X Y m X' Y' k = false)
def rCov : Orc := .res fun l => dB (covF (aN l) (aX l) (aY l) (lenOf (arg l 1)) (colI 0 (arg l 1)) (colI 1 (arg l 1)))
abbrev rCells (n : Nat) (X Y : Nat → Int) (m : Nat) (X' Y' : Nat → Int) : Orc := .res fun _ => .clo 82 [.cptr [numsL (gr n X m X')], .cptr [numsL (gr n Y m Y')]]
theorem gr_mem (n : Nat) (X : Nat → Int) (m : Nat) (X' : Nat → Int) (b : Int) (hX : ∀ k, k < n → -b ≤ X k ∧ X k ≤ b) (hX' : ∀ k, k < m → -b ≤ X' k ∧ X' k ≤ b) : ∀ i, i < (gr n X m X').length → -b ≤ (gr n X m X').getD i 0 ∧ (gr n X m X').getD i 0 ≤ b := fun i hi => by
  have h1 := ((linesF_asc (allN (N2 n m) (X2 X X') 2)).2 _).1 (getD_mem hi)
  refine allN_bd (m := 2) (fun i hi k hk => ?_) _ h1
  match i, hi with
  | 0, _ => exact hX k hk
  | 1, _ => exact hX' k hk
theorem gr_len (n : Nat) (X : Nat → Int) (m : Nat) (X' : Nat → Int) : (gr n X m X').length ≤ n + m := by
  have h := linesF_len (allN (N2 n m) (X2 X X') 2)
  simpa [gr, allN, N2] using h
theorem grid_seq (n : Nat) (X Y : Nat → Int) (m : Nat) (X' Y' : Nat → Int) (hn2 : n ≤ 800) (hX : inB n X) (hY : inB n Y) (hm2 : m ≤ 800) (hX' : inB m X') (hY' : inB m Y') :
    SeqC prog 82 [.cptr [numsL (gr n X m X')], .cptr [numsL (gr n Y m Y')]] (cellN n X Y m X' Y') fun k => [.int .i64 (cellM n X Y m X' Y' k).1, .int .i64 (cellM n X Y m X' Y' k).2] := by
  have l1 := gr_len n X m X'
  have l2 := gr_len n Y m Y'
  refine cells_seq _ _ _ _ (by omega) (by omega) (fun i hi => ?_) (fun i hi => ?_)
  · have := gr_mem n X m X' 1000000 hX hX' i hi; omega
  · have := gr_mem n Y m Y' 1000000 hY hY' i hi; omega
theorem grid_c (n : Nat) (X Y : Nat → Int) (m : Nat) (X' Y' : Nat → Int) (hn2 : n ≤ 800) (hm2 : m ≤ 800) :
    FnC prog 77 [.lst 2 [fun i => pts (N2 n m i) (X2 X X' i) (X2 Y Y' i)]] (.clo 82 [.cptr [numsL (gr n X m X')], .cptr [numsL (gr n Y m Y')]]) :=
  cells_c 2 (N2 n m) (X2 X X') (X2 Y Y') (by omega) (by simp [allN, N2]; omega)
theorem pair_eq (n : Nat) (X Y : Nat → Int) (m : Nat) (X' Y' : Nat → Int) : (DV.lst 2 [fun i => DV.lst (if i = 0 then n else m) [fun k => DV.val (Value.int .i64 (if i = 0 then X k else X' k)), fun k => DV.val (Value.int .i64 (if i = 0 then Y k else Y' k))]]) = .lst 2 [fun i => pts (N2 n m i) (X2 X X' i) (X2 Y Y' i)] := by
  congr 2
  funext i
  by_cases h : i = 0
  · subst h; rfl
  · have hd : decide (i = 0) = false := by simp [h]
    have e1 : N2 n m i = m := by unfold N2; rw [hd]; rfl
    have e2 : X2 X X' i = X' := by funext k; unfold X2; rw [hd]; rfl
    have e3 : X2 Y Y' i = Y' := by funext k; unfold X2; rw [hd]; rfl
    rw [e1, e2, e3]
    simp only [if_neg h]
noncomputable def A77_covers_c (n : Nat) (X Y : Nat → Int) (m : Nat) (X' Y' : Nat → Int) : Ann := { orc := [(1, [(3, rCells n X Y m X' Y')]), (4, [(3, rHas), (8, rHas)])], loops := [], cuts := [], rngs := [(0, { N := cellN n X Y m X' Y', enc := fun k => [.int .i64 (cellM n X Y m X' Y' k).1, .int .i64 (cellM n X Y m X' Y' k).2], keep := [2, 3, 4, 10], boxes := [2, 3, 4], bx := fun _ _ => [], inv := fun _ pre => ∀ k ∈ pre, badC n X Y m X' Y' k = false })] }
theorem covers_c (n : Nat) (X Y : Nat → Int) (m : Nat) (X' Y' : Nat → Int) (hn : 0 < n) (hn2 : n ≤ 800) (hX : inB n X) (hY : inB n Y) (hm : 0 < m) (hm2 : m ≤ 800) (hX' : inB m X') (hY' : inB m Y') : FnC prog 66 [pts n X Y, pts m X' Y'] (dB (covF n X Y m X' Y')) := by
  refine FnC_owed hmix (A77_covers_c n X Y m X' Y') (V := VT.need [(2:Nat) ≤ 2, FnC prog 77 [DV.lst 2 [fun (i : Nat) => DV.lst (if decide (i = 0) = true then n else m) [fun (i_1 : Nat) => DV.val (Value.int IntKind.i64 (if decide (i = 0) = true then X i_1 else X' i_1)), fun (i_1 : Nat) => DV.val (Value.int IntKind.i64 (if decide (i = 0) = true then Y i_1 else Y' i_1))]]] (DV.clo (82 : FuncId) [DV.cptr [DV.lst (List.length (gr n X m X')) [fun (i : Nat) => DV.val (Value.int IntKind.i64 (List.getD (gr n X m X') i (0:Int)))]], DV.cptr [DV.lst (List.length (gr n Y m Y')) [fun (i : Nat) => DV.val (Value.int IntKind.i64 (List.getD (gr n Y m Y') i (0:Int)))]]])] (VT.need [SeqC prog (82 : FuncId) [DV.cptr [DV.lst (List.length (gr n X m X')) [fun (i : Nat) => DV.val (Value.int IntKind.i64 (List.getD (gr n X m X') i (0:Int)))]], DV.cptr [DV.lst (List.length (gr n Y m Y')) [fun (i : Nat) => DV.val (Value.int IntKind.i64 (List.getD (gr n Y m Y') i (0:Int)))]]] (cellN n X Y m X' Y') fun (k : Nat) => [Value.int IntKind.i64 (cellM n X Y m X' Y' k).fst, Value.int IntKind.i64 (cellM n X Y m X' Y' k).snd], ∀ (k : Nat), k < cellN n X Y m X' Y' → List.length [Value.int IntKind.i64 (cellM n X Y m X' Y' k).fst, Value.int IntKind.i64 (cellM n X Y m X' Y' k).snd] = Array.size #[(11:Nat), (12:Nat)], List.length (gr n X m X') = List.length (gr n X m X'), ∀ i < List.length (gr n X m X'), List.getD (gr n X m X') i (0:Int) = List.getD (gr n X m X') i (0:Int), List.length (gr n Y m Y') = List.length (gr n Y m Y'), ∀ i < List.length (gr n Y m Y'), List.getD (gr n Y m Y') i (0:Int) = List.getD (gr n Y m Y') i (0:Int), n = n, ∀ i < n, X i = X i, ∀ i < n, Y i = Y i, m = m, ∀ i < m, X' i = X' i, ∀ i < m, Y' i = Y' i, false = false, ∀ (k : Nat), k ∈ [] → badC n X Y m X' Y' k = false] (VT.cut (List Nat × Nat) (fun (q : List Nat × Nat) => (∀ (k : Nat), k ∈ q.fst → badC n X Y m X' Y' k = false) ∧ q.snd < cellN n X Y
     m X' Y' ∧ List.length q.fst < cellN n X Y m X' Y' ∧ ∀ (y : Nat), y ∈ q.fst → y < cellN n X Y m X' Y') (VT.cut Unit (fun (u : Unit) => ∀ (k : Nat), k ∈ List.range (cellN n X Y m X' Y') → badC n X Y m X' Y' k = false) (VT.done []) fun (u : Unit) => VT.done [true = covF n X Y m X' Y']) fun (q : List Nat × Nat) => VT.need [FnC prog 78 [DV.lst m [fun (i : Nat) => DV.val (Value.int IntKind.i64 (X' i)), fun (i : Nat) => DV.val (Value.int IntKind.i64 (Y' i))], DV.val (Value.int IntKind.i64 (cellM n X Y m X' Y' q.snd).fst), DV.val (Value.int IntKind.i64 (cellM n X Y m X' Y' q.snd).snd)] (DV.val (Value.bool (hasC m X' Y' (cellM n X Y m X' Y' q.snd).fst (cellM n X Y m X' Y' q.snd).snd m))), ri (hasC m X' Y' (cellM n X Y m X' Y' q.snd).fst (cellM n X Y m X' Y' q.snd).snd m = true), ri (hasC m X' Y' (cellM n X Y m X' Y' q.snd).fst (cellM n X Y m X' Y' q.snd).snd m = true), ri (hasC m X' Y' (cellM n X Y m X' Y' q.snd).fst (cellM n X Y m X' Y' q.snd).snd m = true), hasC m X' Y' (cellM n X Y m X' Y' q.snd).fst (cellM n X Y m X' Y' q.snd).snd m = true → FnC prog 78 [DV.lst n [fun (i : Nat) => DV.val (Value.int IntKind.i64 (X i)), fun (i : Nat) => DV.val (Value.int IntKind.i64 (Y i))], DV.val (Value.int IntKind.i64 (cellM n X Y m X' Y' q.snd).fst), DV.val (Value.int IntKind.i64 (cellM n X Y m X' Y' q.snd).snd)] (DV.val (Value.bool (hasC n X Y (cellM n X Y m X' Y' q.snd).fst (cellM n X Y m X' Y' q.snd).snd n))), ri (hasC m X' Y' (cellM n X Y m X' Y' q.snd).fst (cellM n X Y m X' Y' q.snd).snd m = true), ri (hasC m X' Y' (cellM n X Y m X' Y' q.snd).fst (cellM n X Y m X' Y' q.snd).snd m = true)] (VT.ite (if hasC m X' Y' (cellM n X Y m X' Y' q.snd).fst (cellM n X Y m X' Y' q.snd).snd m = true then !hasC n X Y (cellM n X Y m X' Y' q.snd).fst (cellM n X Y m X' Y' q.snd).snd n else false) (VT.done [false = covF n X Y m X' Y']) (VT.done [List.length (gr n X m X') = List.length (gr n X m X'), ∀ i < List.length (gr n X m X'), List.getD (gr n X m X') i (0:Int) = List.getD (gr n X m X') i (0:Int), List.length (gr n Y m Y') = List.length (gr n Y m Y'), ∀ i < List.length (gr n Y m Y'), List.getD (gr n Y m Y') i (0:Int) = List.getD (gr n Y m Y') i (0:Int), n = n, ∀ i < n, X i = X i, ∀ i < n, Y i = Y i, m = m, ∀ i < m, X' i = X' i, ∀ i < m, Y' i = Y' i, false = false, ∀ (k : Nat), k ∈ q.fst ++ [q.snd] → badC n X Y m X' Y' k = false]))))) (by kernel_rfl) ?_
  simp only [VT.holds, AllT, Sq]
  rw [pair_eq]
  refine ⟨⟨Nat.le_refl _, grid_c n X Y m X' Y' hn2 hm2⟩, ⟨grid_seq n X Y m X' Y' hn2 hX hY hm2 hX' hY', fun _ _ => rfl, fun k hk => by cases hk⟩, fun _ h => ?_, fun i ⟨h1, h2, h3, h4⟩ => ⟨⟨has_c m X' Y' _ _ hm hm2 hX' hY', fun _ => has_c n X Y _ _ hn hn2 hX hY⟩, fun h => ?_, fun h k hk => ?_⟩⟩
  · rw [eq_comm, covF, decide_eq_true_eq]
    exact fun k hk => h k (List.mem_range.2 hk)
  · rw [eq_comm, covF, decide_eq_false_iff_not]
    intro hall
    have := hall i.2 h2
    simp [badC, h.1, h.2] at this
  · rcases List.mem_append.1 hk with hk | hk
    · exact h1 k hk
    · rw [List.mem_singleton.1 hk, badC]
      cases ha : hasC m X' Y' (cellM n X Y m X' Y' i.2).1 (cellM n X Y m X' Y' i.2).2 m with
      | false => rfl
      | true => rw [h ha]; rfl
noncomputable def A98_meets_c (n : Nat) (X Y : Nat → Int) (m : Nat) (X' Y' : Nat → Int) : Ann := { orc := [(1, [(3, rCells n X Y m X' Y')]), (4, [(3, rHas), (8, rHas)])], loops := [], cuts := [], rngs := [(0, { N := cellN n X Y m X' Y', enc := fun k => [.int .i64 (cellM n X Y m X' Y' k).1, .int .i64 (cellM n X Y m X' Y' k).2], keep := [2, 3, 4, 10], boxes := [2, 3, 4], bx := fun _ _ => [], inv := fun _ pre => ∀ k ∈ pre, metC n X Y m X' Y' k = false })] }
theorem meets_c (n : Nat) (X Y : Nat → Int) (m : Nat) (X' Y' : Nat → Int) (hn : 0 < n) (hn2 : n ≤ 800) (hX : inB n X) (hY : inB n Y) (hm : 0 < m) (hm2 : m ≤ 800) (hX' : inB m X') (hY' : inB m Y') : FnC prog 69 [pts n X Y, pts m X' Y'] (dB (metF n X Y m X' Y')) := by
  refine FnC_owed hmix (A98_meets_c n X Y m X' Y') (V := VT.need [(2:Nat) ≤ 2, FnC prog 77 [DV.lst 2 [fun (i : Nat) => DV.lst (if decide (i = 0) = true then n else m) [fun (i_1 : Nat) => DV.val (Value.int IntKind.i64 (if decide (i = 0) = true then X i_1 else X' i_1)), fun (i_1 : Nat) => DV.val (Value.int IntKind.i64 (if decide (i = 0) = true then Y i_1 else Y' i_1))]]] (DV.clo (82 : FuncId) [DV.cptr [DV.lst (List.length (gr n X m X')) [fun (i : Nat) => DV.val (Value.int IntKind.i64 (List.getD (gr n X m X') i (0:Int)))]], DV.cptr [DV.lst (List.length (gr n Y m Y')) [fun (i : Nat) => DV.val (Value.int IntKind.i64 (List.getD (gr n Y m Y') i (0:Int)))]]])] (VT.need [SeqC prog (82 : FuncId) [DV.cptr [DV.lst (List.length (gr n X m X')) [fun (i : Nat) => DV.val (Value.int IntKind.i64 (List.getD (gr n X m X') i (0:Int)))]], DV.cptr [DV.lst (List.length (gr n Y m Y')) [fun (i : Nat) => DV.val (Value.int IntKind.i64 (List.getD (gr n Y m Y') i (0:Int)))]]] (cellN n X Y m X' Y') fun (k : Nat) => [Value.int IntKind.i64 (cellM n X Y m X' Y' k).fst, Value.int IntKind.i64 (cellM n X Y m X' Y' k).snd], ∀ (k : Nat), k < cellN n X Y m X' Y' → List.length [Value.int IntKind.i64 (cellM n X Y m X' Y' k).fst, Value.int IntKind.i64 (cellM n X Y m X' Y' k).snd] = Array.size #[(11:Nat), (12:Nat)], List.length (gr n X m X') = List.length (gr n X m X'), ∀ i < List.length (gr n X m X'), List.getD (gr n X m X') i (0:Int) = List.getD (gr n X m X') i (0:Int), List.length (gr n Y m Y') = List.length (gr n Y m Y'), ∀ i < List.length (gr n Y m Y'), List.getD (gr n Y m Y') i (0:Int) = List.getD (gr n Y m Y') i (0:Int), n = n, ∀ i < n, X i = X i, ∀ i < n, Y i = Y i, m = m, ∀ i < m, X' i = X' i, ∀ i < m, Y' i = Y' i, false = false, ∀ (k : Nat), k ∈ [] → metC n X Y m X' Y' k = false] (VT.cut (List Nat × Nat) (fun (q : List Nat × Nat) => (∀ (k : Nat), k ∈ q.fst → metC n X Y m X' Y' k = false) ∧ q.snd < cellN n X Y
     m X' Y' ∧ List.length q.fst < cellN n X Y m X' Y' ∧ ∀ (y : Nat), y ∈ q.fst → y < cellN n X Y m X' Y') (VT.cut Unit (fun (u : Unit) => ∀ (k : Nat), k ∈ List.range (cellN n X Y m X' Y') → metC n X Y m X' Y' k = false) (VT.done []) fun (u : Unit) => VT.done [false = metF n X Y m X' Y']) fun (q : List Nat × Nat) => VT.need [FnC prog 78 [DV.lst m [fun (i : Nat) => DV.val (Value.int IntKind.i64 (X' i)), fun (i : Nat) => DV.val (Value.int IntKind.i64 (Y' i))], DV.val (Value.int IntKind.i64 (cellM n X Y m X' Y' q.snd).fst), DV.val (Value.int IntKind.i64 (cellM n X Y m X' Y' q.snd).snd)] (DV.val (Value.bool (hasC m X' Y' (cellM n X Y m X' Y' q.snd).fst (cellM n X Y m X' Y' q.snd).snd m))), ri (hasC m X' Y' (cellM n X Y m X' Y' q.snd).fst (cellM n X Y m X' Y' q.snd).snd m = true), ri (hasC m X' Y' (cellM n X Y m X' Y' q.snd).fst (cellM n X Y m X' Y' q.snd).snd m = true), ri (hasC m X' Y' (cellM n X Y m X' Y' q.snd).fst (cellM n X Y m X' Y' q.snd).snd m = true), hasC m X' Y' (cellM n X Y m X' Y' q.snd).fst (cellM n X Y m X' Y' q.snd).snd m = true → FnC prog 78 [DV.lst n [fun (i : Nat) => DV.val (Value.int IntKind.i64 (X i)), fun (i : Nat) => DV.val (Value.int IntKind.i64 (Y i))], DV.val (Value.int IntKind.i64 (cellM n X Y m X' Y' q.snd).fst), DV.val (Value.int IntKind.i64 (cellM n X Y m X' Y' q.snd).snd)] (DV.val (Value.bool (hasC n X Y (cellM n X Y m X' Y' q.snd).fst (cellM n X Y m X' Y' q.snd).snd n))), ri (hasC m X' Y' (cellM n X Y m X' Y' q.snd).fst (cellM n X Y m X' Y' q.snd).snd m = true)] (VT.ite (if hasC m X' Y' (cellM n X Y m X' Y' q.snd).fst (cellM n X Y m X' Y' q.snd).snd m = true then hasC n X Y (cellM n X Y m X' Y'
     q.snd).fst (cellM n X Y m X' Y' q.snd).snd n else false) (VT.done [true = metF n X Y m X' Y']) (VT.done [List.length (gr n X m X') = List.length (gr n X m X'), ∀ i < List.length (gr n X m X'), List.getD (gr n X m X') i (0:Int) = List.getD (gr n X m X') i (0:Int), List.length (gr n Y m Y') = List.length (gr n Y m Y'), ∀ i < List.length (gr n Y m Y'), List.getD (gr n Y m Y') i (0:Int) = List.getD (gr n Y m Y') i (0:Int), n = n, ∀ i < n, X i = X i, ∀ i < n, Y i = Y i, m = m, ∀ i < m, X' i = X' i, ∀ i < m, Y' i = Y' i, false = false, ∀ (k : Nat), k ∈ q.fst ++ [q.snd] → metC n X Y m X' Y' k = false]))))) (by kernel_rfl) ?_
  simp only [VT.holds, AllT, Sq]
  rw [pair_eq]
  refine ⟨⟨Nat.le_refl _, grid_c n X Y m X' Y' hn2 hm2⟩, ⟨grid_seq n X Y m X' Y' hn2 hX hY hm2 hX' hY', fun _ _ => rfl, fun k hk => by cases hk⟩, fun _ h => ?_, fun i ⟨h1, h2, h3, h4⟩ => ⟨⟨has_c m X' Y' _ _ hm hm2 hX' hY', fun _ => has_c n X Y _ _ hn hn2 hX hY⟩, fun h => ?_, fun h k hk => ?_⟩⟩
  · rw [eq_comm, metF, Bool.not_eq_false', decide_eq_true_eq]
    exact fun k hk => h k (List.mem_range.2 hk)
  · rw [eq_comm, metF, Bool.not_eq_true', decide_eq_false_iff_not]
    intro hall
    have := hall i.2 h2
    simp [metC, h.1, h.2] at this
  · rcases List.mem_append.1 hk with hk | hk
    · exact h1 k hk
    · rw [List.mem_singleton.1 hk, metC]
      cases ha : hasC m X' Y' (cellM n X Y m X' Y' i.2).1 (cellM n X Y m X' Y' i.2).2 m with
      | false => rfl
      | true => rw [h ha]; rfl
end Go.Abs
end
section
set_option linter.unusedVariables false
set_option linter.unusedSimpArgs false
set_option maxRecDepth 100000
namespace Go.Abs
open Go
def rSorted : Orc := .res fun l => numsL (sortI (aX l) (aN l))
def midF (n : Nat) (X Y : Nat → Int) (x y : Int) : Bool := decide (whF n (fun k => 2 * X k) (fun k => 2 * Y k) x y > 0)
def rMid : Orc := .res fun l => dB (midF (aN l) (aX l) (aY l) (aI l 1 + aI l 2) (aI l 3 + aI l 4))
def ZX (y : Bool) (X Y : Nat → Nat → Int) (i k : Nat) : Int := if y = true then Y i k else X i k
theorem crs_has {n : Nat} {X Y : Nat → Int} (hn : 0 < n) {x y : Int} (hy : ∀ k, k < n → y ≠ 2 * Y k) : ∀ k, crs n (fun k => 2 * X k) (fun k => 2 * Y k) x y k = hasC n X Y x y k
  | 0 => rfl
  | k + 1 => by
    have e : crB n (fun k => 2 * X k) (fun k => 2 * Y k) x y k = hasB n X Y x y k := by
      unfold crB hasB lo hi
      rw [decide_eq_decide]
      have h1 := hy _ (ix_lt (i := (k : Int)) hn)
      have h2 := hy _ (ix_lt (i := (k : Int) + 1) hn)
      dsimp only
      generalize X (ix n k) = a at *
      generalize X (ix n (k + 1)) = b at *
      generalize Y (ix n k) = c at *
      generalize Y (ix n (k + 1)) = d at *
      omega
    rw [crs, hasC, e, crs_has hn hy k]
theorem midF_has {n : Nat} {X Y : Nat → Int} (h : chk n X Y = 0) {x y : Int} (hx : ∀ k, k < n → x ≠ 2 * X k) (hy : ∀ k, k < n → y ≠ 2 * Y k) : midF n X Y x y = hasC n X Y x y n := by
  have hn : 0 < n := by have := chk_n h; omega
  have hoff : ∀ i, i < n → onS n (fun k => 2 * X k) (fun k => 2 * Y k) x y i = false := fun i hin => by
    have ho := dO_of_chk h hin
    unfold dO dirOk at ho
    rw [decide_eq_true_eq] at ho
    unfold onS lo hi
    rw [decide_eq_false_iff_not]
    have a1 := hx _ (ix_lt (i := (i : Int)) hn)
    have a2 := hx _ (ix_lt (i := (i : Int) + 1) hn)
    have a3 := hy _ (ix_lt (i := (i : Int)) hn)
    have a4 := hy _ (ix_lt (i := (i : Int) + 1) hn)
    dsimp only
    generalize X (ix n i) = a at *
    generalize X (ix n (i + 1)) = b at *
    generalize Y (ix n i) = c at *
    generalize Y (ix n (i + 1)) = d at *
    omega
  unfold midF whF
  rw [if_neg (fun hx => hx hoff), crs_has hn hy]
  cases hasC n X Y x y n <;> rfl
theorem gr_gap {n : Nat} {X : Nat → Int} {m : Nat} {X' : Nat → Int} {i : Nat} (hi : i + 1 < (gr n X m X').length) : (∀ k, k < n → (gr n X m X').getD i 0 + (gr n X m X').getD (i + 1) 0 ≠ 2 * X k) ∧ (∀ k, k < m → (gr n X m X').getD i 0 + (gr n X m X').getD (i + 1) 0 ≠ 2 * X' k) := by
  obtain ⟨h1, h2⟩ := linesF_asc (allN (N2 n m) (X2 X X') 2)
  have hlt := asc_get h1 (show i < i + 1 by omega) hi
  have key : ∀ x, x ∈ allN (N2 n m) (X2 X X') 2 → (gr n X m X').getD i 0 + (gr n X m X').getD (i + 1) 0 ≠ 2 * x := fun x hx => by
    have := asc_gap h1 hi ((h2 x).2 hx)
    unfold gr
    omega
  exact ⟨fun k hk => key _ (allN_mem (i := 0) (k := k) (by omega) hk), fun k hk => key _ (allN_mem (i := 1) (k := k) (by omega) hk)⟩
theorem addN_zero (i : Nat) : addN 0 i = i := by simp [addN]
theorem insP_get (L : List Int) (a : Nat) (x : Int) (ha : a ≤ L.length) (j : Nat) (hj : j < L.length + 1) : (if j < a + 1 then (if j < a then L.getD j 0 else x) else L.getD (j - (a + 1) + a) 0) = (L.take a ++ (x :: L.drop a)).getD j 0 := by
  have hl : (L.take a).length = a := by rw [List.length_take]; omega
  simp only [List.getD_eq_getElem?_getD]
  by_cases h1 : j < a
  · rw [if_pos (by omega), if_pos h1, List.getElem?_append_left (by omega), List.getElem?_take, if_pos h1]
  · rw [List.getElem?_append_right (by omega), hl]
    by_cases h2 : j = a
    · subst h2
      rw [if_pos (by omega), if_neg (by omega), Nat.sub_self]; rfl
    · rw [if_neg (by omega), show j - a = (j - a - 1) + 1 by omega, List.getElem?_cons_succ, List.getElem?_drop]
      congr 2; omega
theorem insP_len (L : List Int) (a : Nat) (x : Int) (ha : a ≤ L.length) : (L.take a ++ (x :: L.drop a)).length = a + 1 + (L.length - a) := by
  simp only [List.length_append, List.length_take, List.length_cons, List.length_drop]; omega
noncomputable def A97_sorted_c (n : Nat) (A : Nat → Int) : Ann := { orc := [], loops := [(0, { ι := Nat, keep := [0], boxes := [], ts := fun _ i => [(4, dI (i : Int))], rw := fun _ i => [(3, 1, (sortI A i).length, colL (sortI A i))], inv := fun _ i => i ≤ n, mu := fun _ i => n - i, rd := fun _ σ => (iOf (σ.get 4)).toNat }), (2, { ι := Nat, keep := [0, 4], boxes := [], ts := fun _ a => [(5, dI (a : Int))], rw := fun σ _ => [(3, 1, (sortI A (iOf (σ.get 4)).toNat).length, colL (sortI A (iOf (σ.get 4)).toNat))], inv := fun σ a => a ≤ (sortI A (iOf (σ.get 4)).toNat).length ∧ ∀ j, j < a → (sortI A (iOf (σ.get 4)).toNat).getD j 0 < A (iOf (σ.get 4)).toNat, mu := fun σ a => (sortI A (iOf (σ.get 4)).toNat).length - a, rd := fun _ σ => (iOf (σ.get 5)).toNat })], cuts := [] }
theorem sorted_c (n : Nat) (A : Nat → Int) (hn : n ≤ 1000000) : FnC prog 70 [nums n A] (numsL (sortI A n)) := by
  refine FnC_owed hmix (A97_sorted_c n A) (V := VT.loop Nat (fun (a : Nat) => a ≤ n) (0:Int).toNat [(0:Int) = (↑(0:Int).toNat : Int), (0:Nat) = 0, nat_lit 0 = 0, n = n, ∀ i < n, A i = A i, nat_lit 0 = 0] fun (i : Nat) => VT.ite (decide ((i:Int) < (n:Int))) (VT.loop Nat (fun (a : Nat) => a ≤ List.length (sortI A (i:Int).toNat) ∧ ∀ (j : Nat), j < a → List.getD (sortI A (i:Int).toNat) j (0:Int) < A (i:Int).toNat) (0:Int).toNat [(0:Int) = (↑(0:Int).toNat : Int), (0:Nat) = 0, List.length (sortI A i) = List.length (sortI A (i:Int).toNat), n = n, ∀ i < n, A i = A i, (i:Int) = (i:Int), List.length (sortI A i) = List.length (sortI A (i:Int).toNat), ∀ i_1 < List.length (sortI A (i:Int).toNat), List.getD (sortI A i) i_1 (0:Int) = List.getD (sortI A (i:Int).toNat) i_1 (0:Int)] fun (i_1 : Nat) => VT.need [ri (decide ((i_1:Int) < (↑(List.length (sortI A (i:Int).toNat)) : Int)) = true), ri (decide ((i_1:Int) < (↑(List.length (sortI A (i:Int).toNat)) : Int)) = true), decide ((i_1:Int) < (↑(List.length (sortI A (i:Int).toNat)) : Int)) = true → (0:Int) ≤ (i_1:Int) ∧ (i_1:Int) < (↑(List.length (sortI A (i:Int).toNat)) : Int), ri (decide ((i_1:Int) < (↑(List.length (sortI A (i:Int).toNat)) : Int)) = true), decide ((i_1:Int) < (↑(List.length (sortI A (i:Int).toNat)) : Int)) = true → addN 0 (i_1:Int).toNat < List.length (sortI A (i:Int).toNat), decide ((i_1:Int) < (↑(List.length (sortI A (i:Int).toNat)) : Int)) = true → decide ((i_1:Int) < (↑(List.length (sortI A (↑i :
     Int).toNat)) : Int)) = true, ri (decide ((i_1:Int) < (↑(List.length (sortI A (i:Int).toNat)) : Int)) = true), decide ((i_1:Int) < (↑(List.length (sortI A (i:Int).toNat)) : Int)) = true → (0:Int) ≤ (i:Int) ∧ (i:Int) < (n:Int), ri (decide ((i_1:Int) < (↑(List.length (sortI A (i:Int).toNat)) : Int)) = true), ri (decide ((i_1:Int) < (↑(List.length (sortI A (i:Int).toNat)) : Int)) = true), ri (decide ((i_1:Int) < (↑(List.length (sortI A (i:Int).toNat)) : Int)) = true), ri (decide ((i_1:Int) < (↑(List.length (sortI A (i:Int).toNat)) : Int)) = true)] (VT.ite (if decide ((i_1:Int) < (↑(List.length (sortI A (i:Int).toNat)) : Int)) = true then decide (List.getD (sortI A (i:Int).toNat) (addN 0 (i_1:Int).toNat) (0:Int) < A (i:Int).toNat) else false) (VT.need [i64In ((i_1:Int) + 1)] (VT.done [(i_1:Int) + 1 = (↑((i_1:Int) + 1).toNat : Int), (0:Nat) = 0, List.length (sortI A (i:Int).toNat) = List.length (sortI A (i:Int).toNat), n = n, ∀ i < n, A i = A i, (i:Int) = (i:Int), List.length (sortI A (i:Int).toNat) = List.length (sortI A (i:Int).toNat), ∀ i_2 < List.length (sortI A (i:Int).toNat), List.getD (sortI A (i:Int).toNat) i_2 (0:Int) = List.getD (sortI A (i:Int).toNat) i_2 (0:Int), Int.toNat ((i_1:Int) + 1) ≤ List.length (sortI A (i:Int).toNat) ∧ ∀ (j : Nat), j < Int.toNat
     ((i_1:Int) + 1) → List.getD (sortI A (i:Int).toNat) j (0:Int) < A (i:Int).toNat, List.length (sortI A (i:Int).toNat) - ((i_1:Int) + 1).toNat < List.length (sortI A (i:Int).toNat) - i_1])) (VT.need [ri ((!(i_1:Int) == (↑(List.length (sortI A (i:Int).toNat)) : Int)) = true), ri ((!(i_1:Int) == (↑(List.length (sortI A (i:Int).toNat)) : Int)) = true), (!(i_1:Int) == (↑(List.length (sortI A (i:Int).toNat)) : Int)) = true → (0:Int) ≤ (i_1:Int) ∧ (i_1:Int) < (↑(List.length (sortI A (i:Int).toNat)) : Int), ri ((!(i_1:Int) == (↑(List.length (sortI A (i:Int).toNat)) : Int)) = true), (!(i_1:Int) == (↑(List.length (sortI A (i:Int).toNat)) : Int)) = true → addN 0 (i_1:Int).toNat < List.length (sortI A (i:Int).toNat), ri ((!(i_1:Int) == (↑(List.length (sortI A (i:Int).toNat)) : Int)) = true), ri ((!(i_1:Int) == (↑(List.length (sortI A (i:Int).toNat)) : Int)) = true), (!(i_1:Int) == (↑(List.length (sortI A (i:Int).toNat)) : Int)) = true → (0:Int) ≤ (i:Int) ∧ (i:Int) < (n:Int), ri ((!(i_1:Int) == (↑(List.length (sortI A (i:Int).toNat)) : Int)) = true), ri ((!(i_1:Int) == (↑(List.length (sortI A (i:Int).toNat)) : Int)) = true), ri ((!(i_1:Int) == (↑(List.length (sortI A (i:Int).toNat)) : Int)) = true), ((i_1:Int) == (↑(List.length (sortI A (i:Int).toNat)) : Int)) = false → (!(i_1:Int) == (↑(List.length (sortI A (i:Int).toNat)) : Int)) = true] (VT.ite (if ((i_1:Int) == (↑(List.length (sortI A (i:Int).toNat)) : Int)) = true then true else List.getD (sortI A (i:Int).toNat) (addN 0 (i_1:Int).toNat) (0:Int) != A (i:Int).toNat) (VT.need [(0:Int) ≤ 0 ∧ (0:Int) ≤ (i_1:Int) ∧ (i_1:Int) ≤ (↑(List.length (sortI A (i:Int).toNat)) : Int), (0:Nat) ≤ 0, ((0:Nat) + (Int.toNat (i_1:Int) - (0:Int).toNat)) * (nat_lit 7 + 1) ≤ 140737488355328, Int.toNat (i_1:Int) - (0:Int).toNat + ((0:Nat) + (0:Int).toNat) ≤ List.length (sortI A (i:Int).toNat), (0:Int) ≤ (i:Int) ∧ (i:Int) < (n:Int), (0:Nat) + (Int.toNat (i_1:Int) - (0:Int).toNat) ≤ 0 + (Int.toNat (i_1:Int) - (0:Int).toNat), ((0:Nat) + (Int.toNat (i_1:Int) - (0:Int).toNat) + 1) * (nat_lit 7 + 1) ≤ 140737488355328, (1:Nat) ≤ 1, (0:Int) ≤ (i_1:Int) ∧ (i_1:Int) ≤ (↑(List.length (sortI A (i:Int).toNat)) : Int) ∧ (↑(List.length (sortI A (i:Int).toNat)) : Int) ≤ (↑(List.length (sortI A (i:Int).toNat)) : Int), (0:Nat) + (Int.toNat (i_1:Int) - (0:Int).toNat) + 1 ≤ 0 + (Int.toNat (i_1:Int) - (0:Int).toNat) + 1, ((0:Nat) + (Int.toNat (i_1:Int) - (0:Int).toNat) + 1 + (Int.toNat (↑(List.length (sortI A (i:Int).toNat)) : Int) - (i_1:Int).toNat)) * (nat_lit 7 + 1) ≤ 140737488355328, Int.toNat (↑(List.length (sortI A (i:Int).toNat)) : Int) - (i_1:Int).toNat + ((0:Nat) + (i_1:Int).toNat) ≤ List.length (sortI A (i:Int).toNat)] (VT.need [i64In ((i:Int) + (1
     : Int))] (VT.done [(i:Int) + 1 = (↑((i:Int) + 1).toNat : Int), (0:Nat) = 0, (0:Nat) + (Int.toNat (i_1:Int) - (0:Int).toNat) + 1 + (Int.toNat (↑(List.length (sortI A (i:Int).toNat)) : Int) - (i_1:Int).toNat) = List.length (sortI A ((i:Int) + 1).toNat), n = n, ∀ i < n, A i = A i, (0:Nat) + (Int.toNat (i_1:Int) - (0:Int).toNat) + 1 + (Int.toNat (↑(List.length (sortI A (i:Int).toNat)) : Int) - (i_1:Int).toNat) = List.length (sortI A ((i:Int) + 1).toNat), ∀ i_2 < List.length (sortI A ((i:Int) + 1).toNat), (if decide (i_2 < 0 + (Int.toNat (i_1:Int) - (0:Int).toNat) + 1) = true then if decide (i_2 < 0 + (Int.toNat (i_1:Int) - (0:Int).toNat)) = true then if decide (i_2 < 0) = true then (0:Int) else List.getD (sortI A (i:Int).toNat) (i_2 - 0 + ((0:Nat) + (0:Int).toNat)) (0:Int) else A (i:Int).toNat else List.getD (sortI A (i:Int).toNat) (i_2 - ((0:Nat) + (Int.toNat (i_1:Int) - (0:Int).toNat) + 1) + ((0:Nat) + (i_1:Int).toNat)) (0:Int)) = List.getD (sortI A ((i:Int) + 1).toNat) i_2 (0:Int), Int.toNat ((i:Int) + 1) ≤ n, n - ((i:Int) + 1).toNat < n - i]))) (VT.need [i64In ((i:Int) + 1)] (VT.done [(i:Int) + 1 = (↑((i:Int) + 1).toNat : Int), (0:Nat) = 0, List.length (sortI A (i:Int).toNat) = List.length (sortI A ((i:Int) + 1).toNat), n = n, ∀ i < n, A i = A i, List.length (sortI A (i:Int).toNat) = List.length (sortI A ((i:Int) + 1).toNat), ∀ i_2 < List.length (sortI A ((i:Int) + 1).toNat), List.getD (sortI A (i:Int).toNat) i_2 (0:Int) = List.getD (sortI A ((↑i :
     Int) + 1).toNat) i_2 (0:Int), Int.toNat ((i:Int) + 1) ≤ n, n - ((i:Int) + 1).toNat < n - i])))))) (VT.done [List.length (sortI A i) ≤ List.length (sortI A i), List.length (sortI A i) = List.length (sortI A n), ∀ i_1 < List.length (sortI A n), List.getD (sortI A i) i_1 (0:Int) = List.getD (sortI A n) i_1 (0:Int)])) (by kernel_rfl) ?_
  simp only [VT.holds, AllT, Sq]
  simp only [Nat.zero_add, Nat.sub_zero, Nat.add_zero, Nat.not_lt_zero, if_false, addN_zero]
  refine ⟨rfl, Nat.zero_le n, fun i hi => ⟨fun hlt => ⟨rfl, ⟨Nat.zero_le _, fun j hj => hj.elim⟩, fun a ⟨ha, hb⟩ => ?_⟩, fun hge => ?_⟩⟩
  · have hl := sortI_len A i
    refine ⟨⟨fun h => ⟨by omega, h⟩, fun h => by omega, fun _ => ⟨by omega, hlt⟩⟩, fun ⟨h1, h2⟩ => ⟨by unfold i64In; omega, by omega, ⟨by omega, fun j hj => ?_⟩, by omega⟩, fun h => ?_⟩
    · rcases Nat.lt_or_ge j a with h | h
      · exact hb j h
      · rw [show j = a by omega]; exact h2
    · have hp : a = posI (A i) (sortI A i) := posI_eq hb (by
        rcases Nat.lt_or_ge a (sortI A i).length with h5 | h5
        · have := h (by omega); exact .inr ⟨h5, by omega⟩
        · exact .inl (by omega))
      refine ⟨⟨fun h1 => ⟨by omega, by omega⟩, fun h1 => by omega, fun _ => ⟨by omega, hlt⟩⟩, fun h1 => ?_, fun ⟨h1, h2⟩ => ?_⟩
      · have e : sortI A (i + 1) = (sortI A i).take a ++ (A i :: (sortI A i).drop a) := by
          show insI (A i) (sortI A i) = _
          rw [insI, ← hp, if_pos]
          rcases h1 with h1 | h1
          · exact .inl (by omega)
          · exact .inr h1
        have el : a + 1 + ((sortI A i).length - a) = (sortI A (i + 1)).length := by rw [e, insP_len _ _ _ ha]
        refine ⟨⟨⟨by omega, by omega, by omega⟩, Nat.le_refl _, by omega, ha, ⟨by omega, hlt⟩, Nat.le_refl _, by omega, Nat.le_refl _, ⟨by omega, by omega, by omega⟩, Nat.le_refl _, by omega, by omega⟩, by unfold i64In; omega, by omega, el, el, fun j hj => ?_, by omega, by omega⟩
        rw [e]
        exact insP_get _ a _ ha j (by omega)
      · have e : sortI A (i + 1) = sortI A i := by
          show insI (A i) (sortI A i) = _
          rw [insI, ← hp, if_neg]
          rintro (h3 | h3)
          · exact h1 (by omega)
          · exact h3 h2
        rw [e]
        exact ⟨by unfold i64In; omega, by omega, rfl, rfl, fun _ _ => rfl, by omega, by omega⟩
  · obtain rfl : i = n := by omega
    exact ⟨Nat.le_refl _, rfl, fun _ _ => rfl⟩
noncomputable def A78_gridR_c (y : Bool) (m : Nat) (N : Nat → Nat) (X Y : Nat → Nat → Int) : Ann := { orc := [(11, [(1, rSorted)])], loops := [(0, { ι := Nat, keep := [0, 1], boxes := [], ts := fun _ i => [(6, dI (i : Int))], rw := fun _ i => [(5, 1, (allN N (ZX y X Y) i).length, colL (allN N (ZX y X Y) i))], inv := fun _ i => i ≤ m, mu := fun _ i => m - i, rd := fun _ σ => (iOf (σ.get 6)).toNat }), (2, { ι := Nat, keep := [0, 1, 6], boxes := [], ts := fun _ k => [(7, dI (k : Int))], rw := fun σ k => [(5, 1, (preN N (ZX y X Y) (iOf (σ.get 6)).toNat k).length, colL (preN N (ZX y X Y) (iOf (σ.get 6)).toNat k))], inv := fun σ k => k ≤ N (iOf (σ.get 6)).toNat, mu := fun σ k => N (iOf (σ.get 6)).toNat - k, rd := fun _ σ => (iOf (σ.get 7)).toNat })], cuts := [] }
theorem gridR_c (y : Bool) (m : Nat) (N : Nat → Nat) (X Y : Nat → Nat → Int) (hm : m ≤ 1000000) (hb : (allN N X m).length ≤ 1000000) : FnC prog 55 [dB y, .lst m [fun i => pts (N i) (X i) (Y i)]] (numsL (linesF (allN N (ZX y X Y) m))) := by
  refine FnC_owed hmix (A78_gridR_c y m N X Y) (V := VT.loop Nat (fun (a : Nat) => a ≤ m) (0:Int).toNat [(0:Int) = (↑(0:Int).toNat : Int), (0:Nat) = 0, nat_lit 0 = 0, y = y, m = m, ∀ i < m, N i = N i ∧ (∀ i_1 < N i, X i i_1 = X i i_1) ∧ ∀ i_1 < N i, Y i i_1 = Y i i_1, nat_lit 0 = 0] fun (i : Nat) => VT.ite (decide ((i:Int) < (m:Int))) (VT.loop Nat (fun (a : Nat) => a ≤ N (i:Int).toNat) (0:Int).toNat [(0:Int) = (↑(0:Int).toNat : Int), (0:Nat) = 0, List.length (allN N (ZX y X Y) i) = List.length (preN N (ZX y X Y) (i:Int).toNat (0:Int).toNat), y = y, m = m, ∀ i < m, N i = N i ∧ (∀ i_1 < N i, X i i_1 = X i i_1) ∧ ∀ i_1 < N i, Y i i_1 = Y i i_1, (i:Int) = (i:Int), List.length (allN N (ZX y X Y) i) = List.length (preN N (ZX y X Y) (i:Int).toNat (0:Int).toNat), ∀ i_1 < List.length (preN N (ZX y X Y) (i:Int).toNat (0:Int).toNat), List.getD (allN N (ZX y X Y) i) i_1 (0:Int) = List.getD (preN N (ZX y X Y) (i:Int).toNat (0:Int).toNat) i_1 (0:Int)] fun (i_1 : Nat) => VT.need [(0:Int) ≤ (i:Int) ∧ (i:Int) < (m:Int)] (VT.ite (decide ((i_1:Int) < (↑(N (i:Int).toNat) : Int))) (VT.ite y (VT.need [(0:Int) ≤ (i:Int) ∧ (i:Int) < (m:Int), (0:Int) ≤ (i_1:Int) ∧ (i_1:Int) < (↑(N (i:Int).toNat) : Int), List.length (preN N (ZX y X Y) (i:Int).toNat i_1) ≤ List.length (preN N (ZX y X Y) (i:Int).toNat i_1), (List.length (preN N (ZX y X Y) (i:Int).toNat i_1) + 1) * (nat_lit 7 + 1) ≤ 140737488355328, (1:Nat) ≤ 1] (VT.need [i64In ((i_1:Int) + 1)] (VT.done [(i_1:Int) + 1 = (↑((i_1:Int) + 1).toNat : Int), (0:Nat) = 0, List.length (preN N (ZX y X Y) (i:Int).toNat i_1) + 1 = List.length (preN N (ZX y X Y) (Int.toNat
     (i:Int)) ((i_1:Int) + 1).toNat), y = y, m = m, ∀ i < m, N i = N i ∧ (∀ i_2 < N i, X i i_2 = X i i_2) ∧ ∀ i_2 < N i, Y i i_2 = Y i i_2, (i:Int) = (i:Int), List.length (preN N (ZX y X Y) (i:Int).toNat i_1) + 1 = List.length (preN N (ZX y X Y) (i:Int).toNat ((i_1:Int) + 1).toNat), ∀ i_2 < List.length (preN N (ZX y X Y) (i:Int).toNat ((i_1:Int) + 1).toNat), (if decide (i_2 < List.length (preN N (ZX y X Y) (i:Int).toNat i_1)) = true then List.getD (preN N (ZX y X Y) (i:Int).toNat i_1) i_2 (0:Int) else Y (i:Int).toNat (i_1:Int).toNat) = List.getD (preN N (ZX y X Y) (i:Int).toNat ((i_1:Int) + 1).toNat) i_2 (0:Int), Int.toNat ((i_1:Int) + 1) ≤ N (i:Int).toNat, N (i:Int).toNat - ((i_1:Int) + 1).toNat < N (i:Int).toNat - i_1]))) (VT.need [(0:Int) ≤ (i:Int) ∧ (i:Int) < (m:Int), (0:Int) ≤ (i_1:Int) ∧ (i_1:Int) < (↑(N (i:Int).toNat) : Int), List.length (preN N (ZX y X Y) (i:Int).toNat i_1) ≤ List.length (preN N (ZX y X Y) (i:Int).toNat i_1), (List.length (preN N (ZX y X Y) (i:Int).toNat i_1) + 1) * (nat_lit 7 + 1) ≤ 140737488355328, (1:Nat) ≤ 1] (VT.need [i64In ((i_1:Int) + 1)] (VT.done [(i_1:Int) + 1 = (↑((i_1:Int) + 1).toNat : Int), (0:Nat) = 0, List.length (preN N (ZX y X Y) (i:Int).toNat i_1) + 1 = List.length (preN N (ZX y X Y) (i:Int).toNat ((i_1:Int) + 1).toNat), y = y, m = m, ∀ i < m, N i = N i ∧ (∀ i_2 < N i, X i i_2 = X i i_2) ∧ ∀ i_2 < N i, Y i i_2 = Y i i_2, (i:Int) = (i:Int), List.length (preN N (ZX y X Y) (i:Int).toNat i_1) + 1 = List.length (preN N (ZX y X Y)
     (i:Int).toNat ((i_1:Int) + 1).toNat), ∀ i_2 < List.length (preN N (ZX y X Y) (i:Int).toNat ((i_1:Int) + 1).toNat), (if decide (i_2 < List.length (preN N (ZX y X Y) (i:Int).toNat i_1)) = true then List.getD (preN N (ZX y X Y) (i:Int).toNat i_1) i_2 (0:Int) else X (i:Int).toNat (i_1:Int).toNat) = List.getD (preN N (ZX y X Y) (i:Int).toNat ((i_1:Int) + 1).toNat) i_2 (0:Int), Int.toNat ((i_1:Int) + 1) ≤ N (i:Int).toNat, N (i:Int).toNat - ((i_1:Int) + 1).toNat < N (i:Int).toNat - i_1])))) (VT.need [i64In ((i:Int) + 1)] (VT.done [(i:Int) + 1 = (↑((i:Int) + 1).toNat : Int), (0:Nat) = 0, List.length (preN N (ZX y X Y) (i:Int).toNat i_1) = List.length (allN N (ZX y X Y) ((i:Int) + 1).toNat), y = y, m = m, ∀ i < m, N i = N i ∧ (∀ i_2 < N i, X i i_2 = X i i_2) ∧ ∀ i_2 < N i, Y i i_2 = Y i i_2, List.length (preN N (ZX y X Y) (i:Int).toNat i_1) = List.length (allN N (ZX y X Y) ((i:Int) + 1).toNat), ∀ i_2 < List.length (allN N (ZX y X Y) ((i:Int) + 1).toNat), List.getD (preN N (ZX y X Y) (i:Int).toNat i_1) i_2 (0:Int) = List.getD (allN N (ZX y X Y) ((i:Int) + 1).toNat) i_2 (0:Int), Int.toNat ((i:Int) + 1) ≤ m, m - ((i:Int) + 1).toNat < m - i])))) (VT.need [List.length (allN N (ZX y X Y) i) ≤ List.length (allN N (ZX y X Y) i), FnC prog 70 [DV.lst (List.length (allN N (ZX y X Y) i)) [fun (i_1 : Nat) => DV.val (Value.int IntKind.i64 (List.getD (allN N (ZX y X Y) i) i_1 (0:Int)))]] (DV.lst (List.length (sortI (fun (a : Nat) => List.getD (allN N (ZX y X Y) i) a (0:Int)) (List.length (allN N (ZX y X Y) i)))) [fun (i_1 : Nat) => DV.val (Value.int IntKind.i64 (List.getD
     (sortI (fun (a : Nat) => List.getD (allN N (ZX y X Y) i) a (0:Int)) (List.length (allN N (ZX y X Y) i))) i_1 (0:Int)))])] (VT.done [List.length (sortI (fun (a : Nat) => List.getD (allN N (ZX y X Y) i) a (0:Int)) (List.length (allN N (ZX y X Y) i))) = List.length (linesF (allN N (ZX y X Y) m)), ∀ i_1 < List.length (linesF (allN N (ZX y X Y) m)), List.getD (sortI (fun (a : Nat) => List.getD (allN N (ZX y X Y) i) a (0:Int)) (List.length (allN N (ZX y X Y) i))) i_1 (0:Int) = List.getD (linesF (allN N (ZX y X Y) m)) i_1 (0:Int)]))) (by kernel_rfl) ?_
  simp only [VT.holds, AllT, Sq]
  have hb2 : ∀ Z, (allN N Z m).length ≤ 1000000 := fun Z => by rw [allN_len N Z X]; exact hb
  generalize hZ : ZX y X Y = Z
  have hbZ := hb2 Z
  refine ⟨rfl, Nat.zero_le m, fun i hi => ⟨fun hlt => ⟨?_, Nat.zero_le _, fun k hk => ⟨⟨by omega, hlt⟩, fun hk2 => ?_, fun hk2 => ?_⟩⟩, fun hge => ?_⟩⟩
  · simp only [preN_zero, implies_true, true_and, and_true]; rfl
  · have e1 := allN_le N Z (show i + 1 ≤ m by omega)
    have e3 := preN_len N Z i k
    have e5 : (allN N Z (i + 1)).length = (allN N Z i).length + N i := by simp [allN]
    have f1 : (preN N Z i k).length + 1 = (preN N Z i (k + 1)).length := by rw [preN_succ]; simp
    have g1 : ∀ j, j < (preN N Z i (k + 1)).length → (if j < (preN N Z i k).length then (preN N Z i k).getD j 0 else Z i k) = (preN N Z i (k + 1)).getD j 0 := fun j hj => by
      rw [preN_succ]; exact snoc_get _ _ j (by omega)
    refine ⟨fun hy => ?_, fun hy => ?_⟩
    · rw [show Y i k = Z i k by rw [← hZ, ZX, if_pos hy]]
      exact ⟨⟨⟨by omega, hlt⟩, ⟨by omega, hk2⟩, Nat.le_refl _, by omega, Nat.le_refl _⟩, by unfold i64In; omega, by omega, f1, f1, g1, by omega, by omega⟩
    · rw [show X i k = Z i k by rw [← hZ, ZX, if_neg (by rw [hy]; simp)]]
      exact ⟨⟨⟨by omega, hlt⟩, ⟨by omega, hk2⟩, Nat.le_refl _, by omega, Nat.le_refl _⟩, by unfold i64In; omega, by omega, f1, f1, g1, by omega, by omega⟩
  · obtain rfl : k = N i := by omega
    simp only [preN_all, implies_true, true_and, and_true]
    exact ⟨by unfold i64In; omega, by omega, by omega, by omega⟩
  · obtain rfl : i = m := by omega
    have l1 := sorted_c (allN N Z i).length (fun j => (allN N Z i).getD j 0) hbZ
    refine ⟨⟨Nat.le_refl _, l1⟩, ?_⟩
    rw [sortI_lines, range_get]
    exact ⟨rfl, fun _ _ => rfl⟩
noncomputable def A79_middle_c (n : Nat) (X Y : Nat → Int) (a b c d : Int) : Ann := { orc := [(6, [(8, rWhF)])], loops := [(0, { ι := Nat, keep := [0, 1, 2, 3, 4], boxes := [], ts := fun _ i => [(12, dI (i : Int))], rw := fun _ i => [(11, 2, i, [fun k => dI (2 * X k), fun k => dI (2 * Y k)])], inv := fun _ i => i ≤ n, mu := fun _ i => n - i, rd := fun _ σ => (iOf (σ.get 12)).toNat })], cuts := [] }
theorem middle_c (n : Nat) (X Y : Nat → Int) (a b c d : Int) (hn : 0 < n) (hn2 : n ≤ 800) (hX : inB n X) (hY : inB n Y) (ha : -1000000 ≤ a ∧ a ≤ 1000000) (hb : -1000000 ≤ b ∧ b ≤ 1000000) (hc : -1000000 ≤ c ∧ c ≤ 1000000) (hd : -1000000 ≤ d ∧ d ≤ 1000000) : FnC prog 56 [pts n X Y, dI a, dI b, dI c, dI d] (dB (midF n X Y (a + b) (c + d))) := by
  refine FnC_owed hmix (A79_middle_c n X Y a b c d) (V := VT.loop Nat (fun (a : Nat) => a ≤ n) (0:Int).toNat [(0:Int) = (↑(0:Int).toNat : Int), (0:Nat) = 0, Int.toNat (0:Int) = 0, n = n, ∀ i < n, X i = X i, ∀ i < n, Y i = Y i, a = a, b = b, c = c, d = d, Int.toNat (0:Int) = 0] fun (i : Nat) => VT.ite (decide ((i:Int) < (n:Int))) (VT.need [(0:Int) ≤ (i:Int) ∧ (i:Int) < (n:Int), i64In ((2:Int) * X (i:Int).toNat), (0:Int) ≤ (i:Int) ∧ (i:Int) < (n:Int), i64In ((2:Int) * Y (i:Int).toNat), i ≤ i, (i + 1) * (nat_lit 15 + 1) ≤ 140737488355328, (1:Nat) ≤ 1] (VT.need [i64In ((i:Int) + 1)] (VT.done [(i:Int) + 1 = (↑((i:Int) + 1).toNat : Int), (0:Nat) = 0, i + 1 = ((i:Int) + 1).toNat, n = n, ∀ i < n, X i = X i, ∀ i < n, Y i = Y i, a = a, b = b, c = c, d = d, i + 1 = ((i:Int) + 1).toNat, ∀ i_1 < ((i:Int) + 1).toNat, (if decide (i_1 < i) = true then (2:Int) * X i_1 else (2:Int) * X (i:Int).toNat) = 2 * X i_1, ∀ i_1 < ((i:Int) + 1).toNat, (if decide (i_1 < i) = true then (2:Int) * Y i_1 else (2:Int) * Y (i:Int).toNat) = 2 * Y i_1, Int.toNat ((i:Int) + 1) ≤ n, n - ((i:Int) + 1).toNat < n - i]))) (VT.need [i64In (a + b), i64In (c + d), i ≤ i, FnC prog 71 [DV.lst i [fun (i : Nat) => DV.val (Value.int IntKind.i64 ((2:Int) * X i)), fun (i : Nat) => DV.val (Value.int IntKind.i64 ((2:Int) * Y i))], DV.val (Value.agg { toList := [Value.int IntKind.i64 (a + b), Value.int IntKind.i64 (c + d)] })] (DV.val (Value.int IntKind.i64 (whF i (fun (a : Nat) => (2:Int) * X a) (fun (a : Nat) => (2:Int) * Y a) (a + b) (c + d))))] (VT.done [decide (whF i (fun (a : Nat) => (2:Int) * X a) (fun (a : Nat) => (2:Int) * Y a) (a + b) (c + d) > (0 :
     Int)) = midF n X Y (a + b) (c + d)]))) (by kernel_rfl) ?_
  simp only [VT.holds, AllT, Sq]
  refine ⟨rfl, Nat.zero_le n, fun i hin => ⟨fun hlt => ?_, fun hge => ?_⟩⟩
  · have b1 := hX i (by omega)
    have b2 := hY i (by omega)
    exact ⟨⟨⟨by omega, hlt⟩, by unfold i64In; omega, ⟨by omega, hlt⟩, by unfold i64In; omega, Nat.le_refl _, by omega, Nat.le_refl _⟩, by unfold i64In; omega, by omega, last_if (f := fun j => 2 * X j) rfl, last_if (f := fun j => 2 * Y j) rfl, by omega, by omega⟩
  · obtain rfl : i = n := by omega
    exact ⟨⟨by unfold i64In; omega, by unfold i64In; omega, Nat.le_refl _, whereR_c _ _ _ _ _ hn hn2⟩, rfl⟩
end Go.Abs
end
