/- Contracts. -/
import Derived.Test.YtglebihdhfdhoaaDoorK12
set_option linter.unusedVariables false
set_option linter.unusedSimpArgs false
set_option maxRecDepth 100000
namespace Go.Abs
open Go
abbrev N2 (n m : Nat) (i : Nat) : Nat := if decide (i = 0) = true then n else m
abbrev X2 (X X' : Nat → Int) (i k : Nat) : Int := if decide (i = 0) = true then X k else X' k
/-- The lines of a grid through the corners of two outlines, in one coordinate. -/
def gr (n : Nat) (X : Nat → Int) (m : Nat) (X' : Nat → Int) : List Int := linesF (allN (N2 n m) (X2 X X') 2)
def cellN (n : Nat) (X Y : Nat → Int) (m : Nat) (X' Y' : Nat → Int) : Nat := ((gr n Y m Y').length - 1) * ((gr n X m X').length - 1)
def cellM (n : Nat) (X Y : Nat → Int) (m : Nat) (X' Y' : Nat → Int) (k : Nat) : Int × Int := mid ((gr n Y m Y').length - 1) (fun i => (gr n X m X').getD i 0) (fun i => (gr n Y m Y').getD i 0) k
def badC (n : Nat) (X Y : Nat → Int) (m : Nat) (X' Y' : Nat → Int) (k : Nat) : Bool := hasC m X' Y' (cellM n X Y m X' Y' k).1 (cellM n X Y m X' Y' k).2 m && !hasC n X Y (cellM n X Y m X' Y' k).1 (cellM n X Y m X' Y' k).2 n
def metC (n : Nat) (X Y : Nat → Int) (m : Nat) (X' Y' : Nat → Int) (k : Nat) : Bool := hasC m X' Y' (cellM n X Y m X' Y' k).1 (cellM n X Y m X' Y' k).2 m && hasC n X Y (cellM n X Y m X' Y' k).1 (cellM n X Y m X' Y' k).2 n
/-- A region is within another one; two regions meet. -/
def covF (n : Nat) (X Y : Nat → Int) (m : Nat) (X' Y' : Nat → Int) : Bool := decide (∀ k, k < cellN n X Y m X' Y' → badC n X Y m X' Y' k = false)
def metF (n : Nat) (X Y : Nat → Int) (m : Nat) (X' Y' : Nat → Int) : Bool := !decide (∀ k, k < cellN n X Y m X' Y' → metC n X Y m X' Y' k = false)
def rCov : Orc := .res fun l => dB (covF (aN l) (aX l) (aY l) (lenOf (arg l 1)) (colI 0 (arg l 1)) (colI 1 (arg l 1)))
def rMet : Orc := .res fun l => dB (metF (aN l) (aX l) (aY l) (lenOf (arg l 1)) (colI 0 (arg l 1)) (colI 1 (arg l 1)))
abbrev rCells (n : Nat) (X Y : Nat → Int) (m : Nat) (X' Y' : Nat → Int) : Orc := .res fun _ => .clo 92 [.cptr [numsL (gr n X m X')], .cptr [numsL (gr n Y m Y')]]
theorem gr_mem (n : Nat) (X : Nat → Int) (m : Nat) (X' : Nat → Int) (b : Int) (hX : ∀ k, k < n → -b ≤ X k ∧ X k ≤ b) (hX' : ∀ k, k < m → -b ≤ X' k ∧ X' k ≤ b) : ∀ i, i < (gr n X m X').length → -b ≤ (gr n X m X').getD i 0 ∧ (gr n X m X').getD i 0 ≤ b := fun i hi => by
  have h1 := ((linesF_asc (allN (N2 n m) (X2 X X') 2)).2 _).1 (getD_mem hi)
  refine allN_bd (m := 2) (fun i hi k hk => ?_) _ h1
  match i, hi with
  | 0, _ => exact hX k hk
  | 1, _ => exact hX' k hk
theorem gr_len (n : Nat) (X : Nat → Int) (m : Nat) (X' : Nat → Int) : (gr n X m X').length ≤ n + m := by
  have h := linesF_len (allN (N2 n m) (X2 X X') 2)
  simpa [gr, allN, N2] using h
theorem grid_seq (n : Nat) (X Y : Nat → Int) (m : Nat) (X' Y' : Nat → Int) (hn2 : n ≤ 800) (hX : inB n X) (hY : inB n Y) (hm2 : m ≤ 800) (hX' : inB m X') (hY' : inB m Y') :
    SeqC prog 92 [.cptr [numsL (gr n X m X')], .cptr [numsL (gr n Y m Y')]] (cellN n X Y m X' Y') fun k => [.int .i64 (cellM n X Y m X' Y' k).1, .int .i64 (cellM n X Y m X' Y' k).2] := by
  have l1 := gr_len n X m X'
  have l2 := gr_len n Y m Y'
  refine cells_seq _ _ _ _ (by omega) (by omega) (fun i hi => ?_) (fun i hi => ?_)
  · have := gr_mem n X m X' 1000000 hX hX' i hi; omega
  · have := gr_mem n Y m Y' 1000000 hY hY' i hi; omega
theorem grid_c (n : Nat) (X Y : Nat → Int) (m : Nat) (X' Y' : Nat → Int) (hn2 : n ≤ 800) (hm2 : m ≤ 800) :
    FnC prog 86 [.lst 2 [fun i => pts (N2 n m i) (X2 X X' i) (X2 Y Y' i)]] (.clo 92 [.cptr [numsL (gr n X m X')], .cptr [numsL (gr n Y m Y')]]) :=
  cells_c 2 (N2 n m) (X2 X X') (X2 Y Y') (by omega) (by simp [allN, N2]; omega)
theorem ifdec {α : Type} (i : Nat) (a b : α) : (if i = 0 then a else b) = if decide (i = 0) = true then a else b := by by_cases h : i = 0 <;> simp [h]
theorem pair_eq (n : Nat) (X Y : Nat → Int) (m : Nat) (X' Y' : Nat → Int) : (DV.lst 2 [fun i => DV.lst (if i = 0 then n else m) [fun k => DV.val (Value.int .i64 (if i = 0 then X k else X' k)), fun k => DV.val (Value.int .i64 (if i = 0 then Y k else Y' k))]]) = .lst 2 [fun i => pts (N2 n m i) (X2 X X' i) (X2 Y Y' i)] := by
  congr 2
  funext i
  by_cases h : i = 0
  · subst h; rfl
  · have hd : decide (i = 0) = false := by simp [h]
    have e1 : N2 n m i = m := by unfold N2; rw [hd]; rfl
    have e2 : X2 X X' i = X' := by funext k; unfold X2; rw [hd]; rfl
    have e3 : X2 Y Y' i = Y' := by funext k; unfold X2; rw [hd]; rfl
    rw [e1, e2, e3]
    simp only [if_neg h]
noncomputable def A77_covers_c (n : Nat) (X Y : Nat → Int) (m : Nat) (X' Y' : Nat → Int) : Ann := { orc := [(1, [(3, rCells n X Y m X' Y')]), (4, [(3, rHas), (8, rHas)])], loops := [], cuts := [], rngs := [(0, { N := cellN n X Y m X' Y', enc := fun k => [.int .i64 (cellM n X Y m X' Y' k).1, .int .i64 (cellM n X Y m X' Y' k).2], keep := [2, 3, 4, 10], boxes := [2, 3, 4], bx := fun _ _ => [], inv := fun _ pre => ∀ k ∈ pre, badC n X Y m X' Y' k = false })] }
theorem covers_c (n : Nat) (X Y : Nat → Int) (m : Nat) (X' Y' : Nat → Int) (hn : 0 < n) (hn2 : n ≤ 800) (hX : inB n X) (hY : inB n Y) (hm : 0 < m) (hm2 : m ≤ 800) (hX' : inB m X') (hY' : inB m Y') : FnC prog 85 [pts n X Y, pts m X' Y'] (dB (covF n X Y m X' Y')) := by
  refine FnC_owed hmix (A77_covers_c n X Y m X' Y') (V := VT.need [(2 : Nat) ≤ (2 : Nat), FnC prog (86 : Nat) [DV.lst (2 : Nat) [fun (i : Nat) => DV.lst (if decide (i = (0 : Nat)) = true then n else m) [fun (i_1 : Nat) => DV.val (Value.int IntKind.i64 (if decide (i = (0 : Nat)) = true then X i_1 else X' i_1)), fun (i_1 : Nat) => DV.val (Value.int IntKind.i64 (if decide (i = (0 : Nat)) = true then Y i_1 else Y' i_1))]]] (DV.clo (92 : FuncId) [DV.cptr [DV.lst (List.length (gr n X m X')) [fun (i : Nat) => DV.val (Value.int IntKind.i64 (List.getD (gr n X m X') i (0 : Int)))]], DV.cptr [DV.lst (List.length (gr n Y m Y')) [fun (i : Nat) => DV.val (Value.int IntKind.i64 (List.getD (gr n Y m Y') i (0 : Int)))]]])] (VT.need [SeqC prog (92 : FuncId) [DV.cptr [DV.lst (List.length (gr n X m X')) [fun (i : Nat) => DV.val (Value.int IntKind.i64 (List.getD (gr n X m X') i (0 : Int)))]], DV.cptr [DV.lst (List.length (gr n Y m Y')) [fun (i : Nat) => DV.val (Value.int IntKind.i64 (List.getD (gr n Y m Y') i (0 : Int)))]]] (cellN n X Y m X' Y') fun (k : Nat) => [Value.int IntKind.i64 (cellM n X Y m X' Y' k).fst, Value.int IntKind.i64 (cellM n X Y m X' Y' k).snd], ∀ (k : Nat), k < cellN n X Y m X' Y' → List.length [Value.int IntKind.i64 (cellM n X Y m X' Y' k).fst, Value.int IntKind.i64 (cellM n X Y m X' Y' k).snd] = Array.size #[(11 : Nat), (12 : Nat)], List.length (gr n X m X') = List.length (gr n X m X'), ∀ (i : Nat), i < List.length (gr n X m X') → List.getD (gr n X m X') i (0 : Int) = List.getD (gr n X m X') i (0 : Int), List.length (gr n Y m Y') = List.length (gr n Y m Y'), ∀ (i : Nat), i < List.length (gr n Y m Y') → List.getD (gr n Y m Y') i (0 : Int) = List.getD (gr n Y m Y') i (0 : Int), n = n, ∀ (i : Nat), i < n → X i = X i, ∀ (i : Nat), i < n → Y i = Y i, m = m, ∀ (i : Nat), i < m → X' i = X' i, ∀ (i : Nat), i < m → Y' i = Y' i, false = false, ∀ (k : Nat), k ∈ [] → badC n X Y m X' Y' k = false] (VT.cut (List Nat × Nat) (fun (q : List Nat × Nat) => (∀ (k : Nat), k ∈ q.fst → badC n X Y m X' Y' k = false) ∧ q.snd < cellN n X Y
     m X' Y' ∧ List.length q.fst < cellN n X Y m X' Y' ∧ ∀ (y : Nat), y ∈ q.fst → y < cellN n X Y m X' Y') (VT.cut Unit (fun (u : Unit) => ∀ (k : Nat), k ∈ List.range (cellN n X Y m X' Y') → badC n X Y m X' Y' k = false) (VT.done []) fun (u : Unit) => VT.done [true = covF n X Y m X' Y']) fun (q : List Nat × Nat) => VT.need [FnC prog (87 : Nat) [DV.lst m [fun (i : Nat) => DV.val (Value.int IntKind.i64 (X' i)), fun (i : Nat) => DV.val (Value.int IntKind.i64 (Y' i))], DV.val (Value.int IntKind.i64 (cellM n X Y m X' Y' q.snd).fst), DV.val (Value.int IntKind.i64 (cellM n X Y m X' Y' q.snd).snd)] (DV.val (Value.bool (hasC m X' Y' (cellM n X Y m X' Y' q.snd).fst (cellM n X Y m X' Y' q.snd).snd m))), hasC m X' Y' (cellM n X Y m X' Y' q.snd).fst (cellM n X Y m X' Y' q.snd).snd m = true → hasC m X' Y' (cellM n X Y m X' Y' q.snd).fst (cellM n X Y m X' Y' q.snd).snd m = true, hasC m X' Y' (cellM n X Y m X' Y' q.snd).fst (cellM n X Y m X' Y' q.snd).snd m = true → hasC m X' Y' (cellM n X Y m X' Y' q.snd).fst (cellM n X Y m X' Y' q.snd).snd m = true, hasC m X' Y' (cellM n X Y m X' Y' q.snd).fst (cellM n X Y m X' Y' q.snd).snd m = true → hasC m X' Y' (cellM n X Y m X' Y' q.snd).fst (cellM n X Y m X' Y' q.snd).snd m = true, hasC m X' Y' (cellM n X Y m X' Y' q.snd).fst (cellM n X Y m X' Y' q.snd).snd m = true → FnC prog (87 : Nat) [DV.lst n [fun (i : Nat) => DV.val (Value.int IntKind.i64 (X i)), fun (i : Nat) => DV.val (Value.int IntKind.i64 (Y i))], DV.val (Value.int IntKind.i64 (cellM n X Y m X' Y' q.snd).fst), DV.val (Value.int IntKind.i64 (cellM n X Y m X' Y' q.snd).snd)] (DV.val (Value.bool (hasC n X Y (cellM n X Y m X' Y' q.snd).fst (cellM n X Y m X' Y' q.snd).snd n))), hasC m X' Y' (cellM n X Y m X' Y' q.snd).fst (cellM n X Y m X' Y' q.snd).snd m = true → hasC m X' Y' (cellM n X Y m X' Y' q.snd).fst (cellM n X Y m X' Y' q.snd).snd m = true, hasC m X' Y' (cellM n X Y m X' Y' q.snd).fst (cellM n X Y m X' Y' q.snd).snd m = true → hasC m X' Y' (cellM n X Y m X' Y' q.snd).fst (cellM n
     X Y m X' Y' q.snd).snd m = true] (VT.ite (if hasC m X' Y' (cellM n X Y m X' Y' q.snd).fst (cellM n X Y m X' Y' q.snd).snd m = true then !hasC n X Y (cellM n X Y m X' Y' q.snd).fst (cellM n X Y m X' Y' q.snd).snd n else false) (VT.done [false = covF n X Y m X' Y']) (VT.done [List.length (gr n X m X') = List.length (gr n X m X'), ∀ (i : Nat), i < List.length (gr n X m X') → List.getD (gr n X m X') i (0 : Int) = List.getD (gr n X m X') i (0 : Int), List.length (gr n Y m Y') = List.length (gr n Y m Y'), ∀ (i : Nat), i < List.length (gr n Y m Y') → List.getD (gr n Y m Y') i (0 : Int) = List.getD (gr n Y m Y') i (0 : Int), n = n, ∀ (i : Nat), i < n → X i = X i, ∀ (i : Nat), i < n → Y i = Y i, m = m, ∀ (i : Nat), i < m → X' i = X' i, ∀ (i : Nat), i < m → Y' i = Y' i, false = false, ∀ (k : Nat), k ∈ q.fst ++ [q.snd] → badC n X Y m X' Y' k = false]))))) (by kernel_rfl) ?_
  simp only [VT.holds, AllT, imp_self, implies_true, and_true, true_and, toNat_succ, toNat_add2, toNat_zero', Int.toNat_natCast, Bool.if_true_left, Bool.if_false_right, Bool.decide_eq_true, Bool.or_eq_true, Bool.or_eq_false_iff, Bool.and_eq_true, Bool.and_eq_false_imp, Bool.not_eq_true', Bool.not_eq_false', Bool.not_not, bne_iff_ne, bne_eq_false_iff_eq, beq_iff_eq, beq_eq_false_iff_ne, decide_eq_true_eq, decide_eq_false_iff_not, ne_eq]
  rw [pair_eq]
  refine ⟨⟨Nat.le_refl _, grid_c n X Y m X' Y' hn2 hm2⟩, ⟨grid_seq n X Y m X' Y' hn2 hX hY hm2 hX' hY', fun _ _ => rfl, fun k hk => by cases hk⟩, fun _ h => ?_, fun i ⟨h1, h2, h3, h4⟩ => ⟨⟨has_c m X' Y' _ _ hm hm2 hX' hY', fun _ => has_c n X Y _ _ hn hn2 hX hY⟩, fun h => ?_, fun h k hk => ?_⟩⟩
  · rw [eq_comm, covF, decide_eq_true_eq]
    exact fun k hk => h k (List.mem_range.2 hk)
  · rw [eq_comm, covF, decide_eq_false_iff_not]
    intro hall
    have := hall i.2 h2
    simp [badC, h.1, h.2] at this
  · rcases List.mem_append.1 hk with hk | hk
    · exact h1 k hk
    · rw [List.mem_singleton.1 hk, badC]
      cases ha : hasC m X' Y' (cellM n X Y m X' Y' i.2).1 (cellM n X Y m X' Y' i.2).2 m with
      | false => rfl
      | true => rw [h ha]; rfl
noncomputable def A98_meets_c (n : Nat) (X Y : Nat → Int) (m : Nat) (X' Y' : Nat → Int) : Ann := { orc := [(1, [(3, rCells n X Y m X' Y')]), (4, [(3, rHas), (8, rHas)])], loops := [], cuts := [], rngs := [(0, { N := cellN n X Y m X' Y', enc := fun k => [.int .i64 (cellM n X Y m X' Y' k).1, .int .i64 (cellM n X Y m X' Y' k).2], keep := [2, 3, 4, 10], boxes := [2, 3, 4], bx := fun _ _ => [], inv := fun _ pre => ∀ k ∈ pre, metC n X Y m X' Y' k = false })] }
theorem meets_c (n : Nat) (X Y : Nat → Int) (m : Nat) (X' Y' : Nat → Int) (hn : 0 < n) (hn2 : n ≤ 800) (hX : inB n X) (hY : inB n Y) (hm : 0 < m) (hm2 : m ≤ 800) (hX' : inB m X') (hY' : inB m Y') : FnC prog 81 [pts n X Y, pts m X' Y'] (dB (metF n X Y m X' Y')) := by
  refine FnC_owed hmix (A98_meets_c n X Y m X' Y') (V := VT.need [(2 : Nat) ≤ (2 : Nat), FnC prog (86 : Nat) [DV.lst (2 : Nat) [fun (i : Nat) => DV.lst (if decide (i = (0 : Nat)) = true then n else m) [fun (i_1 : Nat) => DV.val (Value.int IntKind.i64 (if decide (i = (0 : Nat)) = true then X i_1 else X' i_1)), fun (i_1 : Nat) => DV.val (Value.int IntKind.i64 (if decide (i = (0 : Nat)) = true then Y i_1 else Y' i_1))]]] (DV.clo (92 : FuncId) [DV.cptr [DV.lst (List.length (gr n X m X')) [fun (i : Nat) => DV.val (Value.int IntKind.i64 (List.getD (gr n X m X') i (0 : Int)))]], DV.cptr [DV.lst (List.length (gr n Y m Y')) [fun (i : Nat) => DV.val (Value.int IntKind.i64 (List.getD (gr n Y m Y') i (0 : Int)))]]])] (VT.need [SeqC prog (92 : FuncId) [DV.cptr [DV.lst (List.length (gr n X m X')) [fun (i : Nat) => DV.val (Value.int IntKind.i64 (List.getD (gr n X m X') i (0 : Int)))]], DV.cptr [DV.lst (List.length (gr n Y m Y')) [fun (i : Nat) => DV.val (Value.int IntKind.i64 (List.getD (gr n Y m Y') i (0 : Int)))]]] (cellN n X Y m X' Y') fun (k : Nat) => [Value.int IntKind.i64 (cellM n X Y m X' Y' k).fst, Value.int IntKind.i64 (cellM n X Y m X' Y' k).snd], ∀ (k : Nat), k < cellN n X Y m X' Y' → List.length [Value.int IntKind.i64 (cellM n X Y m X' Y' k).fst, Value.int IntKind.i64 (cellM n X Y m X' Y' k).snd] = Array.size #[(11 : Nat), (12 : Nat)], List.length (gr n X m X') = List.length (gr n X m X'), ∀ (i : Nat), i < List.length (gr n X m X') → List.getD (gr n X m X') i (0 : Int) = List.getD (gr n X m X') i (0 : Int), List.length (gr n Y m Y') = List.length (gr n Y m Y'), ∀ (i : Nat), i < List.length (gr n Y m Y') → List.getD (gr n Y m Y') i (0 : Int) = List.getD (gr n Y m Y') i (0 : Int), n = n, ∀ (i : Nat), i < n → X i = X i, ∀ (i : Nat), i < n → Y i = Y i, m = m, ∀ (i : Nat), i < m → X' i = X' i, ∀ (i : Nat), i < m → Y' i = Y' i, false = false, ∀ (k : Nat), k ∈ [] → metC n X Y m X' Y' k = false] (VT.cut (List Nat × Nat) (fun (q : List Nat × Nat) => (∀ (k : Nat), k ∈ q.fst → metC n X Y m X' Y' k = false) ∧ q.snd < cellN n X Y
     m X' Y' ∧ List.length q.fst < cellN n X Y m X' Y' ∧ ∀ (y : Nat), y ∈ q.fst → y < cellN n X Y m X' Y') (VT.cut Unit (fun (u : Unit) => ∀ (k : Nat), k ∈ List.range (cellN n X Y m X' Y') → metC n X Y m X' Y' k = false) (VT.done []) fun (u : Unit) => VT.done [false = metF n X Y m X' Y']) fun (q : List Nat × Nat) => VT.need [FnC prog (87 : Nat) [DV.lst m [fun (i : Nat) => DV.val (Value.int IntKind.i64 (X' i)), fun (i : Nat) => DV.val (Value.int IntKind.i64 (Y' i))], DV.val (Value.int IntKind.i64 (cellM n X Y m X' Y' q.snd).fst), DV.val (Value.int IntKind.i64 (cellM n X Y m X' Y' q.snd).snd)] (DV.val (Value.bool (hasC m X' Y' (cellM n X Y m X' Y' q.snd).fst (cellM n X Y m X' Y' q.snd).snd m))), hasC m X' Y' (cellM n X Y m X' Y' q.snd).fst (cellM n X Y m X' Y' q.snd).snd m = true → hasC m X' Y' (cellM n X Y m X' Y' q.snd).fst (cellM n X Y m X' Y' q.snd).snd m = true, hasC m X' Y' (cellM n X Y m X' Y' q.snd).fst (cellM n X Y m X' Y' q.snd).snd m = true → hasC m X' Y' (cellM n X Y m X' Y' q.snd).fst (cellM n X Y m X' Y' q.snd).snd m = true, hasC m X' Y' (cellM n X Y m X' Y' q.snd).fst (cellM n X Y m X' Y' q.snd).snd m = true → hasC m X' Y' (cellM n X Y m X' Y' q.snd).fst (cellM n X Y m X' Y' q.snd).snd m = true, hasC m X' Y' (cellM n X Y m X' Y' q.snd).fst (cellM n X Y m X' Y' q.snd).snd m = true → FnC prog (87 : Nat) [DV.lst n [fun (i : Nat) => DV.val (Value.int IntKind.i64 (X i)), fun (i : Nat) => DV.val (Value.int IntKind.i64 (Y i))], DV.val (Value.int IntKind.i64 (cellM n X Y m X' Y' q.snd).fst), DV.val (Value.int IntKind.i64 (cellM n X Y m X' Y' q.snd).snd)] (DV.val (Value.bool (hasC n X Y (cellM n X Y m X' Y' q.snd).fst (cellM n X Y m X' Y' q.snd).snd n))), hasC m X' Y' (cellM n X Y m X' Y' q.snd).fst (cellM n X Y m X' Y' q.snd).snd m = true → hasC m X' Y' (cellM n X Y m X' Y' q.snd).fst (cellM n X Y m X' Y' q.snd).snd m = true] (VT.ite (if hasC m X' Y' (cellM n X Y m X' Y' q.snd).fst (cellM n X Y m X' Y' q.snd).snd m = true then hasC n X Y (cellM n X Y m X' Y'
     q.snd).fst (cellM n X Y m X' Y' q.snd).snd n else false) (VT.done [true = metF n X Y m X' Y']) (VT.done [List.length (gr n X m X') = List.length (gr n X m X'), ∀ (i : Nat), i < List.length (gr n X m X') → List.getD (gr n X m X') i (0 : Int) = List.getD (gr n X m X') i (0 : Int), List.length (gr n Y m Y') = List.length (gr n Y m Y'), ∀ (i : Nat), i < List.length (gr n Y m Y') → List.getD (gr n Y m Y') i (0 : Int) = List.getD (gr n Y m Y') i (0 : Int), n = n, ∀ (i : Nat), i < n → X i = X i, ∀ (i : Nat), i < n → Y i = Y i, m = m, ∀ (i : Nat), i < m → X' i = X' i, ∀ (i : Nat), i < m → Y' i = Y' i, false = false, ∀ (k : Nat), k ∈ q.fst ++ [q.snd] → metC n X Y m X' Y' k = false]))))) (by kernel_rfl) ?_
  simp only [VT.holds, AllT, imp_self, implies_true, and_true, true_and, toNat_succ, toNat_add2, toNat_zero', Int.toNat_natCast, Bool.if_true_left, Bool.if_false_right, Bool.decide_eq_true, Bool.or_eq_true, Bool.or_eq_false_iff, Bool.and_eq_true, Bool.and_eq_false_imp, Bool.not_eq_true', Bool.not_eq_false', Bool.not_not, bne_iff_ne, bne_eq_false_iff_eq, beq_iff_eq, beq_eq_false_iff_ne, decide_eq_true_eq, decide_eq_false_iff_not, ne_eq]
  rw [pair_eq]
  refine ⟨⟨Nat.le_refl _, grid_c n X Y m X' Y' hn2 hm2⟩, ⟨grid_seq n X Y m X' Y' hn2 hX hY hm2 hX' hY', fun _ _ => rfl, fun k hk => by cases hk⟩, fun _ h => ?_, fun i ⟨h1, h2, h3, h4⟩ => ⟨⟨has_c m X' Y' _ _ hm hm2 hX' hY', fun _ => has_c n X Y _ _ hn hn2 hX hY⟩, fun h => ?_, fun h k hk => ?_⟩⟩
  · rw [eq_comm, metF, Bool.not_eq_false', decide_eq_true_eq]
    exact fun k hk => h k (List.mem_range.2 hk)
  · rw [eq_comm, metF, Bool.not_eq_true', decide_eq_false_iff_not]
    intro hall
    have := hall i.2 h2
    simp [metC, h.1, h.2] at this
  · rcases List.mem_append.1 hk with hk | hk
    · exact h1 k hk
    · rw [List.mem_singleton.1 hk, metC]
      cases ha : hasC m X' Y' (cellM n X Y m X' Y' i.2).1 (cellM n X Y m X' Y' i.2).2 m with
      | false => rfl
      | true => rw [h ha]; rfl
end Go.Abs
