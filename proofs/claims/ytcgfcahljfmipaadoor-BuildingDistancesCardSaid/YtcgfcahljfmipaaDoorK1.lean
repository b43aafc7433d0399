/- Contracts. -/
import Derived.Test.YtcgfcahljfmipaaDoorAbsT
import Derived.Test.YtcgfcahljfmipaaDoorProg
set_option linter.unusedVariables false
set_option maxRecDepth 100000
namespace Go.Abs
open Go
noncomputable abbrev prog : Program := Go.Proofs.Tryd.prog
theorem hmix : prog.follows .mixedOrders = true := by kernel_rfl
/-- A list of points. -/
abbrev pts (n : Nat) (X Y : Nat → Int) : DV := .lst n [fun i => .val (.int .i64 (X i)), fun i => .val (.int .i64 (Y i))]
abbrev dP (x y : Int) : DV := .val (.agg #[.int .i64 x, .int .i64 y])
/-- A corner's number, going round. -/
def ix (n : Nat) (i : Int) : Nat := ((i + (n : Int)) % (n : Int)).toNat
/-- Within bounds, each of the first n. -/
def inB (n : Nat) (X : Nat → Int) : Prop := ∀ k, k < n → -1000000 ≤ X k ∧ X k ≤ 1000000
theorem ix_lt {n : Nat} {i : Int} (hn : 0 < n) : ix n i < n := by
  have := Int.emod_lt_of_pos (i + n) (show (0:Int) < n by omega)
  have := Int.emod_nonneg (i + n) (show (n : Int) ≠ 0 by omega)
  unfold ix; omega
/-- The direction from a point to another one, and whether there is one. -/
def dirD (a b c d : Int) : Int := if b = d ∧ a < c then 0 else if a = c ∧ b < d then 1 else if b = d ∧ a > c then 2 else if a = c ∧ b > d then 3 else 0
def dirOk (a b c d : Int) : Bool := decide ((b = d ∧ a ≠ c) ∨ (a = c ∧ b ≠ d))
/-- The direction of a side, and whether there is one. -/
def dD (n : Nat) (X Y : Nat → Int) (i : Int) : Int := dirD (X (ix n i)) (Y (ix n i)) (X (ix n (i + 1))) (Y (ix n (i + 1)))
def dO (n : Nat) (X Y : Nat → Int) (i : Int) : Bool := dirOk (X (ix n i)) (Y (ix n i)) (X (ix n (i + 1))) (Y (ix n (i + 1)))
theorem dD_range (n : Nat) (X Y : Nat → Int) (i : Int) : 0 ≤ dD n X Y i ∧ dD n X Y i ≤ 3 := by
  unfold dD dirD; grind
/-- The ends of a side in one coordinate. -/
def lo (n : Nat) (X : Nat → Int) (i : Int) : Int := min (X (ix n i)) (X (ix n (i + 1)))
def hi (n : Nat) (X : Nat → Int) (i : Int) : Int := max (X (ix n i)) (X (ix n (i + 1)))
/-- The callees' answers, out of their arguments. -/
abbrev aN (l : List DV) : Nat := lenOf (arg l 0)
abbrev aX (l : List DV) : Nat → Int := colI 0 (arg l 0)
abbrev aY (l : List DV) : Nat → Int := colI 1 (arg l 0)
abbrev aI (l : List DV) (j : Nat) : Int := iOf (arg l j)
def rAt : Orc := .res fun l => dP (aX l (ix (aN l) (aI l 1))) (aY l (ix (aN l) (aI l 1)))
def rSpan : Orc := .res fun l => .tup [dP (lo (aN l) (aX l) (aI l 1)) (lo (aN l) (aY l) (aI l 1)), dP (hi (aN l) (aX l) (aI l 1)) (hi (aN l) (aY l) (aI l 1))]
def rDir : Orc := .res fun l => .tup [dI (dD (aN l) (aX l) (aY l) (aI l 1)), dB (dO (aN l) (aX l) (aY l) (aI l 1))]
def rWay : Orc := .res fun l => dI (dD (aN l) (aX l) (aY l) (aI l 1))
def rOuter : Orc := .res fun l => dB (decide (dD (aN l) (aX l) (aY l) (aI l 1) = (dD (aN l) (aX l) (aY l) (aI l 1 - 1) + 1) % 4))
def rTouch : Orc := .res fun l => dB (decide (lo (aN l) (aX l) (aI l 1) ≤ hi (aN l) (aX l) (aI l 2) ∧ lo (aN l) (aX l) (aI l 2) ≤ hi (aN l) (aX l) (aI l 1) ∧ lo (aN l) (aY l) (aI l 1) ≤ hi (aN l) (aY l) (aI l 2) ∧ lo (aN l) (aY l) (aI l 2) ≤ hi (aN l) (aY l) (aI l 1)))
def inF (x : Int) : Bool := decide (-1000000 ≤ x ∧ x ≤ 1000000)
def rIn : Orc := .res fun l => dB (inF (aI l 0))
def rBad : Orc := .res fun l => dB (!(inF (fI 0 (arg l 0)) && inF (fI 1 (arg l 0))))
def rAbs : Orc := .res fun l => dI ((aI l 0).natAbs : Int)
def rApart : Orc := .res fun l => dI (max (max (aI l 1 - aI l 0) (aI l 0 - aI l 2)) 0)
def rChkP : Orc := .res fun l => dI (if inF (fI 0 (arg l 0)) = true ∧ inF (fI 1 (arg l 0)) = true then 0 else 2)
noncomputable def A63_at_c (n : Nat) (X Y : Nat → Int) (i : Int) : Ann := { orc := [(1, [(7, .pos)])], loops := [], cuts := [] }
theorem at_c (n : Nat) (X Y : Nat → Int) (i : Int) (hn : 0 < n) (hn2 : n ≤ 1000) (h1 : -(n : Int) ≤ i) (h2 : i ≤ 1000) : FnC prog 46 [pts n X Y, dI i] (dP (X (ix n i)) (Y (ix n i))) := by
  refine FnC_owed hmix (A63_at_c n X Y i) (V := VT.need [i64In (i + (n:Int)), (0:Int) ≤ i + (n:Int) ∧ (0:Int) < (n:Int), (0:Int) ≤ (i + (n:Int)) % (n:Int) ∧ (i + (n:Int)) % (n:Int) < (n:Int)] (VT.done [X ((i + (n:Int)) % (n:Int)).toNat = X (ix n i), Y ((i + (n:Int)) % (n:Int)).toNat = Y (ix n i)])) (by kernel_rfl) ?_
  simp only [VT.holds, AllT, i64In]
  have := Int.emod_lt_of_pos (i + n) (show (0:Int) < n by omega)
  have := Int.emod_nonneg (i + n) (show (n : Int) ≠ 0 by omega)
  refine ⟨⟨by omega, by omega, by omega⟩, rfl, rfl⟩
noncomputable def A90_abs_c (x : Int) : Ann := { orc := [], loops := [], cuts := [] }
theorem abs_c (x : Int) (h : -9223372036854775807 ≤ x ∧ x ≤ 9223372036854775807) : FnC prog 47 [dI x] (dI (x.natAbs : Int)) := by
  refine FnC_owed hmix (A90_abs_c x) (V := VT.need [i64In (-x)] (VT.done [maxs x [-x] = (↑(Int.natAbs x) : Int)])) (by kernel_rfl) ?_
  simp only [VT.holds, AllT, i64In, maxs]
  exact ⟨by omega, by split <;> omega⟩
noncomputable def A71_inside_c (x : Int) : Ann := { orc := [], loops := [], cuts := [] }
theorem inside_c (x : Int)  : FnC prog 51 [dI x] (dB (inF x)) := by
  refine FnC_owed hmix (A71_inside_c x) (V := VT.need [decide (x ≥ (-1000000:Int)) = true → decide (x ≥ (-1000000:Int)) = true, decide (x ≥ (-1000000:Int)) = true → decide (x ≥ (-1000000:Int)) = true] (VT.done [(if decide (x ≥ (-1000000:Int)) = true then decide (x ≤ 1000000) else false) = inF x])) (by kernel_rfl) ?_
  simp only [VT.holds, AllT, inF]
  grind
noncomputable def A53_span_c (n : Nat) (X Y : Nat → Int) (i : Int) : Ann := { orc := [(1, [(2, rAt), (6, rAt)])], loops := [], cuts := [] }
theorem span_c (n : Nat) (X Y : Nat → Int) (i : Int) (hn : 0 < n) (hn2 : n ≤ 1000) (h1 : -(n : Int) ≤ i) (h2 : i ≤ 900) : FnC prog 41 [pts n X Y, dI i] (.tup [dP (lo n X i) (lo n Y i), dP (hi n X i) (hi n Y i)]) := by
  refine FnC_owed hmix (A53_span_c n X Y i) (V := VT.need [FnC prog 46 [DV.lst n [fun (i : Nat) => DV.val (Value.int IntKind.i64 (X i)), fun (i : Nat) => DV.val (Value.int IntKind.i64 (Y i))], DV.val (Value.int IntKind.i64 i)] (DV.val (Value.agg { toList := [Value.int IntKind.i64 (X (ix n i)), Value.int IntKind.i64 (Y (ix n i))] })), i64In (i + 1), FnC prog 46 [DV.lst n [fun (i : Nat) => DV.val (Value.int IntKind.i64 (X i)), fun (i : Nat) => DV.val (Value.int IntKind.i64 (Y i))], DV.val (Value.int IntKind.i64 (i + 1))] (DV.val (Value.agg { toList := [Value.int IntKind.i64 (X (ix n (i + 1))), Value.int IntKind.i64 (Y (ix n (i + 1)))] }))] (VT.done [mins (X (ix n i)) [X (ix n (i + 1))] = lo n X i, mins (Y (ix n i)) [Y (ix n (i + 1))] = lo n Y i, maxs (X (ix n i)) [X (ix n (i + 1))] = hi n X i, maxs (Y (ix n i)) [Y (ix n (i + 1))] = hi n Y i])) (by kernel_rfl) ?_
  simp only [VT.holds, AllT, mins, maxs]
  refine ⟨⟨at_c n X Y i hn hn2 h1 (by omega), by unfold i64In; omega, at_c n X Y (i + 1) hn hn2 (by omega) (by omega)⟩, ?_⟩
  simp only [lo, hi]
  refine ⟨?_, ?_, ?_, ?_⟩ <;> split <;> omega
noncomputable def A91_dir_c (n : Nat) (X Y : Nat → Int) (i : Int) : Ann := { orc := [(1, [(2, rAt), (6, rAt)])], loops := [], cuts := [] }
theorem dir_c (n : Nat) (X Y : Nat → Int) (i : Int) (hn : 0 < n) (hn2 : n ≤ 1000) (h1 : -(n : Int) ≤ i) (h2 : i ≤ 900) : FnC prog 48 [pts n X Y, dI i] (.tup [dI (dD n X Y i), dB (dO n X Y i)]) := by
  refine FnC_owed hmix (A91_dir_c n X Y i) (V := VT.need [FnC prog 46 [DV.lst n [fun (i : Nat) => DV.val (Value.int IntKind.i64 (X i)), fun (i : Nat) => DV.val (Value.int IntKind.i64 (Y i))], DV.val (Value.int IntKind.i64 i)] (DV.val (Value.agg { toList := [Value.int IntKind.i64 (X (ix n i)), Value.int IntKind.i64 (Y (ix n i))] })), i64In (i + 1), FnC prog 46 [DV.lst n [fun (i : Nat) => DV.val (Value.int IntKind.i64 (X i)), fun (i : Nat) => DV.val (Value.int IntKind.i64 (Y i))], DV.val (Value.int IntKind.i64 (i + 1))] (DV.val (Value.agg { toList := [Value.int IntKind.i64 (X (ix n (i + 1))), Value.int IntKind.i64 (Y (ix n (i + 1)))] }))] (VT.need [(Y (ix n i) == Y (ix n (i + 1))) = true → (Y (ix n i) == Y (ix n (i + 1))) = true, (Y (ix n i) == Y (ix n (i + 1))) = true → (Y (ix n i) == Y (ix n (i + 1))) = true, (Y (ix n i) == Y (ix n (i + 1))) = true → (Y (ix n i) == Y (ix n (i + 1))) = true, (Y (ix n i) == Y (ix n (i + 1))) = true → (Y (ix n i) == Y (ix n (i + 1))) = true, (Y (ix n i) == Y (ix n (i + 1))) = true → (Y (ix n i) == Y (ix n (i + 1))) = true] (VT.ite (if (Y (ix n i) == Y (ix n (i + 1))) = true then decide (X (ix n i) < X (ix n (i + 1))) else false) (VT.done [(0:Int) = dD n X Y i, true = dO n X Y i]) (VT.need [(X (ix n i) == X (ix n (i + 1))) = true → (X (ix n i) == X (ix n (i + 1))) = true, (X (ix n i) == X (ix n (i + 1))) = true → (X (ix n i) == X (ix n (i + 1))) = true, (X (ix n i) == X (ix n (i + 1))) = true → (X (ix n i) == X (ix n (i + 1))) = true, (X (ix n i) == X (ix n (i + 1))) = true → (X (ix n i) == X (ix n (i + 1))) = true, (X (ix n i) == X (ix n (i + 1))) = true → (X (ix n i) == X (ix n (i + 1))) = true] (VT.ite (if (X (ix n i) == X (ix n (i + 1))) = true then decide (Y (ix n i) < Y (ix n (i + 1))) else false) (VT.done [(1:Int) = dD n X Y i, true
     = dO n X Y i]) (VT.need [(Y (ix n i) == Y (ix n (i + 1))) = true → (Y (ix n i) == Y (ix n (i + 1))) = true, (Y (ix n i) == Y (ix n (i + 1))) = true → (Y (ix n i) == Y (ix n (i + 1))) = true, (Y (ix n i) == Y (ix n (i + 1))) = true → (Y (ix n i) == Y (ix n (i + 1))) = true, (Y (ix n i) == Y (ix n (i + 1))) = true → (Y (ix n i) == Y (ix n (i + 1))) = true, (Y (ix n i) == Y (ix n (i + 1))) = true → (Y (ix n i) == Y (ix n (i + 1))) = true] (VT.ite (if (Y (ix n i) == Y (ix n (i + 1))) = true then decide (X (ix n i) > X (ix n (i + 1))) else false) (VT.done [(2:Int) = dD n X Y i, true = dO n X Y i]) (VT.need [(X (ix n i) == X (ix n (i + 1))) = true → (X (ix n i) == X (ix n (i + 1))) = true, (X (ix n i) == X (ix n (i + 1))) = true → (X (ix n i) == X (ix n (i + 1))) = true, (X (ix n i) == X (ix n (i + 1))) = true → (X (ix n i) == X (ix n (i + 1))) = true, (X (ix n i) == X (ix n (i + 1))) = true → (X (ix n i) == X (ix n (i + 1))) = true, (X (ix n i) == X (ix n (i + 1))) = true → (X (ix n i) == X (ix n (i + 1))) = true] (VT.ite (if (X (ix n i) == X (ix n (i + 1))) = true then decide (Y (ix n i) > Y (ix n (i + 1))) else false) (VT.done [(3:Int) = dD n X Y i, true = dO n X Y i]) (VT.done [(0:Int) = dD n X Y i, false = dO n X Y i])))))))))) (by kernel_rfl) ?_
  simp only [VT.holds, AllT]
  refine ⟨⟨at_c n X Y i hn hn2 h1 (by omega), by unfold i64In; omega, at_c n X Y (i + 1) hn hn2 (by omega) (by omega)⟩, ?_⟩
  unfold dD dO dirD dirOk
  generalize X (ix n i) = a
  generalize Y (ix n i) = b
  generalize X (ix n (i + 1)) = c
  generalize Y (ix n (i + 1)) = d
  simp only [imp_self, true_and, Bool.if_false_right, Bool.and_eq_true, beq_iff_eq, decide_eq_true_eq, Bool.and_eq_false_imp, decide_eq_false_iff_not]
  refine ⟨fun h => ?_, fun h1 => ⟨fun h => ?_, fun h2 => ⟨fun h => ?_, fun h3 => ⟨fun h => ?_, fun h4 => ?_⟩⟩⟩⟩
  all_goals grind
noncomputable def A65_way_c (n : Nat) (X Y : Nat → Int) (i : Int) : Ann := { orc := [(1, [(2, rDir)])], loops := [], cuts := [] }
theorem way_c (n : Nat) (X Y : Nat → Int) (i : Int) (hn : 0 < n) (hn2 : n ≤ 1000) (h1 : -(n : Int) ≤ i) (h2 : i ≤ 900) : FnC prog 29 [pts n X Y, dI i] (dI (dD n X Y i)) := by
  refine FnC_owed hmix (A65_way_c n X Y i) (V := VT.need [FnC prog 48 [DV.lst n [fun (i : Nat) => DV.val (Value.int IntKind.i64 (X i)), fun (i : Nat) => DV.val (Value.int IntKind.i64 (Y i))], DV.val (Value.int IntKind.i64 i)] (DV.tup [DV.val (Value.int IntKind.i64 (dD n X Y i)), DV.val (Value.bool (dO n X Y i))])] (VT.done [dD n X Y i = dD n X Y i])) (by kernel_rfl) ?_
  simp only [VT.holds, AllT]
  exact ⟨dir_c n X Y i hn hn2 h1 h2, trivial⟩
noncomputable def A66_outer_c (n : Nat) (X Y : Nat → Int) (i : Int) : Ann := { orc := [(1, [(2, rWay), (6, rWay), (8, .pos)])], loops := [], cuts := [] }
theorem outer_c (n : Nat) (X Y : Nat → Int) (i : Int) (hn : 0 < n) (hn2 : n ≤ 1000) (h1 : -(n : Int) < i) (h2 : i ≤ 900) : FnC prog 26 [pts n X Y, dI i] (dB (decide (dD n X Y i = (dD n X Y (i - 1) + 1) % 4))) := by
  refine FnC_owed hmix (A66_outer_c n X Y i) (V := VT.need [FnC prog 29 [DV.lst n [fun (i : Nat) => DV.val (Value.int IntKind.i64 (X i)), fun (i : Nat) => DV.val (Value.int IntKind.i64 (Y i))], DV.val (Value.int IntKind.i64 i)] (DV.val (Value.int IntKind.i64 (dD n X Y i))), i64In (i - 1), FnC prog 29 [DV.lst n [fun (i : Nat) => DV.val (Value.int IntKind.i64 (X i)), fun (i : Nat) => DV.val (Value.int IntKind.i64 (Y i))], DV.val (Value.int IntKind.i64 (i - 1))] (DV.val (Value.int IntKind.i64 (dD n X Y (i - 1)))), i64In (dD n X Y (i - 1) + 1), (0:Int) ≤ dD n X Y (i - 1) + 1 ∧ (0:Int) < 4] (VT.done [(dD n X Y i == (dD n X Y (i - 1) + 1) % (4:Int)) = decide (dD n X Y i = (dD n X Y (i - 1) + 1) % (4:Int))])) (by kernel_rfl) ?_
  simp only [VT.holds, AllT, i64In]
  have := dD_range n X Y (i - 1)
  refine ⟨⟨way_c n X Y i hn hn2 (by omega) h2, by omega, way_c n X Y (i - 1) hn hn2 (by omega) (by omega), by omega, by omega⟩, ?_⟩
  grind
noncomputable def A94_touch_c (n : Nat) (X Y : Nat → Int) (i k : Int) : Ann := { orc := [(1, [(2, rSpan)]), (2, [(2, rSpan)])], loops := [], cuts := [] }
theorem touch_c (n : Nat) (X Y : Nat → Int) (i k : Int) (hn : 0 < n) (hn2 : n ≤ 1000) (h1 : -(n : Int) ≤ i) (h2 : i ≤ 900) (k1 : -(n : Int) ≤ k) (k2 : k ≤ 900) : FnC prog 52 [pts n X Y, dI i, dI k] (dB (decide (lo n X i ≤ hi n X k ∧ lo n X k ≤ hi n X i ∧ lo n Y i ≤ hi n Y k ∧ lo n Y k ≤ hi n Y i))) := by
  refine FnC_owed hmix (A94_touch_c n X Y i k) (V := VT.need [FnC prog 41 [DV.lst n [fun (i : Nat) => DV.val (Value.int IntKind.i64 (X i)), fun (i : Nat) => DV.val (Value.int IntKind.i64 (Y i))], DV.val (Value.int IntKind.i64 i)] (DV.tup [DV.val (Value.agg { toList := [Value.int IntKind.i64 (lo n X i), Value.int IntKind.i64 (lo n Y i)] }), DV.val (Value.agg { toList := [Value.int IntKind.i64 (hi n X i), Value.int IntKind.i64 (hi n Y i)] })])] (VT.need [FnC prog 41 [DV.lst n [fun (i : Nat) => DV.val (Value.int IntKind.i64 (X i)), fun (i : Nat) => DV.val (Value.int IntKind.i64 (Y i))], DV.val (Value.int IntKind.i64 k)] (DV.tup [DV.val (Value.agg { toList := [Value.int IntKind.i64 (lo n X k), Value.int IntKind.i64 (lo n Y k)] }), DV.val (Value.agg { toList := [Value.int IntKind.i64 (hi n X k), Value.int IntKind.i64 (hi n Y k)] })])] (VT.need [decide (lo n X i ≤ hi n X k) = true → decide (lo n X i ≤ hi n X k) = true, decide (lo n X i ≤ hi n X k) = true → decide (lo n X i ≤ hi n X k) = true, decide (lo n X i ≤ hi n X k) = true → decide (lo n X i ≤ hi n X k) = true, decide (lo n X i ≤ hi n X k) = true → decide (lo n X i ≤ hi n X k) = true, decide (lo n X i ≤ hi n X k) = true → decide (lo n X i ≤ hi n X k) = true, (if decide (lo n X i ≤ hi n X k) = true then decide (lo n X k ≤ hi n X i) else false) = true → (if decide (lo n X i ≤ hi n X k) = true then decide (lo n X k ≤ hi n X i) else false) = true, (if decide (lo n X i ≤ hi n X k) = true then decide (lo n X k ≤ hi n X i) else false) = true → (if decide (lo n X i ≤ hi n X k) = true then decide (lo n X k ≤ hi n X i) else false) = true, (if decide (lo n X i ≤ hi n X k) = true then decide (lo n X k ≤ hi n X i) else false) = true → (if decide (lo n X i ≤ hi n X k) = true then decide (lo n X k ≤ hi n X i) else false) = true, (if decide (lo n X i ≤ hi n X k) = true then decide (lo n X k ≤ hi n X i) else false) = true → (if decide (lo n X i ≤ hi n X k) = true then decide (lo n X k ≤ hi n X i) else false) = true, (if decide (lo n X i ≤ hi n X k) = true then
     decide (lo n X k ≤ hi n X i) else false) = true → (if decide (lo n X i ≤ hi n X k) = true then decide (lo n X k ≤ hi n X i) else false) = true, (if (if decide (lo n X i ≤ hi n X k) = true then decide (lo n X k ≤ hi n X i) else false) = true then decide (lo n Y i ≤ hi n Y k) else false) = true → (if (if decide (lo n X i ≤ hi n X k) = true then decide (lo n X k ≤ hi n X i) else false) = true then decide (lo n Y i ≤ hi n Y k) else false) = true, (if (if decide (lo n X i ≤ hi n X k) = true then decide (lo n X k ≤ hi n X i) else false) = true then decide (lo n Y i ≤ hi n Y k) else false) = true → (if (if decide (lo n X i ≤ hi n X k) = true then decide (lo n X k ≤ hi n X i) else false) = true then decide (lo n Y i ≤ hi n Y k) else false) = true, (if (if decide (lo n X i ≤ hi n X k) = true then decide (lo n X k ≤ hi n X i) else false) = true then decide (lo n Y i ≤ hi n Y k) else false) = true → (if (if decide (lo n X i ≤ hi n X k) = true then decide (lo n X k ≤ hi n X i) else false) = true then decide (lo n Y i ≤ hi n Y k) else false) = true, (if (if decide (lo n X i ≤ hi n X k) = true then decide (lo n X k ≤ hi n X i) else false) = true then decide (lo n Y i ≤ hi n Y k) else false) = true → (if (if decide (lo n X i ≤ hi n X k) = true then decide (lo n X k ≤ hi n X i) else false) = true then decide (lo n Y i ≤ hi n Y k) else false) = true, (if (if decide (lo n X i ≤ hi n X k) = true then decide (lo n X k ≤ hi n X i) else false) = true then decide (lo n Y i ≤ hi n Y k) else false) = true → (if (if decide (lo n X i ≤ hi n X k) = true then decide (lo n X k ≤ hi n X i) else false) = true then decide (lo n Y i ≤ hi n Y k) else false) = true] (VT.done [(if (if (if decide (lo n X i ≤ hi n X k) = true then decide (lo n X k ≤ hi n X i) else false) = true then decide (lo n Y i ≤ hi n Y k) else false) = true then decide (lo n Y k ≤ hi n Y i) else false) = decide (lo n X i ≤ hi n X k ∧ lo n X k ≤ hi n X i ∧ lo n Y i ≤ hi n Y k ∧ lo n Y k ≤ hi n Y i)])))) (by kernel_rfl) ?_
  simp only [VT.holds, AllT]
  refine ⟨span_c n X Y i hn hn2 h1 h2, span_c n X Y k hn hn2 k1 k2, ?_⟩
  simp only [imp_self, true_and, Bool.if_false_right]
  grind
noncomputable def A93_bad_c (x y : Int) : Ann := { orc := [(1, [(2, rIn), (7, rIn)])], loops := [], cuts := [] }
theorem bad_c (x y : Int)  : FnC prog 50 [dP x y] (dB (!(inF x && inF y))) := by
  refine FnC_owed hmix (A93_bad_c x y) (V := VT.need [FnC prog 51 [DV.val (Value.int IntKind.i64 x)] (DV.val (Value.bool (inF x))), (!!inF x) = true → (!!inF x) = true, (!!inF x) = true → (!!inF x) = true, (!!inF x) = true → FnC prog 51 [DV.val (Value.int IntKind.i64 y)] (DV.val (Value.bool (inF y))), (!!inF x) = true → (!!inF x) = true, (!inF x) = false → (!!inF x) = true] (VT.done [(if (!inF x) = true then true else !inF y) = !(inF x && inF y)])) (by kernel_rfl) ?_
  simp only [VT.holds, AllT]
  refine ⟨⟨inside_c x, ?_⟩, ?_⟩
  · simp only [imp_self, true_and, and_true]
    have := inside_c y
    grind
  · grind
noncomputable def A54_apart_c (x l h : Int) : Ann := { orc := [], loops := [], cuts := [] }
theorem apart_c (x l h : Int) (h1 : -9000000 ≤ x ∧ x ≤ 9000000) (h2 : -9000000 ≤ l ∧ l ≤ 9000000) (h3 : -9000000 ≤ h ∧ h ≤ 9000000) : FnC prog 42 [dI x, dI l, dI h] (dI (max (max (l - x) (x - h)) 0)) := by
  refine FnC_owed hmix (A54_apart_c x l h) (V := VT.need [i64In (l - x), i64In (x - h)] (VT.done [maxs (l - x) [x - h, (0:Int)] = max (max (l - x) (x - h)) (0:Int)])) (by kernel_rfl) ?_
  simp only [VT.holds, AllT, i64In, maxs]
  refine ⟨⟨by omega, by omega⟩, ?_⟩
  split <;> split <;> omega
noncomputable def A51_checkPoint_c (x y : Int) : Ann := { orc := [(1, [(2, rIn), (7, rIn)])], loops := [], cuts := [] }
theorem checkPoint_c (x y : Int)  : FnC prog 43 [dP x y] (dI (if inF x = true ∧ inF y = true then 0 else 2)) := by
  refine FnC_owed hmix (A51_checkPoint_c x y) (V := VT.need [FnC prog 51 [DV.val (Value.int IntKind.i64 x)] (DV.val (Value.bool (inF x))), (!!inF x) = true → (!!inF x) = true, (!!inF x) = true → (!!inF x) = true, (!!inF x) = true → FnC prog 51 [DV.val (Value.int IntKind.i64 y)] (DV.val (Value.bool (inF y))), (!!inF x) = true → (!!inF x) = true, (!inF x) = false → (!!inF x) = true] (VT.ite (if (!inF x) = true then true else !inF y) (VT.done [(2:Int) = if inF x = true ∧ inF y = true then (0:Int) else (2:Int)]) (VT.done [(0:Int) = if inF x = true ∧ inF y = true then (0:Int) else (2:Int)]))) (by kernel_rfl) ?_
  simp only [VT.holds, AllT]
  have := inside_c y
  refine ⟨⟨inside_c x, ?_⟩, ?_⟩
  · grind
  · grind
end Go.Abs
