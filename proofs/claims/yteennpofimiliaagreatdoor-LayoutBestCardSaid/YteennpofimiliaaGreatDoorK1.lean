/- Contracts. -/
import Derived.Test.YteennpofimiliaaGreatDoorAbsT
import Derived.Test.YteennpofimiliaaGreatDoorProg
set_option linter.unusedVariables false
set_option maxRecDepth 100000
namespace Go.Abs
open Go
noncomputable abbrev prog : Program := Go.Proofs.Tryz.prog
theorem hmix : prog.follows .mixedOrders = true := by kernel_rfl
abbrev pts (n : Nat) (X Y : Nat → Int) : DV := .lst n [fun i => .val (.int .i64 (X i)), fun i => .val (.int .i64 (Y i))]
abbrev dP (x y : Int) : DV := .val (.agg #[.int .i64 x, .int .i64 y])
def ix (n : Nat) (i : Int) : Nat := ((i + (n : Int)) % (n : Int)).toNat
def inB (n : Nat) (X : Nat → Int) : Prop := ∀ k, k < n → -1000000 ≤ X k ∧ X k ≤ 1000000
theorem ix_lt {n : Nat} {i : Int} (hn : 0 < n) : ix n i < n := by
  have := Int.emod_lt_of_pos (i + n) (show (0:Int) < n by omega)
  have := Int.emod_nonneg (i + n) (show (n : Int) ≠ 0 by omega)
  unfold ix; omega
def dirD (a b c d : Int) : Int := if b = d ∧ a < c then 0 else if a = c ∧ b < d then 1 else if b = d ∧ a > c then 2 else if a = c ∧ b > d then 3 else 0
def dirOk (a b c d : Int) : Bool := decide ((b = d ∧ a ≠ c) ∨ (a = c ∧ b ≠ d))
def dD (n : Nat) (X Y : Nat → Int) (i : Int) : Int := dirD (X (ix n i)) (Y (ix n i)) (X (ix n (i + 1))) (Y (ix n (i + 1)))
def dO (n : Nat) (X Y : Nat → Int) (i : Int) : Bool := dirOk (X (ix n i)) (Y (ix n i)) (X (ix n (i + 1))) (Y (ix n (i + 1)))
theorem dD_range (n : Nat) (X Y : Nat → Int) (i : Int) : 0 ≤ dD n X Y i ∧ dD n X Y i ≤ 3 := by
  unfold dD dirD; grind
def lo (n : Nat) (X : Nat → Int) (i : Int) : Int := min (X (ix n i)) (X (ix n (i + 1)))
def hi (n : Nat) (X : Nat → Int) (i : Int) : Int := max (X (ix n i)) (X (ix n (i + 1)))
abbrev aN (l : List DV) : Nat := lenOf (arg l 0)
abbrev aX (l : List DV) : Nat → Int := colI 0 (arg l 0)
abbrev aY (l : List DV) : Nat → Int := colI 1 (arg l 0)
abbrev aI (l : List DV) (j : Nat) : Int := iOf (arg l j)
def rAt : Orc := .res fun l => dP (aX l (ix (aN l) (aI l 1))) (aY l (ix (aN l) (aI l 1)))
def rSpan : Orc := .res fun l => .tup [dP (lo (aN l) (aX l) (aI l 1)) (lo (aN l) (aY l) (aI l 1)), dP (hi (aN l) (aX l) (aI l 1)) (hi (aN l) (aY l) (aI l 1))]
def rDir : Orc := .res fun l => .tup [dI (dD (aN l) (aX l) (aY l) (aI l 1)), dB (dO (aN l) (aX l) (aY l) (aI l 1))]
def rWay : Orc := .res fun l => dI (dD (aN l) (aX l) (aY l) (aI l 1))
def rOuter : Orc := .res fun l => dB (decide (dD (aN l) (aX l) (aY l) (aI l 1) = (dD (aN l) (aX l) (aY l) (aI l 1 - 1) + 1) % 4))
def rTouch : Orc := .res fun l => dB (decide (lo (aN l) (aX l) (aI l 1) ≤ hi (aN l) (aX l) (aI l 2) ∧ lo (aN l) (aX l) (aI l 2) ≤ hi (aN l) (aX l) (aI l 1) ∧ lo (aN l) (aY l) (aI l 1) ≤ hi (aN l) (aY l) (aI l 2) ∧ lo (aN l) (aY l) (aI l 2) ≤ hi (aN l) (aY l) (aI l 1)))
def inF (x : Int) : Bool := decide (-1000000 ≤ x ∧ x ≤ 1000000)
def rIn : Orc := .res fun l => dB (inF (aI l 0))
def rBad : Orc := .res fun l => dB (!(inF (fI 0 (arg l 0)) && inF (fI 1 (arg l 0))))
def rAbs : Orc := .res fun l => dI ((aI l 0).natAbs : Int)
noncomputable def A63_at_c (n : Nat) (X Y : Nat → Int) (i : Int) : Ann := { orc := [(1, [(7, .pos)])], loops := [], cuts := [] }
theorem at_c (n : Nat) (X Y : Nat → Int) (i : Int) (hn : 0 < n) (hn2 : n ≤ 1000) (h1 : -(n : Int) ≤ i) (h2 : i ≤ 1000) : FnC prog 128 [pts n X Y, dI i] (dP (X (ix n i)) (Y (ix n i))) := by
  refine FnC_owed hmix (A63_at_c n X Y i) (V := .need [i64In (i + (n:Int)), (0:Int) ≤ i + (n:Int) ∧ (0:Int) < (n:Int), (0:Int) ≤ (i + (n:Int)) % (n:Int) ∧ (i + (n:Int)) % (n:Int) < (n:Int)] (.done [X ((i + (n:Int)) % (n:Int)).toNat = X (ix n i), Y ((i + (n:Int)) % (n:Int)).toNat = Y (ix n i)])) (by kernel_rfl) ?_
  simp only [VT.holds, AllT, i64In]
  have := Int.emod_lt_of_pos (i + n) (show (0:Int) < n by omega)
  have := Int.emod_nonneg (i + n) (show (n : Int) ≠ 0 by omega)
  refine ⟨⟨by omega, by omega, by omega⟩, rfl, rfl⟩
noncomputable def A90_abs_c (x : Int) : Ann := { orc := [], loops := [], cuts := [] }
theorem abs_c (x : Int) (h : -9223372036854775807 ≤ x ∧ x ≤ 9223372036854775807) : FnC prog 152 [dI x] (dI (x.natAbs : Int)) := by
  refine FnC_owed hmix (A90_abs_c x) (V := .need [i64In (-x)] (.done [maxs x [-x] = (↑(Int.natAbs x) : Int)])) (by kernel_rfl) ?_
  simp only [VT.holds, AllT, i64In, maxs]
  exact ⟨by omega, by split <;> omega⟩
noncomputable def A71_inside_c (x : Int) : Ann := { orc := [], loops := [], cuts := [] }
theorem inside_c (x : Int)  : FnC prog 148 [dI x] (dB (inF x)) := by
  refine FnC_owed hmix (A71_inside_c x) (V := .need [decide (x ≥ (-1000000:Int)) = true → decide (x ≥ (-1000000:Int)) = true, decide (x ≥ (-1000000:Int)) = true → decide (x ≥ (-1000000:Int)) = true] (.done [(if decide (x ≥ (-1000000:Int)) = true then decide (x ≤ (1000000:Int)) else false) = inF x])) (by kernel_rfl) ?_
  simp only [VT.holds, AllT, inF]
  grind
noncomputable def A53_span_c (n : Nat) (X Y : Nat → Int) (i : Int) : Ann := { orc := [(1, [(2, rAt), (6, rAt)])], loops := [], cuts := [] }
theorem span_c (n : Nat) (X Y : Nat → Int) (i : Int) (hn : 0 < n) (hn2 : n ≤ 1000) (h1 : -(n : Int) ≤ i) (h2 : i ≤ 900) : FnC prog 179 [pts n X Y, dI i] (.tup [dP (lo n X i) (lo n Y i), dP (hi n X i) (hi n Y i)]) := by
  refine FnC_owed hmix (A53_span_c n X Y i) (V := .need [FnC prog 128 [.lst n [fun i => (dI (X i)), fun i => (dI (Y i))], (dI i)] (.val (.agg ⟨[.int .i64 (X (ix n i)), .int .i64 (Y (ix n i))]⟩)), i64In (i + (1:Int)), FnC prog 128 [.lst n [fun i => (dI (X i)), fun i => (dI (Y i))], (dI (i + (1:Int)))] (.val (.agg ⟨[.int .i64 (X (ix n (i + (1:Int)))), .int .i64 (Y (ix n (i + (1:Int))))]⟩))] (.done [mins (X (ix n i)) [X (ix n (i + (1:Int)))] = lo n X i, mins (Y (ix n i)) [Y (ix n (i + (1:Int)))] = lo n Y i, maxs (X (ix n i)) [X (ix n (i + (1:Int)))] = hi n X i, maxs (Y (ix n i)) [Y (ix n (i + (1:Int)))] = hi n Y i])) (by kernel_rfl) ?_
  simp only [VT.holds, AllT, mins, maxs]
  refine ⟨⟨at_c n X Y i hn hn2 h1 (by omega), by unfold i64In; omega, at_c n X Y (i + 1) hn hn2 (by omega) (by omega)⟩, ?_⟩
  simp only [lo, hi]
  refine ⟨?_, ?_, ?_, ?_⟩ <;> split <;> omega
noncomputable def A91_dir_c (n : Nat) (X Y : Nat → Int) (i : Int) : Ann := { orc := [(1, [(2, rAt), (6, rAt)])], loops := [], cuts := [] }
theorem dir_c (n : Nat) (X Y : Nat → Int) (i : Int) (hn : 0 < n) (hn2 : n ≤ 1000) (h1 : -(n : Int) ≤ i) (h2 : i ≤ 900) : FnC prog 153 [pts n X Y, dI i] (.tup [dI (dD n X Y i), dB (dO n X Y i)]) := by
  refine FnC_owed hmix (A91_dir_c n X Y i) (V := .need [FnC prog 128 [.lst n [fun i => (dI (X i)), fun i => (dI (Y i))], (dI i)] (.val (.agg ⟨[.int .i64 (X (ix n i)), .int .i64 (Y (ix n i))]⟩)), i64In (i + (1:Int)), FnC prog 128 [.lst n [fun i => (dI (X i)), fun i => (dI (Y i))], (dI (i + (1:Int)))] (.val (.agg ⟨[.int .i64 (X (ix n (i + (1:Int)))), .int .i64 (Y (ix n (i + (1:Int))))]⟩))] (.need [(Y (ix n i) == Y (ix n (i + (1:Int)))) = true → (Y (ix n i) == Y (ix n (i + (1:Int)))) = true, (Y (ix n i) == Y (ix n (i + (1:Int)))) = true → (Y (ix n i) == Y (ix n (i + (1:Int)))) = true, (Y (ix n i) == Y (ix n (i + (1:Int)))) = true → (Y (ix n i) == Y (ix n (i + (1:Int)))) = true, (Y (ix n i) == Y (ix n (i + (1:Int)))) = true → (Y (ix n i) == Y (ix n (i + (1:Int)))) = true, (Y (ix n i) == Y (ix n (i + (1:Int)))) = true → (Y (ix n i) == Y (ix n (i + (1:Int)))) = true] (.ite (if (Y (ix n i) == Y (ix n (i + (1:Int)))) = true then decide (X (ix n i) < X (ix n (i + (1:Int)))) else false) (.done [(0:Int) = dD n X Y i, true = dO n X Y i]) (.need [(X (ix n i) == X (ix n (i + (1:Int)))) = true → (X (ix n i) == X (ix n (i + (1:Int)))) = true, (X (ix n i) == X (ix n (i + (1:Int)))) = true → (X (ix n i) == X (ix n (i + (1:Int)))) = true, (X (ix n i) == X (ix n (i + (1:Int)))) = true → (X (ix n i) == X (ix n (i + (1:Int)))) = true, (X (ix n i) == X (ix n (i + (1:Int)))) = true → (X (ix n i) == X (ix n (i + (1:Int)))) = true, (X (ix n i) == X (ix n (i + (1:Int)))) = true → (X (ix n i) == X (ix n (i + (1:Int)))) = true] (.ite (if (X (ix n i) == X (ix n (i + (1:Int)))) = true then decide (Y (ix n i) < Y (ix n (i + (1:Int)))) else false) (.done [(1:Int) = dD n X Y i, true = dO n X Y i]) (.need [(Y (ix n i) == Y (ix n (i + (1:Int)))) = true → (Y (ix n i) == Y (ix n (i + (1:Int)))) = true, (Y (ix n i) == Y (ix n (i + (1:Int)))) = true → (Y (ix n i) == Y (ix n (i + (1:Int)))) = true, (Y (ix n i) == Y (ix n (i + (1:Int)))) = true → (Y (ix n i) == Y (ix n (i
     + (1:Int)))) = true, (Y (ix n i) == Y (ix n (i + (1:Int)))) = true → (Y (ix n i) == Y (ix n (i + (1:Int)))) = true, (Y (ix n i) == Y (ix n (i + (1:Int)))) = true → (Y (ix n i) == Y (ix n (i + (1:Int)))) = true] (.ite (if (Y (ix n i) == Y (ix n (i + (1:Int)))) = true then decide (X (ix n i) > X (ix n (i + (1:Int)))) else false) (.done [(2:Int) = dD n X Y i, true = dO n X Y i]) (.need [(X (ix n i) == X (ix n (i + (1:Int)))) = true → (X (ix n i) == X (ix n (i + (1:Int)))) = true, (X (ix n i) == X (ix n (i + (1:Int)))) = true → (X (ix n i) == X (ix n (i + (1:Int)))) = true, (X (ix n i) == X (ix n (i + (1:Int)))) = true → (X (ix n i) == X (ix n (i + (1:Int)))) = true, (X (ix n i) == X (ix n (i + (1:Int)))) = true → (X (ix n i) == X (ix n (i + (1:Int)))) = true, (X (ix n i) == X (ix n (i + (1:Int)))) = true → (X (ix n i) == X (ix n (i + (1:Int)))) = true] (.ite (if (X (ix n i) == X (ix n (i + (1:Int)))) = true then decide (Y (ix n i) > Y (ix n (i + (1:Int)))) else false) (.done [(3:Int) = dD n X Y i, true = dO n X Y i]) (.done [(0:Int) = dD n X Y i, false = dO n X Y i])))))))))) (by kernel_rfl) ?_
  simp only [VT.holds, AllT]
  refine ⟨⟨at_c n X Y i hn hn2 h1 (by omega), by unfold i64In; omega, at_c n X Y (i + 1) hn hn2 (by omega) (by omega)⟩, ?_⟩
  unfold dD dO dirD dirOk
  generalize X (ix n i) = a
  generalize Y (ix n i) = b
  generalize X (ix n (i + 1)) = c
  generalize Y (ix n (i + 1)) = d
  simp only [imp_self, true_and, Bool.if_false_right, Bool.and_eq_true, beq_iff_eq, decide_eq_true_eq, Bool.and_eq_false_imp, decide_eq_false_iff_not]
  refine ⟨fun h => ?_, fun h1 => ⟨fun h => ?_, fun h2 => ⟨fun h => ?_, fun h3 => ⟨fun h => ?_, fun h4 => ?_⟩⟩⟩⟩
  all_goals grind
noncomputable def A65_way_c (n : Nat) (X Y : Nat → Int) (i : Int) : Ann := { orc := [(1, [(2, rDir)])], loops := [], cuts := [] }
theorem way_c (n : Nat) (X Y : Nat → Int) (i : Int) (hn : 0 < n) (hn2 : n ≤ 1000) (h1 : -(n : Int) ≤ i) (h2 : i ≤ 900) : FnC prog 126 [pts n X Y, dI i] (dI (dD n X Y i)) := by
  refine FnC_owed hmix (A65_way_c n X Y i) (V := .need [FnC prog 153 [.lst n [fun i => (dI (X i)), fun i => (dI (Y i))], (dI i)] (.tup [(dI (dD n X Y i)), (dB (dO n X Y i))])] (.done [dD n X Y i = dD n X Y i])) (by kernel_rfl) ?_
  simp only [VT.holds, AllT]
  exact ⟨dir_c n X Y i hn hn2 h1 h2, trivial⟩
noncomputable def A66_outer_c (n : Nat) (X Y : Nat → Int) (i : Int) : Ann := { orc := [(1, [(2, rWay), (6, rWay), (8, .pos)])], loops := [], cuts := [] }
theorem outer_c (n : Nat) (X Y : Nat → Int) (i : Int) (hn : 0 < n) (hn2 : n ≤ 1000) (h1 : -(n : Int) < i) (h2 : i ≤ 900) : FnC prog 123 [pts n X Y, dI i] (dB (decide (dD n X Y i = (dD n X Y (i - 1) + 1) % 4))) := by
  refine FnC_owed hmix (A66_outer_c n X Y i) (V := .need [FnC prog 126 [.lst n [fun i => (dI (X i)), fun i => (dI (Y i))], (dI i)] ((dI (dD n X Y i))), i64In (i - (1:Int)), FnC prog 126 [.lst n [fun i => (dI (X i)), fun i => (dI (Y i))], (dI (i - (1:Int)))] ((dI (dD n X Y (i - (1:Int))))), i64In (dD n X Y (i - (1:Int)) + (1:Int)), (0:Int) ≤ dD n X Y (i - (1:Int)) + (1:Int) ∧ (0:Int) < (4:Int)] (.done [(dD n X Y i == (dD n X Y (i - (1:Int)) + (1:Int)) % (4:Int)) = decide (dD n X Y i = (dD n X Y (i - (1:Int)) + (1:Int)) % (4:Int))])) (by kernel_rfl) ?_
  simp only [VT.holds, AllT, i64In]
  have := dD_range n X Y (i - 1)
  refine ⟨⟨way_c n X Y i hn hn2 (by omega) h2, by omega, way_c n X Y (i - 1) hn hn2 (by omega) (by omega), by omega, by omega⟩, ?_⟩
  grind
noncomputable def A94_touch_c (n : Nat) (X Y : Nat → Int) (i k : Int) : Ann := { orc := [(1, [(2, rSpan)]), (2, [(2, rSpan)])], loops := [], cuts := [] }
namespace w6
noncomputable section
structure Z where
  n : Nat
  X : Nat → Int
  Y : Nat → Int
  i : Int
  k : Int
variable (z : Z) (P : List Prop) (a b c d : Int) (g h : Bool) (A : DV) (U : VT) (j14a : List Value)
abbrev x0 := decide ((lo z.n z.X a) ≤ (hi z.n z.X b))
abbrev x1 : List Prop := ri (g = true) :: ri (h = true) :: P
abbrev x2 := if (x0 z z.i z.k) = true then (x0 z z.k z.i) else false
abbrev x3 : List Value := Value.int IntKind.i64 a :: j14a
abbrev x4 := if g = true then (decide ((lo z.n z.Y a) ≤ (hi z.n z.Y b))) else false
abbrev x5 := x4 z z.i z.k (x2 z)
abbrev x6 := x1 P (x0 z z.i z.k) (x0 z z.i z.k)
abbrev x7 := DV.tup [DV.val (Value.agg (Array.mk (x3 (lo z.n z.X a) (x3 (lo z.n z.Y b) [])))), DV.val (Value.agg (Array.mk (x3 (hi z.n z.X c) (x3 (hi z.n z.Y d) []))))]
abbrev x8 := VT.need [FnC prog 179 [DV.lst z.n [fun i0 => dI (z.X i0), fun i0 => dI (z.Y i0)], dI a] A] U
abbrev xt : VT := x8 z z.i (x7 z z.i z.i z.i z.i) (x8 z z.k (x7 z z.k z.k z.k z.k) (VT.need (x6 z (x6 z (x1 (x1 (x1 (x1 (x1 [ri (x5 z = true)] (x5 z) (x5 z)) (x5 z) (x5 z)) (x2 z) (x2 z)) (x2 z) (x2 z)) (x0 z z.i z.k) (x2 z)))) (VT.done [x4 z z.k z.i (x5 z) = decide ((lo z.n z.X z.i ≤ hi z.n z.X z.k) ∧ (lo z.n z.X z.k ≤ hi z.n z.X z.i ∧ lo z.n z.Y z.i ≤ hi z.n z.Y z.k ∧ lo z.n z.Y z.k ≤ hi z.n z.Y z.i))])))
end
end w6
open w6 in
theorem touch_c (n : Nat) (X Y : Nat → Int) (i k : Int) (hn : 0 < n) (hn2 : n ≤ 1000) (h1 : -(n : Int) ≤ i) (h2 : i ≤ 900) (k1 : -(n : Int) ≤ k) (k2 : k ≤ 900) : FnC prog 156 [pts n X Y, dI i, dI k] (dB (decide (lo n X i ≤ hi n X k ∧ lo n X k ≤ hi n X i ∧ lo n Y i ≤ hi n Y k ∧ lo n Y k ≤ hi n Y i))) := by
  refine FnC_owed hmix (A94_touch_c n X Y i k) (V := xt ⟨n, X, Y, i, k⟩) (by kernel_rfl) ?_
  simp only [xt, x0, x1, x2, x3, x4, x5, x6, x7, x8, Rf, VT.holds, AllT]
  refine ⟨span_c n X Y i hn hn2 h1 h2, span_c n X Y k hn hn2 k1 k2, ?_⟩
  simp only [imp_self, true_and, Bool.if_false_right]
  grind
noncomputable def A93_bad_c (x y : Int) : Ann := { orc := [(1, [(2, rIn), (7, rIn)])], loops := [], cuts := [] }
theorem bad_c (x y : Int)  : FnC prog 155 [dP x y] (dB (!(inF x && inF y))) := by
  refine FnC_owed hmix (A93_bad_c x y) (V := .need [FnC prog 148 [(dI x)] ((dB (inF x))), (!!inF x) = true → (!!inF x) = true, (!!inF x) = true → (!!inF x) = true, (!!inF x) = true → FnC prog 148 [(dI y)] ((dB (inF y))), (!!inF x) = true → (!!inF x) = true, (!inF x) = false → (!!inF x) = true] (.done [(if (!inF x) = true then true else !inF y) = !(inF x && inF y)])) (by kernel_rfl) ?_
  simp only [VT.holds, AllT]
  refine ⟨⟨inside_c x, ?_⟩, ?_⟩
  · simp only [imp_self, true_and, and_true]
    have := inside_c y
    grind
  · grind
end Go.Abs
