/- Contracts. Contracts. -/
import Derived.Test.YtcgfcahljfmipaaDoorK4
section
set_option linter.unusedVariables false
set_option linter.unusedSimpArgs false
set_option maxRecDepth 100000
namespace Go.Abs
open Go
theorem ix_nat {n i : Nat} (h : i < n) : ix n (i : Int) = i := by
  unfold ix
  rw [Int.add_emod_right, Int.emod_eq_of_lt (by omega) (by omega)]
  rfl
theorem ix_next {n : Nat} (i : Int) : ((i + 1) % (n : Int)).toNat = ix n (i + 1) := by
  unfold ix; rw [Int.add_emod_right]
theorem ix_prev {n : Nat} (i : Int) : ((i + (n : Int) - 1) % (n : Int)).toNat = ix n (i - 1) := by
  unfold ix; congr 2; omega
def rWithin : Orc := .res fun l => dB (decide (aI l 1 ≤ aI l 0 ∧ aI l 0 ≤ aI l 2))
/-- The specification's direction. -/
def dirR (a b c d : Int) : Int := if dirOk a b c d = true then dirD a b c d else -1
def rDirR : Orc := .res fun l => dI (dirR (fI 0 (arg l 0)) (fI 1 (arg l 0)) (fI 0 (arg l 1)) (fI 1 (arg l 1)))
def rNext : Orc := .res fun l => dP (aX l (ix (aN l) (aI l 1 + 1))) (aY l (ix (aN l) (aI l 1 + 1)))
def touR (a b c d e f g h : Int) : Bool := decide (min a c ≤ max e g ∧ min e g ≤ max a c ∧ min b d ≤ max f h ∧ min f h ≤ max b d)
def rTouR : Orc := .res fun l => dB (touR (fI 0 (arg l 0)) (fI 1 (arg l 0)) (fI 0 (arg l 1)) (fI 1 (arg l 1)) (fI 0 (arg l 2)) (fI 1 (arg l 2)) (fI 0 (arg l 3)) (fI 1 (arg l 3)))
def rNodeErr : Orc := .res fun l => dI (if inF (fI 0 (arg l 0)) = true ∧ inF (fI 1 (arg l 0)) = true ∧ inF (fI 2 (arg l 0)) = true then 0 else 2)
noncomputable def A44_within_c (x l h : Int) : Ann := { orc := [], loops := [], cuts := [] }
theorem within_c (x l h : Int)  : FnC prog 19 [dI x, dI l, dI h] (dB (decide (l ≤ x ∧ x ≤ h))) := by
  refine FnC_owed hmix (A44_within_c x l h) (V := VT.need [ri (decide (x ≥ l) = true), ri (decide (x ≥ l) = true), ri (decide (x ≥ l) = true)] (VT.done [(if decide (x ≥ l) = true then decide (x ≤ h) else false) = decide (l ≤ x ∧ x ≤ h)])) (by kernel_rfl) ?_
  simp only [VT.holds, AllT, Sq]
  grind
noncomputable def A55_in_c (x : Int) : Ann := { orc := [(1, [(1, rWithin)])], loops := [], cuts := [] }
theorem in_c (x : Int)  : FnC prog 31 [dI x] (dB (inF x)) := by
  refine FnC_owed hmix (A55_in_c x) (V := VT.need [FnC prog 19 [DV.val (Value.int IntKind.i64 x), DV.val (Value.int IntKind.i64 (-1000000:Int)), DV.val (Value.int IntKind.i64 (1000000:Int))] (DV.val (Value.bool (decide ((-1000000:Int) ≤ x ∧ x ≤ 1000000))))] (VT.done [decide ((-1000000:Int) ≤ x ∧ x ≤ 1000000) = inF x])) (by kernel_rfl) ?_
  simp only [VT.holds, AllT, Sq]
  exact ⟨within_c x _ _, rfl⟩
noncomputable def A56_dirR_c (a b c d : Int) : Ann := { orc := [], loops := [], cuts := [] }
theorem dirR_c (a b c d : Int)  : FnC prog 32 [dP a b, dP c d] (dI (dirR a b c d)) := by
  refine FnC_owed hmix (A56_dirR_c a b c d) (V := VT.need [ri ((b == d) = true), ri ((b == d) = true), ri ((b == d) = true), ri ((b == d) = true), ri ((b == d) = true)] (VT.ite (if (b == d) = true then decide (c > a) else false) (VT.done [(0:Int) = dirR a b c d]) (VT.need [ri ((a == c) = true), ri ((a == c) = true), ri ((a == c) = true), ri ((a == c) = true), ri ((a == c) = true)] (VT.ite (if (a == c) = true then decide (d > b) else false) (VT.done [(1:Int) = dirR a b c d]) (VT.need [ri ((b == d) = true), ri ((b == d) = true), ri ((b == d) = true), ri ((b == d) = true), ri ((b == d) = true)] (VT.ite (if (b == d) = true then decide (c < a) else false) (VT.done [(2:Int) = dirR a b c d]) (VT.need [ri ((a == c) = true), ri ((a == c) = true), ri ((a == c) = true), ri ((a == c) = true), ri ((a == c) = true)] (VT.ite (if (a == c) = true then decide (d < b) else false) (VT.done [(3:Int) = dirR a b c d]) (VT.done [(-1:Int) = dirR a b c d]))))))))) (by kernel_rfl) ?_
  simp only [VT.holds, AllT, Sq]
  unfold dirR dirOk dirD
  simp only [decide_eq_true_eq]
  refine ⟨fun h => ?_, fun h1 => ⟨fun h => ?_, fun h2 => ⟨fun h => ?_, fun h3 => ⟨fun h => ?_, fun h4 => ?_⟩⟩⟩⟩
  all_goals grind
noncomputable def A57_next_c (n : Nat) (X Y : Nat → Int) (i : Int) : Ann := { orc := [(1, [(5, .pos)])], loops := [], cuts := [] }
theorem next_c (n : Nat) (X Y : Nat → Int) (i : Int) (hn : 0 < n) (hn2 : n ≤ 1000000) (h1 : 0 ≤ i) (h2 : i ≤ 1000000) : FnC prog 33 [pts n X Y, dI i] (dP (X (ix n (i + 1))) (Y (ix n (i + 1)))) := by
  refine FnC_owed hmix (A57_next_c n X Y i) (V := VT.need [i64In (i + 1), (0:Int) ≤ i + 1 ∧ (0:Int) < (n:Int), (0:Int) ≤ (i + 1) % (n:Int) ∧ (i + 1) % (n:Int) < (n:Int)] (VT.done [X ((i + 1) % (n:Int)).toNat = X (ix n (i + 1)), Y ((i + 1) % (n:Int)).toNat = Y (ix n (i + 1))])) (by kernel_rfl) ?_
  simp only [VT.holds, AllT, Sq]
  have := Int.emod_lt_of_pos (i + 1) (show (0:Int) < n by omega)
  have := Int.emod_nonneg (i + 1) (show (n : Int) ≠ 0 by omega)
  rw [ix_next]
  exact ⟨⟨by unfold i64In; omega, by omega, by omega⟩, rfl, rfl⟩
noncomputable def A58_touchR_c (a b c d e f g h : Int) : Ann := { orc := [], loops := [], cuts := [] }
theorem touchR_c (a b c d e f g h : Int)  : FnC prog 34 [dP a b, dP c d, dP e f, dP g h] (dB (touR a b c d e f g h)) := by
  refine FnC_owed hmix (A58_touchR_c a b c d e f g h) (V := VT.need [ri (decide (mins a [c] ≤ maxs e [g]) = true), ri (decide (mins a [c] ≤ maxs e [g]) = true), ri (decide (mins a [c] ≤ maxs e [g]) = true), ri (decide (mins a [c] ≤ maxs e [g]) = true), ri (decide (mins a [c] ≤ maxs e [g]) = true), ri (decide (mins a [c] ≤ maxs e [g]) = true), ri (decide (mins a [c] ≤ maxs e [g]) = true), ri (decide (mins a [c] ≤ maxs e [g]) = true), ri (decide (mins a [c] ≤ maxs e [g]) = true), ri (decide (mins a [c] ≤ maxs e [g]) = true), ri (decide (mins a [c] ≤ maxs e [g]) = true), ri ((if decide (mins a [c] ≤ maxs e [g]) = true then decide (mins e [g] ≤ maxs a [c]) else false) = true), ri ((if decide (mins a [c] ≤ maxs e [g]) = true then decide (mins e [g] ≤ maxs a [c]) else false) = true), ri ((if decide (mins a [c] ≤ maxs e [g]) = true then decide (mins e [g] ≤ maxs a [c]) else false) = true), ri ((if decide (mins a [c] ≤ maxs e [g]) = true then decide (mins e [g] ≤ maxs a [c]) else false) = true), ri ((if decide (mins a [c] ≤ maxs e [g]) = true then decide (mins e [g] ≤ maxs a [c]) else false) = true), ri ((if decide (mins a [c] ≤ maxs e [g]) = true then decide (mins e [g] ≤ maxs a [c]) else false) = true), ri ((if decide (mins a [c] ≤ maxs e [g]) = true then decide (mins e [g] ≤ maxs a [c]) else false) = true), ri ((if decide (mins a [c] ≤ maxs e [g]) = true then decide (mins e [g] ≤ maxs a [c]) else false) = true), ri ((if decide (mins a [c] ≤ maxs e [g]) = true then decide (mins e [g] ≤ maxs a [c]) else false) = true), ri ((if decide (mins a [c] ≤ maxs e [g]) = true then decide (mins e [g] ≤ maxs a [c]) else false) = true), ri ((if decide (mins a [c] ≤ maxs e [g]) = true then decide (mins e [g] ≤ maxs a [c]) else false) = true), ri ((if (if decide (mins a [c] ≤ maxs e [g]) = true then decide (mins e [g] ≤ maxs a [c]) else false) = true then decide (mins b [d] ≤ maxs f [h]) else false) = true), ri ((if (if decide (mins a [c] ≤ maxs e [g]) = true then decide (mins e [g] ≤ maxs a [c]) else false) = true then decide (mins b [d] ≤ maxs f [h]) else false) = true), ri ((if (if decide (mins a [c] ≤ maxs e [g]) = true then decide (mins e [g] ≤ maxs a [c]) else false) = true then decide (mins b [d] ≤ maxs f [h]) else false) = true), ri ((if (if decide (mins a [c] ≤ maxs e [g]) = true then decide (mins e [g] ≤ maxs a [c]) else false) = true then decide (mins b [d] ≤ maxs f [h]) else false) = true), ri ((if (if decide (mins a [c] ≤ maxs e [g]) = true then decide (mins e [g] ≤ maxs a [c]) else false) = true then decide (mins b [d] ≤ maxs f [h]) else false) = true), ri ((if (if decide (mins a [c] ≤ maxs e [g]) = true then decide (mins e [g] ≤ maxs a [c]) else false) = true then decide (mins b [d] ≤ maxs f [h]) else false) = true), ri ((if (if decide (mins a [c] ≤ maxs e [g]) = true then decide (mins e [g] ≤ maxs a [c]) else false) = true then decide (mins b [d] ≤ maxs f [h]) else false) = true), ri ((if (if decide (mins a [c] ≤ maxs e [g]) = true then decide (mins e [g] ≤ maxs a [c]) else false) = true then decide (mins b [d] ≤ maxs f [h]) else false) = true), ri ((if (if decide (mins a [c] ≤ maxs e [g]) = true then decide (mins e [g] ≤ maxs a [c]) else false) = true then decide (mins b [d] ≤ maxs f [h]) else false) = true), ri ((if (if decide (mins a [c] ≤ maxs e [g]) = true then decide (mins e [g] ≤ maxs a [c]) else false) = true then decide (mins b [d] ≤ maxs f [h]) else false) = true), ri ((if (if decide (mins a [c] ≤ maxs e [g]) = true then decide (mins e [g] ≤ maxs a [c]) else false) = true then decide (mins b [d] ≤ maxs f [h]) else false) = true)] (VT.done [(if (if (if decide (mins a [c] ≤ maxs e [g]) = true then decide (mins e [g] ≤ maxs a [c]) else false) = true then decide (mins b [d] ≤ maxs f [h]) else false) = true then decide (mins f [h] ≤ maxs b [d]) else false) = touR a b c d e f g h])) (by kernel_rfl) ?_
  simp only [VT.holds, AllT, Sq, mins, maxs]
  unfold touR
  grind
noncomputable def A33_nodeErr_c (x y z : Int) : Ann := { orc := [(1, [(2, rIn), (7, rIn), (13, rIn)])], loops := [], cuts := [] }
theorem nodeErr_c (x y z : Int)  : FnC prog 40 [.val (.agg #[.int .i64 x, .int .i64 y, .int .i64 z])] (dI (if inF x = true ∧ inF y = true ∧ inF z = true then 0 else 2)) := by
  refine FnC_owed hmix (A33_nodeErr_c x y z) (V := VT.need [FnC prog 31 [DV.val (Value.int IntKind.i64 x)] (DV.val (Value.bool (inF x))), ri ((!!inF x) = true), ri ((!!inF x) = true), (!!inF x) = true → FnC prog 31 [DV.val (Value.int IntKind.i64 y)] (DV.val (Value.bool (inF y))), ri ((!!inF x) = true), (!inF x) = false → (!!inF x) = true, ri ((!if (!inF x) = true then true else !inF y) = true), ri ((!if (!inF x) = true then true else !inF y) = true), (!if (!inF x) = true then true else !inF y) = true → FnC prog 31 [DV.val (Value.int IntKind.i64 z)] (DV.val (Value.bool (inF z))), ri ((!if (!inF x) = true then true else !inF y) = true), (if (!inF x) = true then true else !inF y) = false → (!if (!inF x) = true then true else !inF y) = true] (VT.ite (if (if (!inF x) = true then true else !inF y) = true then true else !inF z) (VT.done [(2:Int) = if inF x = true ∧ inF y = true ∧ inF z = true then (0:Int) else (2:Int)]) (VT.done [(0:Int) = if inF x = true ∧ inF y = true ∧ inF z = true then (0:Int) else (2:Int)]))) (by kernel_rfl) ?_
  simp only [VT.holds, AllT, Sq]
  have := in_c x
  have := in_c y
  have := in_c z
  grind
noncomputable def A16_pointErr_c (x y : Int) : Ann := { orc := [(1, [(5, rNodeErr)])], loops := [], cuts := [] }
theorem pointErr_c (x y : Int)  : FnC prog 15 [dP x y] (dI (if inF x = true ∧ inF y = true then 0 else 2)) := by
  refine FnC_owed hmix (A16_pointErr_c x y) (V := VT.need [FnC prog 40 [DV.val (Value.agg { toList := [Value.int IntKind.i64 x, Value.int IntKind.i64 y, Value.int IntKind.i64 (0:Int)] })] (DV.val (Value.int IntKind.i64 (if inF x = true ∧ inF y = true ∧ true = true then (0:Int) else (2:Int))))] (VT.done [(if inF x = true ∧ inF y = true ∧ true = true then (0:Int) else (2:Int)) = if inF x = true ∧ inF y = true then (0:Int) else (2:Int)])) (by kernel_rfl) ?_
  simp only [VT.holds, AllT, Sq]
  have := nodeErr_c x y 0
  have h0 : inF 0 = true := by decide
  simp only [h0, and_true] at this
  exact this
end Go.Abs
end
section
set_option linter.unusedVariables false
set_option linter.unusedSimpArgs false
set_option maxRecDepth 100000
namespace Go.Abs
open Go
/-- A corner is as the specification wants it. -/
def formR (n : Nat) (X Y : Nat → Int) (j : Nat) : Bool := dO n X Y j && (!(dO n X Y ((j : Int) - 1)) || decide (dD n X Y j % 2 ≠ dD n X Y ((j : Int) - 1) % 2))
theorem dO_wrap {n : Nat} {X Y : Nat → Int} (hn : 0 < n) : dO n X Y (-1) = dO n X Y (((n - 1 : Nat)) : Int) := by
  have e1 : ix n (-1) = ix n (((n - 1 : Nat)) : Int) := by
    unfold ix
    rw [show (-1 + (n : Int)) = (((n - 1 : Nat)) : Int) by omega, Int.add_emod_right]
  have e2 : ix n (-1 + 1) = ix n ((((n - 1 : Nat)) : Int) + 1) := by
    unfold ix
    rw [show (((n - 1 : Nat)) : Int) + 1 = (n : Int) by omega, show (-1 + 1 + (n : Int)) = (n : Int) by omega, Int.add_emod_right]
  unfold dO
  rw [e1, e2]
theorem tmod_two (d e : Int) : (d - e).tmod 2 = 0 ↔ d % 2 = e % 2 := by
  rw [← Int.dvd_iff_tmod_eq_zero, Int.dvd_iff_emod_eq_zero]; omega
theorem formR_all {n : Nat} {X Y : Nat → Int} (hn : 0 < n) (h : ∀ j, j < n → formR n X Y j = true) : ∀ j, j < n → formOk n X Y j = true := by
  intro j hj
  have h1 := h j hj
  have hp : dO n X Y ((j : Int) - 1) = true := by
    cases j with
    | zero =>
      have h2 := h (n - 1) (by omega)
      simp only [formR, Bool.and_eq_true] at h2
      rw [show ((0:Nat) : Int) - 1 = -1 from rfl, dO_wrap hn]; exact h2.1
    | succ k =>
      have h2 := h k (by omega)
      simp only [formR, Bool.and_eq_true] at h2
      rw [show ((k + 1 : Nat) : Int) - 1 = (k : Int) by omega]; exact h2.1
  simp only [formR, hp, Bool.and_eq_true, Bool.not_true, Bool.false_or] at h1
  simp only [formOk, hp, h1.1, h1.2, Bool.and_self]
noncomputable def A59_twiceR_c (n : Nat) (X Y : Nat → Int) : Ann := { orc := [(5, [(2, rNext)])], loops := [(0, { ι := Nat, keep := [0], boxes := [], ts := fun _ i => [(3, dI (twS n X Y i)), (4, dI (i : Int))], inv := fun _ i => i ≤ n, mu := fun _ i => n - i, rd := fun _ σ => (iOf (σ.get 4)).toNat })], cuts := [] }
theorem twiceR_c (n : Nat) (X Y : Nat → Int) (hn : 0 < n) (hn2 : n ≤ 800) (hX : inB n X) (hY : inB n Y) : FnC prog 35 [pts n X Y] (dI (twS n X Y n)) := by
  refine FnC_owed hmix (A59_twiceR_c n X Y) (V := VT.loop Nat (fun (a : Nat) => a ≤ n) (0:Int).toNat [(0:Int) = 0, (0:Int) = (↑(0:Int).toNat : Int), n = n, ∀ i < n, X i = X i, ∀ i < n, Y i = Y i] fun (i : Nat) => VT.ite (decide ((i:Int) < (n:Int))) (VT.need [FnC prog 33 [DV.lst n [fun (i : Nat) => DV.val (Value.int IntKind.i64 (X i)), fun (i : Nat) => DV.val (Value.int IntKind.i64 (Y i))], DV.val (Value.int IntKind.i64 (i:Int))] (DV.val (Value.agg { toList := [Value.int IntKind.i64 (X (ix n ((i:Int) + 1))), Value.int IntKind.i64 (Y (ix n ((i:Int) + 1)))] }))] (VT.need [(0:Int) ≤ (i:Int) ∧ (i:Int) < (n:Int), i64In (X (i:Int).toNat * Y (ix n ((i:Int) + 1))), i64In (twS n X Y i + X (i:Int).toNat * Y (ix n ((i:Int) + 1))), (0:Int) ≤ (i:Int) ∧ (i:Int) < (n:Int), i64In (Y (i:Int).toNat * X (ix n ((i:Int) + 1))), i64In (twS n X Y i + X (i:Int).toNat * Y (ix n ((i:Int) + 1)) - Y (i:Int).toNat * X (ix n ((i:Int) + 1)))] (VT.need [i64In ((i:Int) + 1)] (VT.done [twS n X Y i + X (i:Int).toNat * Y (ix n ((i:Int) + 1)) - Y (i:Int).toNat * X (ix n ((i:Int) + 1)) = twS n X Y ((i:Int) + 1).toNat, (i:Int) + 1 = (↑((i:Int) + 1).toNat : Int), n = n, ∀ i < n, X i = X i, ∀ i < n, Y i = Y i, Int.toNat ((i:Int) + 1) ≤ n, n - ((i:Int) + 1).toNat < n - i])))) (VT.done [twS n X Y i = twS n X Y n])) (by kernel_rfl) ?_
  simp only [VT.holds, AllT, Sq]
  refine ⟨rfl, Nat.zero_le n, fun i hi => ⟨fun h => ?_, fun h => ?_⟩⟩
  · have b1 := tw_term hn hX hY i (i + 1)
    have b2 := tw_term hn hX hY (i + 1) i
    have b3 := twS_bd hn hX hY i
    have hc := Int.mul_comm (Y (ix n i)) (X (ix n (i + 1)))
    have e := ix_nat (n := n) (i := i) (by omega)
    have e2 : twS n X Y (i + 1) = twS n X Y i + (X (ix n i) * Y (ix n (i + 1)) - X (ix n (i + 1)) * Y (ix n i)) := rfl
    rw [e] at b1 b2 hc e2
    simp only [i64In]
    refine ⟨next_c n X Y i hn (by omega) (by omega) (by omega), by omega, by omega, by omega, by omega, by omega⟩
  · have : i = n := by omega
    rw [this]
noncomputable def A15_checkR_c (n : Nat) (X Y : Nat → Int) : Ann := { orc := [(2, [(1, rWithin)]), (7, [(5, rIn), (13, rIn)]), (12, [(6, rNext), (7, rDirR), (14, .pos), (21, rDirR)]), (22, [(6, rNext), (13, rNext), (14, rTouR)]), (24, [(1, rTw)])], loops := [(0, { ι := Nat, keep := [0, 3], boxes := [], ts := fun _ i => [(4, dI (i : Int))], inv := fun _ i => i ≤ n ∧ ∀ j, j < i → badP X Y j = false, mu := fun _ i => n - i, rd := fun _ σ => (iOf (σ.get 4)).toNat }),
  (2, { ι := Nat, keep := [0, 3], boxes := [], ts := fun _ i => [(5, dI (i : Int))], inv := fun _ i => i ≤ n ∧ ∀ j, j < i → formR n X Y j = true, mu := fun _ i => n - i, rd := fun _ σ => (iOf (σ.get 5)).toNat }),
  (4, { ι := Nat, keep := [0, 3], boxes := [], ts := fun _ i => [(8, dI (i : Int))], inv := fun _ i => i ≤ n ∧ ∀ j, j < i → ∀ k, k < n → j + 2 ≤ k → clash n X Y j k = false, mu := fun _ i => n - i, rd := fun _ σ => (iOf (σ.get 8)).toNat }),
  (6, { ι := Nat, keep := [0, 3, 8], boxes := [], ts := fun _ k => [(9, dI (k : Int))], inv := fun σ k => (iOf (σ.get 8)).toNat + 1 ≤ k ∧ ∀ j, j < k → (iOf (σ.get 8)).toNat + 2 ≤ j → j < n → clash n X Y (iOf (σ.get 8)).toNat j = false, mu := fun _ k => n + 2 - k, rd := fun _ σ => (iOf (σ.get 9)).toNat })], cuts := [] }
theorem checkR_c (n : Nat) (X Y : Nat → Int) (hn2 : n ≤ 1000000) : FnC prog 9 [pts n X Y] (dI (chk n X Y)) := by
  refine FnC_owed hmix (A15_checkR_c n X Y) (V := VT.need [FnC prog 19 [DV.val (Value.int IntKind.i64 (n:Int)), DV.val (Value.int IntKind.i64 (4:Int)), DV.val (Value.int IntKind.i64 (40:Int))] (DV.val (Value.bool (decide ((4:Int) ≤ (n:Int) ∧ (n:Int) ≤ 40))))] (VT.ite (!decide ((4:Int) ≤ (n:Int) ∧ (n:Int) ≤ 40)) (VT.done [(11:Int) = chk n X Y]) (VT.loop Nat (fun (a : Nat) => a ≤ n ∧ ∀ (j : Nat), j < a → badP X Y j = false) (0:Int).toNat [(0:Int) = (↑(0:Int).toNat : Int), n = n, ∀ i < n, X i = X i, ∀ i < n, Y i = Y i, (n:Int) = (n:Int)] fun (i : Nat) => VT.ite (decide ((i:Int) < (n:Int))) (VT.need [(0:Int) ≤ (i:Int) ∧ (i:Int) < (n:Int), FnC prog 31 [DV.val (Value.int IntKind.i64 (X (i:Int).toNat))] (DV.val (Value.bool (inF (X (i:Int).toNat)))), ri ((!!inF (X (i:Int).toNat)) = true), ri ((!!inF (X (i:Int).toNat)) = true), (!!inF (X (i:Int).toNat)) = true → (0:Int) ≤ (i:Int) ∧ (i:Int) < (n:Int), ri ((!!inF (X (i:Int).toNat)) = true), ri ((!!inF (X (i:Int).toNat)) = true), ri ((!!inF (X (i:Int).toNat)) = true), (!!inF (X (i:Int).toNat)) = true → FnC prog 31 [DV.val (Value.int IntKind.i64 (Y (i:Int).toNat))] (DV.val (Value.bool (inF (Y (i:Int).toNat)))), ri ((!!inF (X (i:Int).toNat)) = true), (!inF (X (i:Int).toNat)) = false → (!!inF (X (i:Int).toNat)) = true] (VT.ite (if (!inF (X (i:Int).toNat)) = true then true else !inF (Y (i:Int).toNat)) (VT.done [(2:Int) = chk n X Y]) (VT.need [i64In ((i:Int) + 1)] (VT.done [(i:Int) + 1 = (↑((i:Int) + 1).toNat : Int), n = n, ∀
     (i : Nat), i < n → X i = X i, ∀ i < n, Y i = Y i, (n:Int) = (n:Int), Int.toNat ((i:Int) + 1) ≤ n ∧ ∀ (j : Nat), j < ((i:Int) + 1).toNat → badP X Y j = false, n - ((i:Int) + 1).toNat < n - i])))) (VT.loop Nat (fun (a : Nat) => a ≤ n ∧ ∀ (j : Nat), j < a → formR n X Y j = true) (0:Int).toNat [(0:Int) = (↑(0:Int).toNat : Int), n = n, ∀ i < n, X i = X i, ∀ i < n, Y i = Y i, (n:Int) = (n:Int)] fun (i_1 : Nat) => VT.ite (decide ((i_1:Int) < (n:Int))) (VT.need [(0:Int) ≤ (i_1:Int) ∧ (i_1:Int) < (n:Int), FnC prog 33 [DV.lst n [fun (i : Nat) => DV.val (Value.int IntKind.i64 (X i)), fun (i : Nat) => DV.val (Value.int IntKind.i64 (Y i))], DV.val (Value.int IntKind.i64 (i_1:Int))] (DV.val (Value.agg { toList := [Value.int IntKind.i64 (X (ix n ((i_1:Int) + 1))), Value.int IntKind.i64 (Y (ix n ((i_1:Int) + 1)))] })), FnC prog 32 [DV.val (Value.agg { toList := [Value.int IntKind.i64 (X (i_1:Int).toNat), Value.int IntKind.i64 (Y (i_1:Int).toNat)] }), DV.val (Value.agg { toList := [Value.int IntKind.i64 (X (ix n ((i_1:Int) + 1))), Value.int IntKind.i64 (Y (ix n ((i_1:Int) + 1)))] })] (DV.val (Value.int IntKind.i64 (dirR (X (i_1:Int).toNat) (Y (i_1:Int).toNat) (X (ix n ((i_1:Int) + 1))) (Y (ix n ((i_1:Int) + 1)))))), i64In ((i_1:Int) + (n:Int)), i64In ((i_1:Int) + (n:Int) - 1), (0:Int) ≤ (i_1:Int) + (n:Int) - 1 ∧ (0:Int) < (n:Int), (0:Int) ≤ ((i_1:Int) + (n:Int) - 1) % (n:Int) ∧ ((i_1:Int) + (n:Int) - 1) % (n:Int) < (n:Int), (0:Int) ≤ (i_1:Int) ∧ (i_1:Int) < (n:Int), FnC prog 32 [DV.val (Value.agg { toList := [Value.int IntKind.i64 (X (((i_1:Int) + (n:Int) - 1) % (n:Int)).toNat), Value.int IntKind.i64 (Y (((↑i_1
     : Int) + (n:Int) - 1) % (n:Int)).toNat)] }), DV.val (Value.agg { toList := [Value.int IntKind.i64 (X (i_1:Int).toNat), Value.int IntKind.i64 (Y (i_1:Int).toNat)] })] (DV.val (Value.int IntKind.i64 (dirR (X (((i_1:Int) + (n:Int) - 1) % (n:Int)).toNat) (Y (((i_1:Int) + (n:Int) - 1) % (n:Int)).toNat) (X (i_1:Int).toNat) (Y (i_1:Int).toNat))))] (VT.need [ri ((!decide (dirR (X (i_1:Int).toNat) (Y (i_1:Int).toNat) (X (ix n ((i_1:Int) + 1))) (Y (ix n ((i_1:Int) + 1))) < 0)) = true), ri ((!decide (dirR (X (i_1:Int).toNat) (Y (i_1:Int).toNat) (X (ix n ((i_1:Int) + 1))) (Y (ix n ((i_1:Int) + 1))) < 0)) = true), ri ((!decide (dirR (X (i_1:Int).toNat) (Y (i_1:Int).toNat) (X (ix n ((i_1:Int) + 1))) (Y (ix n ((i_1:Int) + 1))) < 0) && decide (dirR (X (((i_1:Int) + (n:Int) - 1) % (n:Int)).toNat) (Y (((i_1:Int) + (n:Int) - 1) % (n:Int)).toNat) (X (i_1:Int).toNat) (Y (i_1:Int).toNat) ≥ 0)) = true), (!decide (dirR (X (i_1:Int).toNat) (Y (↑i_1 :
     Int).toNat) (X (ix n ((i_1:Int) + 1))) (Y (ix n ((i_1:Int) + 1))) < 0) && decide (dirR (X (((i_1:Int) + (n:Int) - 1) % (n:Int)).toNat) (Y (((i_1:Int) + (n:Int) - 1) % (n:Int)).toNat) (X (i_1:Int).toNat) (Y (i_1:Int).toNat) ≥ 0)) = true → (!decide (dirR (X (i_1:Int).toNat) (Y (i_1:Int).toNat) (X (ix n ((i_1:Int) + 1))) (Y (ix n ((i_1:Int) + 1))) < 0) && decide (dirR (X (((i_1:Int) + (n:Int) - 1) % (n:Int)).toNat) (Y (((i_1:Int) + (n:Int) - 1) % (n:Int)).toNat) (X (i_1:Int).toNat) (Y (i_1:Int).toNat) ≥ 0)) = true, (!decide (dirR (X (i_1:Int).toNat) (Y (i_1:Int).toNat) (X (ix n ((i_1:Int) + 1))) (Y (ix n ((i_1:Int) + 1))) < 0) && decide (dirR (X (((i_1:Int) + (n:Int) - 1) % (n:Int)).toNat) (Y (((i_1:Int) + (n:Int) - 1) % (n:Int)).toNat) (X (i_1:Int).toNat) (Y (i_1:Int).toNat) ≥ 0)) = true → i64In (dirR (X (i_1:Int).toNat) (Y (i_1:Int).toNat) (X (ix n ((i_1:Int) + 1))) (Y (ix n ((i_1:Int) + 1))) - dirR (X (((i_1:Int) + (n:Int) - 1) % (n:Int)).toNat) (Y (((i_1:Int) + (n:Int) - 1) % (n:Int)).toNat) (X (i_1:Int).toNat) (Y (i_1:Int).toNat)), (!decide (dirR (X (i_1:Int).toNat) (Y (i_1:Int).toNat) (X (ix n ((i_1:Int) + 1))) (Y (ix n ((i_1:Int) + 1))) < 0) && decide (dirR (X (((i_1:Int) + (n:Int) - 1) % (n:Int)).toNat) (Y (((i_1:Int) + (n:Int) - 1) % (n:Int)).toNat) (X (i_1:Int).toNat) (Y (i_1:Int).toNat) ≥ 0)) = true → (!decide (dirR (X (i_1:Int).toNat) (Y (i_1:Int).toNat) (X (ix n ((i_1:Int) + (1 :
     Int)))) (Y (ix n ((i_1:Int) + 1))) < 0) && decide (dirR (X (((i_1:Int) + (n:Int) - 1) % (n:Int)).toNat) (Y (((i_1:Int) + (n:Int) - 1) % (n:Int)).toNat) (X (i_1:Int).toNat) (Y (i_1:Int).toNat) ≥ 0)) = true, (!decide (dirR (X (i_1:Int).toNat) (Y (i_1:Int).toNat) (X (ix n ((i_1:Int) + 1))) (Y (ix n ((i_1:Int) + 1))) < 0) && decide (dirR (X (((i_1:Int) + (n:Int) - 1) % (n:Int)).toNat) (Y (((i_1:Int) + (n:Int) - 1) % (n:Int)).toNat) (X (i_1:Int).toNat) (Y (i_1:Int).toNat) ≥ 0)) = true → (2:Int) ≠ 0, ri ((!decide (dirR (X (i_1:Int).toNat) (Y (i_1:Int).toNat) (X (ix n ((i_1:Int) + 1))) (Y (ix n ((i_1:Int) + 1))) < 0) && decide (dirR (X (((i_1:Int) + (n:Int) - 1) % (n:Int)).toNat) (Y (((i_1:Int) + (n:Int) - 1) % (n:Int)).toNat) (X (i_1:Int).toNat) (Y (i_1:Int).toNat) ≥ 0)) = true), ri ((!decide (dirR (X (i_1:Int).toNat) (Y (i_1:Int).toNat) (X (ix n ((i_1:Int) + 1))) (Y (ix n ((i_1:Int) + 1))) < 0)) = true), (!decide (dirR (X (i_1:Int).toNat) (Y (i_1:Int).toNat) (X (ix n ((i_1:Int) + 1))) (Y (ix n ((i_1:Int)
     + 1))) < 0)) = true → decide (dirR (X (((i_1:Int) + (n:Int) - 1) % (n:Int)).toNat) (Y (((i_1:Int) + (n:Int) - 1) % (n:Int)).toNat) (X (i_1:Int).toNat) (Y (i_1:Int).toNat) ≥ 0) = true → (!decide (dirR (X (i_1:Int).toNat) (Y (i_1:Int).toNat) (X (ix n ((i_1:Int) + 1))) (Y (ix n ((i_1:Int) + 1))) < 0) && decide (dirR (X (((i_1:Int) + (n:Int) - 1) % (n:Int)).toNat) (Y (((i_1:Int) + (n:Int) - 1) % (n:Int)).toNat) (X (i_1:Int).toNat) (Y (i_1:Int).toNat) ≥ 0)) = true, decide (dirR (X (i_1:Int).toNat) (Y (i_1:Int).toNat) (X (ix n ((i_1:Int) + 1))) (Y (ix n ((i_1:Int) + 1))) < 0) = false → (!decide (dirR (X (i_1:Int).toNat) (Y (i_1:Int).toNat) (X (ix n ((i_1:Int) + 1))) (Y (ix n ((i_1:Int) + 1))) < 0)) = true] (VT.ite (if decide (dirR (X (i_1:Int).toNat) (Y (i_1:Int).toNat) (X (ix n ((i_1:Int) + 1))) (Y (ix n ((i_1:Int) + 1))) < 0) = true then true else if decide (dirR (X (((i_1:Int) + (n:Int) - 1) % (n:Int)).toNat) (Y (((i_1:Int) + (n:Int) - 1) % (n:Int)).toNat) (X (i_1:Int).toNat) (Y (i_1:Int).toNat) ≥ 0) = true then Int.tmod (dirR (X (i_1:Int).toNat) (Y (i_1:Int).toNat) (X (ix n ((i_1:Int) + 1))) (Y (ix n ((i_1:Int) + 1))) - dirR (X (((i_1:Int) + (n:Int) - 1) % (n:Int)).toNat) (Y (((i_1:Int) + (n:Int) - 1) % (n:Int)).toNat) (X (i_1:Int).toNat) (Y (i_1:Int).toNat)) (2:Int) == 0 else false) (VT.done [(3:Int) = chk n X Y]) (VT.need [i64In ((i_1:Int) + 1)] (VT.done [(i_1:Int) + 1 = (↑((i_1:Int) + 1).toNat :
     Int), n = n, ∀ i < n, X i = X i, ∀ i < n, Y i = Y i, (n:Int) = (n:Int), Int.toNat ((i_1:Int) + 1) ≤ n ∧ ∀ (j : Nat), j < ((i_1:Int) + 1).toNat → formR n X Y j = true, n - ((i_1:Int) + 1).toNat < n - i_1]))))) (VT.loop Nat (fun (a : Nat) => a ≤ n ∧ ∀ (j : Nat), j < a → ∀ (k : Nat), k < n → j + 2 ≤ k → clash n X Y j k = false) (0:Int).toNat [(0:Int) = (↑(0:Int).toNat : Int), n = n, ∀ i < n, X i = X i, ∀ i < n, Y i = Y i, (n:Int) = (n:Int)] fun (i_2 : Nat) => VT.ite (decide ((i_2:Int) < (n:Int))) (VT.need [i64In ((i_2:Int) + 1)] (VT.loop Nat (fun (a : Nat) => Int.toNat (i_2:Int) + 1 ≤ a ∧ ∀ (j : Nat), j < a → Int.toNat (i_2:Int) + 2 ≤ j → j < n → clash n X Y (i_2:Int).toNat j = false) ((i_2:Int) + 1).toNat [(i_2:Int) + 1 = (↑((i_2:Int) + 1).toNat : Int), n = n, ∀ i < n, X i = X i, ∀ i < n, Y i = Y i, (n:Int) = (n:Int), (i_2:Int) = (i_2:Int)] fun (i : Nat) => VT.ite (decide ((i:Int) < (n:Int))) (VT.need [i64In ((i_2:Int) + 1), ri ((!(i:Int) == (i_2:Int) + 1) = true), ri ((!(i:Int) == (i_2:Int) + 1) = true), ri ((!(i:Int) == (i_2:Int) + 1 && (i_2:Int) == 0) = true), (!(i:Int) == (i_2:Int) + 1 && (i_2:Int) == 0) = true → i64In ((n:Int) - 1), ri ((!(i:Int) == (i_2:Int) + 1 && (i_2:Int) == 0) = true), ri ((!(i:Int) == (i_2:Int) + 1 && (i_2:Int) == 0) = true), ri ((!(i:Int) == (i_2:Int) + 1) = true), (!(i:Int) == (i_2:Int) + 1) = true → ((i_2:Int) == 0) = true → (!(i:Int) == (i_2:Int) + 1 && (i_2:Int) == 0) = true, ((i:Int) == (i_2:Int) + 1) = false → (!(i:Int) == (i_2:Int) + 1) = true] (VT.ite (if ((i:Int) == (i_2:Int) + 1) = true then true else if ((i_2:Int) == 0) = true then (i:Int) == (n:Int) - 1 else false) (VT.need [i64In ((i:Int) + 1)] (VT.done [(i:Int) + 1 = (↑((i:Int) + 1).toNat : Int), n = n, ∀ i < n, X i = X i, ∀ i < n, Y i = Y i, (n:Int) = (n:Int), (i_2:Int) = (i_2:Int), Int.toNat (i_2:Int) + 1 ≤ ((i:Int) + 1).toNat ∧ ∀ (j : Nat), j < ((i:Int) + 1).toNat → Int.toNat (i_2:Int) + 2 ≤ j → j < n → clash n X Y (i_2:Int).toNat j = false, n + 2 - ((i:Int) + 1).toNat < n + 2 - i])) (VT.need [(0:Int) ≤ (i_2:Int) ∧ (i_2:Int) < (n:Int), FnC prog 33 [DV.lst n [fun (i : Nat) => DV.val (Value.int IntKind.i64 (X i)), fun (i : Nat) => DV.val (Value.int IntKind.i64 (Y i))], DV.val (Value.int IntKind.i64 (i_2:Int))] (DV.val (Value.agg { toList := [Value.int IntKind.i64 (X (ix n ((i_2:Int) + 1))), Value.int IntKind.i64 (Y (ix n ((i_2:Int) + 1)))] })), (0:Int) ≤ (i:Int) ∧ (i:Int) < (n:Int), FnC prog 33 [DV.lst n [fun (i : Nat) => DV.val (Value.int IntKind.i64 (X i)), fun (i : Nat) => DV.val (Value.int IntKind.i64 (Y i))], DV.val (Value.int IntKind.i64 (i:Int))] (DV.val (Value.agg { toList := [Value.int IntKind.i64 (X (ix n ((i:Int) + 1))), Value.int IntKind.i64 (Y (ix n ((i:Int) + 1)))] })), FnC prog 34 [DV.val (Value.agg { toList := [Value.int IntKind.i64 (X (i_2:Int).toNat),
     Value.int IntKind.i64 (Y (i_2:Int).toNat)] }), DV.val (Value.agg { toList := [Value.int IntKind.i64 (X (ix n ((i_2:Int) + 1))), Value.int IntKind.i64 (Y (ix n ((i_2:Int) + 1)))] }), DV.val (Value.agg { toList := [Value.int IntKind.i64 (X (i:Int).toNat), Value.int IntKind.i64 (Y (i:Int).toNat)] }), DV.val (Value.agg { toList := [Value.int IntKind.i64 (X (ix n ((i:Int) + 1))), Value.int IntKind.i64 (Y (ix n ((i:Int) + 1)))] })] (DV.val (Value.bool (touR (X (i_2:Int).toNat) (Y (i_2:Int).toNat) (X (ix n ((i_2:Int) + 1))) (Y (ix n ((i_2:Int) + 1))) (X (i:Int).toNat) (Y (i:Int).toNat) (X (ix n ((i:Int) + 1))) (Y (ix n ((i:Int) + 1))))))] (VT.ite (touR (X (i_2:Int).toNat) (Y (i_2:Int).toNat) (X (ix n ((i_2:Int) + 1))) (Y (ix n ((i_2:Int) + 1))) (X (i:Int).toNat) (Y (i:Int).toNat) (X (ix n ((i:Int) + 1))) (Y (ix n ((i:Int) + 1)))) (VT.done [(12:Int) = chk n X Y]) (VT.need [i64In ((i:Int) + 1)] (VT.done [(i:Int) + 1 = (↑((i:Int) + 1).toNat : Int), n = n, ∀ i < n, X i = X i, ∀ i < n, Y i = Y i, (n:Int) = (n:Int), (i_2:Int) = (i_2:Int), Int.toNat (i_2:Int) + 1 ≤ ((i:Int) + 1).toNat ∧ ∀ (j : Nat), j < ((i:Int) + 1).toNat → Int.toNat (i_2:Int) + 2 ≤ j → j < n → clash n X Y (i_2:Int).toNat j = false, n + 2 - ((i:Int) + 1).toNat < n + 2 - i])))))) (VT.need [i64In ((i_2:Int) + 1)] (VT.done [(i_2:Int) + 1 = (↑((i_2:Int) + 1).toNat : Int), n = n, ∀ i < n, X i = X i, ∀ i < n, Y i = Y i, (n:Int) = (n:Int), Int.toNat ((i_2:Int) + 1) ≤ n ∧ ∀ (j : Nat), j < ((i_2:Int) + 1).toNat → ∀ (k : Nat), k < n →
     j + 2 ≤ k → clash n X Y j k = false, n - ((i_2:Int) + 1).toNat < n - i_2])))) (VT.need [FnC prog 35 [DV.lst n [fun (i : Nat) => DV.val (Value.int IntKind.i64 (X i)), fun (i : Nat) => DV.val (Value.int IntKind.i64 (Y i))]] (DV.val (Value.int IntKind.i64 (twS n X Y n)))] (VT.ite (decide (twS n X Y n < 0)) (VT.done [(10:Int) = chk n X Y]) (VT.done [(0:Int) = chk n X Y])))))))) (by kernel_rfl) ?_
  simp only [VT.holds, AllT, Sq]
  refine ⟨within_c _ _ _, fun h => ?_, fun h => ⟨rfl, ⟨Nat.zero_le n, fun j hj => (by omega)⟩, fun i ⟨hin, hb⟩ => ⟨fun hlt => ?_, fun hge => ⟨rfl, ⟨Nat.zero_le n, fun j hj => (by omega)⟩, fun i1 ⟨hi1, hf⟩ => ⟨fun hlt1 => ?_, fun hge1 => ⟨rfl, ⟨Nat.zero_le n, fun j hj => (by omega)⟩, fun i2 ⟨hi2, hc⟩ => ⟨fun hlt2 => ⟨by unfold i64In; omega, rfl, ⟨Nat.le_refl _, fun j h1 h2 => (by omega)⟩, fun k ⟨hk, hck⟩ => ⟨fun hkn => ?_, fun hkn => ?_⟩⟩, fun hge2 => ?_⟩⟩⟩⟩⟩⟩⟩
  · rw [chk, if_pos (by omega)]
  · have hr : (0:Int) ≤ i ∧ (i : Int) < n := by omega
    have b1 := in_c (X i)
    have b2 := in_c (Y i)
    refine ⟨⟨hr, b1, fun _ => hr, fun _ => b2⟩, fun hbad => ?_, fun hok => ⟨by unfold i64In; omega, rfl, ⟨by omega, fun j hj => ?_⟩, by omega⟩⟩
    · rw [chk, if_neg (by omega), if_pos]
      unfold allIn
      rw [decide_eq_false_iff_not]
      intro hall
      have := hall i (by omega)
      rcases hbad with hx | hx <;> simp [badP, hx] at this
    · by_cases e : j = i
      · subst e
        simp [badP, hok.2, hok.1]
      · exact hb j (by omega)
  · have hr : (0:Int) ≤ i1 ∧ (i1 : Int) < n := by omega
    have e0 := ix_nat (n := n) (i := i1) (by omega)
    have e1 : ix n ((i1 : Int) - 1 + 1) = i1 := by rw [show (i1 : Int) - 1 + 1 = (i1 : Int) by omega, e0]
    have m1 := Int.emod_lt_of_pos ((i1 : Int) + n - 1) (show (0:Int) < n by omega)
    have m2 := Int.emod_nonneg ((i1 : Int) + n - 1) (show (n : Int) ≠ 0 by omega)
    have d1 := dirR_c (X i1) (Y i1) (X (ix n ((i1 : Int) + 1))) (Y (ix n ((i1 : Int) + 1)))
    have d2 := dirR_c (X (ix n ((i1 : Int) - 1))) (Y (ix n ((i1 : Int) - 1))) (X i1) (Y i1)
    rw [ix_prev]
    have g1 : dirR (X i1) (Y i1) (X (ix n ((i1 : Int) + 1))) (Y (ix n ((i1 : Int) + 1))) = if dO n X Y i1 = true then dD n X Y i1 else -1 := by
      unfold dirR dO dD; rw [e0]
    have g2 : dirR (X (ix n ((i1 : Int) - 1))) (Y (ix n ((i1 : Int) - 1))) (X i1) (Y i1) = if dO n X Y ((i1 : Int) - 1) = true then dD n X Y ((i1 : Int) - 1) else -1 := by
      unfold dirR dO dD; rw [e1]
    have r1 := dD_range n X Y i1
    have r2 := dD_range n X Y ((i1 : Int) - 1)
    generalize hd : dirR (X i1) (Y i1) (X (ix n ((i1 : Int) + 1))) (Y (ix n ((i1 : Int) + 1))) = d at *
    generalize he : dirR (X (ix n ((i1 : Int) - 1))) (Y (ix n ((i1 : Int) - 1))) (X i1) (Y i1) = e at *
    have par := tmod_two d e
    have b1 : -1 ≤ d ∧ d ≤ 3 := by rw [g1]; split <;> omega
    have b2 : -1 ≤ e ∧ e ≤ 3 := by rw [g2]; split <;> omega
    refine ⟨⟨hr, next_c n X Y i1 (by omega) (by omega) (by omega) (by omega), d1, by unfold i64In; omega, by unfold i64In; omega, ⟨by omega, by omega⟩, ⟨m2, m1⟩, hr, d2⟩, ⟨fun _ => by unfold i64In; omega, fun _ => by omega, fun h1 h2 => ⟨h1, h2⟩⟩, fun hbad => ?_, fun hok => ⟨by unfold i64In; omega, rfl, ⟨by omega, fun j hj => ?_⟩, by omega⟩⟩
    · have hnf : formOk n X Y i1 = false := by
        unfold formOk
        cases ho1 : dO n X Y i1
        · simp
        · cases ho2 : dO n X Y ((i1 : Int) - 1)
          · simp
          · rw [ho1] at g1
            rw [ho2] at g2
            simp only [if_true] at g1 g2
            simp
            omega
      have ha : allIn n X Y = true := by
        unfold allIn
        rw [decide_eq_true_eq]
        exact fun j hj => hb j (by omega)
      rw [chk, if_neg (by omega), if_neg (by rw [ha]; simp), if_pos (fun hall => by rw [hall i1 (by omega)] at hnf; cases hnf)]
    · by_cases ej : j = i1
      · subst ej
        unfold formR
        cases ho1 : dO n X Y j
        · rw [ho1] at g1; simp at g1; omega
        · cases ho2 : dO n X Y ((j : Int) - 1)
          · simp
          · rw [ho1] at g1
            rw [ho2] at g2
            simp only [if_true] at g1 g2
            simp
            have := hok.2 (by omega)
            omega
      · exact hf j (by omega)
  · have hr1 : (0:Int) ≤ i2 ∧ (i2 : Int) < n := by omega
    have hr2 : (0:Int) ≤ k ∧ (k : Int) < n := by omega
    have e1 := ix_nat (n := n) (i := i2) (by omega)
    have e2 := ix_nat (n := n) (i := k) (by omega)
    have t := touchR_c (X i2) (Y i2) (X (ix n ((i2 : Int) + 1))) (Y (ix n ((i2 : Int) + 1))) (X k) (Y k) (X (ix n ((k : Int) + 1))) (Y (ix n ((k : Int) + 1)))
    have te : touR (X i2) (Y i2) (X (ix n ((i2 : Int) + 1))) (Y (ix n ((i2 : Int) + 1))) (X k) (Y k) (X (ix n ((k : Int) + 1))) (Y (ix n ((k : Int) + 1))) = touF n X Y i2 k := by
      unfold touR touF lo hi; rw [e1, e2]
    rw [te] at t ⊢
    have cl : clash n X Y i2 k = (decide (((k : Int) + 1) % (n : Int) ≠ (i2 : Int)) && touF n X Y i2 k) := rfl
    have cm : ((k : Int) + 1) % (n : Int) = (i2 : Int) ↔ (i2 = 0 ∧ k = n - 1) := by
      by_cases ek : k = n - 1
      · rw [show (k : Int) + 1 = n by omega, Int.emod_self]; omega
      · rw [Int.emod_eq_of_lt (by omega) (by omega)]; omega
    refine ⟨⟨by unfold i64In; omega, fun _ => by unfold i64In; omega, fun h1 h2 => ⟨h1, h2⟩⟩, fun hs => ⟨by unfold i64In; omega, rfl, ⟨by omega, fun j h1 h2 h3 => ?_⟩, by omega⟩, fun hs => ⟨⟨hr1, next_c n X Y i2 (by omega) (by omega) (by omega) (by omega), hr2, next_c n X Y k (by omega) (by omega) (by omega) (by omega), t⟩, fun ht => ?_, fun ht => ⟨by unfold i64In; omega, rfl, ⟨by omega, fun j h1 h2 h3 => ?_⟩, by omega⟩⟩⟩
    · by_cases ej : j = k
      · subst ej
        have hx := cm.2 (show i2 = 0 ∧ j = n - 1 by omega)
        rw [cl]
        simp [hx]
      · exact hck j (by omega) h2 h3
    · have ha : allIn n X Y = true := by
        unfold allIn
        rw [decide_eq_true_eq]
        exact fun j hj => hb j (by omega)
      have hform := formR_all (n := n) (X := X) (Y := Y) (by omega) (fun j hj => hf j (by omega))
      rw [chk, if_neg (by omega), if_neg (by rw [ha]; simp), if_neg (fun hx => hx hform), if_pos (fun hall => ?_)]
      have h2 := hall i2 (by omega) k (by omega) (by omega)
      rw [cl, ht, Bool.and_true, decide_eq_false_iff_not] at h2
      exact h2 (fun hx => by have := cm.1 hx; omega)
    · by_cases ej : j = k
      · subst ej
        rw [cl, ht, Bool.and_false]
      · exact hck j (by omega) h2 h3
  · refine ⟨by unfold i64In; omega, rfl, ⟨by omega, fun j h1 k' h2 h3 => ?_⟩, by omega⟩
    by_cases e : j = i2
    · subst e; exact hck k' (by omega) h3 h2
    · exact hc j (by omega) k' h2 h3
  · have ha : allIn n X Y = true := by
      unfold allIn
      rw [decide_eq_true_eq]
      exact fun j hj => hb j (by omega)
    obtain ⟨b1, b2⟩ := allIn_inB ha
    have hform := formR_all (n := n) (X := X) (Y := Y) (by omega) (fun j hj => hf j (by omega))
    have hcl : ∀ j, j < n → ∀ k, k < n → j + 2 ≤ k → clash n X Y j k = false := fun j hj => hc j (by omega)
    refine ⟨twiceR_c n X Y (by omega) (by omega) b1 b2, fun ht => ?_, fun ht => ?_⟩
    · rw [chk, if_neg (by omega), if_neg (by rw [ha]; simp), if_neg (fun hx => hx hform), if_neg (fun hx => hx hcl), if_pos ht]
    · rw [chk, if_neg (by omega), if_neg (by rw [ha]; simp), if_neg (fun hx => hx hform), if_neg (fun hx => hx hcl), if_neg ht]
end Go.Abs
end
