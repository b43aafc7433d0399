/- Contracts. -/
import Derived.Test.YtcgfcahljfmipaaDoorK3
set_option linter.unusedVariables false
set_option linter.unusedSimpArgs false
set_option maxRecDepth 100000
namespace Go.Abs
open Go
theorem chk_zero {n : Nat} {X Y : Nat → Int} (h : chk n X Y = 0) : (4 ≤ n ∧ n ≤ 40) ∧ allIn n X Y = true ∧ (∀ i, i < n → formOk n X Y i = true) ∧
    (∀ i, i < n → ∀ k, k < n → i + 2 ≤ k → clash n X Y i k = false) ∧ 0 ≤ twS n X Y n := by
  unfold chk at h
  split at h
  · cases h
  · rename_i h1
    split at h
    · cases h
    · rename_i h2
      split at h
      · cases h
      · rename_i h3
        split at h
        · cases h
        · rename_i h4
          split at h
          · cases h
          · rename_i h5
            exact ⟨Decidable.not_not.1 h1, by simpa using h2, Decidable.not_not.1 h3, Decidable.not_not.1 h4, by omega⟩
theorem chk_inB {n : Nat} {X Y : Nat → Int} (h : chk n X Y = 0) : inB n X ∧ inB n Y := allIn_inB (chk_zero h).2.1
theorem chk_n {n : Nat} {X Y : Nat → Int} (h : chk n X Y = 0) : 4 ≤ n ∧ n ≤ 40 := (chk_zero h).1
/-- A point is on a side; a side is crossed by the ray to the right; how often, by parity. -/
def onS (n : Nat) (X Y : Nat → Int) (p q : Int) (i : Nat) : Bool := decide (lo n X i ≤ p ∧ p ≤ hi n X i ∧ lo n Y i ≤ q ∧ q ≤ hi n Y i)
def crB (n : Nat) (X Y : Nat → Int) (p q : Int) (i : Nat) : Bool := decide (lo n X i = hi n X i ∧ lo n X i > p ∧ lo n Y i ≤ q ∧ q < hi n Y i)
def crs (n : Nat) (X Y : Nat → Int) (p q : Int) : Nat → Bool
  | 0 => false
  | k + 1 => if crB n X Y p q k = true then !(crs n X Y p q k) else crs n X Y p q k
def whF (n : Nat) (X Y : Nat → Int) (p q : Int) : Int := if ¬ ∀ i, i < n → onS n X Y p q i = false then 0 else if crs n X Y p q n = true then 1 else -1
/-- The error of an outline and a place. -/
def whE (n : Nat) (X Y : Nat → Int) (p q : Int) : Int := if chk n X Y ≠ 0 then chk n X Y else if inF p = true ∧ inF q = true then 0 else 2
def whR (n : Nat) (X Y : Nat → Int) (p q : Int) : Int := if whE n X Y p q ≠ 0 then 0 else whF n X Y p q
/-- The square of the distance from a side; the least of the first ones. -/
def ap (p l h : Int) : Int := max (max (l - p) (p - h)) 0
def dst (n : Nat) (X Y : Nat → Int) (p q : Int) (i : Nat) : Int := ap p (lo n X i) (hi n X i) * ap p (lo n X i) (hi n X i) + ap q (lo n Y i) (hi n Y i) * ap q (lo n Y i) (hi n Y i)
def bst (n : Nat) (X Y : Nat → Int) (p q : Int) : Nat → Int
  | 0 => -1
  | k + 1 => if bst n X Y p q k < 0 ∨ dst n X Y p q k < bst n X Y p q k then dst n X Y p q k else bst n X Y p q k
def diR (n : Nat) (X Y : Nat → Int) (p q : Int) : Int := if whE n X Y p q ≠ 0 ∨ whR n X Y p q ≥ 0 then 0 else bst n X Y p q n
def cor (n : Nat) (X Y : Nat → Int) (k : Nat) : Int := if dD n X Y k = (dD n X Y ((k : Int) - 1) + 1) % 4 then 1 else -1
def rWhF : Orc := .res fun l => dI (whF (aN l) (aX l) (aY l) (fI 0 (arg l 1)) (fI 1 (arg l 1)))
def rWh : Orc := .res fun l => .tup [dI (whR (aN l) (aX l) (aY l) (fI 0 (arg l 1)) (fI 1 (arg l 1))), dI (whE (aN l) (aX l) (aY l) (fI 0 (arg l 1)) (fI 1 (arg l 1)))]
def rDi : Orc := .res fun l => .tup [dI (diR (aN l) (aX l) (aY l) (fI 0 (arg l 1)) (fI 1 (arg l 1))), dI (whE (aN l) (aX l) (aY l) (fI 0 (arg l 1)) (fI 1 (arg l 1)))]
def arF (n : Nat) (X Y : Nat → Int) : Int := if chk n X Y ≠ 0 then 0 else twS n X Y n / 2
def rAr : Orc := .res fun l => .tup [dI (arF (aN l) (aX l) (aY l)), dI (chk (aN l) (aX l) (aY l))]
def coN (n : Nat) (X Y : Nat → Int) : Nat := if chk n X Y ≠ 0 then 0 else n
def rCo : Orc := .res fun l => .tup [.lst (coN (aN l) (aX l) (aY l)) [fun k => dI (cor (aN l) (aX l) (aY l) k)], dI (chk (aN l) (aX l) (aY l))]
theorem lo_bd {n : Nat} {X : Nat → Int} (hn : 0 < n) (h : inB n X) (i : Int) : -1000000 ≤ lo n X i ∧ lo n X i ≤ 1000000 := by
  have := h _ (ix_lt (i := i) hn)
  have := h _ (ix_lt (i := i + 1) hn)
  unfold lo; omega
theorem hi_bd {n : Nat} {X : Nat → Int} (hn : 0 < n) (h : inB n X) (i : Int) : -1000000 ≤ hi n X i ∧ hi n X i ≤ 1000000 := by
  have := h _ (ix_lt (i := i) hn)
  have := h _ (ix_lt (i := i + 1) hn)
  unfold hi; omega
theorem ap_bd {p l h : Int} (hp : -1000000 ≤ p ∧ p ≤ 1000000) (hl : -1000000 ≤ l ∧ l ≤ 1000000) (hh : -1000000 ≤ h ∧ h ≤ 1000000) : 0 ≤ ap p l h ∧ (ap p l h * ap p l h).natAbs ≤ 4000000000000 ∧ 0 ≤ ap p l h * ap p l h := by
  have h0 : 0 ≤ ap p l h := by unfold ap; omega
  have h1 : (ap p l h).natAbs ≤ 2000000 := by unfold ap; omega
  exact ⟨h0, mul_bd h1 h1, Int.mul_nonneg h0 h0⟩
noncomputable def A52_where_c (n : Nat) (X Y : Nat → Int) (p q : Int) : Ann := { orc := [(5, [(2, rSpan)])], loops := [(0, { ι := Nat, keep := [0, 3, 10], boxes := [3], ts := fun _ i => [(5, dB (crs n X Y p q i)), (11, dI (i : Int))], inv := fun _ i => i ≤ n ∧ ∀ j, j < i → onS n X Y p q j = false, mu := fun _ i => n - i, rd := fun _ σ => (iOf (σ.get 11)).toNat })], cuts := [] }
theorem where_c (n : Nat) (X Y : Nat → Int) (p q : Int) (hn : 0 < n) (hn2 : n ≤ 800) : FnC prog 44 [pts n X Y, dP p q] (dI (whF n X Y p q)) := by
  refine FnC_owed hmix (A52_where_c n X Y p q) (V := VT.loop Nat (fun (a : Nat) => a ≤ n ∧ ∀ (j : Nat), j < a → onS n X Y p q j = false) (0:Int).toNat [false = false, (0:Int) = (↑(0:Int).toNat : Int), n = n, ∀ i < n, X i = X i, ∀ i < n, Y i = Y i, (n:Int) = (n:Int), p = p, q = q] fun (i : Nat) => VT.ite (decide ((i:Int) < (n:Int))) (VT.need [FnC prog 41 [DV.lst n [fun (i : Nat) => DV.val (Value.int IntKind.i64 (X i)), fun (i : Nat) => DV.val (Value.int IntKind.i64 (Y i))], DV.val (Value.int IntKind.i64 (i:Int))] (DV.tup [DV.val (Value.agg { toList := [Value.int IntKind.i64 (lo n X (i:Int)), Value.int IntKind.i64 (lo n Y (i:Int))] }), DV.val (Value.agg { toList := [Value.int IntKind.i64 (hi n X (i:Int)), Value.int IntKind.i64 (hi n Y (i:Int))] })])] (VT.need [ri (decide (lo n X (i:Int) ≤ p) = true), ri (decide (lo n X (i:Int) ≤ p) = true), ri (decide (lo n X (i:Int) ≤ p) = true), ri (decide (lo n X (i:Int) ≤ p) = true), ri (decide (lo n X (i:Int) ≤ p) = true), ri ((if decide (lo n X (i:Int) ≤ p) = true then decide (p ≤ hi n X (i:Int)) else false) = true), ri ((if decide (lo n X (i:Int) ≤ p) = true then decide (p ≤ hi n X (i:Int)) else false) = true), ri ((if decide (lo n X (i:Int) ≤ p) = true then decide (p ≤ hi n X (i:Int)) else false) = true), ri ((if decide (lo n X (i:Int) ≤ p) = true then decide (p ≤ hi n X (i:Int)) else false) = true), ri ((if decide (lo n X (i:Int) ≤ p) = true then decide (p ≤ hi n X (i:Int)) else false) = true), ri ((if (if decide (lo n X (i:Int) ≤ p) = true then decide (p ≤ hi n X (i:Int)) else false) = true then decide (lo n Y (i:Int) ≤ q) else false) = true), ri ((if (if decide (lo n X (i:Int) ≤ p) = true then decide (p ≤ hi n X (i:Int)) else false) = true then decide (lo n Y (i:Int) ≤ q) else false) = true), ri ((if (if decide (lo n X (i:Int) ≤ p) = true then decide (p ≤ hi n X (i:Int)) else false) = true then decide (lo n Y (i:Int) ≤ q) else false) = true), ri ((if (if decide (lo n X (i:Int) ≤ p) = true then decide (p ≤ hi n X (i:Int)) else false) = true then decide (lo n Y (i:Int) ≤ q) else false) = true), ri ((if (if decide (lo n X (i:Int) ≤ p) = true then decide (p ≤ hi n X (i:Int)) else false) = true then decide (lo n Y (i:Int) ≤ q) else false) = true)] (VT.ite (if (if (if decide (lo n X (i:Int) ≤ p) = true then decide (p ≤ hi n X (i:Int)) else false) = true then decide (lo n Y (i:Int) ≤ q) else false) = true then decide (q ≤ hi n Y (i:Int)) else false) (VT.done [(0:Int) = whF n X
     Y p q]) (VT.need [ri ((lo n X (i:Int) == hi n X (i:Int)) = true), ri ((lo n X (i:Int) == hi n X (i:Int)) = true), ri ((lo n X (i:Int) == hi n X (i:Int)) = true), ri ((lo n X (i:Int) == hi n X (i:Int)) = true), ri ((lo n X (i:Int) == hi n X (i:Int)) = true), ri ((if (lo n X (i:Int) == hi n X (i:Int)) = true then decide (lo n X (i:Int) > p) else false) = true), ri ((if (lo n X (i:Int) == hi n X (i:Int)) = true then decide (lo n X (i:Int) > p) else false) = true), ri ((if (lo n X (i:Int) == hi n X (i:Int)) = true then decide (lo n X (i:Int) > p) else false) = true), ri ((if (lo n X (i:Int) == hi n X (i:Int)) = true then decide (lo n X (i:Int) > p) else false) = true), ri ((if (lo n X (i:Int) == hi n X (i:Int)) = true then decide (lo n X (i:Int) > p) else false) = true), ri ((if (if (lo n X (i:Int) == hi n X (i:Int)) = true then decide (lo n X (i:Int) > p) else false) = true then decide (lo n Y (i:Int) ≤ q) else false) = true), ri ((if (if (lo n X (i:Int) == hi n X (i:Int)) = true then decide (lo n X (i:Int) > p) else false) = true then decide (lo n Y (i:Int) ≤ q) else false) = true), ri ((if (if (lo n X (i:Int) == hi n X (i:Int)) = true then decide (lo n X (i:Int) > p) else false) = true then decide (lo n Y (i:Int) ≤ q) else false) = true), ri ((if (if (lo n X (i:Int) == hi n X (i:Int)) = true then decide (lo n X (i:Int) > p) else false) = true then decide (lo n Y (i:Int) ≤ q) else false) = true), ri ((if (if (lo n X (i:Int) == hi n X (i:Int)) = true then decide (lo n X (i:Int) > p) else false) = true then decide (lo n Y (i:Int) ≤ q) else false) = true)] (VT.ite (if (if (if (lo n X (i:Int) == hi n X (i:Int)) = true then decide (lo n X (i:Int) > p) else false) = true then decide (lo n Y (i:Int) ≤ q) else false) = true then decide (q < hi n Y (i:Int)) else false) (VT.need [i64In ((i:Int) + 1)] (VT.done [(!crs n X Y p q i) = crs n X Y p q ((i:Int) + 1).toNat, (i:Int) + 1 = (↑((i:Int) + 1).toNat : Int), n = n, ∀ i < n, X i = X i, ∀ i < n, Y i = Y i, (n:Int) = (n:Int), p = p, q = q, Int.toNat ((i:Int) + 1) ≤ n ∧ ∀ (j : Nat), j < ((i:Int) + 1).toNat → onS n X Y p q j = false, n - ((i:Int) + 1).toNat < n - i])) (VT.need [i64In
     ((i:Int) + 1)] (VT.done [crs n X Y p q i = crs n X Y p q ((i:Int) + 1).toNat, (i:Int) + 1 = (↑((i:Int) + 1).toNat : Int), n = n, ∀ i < n, X i = X i, ∀ i < n, Y i = Y i, (n:Int) = (n:Int), p = p, q = q, Int.toNat ((i:Int) + 1) ≤ n ∧ ∀ (j : Nat), j < ((i:Int) + 1).toNat → onS n X Y p q j = false, n - ((i:Int) + 1).toNat < n - i]))))))) (VT.ite (crs n X Y p q i) (VT.done [(1:Int) = whF n X Y p q]) (VT.done [(-1:Int) = whF n X Y p q]))) (by kernel_rfl) ?_
  simp only [VT.holds, AllT, Sq]
  refine ⟨rfl, ⟨Nat.zero_le n, fun j hj => (by omega)⟩, fun i ⟨hi, hb⟩ => ⟨fun hlt => ⟨span_c n X Y i hn (by omega) (by omega) (by omega), fun hon => ?_, fun hoff => ?_⟩, fun hge => ?_⟩⟩
  · rw [whF, if_pos (fun hall => ?_)]
    have := hall i (by omega)
    unfold onS at this
    rw [decide_eq_false_iff_not] at this
    exact this (by omega)
  · have hbn : ∀ j, j < i + 1 → onS n X Y p q j = false := fun j hj => by
      by_cases e : j = i
      · subst e
        unfold onS
        rw [decide_eq_false_iff_not]
        omega
      · exact hb j (by omega)
    refine ⟨fun hc => ⟨by unfold i64In; omega, ?_, rfl, ⟨by omega, hbn⟩, by omega⟩, fun hc => ⟨by unfold i64In; omega, ?_, rfl, ⟨by omega, hbn⟩, by omega⟩⟩
    · rw [crs, if_pos]
      unfold crB
      rw [decide_eq_true_eq]; omega
    · rw [crs, if_neg]
      unfold crB
      rw [decide_eq_true_eq]; omega
  · have hall : ∀ j, j < n → onS n X Y p q j = false := fun j hj => hb j (by omega)
    have : i = n := by omega
    subst this
    refine ⟨fun h => ?_, fun h => ?_⟩
    · rw [whF, if_neg (fun hx => hx hall), if_pos h]
    · rw [whF, if_neg (fun hx => hx hall), if_neg (by rw [h]; simp)]
noncomputable def A12_whereTop_c (n : Nat) (X Y : Nat → Int) (p q : Int) : Ann := { orc := [(1, [(1, rChk)]), (4, [(1, rChkP)]), (7, [(2, rWhF)])], loops := [], cuts := [] }
theorem whereTop_c (n : Nat) (X Y : Nat → Int) (p q : Int) (hn2 : n ≤ 1000000) : FnC prog 17 [pts n X Y, dP p q] (.tup [dI (whR n X Y p q), dI (whE n X Y p q)]) := by
  refine FnC_owed hmix (A12_whereTop_c n X Y p q) (V := VT.need [FnC prog 24 [DV.lst n [fun (i : Nat) => DV.val (Value.int IntKind.i64 (X i)), fun (i : Nat) => DV.val (Value.int IntKind.i64 (Y i))]] (DV.val (Value.int IntKind.i64 (chk n X Y)))] (VT.ite (chk n X Y != 0) (VT.done [(0:Int) = whR n X Y p q, chk n X Y = whE n X Y p q]) (VT.need [FnC prog 43 [DV.val (Value.agg { toList := [Value.int IntKind.i64 p, Value.int IntKind.i64 q] })] (DV.val (Value.int IntKind.i64 (if inF p = true ∧ inF q = true then (0:Int) else (2:Int))))] (VT.ite ((if inF p = true ∧ inF q = true then (0:Int) else (2:Int)) != 0) (VT.done [(0:Int) = whR n X Y p q, (if inF p = true ∧ inF q = true then (0:Int) else (2:Int)) = whE n X Y p q]) (VT.need [FnC prog 44 [DV.lst n [fun (i : Nat) => DV.val (Value.int IntKind.i64 (X i)), fun (i : Nat) => DV.val (Value.int IntKind.i64 (Y i))], DV.val (Value.agg { toList := [Value.int IntKind.i64 p, Value.int IntKind.i64 q] })] (DV.val (Value.int IntKind.i64 (whF n X Y p q)))] (VT.done [whF n X Y p q = whR n X Y p q, (0:Int) = whE n X Y p q])))))) (by kernel_rfl) ?_
  simp only [VT.holds, AllT, Sq]
  refine ⟨checkOutline_c n X Y hn2, fun h => ?_, fun h => ⟨checkPoint_c p q, fun h2 => ?_, fun h2 => ⟨?_, ?_, ?_⟩⟩⟩
  · have e : whE n X Y p q = chk n X Y := by rw [whE, if_pos h]
    exact ⟨by rw [whR, if_pos (by rw [e]; exact h)], e.symm⟩
  · have e : whE n X Y p q = if inF p = true ∧ inF q = true then 0 else 2 := by rw [whE, if_neg (by rw [h]; simp)]
    exact ⟨by rw [whR, if_pos (by rw [e]; exact h2)], e.symm⟩
  · have := chk_n h
    exact where_c n X Y p q (by omega) (by omega)
  · have e : whE n X Y p q = if inF p = true ∧ inF q = true then 0 else 2 := by rw [whE, if_neg (by rw [h]; simp)]
    rw [whR, if_neg (by rw [e, h2]; simp)]
  · rw [whE, if_neg (by rw [h]; simp), h2]
noncomputable def A14_dist_c (n : Nat) (X Y : Nat → Int) (p q : Int) : Ann := { orc := [(1, [(2, rWh)]), (8, [(2, rSpan)]), (9, [(6, rApart), (13, rApart)])], loops := [(0, { ι := Nat, keep := [0, 3, 29], boxes := [3], ts := fun _ i => [(8, dI (bst n X Y p q i)), (30, dI (i : Int))], inv := fun _ i => i ≤ n, mu := fun _ i => n - i, rd := fun _ σ => (iOf (σ.get 30)).toNat })], cuts := [] }
theorem dist_c (n : Nat) (X Y : Nat → Int) (p q : Int) (hn2 : n ≤ 1000000) : FnC prog 16 [pts n X Y, dP p q] (.tup [dI (diR n X Y p q), dI (whE n X Y p q)]) := by
  refine FnC_owed hmix (A14_dist_c n X Y p q) (V := VT.need [FnC prog 17 [DV.lst n [fun (i : Nat) => DV.val (Value.int IntKind.i64 (X i)), fun (i : Nat) => DV.val (Value.int IntKind.i64 (Y i))], DV.val (Value.agg { toList := [Value.int IntKind.i64 p, Value.int IntKind.i64 q] })] (DV.tup [DV.val (Value.int IntKind.i64 (whR n X Y p q)), DV.val (Value.int IntKind.i64 (whE n X Y p q))])] (VT.need [ri ((!whE n X Y p q != 0) = true), (whE n X Y p q != 0) = false → (!whE n X Y p q != 0) = true] (VT.ite (if (whE n X Y p q != 0) = true then true else decide (whR n X Y p q ≥ 0)) (VT.done [(0:Int) = diR n X Y p q, whE n X Y p q = whE n X Y p q]) (VT.loop Nat (fun (a : Nat) => a ≤ n) (0:Int).toNat [(-1:Int) = (-1:Int), (0:Int) = (↑(0:Int).toNat : Int), n = n, ∀ i < n, X i = X i, ∀ i < n, Y i = Y i, (n:Int) = (n:Int), p = p, q = q] fun (i : Nat) => VT.ite (decide ((i:Int) < (n:Int))) (VT.need [FnC prog 41 [DV.lst n [fun (i : Nat) => DV.val (Value.int IntKind.i64 (X i)), fun (i : Nat) => DV.val (Value.int IntKind.i64 (Y i))], DV.val (Value.int IntKind.i64 (i:Int))] (DV.tup [DV.val (Value.agg { toList := [Value.int IntKind.i64 (lo n X (i:Int)), Value.int IntKind.i64 (lo n Y (i:Int))] }), DV.val (Value.agg { toList := [Value.int IntKind.i64 (hi n X (i:Int)), Value.int IntKind.i64 (hi n Y (i:Int))] })])] (VT.need [FnC prog 42 [DV.val (Value.int IntKind.i64 p), DV.val (Value.int IntKind.i64 (lo n X (i:Int))), DV.val (Value.int IntKind.i64 (hi n X (i:Int)))] (DV.val (Value.int IntKind.i64 (max (max (lo n X (i:Int) - p) (p - hi n X (i:Int))) (0:Int)))), FnC prog 42 [DV.val (Value.int IntKind.i64 q), DV.val (Value.int IntKind.i64 (lo n Y (i:Int))), DV.val (Value.int IntKind.i64 (hi n Y (i:Int)))] (DV.val (Value.int IntKind.i64 (max (max (lo n Y (i:Int) - q) (q - hi n Y (i:Int))) (0:Int))))] (VT.need [i64In (max (max (lo n X (↑i
     : Int) - p) (p - hi n X (i:Int))) (0:Int) * max (max (lo n X (i:Int) - p) (p - hi n X (i:Int))) (0:Int)), i64In (max (max (lo n Y (i:Int) - q) (q - hi n Y (i:Int))) (0:Int) * max (max (lo n Y (i:Int) - q) (q - hi n Y (i:Int))) (0:Int)), i64In (max (max (lo n X (i:Int) - p) (p - hi n X (i:Int))) (0:Int) * max (max (lo n X (i:Int) - p) (p - hi n X (i:Int))) (0:Int) + max (max (lo n Y (i:Int) - q) (q - hi n Y (i:Int))) (0:Int) * max (max (lo n Y (i:Int) - q) (q - hi n Y (i:Int))) (0:Int))] (VT.need [ri ((!decide (bst n X Y p q i < 0)) = true), ri ((!decide (bst n X Y p q i < 0)) = true), decide (bst n X Y p q i < 0) = false → (!decide (bst n X Y p q i < 0)) = true] (VT.ite (if decide (bst n X Y p q i < 0) = true then true else decide (max (max (lo n X (i:Int) - p) (p - hi n X (i:Int))) (0:Int) * max (max (lo n X (i:Int) - p) (p - hi n X (i:Int))) (0:Int) + max (max (lo n Y (i:Int) - q) (q - hi n Y (i:Int))) (0:Int) * max (max (lo n Y (i:Int) - q) (q - hi n Y (i:Int))) (0:Int) < bst n X Y p q i)) (VT.need [i64In ((i:Int) + 1)] (VT.done [max (max (lo n X (i:Int) - p) (p - hi n X (i:Int))) (0:Int) * max (max (lo n X (i:Int) - p) (p - hi n X (i:Int))) (0:Int) + max (max (lo n Y (i:Int) - q) (q - hi n Y (i:Int))) (0:Int) * max (max (lo n Y (i:Int) - q) (q - hi n Y (i:Int))) (0:Int) = bst n X Y p q ((i:Int) + 1).toNat, (i:Int) + 1 = (↑((i:Int) + 1).toNat : Int), n = n, ∀ i < n, X i = X i, ∀ i < n, Y i = Y i, (n:Int) = (n:Int), p = p, q = q, Int.toNat ((i:Int) + 1) ≤ n, n - ((i:Int) + 1).toNat < n - i])) (VT.need [i64In ((i:Int) + 1)] (VT.done [bst n X Y p q i = bst n X Y p q ((i:Int) + (1 :
     Int)).toNat, (i:Int) + 1 = (↑((i:Int) + 1).toNat : Int), n = n, ∀ i < n, X i = X i, ∀ i < n, Y i = Y i, (n:Int) = (n:Int), p = p, q = q, Int.toNat ((i:Int) + 1) ≤ n, n - ((i:Int) + 1).toNat < n - i]))))))) (VT.done [bst n X Y p q i = diR n X Y p q, (0:Int) = whE n X Y p q]))))) (by kernel_rfl) ?_
  simp only [VT.holds, AllT, Sq]
  refine ⟨whereTop_c n X Y p q hn2, fun h => ?_, fun h => ⟨rfl, Nat.zero_le n, fun i hin => ?_⟩⟩
  · rw [diR, if_pos h]
  · have h0 : whE n X Y p q = 0 := Decidable.not_not.1 h.1
    have hchk : chk n X Y = 0 := by
      unfold whE at h0
      split at h0
      · rename_i hx; exact absurd h0 hx
      · rename_i hx; exact Decidable.not_not.1 hx
    have hpq : inF p = true ∧ inF q = true := by
      unfold whE at h0
      rw [if_neg (by rw [hchk]; simp)] at h0
      split at h0
      · assumption
      · cases h0
    simp only [inF, decide_eq_true_eq] at hpq
    obtain ⟨hX, hY⟩ := chk_inB hchk
    have hn := chk_n hchk
    have l1 := lo_bd (by omega) hX i
    have l2 := lo_bd (by omega) hY i
    have u1 := hi_bd (by omega) hX i
    have u2 := hi_bd (by omega) hY i
    have a1 := ap_bd hpq.1 l1 u1
    have a2 := ap_bd hpq.2 l2 u2
    refine ⟨fun hlt => ⟨span_c n X Y i (by omega) (by omega) (by omega) (by omega), ⟨apart_c p _ _ (by omega) (by omega) (by omega), apart_c q _ _ (by omega) (by omega) (by omega)⟩, ?_⟩, fun hge => ⟨?_, h0.symm⟩⟩
    · show (i64In (ap p (lo n X i) (hi n X i) * ap p (lo n X i) (hi n X i)) ∧ i64In (ap q (lo n Y i) (hi n Y i) * ap q (lo n Y i) (hi n Y i)) ∧ i64In (dst n X Y p q i)) ∧
        (bst n X Y p q i < 0 ∨ dst n X Y p q i < bst n X Y p q i → _ ∧ dst n X Y p q i = _ ∧ _) ∧ (¬bst n X Y p q i < 0 ∧ ¬dst n X Y p q i < bst n X Y p q i → _)
      refine ⟨?_, fun hs => ⟨by unfold i64In; omega, ?_, rfl, by omega, by omega⟩, fun hs => ⟨by unfold i64In; omega, ?_, rfl, by omega, by omega⟩⟩
      · unfold dst i64In
        omega
      · rw [bst, if_pos hs]
      · rw [bst, if_neg (by omega)]
    · have : i = n := by omega
      rw [this, diR, if_neg (by omega)]
noncomputable def A19_area_c (n : Nat) (X Y : Nat → Int) : Ann := { orc := [(1, [(1, rChk)]), (4, [(1, rTw), (2, .pos)])], loops := [], cuts := [] }
theorem area_c (n : Nat) (X Y : Nat → Int) (hn2 : n ≤ 1000000) : FnC prog 20 [pts n X Y] (.tup [dI (arF n X Y), dI (chk n X Y)]) := by
  refine FnC_owed hmix (A19_area_c n X Y) (V := VT.need [FnC prog 24 [DV.lst n [fun (i : Nat) => DV.val (Value.int IntKind.i64 (X i)), fun (i : Nat) => DV.val (Value.int IntKind.i64 (Y i))]] (DV.val (Value.int IntKind.i64 (chk n X Y)))] (VT.ite (chk n X Y != 0) (VT.done [(0:Int) = arF n X Y, chk n X Y = chk n X Y]) (VT.need [FnC prog 45 [DV.lst n [fun (i : Nat) => DV.val (Value.int IntKind.i64 (X i)), fun (i : Nat) => DV.val (Value.int IntKind.i64 (Y i))]] (DV.val (Value.int IntKind.i64 (twS n X Y n))), (0:Int) ≤ twS n X Y n ∧ (0:Int) < 2 ∧ twS n X Y n ≤ 9223372036854775807] (VT.done [twS n X Y n / (2:Int) = arF n X Y, (0:Int) = chk n X Y])))) (by kernel_rfl) ?_
  simp only [VT.holds, AllT, Sq]
  refine ⟨checkOutline_c n X Y hn2, fun h => by rw [arF, if_pos h], fun h => ?_⟩
  have hn := chk_n h
  obtain ⟨hX, hY⟩ := chk_inB h
  have h5 := (chk_zero h).2.2.2.2
  have := twS_bd (by omega) hX hY n
  exact ⟨⟨twice_c n X Y (by omega) (by omega) hX hY, h5, by omega, by omega⟩, by rw [arF, if_neg (by rw [h]; simp)], h.symm⟩
noncomputable def A21_corners_c (n : Nat) (X Y : Nat → Int) : Ann := { orc := [(1, [(1, rChk)]), (9, [(2, rOuter)])], loops := [(0, { ι := Nat, keep := [0, 14], boxes := [], ts := fun _ i => [(15, dI (i : Int))], rw := fun _ i => [(5, 1, i, [fun k => dI (cor n X Y k)])], inv := fun _ i => i ≤ n, mu := fun _ i => n - i, rd := fun _ σ => (iOf (σ.get 15)).toNat })], cuts := [] }
theorem corners_c (n : Nat) (X Y : Nat → Int) (hn2 : n ≤ 1000000) : FnC prog 22 [pts n X Y] (.tup [.lst (coN n X Y) [fun k => dI (cor n X Y k)], dI (chk n X Y)]) := by
  refine FnC_owed hmix (A21_corners_c n X Y) (V := VT.need [FnC prog 24 [DV.lst n [fun (i : Nat) => DV.val (Value.int IntKind.i64 (X i)), fun (i : Nat) => DV.val (Value.int IntKind.i64 (Y i))]] (DV.val (Value.int IntKind.i64 (chk n X Y)))] (VT.ite (chk n X Y != 0) (VT.done [coN n X Y = 0, chk n X Y = chk n X Y]) (VT.loop Nat (fun (a : Nat) => a ≤ n) (0:Int).toNat [(0:Int) = (↑(0:Int).toNat : Int), (0:Nat) = 0, Int.toNat (0:Int) = 0, n = n, ∀ i < n, X i = X i, ∀ i < n, Y i = Y i, (n:Int) = (n:Int), Int.toNat (0:Int) = 0] fun (i : Nat) => VT.ite (decide ((i:Int) < (n:Int))) (VT.need [FnC prog 26 [DV.lst n [fun (i : Nat) => DV.val (Value.int IntKind.i64 (X i)), fun (i : Nat) => DV.val (Value.int IntKind.i64 (Y i))], DV.val (Value.int IntKind.i64 (i:Int))] (DV.val (Value.bool (decide (dD n X Y (i:Int) = (dD n X Y ((i:Int) - 1) + 1) % (4:Int)))))] (VT.ite (decide (dD n X Y (i:Int) = (dD n X Y ((i:Int) - 1) + 1) % (4:Int))) (VT.need [i ≤ i, (i + 1) * (nat_lit 7 + 1) ≤ 140737488355328, (1:Nat) ≤ 1] (VT.need [i64In ((i:Int) + 1)] (VT.done [(i:Int) + 1 = (↑((i:Int) + 1).toNat : Int), (0:Nat) = 0, i + 1 = ((i:Int) + 1).toNat, n = n, ∀ i < n, X i = X i, ∀ i < n, Y i = Y i, (n:Int) = (n:Int), i + 1 = ((i:Int) + 1).toNat, ∀ i_1 < ((i:Int) + 1).toNat, (if decide (i_1 < i) = true then cor n X Y i_1 else (1:Int)) = cor n X Y i_1, Int.toNat ((i:Int) + 1) ≤ n, n - ((i:Int) + 1).toNat < n - i]))) (VT.need [i ≤ i, (i + 1) * (nat_lit 7 + 1) ≤ 140737488355328, (1:Nat) ≤ 1] (VT.need [i64In ((i:Int) + 1)] (VT.done [(i:Int) + 1 = (↑((i:Int) + 1).toNat : Int), (0:Nat) = 0, i + (1
     : Nat) = ((i:Int) + 1).toNat, n = n, ∀ i < n, X i = X i, ∀ i < n, Y i = Y i, (n:Int) = (n:Int), i + 1 = ((i:Int) + 1).toNat, ∀ i_1 < ((i:Int) + 1).toNat, (if decide (i_1 < i) = true then cor n X Y i_1 else (-1:Int)) = cor n X Y i_1, Int.toNat ((i:Int) + 1) ≤ n, n - ((i:Int) + 1).toNat < n - i]))))) (VT.done [i ≤ i, i = coN n X Y, ∀ i < coN n X Y, cor n X Y i = cor n X Y i, (0:Int) = chk n X Y])))) (by kernel_rfl) ?_
  simp only [VT.holds, AllT, Sq]
  refine ⟨checkOutline_c n X Y hn2, fun h => by rw [coN, if_pos h], fun h => ⟨rfl, Nat.zero_le n, fun i hin => ⟨fun hlt => ?_, fun hge => ⟨Nat.le_refl i, ?_, h.symm⟩⟩⟩⟩
  · have hn := chk_n h
    have last : ∀ s : Int, s = cor n X Y i → ∀ k, k < i + 1 → (if k < i then cor n X Y k else s) = cor n X Y k := fun s hs k hk => by
      by_cases e : k < i
      · rw [if_pos e]
      · have : k = i := by omega
        subst this
        rw [if_neg e, hs]
    refine ⟨outer_c n X Y i (by omega) (by omega) (by omega) (by omega), fun ho => ⟨⟨Nat.le_refl i, by omega, Nat.le_refl 1⟩, by unfold i64In; omega, rfl, last 1 (by rw [cor, if_pos ho]), by omega, by omega⟩, fun ho => ⟨⟨Nat.le_refl i, by omega, Nat.le_refl 1⟩, by unfold i64In; omega, rfl, last (-1) (by rw [cor, if_neg ho]), by omega, by omega⟩⟩
  · rw [coN, if_neg (by rw [h]; simp)]
    omega
end Go.Abs
