/- Contracts. -/
import Derived.Test.YtcgfcahljfmipaaDoorK2
set_option linter.unusedVariables false
set_option linter.unusedSimpArgs false
set_option maxRecDepth 100000
namespace Go.Abs
open Go
/-- A corner is as it should be: the sides at it have directions, at right angles. -/
def formOk (n : Nat) (X Y : Nat → Int) (i : Nat) : Bool := dO n X Y i && dO n X Y ((i : Int) - 1) && decide (dD n X Y i % 2 ≠ dD n X Y ((i : Int) - 1) % 2)
def touF (n : Nat) (X Y : Nat → Int) (i k : Int) : Bool := decide (lo n X i ≤ hi n X k ∧ lo n X k ≤ hi n X i ∧ lo n Y i ≤ hi n Y k ∧ lo n Y k ≤ hi n Y i)
/-- Two sides that are no neighbours touch. -/
def clash (n : Nat) (X Y : Nat → Int) (i k : Nat) : Bool := decide (((k : Int) + 1) % (n : Int) ≠ (i : Int)) && touF n X Y i k
/-- The error of an outline. -/
def chk (n : Nat) (X Y : Nat → Int) : Int :=
  if ¬ (4 ≤ n ∧ n ≤ 40) then 11 else if allIn n X Y = false then 2 else if ¬ ∀ i, i < n → formOk n X Y i = true then 3
  else if ¬ ∀ i, i < n → ∀ k, k < n → i + 2 ≤ k → clash n X Y i k = false then 12 else if twS n X Y n < 0 then 10 else 0
def rChk : Orc := .res fun l => dI (chk (aN l) (aX l) (aY l))
theorem allIn_inB {n : Nat} {X Y : Nat → Int} (h : allIn n X Y = true) : inB n X ∧ inB n Y := by
  simp only [allIn, decide_eq_true_eq] at h
  refine ⟨fun k hk => ?_, fun k hk => ?_⟩ <;>
  · have := h k hk
    simp [badP, inF] at this
    omega
noncomputable def A67_check_c (n : Nat) (X Y : Nat → Int) : Ann := { orc := [(3, [(1, rAllIn)]), (8, [(2, rDir)]), (9, [(3, rDir)]), (10, [(8, .pos), (10, .pos)]), (19, [(4, .pos), (11, rTouch)]), (22, [(1, rTw)])], loops := [(0, { ι := Nat, keep := [0, 21], boxes := [], ts := fun _ i => [(22, dI (i : Int))], inv := fun _ i => i ≤ n ∧ ∀ j, j < i → formOk n X Y j = true, mu := fun _ i => n - i, rd := fun _ σ => (iOf (σ.get 22)).toNat }),
  (2, { ι := Nat, keep := [0, 53], boxes := [], ts := fun _ i => [(54, dI (i : Int))], inv := fun _ i => i ≤ n ∧ ∀ j, j < i → ∀ k, k < n → j + 2 ≤ k → clash n X Y j k = false, mu := fun _ i => n - i, rd := fun _ σ => (iOf (σ.get 54)).toNat }),
  (4, { ι := Nat, keep := [0, 53, 54, 8], boxes := [], ts := fun _ k => [(9, dI (k : Int))], inv := fun σ k => (iOf (σ.get 8)).toNat + 2 ≤ k ∧ ∀ j, j < k → (iOf (σ.get 8)).toNat + 2 ≤ j → j < n → clash n X Y (iOf (σ.get 8)).toNat j = false, mu := fun _ k => n + 2 - k, rd := fun _ σ => (iOf (σ.get 9)).toNat })], cuts := [] }
theorem check_c (n : Nat) (X Y : Nat → Int) (hn2 : n ≤ 1000000) : FnC prog 30 [pts n X Y] (dI (chk n X Y)) := by
  refine FnC_owed hmix (A67_check_c n X Y) (V := VT.need [ri ((!decide ((n:Int) < 4)) = true), ri ((!decide ((n:Int) < 4)) = true), decide ((n:Int) < 4) = false → (!decide ((n:Int) < 4)) = true] (VT.ite (if decide ((n:Int) < 4) = true then true else decide ((n:Int) > 40)) (VT.done [(11:Int) = chk n X Y]) (VT.need [FnC prog 49 [DV.lst n [fun (i : Nat) => DV.val (Value.int IntKind.i64 (X i)), fun (i : Nat) => DV.val (Value.int IntKind.i64 (Y i))], DV.val (Value.func (Fn.func 50) { toList := [] } { toList := [] })] (DV.val (Value.bool !allIn n X Y))] (VT.ite (!allIn n X Y) (VT.done [(2:Int) = chk n X Y]) (VT.loop Nat (fun (a : Nat) => a ≤ n ∧ ∀ (j : Nat), j < a → formOk n X Y j = true) (0:Int).toNat [(0:Int) = (↑(0:Int).toNat : Int), n = n, ∀ i < n, X i = X i, ∀ i < n, Y i = Y i, (n:Int) = (n:Int)] fun (i : Nat) => VT.ite (decide ((i:Int) < (n:Int))) (VT.need [FnC prog 48 [DV.lst n [fun (i : Nat) => DV.val (Value.int IntKind.i64 (X i)), fun (i : Nat) => DV.val (Value.int IntKind.i64 (Y i))], DV.val (Value.int IntKind.i64 (i:Int))] (DV.tup [DV.val (Value.int IntKind.i64 (dD n X Y (i:Int))), DV.val (Value.bool (dO n X Y (i:Int)))])] (VT.need [i64In ((i:Int) - 1), FnC prog 48 [DV.lst n [fun (i : Nat) => DV.val (Value.int IntKind.i64 (X i)), fun (i : Nat) => DV.val (Value.int IntKind.i64 (Y i))], DV.val (Value.int IntKind.i64 ((i:Int) - 1))] (DV.tup [DV.val (Value.int IntKind.i64 (dD n X Y ((i:Int) - 1))), DV.val (Value.bool (dO n X Y ((i:Int) - 1)))])] (VT.need [ri ((!!dO n X Y (i:Int)) = true), (!dO n X Y (i:Int)) = false → (!!dO n X Y (i:Int)) = true, ri ((!if (!dO n X Y (i:Int)) = true then true else !dO n X Y ((i:Int) - 1)) = true), (!if (!dO n X Y (i:Int)) = true then true else !dO n X Y ((i:Int) - 1)) = true → (0:Int) ≤ dD n X Y (i:Int) ∧ (0:Int) < 2, ri ((!if (!dO n X Y (i:Int)) = true then true else !dO n X Y ((i:Int) - 1)) = true), (!if (!dO n X Y (i:Int)) = true then true else !dO n X Y ((i:Int) - 1)) = true → (0:Int) ≤ dD n X Y ((i:Int) - 1) ∧ (0:Int) < 2, ri ((!if (!dO n X Y (i:Int)) = true then true else !dO n X Y ((i:Int) - 1)) = true), ri ((!if (!dO n X Y (i:Int)) = true then true else !dO n X Y ((i:Int) - 1)) = true), (if (!dO n X Y (i:Int)) = true then true else !dO n X Y ((i:Int) - 1)) = false → (!if (!dO n X Y (i:Int)) = true then true else !dO n X Y ((i:Int) - 1)) = true] (VT.ite (if (if (!dO n X Y (i:Int)) = true then true else !dO n X Y ((i:Int) - 1)) = true then true else dD n X Y (i:Int) % (2:Int) == dD n X Y ((i:Int) - 1) % (2:Int)) (VT.done [(3:Int) = chk n X Y]) (VT.need [i64In ((i:Int) + 1)] (VT.done [(i:Int) + 1 = (↑((i:Int) + 1).toNat : Int), n = n, ∀ i < n, X i = X i, ∀ i < n, Y i = Y i, (n:Int) = (n:Int), Int.toNat ((i:Int) + 1) ≤ n ∧ ∀ (j : Nat), j < ((i:Int) + 1).toNat → formOk n X Y j = true, n - ((i:Int) + 1).toNat < n - i])))))) (VT.loop Nat (fun (a : Nat) => a ≤ n ∧ ∀ (j : Nat), j < a → ∀ (k : Nat), k < n → j + 2 ≤ k → clash n X Y j k = false) (0:Int).toNat [(0:Int) = (↑(0:Int).toNat : Int), n = n, ∀ i < n, X i = X i, ∀ i < n, Y
     i = Y i, (n:Int) = (n:Int)] fun (i_1 : Nat) => VT.ite (decide ((i_1:Int) < (n:Int))) (VT.need [i64In ((i_1:Int) + 2)] (VT.loop Nat (fun (a : Nat) => Int.toNat (i_1:Int) + 2 ≤ a ∧ ∀ (j : Nat), j < a → Int.toNat (i_1:Int) + 2 ≤ j → j < n → clash n X Y (i_1:Int).toNat j = false) ((i_1:Int) + 2).toNat [(i_1:Int) + 2 = (↑((i_1:Int) + 2).toNat : Int), n = n, ∀ i < n, X i = X i, ∀ i < n, Y i = Y i, (n:Int) = (n:Int), (i_1:Int) = (i_1:Int), (i_1:Int) = (i_1:Int)] fun (i_2 : Nat) => VT.ite (decide ((i_2:Int) < (n:Int))) (VT.need [i64In ((i_2:Int) + 1), (0:Int) ≤ (i_2:Int) + 1 ∧ (0:Int) < (n:Int), ri ((((i_2:Int) + 1) % (n:Int) != (i_1:Int)) = true), ri ((((i_2:Int) + 1) % (n:Int) != (i_1:Int)) = true), ri ((((i_2:Int) + 1) % (n:Int) != (i_1:Int)) = true), (((i_2:Int) + 1) % (n:Int) != (i_1:Int)) = true → FnC prog 52 [DV.lst n [fun (i : Nat) => DV.val (Value.int IntKind.i64 (X i)), fun (i : Nat) => DV.val (Value.int IntKind.i64 (Y i))], DV.val (Value.int IntKind.i64 (i_1:Int)), DV.val (Value.int IntKind.i64 (i_2:Int))] (DV.val (Value.bool (decide (lo n X (i_1:Int) ≤ hi n X (i_2:Int) ∧ lo n X (i_2:Int) ≤ hi n X (i_1:Int) ∧ lo n Y (i_1:Int) ≤ hi n Y (i_2:Int) ∧ lo n Y (i_2:Int) ≤ hi n Y (i_1:Int))))), ri ((((i_2:Int) + 1) % (n:Int) != (i_1:Int)) = true)] (VT.ite (if (((i_2:Int) + 1) % (n:Int) != (i_1:Int)) = true then decide (lo n X (i_1:Int) ≤ hi n X (i_2:Int) ∧ lo n X (i_2:Int) ≤ hi n X (i_1:Int) ∧ lo n Y
     (i_1:Int) ≤ hi n Y (i_2:Int) ∧ lo n Y (i_2:Int) ≤ hi n Y (i_1:Int)) else false) (VT.done [(12:Int) = chk n X Y]) (VT.need [i64In ((i_2:Int) + 1)] (VT.done [(i_2:Int) + 1 = (↑((i_2:Int) + 1).toNat : Int), n = n, ∀ i < n, X i = X i, ∀ i < n, Y i = Y i, (n:Int) = (n:Int), (i_1:Int) = (i_1:Int), (i_1:Int) = (i_1:Int), Int.toNat (i_1:Int) + 2 ≤ ((i_2:Int) + 1).toNat ∧ ∀ (j : Nat), j < ((i_2:Int) + 1).toNat → Int.toNat (i_1:Int) + 2 ≤ j → j < n → clash n X Y (i_1:Int).toNat j = false, n + 2 - ((i_2:Int) + 1).toNat < n + 2 - i_2])))) (VT.need [i64In ((i_1:Int) + 1)] (VT.done [(i_1:Int) + 1 = (↑((i_1:Int) + 1).toNat : Int), n = n, ∀ i < n, X i = X i, ∀ i < n, Y i = Y i, (n:Int) = (n:Int), Int.toNat ((i_1:Int) + 1) ≤ n ∧ ∀ (j : Nat), j < ((i_1:Int) + 1).toNat → ∀ (k : Nat), k < n → j + 2 ≤ k → clash n X Y j k = false, n - ((i_1:Int) + 1).toNat < n - i_1])))) (VT.need [FnC prog 45 [DV.lst n [fun (i : Nat) => DV.val (Value.int IntKind.i64 (X i)), fun (i : Nat) => DV.val (Value.int IntKind.i64 (Y i))]] (DV.val (Value.int IntKind.i64 (twS n X Y n)))] (VT.ite (decide (twS n X Y n < 0)) (VT.done [(10:Int) = chk n X Y]) (VT.done [(0:Int) = chk n X Y]))))))))) (by kernel_rfl) ?_
  simp only [VT.holds, AllT, Sq]
  refine ⟨fun h => ?_, fun h => ⟨?_, fun h2 => ?_, fun h2 => ⟨rfl, ⟨Nat.zero_le n, fun j hj => (by omega)⟩, fun i ⟨hi, hf⟩ => ⟨fun hlt => ?_, fun hge => ⟨rfl, ⟨Nat.zero_le n, fun j hj => (by omega)⟩, fun i2 ⟨hi2, hc⟩ => ⟨fun hlt2 => ⟨?_, rfl, ⟨Nat.le_refl _, fun j h1 h2 => (by omega)⟩, fun k ⟨hk, hck⟩ => ⟨fun hkn => ⟨?_, fun hcl => ?_, fun hcl => ?_⟩, fun hkn => ?_⟩⟩, fun hge2 => ⟨?_, fun ht => ?_, fun ht => ?_⟩⟩⟩⟩⟩⟩⟩
  · rw [chk, if_pos (by omega)]
  · obtain ⟨r, hr⟩ := isFirst_exists (badP X Y) n
    exact contains_c n X Y r hn2 hr
  · rw [chk, if_neg (by omega), if_pos h2]
  · have e3 : formOk n X Y i = false → 3 = chk n X Y := fun hx => by
      rw [chk, if_neg (by omega), if_neg (by rw [h2]; simp), if_pos (fun hall => by rw [hall i (by omega)] at hx; cases hx)]
    have := dD_range n X Y i
    have := dD_range n X Y ((i : Int) - 1)
    refine ⟨dir_c n X Y i (by omega) (by omega) (by omega) (by omega), ⟨by unfold i64In; omega, dir_c n X Y (i - 1) (by omega) (by omega) (by omega) (by omega)⟩, ⟨fun _ => by omega, fun _ => by omega⟩, fun hbad => e3 ?_, fun hok => ⟨by unfold i64In; omega, rfl, ⟨by omega, fun j hj => ?_⟩, by omega⟩⟩
    · unfold formOk
      rcases hbad with (hb | hb) | hb <;> simp [hb]
    · by_cases e : j = i
      · subst e
        unfold formOk
        obtain ⟨hk1, hk2⟩ := hok
        simp only [not_or, Bool.not_eq_false] at hk1
        simp [hk1.1, hk1.2, hk2]
      · exact hf j (by omega)
  · unfold i64In; omega
  · refine ⟨by unfold i64In; omega, by omega, fun _ => touch_c n X Y i2 k (by omega) (by omega) (by omega) (by omega) (by omega) (by omega)⟩
  · have hform : ∀ j, j < n → formOk n X Y j = true := fun j hj => hf j (by omega)
    rw [chk, if_neg (by omega), if_neg (by rw [h2]; simp), if_neg (fun hx => hx hform), if_pos (fun hall => ?_)]
    have := hall i2 (by omega) k (by omega) hk
    unfold clash touF at this
    rw [decide_eq_true hcl.1, decide_eq_true hcl.2] at this
    cases this
  · refine ⟨by unfold i64In; omega, rfl, ⟨by omega, fun j h1 h2 h3 => ?_⟩, by omega⟩
    by_cases e : j = k
    · subst e
      unfold clash touF
      rw [Bool.and_eq_false_imp, decide_eq_true_eq, decide_eq_false_iff_not]
      exact hcl
    · exact hck j (by omega) h2 h3
  · refine ⟨by unfold i64In; omega, rfl, ⟨by omega, fun j h1 k' h2 h3 => ?_⟩, by omega⟩
    by_cases e : j = i2
    · subst e; exact hck k' (by omega) h3 h2
    · exact hc j (by omega) k' h2 h3
  · obtain ⟨b1, b2⟩ := allIn_inB h2
    exact twice_c n X Y (by omega) (by omega) b1 b2
  · have hform : ∀ j, j < n → formOk n X Y j = true := fun j hj => hf j (by omega)
    have hcl : ∀ j, j < n → ∀ k, k < n → j + 2 ≤ k → clash n X Y j k = false := fun j hj => hc j (by omega)
    rw [chk, if_neg (by omega), if_neg (by rw [h2]; simp), if_neg (fun hx => hx hform), if_neg (fun hx => hx hcl), if_pos ht]
  · have hform : ∀ j, j < n → formOk n X Y j = true := fun j hj => hf j (by omega)
    have hcl : ∀ j, j < n → ∀ k, k < n → j + 2 ≤ k → clash n X Y j k = false := fun j hj => hc j (by omega)
    rw [chk, if_neg (by omega), if_neg (by rw [h2]; simp), if_neg (fun hx => hx hform), if_neg (fun hx => hx hcl), if_neg ht]
noncomputable def A22_checkOutline_c (n : Nat) (X Y : Nat → Int) : Ann := { orc := [(1, [(1, rChk)])], loops := [], cuts := [] }
theorem checkOutline_c (n : Nat) (X Y : Nat → Int) (hn2 : n ≤ 1000000) : FnC prog 24 [pts n X Y] (dI (chk n X Y)) := by
  refine FnC_owed hmix (A22_checkOutline_c n X Y) (V := VT.need [FnC prog 30 [DV.lst n [fun (i : Nat) => DV.val (Value.int IntKind.i64 (X i)), fun (i : Nat) => DV.val (Value.int IntKind.i64 (Y i))]] (DV.val (Value.int IntKind.i64 (chk n X Y)))] (VT.done [chk n X Y = chk n X Y])) (by kernel_rfl) ?_
  simp only [VT.holds, AllT, Sq]
  exact check_c n X Y hn2
end Go.Abs
