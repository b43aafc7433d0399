/- Contracts. -/
import Derived.Test.YteennpofimiliaaGreatDoorK5
set_option linter.unusedVariables false
set_option linter.unusedSimpArgs false
set_option maxRecDepth 100000
namespace Go.Abs
open Go
def cnt (n : Nat) (X Y : Nat → Int) (p q : Int) : Nat → Int
  | 0 => 0
  | k + 1 => if crB n X Y p q k = true then cnt n X Y p q k + 1 else cnt n X Y p q k
theorem cnt_spec (n : Nat) (X Y : Nat → Int) (p q : Int) : ∀ k, 0 ≤ cnt n X Y p q k ∧ cnt n X Y p q k ≤ k ∧ (crs n X Y p q k = true ↔ cnt n X Y p q k % 2 = 1)
  | 0 => by simp [cnt, crs]
  | k + 1 => by
    obtain ⟨h1, h2, h3⟩ := cnt_spec n X Y p q k
    simp only [cnt, crs]
    split
    · refine ⟨by omega, by omega, ?_⟩
      cases hc : crs n X Y p q k with
      | true => have := h3.1 hc; simp; omega
      | false =>
        have : ¬ cnt n X Y p q k % 2 = 1 := fun h => by rw [h3.2 h] at hc; cases hc
        simp; omega
    · exact ⟨h1, by omega, h3⟩
def formR (n : Nat) (X Y : Nat → Int) (j : Nat) : Bool := dO n X Y j && (!(dO n X Y ((j : Int) - 1)) || decide (dD n X Y j % 2 ≠ dD n X Y ((j : Int) - 1) % 2))
theorem dO_wrap {n : Nat} {X Y : Nat → Int} (hn : 0 < n) : dO n X Y (-1) = dO n X Y (((n - 1 : Nat)) : Int) := by
  have e1 : ix n (-1) = ix n (((n - 1 : Nat)) : Int) := by
    unfold ix
    rw [show (-1 + (n : Int)) = (((n - 1 : Nat)) : Int) by omega, Int.add_emod_right]
  have e2 : ix n (-1 + 1) = ix n ((((n - 1 : Nat)) : Int) + 1) := by
    unfold ix
    rw [show (((n - 1 : Nat)) : Int) + 1 = (n : Int) by omega, show (-1 + 1 + (n : Int)) = (n : Int) by omega, Int.add_emod_right]
  unfold dO
  rw [e1, e2]
theorem tmod_two (d e : Int) : (d - e).tmod 2 = 0 ↔ d % 2 = e % 2 := by
  rw [← Int.dvd_iff_tmod_eq_zero, Int.dvd_iff_emod_eq_zero]; omega
theorem formR_all {n : Nat} {X Y : Nat → Int} (hn : 0 < n) (h : ∀ j, j < n → formR n X Y j = true) : ∀ j, j < n → formOk n X Y j = true := by
  intro j hj
  have h1 := h j hj
  have hp : dO n X Y ((j : Int) - 1) = true := by
    cases j with
    | zero =>
      have h2 := h (n - 1) (by omega)
      simp only [formR, Bool.and_eq_true] at h2
      rw [show ((0:Nat) : Int) - 1 = -1 from rfl, dO_wrap hn]; exact h2.1
    | succ k =>
      have h2 := h k (by omega)
      simp only [formR, Bool.and_eq_true] at h2
      rw [show ((k + 1 : Nat) : Int) - 1 = (k : Int) by omega]; exact h2.1
  simp only [formR, hp, Bool.and_eq_true, Bool.not_true, Bool.false_or] at h1
  simp only [formOk, hp, h1.1, h1.2, Bool.and_self]
noncomputable def A59_twiceR_c (n : Nat) (X Y : Nat → Int) : Ann := { orc := [(5, [(2, rNext)])], loops := [(0, { ι := Nat, keep := [0], boxes := [], ts := fun _ i => [(3, dI (twS n X Y i)), (4, dI (i : Int))], inv := fun _ i => i ≤ n, mu := fun _ i => n - i, rd := fun _ σ => (iOf (σ.get 4)).toNat })], cuts := [] }
theorem twiceR_c (n : Nat) (X Y : Nat → Int) (hn : 0 < n) (hn2 : n ≤ 800) (hX : inB n X) (hY : inB n Y) : FnC prog 140 [pts n X Y] (dI (twS n X Y n)) := by
  refine FnC_owed hmix (A59_twiceR_c n X Y) (V := .loop Nat (fun a => a ≤ n) (0:Int).toNat [(0:Int) = (0:Int), (0:Int) = (↑(0:Int).toNat : Int), n = n, ∀ i < n, X i = X i, ∀ i < n, Y i = Y i] fun i => .ite (decide ((i:Int) < (n:Int))) (.need [FnC prog 108 [.lst n [fun i => (dI (X i)), fun i => (dI (Y i))], (dI (i:Int))] (.val (.agg ⟨[.int .i64 (X (ix n ((i:Int) + (1:Int)))), .int .i64 (Y (ix n ((i:Int) + (1:Int))))]⟩))] (.need [(0:Int) ≤ (i:Int) ∧ (i:Int) < (n:Int), i64In (X (i:Int).toNat * Y (ix n ((i:Int) + (1:Int)))), i64In (twS n X Y i + X (i:Int).toNat * Y (ix n ((i:Int) + (1:Int)))), (0:Int) ≤ (i:Int) ∧ (i:Int) < (n:Int), i64In (Y (i:Int).toNat * X (ix n ((i:Int) + (1:Int)))), i64In (twS n X Y i + X (i:Int).toNat * Y (ix n ((i:Int) + (1:Int))) - Y (i:Int).toNat * X (ix n ((i:Int) + (1:Int))))] (.need [i64In ((i:Int) + (1:Int))] (.done [twS n X Y i + X (i:Int).toNat * Y (ix n ((i:Int) + (1:Int))) - Y (i:Int).toNat * X (ix n ((i:Int) + (1:Int))) = twS n X Y ((i:Int) + (1:Int)).toNat, (i:Int) + (1:Int) = (↑((i:Int) + (1:Int)).toNat : Int), n = n, ∀ i < n, X i = X i, ∀ i < n, Y i = Y i, Int.toNat ((i:Int) + (1:Int)) ≤ n, n - ((i:Int) + (1:Int)).toNat < n - i])))) (.done [twS n X Y i = twS n X Y n])) (by kernel_rfl) ?_
  simp only [VT.holds, AllT, Sq]
  refine ⟨rfl, Nat.zero_le n, fun i hi => ⟨fun h => ?_, fun h => ?_⟩⟩
  · have b1 := tw_term hn hX hY i (i + 1)
    have b2 := tw_term hn hX hY (i + 1) i
    have b3 := twS_bd hn hX hY i
    have hc := Int.mul_comm (Y (ix n i)) (X (ix n (i + 1)))
    have e := ix_nat (n := n) (i := i) (by omega)
    have e2 : twS n X Y (i + 1) = twS n X Y i + (X (ix n i) * Y (ix n (i + 1)) - X (ix n (i + 1)) * Y (ix n i)) := rfl
    rw [e] at b1 b2 hc e2
    simp only [i64In]
    refine ⟨next_c n X Y i hn (by omega) (by omega) (by omega), by omega, by omega, by omega, by omega, by omega⟩
  · have : i = n := by omega
    rw [this]
noncomputable def A17_whereR_c (n : Nat) (X Y : Nat → Int) (p q : Int) : Ann := { orc := [(5, [(2, rNext)]), (6, [(9, rBetween), (20, rBetween)]), (10, [(1, .pos)])], loops := [(0, { ι := Nat, keep := [0, 3], boxes := [3], ts := fun _ i => [(5, dI (cnt n X Y p q i)), (6, dI (i : Int))], inv := fun _ i => i ≤ n ∧ ∀ j, j < i → onS n X Y p q j = false, mu := fun _ i => n - i, rd := fun _ σ => (iOf (σ.get 6)).toNat })], cuts := [] }
abbrev q_whereR_c_0 (X : Nat → Int) (i : Nat) (p : Int) : Bool := decide (X (Int.toNat (i:Int)) > p)
abbrev q_whereR_c_1 (q : Int) (Y : Nat → Int) (i : Nat) (n : Nat) : Bool := decide (q ≥ mins (Y (Int.toNat (i:Int))) [Y (ix n ((i:Int) + (1:Int)))])
abbrev q_whereR_c_2 (X : Nat → Int) (i : Nat) (n : Nat) (p : Int) : Bool := if (X (Int.toNat (i:Int)) == X (ix n ((i:Int) + (1:Int)))) = true then (q_whereR_c_0 X i p) else false
abbrev q_whereR_c_3 (X : Nat → Int) (i : Nat) (n : Nat) (p : Int) (q : Int) (Y : Nat → Int) : Bool := if (q_whereR_c_2 X i n p) = true then (q_whereR_c_1 q Y i n) else false
abbrev q_whereR_c_4 (X : Nat → Int) (i : Nat) (n : Nat) (p : Int) : Bool := decide (min (X (Int.toNat (i:Int))) (X (ix n ((i:Int) + (1:Int)))) ≤ p ∧ p ≤ max (X (Int.toNat (i:Int))) (X (ix n ((i:Int) + (1:Int)))))
theorem whereR_c (n : Nat) (X Y : Nat → Int) (p q : Int) (hn : 0 < n) (hn2 : n ≤ 800) : FnC prog 173 [pts n X Y, dP p q] (dI (whF n X Y p q)) := by
  refine FnC_owed hmix (A17_whereR_c n X Y p q) (V := .loop Nat (fun a => a ≤ n ∧ ∀ (j : Nat), j < a → onS n X Y p q j = false) (0:Int).toNat [(0:Int) = (0:Int), (0:Int) = (↑(0:Int).toNat : Int), n = n, ∀ i < n, X i = X i, ∀ i < n, Y i = Y i, p = p, q = q] fun i => .ite (decide ((i:Int) < (n:Int))) (.need [FnC prog 108 [.lst n [fun i => (dI (X i)), fun i => (dI (Y i))], (dI (i:Int))] (.val (.agg ⟨[.int .i64 (X (ix n ((i:Int) + (1:Int)))), .int .i64 (Y (ix n ((i:Int) + (1:Int))))]⟩))] (.need [(0:Int) ≤ (i:Int) ∧ (i:Int) < (n:Int), FnC prog 185 [(dI p), (dI (X (i:Int).toNat)), (dI (X (ix n ((i:Int) + (1:Int)))))] ((dB ((q_whereR_c_4 X i n p)))), (q_whereR_c_4 X i n p) = true → (q_whereR_c_4 X i n p) = true, (q_whereR_c_4 X i n p) = true → (q_whereR_c_4 X i n p) = true, (q_whereR_c_4 X i n p) = true → (q_whereR_c_4 X i n p) = true, (q_whereR_c_4 X i n p) = true → (0:Int) ≤ (i:Int) ∧ (i:Int) < (n:Int), (q_whereR_c_4 X i n p) = true → (q_whereR_c_4 X i n p) = true, (q_whereR_c_4 X i n p) = true → (q_whereR_c_4 X i n p) = true, (q_whereR_c_4 X i n p) = true → (q_whereR_c_4 X i n p) = true, (q_whereR_c_4 X i n p) = true → (q_whereR_c_4 X i n p) = true, (q_whereR_c_4 X i n p) = true → (q_whereR_c_4 X i n p) = true, (q_whereR_c_4 X i n p) = true → (q_whereR_c_4 X i n p) = true, (q_whereR_c_4 X i n p) = true → FnC prog 185 [(dI q), (dI (Y (i:Int).toNat)), (dI (Y (ix n ((i:Int) + (1:Int)))))] ((dB (decide (min (Y (i:Int).toNat) (Y (ix n ((i:Int) + (1:Int)))) ≤ q ∧ q ≤ max (Y (i:Int).toNat) (Y (ix n ((i:Int) + (1:Int)))))))), (q_whereR_c_4 X i n p) = true → (q_whereR_c_4 X i n p) = true] (.ite (if (q_whereR_c_4 X i n p) = true then decide (min (Y (i:Int).toNat) (Y (ix n ((i:Int) + (1:Int)))) ≤ q ∧ q ≤ max (Y (i:Int).toNat) (Y (ix n ((i:Int) + (1:Int))))) else false) (.done [(0:Int) = whF n X Y p q]) (.need [(0:Int) ≤ (i:Int) ∧ (↑i :
     Int) < (n:Int), (X (i:Int).toNat == X (ix n ((i:Int) + (1:Int)))) = true → (X (i:Int).toNat == X (ix n ((i:Int) + (1:Int)))) = true, (X (i:Int).toNat == X (ix n ((i:Int) + (1:Int)))) = true → (X (i:Int).toNat == X (ix n ((i:Int) + (1:Int)))) = true, (X (i:Int).toNat == X (ix n ((i:Int) + (1:Int)))) = true → (0:Int) ≤ (i:Int) ∧ (i:Int) < (n:Int), (X (i:Int).toNat == X (ix n ((i:Int) + (1:Int)))) = true → (X (i:Int).toNat == X (ix n ((i:Int) + (1:Int)))) = true, (X (i:Int).toNat == X (ix n ((i:Int) + (1:Int)))) = true → (X (i:Int).toNat == X (ix n ((i:Int) + (1:Int)))) = true, (X (i:Int).toNat == X (ix n ((i:Int) + (1:Int)))) = true → (X (i:Int).toNat == X (ix n ((i:Int) + (1:Int)))) = true, (X (i:Int).toNat == X (ix n ((i:Int) + (1:Int)))) = true → (X (i:Int).toNat == X (ix n ((i:Int) + (1:Int)))) = true, (X (i:Int).toNat == X (ix n ((i:Int) + (1:Int)))) = true → (X (i:Int).toNat == X (ix n ((i:Int) + (1:Int)))) = true, (X (i:Int).toNat == X (ix n ((i:Int) + (1:Int)))) = true → (X (i:Int).toNat == X (ix n ((i:Int) + (1:Int)))) = true, (q_whereR_c_2 X i n p) = true → (q_whereR_c_2 X i n p) = true, (q_whereR_c_2 X i n p) = true → (q_whereR_c_2 X i n p) = true, (q_whereR_c_2 X i n p) = true → (q_whereR_c_2 X i n p) = true, (q_whereR_c_2 X i n p) = true → (0:Int) ≤ (i:Int) ∧ (i:Int) < (n:Int), (q_whereR_c_2 X i n p) = true → (q_whereR_c_2 X i n p) = true, (q_whereR_c_2 X i n p) = true → (q_whereR_c_2 X i n p) = true, (q_whereR_c_2 X i n p) = true → (q_whereR_c_2 X i n p) = true, (q_whereR_c_2 X i n p) = true → (q_whereR_c_2 X i n p) = true, (q_whereR_c_2 X i n p) = true → (q_whereR_c_2 X i n p) = true, (q_whereR_c_2 X i n p) = true → (q_whereR_c_2 X i n p) = true, (q_whereR_c_2 X i n p) = true → (q_whereR_c_2 X
     i n p) = true, (q_whereR_c_2 X i n p) = true → (q_whereR_c_2 X i n p) = true, (q_whereR_c_3 X i n p q Y) = true → (q_whereR_c_3 X i n p q Y) = true, (q_whereR_c_3 X i n p q Y) = true → (q_whereR_c_3 X i n p q Y) = true, (q_whereR_c_3 X i n p q Y) = true → (q_whereR_c_3 X i n p q Y) = true, (q_whereR_c_3 X i n p q Y) = true → (0:Int) ≤ (i:Int) ∧ (i:Int) < (n:Int), (q_whereR_c_3 X i n p q Y) = true → (q_whereR_c_3 X i n p q Y) = true, (q_whereR_c_3 X i n p q Y) = true → (q_whereR_c_3 X i n p q Y) = true, (q_whereR_c_3 X i n p q Y) = true → (q_whereR_c_3 X i n p q Y) = true, (q_whereR_c_3 X i n p q Y) = true → (q_whereR_c_3 X i n p q Y) = true, (q_whereR_c_3 X i n p q Y) = true → (q_whereR_c_3 X i n p q Y) = true, (q_whereR_c_3 X i n p q Y) = true → (q_whereR_c_3 X i n p q Y) = true, (q_whereR_c_3 X i n p q Y) = true → (q_whereR_c_3 X i n p q Y) = true, (q_whereR_c_3 X i n p q Y) = true → (q_whereR_c_3 X i n p q Y) = true] (.ite (if (q_whereR_c_3 X i n p q Y) = true then decide (q < maxs (Y (i:Int).toNat) [Y (ix n ((i:Int) + (1:Int)))]) else false) (.need [i64In (cnt n X Y p q i + (1:Int))] (.need [i64In ((i:Int) + (1:Int))] (.done [cnt n X Y p q i + (1:Int) = cnt n X Y p q ((i:Int) + (1:Int)).toNat, (i:Int) + (1:Int) = (↑((i:Int) + (1:Int)).toNat : Int), n = n, ∀ i < n, X i = X i, ∀ i < n, Y i = Y i, p = p, q = q, Int.toNat ((i:Int) + (1:Int)) ≤ n ∧ ∀ (j : Nat), j < ((i:Int) + (1:Int)).toNat → onS n X Y p q j = false, n - ((i:Int) + (1:Int)).toNat < n - i]))) (.need [i64In ((i:Int) + (1:Int))] (.done [cnt n X Y p q i = cnt n X Y p q ((i:Int) + (1:Int)).toNat, (i:Int) + (1:Int) = (↑((i:Int) + (1:Int)).toNat : Int), n = n, ∀ i < n, X i = X i, ∀ i < n, Y i = Y i, p = p, q = q, Int.toNat ((i:Int) + (1:Int)) ≤ n ∧ ∀ (j : Nat), j < ((i:Int) + (1:Int)).toNat → onS n X Y p q j = false, n - Int.toNat
     ((i:Int) + (1:Int)) < n - i]))))))) (.need [(0:Int) ≤ cnt n X Y p q i ∧ (0:Int) < (2:Int)] (.ite (cnt n X Y p q i % (2:Int) == (1:Int)) (.done [(1:Int) = whF n X Y p q]) (.done [(-1:Int) = whF n X Y p q])))) (by kernel_rfl) ?_
  simp only [q_whereR_c_0, q_whereR_c_1, q_whereR_c_2, q_whereR_c_3, q_whereR_c_4, VT.holds, AllT, Sq]
  refine ⟨rfl, ⟨Nat.zero_le n, fun j hj => (by omega)⟩, fun i ⟨hin, hb⟩ => ⟨fun hlt => ?_, fun hge => ?_⟩⟩
  · have e := ix_nat (n := n) (i := i) (by omega)
    have e1 : lo n X i = min (X i) (X (ix n (i + 1))) := by unfold lo; rw [e]
    have e2 : hi n X i = max (X i) (X (ix n (i + 1))) := by unfold hi; rw [e]
    have e3 : lo n Y i = min (Y i) (Y (ix n (i + 1))) := by unfold lo; rw [e]
    have e4 : hi n Y i = max (Y i) (Y (ix n (i + 1))) := by unfold hi; rw [e]
    have m1 : mins (Y i) [Y (ix n (i + 1))] = lo n Y i := by simp only [mins]; split <;> omega
    have m2 : maxs (Y i) [Y (ix n (i + 1))] = hi n Y i := by simp only [maxs]; split <;> omega
    have f1 : (X i = X (ix n (i + 1)) ∧ X i > p) ↔ (lo n X i = hi n X i ∧ lo n X i > p) := by omega
    have b1 := between_c p (X i) (X (ix n (i + 1)))
    have b2 := between_c q (Y i) (Y (ix n (i + 1)))
    have hr : (0:Int) ≤ i ∧ (i : Int) < n := by omega
    rw [m1, m2]
    refine ⟨next_c n X Y i hn (by omega) (by omega) (by omega), ⟨hr, b1, fun _ => hr, fun _ => b2⟩, fun hon => ?_, fun hoff => ⟨⟨hr, fun _ => hr, fun _ => hr, fun _ => hr⟩, ?_⟩⟩
    · rw [whF, if_pos (fun hall => ?_)]
      have := hall i (by omega)
      unfold onS at this
      rw [decide_eq_false_iff_not] at this
      exact this (by omega)
    · have hbn : ∀ j, j < i + 1 → onS n X Y p q j = false := fun j hj => by
        by_cases e : j = i
        · subst e
          unfold onS
          rw [decide_eq_false_iff_not]
          omega
        · exact hb j (by omega)
      obtain ⟨c1, c2, _⟩ := cnt_spec n X Y p q i
      refine ⟨fun hc => ⟨by unfold i64In; omega, by unfold i64In; omega, ?_, rfl, ⟨by omega, hbn⟩, by omega⟩, fun hc => ⟨by unfold i64In; omega, ?_, rfl, ⟨by omega, hbn⟩, by omega⟩⟩
      · rw [cnt, if_pos]
        unfold crB
        rw [decide_eq_true_eq]; omega
      · rw [cnt, if_neg]
        unfold crB
        rw [decide_eq_true_eq]; omega
  · have hall : ∀ j, j < n → onS n X Y p q j = false := fun j hj => hb j (by omega)
    have : i = n := by omega
    subst this
    obtain ⟨c1, c2, c3⟩ := cnt_spec i X Y p q i
    refine ⟨by omega, fun h => ?_, fun h => ?_⟩
    · rw [whF, if_neg (fun hx => hx hall), if_pos (c3.2 h)]
    · rw [whF, if_neg (fun hx => hx hall), if_neg (fun hx => h (c3.1 hx))]
noncomputable def A15_checkR_c (n : Nat) (X Y : Nat → Int) : Ann := { orc := [(2, [(1, rWithin)]), (7, [(5, rIn), (13, rIn)]), (12, [(6, rNext), (7, rDirR), (14, .pos), (21, rDirR)]), (22, [(6, rNext), (13, rNext), (14, rTouR)]), (24, [(1, rTw)])], loops := [(0, { ι := Nat, keep := [0, 3], boxes := [], ts := fun _ i => [(4, dI (i : Int))], inv := fun _ i => i ≤ n ∧ ∀ j, j < i → badP X Y j = false, mu := fun _ i => n - i, rd := fun _ σ => (iOf (σ.get 4)).toNat }),
  (2, { ι := Nat, keep := [0, 3], boxes := [], ts := fun _ i => [(5, dI (i : Int))], inv := fun _ i => i ≤ n ∧ ∀ j, j < i → formR n X Y j = true, mu := fun _ i => n - i, rd := fun _ σ => (iOf (σ.get 5)).toNat }),
  (4, { ι := Nat, keep := [0, 3], boxes := [], ts := fun _ i => [(8, dI (i : Int))], inv := fun _ i => i ≤ n ∧ ∀ j, j < i → ∀ k, k < n → j + 2 ≤ k → clash n X Y j k = false, mu := fun _ i => n - i, rd := fun _ σ => (iOf (σ.get 8)).toNat }),
  (6, { ι := Nat, keep := [0, 3, 8], boxes := [], ts := fun _ k => [(9, dI (k : Int))], inv := fun σ k => (iOf (σ.get 8)).toNat + 1 ≤ k ∧ ∀ j, j < k → (iOf (σ.get 8)).toNat + 2 ≤ j → j < n → clash n X Y (iOf (σ.get 8)).toNat j = false, mu := fun _ k => n + 2 - k, rd := fun _ σ => (iOf (σ.get 9)).toNat })], cuts := [] }
abbrev q_checkR_c_0 (X : Nat → Int) (i : Nat) : Bool := !!inF (X (Int.toNat (i:Int)))
abbrev q_checkR_c_1 (i : Nat) (i_2 : Nat) : Bool := !(i:Int) == (i_2:Int) + (1:Int)
abbrev q_checkR_c_2 (i : Nat) (i_2 : Nat) : Bool := !(i:Int) == (i_2:Int) + (1:Int) && (i_2:Int) == (0:Int)
abbrev q_checkR_c_3 (X : Nat → Int) (i_1 : Nat) (Y : Nat → Int) (n : Nat) : Bool := decide (dirR (X (Int.toNat (i_1:Int))) (Y (Int.toNat (i_1:Int))) (X (ix n ((i_1:Int) + (1:Int)))) (Y (ix n ((i_1:Int) + (1:Int)))) < (0:Int))
abbrev q_checkR_c_4 (X : Nat → Int) (i_1 : Nat) (n : Nat) (Y : Nat → Int) : Bool := decide (dirR (X (Int.toNat (((i_1:Int) + (n:Int) - (1:Int)) % (n:Int)))) (Y (Int.toNat (((i_1:Int) + (n:Int) - (1:Int)) % (n:Int)))) (X (Int.toNat (i_1:Int))) (Y (Int.toNat (i_1:Int))) ≥ (0:Int))
abbrev q_checkR_c_5 (X : Nat → Int) (i_1 : Nat) (Y : Nat → Int) (n : Nat) : Bool := !(q_checkR_c_3 X i_1 Y n) && (q_checkR_c_4 X i_1 n Y)
theorem checkR_c (n : Nat) (X Y : Nat → Int) (hn2 : n ≤ 1000000) : FnC prog 96 [pts n X Y] (dI (chk n X Y)) := by
  refine FnC_owed hmix (A15_checkR_c n X Y) (V := .need [FnC prog 34 [(dI (n:Int)), (dI (4:Int)), (dI (40:Int))] ((dB (decide ((4:Int) ≤ (n:Int) ∧ (n:Int) ≤ (40:Int)))))] (.ite (!decide ((4:Int) ≤ (n:Int) ∧ (n:Int) ≤ (40:Int))) (.done [(11:Int) = chk n X Y]) (.loop Nat (fun a => a ≤ n ∧ ∀ (j : Nat), j < a → badP X Y j = false) (0:Int).toNat [(0:Int) = (↑(0:Int).toNat : Int), n = n, ∀ i < n, X i = X i, ∀ i < n, Y i = Y i, (n:Int) = (n:Int)] fun i => .ite (decide ((i:Int) < (n:Int))) (.need [(0:Int) ≤ (i:Int) ∧ (i:Int) < (n:Int), FnC prog 104 [(dI (X (i:Int).toNat))] ((dB (inF (X (i:Int).toNat)))), (q_checkR_c_0 X i) = true → (q_checkR_c_0 X i) = true, (q_checkR_c_0 X i) = true → (q_checkR_c_0 X i) = true, (q_checkR_c_0 X i) = true → (0:Int) ≤ (i:Int) ∧ (i:Int) < (n:Int), (q_checkR_c_0 X i) = true → (q_checkR_c_0 X i) = true, (q_checkR_c_0 X i) = true → (q_checkR_c_0 X i) = true, (q_checkR_c_0 X i) = true → (q_checkR_c_0 X i) = true, (q_checkR_c_0 X i) = true → FnC prog 104 [(dI (Y (i:Int).toNat))] ((dB (inF (Y (i:Int).toNat)))), (q_checkR_c_0 X i) = true → (q_checkR_c_0 X i) = true, (!inF (X (i:Int).toNat)) = false → (q_checkR_c_0 X i) = true] (.ite (if (!inF (X (i:Int).toNat)) = true then true else !inF (Y (i:Int).toNat)) (.done [(2:Int) = chk n X Y]) (.need [i64In ((i:Int) + (1:Int))] (.done [(i:Int) + (1:Int) = (↑((i:Int) + (1:Int)).toNat : Int), n = n, ∀ i < n, X i = X i, ∀ i < n, Y i = Y i, (n:Int) = (n:Int), Int.toNat ((i:Int) + (1:Int)) ≤ n ∧ ∀ (j : Nat), j < ((i:Int) + (1:Int)).toNat → badP X Y j = false, n - ((i:Int) + (1:Int)).toNat < n - i])))) (.loop Nat (fun a => a ≤ n ∧ ∀ (j : Nat), j < a → formR n X Y j = true) (0:Int).toNat [(0:Int) = (↑(0:Int).toNat : Int), n = n, ∀ i < n, X i = X i, ∀ i < n, Y i
     = Y i, (n:Int) = (n:Int)] fun i_1 => .ite (decide ((i_1:Int) < (n:Int))) (.need [(0:Int) ≤ (i_1:Int) ∧ (i_1:Int) < (n:Int), FnC prog 108 [.lst n [fun i => (dI (X i)), fun i => (dI (Y i))], (dI (i_1:Int))] (.val (.agg ⟨[.int .i64 (X (ix n ((i_1:Int) + (1:Int)))), .int .i64 (Y (ix n ((i_1:Int) + (1:Int))))]⟩)), FnC prog 110 [.val (.agg ⟨[.int .i64 (X (i_1:Int).toNat), .int .i64 (Y (i_1:Int).toNat)]⟩), .val (.agg ⟨[.int .i64 (X (ix n ((i_1:Int) + (1:Int)))), .int .i64 (Y (ix n ((i_1:Int) + (1:Int))))]⟩)] ((dI (dirR (X (i_1:Int).toNat) (Y (i_1:Int).toNat) (X (ix n ((i_1:Int) + (1:Int)))) (Y (ix n ((i_1:Int) + (1:Int))))))), i64In ((i_1:Int) + (n:Int)), i64In ((i_1:Int) + (n:Int) - (1:Int)), (0:Int) ≤ (i_1:Int) + (n:Int) - (1:Int) ∧ (0:Int) < (n:Int), (0:Int) ≤ ((i_1:Int) + (n:Int) - (1:Int)) % (n:Int) ∧ ((i_1:Int) + (n:Int) - (1:Int)) % (n:Int) < (n:Int), (0:Int) ≤ (i_1:Int) ∧ (i_1:Int) < (n:Int), FnC prog 110 [.val (.agg ⟨[.int .i64 (X (((i_1:Int) + (n:Int) - (1:Int)) % (n:Int)).toNat), .int .i64 (Y (((i_1:Int) + (n:Int) - (1:Int)) % (n:Int)).toNat)]⟩), .val (.agg ⟨[.int .i64 (X (i_1:Int).toNat), .int .i64 (Y (i_1:Int).toNat)]⟩)] ((dI (dirR (X (((i_1:Int) + (n:Int) - (1:Int)) % (n:Int)).toNat) (Y (((i_1:Int) + (n:Int) - (1:Int)) % (n:Int)).toNat) (X (i_1:Int).toNat) (Y (i_1:Int).toNat))))] (.need [(!(q_checkR_c_3 X i_1 Y n)) = true → (!(q_checkR_c_3 X i_1 Y n)) = true, (!(q_checkR_c_3 X i_1 Y n)) = true → (!(q_checkR_c_3 X i_1 Y n)) = true, (q_checkR_c_5 X i_1 Y n) = true → (q_checkR_c_5 X i_1 Y n) = true, (q_checkR_c_5 X i_1 Y n) = true → (q_checkR_c_5 X i_1 Y n) = true, (q_checkR_c_5 X i_1 Y n) = true → i64In (dirR (X (i_1:Int).toNat) (Y (i_1:Int).toNat) (X (ix n ((↑i_1
     : Int) + (1:Int)))) (Y (ix n ((i_1:Int) + (1:Int)))) - dirR (X (((i_1:Int) + (n:Int) - (1:Int)) % (n:Int)).toNat) (Y (((i_1:Int) + (n:Int) - (1:Int)) % (n:Int)).toNat) (X (i_1:Int).toNat) (Y (i_1:Int).toNat)), (q_checkR_c_5 X i_1 Y n) = true → (q_checkR_c_5 X i_1 Y n) = true, (q_checkR_c_5 X i_1 Y n) = true → (2:Int) ≠ (0:Int), (q_checkR_c_5 X i_1 Y n) = true → (q_checkR_c_5 X i_1 Y n) = true, (!(q_checkR_c_3 X i_1 Y n)) = true → (!(q_checkR_c_3 X i_1 Y n)) = true, (!(q_checkR_c_3 X i_1 Y n)) = true → (q_checkR_c_4 X i_1 n Y) = true → (q_checkR_c_5 X i_1 Y n) = true, (q_checkR_c_3 X i_1 Y n) = false → (!(q_checkR_c_3 X i_1 Y n)) = true] (.ite (if (q_checkR_c_3 X i_1 Y n) = true then true else if (q_checkR_c_4 X i_1 n Y) = true then Int.tmod (dirR (X (i_1:Int).toNat) (Y (i_1:Int).toNat) (X (ix n ((i_1:Int) + (1:Int)))) (Y (ix n ((i_1:Int) + (1:Int)))) - dirR (X (((i_1:Int) + (n:Int) - (1:Int)) % (n:Int)).toNat) (Y (((i_1:Int) + (n:Int) - (1:Int)) % (n:Int)).toNat) (X (i_1:Int).toNat) (Y (i_1:Int).toNat)) (2:Int) == (0:Int) else false) (.done [(3:Int) = chk n X Y]) (.need [i64In ((i_1:Int) + (1:Int))] (.done [(i_1:Int) + (1:Int) = (↑((i_1:Int) + (1:Int)).toNat : Int), n = n, ∀ i < n, X i = X i, ∀ i < n, Y i = Y i, (n:Int) = (n:Int), Int.toNat ((i_1:Int) + (1:Int)) ≤ n ∧ ∀ (j : Nat), j < ((i_1:Int) + (1:Int)).toNat → formR n X Y j = true, n - ((i_1:Int) + (1:Int)).toNat < n - i_1]))))) (.loop Nat (fun a => a ≤ n ∧ ∀ (j : Nat), j < a → ∀ (k : Nat), k < n → j + (2:Nat) ≤ k → clash n X Y j k = false) (0:Int).toNat [(0:Int) = (↑(0:Int).toNat : Int), n = n, ∀ i < n, X i = X i, ∀ i < n, Y i = Y i, (n:Int) = (n:Int)] fun i_2 => .ite (decide ((i_2:Int) < (n:Int))) (.need [i64In ((i_2:Int) + (1 :
     Int))] (.loop Nat (fun a => Int.toNat (i_2:Int) + (1:Nat) ≤ a ∧ ∀ (j : Nat), j < a → Int.toNat (i_2:Int) + (2:Nat) ≤ j → j < n → clash n X Y (i_2:Int).toNat j = false) ((i_2:Int) + (1:Int)).toNat [(i_2:Int) + (1:Int) = (↑((i_2:Int) + (1:Int)).toNat : Int), n = n, ∀ i < n, X i = X i, ∀ i < n, Y i = Y i, (n:Int) = (n:Int), (i_2:Int) = (i_2:Int)] fun i => .ite (decide ((i:Int) < (n:Int))) (.need [i64In ((i_2:Int) + (1:Int)), (q_checkR_c_1 i i_2) = true → (q_checkR_c_1 i i_2) = true, (q_checkR_c_1 i i_2) = true → (q_checkR_c_1 i i_2) = true, (q_checkR_c_2 i i_2) = true → (q_checkR_c_2 i i_2) = true, (q_checkR_c_2 i i_2) = true → i64In ((n:Int) - (1:Int)), (q_checkR_c_2 i i_2) = true → (q_checkR_c_2 i i_2) = true, (q_checkR_c_2 i i_2) = true → (q_checkR_c_2 i i_2) = true, (q_checkR_c_1 i i_2) = true → (q_checkR_c_1 i i_2) = true, (q_checkR_c_1 i i_2) = true → ((i_2:Int) == (0:Int)) = true → (q_checkR_c_2 i i_2) = true, ((i:Int) == (i_2:Int) + (1:Int)) = false → (q_checkR_c_1 i i_2) = true] (.ite (if ((i:Int) == (i_2:Int) + (1:Int)) = true then true else if ((i_2:Int) == (0:Int)) = true then (i:Int) == (n:Int) - (1:Int) else false) (.need [i64In ((i:Int) + (1:Int))] (.done [(i:Int) + (1:Int) = (↑((i:Int) + (1:Int)).toNat : Int), n = n, ∀ i < n, X i = X i, ∀ i < n, Y i = Y i, (n:Int) = (n:Int), (i_2:Int) = (i_2:Int), Int.toNat (i_2:Int) + (1:Nat) ≤ ((i:Int) + (1:Int)).toNat ∧ ∀ (j : Nat), j < ((i:Int) + (1:Int)).toNat → Int.toNat (i_2:Int) + (2:Nat) ≤ j → j < n → clash n X Y (i_2:Int).toNat j = false, n + (2:Nat) - ((i:Int) + (1:Int)).toNat < n + (2:Nat) - i])) (.need [(0:Int) ≤ (i_2:Int) ∧ (i_2:Int) < (n:Int), FnC prog 108 [.lst n [fun i => (dI (X i)), fun i => (dI (Y i))], (dI (i_2:Int))] (.val (.agg ⟨[.int .i64 (X
     (ix n ((i_2:Int) + (1:Int)))), .int .i64 (Y (ix n ((i_2:Int) + (1:Int))))]⟩)), (0:Int) ≤ (i:Int) ∧ (i:Int) < (n:Int), FnC prog 108 [.lst n [fun i => (dI (X i)), fun i => (dI (Y i))], (dI (i:Int))] (.val (.agg ⟨[.int .i64 (X (ix n ((i:Int) + (1:Int)))), .int .i64 (Y (ix n ((i:Int) + (1:Int))))]⟩)), FnC prog 139 [.val (.agg ⟨[.int .i64 (X (i_2:Int).toNat), .int .i64 (Y (i_2:Int).toNat)]⟩), .val (.agg ⟨[.int .i64 (X (ix n ((i_2:Int) + (1:Int)))), .int .i64 (Y (ix n ((i_2:Int) + (1:Int))))]⟩), .val (.agg ⟨[.int .i64 (X (i:Int).toNat), .int .i64 (Y (i:Int).toNat)]⟩), .val (.agg ⟨[.int .i64 (X (ix n ((i:Int) + (1:Int)))), .int .i64 (Y (ix n ((i:Int) + (1:Int))))]⟩)] ((dB (touR (X (i_2:Int).toNat) (Y (i_2:Int).toNat) (X (ix n ((i_2:Int) + (1:Int)))) (Y (ix n ((i_2:Int) + (1:Int)))) (X (i:Int).toNat) (Y (i:Int).toNat) (X (ix n ((i:Int) + (1:Int)))) (Y (ix n ((i:Int) + (1:Int)))))))] (.ite (touR (X (i_2:Int).toNat) (Y (i_2:Int).toNat) (X (ix n ((i_2:Int) + (1:Int)))) (Y (ix n ((i_2:Int) + (1:Int)))) (X (i:Int).toNat) (Y (i:Int).toNat) (X (ix n ((i:Int) + (1:Int)))) (Y (ix n ((i:Int) + (1:Int))))) (.done [(12:Int) = chk n X Y]) (.need [i64In ((i:Int) + (1:Int))] (.done [(i:Int) + (1:Int) = (↑((i:Int) + (1:Int)).toNat : Int), n = n, ∀ i < n, X i = X i, ∀ i < n, Y i = Y i, (n:Int) = (n:Int), (i_2:Int) = (i_2:Int), Int.toNat (i_2:Int) + (1:Nat) ≤ ((i:Int) + (1:Int)).toNat ∧ ∀ (j : Nat), j < ((i:Int) + (1:Int)).toNat → Int.toNat (i_2:Int) + (2:Nat) ≤ j → j < n → clash n X Y (i_2:Int).toNat j = false, n + (2:Nat) - ((i:Int) + (1:Int)).toNat < n + (2:Nat) - i])))))) (.need [i64In ((i_2:Int) + (1:Int))] (.done [(i_2:Int) + (1:Int) = (↑((↑i_2
     : Int) + (1:Int)).toNat : Int), n = n, ∀ i < n, X i = X i, ∀ i < n, Y i = Y i, (n:Int) = (n:Int), Int.toNat ((i_2:Int) + (1:Int)) ≤ n ∧ ∀ (j : Nat), j < ((i_2:Int) + (1:Int)).toNat → ∀ (k : Nat), k < n → j + (2:Nat) ≤ k → clash n X Y j k = false, n - ((i_2:Int) + (1:Int)).toNat < n - i_2])))) (.need [FnC prog 140 [.lst n [fun i => (dI (X i)), fun i => (dI (Y i))]] ((dI (twS n X Y n)))] (.ite (decide (twS n X Y n < (0:Int))) (.done [(10:Int) = chk n X Y]) (.done [(0:Int) = chk n X Y])))))))) (by kernel_rfl) ?_
  simp only [q_checkR_c_0, q_checkR_c_1, q_checkR_c_2, q_checkR_c_3, q_checkR_c_4, q_checkR_c_5, VT.holds, AllT, Sq]
  refine ⟨within_c _ _ _, fun h => ?_, fun h => ⟨rfl, ⟨Nat.zero_le n, fun j hj => (by omega)⟩, fun i ⟨hin, hb⟩ => ⟨fun hlt => ?_, fun hge => ⟨rfl, ⟨Nat.zero_le n, fun j hj => (by omega)⟩, fun i1 ⟨hi1, hf⟩ => ⟨fun hlt1 => ?_, fun hge1 => ⟨rfl, ⟨Nat.zero_le n, fun j hj => (by omega)⟩, fun i2 ⟨hi2, hc⟩ => ⟨fun hlt2 => ⟨by unfold i64In; omega, rfl, ⟨Nat.le_refl _, fun j h1 h2 => (by omega)⟩, fun k ⟨hk, hck⟩ => ⟨fun hkn => ?_, fun hkn => ?_⟩⟩, fun hge2 => ?_⟩⟩⟩⟩⟩⟩⟩
  · rw [chk, if_pos (by omega)]
  · have hr : (0:Int) ≤ i ∧ (i : Int) < n := by omega
    have b1 := in_c (X i)
    have b2 := in_c (Y i)
    refine ⟨⟨hr, b1, fun _ => hr, fun _ => b2⟩, fun hbad => ?_, fun hok => ⟨by unfold i64In; omega, rfl, ⟨by omega, fun j hj => ?_⟩, by omega⟩⟩
    · rw [chk, if_neg (by omega), if_pos]
      unfold allIn
      rw [decide_eq_false_iff_not]
      intro hall
      have := hall i (by omega)
      rcases hbad with hx | hx <;> simp [badP, hx] at this
    · by_cases e : j = i
      · subst e
        simp [badP, hok.2, hok.1]
      · exact hb j (by omega)
  · have hr : (0:Int) ≤ i1 ∧ (i1 : Int) < n := by omega
    have e0 := ix_nat (n := n) (i := i1) (by omega)
    have e1 : ix n ((i1 : Int) - 1 + 1) = i1 := by rw [show (i1 : Int) - 1 + 1 = (i1 : Int) by omega, e0]
    have m1 := Int.emod_lt_of_pos ((i1 : Int) + n - 1) (show (0:Int) < n by omega)
    have m2 := Int.emod_nonneg ((i1 : Int) + n - 1) (show (n : Int) ≠ 0 by omega)
    have d1 := dirR_c (X i1) (Y i1) (X (ix n ((i1 : Int) + 1))) (Y (ix n ((i1 : Int) + 1)))
    have d2 := dirR_c (X (ix n ((i1 : Int) - 1))) (Y (ix n ((i1 : Int) - 1))) (X i1) (Y i1)
    rw [ix_prev]
    have g1 : dirR (X i1) (Y i1) (X (ix n ((i1 : Int) + 1))) (Y (ix n ((i1 : Int) + 1))) = if dO n X Y i1 = true then dD n X Y i1 else -1 := by
      unfold dirR dO dD; rw [e0]
    have g2 : dirR (X (ix n ((i1 : Int) - 1))) (Y (ix n ((i1 : Int) - 1))) (X i1) (Y i1) = if dO n X Y ((i1 : Int) - 1) = true then dD n X Y ((i1 : Int) - 1) else -1 := by
      unfold dirR dO dD; rw [e1]
    have r1 := dD_range n X Y i1
    have r2 := dD_range n X Y ((i1 : Int) - 1)
    generalize hd : dirR (X i1) (Y i1) (X (ix n ((i1 : Int) + 1))) (Y (ix n ((i1 : Int) + 1))) = d at *
    generalize he : dirR (X (ix n ((i1 : Int) - 1))) (Y (ix n ((i1 : Int) - 1))) (X i1) (Y i1) = e at *
    have par := tmod_two d e
    have b1 : -1 ≤ d ∧ d ≤ 3 := by rw [g1]; split <;> omega
    have b2 : -1 ≤ e ∧ e ≤ 3 := by rw [g2]; split <;> omega
    refine ⟨⟨hr, next_c n X Y i1 (by omega) (by omega) (by omega) (by omega), d1, by unfold i64In; omega, by unfold i64In; omega, ⟨by omega, by omega⟩, ⟨m2, m1⟩, hr, d2⟩, ⟨fun _ => by unfold i64In; omega, fun _ => by omega, fun h1 h2 => ⟨h1, h2⟩⟩, fun hbad => ?_, fun hok => ⟨by unfold i64In; omega, rfl, ⟨by omega, fun j hj => ?_⟩, by omega⟩⟩
    · have hnf : formOk n X Y i1 = false := by
        unfold formOk
        cases ho1 : dO n X Y i1
        · simp
        · cases ho2 : dO n X Y ((i1 : Int) - 1)
          · simp
          · rw [ho1] at g1
            rw [ho2] at g2
            simp only [if_true] at g1 g2
            simp
            omega
      have ha : allIn n X Y = true := by
        unfold allIn
        rw [decide_eq_true_eq]
        exact fun j hj => hb j (by omega)
      rw [chk, if_neg (by omega), if_neg (by rw [ha]; simp), if_pos (fun hall => by rw [hall i1 (by omega)] at hnf; cases hnf)]
    · by_cases ej : j = i1
      · subst ej
        unfold formR
        cases ho1 : dO n X Y j
        · rw [ho1] at g1; simp at g1; omega
        · cases ho2 : dO n X Y ((j : Int) - 1)
          · simp
          · rw [ho1] at g1
            rw [ho2] at g2
            simp only [if_true] at g1 g2
            simp
            have := hok.2 (by omega)
            omega
      · exact hf j (by omega)
  · have hr1 : (0:Int) ≤ i2 ∧ (i2 : Int) < n := by omega
    have hr2 : (0:Int) ≤ k ∧ (k : Int) < n := by omega
    have e1 := ix_nat (n := n) (i := i2) (by omega)
    have e2 := ix_nat (n := n) (i := k) (by omega)
    have t := touchR_c (X i2) (Y i2) (X (ix n ((i2 : Int) + 1))) (Y (ix n ((i2 : Int) + 1))) (X k) (Y k) (X (ix n ((k : Int) + 1))) (Y (ix n ((k : Int) + 1)))
    have te : touR (X i2) (Y i2) (X (ix n ((i2 : Int) + 1))) (Y (ix n ((i2 : Int) + 1))) (X k) (Y k) (X (ix n ((k : Int) + 1))) (Y (ix n ((k : Int) + 1))) = touF n X Y i2 k := by
      unfold touR touF lo hi; rw [e1, e2]
    rw [te] at t ⊢
    have cl : clash n X Y i2 k = (decide (((k : Int) + 1) % (n : Int) ≠ (i2 : Int)) && touF n X Y i2 k) := rfl
    have cm : ((k : Int) + 1) % (n : Int) = (i2 : Int) ↔ (i2 = 0 ∧ k = n - 1) := by
      by_cases ek : k = n - 1
      · rw [show (k : Int) + 1 = n by omega, Int.emod_self]; omega
      · rw [Int.emod_eq_of_lt (by omega) (by omega)]; omega
    refine ⟨⟨by unfold i64In; omega, fun _ => by unfold i64In; omega, fun h1 h2 => ⟨h1, h2⟩⟩, fun hs => ⟨by unfold i64In; omega, rfl, ⟨by omega, fun j h1 h2 h3 => ?_⟩, by omega⟩, fun hs => ⟨⟨hr1, next_c n X Y i2 (by omega) (by omega) (by omega) (by omega), hr2, next_c n X Y k (by omega) (by omega) (by omega) (by omega), t⟩, fun ht => ?_, fun ht => ⟨by unfold i64In; omega, rfl, ⟨by omega, fun j h1 h2 h3 => ?_⟩, by omega⟩⟩⟩
    · by_cases ej : j = k
      · subst ej
        have hx := cm.2 (show i2 = 0 ∧ j = n - 1 by omega)
        rw [cl]
        simp [hx]
      · exact hck j (by omega) h2 h3
    · have ha : allIn n X Y = true := by
        unfold allIn
        rw [decide_eq_true_eq]
        exact fun j hj => hb j (by omega)
      have hform := formR_all (n := n) (X := X) (Y := Y) (by omega) (fun j hj => hf j (by omega))
      rw [chk, if_neg (by omega), if_neg (by rw [ha]; simp), if_neg (fun hx => hx hform), if_pos (fun hall => ?_)]
      have h2 := hall i2 (by omega) k (by omega) (by omega)
      rw [cl, ht, Bool.and_true, decide_eq_false_iff_not] at h2
      exact h2 (fun hx => by have := cm.1 hx; omega)
    · by_cases ej : j = k
      · subst ej
        rw [cl, ht, Bool.and_false]
      · exact hck j (by omega) h2 h3
  · refine ⟨by unfold i64In; omega, rfl, ⟨by omega, fun j h1 k' h2 h3 => ?_⟩, by omega⟩
    by_cases e : j = i2
    · subst e; exact hck k' (by omega) h3 h2
    · exact hc j (by omega) k' h2 h3
  · have ha : allIn n X Y = true := by
      unfold allIn
      rw [decide_eq_true_eq]
      exact fun j hj => hb j (by omega)
    obtain ⟨b1, b2⟩ := allIn_inB ha
    have hform := formR_all (n := n) (X := X) (Y := Y) (by omega) (fun j hj => hf j (by omega))
    have hcl : ∀ j, j < n → ∀ k, k < n → j + 2 ≤ k → clash n X Y j k = false := fun j hj => hc j (by omega)
    refine ⟨twiceR_c n X Y (by omega) (by omega) b1 b2, fun ht => ?_, fun ht => ?_⟩
    · rw [chk, if_neg (by omega), if_neg (by rw [ha]; simp), if_neg (fun hx => hx hform), if_neg (fun hx => hx hcl), if_pos ht]
    · rw [chk, if_neg (by omega), if_neg (by rw [ha]; simp), if_neg (fun hx => hx hform), if_neg (fun hx => hx hcl), if_neg ht]
end Go.Abs
