/- Contracts. -/
import Derived.Test.YtcgfcahljfmipaaDoorK15
import Derived.Test.YtcgfcahljfmipaaDoorK23
set_option linter.unusedVariables false
set_option linter.unusedSimpArgs false
set_option maxRecDepth 100000
namespace Go.Abs
open Go
def sameP (n : Nat) (X Y : Nat → Int) (m : Nat) (X' Y' : Nat → Int) : Bool := decide (n = m ∧ ∀ i, i < n → (X i = X' i ∧ Y i = Y' i))
noncomputable def A36_cornersR_c (n : Nat) (X Y : Nat → Int) : Ann := { orc := [(2, [(1, rWallsR)]), (6, [(8, .pos)]), (7, [(2, .pos)])], loops := [(0, { ι := Nat, keep := [0, 4], boxes := [], ts := fun _ i => [(5, dI (i : Int))], rw := fun _ i => [(3, 1, i, [fun k => dI (cor n X Y k)])], inv := fun _ i => i ≤ n, mu := fun _ i => n - i, rd := fun _ σ => (iOf (σ.get 5)).toNat })], cuts := [] }
noncomputable abbrev cornersR_cr0 (n : Nat) (X : Nat → Int) (Y : Nat → Int) (r : List Prop) : List Prop := (n = n) :: (∀ (i : Nat), i < n → X i = X i) :: (∀ (i : Nat), i < n → Y i = Y i) :: (n = n) :: (∀ (i : Nat), i < n → X i = X i) :: (∀ (i : Nat), i < n → Y i = Y i) :: (∀ (i : Nat), i < n → X (ix n ((i:Int) + (1:Int))) = X (ix n ((i:Int) + (1:Int)))) :: (∀ (i : Nat), i < n → Y (ix n ((i:Int) + (1:Int))) = Y (ix n ((i:Int) + (1:Int)))) :: (∀ (i : Nat), i < n → lenW n X Y (i:Int) = lenW n X Y (i:Int)) :: (∀ (i : Nat), i < n → dD n X Y (i:Int) = dD n X Y (i:Int)) :: r
theorem cornersR_c (n : Nat) (X Y : Nat → Int) (h : chk n X Y = 0) : FnC prog 36 [pts n X Y] (.lst n [fun k => dI (cor n X Y k)]) := by
  refine FnC_owed hmix (A36_cornersR_c n X Y) (V := .need [FnC prog 12 [.lst n [fun i => (dI (X i)), fun i => (dI (Y i))]] (.lst n [fun i => (dI (X i)), fun i => (dI (Y i)), fun i => (dI (X (ix n ((i:Int) + 1)))), fun i => (dI (Y (ix n ((i:Int) + 1)))), fun i => (dI (lenW n X Y (i:Int))), fun i => (dI (dD n X Y (i:Int)))])] (.loop Nat (fun a => a ≤ n) (0:Int).toNat (((0:Int) = (↑(0:Int).toNat : Int)) :: (((0:Nat) = 0) :: ((Int.toNat (0:Int) = 0) :: (cornersR_cr0 n X Y [Int.toNat (0:Int) = 0])))) fun i => .ite (decide ((i:Int) < (n:Int))) (.need [i64In ((i:Int) + (n:Int)), i64In ((i:Int) + (n:Int) - 1), (0:Int) ≤ (i:Int) + (n:Int) - 1 ∧ (0:Int) < (n:Int), (0:Int) ≤ ((i:Int) + (n:Int) - 1) % (n:Int) ∧ ((i:Int) + (n:Int) - 1) % (n:Int) < (n:Int)] (.need [i64In (dD n X Y (↑(((i:Int) + (n:Int) - 1) % (n:Int)).toNat : Int) + 1), (0:Int) ≤ dD n X Y (↑(((i:Int) + (n:Int) - 1) % (n:Int)).toNat : Int) + 1 ∧ (0:Int) < 4, (0:Int) ≤ (i:Int) ∧ (i:Int) < (n:Int)] (.ite ((dD n X Y (↑(((i:Int) + (n:Int) - 1) % (n:Int)).toNat : Int) + 1) % (4:Int) == dD n X Y (↑(i:Int).toNat : Int)) (.need [i ≤ i, (i + 1) * (nat_lit 7 + 1) ≤ 140737488355328, (1:Nat) ≤ 1] (.need [i64In ((i:Int) + 1)] (.done (((i:Int) + 1 = (↑((i:Int) + 1).toNat : Int)) :: (((0:Nat) = 0) :: ((i + 1 = ((i:Int) + 1).toNat) :: (cornersR_cr0 n X Y [i + 1 = ((i:Int) + 1).toNat, ∀ i_1 < ((i:Int) + 1).toNat, (if decide (i_1 < i) = true then cor n X Y i_1 else (1:Int)) = cor n X Y i_1, Int.toNat ((i:Int) + 1) ≤ n, n - ((i:Int) + 1).toNat < n - i]))))))) (.need [i ≤ i, (i + 1) * (nat_lit 7 + (1 :
     Nat)) ≤ 140737488355328, (1:Nat) ≤ 1] (.need [i64In ((i:Int) + 1)] (.done (((i:Int) + 1 = (↑((i:Int) + 1).toNat : Int)) :: (((0:Nat) = 0) :: ((i + 1 = ((i:Int) + 1).toNat) :: (cornersR_cr0 n X Y [i + 1 = ((i:Int) + 1).toNat, ∀ i_1 < ((i:Int) + 1).toNat, (if decide (i_1 < i) = true then cor n X Y i_1 else (-1:Int)) = cor n X Y i_1, Int.toNat ((i:Int) + 1) ≤ n, n - ((i:Int) + 1).toNat < n - i])))))))))) (.done [i ≤ i, i = n, ∀ i < n, cor n X Y i = cor n X Y i]))) (by kernel_rfl) ?_
  simp only [VT.holds, AllT, cornersR_cr0, Sq]
  have hn := chk_n h
  refine ⟨wallsR_c n X Y h, rfl, Nat.zero_le n, fun i hin => ⟨fun hlt => ?_, fun hge => ⟨Nat.le_refl i, by omega⟩⟩⟩
  have hr : (0:Int) ≤ i ∧ (i : Int) < n := by omega
  have m1 := Int.emod_lt_of_pos ((i : Int) + n - 1) (show (0:Int) < n by omega)
  have m2 := Int.emod_nonneg ((i : Int) + n - 1) (show (n : Int) ≠ 0 by omega)
  rw [ix_prev, dD_ix (by omega)]
  have r := dD_range n X Y ((i : Int) - 1)
  refine ⟨⟨by unfold i64In; omega, by unfold i64In; omega, ⟨by omega, by omega⟩, m2, m1⟩, ⟨by unfold i64In; omega, ⟨by omega, by omega⟩, hr⟩, fun ho => ⟨⟨Nat.le_refl i, by omega, Nat.le_refl 1⟩, by unfold i64In; omega, rfl, last_if (by rw [cor, if_pos ho.symm]), by omega, by omega⟩, fun ho => ⟨⟨Nat.le_refl i, by omega, Nat.le_refl 1⟩, by unfold i64In; omega, rfl, last_if (by rw [cor, if_neg (fun e => ho e.symm)]), by omega, by omega⟩⟩
noncomputable def A13_areaR_c (n : Nat) (X Y : Nat → Int) : Ann := { orc := [(1, [(1, rTw), (2, .pos)])], loops := [], cuts := [] }
theorem areaR_c (n : Nat) (X Y : Nat → Int) (h : chk n X Y = 0) : FnC prog 13 [pts n X Y] (dI (twS n X Y n / 2)) := by
  refine FnC_owed hmix (A13_areaR_c n X Y) (V := .need [FnC prog 35 [.lst n [fun i => (dI (X i)), fun i => (dI (Y i))]] ((dI (twS n X Y n))), (0:Int) ≤ twS n X Y n ∧ (0:Int) < 2 ∧ twS n X Y n ≤ 9223372036854775807] (.done [twS n X Y n / (2:Int) = twS n X Y n / (2:Int)])) (by kernel_rfl) ?_
  simp only [VT.holds, AllT, Sq]
  have hn := chk_n h
  obtain ⟨hX, hY⟩ := chk_inB h
  have := twS_bd (by omega) hX hY n
  exact ⟨twiceR_c n X Y (by omega) (by omega) hX hY, (chk_zero h).2.2.2.2, by omega, by omega⟩
noncomputable def A11_samePoints_c (n : Nat) (X Y : Nat → Int) (m : Nat) (X' Y' : Nat → Int) : Ann := { orc := [], loops := [(0, { ι := Nat, keep := [0, 1], boxes := [], ts := fun _ i => [(5, dI (i : Int))], inv := fun _ i => i ≤ n ∧ ∀ j, j < i → (X j = X' j ∧ Y j = Y' j), mu := fun _ i => n - i, rd := fun _ σ => (iOf (σ.get 5)).toNat })], cuts := [] }
theorem samePoints_c (n : Nat) (X Y : Nat → Int) (m : Nat) (X' Y' : Nat → Int) (hn : n ≤ 1000000) : FnC prog 11 [pts n X Y, pts m X' Y'] (dB (sameP n X Y m X' Y')) := by
  refine FnC_owed hmix (A11_samePoints_c n X Y m X' Y') (V := .ite ((n:Int) != (m:Int)) (.done [false = sameP n X Y m X' Y']) (.loop Nat (fun a => a ≤ n ∧ ∀ (j : Nat), j < a → X j = X' j ∧ Y j = Y' j) (0:Int).toNat [(0:Int) = (↑(0:Int).toNat : Int), n = n, ∀ i < n, X i = X i, ∀ i < n, Y i = Y i, m = m, ∀ i < m, X' i = X' i, ∀ i < m, Y' i = Y' i] fun i => .ite (decide ((i:Int) < (n:Int))) (.need [(0:Int) ≤ (i:Int) ∧ (i:Int) < (n:Int), (0:Int) ≤ (i:Int) ∧ (i:Int) < (m:Int)] (.ite (!(X (i:Int).toNat == X' (i:Int).toNat && (Y (i:Int).toNat == Y' (i:Int).toNat && true))) (.done [false = sameP n X Y m X' Y']) (.need [i64In ((i:Int) + 1)] (.done [(i:Int) + 1 = (↑((i:Int) + 1).toNat : Int), n = n, ∀ i < n, X i = X i, ∀ i < n, Y i = Y i, m = m, ∀ i < m, X' i = X' i, ∀ i < m, Y' i = Y' i, Int.toNat ((i:Int) + 1) ≤ n ∧ ∀ (j : Nat), j < ((i:Int) + 1).toNat → X j = X' j ∧ Y j = Y' j, n - ((i:Int) + 1).toNat < n - i])))) (.done [true = sameP n X Y m X' Y']))) (by kernel_rfl) ?_
  simp only [VT.holds, AllT, Sq]
  refine ⟨fun h => ?_, fun h => ⟨rfl, ⟨Nat.zero_le _, fun j hj => absurd hj (Nat.not_lt_zero j)⟩, fun i ⟨hi, hb⟩ => ⟨fun hlt => ⟨⟨by omega, by omega⟩, fun h2 => ?_, fun h2 => ⟨by unfold i64In; omega, by omega, ⟨by omega, fun j hj => ?_⟩, by omega⟩⟩, fun hge => ?_⟩⟩⟩
  · rw [sameP, decide_eq_false (fun h' => h (by omega))]
  · rw [sameP, decide_eq_false (fun h' => ?_)]
    have h3 := h'.2 i (by omega)
    exact absurd (h2 h3.1 h3.2) (by decide)
  · rcases Nat.lt_or_ge j i with h9 | h9
    · exact hb j h9
    · obtain rfl : j = i := by omega
      exact h2
  · obtain rfl : i = n := by omega
    rw [sameP, decide_eq_true ⟨by omega, hb⟩]
noncomputable def A6_few_c (n : Nat) (X Y : Nat → Int) : Ann := { orc := [], loops := [], cuts := [] }
theorem few_c (n : Nat) (X Y : Nat → Int)  : FnC prog 6 [pts n X Y] (dB (decide ((n : Int) ≤ 45))) := by
  refine FnC_owed hmix (A6_few_c n X Y) (V := .done [decide ((n:Int) ≤ 45) = decide ((n:Int) ≤ 45)]) (by kernel_rfl) ?_
  simp only [VT.holds, AllT]
end Go.Abs
