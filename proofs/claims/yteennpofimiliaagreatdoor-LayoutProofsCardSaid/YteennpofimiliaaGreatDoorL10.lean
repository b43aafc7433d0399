/- slices.Grow of the nil slice: a fresh row with room. Contracts. -/
import Derived.Test.YteennpofimiliaaGreatDoorL1
import Derived.Lib.Walk
import Derived.Lib.SliceRun
import Derived.Lib.AppendZerosOnto
import Derived.Test.YteennpofimiliaaGreatDoorL7
section
set_option linter.unusedVariables false
set_option linter.unusedSimpArgs false
set_option maxRecDepth 100000
namespace Go.Abs.Lay
open Go Go.RowKit Go.Lib
attribute [local go_sem] Oper.semAt_some
set_option maxHeartbeats 4000000 in
theorem grow_zero (w : World) : Calls prog 174 #[.slice none 0 0, .int .i64 0] w fun e w' => e = .returned (.slice none 0 0) ∧ w' = w := by
  have mixed := hmix
  go_enter Go.Proofs.Tryz.func174, Go.Proofs.Tryz.ntmps174
  go_wp2
  go_ret
  exact ⟨rfl, rfl⟩
set_option maxHeartbeats 4000000 in
theorem grow_pos (w : World) (n : Nat) (h0 : 0 < n) (hn : n ≤ 100000000) : Calls prog 174 #[.slice none 0 0, .int .i64 n] w fun e w' =>
    ∃ G, n ≤ G ∧ e = .returned (.slice (some ⟨w.heap.size, 0, none⟩) 0 G) ∧ w' = w.drew.alloc (.cells (Builtin.zeroCells #[.int .i64 0] n ++ Builtin.zeroCells #[.int .i64 0] (G - n)) 3) := by
  have mixed := hmix
  have h1 : ¬ ((n : Int) < 0) := by omega
  have h4 : (n : Int) > 0 := by omega
  have hrz : ∀ ty, (Builtin.append_ #[27, 3] ty #[.slice none 0 0, .int .i64 (n : Int)]).run prog w =
      .ok (.slice (some ⟨w.heap.size, 0, none⟩) n (grownCap w n 0 3)) (w.drew.alloc (.cells (Builtin.zeroCells #[.int .i64 0] n ++ Builtin.zeroCells #[.int .i64 0] (grownCap w n 0 3 - n)) 3)) := fun ty =>
    run_append_nil_zeros w 27 3 ty 3 _ (.int .i64 0) .i64 .i64 Go.Proofs.Tryz.underlying27 Go.Proofs.Tryz.underlying3 rfl (by kernel_rfl) n h0 (of_decide_eq_true (by kernel_rfl)) (by omega) (by
      have hb : (prog.types[3].bytes) = 8 := by kernel_rfl
      show n * prog.types[3].bytes ≤ _
      rw [hb]; omega)
  have hGn : n ≤ grownCap w n 0 3 := grownCap_ge w _ _ _
  obtain ⟨G, hG⟩ : ∃ G, G = grownCap w n 0 3 := ⟨_, rfl⟩
  have hG63 : G ≤ 9223372036854775807 := by
    have := grownCap_le_maxLen w n 0 3 (by unfold maxLen; omega)
    rw [← hG] at this
    unfold maxLen at this
    omega
  rw [← hG] at hrz hGn
  clear hG
  go_enter Go.Proofs.Tryz.func174, Go.Proofs.Tryz.ntmps174
  go_wp2_with (at_builtin; refine Lib.wpList_append_run _ rfl _ _ _ _ rfl _ _ rfl rfl _ _ (hrz _) ?_)
  all_goals (go_ret; exact ⟨G, hGn, rfl, rfl⟩)
theorem grow_c (n : Int) (h0 : 0 ≤ n) (hn : n ≤ 100000000) : FnR prog 174 [.val (.slice none 0 0), .val (.int .i64 n)] 0 [fun _ => .val (.int .i64 0)] := by
  refine ⟨⟨_, Go.Proofs.Tryz.func174, rfl, by kernel_rfl⟩, fun S w vs hs hv _ => ?_⟩
  obtain ⟨⟨l⟩, rfl⟩ : ∃ v : Array Value, vs = v := ⟨vs, rfl⟩
  match l, hs with
  | [u0, u1], _ =>
    have r0 := hv 0 _ _ rfl rfl
    have r1 := hv 1 _ _ rfl rfl
    cases r0; cases r1
    by_cases e : n = 0
    · subst e
      refine (grow_zero w).mono fun e w' ⟨he, hw⟩ => ⟨_, he, ?_, .inl ⟨rfl, rfl⟩⟩
      rw [hw]; exact Below.refl _ _
    · obtain ⟨k, rfl⟩ : ∃ k : Nat, n = k := ⟨n.toNat, by omega⟩
      refine (grow_pos w k (by omega) (by omega)).mono fun e w' ⟨G, hG, he, hw⟩ => ⟨_, he, ?_, .inr ⟨w.heap.size, G, (Builtin.zeroCells #[Value.int IntKind.i64 0] k ++ Builtin.zeroCells #[Value.int IntKind.i64 0] (G - k)), 3, rfl, Nat.le_refl _, by rw [hw]; exact heap_alloc_new w.drew _, ?_, Nat.zero_le _, fun i j f hi => absurd hi (Nat.not_lt_zero _)⟩⟩
      · rw [hw]
        exact ((Below.refl _ w).drew).alloc (Nat.le_refl _) _
      · simp only [Array.size_append, size_zeroCells, List.length_cons, List.length_nil]
        show k * 1 + (G - k) * 1 = _
        omega
end Go.Abs.Lay
end
section
set_option linter.unusedVariables false
set_option linter.unusedSimpArgs false
set_option maxRecDepth 100000
namespace Go.Abs.Lay
open Go
def sumN (N : Nat → Nat) : Nat → Nat
  | 0 => 0
  | i + 1 => sumN N i + N i
def catF (N : Nat → Nat) (A : Nat → Nat → Int) : Nat → Nat → Int
  | 0 => fun _ => 0
  | i + 1 => fun k => if k < sumN N i then catF N A i k else A i (k - sumN N i)
def sumI (f : Nat → Int) : Nat → Int
  | 0 => 0
  | k + 1 => sumI f k + f k
def rConcat : Orc := .res fun l => .lst (sumN (fun i => lenOf (colD 0 (arg l 0) i)) (lenOf (arg l 0))) [fun k => .val (.int .i64 (catF (fun i => lenOf (colD 0 (arg l 0) i)) (fun i k => colI 0 (colD 0 (arg l 0) i) k) (lenOf (arg l 0)) k))]
theorem sumN_le {N : Nat → Nat} {b : Nat} {m : Nat} (h : ∀ i, i < m → N i ≤ b) : ∀ i, i ≤ m → sumN N i ≤ i * b
  | 0, _ => Nat.zero_le _
  | i + 1, hi => by
    have := sumN_le h i (by omega)
    have := h i (by omega)
    rw [Nat.succ_mul]
    simp only [sumN]
    omega
theorem sumI_bd {f : Nat → Int} {n : Nat} (h : ∀ k, k < n → 1 ≤ f k ∧ f k ≤ 10000) : ∀ k, k ≤ n → 0 ≤ sumI f k ∧ sumI f k ≤ 10000 * k
  | 0, _ => ⟨Int.le_refl _, Int.le_refl _⟩
  | k + 1, hk => by
    have := sumI_bd h k (by omega)
    have := h k (by omega)
    simp only [sumI]
    omega
theorem sumI_congr {f g : Nat → Int} : ∀ {n : Nat}, (∀ k, k < n → f k = g k) → sumI f n = sumI g n
  | 0, _ => rfl
  | n + 1, h => by
    rw [sumI, sumI, sumI_congr fun k hk => h k (by omega), h n (by omega)]
theorem sumI_add (f g : Nat → Int) (n : Nat) : ∀ m, sumI (fun k => if k < n then f k else g (k - n)) (n + m) = sumI f n + sumI g m
  | 0 => by
    rw [Nat.add_zero, sumI, Int.add_zero]
    exact sumI_congr fun k hk => if_pos hk
  | m + 1 => by
    rw [← Nat.add_assoc, sumI, sumI_add f g n m, if_neg (by omega), Nat.add_sub_cancel_left, sumI, Int.add_assoc]
def rSum : Orc := .res fun l => dI (sumI (colI 0 (fD 0 (arg l 0))) (lenOf (fD 0 (arg l 0))) + sumI (colI 0 (fD 1 (arg l 0))) (lenOf (fD 1 (arg l 0))))
def closesE (nB : Nat) (B : Nat → Int) (nO : Nat) (O : Nat → Int) (nC : Nat) (C : Nat → Int) (nD : Nat) (D : Nat → Int) (len : Int) : Int :=
  if ckE nB B nO O nC C nD D = 0 then (if sumI C nC + sumI D nD = len then 0 else 25) else ckE nB B nO O nC C nD D
def rHas : Orc := .res fun l => dB (anyN (fun k => aX l k == aI l 1) (aN l))
theorem ck_bd {nB : Nat} {B : Nat → Int} {nO : Nat} {O : Nat → Int} {W G L : Int} {nC : Nat} {C : Nat → Int} {nD : Nat} {D : Nat → Int} (hs : sysE nB B nO O W G L = 0) (h : ckE nB B nO O nC C nD D = 0) :
    (∀ k, k < nC → 1 ≤ C k ∧ C k ≤ 10000) ∧ ∀ k, k < nD → 1 ≤ D k ∧ D k ≤ 10000 := by
  obtain ⟨_, _, _, sB, sO, _, _⟩ := sys_ok hs
  unfold ckE at h
  split at h
  · cases h
  · split at h
    · cases h
    · rename_i h2
      constructor
      · intro k hk
        obtain ⟨j, hj, e⟩ := others_bd (n := nC) (A := C) (m := nB) (O := B) (by cases hx : others nC C nB B with | true => exact absurd (.inl hx) h2 | false => rfl) hk
        rw [← e]; exact sB j hj
      · intro k hk
        obtain ⟨j, hj, e⟩ := others_bd (n := nD) (A := D) (m := nO) (O := O) (by cases hx : others nD D nO O with | true => exact absurd (.inr hx) h2 | false => rfl) hk
        rw [← e]; exact sO j hj
noncomputable def A111_concat_c (m : Nat) (N : Nat → Nat) (A : Nat → Nat → Int) : Ann := { orc := [(9, [(1, .row fun _ => (0, [fun _ => .val (.int .i64 0)]))])], loops := [(0, { ι := Nat, keep := [0, 9, 10], boxes := [], ts := fun _ i => [(11, dI (i : Int)), (3, dI (sumN N i))], inv := fun _ i => i ≤ m, mu := fun _ i => m - i, rd := fun _ σ => (iOf (σ.get 11)).toNat }),
  (2, { ι := Nat, keep := [25, 26], boxes := [], ts := fun _ i => [(27, dI (i : Int))], rw := fun _ i => [(6, 1, sumN N i, [fun k => .val (.int .i64 (catF N A i k))])], inv := fun _ i => i ≤ m, mu := fun _ i => m - i, rd := fun _ σ => (iOf (σ.get 27)).toNat })], cuts := [] }
abbrev concat_cr0 (m : Nat) (N : Nat → Nat) (A : Nat → Nat → Int) (r : List Prop) : List Prop := (m = m) :: (∀ i < m, N i = N i ∧ ∀ i_1 < N i, A i i_1 = A i i_1) :: ((m:Int) = (m:Int)) :: r
theorem concat_c (m : Nat) (N : Nat → Nat) (A : Nat → Nat → Int) (hm : m ≤ 10) (hN : ∀ i, i < m → N i ≤ 1000000) : FnC prog 145 [lists m N A] (.lst (sumN N m) [fun k => .val (.int .i64 (catF N A m k))]) := by
  refine FnC_owed hmix (A111_concat_c m N A) (V := .loop Nat (fun a => a ≤ m) (0:Int).toNat (((0:Int) = (↑(0:Int).toNat : Int)) :: (((0:Int) = (↑(sumN N (0:Int).toNat) : Int)) :: ((m = m) :: ((∀ i < m, N i = N i ∧ ∀ i_1 < N i, A i i_1 = A i i_1) :: (concat_cr0 m N A []))))) fun i => .ite (decide ((i:Int) < (m:Int))) (.need [(0:Int) ≤ (i:Int) ∧ (i:Int) < (m:Int)] (.need [i64In ((↑(sumN N i) : Int) + (↑(N (i:Int).toNat) : Int))] (.ite (decide ((↑(sumN N i) : Int) + (↑(N (i:Int).toNat) : Int) < (0:Int))) (.need [False, False] (.need [i64In ((i:Int) + (1:Int))] (.done (((i:Int) + (1:Int) = (↑((i:Int) + (1:Int)).toNat : Int)) :: (((↑(sumN N i) : Int) + (↑(N (i:Int).toNat) : Int) = (↑(sumN N ((i:Int) + (1:Int)).toNat) : Int)) :: ((m = m) :: ((∀ i < m, N i = N i ∧ ∀ i_1 < N i, A i i_1 = A i i_1) :: (concat_cr0 m N A [Int.toNat ((i:Int) + (1:Int)) ≤ m, m - ((i:Int) + (1:Int)).toNat < m - i])))))))) (.need [i64In ((i:Int) + (1:Int))] (.done (((i:Int) + (1:Int) = (↑((i:Int) + (1:Int)).toNat : Int)) :: (((↑(sumN N i) : Int) + (↑(N (i:Int).toNat) : Int) = (↑(sumN N ((i:Int) + (1:Int)).toNat) : Int)) :: ((m = m) :: ((∀ i < m, N i = N i ∧ ∀ i_1 < N i, A i i_1 = A i i_1) :: (concat_cr0 m N A [Int.toNat ((i:Int) + (1:Int)) ≤ m, m - ((i:Int) + (1:Int)).toNat < m - i])))))))))) (.need [FnR prog 174 [.val (Value.slice none (0:Nat) (0:Nat)), (dI (↑(sumN N i) : Int))] (0:Nat) [fun x => (dI (0:Int))]] (.loop Nat (fun a => a ≤ m) (0:Int).toNat (((0:Int) = (↑(0:Int).toNat : Int)) :: (((0:Nat) = (0:Nat)) :: (((0:Nat) = sumN N (0:Int).toNat) :: (concat_cr0 m N A [(0:Nat) = sumN N (0:Int).toNat, ∀ i < sumN N (0:Int).toNat, (0:Int) = catF N A (0:Int).toNat i])))) fun i => .ite (decide ((i:Int) < (↑m :
     Int))) (.need [(0:Int) ≤ (i:Int) ∧ (i:Int) < (m:Int)] (.need [sumN N i ≤ sumN N i, (sumN N i + N (i:Int).toNat) * (nat_lit 7 + (1:Nat)) ≤ (140737488355328:Nat)] (.need [i64In ((i:Int) + (1:Int))] (.done (((i:Int) + (1:Int) = (↑((i:Int) + (1:Int)).toNat : Int)) :: (((0:Nat) = (0:Nat)) :: ((sumN N i + N (i:Int).toNat = sumN N ((i:Int) + (1:Int)).toNat) :: (concat_cr0 m N A [sumN N i + N (i:Int).toNat = sumN N ((i:Int) + (1:Int)).toNat, ∀ i_1 < sumN N ((i:Int) + (1:Int)).toNat, (if decide (i_1 < sumN N i) = true then catF N A i i_1 else A (i:Int).toNat (i_1 - sumN N i)) = catF N A ((i:Int) + (1:Int)).toNat i_1, Int.toNat ((i:Int) + (1:Int)) ≤ m, m - ((i:Int) + (1:Int)).toNat < m - i])))))))) (.done [sumN N i ≤ sumN N i, sumN N i = sumN N m, ∀ i_1 < sumN N m, catF N A i i_1 = catF N A m i_1])))) (by kernel_rfl) ?_
  simp only [VT.holds, AllT, concat_cr0, Sq]
  have hs := fun i hi => sumN_le (m := m) hN i hi
  have hb : ∀ i, i ≤ m → sumN N i ≤ 10000000 := fun i hi => by
    have := hs i hi
    have : i * 1000000 ≤ 10 * 1000000 := Nat.mul_le_mul_right _ (by omega)
    omega
  refine ⟨⟨rfl, rfl⟩, Nat.zero_le _, fun i hi => ⟨fun hlt => ?_, fun hge => ⟨grow_c _ (by omega) (by have := hb i hi; omega), ⟨rfl, rfl, rfl, fun k hk => absurd hk (Nat.not_lt_zero k)⟩, Nat.zero_le _, fun i hi => ⟨fun hlt => ?_, fun hge => ?_⟩⟩⟩⟩
  · have h1 := hb i hi
    have h2 := hN i (by omega)
    exact ⟨⟨by omega, by omega⟩, by unfold i64In; omega, fun h => absurd h (by omega), fun _ => ⟨by unfold i64In; omega, rfl, by simp only [sumN]; omega, by omega, by omega⟩⟩
  · have h1 := hb i hi
    have h2 := hN i (by omega)
    exact ⟨⟨by omega, by omega⟩, ⟨Nat.le_refl _, by omega⟩, by unfold i64In; omega, rfl, rfl, rfl, fun k hk => rfl, by omega, by omega⟩
  · rw [show i = m by omega]
    exact ⟨Nat.le_refl _, rfl, fun _ _ => rfl⟩
noncomputable def A81_sum_c (nC : Nat) (C : Nat → Int) (nD : Nat) (D : Nat → Int) : Ann := { orc := [(2, [(5, rConcat)])], loops := [(0, { ι := Nat, keep := [11, 12], boxes := [], ts := fun _ i => [(13, dI (i : Int)), (3, dI (sumI (fun k => if k < nC then C k else D (k - nC)) i))], inv := fun _ i => i ≤ nC + nD, mu := fun _ i => nC + nD - i, rd := fun _ σ => (iOf (σ.get 13)).toNat })], cuts := [] }
theorem sum_c (nC : Nat) (C : Nat → Int) (nD : Nat) (D : Nat → Int) (h1 : nC ≤ 1000000) (h2 : nD ≤ 1000000) (hC : ∀ k, k < nC → 1 ≤ C k ∧ C k ≤ 10000) (hD : ∀ k, k < nD → 1 ≤ D k ∧ D k ≤ 10000) : FnC prog 114 [clg nC C nD D] (dI (sumI C nC + sumI D nD)) := by
  refine FnC_owed hmix (A81_sum_c nC C nD D) (V := .need [(2:Nat) ≤ (2:Nat), FnC prog 145 [.lst (2:Nat) [fun a => .lst (if decide (a = (0:Nat)) = true then nC else nD) [fun i => (dI (if decide (a = (0:Nat)) = true then C i else D i))]]] (.lst (sumN (fun i => if decide (i = (0:Nat)) = true then nC else nD) (2:Nat)) [fun k => (dI (catF (fun i => if decide (i = (0:Nat)) = true then nC else nD) (fun (i k : Nat) => if decide (i = (0:Nat)) = true then C k else D k) (2:Nat) k))])] (.loop Nat (fun a => a ≤ nC + nD) (0:Int).toNat [(0:Int) = (↑(0:Int).toNat : Int), (0:Int) = sumI (fun k => if k < nC then C k else D (k - nC)) (0:Int).toNat, sumN (fun i => if decide (i = (0:Nat)) = true then nC else nD) (2:Nat) = sumN (fun i => if decide (i = (0:Nat)) = true then nC else nD) (2:Nat), ∀ i < sumN (fun i => if decide (i = (0:Nat)) = true then nC else nD) (2:Nat), catF (fun i => if decide (i = (0:Nat)) = true then nC else nD) (fun (i k : Nat) => if decide (i = (0:Nat)) = true then C k else D k) (2:Nat) i = catF (fun i => if decide (i = (0:Nat)) = true then nC else nD) (fun (i k : Nat) => if decide (i = (0:Nat)) = true then C k else D k) (2:Nat) i, (↑(sumN (fun i => if decide (i = (0:Nat)) = true then nC else nD) (2:Nat)) : Int) = (↑(sumN (fun i => if decide (i = (0:Nat)) = true then nC else nD) (2:Nat)) : Int)] fun i => .ite (decide ((i:Int) < (↑(sumN (fun i => if decide (i = (0:Nat)) = true then nC else nD) (2:Nat)) : Int))) (.need [(0:Int) ≤ (i:Int) ∧ (i:Int) < (↑(sumN (fun i => if decide (i = (0:Nat)) = true then nC else nD) (2:Nat)) : Int)] (.need [i64In (sumI (fun k => if k < nC then C k else D (k - nC)) i + catF (fun i => if decide (i = (0:Nat)) = true then nC else nD) (fun (i k : Nat) => if decide (i = (0:Nat)) = true then C k else D k) (2:Nat) (i:Int).toNat)] (.need [i64In ((i:Int) + (1:Int))] (.done [(i:Int) + (1:Int) = (↑((i:Int) + (1:Int)).toNat : Int), sumI (fun k =>
     if k < nC then C k else D (k - nC)) i + catF (fun i => if decide (i = (0:Nat)) = true then nC else nD) (fun (i k : Nat) => if decide (i = (0:Nat)) = true then C k else D k) (2:Nat) (i:Int).toNat = sumI (fun k => if k < nC then C k else D (k - nC)) ((i:Int) + (1:Int)).toNat, sumN (fun i => if decide (i = (0:Nat)) = true then nC else nD) (2:Nat) = sumN (fun i => if decide (i = (0:Nat)) = true then nC else nD) (2:Nat), ∀ i < sumN (fun i => if decide (i = (0:Nat)) = true then nC else nD) (2:Nat), catF (fun i => if decide (i = (0:Nat)) = true then nC else nD) (fun (i k : Nat) => if decide (i = (0:Nat)) = true then C k else D k) (2:Nat) i = catF (fun i => if decide (i = (0:Nat)) = true then nC else nD) (fun (i k : Nat) => if decide (i = (0:Nat)) = true then C k else D k) (2:Nat) i, (↑(sumN (fun i => if decide (i = (0:Nat)) = true then nC else nD) (2:Nat)) : Int) = (↑(sumN (fun i => if decide (i = (0:Nat)) = true then nC else nD) (2:Nat)) : Int), Int.toNat ((i:Int) + (1:Int)) ≤ nC + nD, nC + nD - ((i:Int) + (1:Int)).toNat < nC + nD - i])))) (.done [sumI (fun k => if k < nC then C k else D (k - nC)) i = sumI C nC + sumI D nD]))) (by kernel_rfl) ?_
  simp only [VT.holds, AllT, Sq]
  have hsum : sumN (fun i => if i = 0 then nC else nD) 2 = nC + nD := by simp [sumN]
  have hcat : catF (fun i => if i = 0 then nC else nD) (fun i k => if i = 0 then C k else D k) 2 = fun k => if k < nC then C k else D (k - nC) := by
    funext k
    simp [catF, sumN]
  have hc := concat_c 2 (fun i => if i = 0 then nC else nD) (fun i k => if i = 0 then C k else D k) (by omega) (fun i _ => by split <;> omega)
  rw [hsum, hcat] at hc ⊢
  have hf : ∀ k, k < nC + nD → 1 ≤ (fun k => if k < nC then C k else D (k - nC)) k ∧ (fun k => if k < nC then C k else D (k - nC)) k ≤ 10000 := fun k hk => by
    dsimp only
    split
    · exact hC k ‹_›
    · exact hD _ (by omega)
  refine ⟨⟨Nat.le_refl _, hc⟩, ⟨rfl, rfl⟩, Nat.zero_le _, fun i hi => ⟨fun hlt => ?_, fun hge => ?_⟩⟩
  · have h3 := sumI_bd hf i hi
    have h4 := hf i (by omega)
    have h5 : i ≤ 2000000 := by omega
    have h6 : sumI (fun k => if k < nC then C k else D (k - nC)) (i + 1) = sumI (fun k => if k < nC then C k else D (k - nC)) i + (fun k => if k < nC then C k else D (k - nC)) i := rfl
    generalize sumI (fun k => if k < nC then C k else D (k - nC)) i = X at *
    exact ⟨⟨by omega, by omega⟩, (by unfold i64In; omega : i64In (X + (fun k => if k < nC then C k else D (k - nC)) i)), by unfold i64In; omega, rfl, h6.symm, by omega, by omega⟩
  · rw [show i = nC + nD by omega, sumI_add]
noncomputable def A84_closes_c (nB : Nat) (B : Nat → Int) (nO : Nat) (O : Nat → Int) (W G L len : Int) (nC : Nat) (C : Nat → Int) (nD : Nat) (D : Nat → Int) : Ann := { orc := [(1, [(2, rCk)]), (4, [(1, rSum)])], loops := [], cuts := [] }
theorem closes_c (nB : Nat) (B : Nat → Int) (nO : Nat) (O : Nat → Int) (W G L len : Int) (nC : Nat) (C : Nat → Int) (nD : Nat) (D : Nat → Int) (hs : sysE nB B nO O W G L = 0) (hc : nC ≤ 1000000) (hd : nD ≤ 1000000) : FnC prog 76 [sys nB B nO O W G L, dI len, clg nC C nD D] (dI (closesE nB B nO O nC C nD D len)) := by
  refine FnC_owed hmix (A84_closes_c nB B nO O W G L len nC C nD D) (V := .need [FnC prog 93 [.agg [.lst nB [fun i => (dI (B i))], .lst nO [fun i => (dI (O i))], (dI W), (dI G), (dI L)], .agg [.lst nC [fun i => (dI (C i))], .lst nD [fun i => (dI (D i))]]] ((dI (ckE nB B nO O nC C nD D)))] (.ite (ckE nB B nO O nC C nD D != (0:Int)) (.done [ckE nB B nO O nC C nD D = closesE nB B nO O nC C nD D len]) (.need [FnC prog 114 [.agg [.lst nC [fun i => (dI (C i))], .lst nD [fun i => (dI (D i))]]] ((dI (sumI C nC + sumI D nD)))] (.ite (sumI C nC + sumI D nD != len) (.done [(25:Int) = closesE nB B nO O nC C nD D len]) (.done [(0:Int) = closesE nB B nO O nC C nD D len]))))) (by kernel_rfl) ?_
  simp only [VT.holds, AllT, Sq]
  refine ⟨ck_c nB B nO O W G L nC C nD D hs hc hd, fun h => by rw [closesE, if_neg h], fun h => ?_⟩
  obtain ⟨bC, bD⟩ := ck_bd hs h
  exact ⟨sum_c nC C nD D hc hd bC bD, fun h2 => by rw [closesE, if_pos h, if_neg h2], fun h2 => by rw [closesE, if_pos h, if_pos h2]⟩
noncomputable def A31_short_c (nC : Nat) (C : Nat → Int) (nD : Nat) (D : Nat → Int) : Ann := { orc := [], loops := [], cuts := [] }
abbrev q_short_c_0 (nC : Nat) : Bool := decide ((nC:Int) ≤ (100:Int))
theorem short_c (nC : Nat) (C : Nat → Int) (nD : Nat) (D : Nat → Int)  : FnC prog 31 [clg nC C nD D] (dB (decide (nC ≤ 100 ∧ nD ≤ 100))) := by
  refine FnC_owed hmix (A31_short_c nC C nD D) (V := .need [(q_short_c_0 nC) = true → (q_short_c_0 nC) = true, (q_short_c_0 nC) = true → (q_short_c_0 nC) = true, (q_short_c_0 nC) = true → (q_short_c_0 nC) = true, (q_short_c_0 nC) = true → (q_short_c_0 nC) = true] (.done [(if (q_short_c_0 nC) = true then decide ((nD:Int) ≤ (100:Int)) else false) = decide (nC ≤ (100:Nat) ∧ nD ≤ (100:Nat))])) (by kernel_rfl) ?_
  simp only [q_short_c_0, VT.holds, AllT, Sq]
  rw [Bool.decide_and]
  congr 1 <;> simp <;> omega
noncomputable def A33_closing_c (nC : Nat) (C : Nat → Int) (nD : Nat) (D : Nat → Int) : Ann := { orc := [(1, [(2, .res fun l => nums (aN l) (aX l)), (5, .res fun l => nums (aN l) (aX l))])], loops := [], cuts := [] }
theorem closing_c (nC : Nat) (C : Nat → Int) (nD : Nat) (D : Nat → Int) (h1 : nC ≤ 1000000) (h2 : nD ≤ 1000000) : FnC prog 47 [clg nC C nD D] (clg nC C nD D) := by
  refine FnC_owed hmix (A33_closing_c nC C nD D) (V := .need [FnC prog 11 [.lst nC [fun i => (dI (C i))]] (.lst nC [fun i => (dI (C i))]), FnC prog 11 [.lst nD [fun i => (dI (D i))]] (.lst nD [fun i => (dI (D i))])] (.done [nC = nC, ∀ i < nC, C i = C i, nD = nD, ∀ i < nD, D i = D i])) (by kernel_rfl) ?_
  simp only [VT.holds, AllT, Sq]
  exact ⟨copy_c nC C h1, copy_c nD D h2⟩
noncomputable def A45_has_c (n : Nat) (A : Nat → Int) (v : Int) : Ann := { orc := [], loops := [(0, { ι := Nat, keep := [0, 1], boxes := [], ts := fun _ i => [(5, dI (i : Int))], inv := fun _ i => i ≤ n ∧ ∀ j, j < i → (A j == v) = false, mu := fun _ i => n - i, rd := fun _ σ => (iOf (σ.get 5)).toNat })], cuts := [] }
theorem has_c (n : Nat) (A : Nat → Int) (v : Int) (hn : n ≤ 1000000) : FnC prog 111 [nums n A, dI v] (dB (anyN (fun k => A k == v) n)) := by
  refine FnC_owed hmix (A45_has_c n A v) (V := .loop Nat (fun a => a ≤ n ∧ ∀ (j : Nat), j < a → (A j == v) = false) (0:Int).toNat [(0:Int) = (↑(0:Int).toNat : Int), n = n, ∀ i < n, A i = A i, v = v] fun i => .ite (decide ((i:Int) < (n:Int))) (.need [(0:Int) ≤ (i:Int) ∧ (i:Int) < (n:Int)] (.ite (A (i:Int).toNat == v) (.done [true = anyN (fun k => A k == v) n]) (.need [i64In ((i:Int) + (1:Int))] (.done [(i:Int) + (1:Int) = (↑((i:Int) + (1:Int)).toNat : Int), n = n, ∀ i < n, A i = A i, v = v, Int.toNat ((i:Int) + (1:Int)) ≤ n ∧ ∀ (j : Nat), j < ((i:Int) + (1:Int)).toNat → (A j == v) = false, n - ((i:Int) + (1:Int)).toNat < n - i])))) (.done [false = anyN (fun k => A k == v) n])) (by kernel_rfl) ?_
  simp only [VT.holds, AllT, Sq]
  refine ⟨rfl, ⟨Nat.zero_le _, fun j hj => absurd hj (Nat.not_lt_zero j)⟩, fun i ⟨hi, hb⟩ => ⟨fun hlt => ⟨⟨by omega, by omega⟩, fun h => ?_, fun h => ⟨by unfold i64In; omega, rfl, ⟨by omega, fun j hj => ?_⟩, by omega⟩⟩, fun hge => ?_⟩⟩
  · exact (anyN_true.2 ⟨i, by omega, by simpa using h⟩).symm
  · by_cases e : j = i
    · rw [e]; exact h
    · exact hb j (by omega)
  · exact (anyN_false.2 fun k hk => by simpa using hb k (by omega)).symm
noncomputable def A85_fallingR_c (n : Nat) (A : Nat → Int) : Ann := { orc := [], loops := [(0, { ι := Nat, keep := [0], boxes := [], ts := fun _ i => [(3, dI (i : Int))], inv := fun _ i => 1 ≤ i ∧ ∀ k, k < i → k < n → 0 < k → A k ≤ A (k - 1), mu := fun _ i => n - i, rd := fun _ σ => (iOf (σ.get 3)).toNat })], cuts := [] }
theorem fallingR_c (n : Nat) (A : Nat → Int) (hn : n ≤ 1000000) : FnC prog 112 [nums n A] (dB (fallR n A)) := by
  refine FnC_owed hmix (A85_fallingR_c n A) (V := .loop Nat (fun a => (1:Nat) ≤ a ∧ ∀ (k : Nat), k < a → k < n → (0:Nat) < k → A k ≤ A (k - (1:Nat))) (1:Int).toNat [(1:Int) = (↑(1:Int).toNat : Int), n = n, ∀ i < n, A i = A i] fun i => .ite (decide ((i:Int) < (n:Int))) (.need [(0:Int) ≤ (i:Int) ∧ (i:Int) < (n:Int), i64In ((i:Int) - (1:Int)), (0:Int) ≤ (i:Int) - (1:Int) ∧ (i:Int) - (1:Int) < (n:Int)] (.ite (decide (A (i:Int).toNat > A ((i:Int) - (1:Int)).toNat)) (.done [false = fallR n A]) (.need [i64In ((i:Int) + (1:Int))] (.done [(i:Int) + (1:Int) = (↑((i:Int) + (1:Int)).toNat : Int), n = n, ∀ i < n, A i = A i, (1:Nat) ≤ ((i:Int) + (1:Int)).toNat ∧ ∀ (k : Nat), k < ((i:Int) + (1:Int)).toNat → k < n → (0:Nat) < k → A k ≤ A (k - (1:Nat)), n - ((i:Int) + (1:Int)).toNat < n - i])))) (.done [true = fallR n A])) (by kernel_rfl) ?_
  simp only [VT.holds, AllT, Sq]
  refine ⟨rfl, ⟨Nat.le_refl _, fun k hk _ h0 => absurd hk (show ¬ k < 1 by omega)⟩, fun i ⟨hi, hb⟩ => ⟨fun hlt => ⟨⟨⟨by omega, by omega⟩, by unfold i64In; omega, by omega, by omega⟩, fun h => ?_, fun h => ⟨by unfold i64In; omega, rfl, ⟨by omega, fun k hk hn h0 => ?_⟩, by omega⟩⟩, fun hge => ?_⟩⟩
  · rw [fallR, eq_comm, decide_eq_false_iff_not]
    intro hx
    have := hx i (by omega) (by omega)
    rw [show i - 1 = ((i : Int) - 1).toNat by omega] at this
    omega
  · by_cases e : k = i
    · rw [show ((i : Int) - 1).toNat = i - 1 by omega] at h
      rw [e]; omega
    · exact hb k (by omega) hn h0
  · rw [fallR, eq_comm, decide_eq_true_eq]
    exact fun k hk h0 => hb k (by omega) hk h0
noncomputable def A36_ckR_c (nB : Nat) (B : Nat → Int) (nO : Nat) (O : Nat → Int) (W G L : Int) (nC : Nat) (C : Nat → Int) (nD : Nat) (D : Nat → Int) : Ann := { orc := [(6, [(7, rHas)]), (11, [(7, rHas)]), (13, [(2, rFall), (7, rFall)])], loops := [(0, { ι := Nat, keep := [2, 3], boxes := [2, 3], ts := fun _ i => [(5, dI (i : Int))], inv := fun _ i => i ≤ nC ∧ ∀ k, k < i → anyN (fun j => B j == C k) nB = true, mu := fun _ i => nC - i, rd := fun _ σ => (iOf (σ.get 5)).toNat }),
  (2, { ι := Nat, keep := [2, 3], boxes := [2, 3], ts := fun _ i => [(6, dI (i : Int))], inv := fun _ i => i ≤ nD ∧ ∀ k, k < i → anyN (fun j => O j == D k) nO = true, mu := fun _ i => nD - i, rd := fun _ σ => (iOf (σ.get 6)).toNat })], cuts := [] }
abbrev q_ckR_c_0 (nC : Nat) : Bool := decide ((nC:Int) > (4000:Int))
abbrev ckR_cr0 (nB : Nat) (B : Nat → Int) (nO : Nat) (O : Nat → Int) (W : Int) (G : Int) (L : Int) (nC : Nat) (C : Nat → Int) (nD : Nat) (D : Nat → Int) (r : List Prop) : List Prop := (nB = nB) :: (∀ i < nB, B i = B i) :: (nO = nO) :: (∀ i < nO, O i = O i) :: (W = W) :: (G = G) :: (L = L) :: (nC = nC) :: (∀ i < nC, C i = C i) :: (nD = nD) :: (∀ i < nD, D i = D i) :: r
theorem ckR_c (nB : Nat) (B : Nat → Int) (nO : Nat) (O : Nat → Int) (W G L : Int) (nC : Nat) (C : Nat → Int) (nD : Nat) (D : Nat → Int) (hb : nB ≤ 1000000) (ho : nO ≤ 1000000) (hc : nC ≤ 1000000) (hd : nD ≤ 1000000) : FnC prog 70 [sys nB B nO O W G L, clg nC C nD D] (dI (ckE nB B nO O nC C nD D)) := by
  refine FnC_owed hmix (A36_ckR_c nB B nO O W G L nC C nD D) (V := .need [(!(q_ckR_c_0 nC)) = true → (!(q_ckR_c_0 nC)) = true, (!(q_ckR_c_0 nC)) = true → (!(q_ckR_c_0 nC)) = true, (!(q_ckR_c_0 nC)) = true → (!(q_ckR_c_0 nC)) = true, (q_ckR_c_0 nC) = false → (!(q_ckR_c_0 nC)) = true] (.ite (if (q_ckR_c_0 nC) = true then true else decide ((nD:Int) > (4000:Int))) (.done [(8:Int) = ckE nB B nO O nC C nD D]) (.loop Nat (fun a => a ≤ nC ∧ ∀ (k : Nat), k < a → anyN (fun j => B j == C k) nB = true) (0:Int).toNat (((0:Int) = (↑(0:Int).toNat : Int)) :: (ckR_cr0 nB B nO O W G L nC C nD D [])) fun i => .ite (decide ((i:Int) < (nC:Int))) (.need [(0:Int) ≤ (i:Int) ∧ (i:Int) < (nC:Int), FnC prog 111 [.lst nB [fun i => (dI (B i))], (dI (C (i:Int).toNat))] ((dB (anyN (fun k => B k == C (i:Int).toNat) nB)))] (.ite (!anyN (fun k => B k == C (i:Int).toNat) nB) (.done [(6:Int) = ckE nB B nO O nC C nD D]) (.need [i64In ((i:Int) + (1:Int))] (.done (((i:Int) + (1:Int) = (↑((i:Int) + (1:Int)).toNat : Int)) :: (ckR_cr0 nB B nO O W G L nC C nD D [Int.toNat ((i:Int) + (1:Int)) ≤ nC ∧ ∀ (k : Nat), k < ((i:Int) + (1:Int)).toNat → anyN (fun j => B j == C k) nB = true, nC - ((i:Int) + (1:Int)).toNat < nC - i])))))) (.loop Nat (fun a => a ≤ nD ∧ ∀ (k : Nat), k < a → anyN (fun j => O j == D k) nO = true) (0:Int).toNat (((0:Int) = (↑(0:Int).toNat : Int)) :: (ckR_cr0 nB B nO O W G L nC C nD D [])) fun i => .ite (decide ((i:Int) < (nD:Int))) (.need [(0:Int) ≤ (i:Int) ∧ (i:Int) < (nD:Int), FnC prog 111 [.lst nO [fun i => (dI (O i))], (dI (D (i:Int).toNat))] ((dB (anyN (fun k => O k == D (i:Int).toNat) nO)))] (.ite (!anyN (fun k => O k == D (i:Int).toNat) nO) (.done [(6:Int) = ckE nB B nO O nC C nD D]) (.need [i64In ((i:Int) + (1:Int))] (.done (((i:Int) + (1:Int) = (↑((i:Int) + (1:Int)).toNat : Int)) :: (ckR_cr0 nB B nO O W G L nC C nD D [Int.toNat ((↑i :
     Int) + (1:Int)) ≤ nD ∧ ∀ (k : Nat), k < ((i:Int) + (1:Int)).toNat → anyN (fun j => O j == D k) nO = true, nD - ((i:Int) + (1:Int)).toNat < nD - i])))))) (.need [FnC prog 112 [.lst nC [fun i => (dI (C i))]] ((dB (fallR nC C))), (!!fallR nC C) = true → (!!fallR nC C) = true, (!!fallR nC C) = true → (!!fallR nC C) = true, (!!fallR nC C) = true → FnC prog 112 [.lst nD [fun i => (dI (D i))]] ((dB (fallR nD D))), (!!fallR nC C) = true → (!!fallR nC C) = true, (!fallR nC C) = false → (!!fallR nC C) = true] (.ite (if (!fallR nC C) = true then true else !fallR nD D) (.done [(10:Int) = ckE nB B nO O nC C nD D]) (.done [(0:Int) = ckE nB B nO O nC C nD D]))))))) (by kernel_rfl) ?_
  simp only [q_ckR_c_0, VT.holds, AllT, Sq]
  have bad : ∀ {n m : Nat} {A V : Nat → Int} {i : Nat}, i < n → anyN (fun k => V k == A i) m = false → others n A m V = true := fun hi h => anyN_true.2 ⟨_, hi, by rw [h]; rfl⟩
  have good : ∀ {n m : Nat} {A V : Nat → Int}, (∀ i, i < n → anyN (fun k => V k == A i) m = true) → others n A m V = false := fun h => anyN_false.2 fun k hk => by rw [h k hk]; rfl
  refine ⟨fun h => by rw [ckE, if_pos (by omega)], fun h => ⟨rfl, ⟨Nat.zero_le _, fun k hk => absurd hk (Nat.not_lt_zero k)⟩, fun i ⟨hi, hv⟩ => ⟨fun hlt => ⟨⟨⟨by omega, by omega⟩, has_c nB B _ hb⟩, fun h2 => ?_, fun h2 => ⟨by unfold i64In; omega, rfl, ⟨by omega, fun k hk => ?_⟩, by omega⟩⟩, fun hge => ⟨rfl, ⟨Nat.zero_le _, fun k hk => absurd hk (Nat.not_lt_zero k)⟩, fun j ⟨hj, hw⟩ => ⟨fun hlt => ⟨⟨⟨by omega, by omega⟩, has_c nO O _ ho⟩, fun h2 => ?_, fun h2 => ⟨by unfold i64In; omega, rfl, ⟨by omega, fun k hk => ?_⟩, by omega⟩⟩, fun hge2 => ?_⟩⟩⟩⟩⟩
  · rw [ckE, if_neg (by omega), if_pos (.inl (bad (by omega) h2))]
  · by_cases e : k = i
    · rw [e]; exact h2
    · exact hv k (by omega)
  · rw [ckE, if_neg (by omega), if_pos (.inr (bad (by omega) h2))]
  · by_cases e : k = j
    · rw [e]; exact h2
    · exact hw k (by omega)
  · have g1 : others nC C nB B = false := good fun k hk => hv k (by omega)
    have g2 : others nD D nO O = false := good fun k hk => hw k (by omega)
    have g3 : ¬ (others nC C nB B = true ∨ others nD D nO O = true) := by rw [g1, g2]; simp
    refine ⟨⟨fallingR_c nC C hc, fun _ => fallingR_c nD D hd⟩, fun h2 => ?_, fun h2 => ?_⟩
    · rw [ckE, if_neg (by omega), if_neg g3, if_pos h2]
    · rw [ckE, if_neg (by omega), if_neg g3, if_neg (fun hx => hx.elim (fun e => h2.1 e) fun e => by rw [h2.2] at e; cases e)]
noncomputable def A37_sumR_c (nC : Nat) (C : Nat → Int) (nD : Nat) (D : Nat → Int) : Ann := { orc := [], loops := [(0, { ι := Nat, keep := [1], boxes := [1], ts := fun _ i => [(4, dI (i : Int)), (3, dI (sumI C i))], inv := fun _ i => i ≤ nC, mu := fun _ i => nC - i, rd := fun _ σ => (iOf (σ.get 4)).toNat }),
  (2, { ι := Nat, keep := [1], boxes := [1], ts := fun _ i => [(5, dI (i : Int)), (3, dI (sumI C nC + sumI D i))], inv := fun _ i => i ≤ nD, mu := fun _ i => nD - i, rd := fun _ σ => (iOf (σ.get 5)).toNat })], cuts := [] }
theorem sumR_c (nC : Nat) (C : Nat → Int) (nD : Nat) (D : Nat → Int) (h1 : nC ≤ 1000000) (h2 : nD ≤ 1000000) (hC : ∀ k, k < nC → 1 ≤ C k ∧ C k ≤ 10000) (hD : ∀ k, k < nD → 1 ≤ D k ∧ D k ≤ 10000) : FnC prog 71 [clg nC C nD D] (dI (sumI C nC + sumI D nD)) := by
  refine FnC_owed hmix (A37_sumR_c nC C nD D) (V := .loop Nat (fun a => a ≤ nC) (0:Int).toNat [(0:Int) = (↑(0:Int).toNat : Int), (0:Int) = sumI C (0:Int).toNat, nC = nC, ∀ i < nC, C i = C i, nD = nD, ∀ i < nD, D i = D i] fun i => .ite (decide ((i:Int) < (nC:Int))) (.need [(0:Int) ≤ (i:Int) ∧ (i:Int) < (nC:Int), i64In (sumI C i + C (i:Int).toNat)] (.need [i64In ((i:Int) + (1:Int))] (.done [(i:Int) + (1:Int) = (↑((i:Int) + (1:Int)).toNat : Int), sumI C i + C (i:Int).toNat = sumI C ((i:Int) + (1:Int)).toNat, nC = nC, ∀ i < nC, C i = C i, nD = nD, ∀ i < nD, D i = D i, Int.toNat ((i:Int) + (1:Int)) ≤ nC, nC - ((i:Int) + (1:Int)).toNat < nC - i]))) (.loop Nat (fun a => a ≤ nD) (0:Int).toNat [(0:Int) = (↑(0:Int).toNat : Int), sumI C i = sumI C nC + sumI D (0:Int).toNat, nC = nC, ∀ i < nC, C i = C i, nD = nD, ∀ i < nD, D i = D i] fun i => .ite (decide ((i:Int) < (nD:Int))) (.need [(0:Int) ≤ (i:Int) ∧ (i:Int) < (nD:Int), i64In (sumI C nC + sumI D i + D (i:Int).toNat)] (.need [i64In ((i:Int) + (1:Int))] (.done [(i:Int) + (1:Int) = (↑((i:Int) + (1:Int)).toNat : Int), sumI C nC + sumI D i + D (i:Int).toNat = sumI C nC + sumI D ((i:Int) + (1:Int)).toNat, nC = nC, ∀ i < nC, C i = C i, nD = nD, ∀ i < nD, D i = D i, Int.toNat ((i:Int) + (1:Int)) ≤ nD, nD - ((i:Int) + (1:Int)).toNat < nD - i]))) (.done [sumI C nC + sumI D i = sumI C nC + sumI D nD]))) (by kernel_rfl) ?_
  simp only [VT.holds, AllT, Sq]
  have b1 := sumI_bd hC
  have b2 := sumI_bd hD
  refine ⟨⟨rfl, rfl⟩, Nat.zero_le _, fun i hi => ⟨fun hlt => ?_, fun hge => ⟨⟨rfl, by rw [show i = nC by omega, sumI, Int.add_zero]⟩, Nat.zero_le _, fun j hj => ⟨fun hlt => ?_, fun hge => by rw [show j = nD by omega]⟩⟩⟩⟩
  · have h3 := b1 i hi
    have h4 := hC i (by omega)
    exact ⟨⟨⟨by omega, by omega⟩, by unfold i64In; omega⟩, by unfold i64In; omega, rfl, rfl, by omega, by omega⟩
  · have h3 := b2 j hj
    have h4 := hD j (by omega)
    have h5 := b1 nC (Nat.le_refl _)
    exact ⟨⟨⟨by omega, by omega⟩, by unfold i64In; omega⟩, by unfold i64In; omega, rfl, by rw [sumI, Int.add_assoc], by omega, by omega⟩
noncomputable def A38_costR_c (nB : Nat) (B : Nat → Int) (nO : Nat) (O : Nat → Int) (W G L : Int) (nC : Nat) (C : Nat → Int) (nD : Nat) (D : Nat → Int) : Ann := { orc := [], loops := [(0, { ι := Nat, keep := [2, 3, 4, 5], boxes := [2, 3, 4], ts := fun _ i => [(6, dI (i : Int))], bx := fun _ i => [(5, [dI ((nD : Int) + cntN C (B (nB - 1)) i), dI (nC : Int)])], inv := fun _ i => i ≤ nC, mu := fun _ i => nC - i, rd := fun _ σ => (iOf (σ.get 6)).toNat })], cuts := [] }
abbrev costR_cr0 (nB : Nat) (B : Nat → Int) (nO : Nat) (O : Nat → Int) (W : Int) (G : Int) (L : Int) (nC : Nat) (C : Nat → Int) (nD : Nat) (D : Nat → Int) (r : List Prop) : List Prop := ((nC:Int) = (nC:Int)) :: (nB = nB) :: (∀ i < nB, B i = B i) :: (nO = nO) :: (∀ i < nO, O i = O i) :: (W = W) :: (G = G) :: (L = L) :: (nC = nC) :: (∀ i < nC, C i = C i) :: (nD = nD) :: (∀ i < nD, D i = D i) :: ((0:Int) = (0:Int)) :: ((0:Int) = (0:Int)) :: r
theorem costR_c (nB : Nat) (B : Nat → Int) (nO : Nat) (O : Nat → Int) (W G L : Int) (nC : Nat) (C : Nat → Int) (nD : Nat) (D : Nat → Int) (h1 : 1 ≤ nB) (h2 : nB ≤ 1000) (hc : nC ≤ 1000000) (hd : nD ≤ 1000000) : FnC prog 57 [sys nB B nO O W G L, clg nC C nD D] (dP ((nD : Int) + cntN C (B (nB - 1)) nC) nC) := by
  refine FnC_owed hmix (A38_costR_c nB B nO O W G L nC C nD D) (V := .loop Nat (fun a => a ≤ nC) (0:Int).toNat (((0:Int) = (↑(0:Int).toNat : Int)) :: (((nD:Int) = (nD:Int) + cntN C (B (nB - (1:Nat))) (0:Int).toNat) :: (costR_cr0 nB B nO O W G L nC C nD D []))) fun i => .ite (decide ((i:Int) < (nC:Int))) (.need [(0:Int) ≤ (i:Int) ∧ (i:Int) < (nC:Int), i64In ((nB:Int) - (1:Int)), (0:Int) ≤ (nB:Int) - (1:Int) ∧ (nB:Int) - (1:Int) < (nB:Int)] (.ite (C (i:Int).toNat != B ((nB:Int) - (1:Int)).toNat) (.need [i64In ((nD:Int) + cntN C (B (nB - (1:Nat))) i + (1:Int))] (.need [i64In ((i:Int) + (1:Int))] (.done (((i:Int) + (1:Int) = (↑((i:Int) + (1:Int)).toNat : Int)) :: (((nD:Int) + cntN C (B (nB - (1:Nat))) i + (1:Int) = (nD:Int) + cntN C (B (nB - (1:Nat))) ((i:Int) + (1:Int)).toNat) :: (costR_cr0 nB B nO O W G L nC C nD D [Int.toNat ((i:Int) + (1:Int)) ≤ nC, nC - ((i:Int) + (1:Int)).toNat < nC - i])))))) (.need [i64In ((i:Int) + (1:Int))] (.done (((i:Int) + (1:Int) = (↑((i:Int) + (1:Int)).toNat : Int)) :: (((nD:Int) + cntN C (B (nB - (1:Nat))) i = (nD:Int) + cntN C (B (nB - (1:Nat))) ((i:Int) + (1:Int)).toNat) :: (costR_cr0 nB B nO O W G L nC C nD D [Int.toNat ((i:Int) + (1:Int)) ≤ nC, nC - ((i:Int) + (1:Int)).toNat < nC - i]))))))) (.done [(nD:Int) + cntN C (B (nB - (1:Nat))) i = (nD:Int) + cntN C (B (nB - (1:Nat))) nC, (nC:Int) = (nC:Int)])) (by kernel_rfl) ?_
  simp only [VT.holds, AllT, costR_cr0, Sq]
  have e : ((nB : Int) - 1).toNat = nB - 1 := by omega
  simp only [e]
  refine ⟨⟨rfl, by simp [cntN]⟩, Nat.zero_le _, fun i hi => ⟨fun hlt => ⟨⟨⟨by omega, by omega⟩, by unfold i64In; omega, by omega, by omega⟩, fun hne => ?_, fun he => ?_⟩, fun hge => by rw [show i = nC by omega]⟩⟩
  · have := cntN_bd C (B (nB - 1)) i
    exact ⟨by unfold i64In; omega, by unfold i64In; omega, rfl, by simp only [cntN]; rw [if_neg hne]; omega, by omega, by omega⟩
  · have := cntN_bd C (B (nB - 1)) i
    exact ⟨by unfold i64In; omega, rfl, by simp only [cntN]; rw [if_pos he]; omega, by omega, by omega⟩
noncomputable def A39_checkR_c (nB : Nat) (B : Nat → Int) (nO : Nat) (O : Nat → Int) (W G L len : Int) (nC : Nat) (C : Nat → Int) (nD : Nat) (D : Nat → Int) : Ann := { orc := [(1, [(2, rCk)]), (4, [(1, rSum)])], loops := [], cuts := [] }
theorem checkR_c (nB : Nat) (B : Nat → Int) (nO : Nat) (O : Nat → Int) (W G L len : Int) (nC : Nat) (C : Nat → Int) (nD : Nat) (D : Nat → Int) (hs : sysE nB B nO O W G L = 0) (hc : nC ≤ 1000000) (hd : nD ≤ 1000000) : FnC prog 37 [sys nB B nO O W G L, dI len, clg nC C nD D] (dI (closesE nB B nO O nC C nD D len)) := by
  refine FnC_owed hmix (A39_checkR_c nB B nO O W G L len nC C nD D) (V := .need [FnC prog 70 [.agg [.lst nB [fun i => (dI (B i))], .lst nO [fun i => (dI (O i))], (dI W), (dI G), (dI L)], .agg [.lst nC [fun i => (dI (C i))], .lst nD [fun i => (dI (D i))]]] ((dI (ckE nB B nO O nC C nD D)))] (.ite (ckE nB B nO O nC C nD D != (0:Int)) (.done [ckE nB B nO O nC C nD D = closesE nB B nO O nC C nD D len]) (.need [FnC prog 71 [.agg [.lst nC [fun i => (dI (C i))], .lst nD [fun i => (dI (D i))]]] ((dI (sumI C nC + sumI D nD)))] (.ite (sumI C nC + sumI D nD != len) (.done [(25:Int) = closesE nB B nO O nC C nD D len]) (.done [(0:Int) = closesE nB B nO O nC C nD D len]))))) (by kernel_rfl) ?_
  simp only [VT.holds, AllT, Sq]
  obtain ⟨s1, s2, s3, _⟩ := sys_ok hs
  refine ⟨ckR_c nB B nO O W G L nC C nD D (by omega) (by omega) hc hd, fun h => by rw [closesE, if_neg h], fun h => ?_⟩
  obtain ⟨bC, bD⟩ := ck_bd hs h
  exact ⟨sumR_c nC C nD D hc hd bC bD, fun h2 => by rw [closesE, if_pos h, if_neg h2], fun h2 => by rw [closesE, if_pos h, if_pos h2]⟩
end Go.Abs.Lay
end
