/- slices.Grow of the nil slice: a fresh row with room. Contracts. -/
import Derived.Test.YteennpofimiliaaGreatDoorL1
import Derived.Lib.Walk
import Derived.Lib.SliceRun
import Derived.Lib.AppendZerosOnto
import Derived.Test.YteennpofimiliaaGreatDoorL7
section
set_option linter.unusedVariables false
set_option linter.unusedSimpArgs false
set_option maxRecDepth 100000
namespace Go.Abs.Lay
open Go Go.RowKit Go.Lib
attribute [local go_sem] Oper.semAt_some
set_option maxHeartbeats 4000000 in
theorem grow_zero (w : World) : Calls prog 174 #[.slice none 0 0, .int .i64 0] w fun e w' => e = .returned (.slice none 0 0) ∧ w' = w := by
  have mixed := hmix
  go_enter Go.Proofs.Tryz.func174, Go.Proofs.Tryz.ntmps174
  go_wp2
  go_ret
  exact ⟨rfl, rfl⟩
set_option maxHeartbeats 4000000 in
theorem grow_pos (w : World) (n : Nat) (h0 : 0 < n) (hn : n ≤ 100000000) : Calls prog 174 #[.slice none 0 0, .int .i64 n] w fun e w' =>
    ∃ G, n ≤ G ∧ e = .returned (.slice (some ⟨w.heap.size, 0, none⟩) 0 G) ∧ w' = w.drew.alloc (.cells (Builtin.zeroCells #[.int .i64 0] n ++ Builtin.zeroCells #[.int .i64 0] (G - n)) 3) := by
  have mixed := hmix
  have h1 : ¬ ((n : Int) < 0) := by omega
  have h4 : (n : Int) > 0 := by omega
  have hrz : ∀ ty, (Builtin.append_ #[27, 3] ty #[.slice none 0 0, .int .i64 (n : Int)]).run prog w =
      .ok (.slice (some ⟨w.heap.size, 0, none⟩) n (grownCap w n 0 3)) (w.drew.alloc (.cells (Builtin.zeroCells #[.int .i64 0] n ++ Builtin.zeroCells #[.int .i64 0] (grownCap w n 0 3 - n)) 3)) := fun ty =>
    run_append_nil_zeros w 27 3 ty 3 _ (.int .i64 0) .i64 .i64 Go.Proofs.Tryz.underlying27 Go.Proofs.Tryz.underlying3 rfl (by kernel_rfl) n h0 (of_decide_eq_true (by kernel_rfl)) (by omega) (by
      have hb : (prog.types[3].bytes) = 8 := by kernel_rfl
      show n * prog.types[3].bytes ≤ _
      rw [hb]; omega)
  have hGn : n ≤ grownCap w n 0 3 := grownCap_ge w _ _ _
  obtain ⟨G, hG⟩ : ∃ G, G = grownCap w n 0 3 := ⟨_, rfl⟩
  have hG63 : G ≤ 9223372036854775807 := by
    have := grownCap_le_maxLen w n 0 3 (by unfold maxLen; omega)
    rw [← hG] at this
    unfold maxLen at this
    omega
  rw [← hG] at hrz hGn
  clear hG
  go_enter Go.Proofs.Tryz.func174, Go.Proofs.Tryz.ntmps174
  go_wp2_with (at_builtin; refine Lib.wpList_append_run _ rfl _ _ _ _ rfl _ _ rfl rfl _ _ (hrz _) ?_)
  all_goals (go_ret; exact ⟨G, hGn, rfl, rfl⟩)
theorem grow_c (n : Int) (h0 : 0 ≤ n) (hn : n ≤ 100000000) : FnR prog 174 [.val (.slice none 0 0), .val (.int .i64 n)] 0 [fun _ => .val (.int .i64 0)] := by
  refine ⟨⟨_, Go.Proofs.Tryz.func174, rfl, by kernel_rfl⟩, fun S w vs hs hv _ => ?_⟩
  obtain ⟨⟨l⟩, rfl⟩ : ∃ v : Array Value, vs = v := ⟨vs, rfl⟩
  match l, hs with
  | [u0, u1], _ =>
    have r0 := hv 0 _ _ rfl rfl
    have r1 := hv 1 _ _ rfl rfl
    cases r0; cases r1
    by_cases e : n = 0
    · subst e
      refine (grow_zero w).mono fun e w' ⟨he, hw⟩ => ⟨_, he, ?_, .inl ⟨rfl, rfl⟩⟩
      rw [hw]; exact Below.refl _ _
    · obtain ⟨k, rfl⟩ : ∃ k : Nat, n = k := ⟨n.toNat, by omega⟩
      refine (grow_pos w k (by omega) (by omega)).mono fun e w' ⟨G, hG, he, hw⟩ => ⟨_, he, ?_, .inr ⟨w.heap.size, G, (Builtin.zeroCells #[Value.int IntKind.i64 0] k ++ Builtin.zeroCells #[Value.int IntKind.i64 0] (G - k)), 3, rfl, Nat.le_refl _, by rw [hw]; exact heap_alloc_new w.drew _, ?_, Nat.zero_le _, fun i j f hi => absurd hi (Nat.not_lt_zero _)⟩⟩
      · rw [hw]
        exact ((Below.refl _ w).drew).alloc (Nat.le_refl _) _
      · simp only [Array.size_append, size_zeroCells, List.length_cons, List.length_nil]
        show k * 1 + (G - k) * 1 = _
        omega
end Go.Abs.Lay
end
section
set_option linter.unusedVariables false
set_option linter.unusedSimpArgs false
set_option maxRecDepth 100000
namespace Go.Abs.Lay
open Go
def sumN (N : Nat → Nat) : Nat → Nat
  | 0 => 0
  | i + 1 => sumN N i + N i
def catF (N : Nat → Nat) (A : Nat → Nat → Int) : Nat → Nat → Int
  | 0 => fun _ => 0
  | i + 1 => fun k => if k < sumN N i then catF N A i k else A i (k - sumN N i)
def sumI (f : Nat → Int) : Nat → Int
  | 0 => 0
  | k + 1 => sumI f k + f k
def rConcat : Orc := .res fun l => .lst (sumN (fun i => lenOf (colD 0 (arg l 0) i)) (lenOf (arg l 0))) [fun k => .val (.int .i64 (catF (fun i => lenOf (colD 0 (arg l 0) i)) (fun i k => colI 0 (colD 0 (arg l 0) i) k) (lenOf (arg l 0)) k))]
theorem sumN_le {N : Nat → Nat} {b : Nat} {m : Nat} (h : ∀ i, i < m → N i ≤ b) : ∀ i, i ≤ m → sumN N i ≤ i * b
  | 0, _ => Nat.zero_le _
  | i + 1, hi => by
    have := sumN_le h i (by omega)
    have := h i (by omega)
    rw [Nat.succ_mul]
    simp only [sumN]
    omega
theorem sumI_bd {f : Nat → Int} {n : Nat} (h : ∀ k, k < n → 1 ≤ f k ∧ f k ≤ 10000) : ∀ k, k ≤ n → 0 ≤ sumI f k ∧ sumI f k ≤ 10000 * k
  | 0, _ => ⟨Int.le_refl _, Int.le_refl _⟩
  | k + 1, hk => by
    have := sumI_bd h k (by omega)
    have := h k (by omega)
    simp only [sumI]
    omega
theorem sumI_congr {f g : Nat → Int} : ∀ {n : Nat}, (∀ k, k < n → f k = g k) → sumI f n = sumI g n
  | 0, _ => rfl
  | n + 1, h => by
    rw [sumI, sumI, sumI_congr fun k hk => h k (by omega), h n (by omega)]
theorem sumI_add (f g : Nat → Int) (n : Nat) : ∀ m, sumI (fun k => if k < n then f k else g (k - n)) (n + m) = sumI f n + sumI g m
  | 0 => by
    rw [Nat.add_zero, sumI, Int.add_zero]
    exact sumI_congr fun k hk => if_pos hk
  | m + 1 => by
    rw [← Nat.add_assoc, sumI, sumI_add f g n m, if_neg (by omega), Nat.add_sub_cancel_left, sumI, Int.add_assoc]
def rSum : Orc := .res fun l => dI (sumI (colI 0 (fD 0 (arg l 0))) (lenOf (fD 0 (arg l 0))) + sumI (colI 0 (fD 1 (arg l 0))) (lenOf (fD 1 (arg l 0))))
def closesE (nB : Nat) (B : Nat → Int) (nO : Nat) (O : Nat → Int) (nC : Nat) (C : Nat → Int) (nD : Nat) (D : Nat → Int) (len : Int) : Int :=
  if ckE nB B nO O nC C nD D = 0 then (if sumI C nC + sumI D nD = len then 0 else 25) else ckE nB B nO O nC C nD D
def rHas : Orc := .res fun l => dB (anyN (fun k => aX l k == aI l 1) (aN l))
theorem ck_bd {nB : Nat} {B : Nat → Int} {nO : Nat} {O : Nat → Int} {W G L : Int} {nC : Nat} {C : Nat → Int} {nD : Nat} {D : Nat → Int} (hs : sysE nB B nO O W G L = 0) (h : ckE nB B nO O nC C nD D = 0) :
    (∀ k, k < nC → 1 ≤ C k ∧ C k ≤ 10000) ∧ ∀ k, k < nD → 1 ≤ D k ∧ D k ≤ 10000 := by
  obtain ⟨_, _, _, sB, sO, _, _⟩ := sys_ok hs
  unfold ckE at h
  split at h
  · cases h
  · split at h
    · cases h
    · rename_i h2
      constructor
      · intro k hk
        obtain ⟨j, hj, e⟩ := others_bd (n := nC) (A := C) (m := nB) (O := B) (by cases hx : others nC C nB B with | true => exact absurd (.inl hx) h2 | false => rfl) hk
        rw [← e]; exact sB j hj
      · intro k hk
        obtain ⟨j, hj, e⟩ := others_bd (n := nD) (A := D) (m := nO) (O := O) (by cases hx : others nD D nO O with | true => exact absurd (.inr hx) h2 | false => rfl) hk
        rw [← e]; exact sO j hj
noncomputable def A111_concat_c (m : Nat) (N : Nat → Nat) (A : Nat → Nat → Int) : Ann := { orc := [(9, [(1, .row fun _ => (0, [fun _ => .val (.int .i64 0)]))])], loops := [(0, { ι := Nat, keep := [0, 9, 10], boxes := [], ts := fun _ i => [(11, dI (i : Int)), (3, dI (sumN N i))], inv := fun _ i => i ≤ m, mu := fun _ i => m - i, rd := fun _ σ => (iOf (σ.get 11)).toNat }),
  (2, { ι := Nat, keep := [25, 26], boxes := [], ts := fun _ i => [(27, dI (i : Int))], rw := fun _ i => [(6, 1, sumN N i, [fun k => .val (.int .i64 (catF N A i k))])], inv := fun _ i => i ≤ m, mu := fun _ i => m - i, rd := fun _ σ => (iOf (σ.get 27)).toNat })], cuts := [] }
namespace w3h
noncomputable section
structure Z where
  m : Nat
  N : Nat → Nat
  A : Nat → Nat → Int
variable (z : Z) (i0 : Nat) (p : Prop) (P : List Prop) (k : Nat) (U V : VT) (j9a : Nat → VT)
abbrev x0 := Lay.sumN z.N k
abbrev x1 := Int.toNat ((i0:Int) + 1)
abbrev x2 := Int.toNat 0
abbrev x3 := ∀ i0 < z.m, rf (z.N i0) ∧ (∀ i1 < (z.N i0), rf (z.A i0 i1))
abbrev x4 := (↑(x0 z i0) : Int) + (↑(z.N (Int.toNat (i0:Int))) : Int)
abbrev x5 := x0 z i0 + (z.N (Int.toNat (i0:Int)))
abbrev x6 := VT.need [i64In ((i0:Int) + 1)] (VT.done (((i0:Int) + 1 = (↑(x1 i0) : Int)) :: p :: P))
abbrev x7 := VT.loop Nat (fun i0 => i0 ≤ z.m) x2 ((0 = (x2:Int)) :: p :: P) j9a
abbrev x8 := x6 i0 (x4 z i0 = (↑(x0 z (x1 i0)) : Int)) [rf z.m, x3 z, rf z.m, x3 z, rf (z.m:Int), x1 i0 ≤ z.m, z.m - x1 i0 < z.m - i0]
abbrev x9 := VT.ite (decide ((i0:Int) < (z.m:Int))) (VT.need [0 ≤ (i0:Int) ∧ (i0:Int) < (z.m:Int)] U) V
abbrev xt : VT := x7 z (0 = (↑(x0 z x2) : Int)) [rf z.m, x3 z, rf z.m, x3 z, rf (z.m:Int)] (fun i0 => x9 z i0 (VT.need [i64In (x4 z i0)] (VT.ite (decide ((x4 z i0) < (0:Int))) (VT.need [False, False] (x8 z i0)) (x8 z i0))) (VT.need [FnR prog 174 [DV.val (Value.slice none 0 0), dI (↑(x0 z i0) : Int)] 0 [fun i0 => dI 0]] (x7 z (rf (0:Nat)) [0 = x0 z x2, rf z.m, x3 z, rf (z.m:Int), 0 = x0 z x2, ∀ i0 < x0 z x2, 0 = Lay.catF z.N z.A x2 i0] (fun i0 => x9 z i0 (VT.need [x0 z i0 ≤ x0 z i0, x5 z i0 * ((nat_lit 7) + 1) ≤ 140737488355328] (x6 i0 (rf (0:Nat)) [x5 z i0 = x0 z (x1 i0), rf z.m, x3 z, rf (z.m:Int), x5 z i0 = x0 z (x1 i0), ∀ i1 < x0 z (x1 i0), (if (decide (i1 < (x0 z i0))) = true then (Lay.catF z.N z.A i0 i1) else (z.A (Int.toNat (i0:Int)) (i1 - x0 z i0))) = Lay.catF z.N z.A (x1 i0) i1, x1 i0 ≤ z.m, z.m - x1 i0 < z.m - i0])) (VT.done [x0 z i0 ≤ x0 z i0, x0 z i0 = x0 z z.m, ∀ i1 < x0 z z.m, Lay.catF z.N z.A i0 i1 = Lay.catF z.N z.A z.m i1])))))
end
end w3h
open w3h in
theorem concat_c (m : Nat) (N : Nat → Nat) (A : Nat → Nat → Int) (hm : m ≤ 10) (hN : ∀ i, i < m → N i ≤ 1000000) : FnC prog 145 [lists m N A] (.lst (sumN N m) [fun k => .val (.int .i64 (catF N A m k))]) := by
  refine FnC_owed hmix (A111_concat_c m N A) (V := xt ⟨m, N, A⟩) (by kernel_rfl) ?_
  simp only [xt, x0, x1, x2, x3, x4, x5, x6, x7, x8, x9, Rf, VT.holds, AllT, Sq]
  have hs := fun i hi => sumN_le (m := m) hN i hi
  have hb : ∀ i, i ≤ m → sumN N i ≤ 10000000 := fun i hi => by
    have := hs i hi
    have : i * 1000000 ≤ 10 * 1000000 := Nat.mul_le_mul_right _ (by omega)
    omega
  refine ⟨⟨rfl, rfl⟩, Nat.zero_le _, fun i hi => ⟨fun hlt => ?_, fun hge => ⟨grow_c _ (by omega) (by have := hb i hi; omega), ⟨rfl, rfl, rfl, fun k hk => absurd hk (Nat.not_lt_zero k)⟩, Nat.zero_le _, fun i hi => ⟨fun hlt => ?_, fun hge => ?_⟩⟩⟩⟩
  · have h1 := hb i hi
    have h2 := hN i (by omega)
    exact ⟨⟨by omega, by omega⟩, by unfold i64In; omega, fun h => absurd h (by omega), fun _ => ⟨by unfold i64In; omega, rfl, by simp only [sumN]; omega, by omega, by omega⟩⟩
  · have h1 := hb i hi
    have h2 := hN i (by omega)
    exact ⟨⟨by omega, by omega⟩, ⟨Nat.le_refl _, by omega⟩, by unfold i64In; omega, rfl, rfl, rfl, fun k hk => rfl, by omega, by omega⟩
  · rw [show i = m by omega]
    exact ⟨Nat.le_refl _, rfl, fun _ _ => rfl⟩
noncomputable def A81_sum_c (nC : Nat) (C : Nat → Int) (nD : Nat) (D : Nat → Int) : Ann := { orc := [(2, [(5, rConcat)])], loops := [(0, { ι := Nat, keep := [11, 12], boxes := [], ts := fun _ i => [(13, dI (i : Int)), (3, dI (sumI (fun k => if k < nC then C k else D (k - nC)) i))], inv := fun _ i => i ≤ nC + nD, mu := fun _ i => nC + nD - i, rd := fun _ σ => (iOf (σ.get 13)).toNat })], cuts := [] }
namespace w3i
noncomputable section
structure Z where
  nC : Nat
  C : Nat → Int
  nD : Nat
  D : Nat → Int
variable (z : Z) (i0 i1 : Nat) (k : Nat)
abbrev x0 := if (decide (i0 = (0:Nat))) = true then z.nC else z.nD
abbrev x1 := Lay.sumN (fun i0 => x0 z i0) 2
abbrev x2 := if (decide (i0 = (0:Nat))) = true then (z.C i1) else (z.D i1)
abbrev x3 := Lay.catF (fun i0 => x0 z i0) (fun i0 => fun i1 => x2 z i0 i1) 2 k
abbrev x4 := Lay.sumI (fun i0 => if i0 < z.nC then (z.C i0) else (z.D (i0 - z.nC))) k
abbrev x5 := Int.toNat ((i0:Int) + 1)
abbrev x6 := x4 z i0 + x3 z (Int.toNat (i0:Int))
abbrev xt : VT := VT.need [(2:Nat) ≤ (2:Nat), FnC prog 145 [DV.lst 2 [fun i0 => DV.lst (x0 z i0) [fun i1 => dI (x2 z i0 i1)]]] (DV.lst (x1 z) [fun i0 => dI (x3 z i0)])] (VT.loop Nat (fun i0 => i0 ≤ z.nC + z.nD) (Int.toNat 0) [0 = (↑(Int.toNat 0) : Int), 0 = x4 z (Int.toNat 0), rf (x1 z), ∀ i0 < x1 z, rf (x3 z i0), rf (↑(x1 z) : Int)] (fun i0 => VT.ite (decide ((i0:Int) < (↑(x1 z) : Int))) (VT.need [0 ≤ (i0:Int) ∧ (i0:Int) < (↑(x1 z) : Int)] (VT.need [i64In (x6 z i0)] (VT.need [i64In ((i0:Int) + 1)] (VT.done [(i0:Int) + 1 = (↑(x5 i0) : Int), x6 z i0 = x4 z (x5 i0), rf (x1 z), ∀ i0 < x1 z, rf (x3 z i0), rf (↑(x1 z) : Int), x5 i0 ≤ z.nC + z.nD, z.nC + z.nD - x5 i0 < z.nC + z.nD - i0])))) (VT.done [x4 z i0 = Lay.sumI z.C z.nC + Lay.sumI z.D z.nD])))
end
end w3i
open w3i in
theorem sum_c (nC : Nat) (C : Nat → Int) (nD : Nat) (D : Nat → Int) (h1 : nC ≤ 1000000) (h2 : nD ≤ 1000000) (hC : ∀ k, k < nC → 1 ≤ C k ∧ C k ≤ 10000) (hD : ∀ k, k < nD → 1 ≤ D k ∧ D k ≤ 10000) : FnC prog 114 [clg nC C nD D] (dI (sumI C nC + sumI D nD)) := by
  refine FnC_owed hmix (A81_sum_c nC C nD D) (V := xt ⟨nC, C, nD, D⟩) (by kernel_rfl) ?_
  simp only [xt, x0, x1, x2, x3, x4, x5, x6, Rf, VT.holds, AllT, Sq]
  have hsum : sumN (fun i => if i = 0 then nC else nD) 2 = nC + nD := by simp [sumN]
  have hcat : catF (fun i => if i = 0 then nC else nD) (fun i k => if i = 0 then C k else D k) 2 = fun k => if k < nC then C k else D (k - nC) := by
    funext k
    simp [catF, sumN]
  have hc := concat_c 2 (fun i => if i = 0 then nC else nD) (fun i k => if i = 0 then C k else D k) (by omega) (fun i _ => by split <;> omega)
  rw [hsum, hcat] at hc ⊢
  have hf : ∀ k, k < nC + nD → 1 ≤ (fun k => if k < nC then C k else D (k - nC)) k ∧ (fun k => if k < nC then C k else D (k - nC)) k ≤ 10000 := fun k hk => by
    dsimp only
    split
    · exact hC k ‹_›
    · exact hD _ (by omega)
  refine ⟨⟨Nat.le_refl _, hc⟩, ⟨rfl, rfl⟩, Nat.zero_le _, fun i hi => ⟨fun hlt => ?_, fun hge => ?_⟩⟩
  · have h3 := sumI_bd hf i hi
    have h4 := hf i (by omega)
    have h5 : i ≤ 2000000 := by omega
    have h6 : sumI (fun k => if k < nC then C k else D (k - nC)) (i + 1) = sumI (fun k => if k < nC then C k else D (k - nC)) i + (fun k => if k < nC then C k else D (k - nC)) i := rfl
    generalize sumI (fun k => if k < nC then C k else D (k - nC)) i = X at *
    exact ⟨⟨by omega, by omega⟩, (by unfold i64In; omega : i64In (X + (fun k => if k < nC then C k else D (k - nC)) i)), by unfold i64In; omega, rfl, h6.symm, by omega, by omega⟩
  · rw [show i = nC + nD by omega, sumI_add]
noncomputable def A84_closes_c (nB : Nat) (B : Nat → Int) (nO : Nat) (O : Nat → Int) (W G L len : Int) (nC : Nat) (C : Nat → Int) (nD : Nat) (D : Nat → Int) : Ann := { orc := [(1, [(2, rCk)]), (4, [(1, rSum)])], loops := [], cuts := [] }
theorem closes_c (nB : Nat) (B : Nat → Int) (nO : Nat) (O : Nat → Int) (W G L len : Int) (nC : Nat) (C : Nat → Int) (nD : Nat) (D : Nat → Int) (hs : sysE nB B nO O W G L = 0) (hc : nC ≤ 1000000) (hd : nD ≤ 1000000) : FnC prog 76 [sys nB B nO O W G L, dI len, clg nC C nD D] (dI (closesE nB B nO O nC C nD D len)) := by
  refine FnC_owed hmix (A84_closes_c nB B nO O W G L len nC C nD D) (V := .need [FnC prog 93 [.agg [.lst nB [fun i => (dI (B i))], .lst nO [fun i => (dI (O i))], (dI W), (dI G), (dI L)], .agg [.lst nC [fun i => (dI (C i))], .lst nD [fun i => (dI (D i))]]] ((dI (ckE nB B nO O nC C nD D)))] (.ite (ckE nB B nO O nC C nD D != (0:Int)) (.done [ckE nB B nO O nC C nD D = closesE nB B nO O nC C nD D len]) (.need [FnC prog 114 [.agg [.lst nC [fun i => (dI (C i))], .lst nD [fun i => (dI (D i))]]] ((dI (sumI C nC + sumI D nD)))] (.ite (sumI C nC + sumI D nD != len) (.done [(25:Int) = closesE nB B nO O nC C nD D len]) (.done [(0:Int) = closesE nB B nO O nC C nD D len]))))) (by kernel_rfl) ?_
  simp only [VT.holds, AllT, Sq]
  refine ⟨ck_c nB B nO O W G L nC C nD D hs hc hd, fun h => by rw [closesE, if_neg h], fun h => ?_⟩
  obtain ⟨bC, bD⟩ := ck_bd hs h
  exact ⟨sum_c nC C nD D hc hd bC bD, fun h2 => by rw [closesE, if_pos h, if_neg h2], fun h2 => by rw [closesE, if_pos h, if_pos h2]⟩
noncomputable def A45_has_c (n : Nat) (A : Nat → Int) (v : Int) : Ann := { orc := [], loops := [(0, { ι := Nat, keep := [0, 1], boxes := [], ts := fun _ i => [(5, dI (i : Int))], inv := fun _ i => i ≤ n ∧ ∀ j, j < i → (A j == v) = false, mu := fun _ i => n - i, rd := fun _ σ => (iOf (σ.get 5)).toNat })], cuts := [] }
theorem has_c (n : Nat) (A : Nat → Int) (v : Int) (hn : n ≤ 1000000) : FnC prog 111 [nums n A, dI v] (dB (anyN (fun k => A k == v) n)) := by
  refine FnC_owed hmix (A45_has_c n A v) (V := .loop Nat (fun a => a ≤ n ∧ ∀ (j : Nat), j < a → (A j == v) = false) (0:Int).toNat [(0:Int) = (↑(0:Int).toNat : Int), n = n, ∀ i < n, A i = A i, v = v] fun i => .ite (decide ((i:Int) < (n:Int))) (.need [(0:Int) ≤ (i:Int) ∧ (i:Int) < (n:Int)] (.ite (A (i:Int).toNat == v) (.done [true = anyN (fun k => A k == v) n]) (.need [i64In ((i:Int) + (1:Int))] (.done [(i:Int) + (1:Int) = (↑((i:Int) + (1:Int)).toNat : Int), n = n, ∀ i < n, A i = A i, v = v, Int.toNat ((i:Int) + (1:Int)) ≤ n ∧ ∀ (j : Nat), j < ((i:Int) + (1:Int)).toNat → (A j == v) = false, n - ((i:Int) + (1:Int)).toNat < n - i])))) (.done [false = anyN (fun k => A k == v) n])) (by kernel_rfl) ?_
  simp only [VT.holds, AllT, Sq]
  refine ⟨rfl, ⟨Nat.zero_le _, fun j hj => absurd hj (Nat.not_lt_zero j)⟩, fun i ⟨hi, hb⟩ => ⟨fun hlt => ⟨⟨by omega, by omega⟩, fun h => ?_, fun h => ⟨by unfold i64In; omega, rfl, ⟨by omega, fun j hj => ?_⟩, by omega⟩⟩, fun hge => ?_⟩⟩
  · exact (anyN_true.2 ⟨i, by omega, by simpa using h⟩).symm
  · by_cases e : j = i
    · rw [e]; exact h
    · exact hb j (by omega)
  · exact (anyN_false.2 fun k hk => by simpa using hb k (by omega)).symm
noncomputable def A85_fallingR_c (n : Nat) (A : Nat → Int) : Ann := { orc := [], loops := [(0, { ι := Nat, keep := [0], boxes := [], ts := fun _ i => [(3, dI (i : Int))], inv := fun _ i => 1 ≤ i ∧ ∀ k, k < i → k < n → 0 < k → A k ≤ A (k - 1), mu := fun _ i => n - i, rd := fun _ σ => (iOf (σ.get 3)).toNat })], cuts := [] }
theorem fallingR_c (n : Nat) (A : Nat → Int) (hn : n ≤ 1000000) : FnC prog 112 [nums n A] (dB (fallR n A)) := by
  refine FnC_owed hmix (A85_fallingR_c n A) (V := .loop Nat (fun a => (1:Nat) ≤ a ∧ ∀ (k : Nat), k < a → k < n → (0:Nat) < k → A k ≤ A (k - (1:Nat))) (1:Int).toNat [(1:Int) = (↑(1:Int).toNat : Int), n = n, ∀ i < n, A i = A i] fun i => .ite (decide ((i:Int) < (n:Int))) (.need [(0:Int) ≤ (i:Int) ∧ (i:Int) < (n:Int), i64In ((i:Int) - (1:Int)), (0:Int) ≤ (i:Int) - (1:Int) ∧ (i:Int) - (1:Int) < (n:Int)] (.ite (decide (A (i:Int).toNat > A ((i:Int) - (1:Int)).toNat)) (.done [false = fallR n A]) (.need [i64In ((i:Int) + (1:Int))] (.done [(i:Int) + (1:Int) = (↑((i:Int) + (1:Int)).toNat : Int), n = n, ∀ i < n, A i = A i, (1:Nat) ≤ ((i:Int) + (1:Int)).toNat ∧ ∀ (k : Nat), k < ((i:Int) + (1:Int)).toNat → k < n → (0:Nat) < k → A k ≤ A (k - (1:Nat)), n - ((i:Int) + (1:Int)).toNat < n - i])))) (.done [true = fallR n A])) (by kernel_rfl) ?_
  simp only [VT.holds, AllT, Sq]
  refine ⟨rfl, ⟨Nat.le_refl _, fun k hk _ h0 => absurd hk (show ¬ k < 1 by omega)⟩, fun i ⟨hi, hb⟩ => ⟨fun hlt => ⟨⟨⟨by omega, by omega⟩, by unfold i64In; omega, by omega, by omega⟩, fun h => ?_, fun h => ⟨by unfold i64In; omega, rfl, ⟨by omega, fun k hk hn h0 => ?_⟩, by omega⟩⟩, fun hge => ?_⟩⟩
  · rw [fallR, eq_comm, decide_eq_false_iff_not]
    intro hx
    have := hx i (by omega) (by omega)
    rw [show i - 1 = ((i : Int) - 1).toNat by omega] at this
    omega
  · by_cases e : k = i
    · rw [show ((i : Int) - 1).toNat = i - 1 by omega] at h
      rw [e]; omega
    · exact hb k (by omega) hn h0
  · rw [fallR, eq_comm, decide_eq_true_eq]
    exact fun k hk h0 => hb k (by omega) hk h0
noncomputable def A36_ckR_c (nB : Nat) (B : Nat → Int) (nO : Nat) (O : Nat → Int) (W G L : Int) (nC : Nat) (C : Nat → Int) (nD : Nat) (D : Nat → Int) : Ann := { orc := [(6, [(7, rHas)]), (11, [(7, rHas)]), (13, [(2, rFall), (7, rFall)])], loops := [(0, { ι := Nat, keep := [2, 3], boxes := [2, 3], ts := fun _ i => [(5, dI (i : Int))], inv := fun _ i => i ≤ nC ∧ ∀ k, k < i → anyN (fun j => B j == C k) nB = true, mu := fun _ i => nC - i, rd := fun _ σ => (iOf (σ.get 5)).toNat }),
  (2, { ι := Nat, keep := [2, 3], boxes := [2, 3], ts := fun _ i => [(6, dI (i : Int))], inv := fun _ i => i ≤ nD ∧ ∀ k, k < i → anyN (fun j => O j == D k) nO = true, mu := fun _ i => nD - i, rd := fun _ σ => (iOf (σ.get 6)).toNat })], cuts := [] }
namespace w3m
noncomputable section
structure Z where
  nB : Nat
  B : Nat → Int
  nO : Nat
  O : Nat → Int
  W : Int
  G : Int
  L : Int
  nC : Nat
  C : Nat → Int
  nD : Nat
  D : Nat → Int
variable (z : Z) (i0 i1 : Nat) (p : Prop) (P : List Prop) (a : Int) (k l m : Nat) (g : Bool) (U : VT) (j8a : Nat → Int) (j9a : Nat → Prop) (j10a : Nat → VT) (j14a : Nat → DV)
abbrev x0 := i0 < k → rf (j8a i0)
abbrev x1 := Int.toNat ((i0:Int) + 1)
abbrev x2 := !(Lay.fallR z.nC z.C)
abbrev x3 := decide ((z.nC:Int) > (4000:Int))
abbrev x4 := VT.done [a = Lay.ckE z.nB z.B z.nO z.O z.nC z.C z.nD z.D]
abbrev x5 := VT.need P (VT.ite g (x4 z a) U)
abbrev x6 : List Prop := (a = (k:Int)) :: rf z.nB :: (∀ (i0 : Nat), x0 i0 z.nB z.B) :: rf z.nO :: (∀ (i0 : Nat), x0 i0 z.nO z.O) :: rf z.W :: rf z.G :: rf z.L :: rf z.nC :: (∀ (i0 : Nat), x0 i0 z.nC z.C) :: rf z.nD :: (∀ (i0 : Nat), x0 i0 z.nD z.D) :: P
abbrev x7 := ri ((!(x2 z)) = true)
abbrev x8 := ri ((!(x3 z)) = true)
abbrev x9 := Lay.anyN (fun i0 => (z.B i0) == (z.C i1)) z.nB
abbrev x10 := Lay.anyN (fun i0 => (z.O i0) == (z.D i1)) z.nO
abbrev x11 := Lay.anyN (fun i1 => (z.B i1) == (z.C (Int.toNat (i0:Int)))) z.nB
abbrev x12 := Lay.anyN (fun i1 => (z.O i1) == (z.D (Int.toNat (i0:Int)))) z.nO
abbrev x13 := FnC prog 112 [DV.lst k [j14a]] (dB (Lay.fallR l j8a))
abbrev x14 := FnC prog 111 [DV.lst k [j14a], dI (j8a (Int.toNat (i0:Int)))] (dB g)
abbrev x15 := VT.loop Nat j9a (Int.toNat 0) (x6 z [] (0:Int) (Int.toNat 0)) j10a
abbrev x16 := x5 z [0 ≤ (i0:Int) ∧ (i0:Int) < a, p] (6:Int) (!g) U
abbrev x17 := VT.need [i64In ((i0:Int) + 1)] (VT.done (x6 z [x1 i0 ≤ k ∧ p, l - x1 i0 < m - i0] ((i0:Int) + 1) (x1 i0)))
abbrev xt : VT := x5 z [x8 z, x8 z, x8 z, x3 z = false → (!(x3 z)) = true] (8:Int) (if (x3 z) = true then true else (decide ((z.nD:Int) > (4000:Int)))) (x15 z (fun i0 => i0 ≤ z.nC ∧ (∀ i1 < i0, x9 z i1 = true)) (fun i0 => VT.ite (decide ((i0:Int) < (z.nC:Int))) (x16 z i0 (x14 i0 z.nB (x11 z i0) z.C (fun i0 => dI (z.B i0))) (z.nC:Int) (x11 z i0) (x17 z i0 (∀ i1 < x1 i0, x9 z i1 = true) z.nC z.nC z.nC)) (x15 z (fun i0 => i0 ≤ z.nD ∧ (∀ i1 < i0, x10 z i1 = true)) (fun i0 => VT.ite (decide ((i0:Int) < (z.nD:Int))) (x16 z i0 (x14 i0 z.nO (x12 z i0) z.D (fun i0 => dI (z.O i0))) (z.nD:Int) (x12 z i0) (x17 z i0 (∀ i1 < x1 i0, x10 z i1 = true) z.nD z.nD z.nD)) (x5 z [x13 z.nC z.nC z.C (fun i0 => dI (z.C i0)), x7 z, x7 z, (!(x2 z)) = true → x13 z.nD z.nD z.D (fun i0 => dI (z.D i0)), x7 z, x2 z = false → (!(x2 z)) = true] (10:Int) (if (x2 z) = true then true else (!(Lay.fallR z.nD z.D))) (x4 z (0:Int)))))))
end
end w3m
open w3m in
theorem ckR_c (nB : Nat) (B : Nat → Int) (nO : Nat) (O : Nat → Int) (W G L : Int) (nC : Nat) (C : Nat → Int) (nD : Nat) (D : Nat → Int) (hb : nB ≤ 1000000) (ho : nO ≤ 1000000) (hc : nC ≤ 1000000) (hd : nD ≤ 1000000) : FnC prog 70 [sys nB B nO O W G L, clg nC C nD D] (dI (ckE nB B nO O nC C nD D)) := by
  refine FnC_owed hmix (A36_ckR_c nB B nO O W G L nC C nD D) (V := xt ⟨nB, B, nO, O, W, G, L, nC, C, nD, D⟩) (by kernel_rfl) ?_
  simp only [xt, x0, x1, x2, x3, x4, x5, x6, x7, x8, x9, x10, x11, x12, x13, x14, x15, x16, x17, Rf, VT.holds, AllT, Sq]
  have bad : ∀ {n m : Nat} {A V : Nat → Int} {i : Nat}, i < n → anyN (fun k => V k == A i) m = false → others n A m V = true := fun hi h => anyN_true.2 ⟨_, hi, by rw [h]; rfl⟩
  have good : ∀ {n m : Nat} {A V : Nat → Int}, (∀ i, i < n → anyN (fun k => V k == A i) m = true) → others n A m V = false := fun h => anyN_false.2 fun k hk => by rw [h k hk]; rfl
  refine ⟨fun h => by rw [ckE, if_pos (by omega)], fun h => ⟨rfl, ⟨Nat.zero_le _, fun k hk => absurd hk (Nat.not_lt_zero k)⟩, fun i ⟨hi, hv⟩ => ⟨fun hlt => ⟨⟨⟨by omega, by omega⟩, has_c nB B _ hb⟩, fun h2 => ?_, fun h2 => ⟨by unfold i64In; omega, rfl, ⟨by omega, fun k hk => ?_⟩, by omega⟩⟩, fun hge => ⟨rfl, ⟨Nat.zero_le _, fun k hk => absurd hk (Nat.not_lt_zero k)⟩, fun j ⟨hj, hw⟩ => ⟨fun hlt => ⟨⟨⟨by omega, by omega⟩, has_c nO O _ ho⟩, fun h2 => ?_, fun h2 => ⟨by unfold i64In; omega, rfl, ⟨by omega, fun k hk => ?_⟩, by omega⟩⟩, fun hge2 => ?_⟩⟩⟩⟩⟩
  · rw [ckE, if_neg (by omega), if_pos (.inl (bad (by omega) h2))]
  · by_cases e : k = i
    · rw [e]; exact h2
    · exact hv k (by omega)
  · rw [ckE, if_neg (by omega), if_pos (.inr (bad (by omega) h2))]
  · by_cases e : k = j
    · rw [e]; exact h2
    · exact hw k (by omega)
  · have g1 : others nC C nB B = false := good fun k hk => hv k (by omega)
    have g2 : others nD D nO O = false := good fun k hk => hw k (by omega)
    have g3 : ¬ (others nC C nB B = true ∨ others nD D nO O = true) := by rw [g1, g2]; simp
    refine ⟨⟨fallingR_c nC C hc, fun _ => fallingR_c nD D hd⟩, fun h2 => ?_, fun h2 => ?_⟩
    · rw [ckE, if_neg (by omega), if_neg g3, if_pos h2]
    · rw [ckE, if_neg (by omega), if_neg g3, if_neg (fun hx => hx.elim (fun e => h2.1 e) fun e => by rw [h2.2] at e; cases e)]
noncomputable def A37_sumR_c (nC : Nat) (C : Nat → Int) (nD : Nat) (D : Nat → Int) : Ann := { orc := [], loops := [(0, { ι := Nat, keep := [1], boxes := [1], ts := fun _ i => [(4, dI (i : Int)), (3, dI (sumI C i))], inv := fun _ i => i ≤ nC, mu := fun _ i => nC - i, rd := fun _ σ => (iOf (σ.get 4)).toNat }),
  (2, { ι := Nat, keep := [1], boxes := [1], ts := fun _ i => [(5, dI (i : Int)), (3, dI (sumI C nC + sumI D i))], inv := fun _ i => i ≤ nD, mu := fun _ i => nD - i, rd := fun _ σ => (iOf (σ.get 5)).toNat })], cuts := [] }
namespace w3n
noncomputable section
structure Z where
  nC : Nat
  C : Nat → Int
  nD : Nat
  D : Nat → Int
variable (z : Z) (i0 : Nat) (p : Prop) (P : List Prop) (a b : Int) (k l m : Nat) (U : VT) (j8a : Nat → Prop) (j9a : Nat → VT)
abbrev x0 := Int.toNat ((i0:Int) + 1)
abbrev x1 := Int.toNat 0
abbrev x2 := Lay.sumI z.C z.nC + Lay.sumI z.D k
abbrev x3 : List Prop := (a = (k:Int)) :: p :: rf z.nC :: (∀ i0 < z.nC, rf (z.C i0)) :: rf z.nD :: (∀ i0 < z.nD, rf (z.D i0)) :: P
abbrev x4 := x2 z i0 + (z.D (Int.toNat (i0:Int)))
abbrev x5 := Lay.sumI z.C i0 + (z.C (Int.toNat (i0:Int)))
abbrev x6 := VT.loop Nat j8a x1 (x3 z p [] (0:Int) x1) j9a
abbrev x7 := VT.need [0 ≤ (i0:Int) ∧ (i0:Int) < a, i64In b] U
abbrev x8 := VT.need [i64In ((i0:Int) + 1)] (VT.done (x3 z p [x0 i0 ≤ k, l - x0 i0 < m - i0] ((i0:Int) + 1) (x0 i0)))
abbrev xt : VT := x6 z (0 = Lay.sumI z.C x1) (fun i0 => i0 ≤ z.nC) (fun i0 => VT.ite (decide ((i0:Int) < (z.nC:Int))) (x7 i0 (z.nC:Int) (x5 z i0) (x8 z i0 (x5 z i0 = Lay.sumI z.C (x0 i0)) z.nC z.nC z.nC)) (x6 z (Lay.sumI z.C i0 = x2 z x1) (fun i0 => i0 ≤ z.nD) (fun i0 => VT.ite (decide ((i0:Int) < (z.nD:Int))) (x7 i0 (z.nD:Int) (x4 z i0) (x8 z i0 (x4 z i0 = x2 z (x0 i0)) z.nD z.nD z.nD)) (VT.done [x2 z i0 = x2 z z.nD]))))
end
end w3n
open w3n in
theorem sumR_c (nC : Nat) (C : Nat → Int) (nD : Nat) (D : Nat → Int) (h1 : nC ≤ 1000000) (h2 : nD ≤ 1000000) (hC : ∀ k, k < nC → 1 ≤ C k ∧ C k ≤ 10000) (hD : ∀ k, k < nD → 1 ≤ D k ∧ D k ≤ 10000) : FnC prog 71 [clg nC C nD D] (dI (sumI C nC + sumI D nD)) := by
  refine FnC_owed hmix (A37_sumR_c nC C nD D) (V := xt ⟨nC, C, nD, D⟩) (by kernel_rfl) ?_
  simp only [xt, x0, x1, x2, x3, x4, x5, x6, x7, x8, Rf, VT.holds, AllT, Sq]
  have b1 := sumI_bd hC
  have b2 := sumI_bd hD
  refine ⟨⟨rfl, rfl⟩, Nat.zero_le _, fun i hi => ⟨fun hlt => ?_, fun hge => ⟨⟨rfl, by rw [show i = nC by omega, sumI, Int.add_zero]⟩, Nat.zero_le _, fun j hj => ⟨fun hlt => ?_, fun hge => by rw [show j = nD by omega]⟩⟩⟩⟩
  · have h3 := b1 i hi
    have h4 := hC i (by omega)
    exact ⟨⟨⟨by omega, by omega⟩, by unfold i64In; omega⟩, by unfold i64In; omega, rfl, rfl, by omega, by omega⟩
  · have h3 := b2 j hj
    have h4 := hD j (by omega)
    have h5 := b1 nC (Nat.le_refl _)
    exact ⟨⟨⟨by omega, by omega⟩, by unfold i64In; omega⟩, by unfold i64In; omega, rfl, by rw [sumI, Int.add_assoc], by omega, by omega⟩
noncomputable def A38_costR_c (nB : Nat) (B : Nat → Int) (nO : Nat) (O : Nat → Int) (W G L : Int) (nC : Nat) (C : Nat → Int) (nD : Nat) (D : Nat → Int) : Ann := { orc := [], loops := [(0, { ι := Nat, keep := [2, 3, 4, 5], boxes := [2, 3, 4], ts := fun _ i => [(6, dI (i : Int))], bx := fun _ i => [(5, [dI ((nD : Int) + cntN C (B (nB - 1)) i), dI (nC : Int)])], inv := fun _ i => i ≤ nC, mu := fun _ i => nC - i, rd := fun _ σ => (iOf (σ.get 6)).toNat })], cuts := [] }
namespace w3o
noncomputable section
structure Z where
  nB : Nat
  B : Nat → Int
  nO : Nat
  O : Nat → Int
  W : Int
  G : Int
  L : Int
  nC : Nat
  C : Nat → Int
  nD : Nat
  D : Nat → Int
variable (z : Z) (i0 : Nat) (p : Prop) (P : List Prop) (k : Nat)
abbrev x0 := Int.toNat ((i0:Int) + 1)
abbrev x1 := (z.nD:Int) + Lay.cntN z.C (z.B (z.nB - 1)) k
abbrev x2 := (z.nB:Int) - 1
abbrev x3 : List Prop := p :: rf (z.nC:Int) :: rf z.nB :: (∀ i0 < z.nB, rf (z.B i0)) :: rf z.nO :: (∀ i0 < z.nO, rf (z.O i0)) :: rf z.W :: rf z.G :: rf z.L :: rf z.nC :: (∀ i0 < z.nC, rf (z.C i0)) :: rf z.nD :: (∀ i0 < z.nD, rf (z.D i0)) :: rf (0:Int) :: rf (0:Int) :: P
abbrev x4 := VT.need [i64In ((i0:Int) + 1)] (VT.done (((i0:Int) + 1 = (↑(x0 i0) : Int)) :: x3 z p [x0 i0 ≤ z.nC, z.nC - x0 i0 < z.nC - i0]))
abbrev xt : VT := VT.loop Nat (fun i0 => i0 ≤ z.nC) (Int.toNat 0) ((0 = (↑(Int.toNat 0) : Int)) :: x3 z ((z.nD:Int) = x1 z (Int.toNat 0)) []) (fun i0 => VT.ite (decide ((i0:Int) < (z.nC:Int))) (VT.need [0 ≤ (i0:Int) ∧ (i0:Int) < (z.nC:Int), i64In (x2 z), 0 ≤ x2 z ∧ x2 z < (z.nB:Int)] (VT.ite ((z.C (Int.toNat (i0:Int))) != (z.B (Int.toNat (x2 z)))) (VT.need [i64In (x1 z i0 + 1)] (x4 z i0 (x1 z i0 + 1 = x1 z (x0 i0)))) (x4 z i0 (x1 z i0 = x1 z (x0 i0))))) (VT.done [x1 z i0 = x1 z z.nC, rf (z.nC:Int)]))
end
end w3o
open w3o in
theorem costR_c (nB : Nat) (B : Nat → Int) (nO : Nat) (O : Nat → Int) (W G L : Int) (nC : Nat) (C : Nat → Int) (nD : Nat) (D : Nat → Int) (h1 : 1 ≤ nB) (h2 : nB ≤ 1000) (hc : nC ≤ 1000000) (hd : nD ≤ 1000000) : FnC prog 57 [sys nB B nO O W G L, clg nC C nD D] (dP ((nD : Int) + cntN C (B (nB - 1)) nC) nC) := by
  refine FnC_owed hmix (A38_costR_c nB B nO O W G L nC C nD D) (V := xt ⟨nB, B, nO, O, W, G, L, nC, C, nD, D⟩) (by kernel_rfl) ?_
  simp only [xt, x0, x1, x2, x3, x4, Rf, VT.holds, AllT, Sq]
  have e : ((nB : Int) - 1).toNat = nB - 1 := by omega
  simp only [e]
  refine ⟨⟨rfl, by simp [cntN]⟩, Nat.zero_le _, fun i hi => ⟨fun hlt => ⟨⟨⟨by omega, by omega⟩, by unfold i64In; omega, by omega, by omega⟩, fun hne => ?_, fun he => ?_⟩, fun hge => by rw [show i = nC by omega]⟩⟩
  · have := cntN_bd C (B (nB - 1)) i
    exact ⟨by unfold i64In; omega, by unfold i64In; omega, rfl, by simp only [cntN]; rw [if_neg hne]; omega, by omega, by omega⟩
  · have := cntN_bd C (B (nB - 1)) i
    exact ⟨by unfold i64In; omega, rfl, by simp only [cntN]; rw [if_pos he]; omega, by omega, by omega⟩
noncomputable def A39_checkR_c (nB : Nat) (B : Nat → Int) (nO : Nat) (O : Nat → Int) (W G L len : Int) (nC : Nat) (C : Nat → Int) (nD : Nat) (D : Nat → Int) : Ann := { orc := [(1, [(2, rCk)]), (4, [(1, rSum)])], loops := [], cuts := [] }
theorem checkR_c (nB : Nat) (B : Nat → Int) (nO : Nat) (O : Nat → Int) (W G L len : Int) (nC : Nat) (C : Nat → Int) (nD : Nat) (D : Nat → Int) (hs : sysE nB B nO O W G L = 0) (hc : nC ≤ 1000000) (hd : nD ≤ 1000000) : FnC prog 37 [sys nB B nO O W G L, dI len, clg nC C nD D] (dI (closesE nB B nO O nC C nD D len)) := by
  refine FnC_owed hmix (A39_checkR_c nB B nO O W G L len nC C nD D) (V := .need [FnC prog 70 [.agg [.lst nB [fun i => (dI (B i))], .lst nO [fun i => (dI (O i))], (dI W), (dI G), (dI L)], .agg [.lst nC [fun i => (dI (C i))], .lst nD [fun i => (dI (D i))]]] ((dI (ckE nB B nO O nC C nD D)))] (.ite (ckE nB B nO O nC C nD D != (0:Int)) (.done [ckE nB B nO O nC C nD D = closesE nB B nO O nC C nD D len]) (.need [FnC prog 71 [.agg [.lst nC [fun i => (dI (C i))], .lst nD [fun i => (dI (D i))]]] ((dI (sumI C nC + sumI D nD)))] (.ite (sumI C nC + sumI D nD != len) (.done [(25:Int) = closesE nB B nO O nC C nD D len]) (.done [(0:Int) = closesE nB B nO O nC C nD D len]))))) (by kernel_rfl) ?_
  simp only [VT.holds, AllT, Sq]
  obtain ⟨s1, s2, s3, _⟩ := sys_ok hs
  refine ⟨ckR_c nB B nO O W G L nC C nD D (by omega) (by omega) hc hd, fun h => by rw [closesE, if_neg h], fun h => ?_⟩
  obtain ⟨bC, bD⟩ := ck_bd hs h
  exact ⟨sumR_c nC C nD D hc hd bC bD, fun h2 => by rw [closesE, if_pos h, if_neg h2], fun h2 => by rw [closesE, if_pos h, if_pos h2]⟩
end Go.Abs.Lay
end
