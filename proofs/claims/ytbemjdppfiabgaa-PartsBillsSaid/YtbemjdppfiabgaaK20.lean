/- Contracts. -/
import Derived.Test.YtbemjdppfiabgaaK18
set_option linter.unusedVariables false
set_option linter.unusedSimpArgs false
set_option maxRecDepth 100000
namespace Go.Abs
open Go
/-- How often a number is among the first k. -/
def cntF (A : Nat → Int) : Nat → Nat → Int
  | 0, _ => 0
  | k + 1, x => cntF A k x + if A k = x then 1 else 0
def outP (c : Cat) (A : Nat → Int) (j : Nat) : Bool := decide (A j < 0) || decide (A j ≥ c.n)
def blE (c : Cat) (n : Nat) (A : Nat → Int) : Int := if ctE c ≠ 0 then ctE c else if anyN (outP c A) n = true then 6 else 0
def blN (c : Cat) (n : Nat) (A : Nat → Int) : Nat := if blE c n A = 0 then c.n else 0
def ms (c : Cat) (A : Nat → Int) : Nat → Int
  | 0 => 0
  | k + 1 => ms c A k + A k * c.M k
def big (A : Nat → Int) (j : Nat) : Bool := !inN (A j) 1000000
def maE (c : Cat) (n : Nat) (A : Nat → Int) : Int := if ctE c ≠ 0 then ctE c else if n ≠ c.n then 11 else if anyN (big A) n = true then 2 else 0
def maS (c : Cat) (n : Nat) (A : Nat → Int) : Int := if maE c n A ≠ 0 then 0 else ms c A n
/-- The masses of the parts of a list. -/
def smA (c : Cat) (A : Nat → Int) : Nat → Int
  | 0 => 0
  | k + 1 => smA c A k + c.M (A k).toNat
theorem cntF_bd (A : Nat → Int) (x : Nat) : ∀ k : Nat, 0 ≤ cntF A k x ∧ cntF A k x ≤ k
  | 0 => ⟨Int.le_refl _, Int.le_refl _⟩
  | k + 1 => by
    have := cntF_bd A x k
    rw [cntF]
    split <;> omega
theorem ct_pts {c : Cat} (h : ctE c = 0) : c.n ≤ 60 ∧ ∀ j, j < c.n → ptE c j = 0 := by
  rw [ctE] at h
  split at h
  · cases h
  · split at h
    · rename_i h1; exact absurd h h1
    · rename_i h1
      have h1 : firstE (ptE c) c.n = 0 := by
        cases e : decide (firstE (ptE c) c.n = 0) with
        | true => exact of_decide_eq_true e
        | false => exact absurd (of_decide_eq_false e) h1
      exact ⟨by omega, firstE_zero h1⟩
theorem ct_in {c : Cat} (h : ctE c = 0) {j : Nat} (hj : j < c.n) : (inN (c.K j) 9 && (inN (c.Q j) 20000000000000 && (inN (c.M j) 1000000 && (inN (c.T j) 1000000 && (inN (c.E0 j) 20 && inN (c.E1 j) 20))))) = true := by
  have := (ct_pts h).2 j hj
  rw [ptE] at this
  split at this
  · cases this
  · split at this
    · cases this
    · rw [ptC] at this
      split at this
      · cases this
      · rename_i h1
        cases e : (inN (c.K j) 9 && (inN (c.Q j) 20000000000000 && (inN (c.M j) 1000000 && (inN (c.T j) 1000000 && (inN (c.E0 j) 20 && inN (c.E1 j) 20))))) with
        | true => rfl
        | false => exact absurd e h1
theorem inN_bd {x m : Int} (h : inN x m = true) : 0 ≤ x ∧ x ≤ m := by
  rw [inN, Bool.and_eq_true, decide_eq_true_eq, decide_eq_true_eq] at h
  exact h
theorem ct_mass {c : Cat} (h : ctE c = 0) {j : Nat} (hj : j < c.n) : 0 ≤ c.M j ∧ c.M j ≤ 1000000 := by
  have := ct_in h hj
  rw [Bool.and_eq_true, Bool.and_eq_true, Bool.and_eq_true] at this
  exact inN_bd this.2.2.1
theorem mul_m {x y : Int} (hx : 0 ≤ x ∧ x ≤ 1000000) (hy : 0 ≤ y ∧ y ≤ 1000000) : 0 ≤ x * y ∧ x * y ≤ 1000000000000 := by
  refine ⟨Int.mul_nonneg hx.1 hy.1, ?_⟩
  calc x * y ≤ 1000000 * y := Int.mul_le_mul_of_nonneg_right hx.2 hy.1
    _ ≤ 1000000 * 1000000 := Int.mul_le_mul_of_nonneg_left hy.2 (by decide)
theorem ms_bd {c : Cat} (h : ctE c = 0) {A : Nat → Int} : ∀ {k : Nat}, k ≤ c.n → (∀ j, j < k → inN (A j) 1000000 = true) → 0 ≤ ms c A k ∧ ms c A k ≤ k * 1000000000000
  | 0, _, _ => ⟨Int.le_refl _, Int.le_refl _⟩
  | k + 1, hk, hA => by
    have h1 := ms_bd h (A := A) (k := k) (by omega) fun j hj => hA j (by omega)
    have h2 := mul_m (inN_bd (hA k (by omega))) (ct_mass h (j := k) (by omega))
    rw [ms]
    omega
theorem ma_ct {c : Cat} {n : Nat} {A : Nat → Int} (h : ctE c ≠ 0) : maE c n A = ctE c := by rw [maE, if_pos h]
theorem ma_len {c : Cat} {n : Nat} {A : Nat → Int} (h : ctE c = 0) (h2 : n ≠ c.n) : maE c n A = 11 := by rw [maE, if_neg (by rw [h]; decide), if_pos h2]
theorem ma_big {c : Cat} {n : Nat} {A : Nat → Int} (h : ctE c = 0) (h2 : n = c.n) {i : Nat} (hi : i < n) (h3 : inN (A i) 1000000 = false) : maE c n A = 2 := by
  rw [maE, if_neg (by rw [h]; decide), if_neg (fun h' => h' h2), if_pos (anyN_iff.2 ⟨i, hi, by rw [big, h3]; rfl⟩)]
theorem ma_ok {c : Cat} {n : Nat} {A : Nat → Int} (h : ctE c = 0) (h2 : n = c.n) (h3 : ∀ j, j < n → inN (A j) 1000000 = true) : maE c n A = 0 := by
  rw [maE, if_neg (by rw [h]; decide), if_neg (fun h' => h' h2), if_neg]
  rw [anyN_none fun j hj => by rw [big, h3 j hj]; rfl]
  decide
theorem ma_no {c : Cat} {n : Nat} {A : Nat → Int} {e : Int} (h : maE c n A = e) (h0 : e ≠ 0) : 0 = maS c n A := by rw [maS, if_pos (by rw [h]; exact h0)]
theorem ma_yes {c : Cat} {n : Nat} {A : Nat → Int} (h : maE c n A = 0) : ms c A n = maS c n A := by rw [maS, if_neg (by rw [h]; decide)]
theorem bl_bad {c : Cat} {n : Nat} {A : Nat → Int} (h : ctE c = 0) {i : Nat} (hi : i < n) (h2 : outP c A i = true) : blE c n A = 6 := by
  rw [blE, if_neg (by rw [h]; decide), if_pos (anyN_iff.2 ⟨i, hi, h2⟩)]
theorem bl_ok {c : Cat} {n : Nat} {A : Nat → Int} (h : ctE c = 0) (h2 : ∀ j, j < n → outP c A j = false) : blE c n A = 0 := by
  rw [blE, if_neg (by rw [h]; decide), anyN_none h2, if_neg (by decide)]
theorem bl_n {c : Cat} {n : Nat} {A : Nat → Int} {e : Int} (h : blE c n A = e) (h0 : e ≠ 0) : blN c n A = 0 := by rw [blN, if_neg (by rw [h]; exact h0)]
theorem bl_n0 {c : Cat} {n : Nat} {A : Nat → Int} (h : blE c n A = 0) : blN c n A = c.n := by rw [blN, if_pos h]
theorem cnt_step (A : Nat → Int) (k : Nat) {y : Nat} (h : A k = y) (x : Nat) : (if x = y then cntF A k y + 1 else cntF A k x) = cntF A (k + 1) x := by
  rw [cntF, h]
  by_cases e : x = y
  · rw [if_pos e, e, if_pos rfl]
  · rw [if_neg e, if_neg (fun h' => e (by omega)), Int.add_zero]
theorem out_no {c : Cat} {A : Nat → Int} {j : Nat} (h : outP c A j = false) : 0 ≤ A j ∧ A j < c.n := by
  rw [outP, Bool.or_eq_false_iff, decide_eq_false_iff_not, decide_eq_false_iff_not] at h
  omega
theorem out_not {c : Cat} {A : Nat → Int} {j : Nat} (h : 0 ≤ A j ∧ A j < c.n) : outP c A j = false := by
  rw [outP, Bool.or_eq_false_iff, decide_eq_false_iff_not, decide_eq_false_iff_not]
  omega
theorem out_yes {c : Cat} {A : Nat → Int} {j : Nat} (h : A j < 0 ∨ A j ≥ c.n) : outP c A j = true := by
  rw [outP, Bool.or_eq_true, decide_eq_true_eq, decide_eq_true_eq]
  exact h
theorem ms_add {c : Cat} {A B : Nat → Int} {y : Int} (h : ∀ x : Nat, B x = A x + if y = x then 1 else 0) (hy : 0 ≤ y) : ∀ N : Nat, ms c B N = ms c A N + if y < N then c.M y.toNat else 0
  | 0 => by rw [if_neg (by omega)]; rfl
  | N + 1 => by
    have ih := ms_add (c := c) h hy N
    rw [ms, ms, ih, h N]
    by_cases e : y = N
    · rw [if_pos e, if_neg (by omega), if_pos (by omega), Int.add_mul, Int.one_mul, show y.toNat = N by omega]
      omega
    · rw [if_neg e, Int.add_zero]
      by_cases g : y < N
      · rw [if_pos g, if_pos (by omega)]; omega
      · rw [if_neg g, if_neg (by omega)]; omega
theorem ms_zero {c : Cat} (A : Nat → Int) : ∀ N : Nat, ms c (cntF A 0) N = 0
  | 0 => rfl
  | N + 1 => by
    rw [ms, ms_zero A N]
    show 0 + 0 * c.M N = 0
    omega
theorem ms_sum {c : Cat} {A : Nat → Int} : ∀ {k : Nat}, (∀ j, j < k → outP c A j = false) → ms c (cntF A k) c.n = smA c A k
  | 0, _ => ms_zero A c.n
  | k + 1, h => by
    have hk := out_no (h k (Nat.lt_succ_self k))
    rw [ms_add (A := cntF A k) (B := cntF A (k + 1)) (y := A k) (fun x => rfl) hk.1, ms_sum (fun j hj => h j (by omega)), if_pos hk.2]
    rfl
theorem sm_bd {c : Cat} (h0 : ctE c = 0) {A : Nat → Int} : ∀ {k : Nat}, (∀ j, j < k → outP c A j = false) → 0 ≤ smA c A k ∧ smA c A k ≤ k * 1000000
  | 0, _ => ⟨Int.le_refl _, Int.le_refl _⟩
  | k + 1, h => by
    have h1 := sm_bd h0 (A := A) (k := k) fun j hj => h j (by omega)
    have hk := out_no (h k (Nat.lt_succ_self k))
    have h2 := ct_mass h0 (j := (A k).toNat) (by omega)
    rw [smA]
    omega
noncomputable def A45_copyInts_c (n : Nat) (A : Nat → Int) : Ann := { orc := [], loops := [], cuts := [] }
theorem copyInts_c (n : Nat) (A : Nat → Int) (hn : n ≤ 1000000) : FnC prog 45 [nums n A] (nums n A) := by
  refine FnC_owed hmix (A45_copyInts_c n A) (V := .need [(0 : Nat) ≤ (0 : Nat), ((0 : Nat) + n) * (nat_lit 7 + (1 : Nat)) ≤ (140737488355328 : Nat)] (.done [(0 : Nat) + n ≤ (0 : Nat) + n, (0 : Nat) + n = n, ∀ (i : Nat), i < n → (if decide (i < (0 : Nat)) = true then (0 : Int) else A (i - (0 : Nat))) = A i])) (by kernel_rfl) ?_
  simp only [VT.holds, AllT, imp_self, implies_true, and_true, true_and, toNat_succ, toNat_add2, toNat_zero', Int.toNat_natCast, Bool.if_true_left, Bool.if_false_right, Bool.decide_eq_true, Bool.or_eq_true, Bool.or_eq_false_iff, Bool.and_eq_true, Bool.and_eq_false_imp, Bool.not_eq_true', Bool.not_eq_false', Bool.not_not, bne_iff_ne, bne_eq_false_iff_eq, beq_iff_eq, beq_eq_false_iff_ne, decide_eq_true_eq, decide_eq_false_iff_not, ne_eq]
  exact ⟨⟨Nat.le_refl _, by omega⟩, Nat.le_refl _, Nat.zero_add _, fun i _ => by rw [if_neg (Nat.not_lt_zero i)]; rfl⟩
noncomputable def A44_Bill_c (c : Cat) (n : Nat) (A : Nat → Int) : Ann := { orc := [(1, [(1, .res fun q => dI (ctE c))])], loops := [(0, { ι := Nat, keep := [2, 19, 20], boxes := [2], ts := fun _ i => [(21, dI (i : Int))], rw := fun _ i => [(7, 1, c.n, [fun j => dI (cntF A i j)])], inv := fun _ i => i ≤ n ∧ ∀ j, j < i → outP c A j = false, mu := fun _ i => n - i, rd := fun _ σ => (iOf (σ.get 21)).toNat })], cuts := [] }
noncomputable abbrev q_Bill_c_0 (A : Nat → Int) (i : Nat) : Bool := decide (A (Int.toNat (↑i : Int)) < (0 : Int))
noncomputable abbrev Bill_cr0 (c : Cat) (r : List Prop) : List Prop := (c.n = c.n) :: (∀ (i : Nat), i < c.n → c.nm i = c.nm i) :: (∀ (i : Nat), i < c.n → c.K i = c.K i) :: (∀ (i : Nat), i < c.n → c.Q i = c.Q i) :: (∀ (i : Nat), i < c.n → c.M i = c.M i) :: (∀ (i : Nat), i < c.n → c.T i = c.T i) :: (∀ (i : Nat), i < c.n → c.E0 i = c.E0 i) :: (∀ (i : Nat), i < c.n → c.E1 i = c.E1 i) :: (c.m = c.m) :: (∀ (i : Nat), i < c.m → c.P0 i = c.P0 i) :: (∀ (i : Nat), i < c.m → c.P1 i = c.P1 i) :: r
theorem Bill_c (c : Cat) (n : Nat) (A : Nat → Int) (hn : n ≤ 1000000) : FnC prog 44 [catD c, nums n A] (.tup [.lst (blN c n A) [fun j => dI (cntF A n j)], dI (blE c n A)]) := by
  refine FnC_owed hmix (A44_Bill_c c n A) (V := .need [FnC prog (42 : Nat) [.agg [.lst c.n [fun i => .val (.string (c.nm i)), fun i => (dI (c.K i)), fun i => (dI (c.Q i)), fun i => (dI (c.M i)), fun i => (dI (c.T i)), fun i => (dI (c.E0 i)), fun i => (dI (c.E1 i))], .lst c.m [fun i => (dI (c.P0 i)), fun i => (dI (c.P1 i))]]] ((dI (ctE c)))] (.ite (ctE c != (0 : Int)) (.done [blN c n A = (0 : Nat), ctE c = blE c n A]) (.need [(0 : Int) ≤ (↑c.n : Int) ∧ (↑c.n : Int) = (↑c.n : Int) ∧ (↑c.n : Int) ≤ (140737488355328 : Int) ∧ prog.types[(3 : Nat)].4 * Int.toNat (↑c.n : Int) ≤ (281474976710656 : Nat)] (.loop Nat (fun a => a ≤ n ∧ ∀ (j : Nat), j < a → outP c A j = false) (Int.toNat (0 : Int)) (((0 : Int) = (↑(Int.toNat (0 : Int)) : Int)) :: (((0 : Nat) = (0 : Nat)) :: ((Int.toNat (↑c.n : Int) = c.n) :: ((n = n) :: ((∀ (i : Nat), i < n → A i = A i) :: (((↑n : Int) = (↑n : Int)) :: ((Int.toNat (↑c.n : Int) = c.n) :: ((∀ (i : Nat), i < c.n → (0 : Int) = cntF A (Int.toNat (0 : Int)) i) :: (Bill_cr0 c []))))))))) fun i => .ite (decide ((↑i : Int) < (↑n : Int))) (.need [(0 : Int) ≤ (↑i : Int) ∧ (↑i : Int) < (↑n : Int)] (.need [(!(q_Bill_c_0 A i)) = true → (!(q_Bill_c_0 A i)) = true, (!(q_Bill_c_0 A i)) = true → (!(q_Bill_c_0 A i)) = true, (!(q_Bill_c_0 A i)) = true → (!(q_Bill_c_0 A i)) = true, (!(q_Bill_c_0 A i)) = true → (!(q_Bill_c_0 A i)) = true, (q_Bill_c_0 A i) = false → (!(q_Bill_c_0 A i)) = true] (.ite (if (q_Bill_c_0 A i) = true then true else decide (A (Int.toNat (↑i : Int)) ≥ (↑c.n : Int))) (.done [blN c n A = (0 : Nat), (6 : Int) = blE c n A]) (.need [(0 : Int) ≤ A (Int.toNat (↑i : Int)) ∧ A (Int.toNat (↑i : Int)) < (↑c.n : Int), addN (0 : Nat) (Int.toNat (A (Int.toNat (↑i : Int)))) < c.n, i64In (cntF A i (addN (0 : Nat) (Int.toNat (A (Int.toNat (↑i : Int))))) + (1 : Int)), (0 : Int) ≤ A (Int.toNat (↑i : Int)) ∧ A (Int.toNat (↑i : Int)) < (↑c.n : Int), addN (0 : Nat) (Int.toNat (A (Int.toNat (↑i : Int)))) < c.n] (.need [i64In ((↑i : Int) + (1 : Int))] (.done (((↑i : Int) + (1 : Int) = (↑(Int.toNat ((↑i : Int) + (1
     : Int))) : Int)) :: (((0 : Nat) = (0 : Nat)) :: ((c.n = c.n) :: ((n = n) :: ((∀ (i : Nat), i < n → A i = A i) :: (((↑n : Int) = (↑n : Int)) :: ((c.n = c.n) :: ((∀ (i_1 : Nat), i_1 < c.n → (if decide (i_1 = addN (0 : Nat) (Int.toNat (A (Int.toNat (↑i : Int))))) = true then cntF A i (addN (0 : Nat) (Int.toNat (A (Int.toNat (↑i : Int))))) + (1 : Int) else cntF A i i_1) = cntF A (Int.toNat ((↑i : Int) + (1 : Int))) i_1) :: (Bill_cr0 c [Int.toNat ((↑i : Int) + (1 : Int)) ≤ n ∧ ∀ (j : Nat), j < Int.toNat ((↑i : Int) + (1 : Int)) → outP c A j = false, n - Int.toNat ((↑i : Int) + (1 : Int)) < n - i]))))))))))))))) (.done [c.n ≤ c.n, c.n = blN c n A, ∀ (i_1 : Nat), i_1 < blN c n A → cntF A i i_1 = cntF A n i_1, (0 : Int) = blE c n A]))))) (by kernel_rfl) ?_
  simp only [q_Bill_c_0, VT.holds, AllT, imp_self, implies_true, and_true, true_and, toNat_succ, toNat_add2, toNat_zero', Int.toNat_natCast, Bool.if_true_left, Bool.if_false_right, Bool.decide_eq_true, Bool.or_eq_true, Bool.or_eq_false_iff, Bool.and_eq_true, Bool.and_eq_false_imp, Bool.not_eq_true', Bool.not_eq_false', Bool.not_not, bne_iff_ne, bne_eq_false_iff_eq, beq_iff_eq, beq_eq_false_iff_ne, decide_eq_true_eq, decide_eq_false_iff_not, ne_eq]
  have e8 : prog.types[3].bytes = 8 := by kernel_rfl
  rw [e8]
  refine ⟨checkCat_c c, fun h => ⟨bl_n (e := ctE c) (by rw [blE, if_pos h]) h, by rw [blE, if_pos h]⟩, fun h0 => ?_⟩
  have hn60 := (ct_pts h0).1
  refine ⟨⟨by omega, by omega, by omega⟩, ⟨rfl, fun _ _ => rfl⟩, ⟨Nat.zero_le _, fun j hj => absurd hj (Nat.not_lt_zero j)⟩, fun i ⟨hi, hb⟩ => ⟨fun hlt => ?_, fun hge => ?_⟩⟩
  · have hlt : i < n := by omega
    refine ⟨by omega, fun h => ?_, fun h => ?_⟩
    · have e := bl_bad (n := n) h0 hlt (out_yes h)
      exact ⟨bl_n e (by decide), e.symm⟩
    · have hr : 0 ≤ A i ∧ A i < c.n := by omega
      have e0 : addN 0 (A i).toNat = (A i).toNat := (addN_eq 0 _).trans (Nat.zero_add _)
      have hc := cntF_bd A (A i).toNat i
      rw [e0]
      refine ⟨⟨hr, by omega, by unfold i64In; omega, hr, by omega⟩, by unfold i64In; omega, by omega, fun x _ => cnt_step A i (by omega) x, ⟨by omega, fun j hj => ?_⟩, by omega⟩
      rcases Nat.lt_or_ge j i with h9 | h9
      · exact hb j h9
      · obtain rfl : j = i := by omega
        exact out_not hr
  · obtain rfl : i = n := by omega
    have e := bl_ok h0 hb
    exact ⟨Nat.le_refl _, (bl_n0 e).symm, fun _ _ => rfl, e.symm⟩
noncomputable def A46_Mass_c (c : Cat) (n : Nat) (A : Nat → Int) : Ann := { orc := [(1, [(1, .res fun q => dI (ctE c))]), (10, [(1, rIn)])], loops := [(0, { ι := Nat, keep := [2, 21, 22], boxes := [2], ts := fun _ i => [(23, dI (i : Int)), (7, dI (ms c A i))], inv := fun _ i => i ≤ n ∧ ∀ j, j < i → inN (A j) 1000000 = true, mu := fun _ i => n - i, rd := fun _ σ => (iOf (σ.get 23)).toNat })], cuts := [] }
noncomputable abbrev Mass_cr0 (c : Cat) (n : Nat) (A : Nat → Int) (r : List Prop) : List Prop := (n = n) :: (∀ (i : Nat), i < n → A i = A i) :: ((↑n : Int) = (↑n : Int)) :: (c.n = c.n) :: (∀ (i : Nat), i < c.n → c.nm i = c.nm i) :: (∀ (i : Nat), i < c.n → c.K i = c.K i) :: (∀ (i : Nat), i < c.n → c.Q i = c.Q i) :: (∀ (i : Nat), i < c.n → c.M i = c.M i) :: (∀ (i : Nat), i < c.n → c.T i = c.T i) :: (∀ (i : Nat), i < c.n → c.E0 i = c.E0 i) :: (∀ (i : Nat), i < c.n → c.E1 i = c.E1 i) :: (c.m = c.m) :: (∀ (i : Nat), i < c.m → c.P0 i = c.P0 i) :: (∀ (i : Nat), i < c.m → c.P1 i = c.P1 i) :: r
theorem Mass_c (c : Cat) (n : Nat) (A : Nat → Int)  : FnC prog 46 [catD c, nums n A] (.tup [dI (maS c n A), dI (maE c n A)]) := by
  refine FnC_owed hmix (A46_Mass_c c n A) (V := .need [FnC prog (42 : Nat) [.agg [.lst c.n [fun i => .val (.string (c.nm i)), fun i => (dI (c.K i)), fun i => (dI (c.Q i)), fun i => (dI (c.M i)), fun i => (dI (c.T i)), fun i => (dI (c.E0 i)), fun i => (dI (c.E1 i))], .lst c.m [fun i => (dI (c.P0 i)), fun i => (dI (c.P1 i))]]] ((dI (ctE c)))] (.ite (ctE c != (0 : Int)) (.done [(0 : Int) = maS c n A, ctE c = maE c n A]) (.ite ((↑n : Int) != (↑c.n : Int)) (.done [(0 : Int) = maS c n A, (11 : Int) = maE c n A]) (.loop Nat (fun a => a ≤ n ∧ ∀ (j : Nat), j < a → inN (A j) (1000000 : Int) = true) (Int.toNat (0 : Int)) (((0 : Int) = (↑(Int.toNat (0 : Int)) : Int)) :: (((0 : Int) = ms c A (Int.toNat (0 : Int))) :: (Mass_cr0 c n A []))) fun i => .ite (decide ((↑i : Int) < (↑n : Int))) (.need [(0 : Int) ≤ (↑i : Int) ∧ (↑i : Int) < (↑n : Int)] (.need [FnC prog (106 : Nat) [(dI (A (Int.toNat (↑i : Int)))), (dI (1000000 : Int))] ((dB (inN (A (Int.toNat (↑i : Int))) (1000000 : Int))))] (.ite (!inN (A (Int.toNat (↑i : Int))) (1000000 : Int)) (.done [(0 : Int) = maS c n A, (2 : Int) = maE c n A]) (.need [(0 : Int) ≤ (↑i : Int) ∧ (↑i : Int) < (↑c.n : Int), i64In (A (Int.toNat (↑i : Int)) * c.M (Int.toNat (↑i : Int))), i64In (ms c A i + A (Int.toNat (↑i : Int)) * c.M (Int.toNat (↑i : Int)))] (.need [i64In ((↑i : Int) + (1 : Int))] (.done (((↑i : Int) + (1 : Int) = (↑(Int.toNat ((↑i : Int) + (1 : Int))) : Int)) :: ((ms c A i + A (Int.toNat (↑i : Int)) * c.M (Int.toNat (↑i : Int)) = ms c A (Int.toNat ((↑i : Int) + (1 : Int)))) :: (Mass_cr0 c n A [Int.toNat ((↑i : Int) + (1 : Int)) ≤ n ∧ ∀ (j : Nat), j < Int.toNat ((↑i : Int) + (1 : Int)) → inN (A j) (1000000 : Int) = true, n - Int.toNat ((↑i : Int) + (1 : Int)) < n - i]))))))))) (.done [ms c A i = maS c n A, (0 : Int) = maE c n A]))))) (by kernel_rfl) ?_
  simp only [VT.holds, AllT, Mass_cr0, imp_self, implies_true, and_true, true_and, toNat_succ, toNat_add2, toNat_zero', Int.toNat_natCast, Bool.if_true_left, Bool.if_false_right, Bool.decide_eq_true, Bool.or_eq_true, Bool.or_eq_false_iff, Bool.and_eq_true, Bool.and_eq_false_imp, Bool.not_eq_true', Bool.not_eq_false', Bool.not_not, bne_iff_ne, bne_eq_false_iff_eq, beq_iff_eq, beq_eq_false_iff_ne, decide_eq_true_eq, decide_eq_false_iff_not, ne_eq]
  refine ⟨checkCat_c c, fun h => ⟨ma_no (ma_ct h) h, (ma_ct h).symm⟩, fun h0 => ?_⟩
  refine ⟨fun h => ?_, fun h => ?_⟩
  · have e := ma_len (A := A) (n := n) h0 (by omega)
    exact ⟨ma_no e (by decide), e.symm⟩
  · have hnn : n = c.n := by omega
    have hn60 := (ct_pts h0).1
    refine ⟨⟨rfl, rfl⟩, ⟨Nat.zero_le _, fun j hj => absurd hj (Nat.not_lt_zero j)⟩, fun i ⟨hi, hb⟩ => ⟨fun hlt => ?_, fun hge => ?_⟩⟩
    · have hlt : i < n := by omega
      refine ⟨by omega, within_cc _ _, fun h' => ?_, fun h' => ?_⟩
      · have e := ma_big h0 hnn hlt h'
        exact ⟨ma_no e (by decide), e.symm⟩
      · have h1 := ms_bd h0 (A := A) (k := i) (by omega) hb
        have h2 := mul_m (inN_bd h') (ct_mass h0 (j := i) (by omega))
        refine ⟨⟨by omega, by unfold i64In; omega, by unfold i64In; omega⟩, by unfold i64In; omega, by omega, rfl, ⟨by omega, fun j hj => ?_⟩, by omega⟩
        rcases Nat.lt_or_ge j i with h9 | h9
        · exact hb j h9
        · obtain rfl : j = i := by omega
          exact h'
    · obtain rfl : i = n := by omega
      have e := ma_ok h0 hnn hb
      exact ⟨ma_yes e, e.symm⟩
noncomputable def A47_massR_c (c : Cat) (n : Nat) (A : Nat → Int) : Ann := { orc := [(7, [(4, rW3)])], loops := [(0, { ι := Nat, keep := [1, 2], boxes := [2], ts := fun _ i => [(7, dI (i : Int)), (6, dI (ms c A i))], inv := fun _ i => i ≤ n ∧ ∀ j, j < i → inN (A j) 1000000 = true, mu := fun _ i => n - i, rd := fun _ σ => (iOf (σ.get 7)).toNat })], cuts := [] }
noncomputable abbrev massR_cr0 (c : Cat) (n : Nat) (A : Nat → Int) (r : List Prop) : List Prop := (n = n) :: (∀ (i : Nat), i < n → A i = A i) :: (c.n = c.n) :: (∀ (i : Nat), i < c.n → c.nm i = c.nm i) :: (∀ (i : Nat), i < c.n → c.K i = c.K i) :: (∀ (i : Nat), i < c.n → c.Q i = c.Q i) :: (∀ (i : Nat), i < c.n → c.M i = c.M i) :: (∀ (i : Nat), i < c.n → c.T i = c.T i) :: (∀ (i : Nat), i < c.n → c.E0 i = c.E0 i) :: (∀ (i : Nat), i < c.n → c.E1 i = c.E1 i) :: (c.m = c.m) :: (∀ (i : Nat), i < c.m → c.P0 i = c.P0 i) :: (∀ (i : Nat), i < c.m → c.P1 i = c.P1 i) :: r
theorem massR_c (c : Cat) (n : Nat) (A : Nat → Int) (h0 : ctE c = 0) : FnC prog 47 [catD c, nums n A] (.tup [dI (maS c n A), dI (maE c n A)]) := by
  refine FnC_owed hmix (A47_massR_c c n A) (V := .ite ((↑n : Int) != (↑c.n : Int)) (.done [(0 : Int) = maS c n A, (11 : Int) = maE c n A]) (.loop Nat (fun a => a ≤ n ∧ ∀ (j : Nat), j < a → inN (A j) (1000000 : Int) = true) (Int.toNat (0 : Int)) (((0 : Int) = (↑(Int.toNat (0 : Int)) : Int)) :: (((0 : Int) = ms c A (Int.toNat (0 : Int))) :: (massR_cr0 c n A []))) fun i => .ite (decide ((↑i : Int) < (↑n : Int))) (.need [(0 : Int) ≤ (↑i : Int) ∧ (↑i : Int) < (↑n : Int), FnC prog (24 : Nat) [(dI (A (Int.toNat (↑i : Int)))), (dI (0 : Int)), (dI (1000000 : Int))] ((dB (inN (A (Int.toNat (↑i : Int))) (1000000 : Int))))] (.ite (!inN (A (Int.toNat (↑i : Int))) (1000000 : Int)) (.done [(0 : Int) = maS c n A, (2 : Int) = maE c n A]) (.need [(0 : Int) ≤ (↑i : Int) ∧ (↑i : Int) < (↑n : Int), (0 : Int) ≤ (↑i : Int) ∧ (↑i : Int) < (↑c.n : Int), i64In (A (Int.toNat (↑i : Int)) * c.M (Int.toNat (↑i : Int))), i64In (ms c A i + A (Int.toNat (↑i : Int)) * c.M (Int.toNat (↑i : Int)))] (.need [i64In ((↑i : Int) + (1 : Int))] (.done (((↑i : Int) + (1 : Int) = (↑(Int.toNat ((↑i : Int) + (1 : Int))) : Int)) :: ((ms c A i + A (Int.toNat (↑i : Int)) * c.M (Int.toNat (↑i : Int)) = ms c A (Int.toNat ((↑i : Int) + (1 : Int)))) :: (massR_cr0 c n A [Int.toNat ((↑i : Int) + (1 : Int)) ≤ n ∧ ∀ (j : Nat), j < Int.toNat ((↑i : Int) + (1 : Int)) → inN (A j) (1000000 : Int) = true, n - Int.toNat ((↑i : Int) + (1 : Int)) < n - i])))))))) (.done [ms c A i = maS c n A, (0 : Int) = maE c n A]))) (by kernel_rfl) ?_
  simp only [VT.holds, AllT, massR_cr0, imp_self, implies_true, and_true, true_and, toNat_succ, toNat_add2, toNat_zero', Int.toNat_natCast, Bool.if_true_left, Bool.if_false_right, Bool.decide_eq_true, Bool.or_eq_true, Bool.or_eq_false_iff, Bool.and_eq_true, Bool.and_eq_false_imp, Bool.not_eq_true', Bool.not_eq_false', Bool.not_not, bne_iff_ne, bne_eq_false_iff_eq, beq_iff_eq, beq_eq_false_iff_ne, decide_eq_true_eq, decide_eq_false_iff_not, ne_eq]
  refine ⟨fun h => ?_, fun h => ?_⟩
  · have e := ma_len (A := A) (n := n) h0 (by omega)
    exact ⟨ma_no e (by decide), e.symm⟩
  · have hnn : n = c.n := by omega
    have hn60 := (ct_pts h0).1
    refine ⟨⟨rfl, rfl⟩, ⟨Nat.zero_le _, fun j hj => absurd hj (Nat.not_lt_zero j)⟩, fun i ⟨hi, hb⟩ => ⟨fun hlt => ?_, fun hge => ?_⟩⟩
    · have hlt : i < n := by omega
      refine ⟨⟨by omega, within3_in _ _⟩, fun h' => ?_, fun h' => ?_⟩
      · have e := ma_big h0 hnn hlt h'
        exact ⟨ma_no e (by decide), e.symm⟩
      · have h1 := ms_bd h0 (A := A) (k := i) (by omega) hb
        have h2 := mul_m (inN_bd h') (ct_mass h0 (j := i) (by omega))
        refine ⟨⟨by omega, by omega, by unfold i64In; omega, by unfold i64In; omega⟩, by unfold i64In; omega, by omega, rfl, ⟨by omega, fun j hj => ?_⟩, by omega⟩
        rcases Nat.lt_or_ge j i with h9 | h9
        · exact hb j h9
        · obtain rfl : j = i := by omega
          exact h'
    · obtain rfl : i = n := by omega
      have e := ma_ok h0 hnn hb
      exact ⟨ma_yes e, e.symm⟩
noncomputable def A48_billR_c (c : Cat) (n : Nat) (A : Nat → Int) : Ann := { orc := [(5, [(8, rW3)])], loops := [(0, { ι := Nat, keep := [1, 2], boxes := [2], ts := fun _ i => [(7, dI (i : Int))], rw := fun _ i => [(6, 1, c.n, [fun j => dI (cntF A i j)])], inv := fun _ i => i ≤ n ∧ ∀ j, j < i → outP c A j = false, mu := fun _ i => n - i, rd := fun _ σ => (iOf (σ.get 7)).toNat })], cuts := [] }
noncomputable abbrev billR_cr0 (c : Cat) (r : List Prop) : List Prop := (c.n = c.n) :: (∀ (i : Nat), i < c.n → c.nm i = c.nm i) :: (∀ (i : Nat), i < c.n → c.K i = c.K i) :: (∀ (i : Nat), i < c.n → c.Q i = c.Q i) :: (∀ (i : Nat), i < c.n → c.M i = c.M i) :: (∀ (i : Nat), i < c.n → c.T i = c.T i) :: (∀ (i : Nat), i < c.n → c.E0 i = c.E0 i) :: (∀ (i : Nat), i < c.n → c.E1 i = c.E1 i) :: (c.m = c.m) :: (∀ (i : Nat), i < c.m → c.P0 i = c.P0 i) :: (∀ (i : Nat), i < c.m → c.P1 i = c.P1 i) :: r
theorem billR_c (c : Cat) (n : Nat) (A : Nat → Int) (h0 : ctE c = 0) (hn : n ≤ 1000000) : FnC prog 48 [catD c, nums n A] (.tup [.lst (blN c n A) [fun j => dI (cntF A n j)], dB (decide (blE c n A = 0))]) := by
  refine FnC_owed hmix (A48_billR_c c n A) (V := .need [(0 : Int) ≤ (↑c.n : Int) ∧ (↑c.n : Int) = (↑c.n : Int) ∧ (↑c.n : Int) ≤ (140737488355328 : Int) ∧ prog.types[(3 : Nat)].4 * Int.toNat (↑c.n : Int) ≤ (281474976710656 : Nat)] (.loop Nat (fun a => a ≤ n ∧ ∀ (j : Nat), j < a → outP c A j = false) (Int.toNat (0 : Int)) (((0 : Int) = (↑(Int.toNat (0 : Int)) : Int)) :: (((0 : Nat) = (0 : Nat)) :: ((Int.toNat (↑c.n : Int) = c.n) :: ((n = n) :: ((∀ (i : Nat), i < n → A i = A i) :: ((Int.toNat (↑c.n : Int) = c.n) :: ((∀ (i : Nat), i < c.n → (0 : Int) = cntF A (Int.toNat (0 : Int)) i) :: (billR_cr0 c [])))))))) fun i => .ite (decide ((↑i : Int) < (↑n : Int))) (.need [(0 : Int) ≤ (↑i : Int) ∧ (↑i : Int) < (↑n : Int), i64In ((↑c.n : Int) - (1 : Int)), FnC prog (24 : Nat) [(dI (A (Int.toNat (↑i : Int)))), (dI (0 : Int)), (dI ((↑c.n : Int) - (1 : Int)))] ((dB (inN (A (Int.toNat (↑i : Int))) ((↑c.n : Int) - (1 : Int)))))] (.ite (!inN (A (Int.toNat (↑i : Int))) ((↑c.n : Int) - (1 : Int))) (.done [blN c n A = (0 : Nat), false = decide (blE c n A = (0 : Int))]) (.need [(0 : Int) ≤ (↑i : Int) ∧ (↑i : Int) < (↑n : Int), (0 : Int) ≤ (↑i : Int) ∧ (↑i : Int) < (↑n : Int), (0 : Int) ≤ A (Int.toNat (↑i : Int)) ∧ A (Int.toNat (↑i : Int)) < (↑c.n : Int), addN (0 : Nat) (Int.toNat (A (Int.toNat (↑i : Int)))) < c.n, i64In (cntF A i (addN (0 : Nat) (Int.toNat (A (Int.toNat (↑i : Int))))) + (1 : Int)), (0 : Int) ≤ A (Int.toNat (↑i : Int)) ∧ A (Int.toNat (↑i : Int)) < (↑c.n : Int), addN (0 : Nat) (Int.toNat (A (Int.toNat (↑i : Int)))) < c.n] (.need [i64In ((↑i : Int) + (1 : Int))] (.done (((↑i : Int) + (1 : Int) = (↑(Int.toNat ((↑i : Int) + (1 : Int))) : Int)) :: (((0 : Nat) = (0 : Nat)) :: ((c.n = c.n) :: ((n = n) :: ((∀ (i : Nat), i < n → A i = A i) :: ((c.n = c.n) :: ((∀ (i_1 : Nat), i_1 < c.n → (if decide (i_1 = addN (0 : Nat) (Int.toNat (A (Int.toNat (↑i : Int))))) = true then cntF A i (addN (0 : Nat) (Int.toNat (A (Int.toNat (↑i : Int))))) + (1 : Int) else cntF A i i_1) = cntF A (Int.toNat ((↑i : Int) + (1 : Int))) i_1) :: (billR_cr0 c
     [Int.toNat ((↑i : Int) + (1 : Int)) ≤ n ∧ ∀ (j : Nat), j < Int.toNat ((↑i : Int) + (1 : Int)) → outP c A j = false, n - Int.toNat ((↑i : Int) + (1 : Int)) < n - i]))))))))))))) (.done [c.n ≤ c.n, c.n = blN c n A, ∀ (i_1 : Nat), i_1 < blN c n A → cntF A i i_1 = cntF A n i_1, true = decide (blE c n A = (0 : Int))]))) (by kernel_rfl) ?_
  simp only [VT.holds, AllT, billR_cr0, imp_self, implies_true, and_true, true_and, toNat_succ, toNat_add2, toNat_zero', Int.toNat_natCast, Bool.if_true_left, Bool.if_false_right, Bool.decide_eq_true, Bool.or_eq_true, Bool.or_eq_false_iff, Bool.and_eq_true, Bool.and_eq_false_imp, Bool.not_eq_true', Bool.not_eq_false', Bool.not_not, bne_iff_ne, bne_eq_false_iff_eq, beq_iff_eq, beq_eq_false_iff_ne, decide_eq_true_eq, decide_eq_false_iff_not, ne_eq]
  have e8 : prog.types[3].bytes = 8 := by kernel_rfl
  rw [e8]
  have hn60 := (ct_pts h0).1
  refine ⟨⟨by omega, by omega, by omega⟩, ⟨rfl, fun _ _ => rfl⟩, ⟨Nat.zero_le _, fun j hj => absurd hj (Nat.not_lt_zero j)⟩, fun i ⟨hi, hb⟩ => ⟨fun hlt => ?_, fun hge => ?_⟩⟩
  · have hlt : i < n := by omega
    refine ⟨⟨by omega, by unfold i64In; omega, within3_in _ _⟩, fun h => ?_, fun h => ?_⟩
    · have hr : A i < 0 ∨ A i ≥ c.n := by
        rw [inN, Bool.and_eq_false_iff, decide_eq_false_iff_not, decide_eq_false_iff_not] at h
        omega
      have e := bl_bad (n := n) h0 hlt (out_yes hr)
      exact ⟨bl_n e (by decide), by rw [e]; rfl⟩
    · have hr : 0 ≤ A i ∧ A i < c.n := by have := inN_bd h; omega
      have e0 : addN 0 (A i).toNat = (A i).toNat := (addN_eq 0 _).trans (Nat.zero_add _)
      have hc := cntF_bd A (A i).toNat i
      rw [e0]
      refine ⟨⟨by omega, by omega, hr, by omega, by unfold i64In; omega, hr, by omega⟩, by unfold i64In; omega, by omega, fun x _ => cnt_step A i (by omega) x, ⟨by omega, fun j hj => ?_⟩, by omega⟩
      rcases Nat.lt_or_ge j i with h9 | h9
      · exact hb j h9
      · obtain rfl : j = i := by omega
        exact out_not hr
  · obtain rfl : i = n := by omega
    have e := bl_ok h0 hb
    exact ⟨Nat.le_refl _, (bl_n0 e).symm, fun _ _ => rfl, by rw [e]; rfl⟩
noncomputable def A9_bills_c (c : Cat) (n : Nat) (A : Nat → Int) (m : Nat) (B : Nat → Int) : Ann := { orc := [(1, [(0, .res fun _ => dB true)]), (3, [(1, .res fun _ => dB (decide (c.n ≤ 70 ∧ c.m ≤ 210)))]), (5, [(2, .res fun _ => nums n A), (3, .res fun _ => .tup [.lst (blN c n A) [fun j => dI (cntF A n j)], dI (blE c n A)])]), (6, [(2, .res fun _ => nums m B), (3, .res fun _ => .tup [dI (maS c m B), dI (maE c m B)])]), (7, [(1, .res fun _ => dI (ctE c))]), (10, [(2, .res fun _ => .tup [dI (maS c m B), dI (maE c m B)])]), (13, [(2, .res fun _ => .tup [.lst (blN c n A) [fun j => dI (cntF A n j)], dB (decide (blE c n A = 0))])]), (21, [(2, .res fun _ => .tup [dI (maS c (blN c n A) (fun j => cntF A n j)), dI (maE c (blN c n A) (fun j => cntF A n j))])]), (22, [(5, .res fun _ => dB (sameN (blN c n A) (fun j => cntF A n j) (blN c n A) (fun j => cntF A n j)))])], loops := [(0, { ι := Nat, keep := [1, 2, 3, 7, 8, 14], boxes := [3], ts := fun _ i => [(17, dI (i : Int)), (16, dI (smA c A i))], inv := fun _ i => i ≤ n, mu := fun _ i => n - i, rd := fun _ σ => (iOf (σ.get 17)).toNat })], cuts := [] }
noncomputable abbrev q_bills_c_0 (c : Cat) : Bool := decide (c.n ≤ (70 : Nat) ∧ c.m ≤ (210 : Nat))
noncomputable abbrev q_bills_c_1 (c : Cat) (n : Nat) (A : Nat → Int) (m : Nat) (B : Nat → Int) : Bool := if (blE c n A == ctE c) = true then maE c m B == ctE c else false
noncomputable abbrev q_bills_c_2 (c : Cat) (n : Nat) : Bool := !if (!(q_bills_c_0 c)) = true then true else decide ((↑n : Int) > (200 : Int))
noncomputable abbrev q_bills_c_3 (c : Cat) (n : Nat) (A : Nat → Int) (m : Nat) (B : Nat → Int) : Bool := if (q_bills_c_1 c n A m B) = true then (↑(blN c n A) : Int) == (0 : Int) else false
noncomputable abbrev q_bills_c_4 (c : Cat) (n : Nat) (A : Nat → Int) : Bool := if (blE c n A == (0 : Int)) = true then sameN (blN c n A) (cntF A n) (blN c n A) (cntF A n) else false
noncomputable abbrev q_bills_c_5 (c : Cat) (n : Nat) (A : Nat → Int) : Bool := if (q_bills_c_4 c n A) = true then maE c (blN c n A) (cntF A n) == (0 : Int) else false
noncomputable abbrev bills_cd0 (c : Cat) : DV := .agg [.lst c.n [fun i => .val (.string (c.nm i)), fun i => (dI (c.K i)), fun i => (dI (c.Q i)), fun i => (dI (c.M i)), fun i => (dI (c.T i)), fun i => (dI (c.E0 i)), fun i => (dI (c.E1 i))], .lst c.m [fun i => (dI (c.P0 i)), fun i => (dI (c.P1 i))]]
noncomputable abbrev bills_cr0 (c : Cat) (n : Nat) (A : Nat → Int) (m : Nat) (B : Nat → Int) (r : List Prop) : List Prop := (n = n) :: (∀ (i : Nat), i < n → A i = A i) :: (m = m) :: (∀ (i : Nat), i < m → B i = B i) :: (blN c n A = blN c n A) :: (∀ (i : Nat), i < blN c n A → cntF A n i = cntF A n i) :: (blE c n A = blE c n A) :: (blN c n A = blN c n A) :: (∀ (i : Nat), i < blN c n A → cntF A n i = cntF A n i) :: (c.n = c.n) :: (∀ (i : Nat), i < c.n → c.nm i = c.nm i) :: (∀ (i : Nat), i < c.n → c.K i = c.K i) :: (∀ (i : Nat), i < c.n → c.Q i = c.Q i) :: (∀ (i : Nat), i < c.n → c.M i = c.M i) :: (∀ (i : Nat), i < c.n → c.T i = c.T i) :: (∀ (i : Nat), i < c.n → c.E0 i = c.E0 i) :: (∀ (i : Nat), i < c.n → c.E1 i = c.E1 i) :: (c.m = c.m) :: (∀ (i : Nat), i < c.m → c.P0 i = c.P0 i) :: (∀ (i : Nat), i < c.m → c.P1 i = c.P1 i) :: r
theorem bills_c (c : Cat) (n : Nat) (A : Nat → Int) (m : Nat) (B : Nat → Int)  : FnC prog 9 [catD c, nums n A, nums m B] (dB true) := by
  refine FnC_owed hmix (A9_bills_c c n A m B) (V := .need [FnC prog (15 : Nat) [] ((dB true))] (.ite (!true) (.done [false = true]) (.need [FnC prog (39 : Nat) [(bills_cd0 c)] ((dB ((q_bills_c_0 c)))), (!!(q_bills_c_0 c)) = true → (!!(q_bills_c_0 c)) = true, (!!(q_bills_c_0 c)) = true → (!!(q_bills_c_0 c)) = true, (!(q_bills_c_0 c)) = false → (!!(q_bills_c_0 c)) = true, (q_bills_c_2 c n) = true → (q_bills_c_2 c n) = true, (q_bills_c_2 c n) = true → (q_bills_c_2 c n) = true, (if (!(q_bills_c_0 c)) = true then true else decide ((↑n : Int) > (200 : Int))) = false → (q_bills_c_2 c n) = true] (.ite (if (if (!(q_bills_c_0 c)) = true then true else decide ((↑n : Int) > (200 : Int))) = true then true else decide ((↑m : Int) > (80 : Int))) (.done [true = true]) (.need [FnC prog (45 : Nat) [.lst n [fun i => (dI (A i))]] (.lst n [fun i => (dI (A i))]), FnC prog (44 : Nat) [(bills_cd0 c), .lst n [fun i => (dI (A i))]] (.tup [.lst (blN c n A) [fun j => (dI (cntF A n j))], (dI (blE c n A))])] (.need [FnC prog (45 : Nat) [.lst m [fun i => (dI (B i))]] (.lst m [fun i => (dI (B i))]), FnC prog (46 : Nat) [(bills_cd0 c), .lst m [fun i => (dI (B i))]] (.tup [(dI (maS c m B)), (dI (maE c m B))])] (.need [FnC prog (40 : Nat) [(bills_cd0 c)] ((dI (ctE c)))] (.ite (ctE c != (0 : Int)) (.need [(blE c n A == ctE c) = true → (blE c n A == ctE c) = true, (blE c n A == ctE c) = true → (blE c n A == ctE c) = true, (blE c n A == ctE c) = true → (blE c n A == ctE c) = true, (q_bills_c_1 c n A m B) = true → (q_bills_c_1 c n A m B) = true, (q_bills_c_1 c n A m B) = true → (q_bills_c_1 c n A m B) = true, (q_bills_c_1 c n A m B) = true → (q_bills_c_1 c n A m B) = true, (q_bills_c_3 c n A m B) = true → (q_bills_c_3 c n A m B) = true, (q_bills_c_3 c n A m B) = true → (q_bills_c_3 c n A m B) = true] (.done [(if (q_bills_c_3 c n A m B) = true then maS c m B == (0 : Int) else false) = true])) (.need [FnC prog (47 : Nat) [(bills_cd0 c), .lst m [fun i => (dI (B i))]] (.tup [(dI (maS c m B)), (dI (maE c m B))])] (.need [(!maE c m B != maE c m B) = true → (!maE
     c m B != maE c m B) = true, (!maE c m B != maE c m B) = true → (!maE c m B != maE c m B) = true, (maE c m B != maE c m B) = false → (!maE c m B != maE c m B) = true] (.ite (if (maE c m B != maE c m B) = true then true else maS c m B != maS c m B) (.done [false = true]) (.need [FnC prog (48 : Nat) [(bills_cd0 c), .lst n [fun i => (dI (A i))]] (.tup [.lst (blN c n A) [fun j => (dI (cntF A n j))], (dB (decide (blE c n A = (0 : Int))))])] (.ite (!decide (blE c n A = (0 : Int))) (.need [(blE c n A == (6 : Int)) = true → (blE c n A == (6 : Int)) = true, (blE c n A == (6 : Int)) = true → (blE c n A == (6 : Int)) = true, (blE c n A == (6 : Int)) = true → (blE c n A == (6 : Int)) = true] (.done [(if (blE c n A == (6 : Int)) = true then (↑(blN c n A) : Int) == (0 : Int) else false) = true])) (.loop Nat (fun a => a ≤ n) (Int.toNat (0 : Int)) (((0 : Int) = (↑(Int.toNat (0 : Int)) : Int)) :: (((0 : Int) = smA c A (Int.toNat (0 : Int))) :: (bills_cr0 c n A m B []))) fun i => .ite (decide ((↑i : Int) < (↑n : Int))) (.need [(0 : Int) ≤ (↑i : Int) ∧ (↑i : Int) < (↑n : Int), (0 : Int) ≤ A (Int.toNat (↑i : Int)) ∧ A (Int.toNat (↑i : Int)) < (↑c.n : Int), i64In (smA c A i + c.M (Int.toNat (A (Int.toNat (↑i : Int)))))] (.need [i64In ((↑i : Int) + (1 : Int))] (.done (((↑i : Int) + (1 : Int) = (↑(Int.toNat ((↑i : Int) + (1 : Int))) : Int)) :: ((smA c A i + c.M (Int.toNat (A (Int.toNat (↑i : Int)))) = smA c A (Int.toNat ((↑i : Int) + (1 : Int)))) :: (bills_cr0 c n A m B [Int.toNat ((↑i : Int) + (1 : Int)) ≤ n, n - Int.toNat ((↑i : Int) + (1 : Int)) < n - i])))))) (.need [FnC prog (46 : Nat) [(bills_cd0 c), .lst (blN c n A) [fun j => (dI (cntF A n j))]] (.tup [(dI (maS c (blN c n A) (cntF A n))), (dI (maE c (blN c n A) (cntF A n)))])] (.need [(blE c n A == (0 : Int)) = true → (blE c n A == (0 : Int)) = true, (blE c n A == (0 : Int)) = true → (blE c n A == (0 : Int)) = true, (blE c n A == (0 : Int)) = true → FnC prog (20 : Nat) [.lst (blN c n A) [fun j => (dI (cntF A n j))], .lst (blN c n
     A) [fun j => (dI (cntF A n j))]] ((dB (sameN (blN c n A) (cntF A n) (blN c n A) (cntF A n)))), (blE c n A == (0 : Int)) = true → (blE c n A == (0 : Int)) = true, (q_bills_c_4 c n A) = true → (q_bills_c_4 c n A) = true, (q_bills_c_4 c n A) = true → (q_bills_c_4 c n A) = true, (q_bills_c_5 c n A) = true → (q_bills_c_5 c n A) = true, (q_bills_c_5 c n A) = true → (q_bills_c_5 c n A) = true, (q_bills_c_5 c n A) = true → (q_bills_c_5 c n A) = true] (.done [(if (q_bills_c_5 c n A) = true then maS c (blN c n A) (cntF A n) == smA c A i else false) = true]))))))))))))))))) (by kernel_rfl) ?_
  simp only [q_bills_c_0, q_bills_c_1, q_bills_c_2, q_bills_c_3, q_bills_c_4, q_bills_c_5, VT.holds, AllT, imp_self, implies_true, and_true, true_and, toNat_succ, toNat_add2, toNat_zero', Int.toNat_natCast, Bool.if_true_left, Bool.if_false_right, Bool.decide_eq_true, Bool.or_eq_true, Bool.or_eq_false_iff, Bool.and_eq_true, Bool.and_eq_false_imp, Bool.not_eq_true', Bool.not_eq_false', Bool.not_not, bne_iff_ne, bne_eq_false_iff_eq, beq_iff_eq, beq_eq_false_iff_ne, decide_eq_true_eq, decide_eq_false_iff_not, ne_eq]
  refine ⟨awake_c, fun h => (by cases h), fun _ => ⟨short_c c, fun ⟨h1, h2⟩ => ?_⟩⟩
  have hn : n ≤ 200 := by omega
  refine ⟨⟨copyInts_c n A (by omega), Bill_c c n A (by omega)⟩, ⟨copyInts_c m B (by omega), Mass_c c m B⟩, checkCatR_c c, fun h => ?_, fun h0 => ⟨massR_c c m B h0, fun h => ?_, fun _ => ⟨billR_c c n A h0 (by omega), fun h => ?_, fun h => ?_⟩⟩⟩
  · have e : blE c n A = ctE c := by rw [blE, if_pos h]
    exact ⟨⟨⟨e, ma_ct h⟩, by rw [bl_n e h]; rfl⟩, (ma_no (ma_ct h) h).symm⟩
  · rcases h with h | h <;> exact absurd trivial h
  · have e : blE c n A = 6 := by
      rw [blE, if_neg (by rw [h0]; decide)] at h ⊢
      split at h
      · rename_i h3; rw [if_pos h3]
      · exact absurd rfl h
    exact ⟨e, by rw [bl_n e (by decide)]; rfl⟩
  · have hout : ∀ j, j < n → outP c A j = false := fun j hj => by
      cases e : outP c A j with
      | false => rfl
      | true => rw [bl_bad h0 hj e] at h; cases h
    have hn60 := (ct_pts h0).1
    refine ⟨⟨rfl, rfl⟩, Nat.zero_le _, fun i hi => ⟨fun hlt => ?_, fun hge => ?_⟩⟩
    · have hlt : i < n := by omega
      have hr := out_no (hout i hlt)
      have h3 := sm_bd h0 (A := A) (k := i) fun j hj => hout j (by omega)
      have h4 := ct_mass h0 (j := (A i).toNat) (by omega)
      exact ⟨⟨by omega, hr, by unfold i64In; omega⟩, by unfold i64In; omega, by omega, rfl, by omega, by omega⟩
    · obtain rfl : i = n := by omega
      have eN := bl_n0 h
      have hin : ∀ j, j < blN c i A → inN (cntF A i j) 1000000 = true := fun j _ => by
        have := cntF_bd A j i
        rw [inN, Bool.and_eq_true, decide_eq_true_eq, decide_eq_true_eq]
        omega
      have hm := ma_ok h0 eN hin
      refine ⟨Mass_c c _ _, fun _ => ints_c _ _ _ _ (by omega), ⟨⟨h, decide_eq_true ⟨rfl, fun _ _ => rfl⟩⟩, hm⟩, ?_⟩
      rw [← ma_yes hm, eN]
      exact ms_sum hout
end Go.Abs
