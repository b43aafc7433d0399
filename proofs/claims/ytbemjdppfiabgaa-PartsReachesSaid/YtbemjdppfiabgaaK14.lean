/- Contracts. -/
import Derived.Test.YtbemjdppfiabgaaK13
set_option linter.unusedVariables false
set_option linter.unusedSimpArgs false
set_option maxRecDepth 100000
namespace Go.Abs
open Go
def p0 (s : Scf) (i : Nat) : Bool := decide (s.K i = 6) && frG s i
inductive RchR (s : Scf) : Nat → Prop
  | ground {i : Nat} (h : i < s.nM) (h2 : p0 s i = true) : RchR s i
  | step {d i : Nat} (h : RchR s d) (h2 : i < s.nM) (h3 : s.K i = 6) (h4 : ldB s d i = true) : RchR s i
open Classical in
noncomputable def rchR (s : Scf) (i : Nat) : Bool := decide (RchR s i)
structure QInv (s : Scf) (k n : Nat) (c : Nat → Int) : Prop where
  kn : k ≤ n
  q : ∀ j, j < n → ∃ d : Nat, c j = d ∧ d < s.nM ∧ s.K d = 6 ∧ RchR s d
  g : ∀ i : Nat, i < s.nM → p0 s i = true → hasN c i n = true
  a : ∀ j, j < k → ∀ i : Nat, i < s.nM → s.K i = 6 → ldB s (c j) i = true → hasN c i n = true
  b : n + flN (fun i : Nat => !hasN c i n) s.nM ≤ s.nM
structure QIn (s : Scf) (k i n : Nat) (c : Nat → Int) : Prop where
  hi : i ≤ s.nM
  hk : k < n
  h : QInv s k n c
  ha : ∀ m : Nat, m < i → s.K m = 6 → ldB s (c k) m = true → hasN c m n = true
def apd (n : Nat) (c : Nat → Int) (i : Int) (j : Nat) : Int := if j < n then c j else i
theorem flI_in {p : Nat → Bool} : ∀ {n j : Nat}, j < flN p n → flI p n j < n ∧ p (flI p n j) = true
  | 0, j, h => absurd h (Nat.not_lt_zero j)
  | n + 1, j, h => by
    rw [flN] at h
    rw [flI]
    split
    · rename_i h1; exact ⟨Nat.lt_succ_self n, h1.1⟩
    · rename_i h1
      have : j < flN p n := by
        by_cases e : p n = true
        · rw [if_pos e] at h
          have : flN p n ≠ j := fun h2 => h1 ⟨e, h2⟩
          omega
        · rw [if_neg e] at h; omega
      have := flI_in this
      exact ⟨by omega, this.2⟩
theorem flN_mono1 (p : Nat → Bool) {a b : Nat} (h : a ≤ b) : flN p a ≤ flN p b := by
  induction h with
  | refl => exact Nat.le_refl _
  | step _ ih => rw [flN]; omega
theorem flI_at {p : Nat → Bool} {i : Nat} (h : p i = true) : ∀ {n : Nat}, i < n → flN p i < flN p n ∧ flI p n (flN p i) = i
  | n + 1, hn => by
    rw [flI]
    have e := flN_yes h
    rcases Nat.lt_or_ge i n with h1 | h1
    · have h2 := flI_at h h1
      have h3 := flN_mono1 p (show i + 1 ≤ n by omega)
      refine ⟨by rw [flN]; omega, ?_⟩
      rw [if_neg (fun h' => by omega)]
      exact h2.2
    · obtain rfl : i = n := by omega
      exact ⟨by omega, by rw [if_pos ⟨h, rfl⟩]⟩
theorem flN_not (p : Nat → Bool) : ∀ n, flN p n + flN (fun i => !p i) n = n
  | 0 => rfl
  | n + 1 => by
    have := flN_not p n
    rw [flN, flN]
    cases p n <;> simp <;> omega
theorem flN_eq {p q : Nat → Bool} : ∀ {n : Nat}, (∀ i, i < n → p i = q i) → flN p n = flN q n
  | 0, _ => rfl
  | n + 1, h => by rw [flN, flN, flN_eq fun i hi => h i (by omega), h n (by omega)]
theorem flN_sub {p q : Nat → Bool} (h : ∀ m, q m = true → p m = true) : ∀ n, flN q n ≤ flN p n
  | 0 => Nat.le_refl _
  | n + 1 => by
    have := flN_sub h n
    have h2 := h n
    rw [flN, flN]
    by_cases e : q n = true
    · rw [if_pos e, if_pos (h2 e)]; omega
    · rw [if_neg e]; omega
theorem flN_drop {p q : Nat → Bool} (h : ∀ m, q m = true → p m = true) {i : Nat} (hp : p i = true) (hq : q i = false) : ∀ {n : Nat}, i < n → flN q n + 1 ≤ flN p n
  | n + 1, hn => by
    rcases Nat.lt_or_ge i n with h1 | h1
    · have := flN_drop h hp hq h1
      have h2 := h n
      rw [flN, flN]
      by_cases e : q n = true
      · rw [if_pos e, if_pos (h2 e)]; omega
      · rw [if_neg e]; omega
    · obtain rfl : i = n := by omega
      have := flN_sub h i
      rw [flN, flN, if_pos hp, hq, if_neg (by decide)]
      omega
theorem hasN_eq {A B : Nat → Int} {x : Int} : ∀ {n : Nat}, (∀ j, j < n → A j = B j) → hasN A x n = hasN B x n
  | 0, _ => rfl
  | n + 1, h => by rw [hasN, hasN, hasN_eq fun j hj => h j (by omega), h n (by omega)]
theorem has_apd (n : Nat) (c : Nat → Int) (i x : Int) : hasN (apd n c i) x (n + 1) = (hasN c x n || decide (i = x)) := by
  rw [hasN, hasN_eq (B := c) (fun j hj => by rw [apd, if_pos hj])]
  rw [apd, if_neg (Nat.lt_irrefl n)]
theorem q_start (s : Scf) : QInv s 0 (flN (p0 s) s.nM) (fun j => (flI (p0 s) s.nM j : Int)) := by
  have hh : ∀ i : Nat, i < s.nM → hasN (fun j => (flI (p0 s) s.nM j : Int)) i (flN (p0 s) s.nM) = p0 s i := fun i hi => by
    cases e : p0 s i with
    | true => exact hasN_iff.2 ⟨flN (p0 s) i, (flI_at e hi).1, by rw [(flI_at e hi).2]⟩
    | false =>
      cases g : hasN (fun j => (flI (p0 s) s.nM j : Int)) i (flN (p0 s) s.nM) with
      | false => rfl
      | true =>
        obtain ⟨j, hj, h⟩ := hasN_iff.1 g
        have := (flI_in hj).2
        rw [show flI (p0 s) s.nM j = i from by exact_mod_cast h, e] at this
        cases this
  refine ⟨Nat.zero_le _, fun j hj => ?_, fun i hi h => by rw [hh i hi, h], fun j hj => absurd hj (Nat.not_lt_zero j), ?_⟩
  · obtain ⟨h1, h2⟩ := flI_in hj
    refine ⟨_, rfl, h1, ?_, .ground h1 h2⟩
    rw [p0, Bool.and_eq_true, decide_eq_true_eq] at h2
    exact h2.1
  · have e : flN (fun i : Nat => !hasN (fun j => (flI (p0 s) s.nM j : Int)) i (flN (p0 s) s.nM)) s.nM = flN (fun i => !p0 s i) s.nM := flN_eq fun i hi => by rw [hh i hi]
    have := flN_not (p0 s) s.nM
    omega
theorem q_add {s : Scf} {k n i : Nat} {c : Nat → Int} (h : QInv s k n c) (hi : i < s.nM) (h6 : s.K i = 6) (hr : RchR s i) (hno : hasN c i n = false) : QInv s k (n + 1) (apd n c i) := by
  have up : ∀ x : Int, hasN c x n = true → hasN (apd n c i) x (n + 1) = true := fun x hx => by rw [has_apd, hx]; rfl
  have hkn := h.kn
  refine ⟨by omega, fun j hj => ?_, fun m hm hp => up _ (h.g m hm hp), fun j hj m hm h6' hl => ?_, ?_⟩
  · unfold apd
    split
    · rename_i h1; exact h.q j h1
    · exact ⟨i, rfl, hi, h6, hr⟩
  · have e : apd n c i j = c j := by rw [apd, if_pos (by omega)]
    rw [e] at hl
    exact up _ (h.a j hj m hm h6' hl)
  · have hb := h.b
    have := flN_drop (p := fun m : Nat => !hasN c m n) (q := fun m : Nat => !hasN (apd n c i) m (n + 1)) (fun m hm => by
      cases e : hasN c (m : Int) n with
      | false => rfl
      | true => rw [up _ e] at hm; cases hm) (i := i) (by show (!hasN c i n) = true; rw [hno]; rfl) (by
        show (!hasN (apd n c i) i (n + 1)) = false
        rw [has_apd, decide_eq_true rfl, Bool.or_true]; rfl) hi
    omega
theorem q_end {s : Scf} {k n : Nat} {c : Nat → Int} (h : QInv s k n c) (hk : ¬ k < n) : (fun i : Nat => hasN c i n) = rchR s := by
  have all : ∀ i, RchR s i → hasN c i n = true := fun i hr => by
    induction hr with
    | ground h1 h2 => exact h.g _ h1 h2
    | step _ h2 h3 h4 ih =>
      obtain ⟨j, hj, he⟩ := hasN_iff.1 ih
      exact h.a j (by omega) _ h2 h3 (by rw [he]; exact h4)
  funext i
  by_cases hr : RchR s i
  · rw [show rchR s i = true from @decide_eq_true _ (Classical.propDecidable _) hr]; exact all _ hr
  · rw [show rchR s i = false from @decide_eq_false _ (Classical.propDecidable _) hr]
    cases hi : hasN c i n with
    | false => rfl
    | true =>
      obtain ⟨j, hj, he⟩ := hasN_iff.1 hi
      obtain ⟨d, hd, _, _, h2⟩ := h.q j hj
      rw [hd] at he
      have : d = i := by exact_mod_cast he
      rw [this] at h2
      exact absurd h2 hr
noncomputable def A21_reachedR_c (s : Scf) : Ann := { orc := [(5, [(10, .res fun q => dB (frG s (aI q 1)))]), (13, [(10, .res fun q => dB (hasN (fun j => colI 0 (arg q 0) j) (aI q 1) (lenOf (arg q 0)))), (20, .res fun q => dB (ldB s (aI q 1) (aI q 2)))]), (19, [(2, .res fun q => dB (hasN (fun j => colI 0 (arg q 0) j) (aI q 1) (lenOf (arg q 0))))])], loops := [(0, { ι := Nat, keep := [1], boxes := [1], ts := fun _ i => [(4, dI (i : Int))], rw := fun _ i => [(3, 1, flN (p0 s) i, [fun j => dI (flI (p0 s) i j)])], inv := fun _ i => i ≤ s.nM, mu := fun _ i => s.nM - i, rd := fun _ σ => (iOf (σ.get 4)).toNat }), (2, { ι := Nat × Nat × (Nat → Int), keep := [1], boxes := [1], ts := fun _ i => [(5, dI (i.1 : Int))], rw := fun _ i => [(3, 1, i.2.1, [fun j => dI (i.2.2 j)])], inv := fun _ i => QInv s i.1 i.2.1 i.2.2, mu := fun _ i => s.nM - i.1, rd := fun _ σ => ((iOf (σ.get 5)).toNat, rowN (σ.get 3), fun j => objC (σ.obj (mid (σ.get 3))) j) }), (4, { ι := Nat × Nat × (Nat → Int), keep := [1, 5], boxes := [1], ts := fun _ i => [(6, dI (i.1 : Int))], rw := fun _ i => [(3, 1, i.2.1, [fun j => dI (i.2.2 j)])], inv := fun σ i => QIn s (iOf (σ.get 5)).toNat i.1 i.2.1 i.2.2, mu := fun _ i => s.nM - i.1, rd := fun _ σ => ((iOf (σ.get 6)).toNat, rowN (σ.get 3), fun j => objC (σ.obj (mid (σ.get 3))) j) }), (6, { ι := Nat, keep := [1], boxes := [1], ts := fun _ i => [(8, dI (i : Int))], rw := fun σ i => [(7, 1, flN (fun i : Nat => hasN (fun j => objC (σ.obj (mid (σ.get 3))) j) i (rowN (σ.get 3))) i, [fun j => dI (flI (fun i : Nat => hasN (fun j => objC (σ.obj (mid (σ.get 3))) j) i (rowN (σ.get 3))) i j)]), (3, 1, rowN (σ.get 3), [fun j => dI (objC (σ.obj (mid (σ.get 3))) j)])], inv := fun _ i => i ≤ s.nM, mu := fun _ i => s.nM - i, rd := fun _ σ => (iOf (σ.get 8)).toNat })], cuts := [] }
noncomputable abbrev reachedR_cr0 (s : Scf) (r : List Prop) : List Prop := (s.nN = s.nN) :: (∀ (i : Nat), i < s.nN → s.X i = s.X i) :: (∀ (i : Nat), i < s.nN → s.Y i = s.Y i) :: (∀ (i : Nat), i < s.nN → s.Z i = s.Z i) :: (s.nM = s.nM) :: (∀ (i : Nat), i < s.nM → s.K i = s.K i) :: (∀ (i : Nat), i < s.nM → s.A i = s.A i) :: (∀ (i : Nat), i < s.nM → s.B i = s.B i) :: r
theorem reachedR_c (s : Scf) (hc : ScfOK s) : FnC prog 21 [scfD s] (.lst (flN (rchR s) s.nM) [fun j => dI (flI (rchR s) s.nM j)]) := by
  refine FnC_owed hmix (A21_reachedR_c s) (V := .loop Nat (fun a => a ≤ s.nM) (Int.toNat (0 : Int)) (((0 : Int) = (↑(Int.toNat (0 : Int)) : Int)) :: (((0 : Nat) = (0 : Nat)) :: ((flN (p0 s) (Int.toNat (0 : Int)) = (0 : Nat)) :: ((flN (p0 s) (Int.toNat (0 : Int)) = (0 : Nat)) :: (reachedR_cr0 s []))))) fun i => .ite (decide ((↑i : Int) < (↑s.nM : Int))) (.need [(0 : Int) ≤ (↑i : Int) ∧ (↑i : Int) < (↑s.nM : Int), (s.K (Int.toNat (↑i : Int)) == (6 : Int)) = true → (s.K (Int.toNat (↑i : Int)) == (6 : Int)) = true, (s.K (Int.toNat (↑i : Int)) == (6 : Int)) = true → (s.K (Int.toNat (↑i : Int)) == (6 : Int)) = true, (s.K (Int.toNat (↑i : Int)) == (6 : Int)) = true → FnC prog (86 : Nat) [.agg [.lst s.nN [fun i => (dI (s.X i)), fun i => (dI (s.Y i)), fun i => (dI (s.Z i))], .lst s.nM [fun i => (dI (s.K i)), fun i => (dI (s.A i)), fun i => (dI (s.B i))]], (dI (↑i : Int))] ((dB (frG s (↑i : Int)))), (s.K (Int.toNat (↑i : Int)) == (6 : Int)) = true → (s.K (Int.toNat (↑i : Int)) == (6 : Int)) = true] (.ite (if (s.K (Int.toNat (↑i : Int)) == (6 : Int)) = true then frG s (↑i : Int) else false) (.need [flN (p0 s) i ≤ flN (p0 s) i, (flN (p0 s) i + (1 : Nat)) * (nat_lit 7 + (1 : Nat)) ≤ (140737488355328 : Nat), (1 : Nat) ≤ (1 : Nat)] (.need [i64In ((↑i : Int) + (1 : Int))] (.done (((↑i : Int) + (1 : Int) = (↑(Int.toNat ((↑i : Int) + (1 : Int))) : Int)) :: (((0 : Nat) = (0 : Nat)) :: ((flN (p0 s) i + (1 : Nat) = flN (p0 s) (Int.toNat ((↑i : Int) + (1 : Int)))) :: ((flN (p0 s) i + (1 : Nat) = flN (p0 s) (Int.toNat ((↑i : Int) + (1 : Int)))) :: ((∀ (i_1 : Nat), i_1 < flN (p0 s) (Int.toNat ((↑i : Int) + (1 : Int))) → (if decide (i_1 < flN (p0 s) i) = true then (↑(flI (p0 s) i i_1) : Int) else (↑i : Int)) = (↑(flI (p0 s) (Int.toNat ((↑i : Int) + (1 : Int))) i_1) : Int)) :: (reachedR_cr0 s [Int.toNat ((↑i : Int) + (1 : Int)) ≤ s.nM, s.nM - Int.toNat ((↑i : Int) + (1 : Int)) < s.nM - i]))))))))) (.need [i64In ((↑i : Int) + (1 : Int))] (.done (((↑i : Int) + (1 : Int) = (↑(Int.toNat ((↑i : Int) + (1 : Int))) : Int)) :: (((0 : Nat) = (0 :
     Nat)) :: ((flN (p0 s) i = flN (p0 s) (Int.toNat ((↑i : Int) + (1 : Int)))) :: ((flN (p0 s) i = flN (p0 s) (Int.toNat ((↑i : Int) + (1 : Int)))) :: ((∀ (i_1 : Nat), i_1 < flN (p0 s) (Int.toNat ((↑i : Int) + (1 : Int))) → (↑(flI (p0 s) i i_1) : Int) = (↑(flI (p0 s) (Int.toNat ((↑i : Int) + (1 : Int))) i_1) : Int)) :: (reachedR_cr0 s [Int.toNat ((↑i : Int) + (1 : Int)) ≤ s.nM, s.nM - Int.toNat ((↑i : Int) + (1 : Int)) < s.nM - i])))))))))) (.loop (Nat × Nat × (Nat → Int)) (fun (a : Nat × Nat × (Nat → Int)) => QInv s a.fst a.snd.fst a.snd.2) (Int.toNat (0 : Int), flN (p0 s) i, fun j => (↑(flI (p0 s) i j) : Int)) (((0 : Int) = (↑(Int.toNat (0 : Int)) : Int)) :: (((0 : Nat) = (0 : Nat)) :: ((flN (p0 s) i = flN (p0 s) i) :: ((flN (p0 s) i = flN (p0 s) i) :: ((∀ (i_1 : Nat), i_1 < flN (p0 s) i → (↑(flI (p0 s) i i_1) : Int) = (↑(flI (p0 s) i i_1) : Int)) :: (reachedR_cr0 s [])))))) fun (i : Nat × Nat × (Nat → Int)) => .ite (decide ((↑i.fst : Int) < (↑i.snd.fst : Int))) (.loop (Nat × Nat × (Nat → Int)) (fun (a : Nat × Nat × (Nat → Int)) => QIn s (Int.toNat (↑i.fst : Int)) a.fst a.snd.fst a.snd.2) (Int.toNat (0 : Int), i.snd.fst, fun j => i.snd.2 j) (((0 : Int) = (↑(Int.toNat (0 : Int)) : Int)) :: (((0 : Nat) = (0 : Nat)) :: ((i.snd.fst = i.snd.fst) :: (((↑i.fst : Int) = (↑i.fst : Int)) :: ((i.snd.fst = i.snd.fst) :: ((∀ (i_1 : Nat), i_1 < i.snd.fst → i.snd.2 i_1 = i.snd.2 i_1) :: (reachedR_cr0 s []))))))) fun (i_1 : Nat × Nat × (Nat → Int)) => .ite (decide ((↑i_1.fst : Int) < (↑s.nM : Int))) (.need [(0 : Int) ≤ (↑i_1.fst : Int) ∧ (↑i_1.fst : Int) < (↑s.nM : Int), (s.K (Int.toNat (↑i_1.fst : Int)) == (6 : Int)) = true → (s.K (Int.toNat (↑i_1.fst : Int)) == (6 : Int)) = true, (s.K (Int.toNat (↑i_1.fst : Int)) == (6 : Int)) = true → (s.K (Int.toNat (↑i_1.fst : Int)) == (6 : Int)) = true, (s.K (Int.toNat (↑i_1.fst : Int)) == (6 : Int)) = true → i_1.snd.fst ≤ i_1.snd.fst, (s.K (Int.toNat (↑i_1.fst : Int)) == (6 : Int)) = true → FnC prog (27 : Nat) [.lst i_1.snd.fst [fun i => (dI
     (i_1.snd.2 (i + (0 : Nat))))], (dI (↑i_1.fst : Int))] ((dB (hasN (fun j => i_1.snd.2 (j + (0 : Nat))) (↑i_1.fst : Int) i_1.snd.fst))), (s.K (Int.toNat (↑i_1.fst : Int)) == (6 : Int)) = true → (s.K (Int.toNat (↑i_1.fst : Int)) == (6 : Int)) = true, (s.K (Int.toNat (↑i_1.fst : Int)) == (6 : Int)) = true → (s.K (Int.toNat (↑i_1.fst : Int)) == (6 : Int)) = true, (if (s.K (Int.toNat (↑i_1.fst : Int)) == (6 : Int)) = true then !hasN (fun j => i_1.snd.2 (j + (0 : Nat))) (↑i_1.fst : Int) i_1.snd.fst else false) = true → (if (s.K (Int.toNat (↑i_1.fst : Int)) == (6 : Int)) = true then !hasN (fun j => i_1.snd.2 (j + (0 : Nat))) (↑i_1.fst : Int) i_1.snd.fst else false) = true, (if (s.K (Int.toNat (↑i_1.fst : Int)) == (6 : Int)) = true then !hasN (fun j => i_1.snd.2 (j + (0 : Nat))) (↑i_1.fst : Int) i_1.snd.fst else false) = true → (if (s.K (Int.toNat (↑i_1.fst : Int)) == (6 : Int)) = true then !hasN (fun j => i_1.snd.2 (j + (0 : Nat))) (↑i_1.fst : Int) i_1.snd.fst else false) = true, (if (s.K (Int.toNat (↑i_1.fst : Int)) == (6 : Int)) = true then !hasN (fun j => i_1.snd.2 (j + (0 : Nat))) (↑i_1.fst : Int) i_1.snd.fst else false) = true → (0 : Int) ≤ (↑i.fst : Int) ∧ (↑i.fst : Int) < (↑i_1.snd.fst : Int), (if (s.K (Int.toNat (↑i_1.fst : Int)) == (6 : Int)) = true then !hasN (fun j => i_1.snd.2 (j + (0 : Nat))) (↑i_1.fst : Int) i_1.snd.fst else false) = true → (if (s.K (Int.toNat (↑i_1.fst : Int)) == (6 : Int)) = true then !hasN (fun j => i_1.snd.2 (j + (0 : Nat))) (↑i_1.fst : Int) i_1.snd.fst else false) = true, (if (s.K (Int.toNat (↑i_1.fst : Int)) == (6 : Int)) = true then !hasN (fun j => i_1.snd.2 (j + (0 : Nat))) (↑i_1.fst : Int) i_1.snd.fst else false) = true → addN (0 : Nat) (Int.toNat (↑i.fst : Int)) < i_1.snd.fst, (if (s.K (Int.toNat (↑i_1.fst : Int)) == (6 : Int)) = true then !hasN (fun j => i_1.snd.2 (j + (0 : Nat))) (↑i_1.fst : Int) i_1.snd.fst else false) = true → (if (s.K (Int.toNat (↑i_1.fst : Int)) == (6 : Int)) = true then !hasN (fun j => i_1.snd.2 (j + (0 :
     Nat))) (↑i_1.fst : Int) i_1.snd.fst else false) = true, (if (s.K (Int.toNat (↑i_1.fst : Int)) == (6 : Int)) = true then !hasN (fun j => i_1.snd.2 (j + (0 : Nat))) (↑i_1.fst : Int) i_1.snd.fst else false) = true → (if (s.K (Int.toNat (↑i_1.fst : Int)) == (6 : Int)) = true then !hasN (fun j => i_1.snd.2 (j + (0 : Nat))) (↑i_1.fst : Int) i_1.snd.fst else false) = true, (if (s.K (Int.toNat (↑i_1.fst : Int)) == (6 : Int)) = true then !hasN (fun j => i_1.snd.2 (j + (0 : Nat))) (↑i_1.fst : Int) i_1.snd.fst else false) = true → (if (s.K (Int.toNat (↑i_1.fst : Int)) == (6 : Int)) = true then !hasN (fun j => i_1.snd.2 (j + (0 : Nat))) (↑i_1.fst : Int) i_1.snd.fst else false) = true, (if (s.K (Int.toNat (↑i_1.fst : Int)) == (6 : Int)) = true then !hasN (fun j => i_1.snd.2 (j + (0 : Nat))) (↑i_1.fst : Int) i_1.snd.fst else false) = true → FnC prog (87 : Nat) [.agg [.lst s.nN [fun i => (dI (s.X i)), fun i => (dI (s.Y i)), fun i => (dI (s.Z i))], .lst s.nM [fun i => (dI (s.K i)), fun i => (dI (s.A i)), fun i => (dI (s.B i))]], (dI (i_1.snd.2 (addN (0 : Nat) (Int.toNat (↑i.fst : Int))))), (dI (↑i_1.fst : Int))] ((dB (ldB s (i_1.snd.2 (addN (0 : Nat) (Int.toNat (↑i.fst : Int)))) (↑i_1.fst : Int)))), (if (s.K (Int.toNat (↑i_1.fst : Int)) == (6 : Int)) = true then !hasN (fun j => i_1.snd.2 (j + (0 : Nat))) (↑i_1.fst : Int) i_1.snd.fst else false) = true → (if (s.K (Int.toNat (↑i_1.fst : Int)) == (6 : Int)) = true then !hasN (fun j => i_1.snd.2 (j + (0 : Nat))) (↑i_1.fst : Int) i_1.snd.fst else false) = true] (.ite (if (if (s.K (Int.toNat (↑i_1.fst : Int)) == (6 : Int)) = true then !hasN (fun j => i_1.snd.2 (j + (0 : Nat))) (↑i_1.fst : Int) i_1.snd.fst else false) = true then ldB s (i_1.snd.2 (addN (0 : Nat) (Int.toNat (↑i.fst : Int)))) (↑i_1.fst : Int) else false) (.need [i_1.snd.fst ≤ i_1.snd.fst, (i_1.snd.fst + (1 : Nat)) * (nat_lit 7 + (1 : Nat)) ≤ (140737488355328 : Nat), (1 : Nat) ≤ (1 : Nat)] (.need [i64In ((↑i_1.fst : Int) + (1 : Int))] (.done (((↑i_1.fst : Int) + (1 : Int) =
     (↑(Int.toNat ((↑i_1.fst : Int) + (1 : Int))) : Int)) :: (((0 : Nat) = (0 : Nat)) :: ((i_1.snd.fst + (1 : Nat) = i_1.snd.fst + (1 : Nat)) :: (((↑i.fst : Int) = (↑i.fst : Int)) :: ((i_1.snd.fst + (1 : Nat) = i_1.snd.fst + (1 : Nat)) :: ((∀ (i : Nat), i < i_1.snd.fst + (1 : Nat) → (if decide (i < i_1.snd.fst) = true then i_1.snd.2 i else (↑i_1.fst : Int)) = if decide (i < i_1.snd.fst) = true then i_1.snd.2 i else (↑i_1.fst : Int)) :: (reachedR_cr0 s [QIn s (Int.toNat (↑i.fst : Int)) (Int.toNat ((↑i_1.fst : Int) + (1 : Int))) (i_1.snd.fst + (1 : Nat)) fun a => if decide (a < i_1.snd.fst) = true then i_1.snd.2 a else (↑i_1.fst : Int), s.nM - Int.toNat ((↑i_1.fst : Int) + (1 : Int)) < s.nM - i_1.fst])))))))))) (.need [i64In ((↑i_1.fst : Int) + (1 : Int))] (.done (((↑i_1.fst : Int) + (1 : Int) = (↑(Int.toNat ((↑i_1.fst : Int) + (1 : Int))) : Int)) :: (((0 : Nat) = (0 : Nat)) :: ((i_1.snd.fst = i_1.snd.fst) :: (((↑i.fst : Int) = (↑i.fst : Int)) :: ((i_1.snd.fst = i_1.snd.fst) :: ((∀ (i : Nat), i < i_1.snd.fst → i_1.snd.2 i = i_1.snd.2 i) :: (reachedR_cr0 s [QIn s (Int.toNat (↑i.fst : Int)) (Int.toNat ((↑i_1.fst : Int) + (1 : Int))) i_1.snd.fst i_1.snd.2, s.nM - Int.toNat ((↑i_1.fst : Int) + (1 : Int)) < s.nM - i_1.fst]))))))))))) (.need [i64In ((↑i.fst : Int) + (1 : Int))] (.done (((↑i.fst : Int) + (1 : Int) = (↑(Int.toNat ((↑i.fst : Int) + (1 : Int))) : Int)) :: (((0 : Nat) = (0 : Nat)) :: ((i_1.snd.fst = i_1.snd.fst) :: ((i_1.snd.fst = i_1.snd.fst) :: ((∀ (i : Nat), i < i_1.snd.fst → i_1.snd.2 i = i_1.snd.2 i) :: (reachedR_cr0 s [QInv s (Int.toNat ((↑i.fst : Int) + (1 : Int))) i_1.snd.fst i_1.snd.2, s.nM - Int.toNat ((↑i.fst : Int) + (1 : Int)) < s.nM - i.fst]))))))))) (.loop Nat (fun a => a ≤ s.nM) (Int.toNat (0 : Int)) (((0 : Int) = (↑(Int.toNat (0 : Int)) : Int)) :: (((0 : Nat) = (0 : Nat)) :: ((flN (fun i_1 => hasN i.snd.2 (↑i_1 : Int) i.snd.fst) (Int.toNat (0 : Int)) = (0 : Nat)) :: (((0 : Nat) = (0 : Nat)) :: ((i.snd.fst = i.snd.fst) :: ((flN (fun i_1 => hasN
     i.snd.2 (↑i_1 : Int) i.snd.fst) (Int.toNat (0 : Int)) = (0 : Nat)) :: ((i.snd.fst = i.snd.fst) :: ((∀ (i_1 : Nat), i_1 < i.snd.fst → i.snd.2 i_1 = i.snd.2 i_1) :: (reachedR_cr0 s []))))))))) fun i_1 => .ite (decide ((↑i_1 : Int) < (↑s.nM : Int))) (.need [i.snd.fst ≤ i.snd.fst, FnC prog (27 : Nat) [.lst i.snd.fst [fun i_2 => (dI (i.snd.2 (i_2 + (0 : Nat))))], (dI (↑i_1 : Int))] ((dB (hasN (fun j => i.snd.2 (j + (0 : Nat))) (↑i_1 : Int) i.snd.fst)))] (.ite (hasN (fun j => i.snd.2 (j + (0 : Nat))) (↑i_1 : Int) i.snd.fst) (.need [flN (fun i_2 => hasN i.snd.2 (↑i_2 : Int) i.snd.fst) i_1 ≤ flN (fun i_2 => hasN i.snd.2 (↑i_2 : Int) i.snd.fst) i_1, (flN (fun i_2 => hasN i.snd.2 (↑i_2 : Int) i.snd.fst) i_1 + (1 : Nat)) * (nat_lit 7 + (1 : Nat)) ≤ (140737488355328 : Nat), (1 : Nat) ≤ (1 : Nat)] (.need [i64In ((↑i_1 : Int) + (1 : Int))] (.done (((↑i_1 : Int) + (1 : Int) = (↑(Int.toNat ((↑i_1 : Int) + (1 : Int))) : Int)) :: (((0 : Nat) = (0 : Nat)) :: ((flN (fun i_2 => hasN i.snd.2 (↑i_2 : Int) i.snd.fst) i_1 + (1 : Nat) = flN (fun i_2 => hasN i.snd.2 (↑i_2 : Int) i.snd.fst) (Int.toNat ((↑i_1 : Int) + (1 : Int)))) :: (((0 : Nat) = (0 : Nat)) :: ((i.snd.fst = i.snd.fst) :: ((flN (fun i_2 => hasN i.snd.2 (↑i_2 : Int) i.snd.fst) i_1 + (1 : Nat) = flN (fun i_2 => hasN i.snd.2 (↑i_2 : Int) i.snd.fst) (Int.toNat ((↑i_1 : Int) + (1 : Int)))) :: ((∀ (i_2 : Nat), i_2 < flN (fun i_3 => hasN i.snd.2 (↑i_3 : Int) i.snd.fst) (Int.toNat ((↑i_1 : Int) + (1 : Int))) → (if decide (i_2 < flN (fun i_3 => hasN i.snd.2 (↑i_3 : Int) i.snd.fst) i_1) = true then (↑(flI (fun i_3 => hasN i.snd.2 (↑i_3 : Int) i.snd.fst) i_1 i_2) : Int) else (↑i_1 : Int)) = (↑(flI (fun i_3 => hasN i.snd.2 (↑i_3 : Int) i.snd.fst) (Int.toNat ((↑i_1 : Int) + (1 : Int))) i_2) : Int)) :: ((i.snd.fst = i.snd.fst) :: ((∀ (i_2 : Nat), i_2 < i.snd.fst → i.snd.2 i_2 = i.snd.2 i_2) :: (reachedR_cr0 s [Int.toNat ((↑i_1 : Int) + (1 : Int)) ≤ s.nM, s.nM - Int.toNat ((↑i_1 : Int) + (1 : Int)) < s.nM - i_1]))))))))))))) (.need [i64In
     ((↑i_1 : Int) + (1 : Int))] (.done (((↑i_1 : Int) + (1 : Int) = (↑(Int.toNat ((↑i_1 : Int) + (1 : Int))) : Int)) :: (((0 : Nat) = (0 : Nat)) :: ((flN (fun i_2 => hasN i.snd.2 (↑i_2 : Int) i.snd.fst) i_1 = flN (fun i_2 => hasN i.snd.2 (↑i_2 : Int) i.snd.fst) (Int.toNat ((↑i_1 : Int) + (1 : Int)))) :: (((0 : Nat) = (0 : Nat)) :: ((i.snd.fst = i.snd.fst) :: ((flN (fun i_2 => hasN i.snd.2 (↑i_2 : Int) i.snd.fst) i_1 = flN (fun i_2 => hasN i.snd.2 (↑i_2 : Int) i.snd.fst) (Int.toNat ((↑i_1 : Int) + (1 : Int)))) :: ((∀ (i_2 : Nat), i_2 < flN (fun i_3 => hasN i.snd.2 (↑i_3 : Int) i.snd.fst) (Int.toNat ((↑i_1 : Int) + (1 : Int))) → (↑(flI (fun i_3 => hasN i.snd.2 (↑i_3 : Int) i.snd.fst) i_1 i_2) : Int) = (↑(flI (fun i_3 => hasN i.snd.2 (↑i_3 : Int) i.snd.fst) (Int.toNat ((↑i_1 : Int) + (1 : Int))) i_2) : Int)) :: ((i.snd.fst = i.snd.fst) :: ((∀ (i_2 : Nat), i_2 < i.snd.fst → i.snd.2 i_2 = i.snd.2 i_2) :: (reachedR_cr0 s [Int.toNat ((↑i_1 : Int) + (1 : Int)) ≤ s.nM, s.nM - Int.toNat ((↑i_1 : Int) + (1 : Int)) < s.nM - i_1])))))))))))))) (.done [flN (fun i_2 => hasN i.snd.2 (↑i_2 : Int) i.snd.fst) i_1 ≤ flN (fun i_2 => hasN i.snd.2 (↑i_2 : Int) i.snd.fst) i_1, flN (fun i_2 => hasN i.snd.2 (↑i_2 : Int) i.snd.fst) i_1 = flN (rchR s) s.nM, ∀ (i_2 : Nat), i_2 < flN (rchR s) s.nM → (↑(flI (fun i_3 => hasN i.snd.2 (↑i_3 : Int) i.snd.fst) i_1 i_2) : Int) = (↑(flI (rchR s) s.nM i_2) : Int)])))) (by kernel_rfl) ?_
  simp only [VT.holds, AllT, reachedR_cr0, imp_self, implies_true, and_true, true_and, toNat_succ, toNat_add2, toNat_zero', Int.toNat_natCast, Bool.if_true_left, Bool.if_false_right, Bool.decide_eq_true, Bool.or_eq_true, Bool.or_eq_false_iff, Bool.and_eq_true, Bool.and_eq_false_imp, Bool.not_eq_true', Bool.not_eq_false', Bool.not_not, bne_iff_ne, bne_eq_false_iff_eq, beq_iff_eq, beq_eq_false_iff_ne, decide_eq_true_eq, decide_eq_false_iff_not, ne_eq]
  have hm := hc.nM
  refine ⟨⟨rfl, rfl, rfl⟩, Nat.zero_le _, fun i hi => ⟨fun hlt => ⟨⟨by omega, fun h => fromGround_c s i hc (by omega) h⟩, fun h => ?_, fun h => ?_⟩, fun hge => ?_⟩⟩
  · have hp : p0 s i = true := by rw [p0, h.2, decide_eq_true h.1]; rfl
    have := flN_le (p0 s) i
    exact ⟨⟨Nat.le_refl _, by omega, Nat.le_refl _⟩, by unfold i64In; omega, by omega, (flN_yes hp).symm, (flN_yes hp).symm, fun q hq => flI_yes' hp (fun q : Nat => (q : Int)) hq, by omega, by omega⟩
  · have hno : ¬ p0 s i = true := by
      rw [p0, Bool.and_eq_true, decide_eq_true_eq]
      rintro ⟨h1, h2⟩
      rw [h h1] at h2
      cases h2
    exact ⟨by unfold i64In; omega, by omega, (flN_no hno).symm, (flN_no hno).symm, fun q _ => by rw [flI_no hno], by omega, by omega⟩
  · obtain rfl : i = s.nM := by omega
    refine ⟨rfl, q_start s, fun ⟨k, n, c⟩ hQ => ?_⟩
    dsimp only at hQ ⊢
    refine ⟨fun hk => ?_, fun hk => ?_⟩
    · have hk : k < n := by exact_mod_cast hk
      refine ⟨rfl, ⟨Nat.zero_le _, hk, hQ, fun m hm => absurd hm (Nat.not_lt_zero m)⟩, fun ⟨m, n', c'⟩ hI => ?_⟩
      dsimp only at hI ⊢
      have hI : QIn s k m n' c' := hI
      have hQ' := hI.h
      have hk' := hI.hk
      have hb := hQ'.b
      obtain ⟨d, hd, hdm, hd6, hdr⟩ := hQ'.q k hk'
      have e0 : addN 0 k = k := (addN_eq 0 k).trans (Nat.zero_add k)
      simp only [e0]
      refine ⟨fun hlt => ?_, fun hge => ?_⟩
      · have hlt : m < s.nM := by exact_mod_cast hlt
        refine ⟨⟨by omega, fun _ => Nat.le_refl _, fun _ => has_i n' c' m (by omega), fun _ => by omega, fun _ => hk', fun h => by rw [hd]; exact leads_c s d m hc hdm hlt hd6 h.1⟩, fun h => ?_, fun h => ?_⟩
        · obtain ⟨⟨h6, hno⟩, hl⟩ := h
          have hr : RchR s m := .step hdr hlt h6 (by rw [← hd]; exact hl)
          have hq := q_add hQ' hlt h6 hr hno
          have hup : ∀ x : Int, hasN c' x n' = true → hasN (apd n' c' m) x (n' + 1) = true := fun x hx => by rw [has_apd, hx]; rfl
          have ek : apd n' c' m k = c' k := by rw [apd, if_pos hk']
          refine ⟨⟨Nat.le_refl _, by omega, Nat.le_refl _⟩, by unfold i64In; omega, by omega, ⟨by omega, by omega, hq, fun x hx h6x hlx => ?_⟩, by omega⟩
          rcases Nat.lt_or_ge x m with h9 | h9
          · exact hup _ (hI.ha x h9 h6x (by rw [← ek]; exact hlx))
          · obtain rfl : x = m := by omega
            show hasN (apd n' c' x) x (n' + 1) = true
            rw [has_apd, decide_eq_true rfl, Bool.or_true]
        · refine ⟨by unfold i64In; omega, by omega, ⟨by omega, hk', hQ', fun x hx h6x hlx => ?_⟩, by omega⟩
          rcases Nat.lt_or_ge x m with h9 | h9
          · exact hI.ha x h9 h6x hlx
          · obtain rfl : x = m := by omega
            cases e : hasN c' (x : Int) n' with
            | true => rfl
            | false => rw [h ⟨h6x, e⟩] at hlx; cases hlx
      · have hi := hI.hi
        obtain rfl : m = s.nM := by omega
        refine ⟨by unfold i64In; omega, by omega, ⟨by omega, hQ'.q, hQ'.g, fun j hj i hi h6 hl => ?_, hQ'.b⟩, by omega⟩
        rcases Nat.lt_or_ge j k with h9 | h9
        · exact hQ'.a j h9 i hi h6 hl
        · obtain rfl : j = k := by omega
          exact hI.ha i hi h6 hl
    · have hk : ¬ k < n := fun h => hk (by exact_mod_cast h)
      have he := q_end hQ hk
      have hb := hQ.b
      have hf : ∀ i : Nat, hasN c i n = rchR s i := fun i => congrFun he i
      refine ⟨⟨rfl, rfl, rfl⟩, Nat.zero_le _, fun i hi => ⟨fun hlt => ⟨⟨Nat.le_refl _, has_i n c i (by omega)⟩, fun h => ?_, fun h => ?_⟩, fun hge => ?_⟩⟩
      · have h : (fun i : Nat => hasN c i n) i = true := h
        have := flN_le (fun i : Nat => hasN c i n) i
        exact ⟨⟨Nat.le_refl _, by omega, Nat.le_refl _⟩, by unfold i64In; omega, by omega, (flN_yes (p := fun i : Nat => hasN c i n) h).symm, (flN_yes (p := fun i : Nat => hasN c i n) h).symm, fun q hq => flI_yes' (p := fun i : Nat => hasN c i n) h (fun q : Nat => (q : Int)) hq, by omega, by omega⟩
      · have hno : ¬ (fun i : Nat => hasN c i n) i = true := fun h' => by have h' : hasN c i n = true := h'; have h : hasN c i n = false := h; rw [h] at h'; cases h'
        exact ⟨by unfold i64In; omega, by omega, (flN_no (p := fun i : Nat => hasN c i n) hno).symm, (flN_no (p := fun i : Nat => hasN c i n) hno).symm, fun q _ => by rw [flI_no (p := fun i : Nat => hasN c i n) hno], by omega, by omega⟩
      · obtain rfl : i = s.nM := by omega
        rw [← he]
        exact ⟨Nat.le_refl _, rfl, fun _ _ => rfl⟩
end Go.Abs
