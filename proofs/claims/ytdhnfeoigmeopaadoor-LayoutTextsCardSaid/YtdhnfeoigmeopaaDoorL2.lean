/- Contracts. -/
import Derived.Test.YtdhnfeoigmeopaaDoorL1
set_option maxRecDepth 100000
namespace Go.Abs
open Go
abbrev lists (m : Nat) (N : Nat → Nat) (A : Nat → Nat → Int) : DV := .lst m [fun i => .lst (N i) [fun k => .val (.int .i64 (A i k))]]
abbrev sys (nB : Nat) (B : Nat → Int) (nO : Nat) (O : Nat → Int) (W G L : Int) : DV := .agg [nums nB B, nums nO O, dI W, dI G, dI L]
def rise (n : Nat) (A : Nat → Int) : Bool := decide (∀ k, k < n → 0 < k → A (k - 1) < A k)
def fallR (n : Nat) (A : Nat → Int) : Bool := decide (∀ k, k < n → 0 < k → A k ≤ A (k - 1))
def anyBad (n : Nat) (A : Nat → Int) : Bool := anyN (fun k => badL (A k)) n
def lenE (m : Nat) (N : Nat → Nat) (A : Nat → Nat → Int) : Int := if anyN (fun i => anyBad (N i) (A i)) m = true then 2 else if anyN (fun i => !(rise (N i) (A i))) m = true then 10 else 0
theorem anyN_true {p : Nat → Bool} {n : Nat} : anyN p n = true ↔ ∃ k, k < n ∧ p k = true := by
  unfold anyN
  rw [Bool.not_eq_true', decide_eq_false_iff_not]
  constructor
  · intro h
    apply Classical.byContradiction
    intro h'
    apply h
    intro k hk
    cases hp : p k with
    | false => rfl
    | true => exact absurd ⟨k, hk, hp⟩ h'
  · intro ⟨k, hk, hp⟩ h
    rw [h k hk] at hp; cases hp
theorem anyN_false {p : Nat → Bool} {n : Nat} : anyN p n = false ↔ ∀ k, k < n → p k = false := by
  unfold anyN
  rw [Bool.not_eq_false', decide_eq_true_eq]
def rBads : Orc := .res fun l => dB (anyN (fun k => badL (aX l k)) (aN l))
def sysE (nB : Nat) (B : Nat → Int) (nO : Nat) (O : Nat → Int) (W G L : Int) : Int :=
  if nB < 1 ∨ nB > 8 ∨ nO > 8 then 11 else if anyBad nB B = true ∨ anyBad nO O = true then 2 else if rise nB B = false ∨ rise nO O = false then 10
  else if inR W 1 5000 = false ∨ inR G 0 5000 = false ∨ inR L 1 10000 = false then 2 else 0
def rLens : Orc := .res fun l => dI (lenE (lenOf (arg l 0)) (fun i => lenOf (colD 0 (arg l 0) i)) (fun i k => colI 0 (colD 0 (arg l 0) i) k))
theorem any2 (p : Nat → Bool) : anyN p 2 = true ↔ p 0 = true ∨ p 1 = true := by
  rw [anyN_true]
  constructor
  · rintro ⟨k, hk, hp⟩
    match k, hk, hp with
    | 0, _, hp => exact .inl hp
    | 1, _, hp => exact .inr hp
  · rintro (h | h)
    · exact ⟨0, by omega, h⟩
    · exact ⟨1, by omega, h⟩
theorem lenE2 (N : Nat → Nat) (A : Nat → Nat → Int) : lenE 2 N A = if anyBad (N 0) (A 0) = true ∨ anyBad (N 1) (A 1) = true then 2 else if rise (N 0) (A 0) = false ∨ rise (N 1) (A 1) = false then 10 else 0 := by
  unfold lenE
  simp only [any2, Bool.not_eq_true']
noncomputable def A47_lengths_c (m : Nat) (N : Nat → Nat) (A : Nat → Nat → Int) : Ann := { orc := [(4, [(1, rBads)])], loops := [(0, { ι := Nat, keep := [0, 8, 9], boxes := [], ts := fun _ i => [(10, dI (i : Int))], inv := fun _ i => i ≤ m ∧ ∀ j, j < i → anyBad (N j) (A j) = false, mu := fun _ i => m - i, rd := fun _ σ => (iOf (σ.get 10)).toNat }), (2, { ι := Nat, keep := [0, 17, 18], boxes := [], ts := fun _ i => [(19, dI (i : Int))], inv := fun _ i => i ≤ m ∧ ∀ j, j < i → rise (N j) (A j) = true, mu := fun _ i => m - i, rd := fun _ σ => (iOf (σ.get 19)).toNat }), (4, { ι := Nat, keep := [0, 6, 17, 18, 19, 23, 24], boxes := [], ts := fun _ i => [(25, dI (i : Int))], inv := fun σ k => k ≤ lenOf (σ.get 6) ∧ ∀ j, j < k → 0 < j → colI 0 (σ.get 6) (j - 1) < colI 0 (σ.get 6) j, mu := fun σ i => lenOf (σ.get 6) - i, rd := fun _ σ => (iOf (σ.get 25)).toNat })], cuts := [] }
theorem lengths_c (m : Nat) (N : Nat → Nat) (A : Nat → Nat → Int) (hm : m ≤ 1000) (hN : ∀ i, i < m → N i ≤ 1000000) : FnC prog 47 [lists m N A] (dI (lenE m N A)) := by
  refine FnC_owed hmix (A47_lengths_c m N A) (V := .loop Nat (fun a => a ≤ m ∧ ∀ (j : Nat), j < a → anyBad (N j) (A j) = false) (0:Int).toNat [(0:Int) = (↑(0:Int).toNat : Int), m = m, ∀ i < m, N i = N i ∧ ∀ i_1 < N i, A i i_1 = A i i_1, m = m, ∀ i < m, N i = N i ∧ ∀ i_1 < N i, A i i_1 = A i i_1, (m:Int) = (m:Int)] fun i => .ite (decide ((i:Int) < (m:Int))) (.need [(0:Int) ≤ (i:Int) ∧ (i:Int) < (m:Int)] (.need [FnC prog 54 [.lst (N (i:Int).toNat) [fun k => (dI (A (i:Int).toNat k))], .val (Value.func (Fn.func 65) (Array.mk []) (Array.mk []))] ((dB (anyN (fun k => badL (A (i:Int).toNat k)) (N (i:Int).toNat))))] (.ite (anyN (fun k => badL (A (i:Int).toNat k)) (N (i:Int).toNat)) (.done [(2:Int) = lenE m N A]) (.need [i64In ((i:Int) + 1)] (.done [(i:Int) + 1 = (↑((i:Int) + 1).toNat : Int), m = m, ∀ i < m, N i = N i ∧ ∀ i_1 < N i, A i i_1 = A i i_1, m = m, ∀ i < m, N i = N i ∧ ∀ i_1 < N i, A i i_1 = A i i_1, (m:Int) = (m:Int), Int.toNat ((i:Int) + 1) ≤ m ∧ ∀ (j : Nat), j < ((i:Int) + 1).toNat → anyBad (N j) (A j) = false, m - ((i:Int) + 1).toNat < m - i]))))) (.loop Nat (fun a => a ≤ m ∧ ∀ (j : Nat), j < a → rise (N j) (A j) = true) (0:Int).toNat [(0:Int) = (↑(0:Int).toNat : Int), m = m, ∀ i < m, N i = N i ∧ ∀ i_1 < N i, A i i_1 = A i i_1, m = m, ∀ i < m, N i = N i ∧ ∀ i_1 < N i, A i i_1 = A i i_1, (m:Int) = (m:Int)] fun i => .ite (decide ((i:Int) < (m:Int))) (.need [(0:Int) ≤ (i:Int) ∧ (i:Int) < (m:Int)] (.loop Nat (fun a => a ≤ N (i:Int).toNat ∧ ∀ (j : Nat), j < a → (0:Nat) < j → A (i:Int).toNat (j - 1) < A (i:Int).toNat j) (0:Int).toNat [(0:Int) = (↑(0:Int).toNat : Int), m = m,
     ∀ i < m, N i = N i ∧ ∀ i_1 < N i, A i i_1 = A i i_1, N (i:Int).toNat = N (i:Int).toNat, ∀ i_1 < N (i:Int).toNat, A (i:Int).toNat i_1 = A (i:Int).toNat i_1, m = m, ∀ i < m, N i = N i ∧ ∀ i_1 < N i, A i i_1 = A i i_1, (m:Int) = (m:Int), (i:Int) = (i:Int), N (i:Int).toNat = N (i:Int).toNat, ∀ i_1 < N (i:Int).toNat, A (i:Int).toNat i_1 = A (i:Int).toNat i_1, (↑(N (i:Int).toNat) : Int) = (↑(N (i:Int).toNat) : Int)] fun i_1 => .ite (decide ((i_1:Int) < (↑(N (i:Int).toNat) : Int))) (.need [ri (decide ((i_1:Int) > 0) = true), decide ((i_1:Int) > 0) = true → i64In ((i_1:Int) - 1), ri (decide ((i_1:Int) > 0) = true), ri (decide ((i_1:Int) > 0) = true), decide ((i_1:Int) > 0) = true → (0:Int) ≤ (i_1:Int) - 1 ∧ (i_1:Int) - 1 < (↑(N (i:Int).toNat) : Int), ri (decide ((i_1:Int) > 0) = true), ri (decide ((i_1:Int) > 0) = true), ri (decide ((i_1:Int) > 0) = true), decide ((i_1:Int) > 0) = true → (0:Int) ≤ (i_1:Int) ∧ (i_1:Int) < (↑(N (i:Int).toNat) : Int), ri (decide ((i_1:Int) > 0) = true), ri (decide ((i_1:Int) > 0) = true), ri (decide ((i_1:Int) > 0) = true), ri (decide ((i_1:Int) > 0) = true)] (.ite (if decide ((i_1:Int) > 0) = true then decide (A (i:Int).toNat (Int.toNat
     ((i_1:Int) - 1)) ≥ A (i:Int).toNat (i_1:Int).toNat) else false) (.done [(10:Int) = lenE m N A]) (.need [i64In ((i_1:Int) + 1)] (.done [(i_1:Int) + 1 = (↑((i_1:Int) + 1).toNat : Int), m = m, ∀ i < m, N i = N i ∧ ∀ i_2 < N i, A i i_2 = A i i_2, N (i:Int).toNat = N (i:Int).toNat, ∀ i_2 < N (i:Int).toNat, A (i:Int).toNat i_2 = A (i:Int).toNat i_2, m = m, ∀ i < m, N i = N i ∧ ∀ i_2 < N i, A i i_2 = A i i_2, (m:Int) = (m:Int), (i:Int) = (i:Int), N (i:Int).toNat = N (i:Int).toNat, ∀ i_2 < N (i:Int).toNat, A (i:Int).toNat i_2 = A (i:Int).toNat i_2, (↑(N (i:Int).toNat) : Int) = (↑(N (i:Int).toNat) : Int), Int.toNat ((i_1:Int) + 1) ≤ N (i:Int).toNat ∧ ∀ (j : Nat), j < ((i_1:Int) + 1).toNat → (0:Nat) < j → A (i:Int).toNat (j - 1) < A (i:Int).toNat j, N (i:Int).toNat - ((i_1:Int) + 1).toNat < N (i:Int).toNat - i_1])))) (.need [i64In ((i:Int) + 1)] (.done [(i:Int) + 1 = (↑((i:Int) + 1).toNat : Int), m = m, ∀ i < m, N i = N i ∧ ∀ i_2 < N i, A i i_2 = A i i_2, m = m, ∀ i < m, N i = N i ∧ ∀ i_2 < N i, A i i_2 = A i i_2, (m:Int) = (m:Int), Int.toNat ((i:Int) + 1) ≤ m ∧ ∀ (j : Nat), j < ((i:Int) + 1).toNat → rise (N j) (A j) = true, m - ((i:Int) + 1).toNat < m - i])))) (.done [(0:Int) = lenE m N A]))) (by kernel_rfl) ?_
  simp only [VT.holds, AllT, Sq]
  refine ⟨rfl, ⟨Nat.zero_le m, fun j hj => by omega⟩, fun i ⟨hi, hb⟩ => ⟨fun hlt => ⟨by omega, ?_, fun h => ?_, fun h => ⟨by unfold i64In; omega, rfl, ⟨by omega, fun j hj => ?_⟩, by omega⟩⟩, fun hge => ⟨rfl, ⟨Nat.zero_le m, fun j hj => by omega⟩, fun i' ⟨hi', hb'⟩ => ⟨fun hlt => ⟨by omega, rfl, ⟨Nat.zero_le _, fun j hj => by omega⟩, fun k ⟨hk, hbk⟩ => ⟨fun hkl => ⟨⟨fun _ => ?_, fun _ => by omega, fun _ => by omega⟩, fun h => ?_, fun h => ⟨?_, rfl, ⟨by omega, fun j hj h0 => ?_⟩, by omega⟩⟩, fun hkg => ⟨by unfold i64In; omega, rfl, ⟨by omega, fun j hj => ?_⟩, by omega⟩⟩⟩, fun hge' => ?_⟩⟩⟩⟩
  · obtain ⟨r, hr⟩ := isFirst_exists (fun k => badL (A i k)) (N i)
    exact contains_c 65 badL (N i) (A i) r (hN i (by omega)) bad_c hr
  · rw [lenE, if_pos (anyN_true.2 ⟨i, by omega, h⟩)]
  · by_cases e : j = i
    · rw [e]; exact h
    · exact hb j (by omega)
  · have := hN i' (by omega); unfold i64In; omega
  · have hall : anyN (fun i => anyBad (N i) (A i)) m = false := anyN_false.2 fun j hj => hb j (by omega)
    rw [lenE, hall, if_neg (by simp), if_pos (anyN_true.2 ⟨i', by omega, ?_⟩)]
    rw [Bool.not_eq_true', rise, decide_eq_false_iff_not]
    intro hx
    have := hx k (by omega) (by omega)
    have e : ((k : Int) - 1).toNat = k - 1 := by omega
    rw [e] at h
    omega
  · have := hN i' (by omega); unfold i64In; omega
  · by_cases e : j = k
    · subst e
      have := h (by omega)
      have e : ((j : Int) - 1).toNat = j - 1 := by omega
      rw [e] at this
      omega
    · exact hbk j (by omega) h0
  · by_cases e : j = i'
    · rw [e, rise, decide_eq_true_eq]; exact fun k hk => hbk k (by omega)
    · exact hb' j (by omega)
  · have hall : anyN (fun i => anyBad (N i) (A i)) m = false := anyN_false.2 fun j hj => hb j (by omega)
    have hall2 : anyN (fun i => !(rise (N i) (A i))) m = false := anyN_false.2 fun j hj => by rw [hb' j (by omega)]; rfl
    rw [lenE, hall, hall2]; rfl
noncomputable def A27_system_c (nB : Nat) (B : Nat → Int) (nO : Nat) (O : Nat → Int) (W G L : Int) : Ann := { orc := [(1, [(3, rIn)]), (3, [(5, rLens)]), (6, [(2, rIn), (7, rIn), (13, rIn)])], loops := [], cuts := [] }
noncomputable abbrev qw (nB : Nat) : Bool := !!inR (nB:Int) (1:Int) (8:Int)
noncomputable abbrev qn (W : Int) (G : Int) : Bool := !if (!inR W (1:Int) (5000:Int)) = true then true else !inR G (0:Int) (5000:Int)
theorem system_c (nB : Nat) (B : Nat → Int) (nO : Nat) (O : Nat → Int) (W G L : Int)  : FnC prog 27 [sys nB B nO O W G L] (dI (sysE nB B nO O W G L)) := by
  refine FnC_owed hmix (A27_system_c nB B nO O W G L) (V := .need [FnC prog 46 [(dI (nB:Int)), (dI (1:Int)), (dI (8:Int))] ((dB (inR (nB:Int) (1:Int) (8:Int)))), ri ((qw nB) = true), ri ((qw nB) = true), ri ((qw nB) = true), (!inR (nB:Int) (1:Int) (8:Int)) = false → (qw nB) = true] (.ite (if (!inR (nB:Int) (1:Int) (8:Int)) = true then true else decide ((nO:Int) > 8)) (.done [(11:Int) = sysE nB B nO O W G L]) (.need [(2:Nat) ≤ 2, FnC prog 47 [.lst (2:Nat) [fun i => .lst (if decide (i = 0) = true then nB else nO) [fun i_1 => (dI (if decide (i = 0) = true then B i_1 else O i_1))]]] ((dI (lenE 2 (fun i => if decide (i = 0) = true then nB else nO) fun (i k : Nat) => if decide (i = 0) = true then B k else O k)))] (.ite ((lenE 2 (fun i => if decide (i = 0) = true then nB else nO) fun (i k : Nat) => if decide (i = 0) = true then B k else O k) != 0) (.done [(lenE 2 (fun i => if decide (i = 0) = true then nB else nO) fun (i k : Nat) => if decide (i = 0) = true then B k else O k) = sysE nB B nO O W G L]) (.need [FnC prog 46 [(dI W), (dI (1:Int)), (dI (5000:Int))] ((dB (inR W (1:Int) (5000:Int)))), ri ((!!inR W (1:Int) (5000:Int)) = true), ri ((!!inR W (1:Int) (5000:Int)) = true), (!!inR W (1:Int) (5000:Int)) = true → FnC prog 46 [(dI G), (dI (0:Int)), (dI (5000:Int))] ((dB (inR G (0:Int) (5000:Int)))), ri ((!!inR W (1:Int) (5000:Int)) = true), (!inR W (1:Int) (5000:Int)) = false → (!!inR W (1:Int) (5000:Int)) = true, ri ((qn W G) = true), ri ((qn W G) = true), (qn W G) = true → FnC prog 46 [(dI L), (dI (1:Int)), (dI (10000
     : Int))] ((dB (inR L (1:Int) (10000:Int)))), ri ((qn W G) = true), (if (!inR W (1:Int) (5000:Int)) = true then true else !inR G (0:Int) (5000:Int)) = false → (qn W G) = true] (.ite (if (if (!inR W (1:Int) (5000:Int)) = true then true else !inR G (0:Int) (5000:Int)) = true then true else !inR L (1:Int) (10000:Int)) (.done [(2:Int) = sysE nB B nO O W G L]) (.done [(0:Int) = sysE nB B nO O W G L]))))))) (by kernel_rfl) ?_
  simp only [qw, qn, VT.holds, AllT, Sq]
  have hE : lenE 2 (fun i => if i = 0 then nB else nO) (fun i k => if i = 0 then B k else O k) = if anyBad nB B = true ∨ anyBad nO O = true then 2 else if rise nB B = false ∨ rise nO O = false then 10 else 0 := lenE2 _ _
  have hin : ∀ x lo hi : Int, inR x lo hi = false ↔ ¬ (lo ≤ x ∧ x ≤ hi) := fun x lo hi => decide_eq_false_iff_not
  refine ⟨within_c _ _ _, fun h => ?_, fun h => ⟨⟨by omega, ?_⟩, fun hne => ?_, fun he => ⟨⟨within_c _ _ _, fun _ => within_c _ _ _, fun _ => within_c _ _ _⟩, fun h2 => ?_, fun h2 => ?_⟩⟩⟩
  · rw [hin] at h
    rw [sysE, if_pos (by omega)]
  · exact lengths_c 2 (fun i => if i = 0 then nB else nO) (fun i k => if i = 0 then B k else O k) (by omega) fun i _ => by
      obtain ⟨h1, h2⟩ := h
      rw [hin] at h1
      show (if i = 0 then nB else nO) ≤ 1000000
      split <;> omega
  · obtain ⟨h1, h2⟩ := h
    rw [hin] at h1
    rw [sysE, if_neg (by omega)]
    rw [hE] at hne ⊢
    by_cases c1 : anyBad nB B = true ∨ anyBad nO O = true
    · rw [if_pos c1, if_pos c1]
    · rw [if_neg c1] at hne
      rw [if_neg c1, if_neg c1]
      by_cases c2 : rise nB B = false ∨ rise nO O = false
      · rw [if_pos c2, if_pos c2]
      · rw [if_neg c2] at hne; exact absurd rfl hne
  all_goals
    obtain ⟨h1, h3⟩ := h
    rw [hin] at h1
    rw [sysE, if_neg (by omega)]
    rw [hE] at he
    by_cases c1 : anyBad nB B = true ∨ anyBad nO O = true
    · rw [if_pos c1] at he; cases he
    · rw [if_neg c1] at he
      rw [if_neg c1]
      by_cases c2 : rise nB B = false ∨ rise nO O = false
      · rw [if_pos c2] at he; cases he
      · rw [if_neg c2]
        first
        | rw [if_pos (by rcases h2 with (h | h) | h <;> simp [h])]
        | rw [if_neg (fun hx => by
            obtain ⟨ha, hb⟩ := h2
            rcases hx with h | h | h
            · exact ha (.inl h)
            · exact ha (.inr h)
            · rw [hb] at h; cases h)]
noncomputable def A32_copyR_c (n : Nat) (A : Nat → Int) : Ann := { orc := [], loops := [], cuts := [] }
theorem copyR_c (n : Nat) (A : Nat → Int) (hn : n ≤ 1000000) : FnR prog 32 [nums n A] n [fun i => .val (.int .i64 (A i))] := by
  refine FnR_owed hmix (A32_copyR_c n A) (V := .need [(0:Nat) ≤ 0, ((0:Nat) + n) * (nat_lit 7 + 1) ≤ 140737488355328] (.done [(0:Nat) + n = n ∧ (0:Nat) + n ≤ 0 + n, ∀ i < n, (if decide (i < 0) = true then (0:Int) else A (i - 0)) = A i])) (by kernel_rfl) ?_
  simp only [VT.holds, AllT, Sq]
  exact ⟨⟨by omega, by omega⟩, ⟨by omega, by omega⟩, fun i _ => by rw [if_neg (by omega)] <;> rfl⟩
noncomputable def A9_plain_c  : Ann := { orc := [], loops := [], cuts := [] }
theorem plain_c   : FnC prog 9 [] (sys 2 (fun i => [1000, 2500].getD i 0) 1 (fun _ => 500) 700 300 2000) := by
  refine FnC_owed hmix (A9_plain_c ) (V := .done [(2:Nat) ≤ 2, (1:Nat) ≤ 1, (2:Nat) = 2, ∀ i < 2, List.getD [(1000:Int), (2500:Int)] i (0:Int) = List.getD [(1000:Int), (2500:Int)] i (0:Int), (1:Nat) = 1, ∀ i < 1, (500:Int) = 500, (700:Int) = 700, (300:Int) = 300, (2000:Int) = 2000]) (by kernel_rfl) ?_
  simp only [VT.holds, AllT, Sq]
  omega
noncomputable def A72_sorted_c (n : Nat) (A : Nat → Int) : Ann := { orc := [(4, [(10, .res fun l => dI (aI l 1 - aI l 0))])], loops := [(0, { ι := Int, keep := [0, 1], boxes := [], ts := fun _ i => [(5, dI i)], inv := fun _ i => -1 ≤ i ∧ i ≤ (n : Int) - 1 ∧ ∀ k : Nat, i < (k : Int) → k < n → 0 < k → A k ≤ A (k - 1), mu := fun _ i => (i + 1).toNat, rd := fun _ σ => iOf (σ.get 5) })], cuts := [] }
theorem sorted_c (n : Nat) (A : Nat → Int) (hn : n ≤ 1000000) (hA : ∀ k, k < n → 1 ≤ A k ∧ A k ≤ 10000) : FnC prog 72 [nums n A, .val (.func (.func 73) #[] #[])] (dB (fallR n A)) := by
  refine FnC_owed hmix (A72_sorted_c n A) (V := .need [i64In ((n:Int) - 1)] (.loop Int (fun (a : Int) => (-1:Int) ≤ a ∧ a ≤ (n:Int) - 1 ∧ ∀ (k : Nat), a < (k:Int) → k < n → (0:Nat) < k → A k ≤ A (k - 1)) ((n:Int) - 1) [(n:Int) - 1 = (n:Int) - 1, n = n, ∀ i < n, A i = A i, Value.func (Fn.func (73 : FuncId)) (Array.mk []) (Array.mk []) = Value.func (Fn.func (73 : FuncId)) (Array.mk []) (Array.mk [])] fun (i : Int) => .ite (decide (i > 0)) (.need [(0:Int) ≤ i ∧ i < (n:Int), i64In (i - 1), (0:Int) ≤ i - 1 ∧ i - 1 < (n:Int), FnC prog (73 : FuncId) [(dI (A i.toNat)), (dI (A (i - 1).toNat))] ((dI (A (i - 1).toNat - A i.toNat)))] (.ite (decide (A (i - 1).toNat - A i.toNat < 0)) (.done [false = fallR n A]) (.need [i64In (i - 1)] (.done [i - 1 = i - 1, n = n, ∀ i < n, A i = A i, Value.func (Fn.func (73 : FuncId)) (Array.mk []) (Array.mk []) = Value.func (Fn.func (73 : FuncId)) (Array.mk []) (Array.mk []), (-1:Int) ≤ i - 1 ∧ i - 1 ≤ (n:Int) - 1 ∧ ∀ (k : Nat), i - 1 < (k:Int) → k < n → (0:Nat) < k → A k ≤ A (k - 1), Int.toNat (i - 1 + 1) < (i + 1).toNat])))) (.done [true = fallR n A]))) (by kernel_rfl) ?_
  simp only [VT.holds, AllT, Sq]
  refine ⟨by unfold i64In; omega, ⟨by omega, by omega, fun k _ _ _ => by omega⟩, fun i ⟨h1, h2, h3⟩ => ⟨fun hp => ⟨⟨by omega, by unfold i64In; omega, by omega, ?_⟩, fun h => ?_, fun h => ⟨by unfold i64In; omega, ⟨by omega, by omega, fun k hk hkn h0 => ?_⟩, by omega⟩⟩, fun hp => ?_⟩⟩
  · have a1 := hA i.toNat (by omega)
    have a2 := hA (i - 1).toNat (by omega)
    exact fall_c _ _ (by omega) (by omega)
  · rw [fallR, eq_comm, decide_eq_false_iff_not]
    intro hx
    have := hx i.toNat (by omega) (by omega)
    rw [show i.toNat - 1 = (i - 1).toNat by omega] at this
    omega
  · by_cases e : i < (k : Int)
    · exact h3 k e hkn h0
    · have : k = i.toNat := by omega
      subst this
      rw [show i.toNat - 1 = (i - 1).toNat by omega]
      omega
  · rw [fallR, eq_comm, decide_eq_true_eq]
    exact fun k hk h0 => h3 k (by omega) hk h0
noncomputable def A57_falling_c (n : Nat) (A : Nat → Int) : Ann := { orc := [(1, [(1, .res fun l => dB (fallR (aN l) (aX l)))])], loops := [], cuts := [] }
theorem falling_c (n : Nat) (A : Nat → Int) (hn : n ≤ 1000000) (hA : ∀ k, k < n → 1 ≤ A k ∧ A k ≤ 10000) : FnC prog 57 [nums n A] (dB (fallR n A)) := by
  refine FnC_owed hmix (A57_falling_c n A) (V := .need [FnC prog 72 [.lst n [fun i => (dI (A i))], .val (Value.func (Fn.func 73) (Array.mk []) (Array.mk []))] ((dB (fallR n A)))] (.done [fallR n A = fallR n A])) (by kernel_rfl) ?_
  simp only [VT.holds, AllT, Sq]
  exact sorted_c n A hn hA
noncomputable def A37_max_c (n : Nat) (A : Nat → Int) : Ann := { orc := [], loops := [(0, { ι := Nat, keep := [0], boxes := [], ts := fun _ i => [(4, dI (i : Int)), (3, dI (A (i - 1)))], inv := fun _ i => 1 ≤ i ∧ i ≤ n, mu := fun _ i => n - i, rd := fun _ σ => (iOf (σ.get 4)).toNat })], cuts := [] }
theorem max_c (n : Nat) (A : Nat → Int) (h1 : 1 ≤ n) (hn : n ≤ 1000000) (hr : rise n A = true) : FnC prog 37 [nums n A] (dI (A (n - 1))) := by
  refine FnC_owed hmix (A37_max_c n A) (V := .ite (decide ((n:Int) < 1)) (.need [False, False] (.need [(0:Int) ≤ 0 ∧ (0:Int) < (n:Int)] (.loop Nat (fun a => (1:Nat) ≤ a ∧ a ≤ n) (1:Int).toNat [(1:Int) = (↑(1:Int).toNat : Int), A (0:Int).toNat = A (Int.toNat (1:Int) - 1), n = n, ∀ i < n, A i = A i] fun i => .ite (decide ((i:Int) < (n:Int))) (.need [(0:Int) ≤ (i:Int) ∧ (i:Int) < (n:Int)] (.need [i64In ((i:Int) + 1)] (.done [(i:Int) + 1 = (↑((i:Int) + 1).toNat : Int), maxs (A (i - 1)) [A (i:Int).toNat] = A (Int.toNat ((i:Int) + 1) - 1), n = n, ∀ i < n, A i = A i, (1:Nat) ≤ ((i:Int) + 1).toNat ∧ Int.toNat ((i:Int) + 1) ≤ n, n - ((i:Int) + 1).toNat < n - i]))) (.done [A (i - 1) = A (n - 1)])))) (.need [(0:Int) ≤ 0 ∧ (0:Int) < (n:Int)] (.loop Nat (fun a => (1:Nat) ≤ a ∧ a ≤ n) (1:Int).toNat [(1:Int) = (↑(1:Int).toNat : Int), A (0:Int).toNat = A (Int.toNat (1:Int) - 1), n = n, ∀ i < n, A i = A i] fun i => .ite (decide ((i:Int) < (n:Int))) (.need [(0:Int) ≤ (i:Int) ∧ (i:Int) < (n:Int)] (.need [i64In ((i:Int) + 1)] (.done [(i:Int) + 1 = (↑((i:Int) + 1).toNat : Int), maxs (A (i - 1)) [A (i:Int).toNat] = A (Int.toNat ((i:Int) + 1) - 1), n = n, ∀ i < n, A i = A i, (1:Nat) ≤ ((i:Int) + 1).toNat ∧ Int.toNat ((i:Int) + 1) ≤ n, n - ((i:Int) + 1).toNat < n - i]))) (.done [A (i - 1) = A (n - 1)])))) (by kernel_rfl) ?_
  simp only [VT.holds, AllT, Sq]
  have hs : ∀ k, k < n → 0 < k → A (k - 1) < A k := by rw [rise, decide_eq_true_eq] at hr; exact hr
  refine ⟨fun h => absurd h (by omega), fun _ => ⟨by omega, ⟨rfl, rfl⟩, ⟨by omega, by omega⟩, fun i ⟨h2, h3⟩ => ⟨fun hlt => ⟨by omega, by unfold i64In; omega, rfl, ?_, ⟨by omega, by omega⟩, by omega⟩, fun hge => by rw [show i = n by omega]⟩⟩⟩
  have := hs i (by omega) (by omega)
  simp only [maxs, Nat.add_sub_cancel]
  rw [if_pos (by omega)]
end Go.Abs
