/- Contracts. -/
import Derived.Test.YtdhnfeoigmeopaaDoorL6
set_option maxRecDepth 100000
namespace Go.Abs
open Go
def sameN (n : Nat) (A : Nat → Int) (m : Nat) (B : Nat → Int) : Bool := decide (n = m ∧ ∀ k, k < n → A k = B k)
def allF (nB : Nat) (B O : Nat → Int) (i : Nat) : Int := if i < nB then B i else O (i - nB)
def rRise : Orc := .res fun l => dB (rise (aN l) (aX l))
theorem anyBad_app (nB : Nat) (B : Nat → Int) (nO : Nat) (O : Nat → Int) : anyBad (nB + nO) (allF nB B O) = true ↔ anyBad nB B = true ∨ anyBad nO O = true := by
  unfold anyBad
  simp only [anyN_true]
  constructor
  · rintro ⟨k, hk, h⟩
    unfold allF at h
    split at h
    · exact .inl ⟨k, by omega, h⟩
    · exact .inr ⟨k - nB, by omega, h⟩
  · rintro (⟨k, hk, h⟩ | ⟨k, hk, h⟩)
    · refine ⟨k, by omega, ?_⟩
      unfold allF; rw [if_pos hk]; exact h
    · refine ⟨nB + k, by omega, ?_⟩
      unfold allF; rw [if_neg (by omega), Nat.add_sub_cancel_left]; exact h
noncomputable def A12_ints_c (n : Nat) (A : Nat → Int) (m : Nat) (B : Nat → Int) : Ann := { orc := [], loops := [(0, { ι := Nat, keep := [0, 1], boxes := [], ts := fun _ i => [(5, dI (i : Int))], inv := fun _ i => i ≤ n ∧ ∀ j, j < i → A j = B j, mu := fun _ i => n - i, rd := fun _ σ => (iOf (σ.get 5)).toNat })], cuts := [] }
theorem ints_c (n : Nat) (A : Nat → Int) (m : Nat) (B : Nat → Int) (hn : n ≤ 1000000000) : FnC prog 12 [nums n A, nums m B] (dB (sameN n A m B)) := by
  refine FnC_owed hmix (A12_ints_c n A m B) (V := .ite ((n:Int) != (m:Int)) (.done [false = sameN n A m B]) (.loop Nat (fun a => a ≤ n ∧ ∀ (j : Nat), j < a → A j = B j) (0:Int).toNat [(0:Int) = (↑(0:Int).toNat : Int), n = n, ∀ i < n, A i = A i, m = m, ∀ i < m, B i = B i] fun i => .ite (decide ((i:Int) < (n:Int))) (.need [(0:Int) ≤ (i:Int) ∧ (i:Int) < (n:Int), (0:Int) ≤ (i:Int) ∧ (i:Int) < (m:Int)] (.ite (A (i:Int).toNat != B (i:Int).toNat) (.done [false = sameN n A m B]) (.need [i64In ((i:Int) + 1)] (.done [(i:Int) + 1 = (↑((i:Int) + 1).toNat : Int), n = n, ∀ i < n, A i = A i, m = m, ∀ i < m, B i = B i, Int.toNat ((i:Int) + 1) ≤ n ∧ ∀ (j : Nat), j < ((i:Int) + 1).toNat → A j = B j, n - ((i:Int) + 1).toNat < n - i])))) (.done [true = sameN n A m B]))) (by kernel_rfl) ?_
  simp only [VT.holds, AllT, Sq]
  refine ⟨fun h => ?_, fun h => ⟨rfl, ⟨by omega, fun j hj => (by omega)⟩, fun i ⟨hi, hb⟩ => ⟨fun hlt => ⟨⟨by omega, by omega, by omega⟩, fun hne => ?_, fun he => ⟨by unfold i64In; omega, rfl, ⟨by omega, fun j hj => ?_⟩, by omega⟩⟩, fun hge => ?_⟩⟩⟩
  · unfold sameN
    rw [eq_comm, decide_eq_false_iff_not]
    intro hx; omega
  · unfold sameN
    rw [eq_comm, decide_eq_false_iff_not]
    intro hx; exact hne (hx.2 i (by omega))
  · by_cases e : j = i
    · subst e; exact he
    · exact hb j (by omega)
  · unfold sameN
    rw [eq_comm, decide_eq_true_eq]
    exact ⟨by omega, fun j hj => hb j (by omega)⟩
noncomputable def A33_rising_c (n : Nat) (A : Nat → Int) : Ann := { orc := [], loops := [(0, { ι := Nat, keep := [0], boxes := [], ts := fun _ i => [(3, dI (i : Int))], inv := fun _ i => 1 ≤ i ∧ ∀ k, k < i → k < n → 0 < k → A (k - 1) < A k, mu := fun _ i => n - i, rd := fun _ σ => (iOf (σ.get 3)).toNat })], cuts := [] }
theorem rising_c (n : Nat) (A : Nat → Int) (hn : n ≤ 1000000) : FnC prog 33 [nums n A] (dB (rise n A)) := by
  refine FnC_owed hmix (A33_rising_c n A) (V := .loop Nat (fun a => (1:Nat) ≤ a ∧ ∀ (k : Nat), k < a → k < n → (0:Nat) < k → A (k - 1) < A k) (1:Int).toNat [(1:Int) = (↑(1:Int).toNat : Int), n = n, ∀ i < n, A i = A i] fun i => .ite (decide ((i:Int) < (n:Int))) (.need [(0:Int) ≤ (i:Int) ∧ (i:Int) < (n:Int), i64In ((i:Int) - 1), (0:Int) ≤ (i:Int) - 1 ∧ (i:Int) - 1 < (n:Int)] (.ite (decide (A (i:Int).toNat ≤ A ((i:Int) - 1).toNat)) (.done [false = rise n A]) (.need [i64In ((i:Int) + 1)] (.done [(i:Int) + 1 = (↑((i:Int) + 1).toNat : Int), n = n, ∀ i < n, A i = A i, (1:Nat) ≤ ((i:Int) + 1).toNat ∧ ∀ (k : Nat), k < ((i:Int) + 1).toNat → k < n → (0:Nat) < k → A (k - 1) < A k, n - ((i:Int) + 1).toNat < n - i])))) (.done [true = rise n A])) (by kernel_rfl) ?_
  simp only [VT.holds, AllT, Sq]
  refine ⟨rfl, ⟨Nat.le_refl _, fun k hk _ h0 => absurd hk (show ¬ k < 1 by omega)⟩, fun i ⟨hi, hb⟩ => ⟨fun hlt => ⟨⟨⟨by omega, by omega⟩, by unfold i64In; omega, by omega, by omega⟩, fun h => ?_, fun h => ⟨by unfold i64In; omega, rfl, ⟨by omega, fun k hk hn h0 => ?_⟩, by omega⟩⟩, fun hge => ?_⟩⟩
  · rw [rise, eq_comm, decide_eq_false_iff_not]
    intro hx
    have := hx i (by omega) (by omega)
    rw [show i - 1 = ((i : Int) - 1).toNat by omega] at this
    omega
  · by_cases e : k = i
    · rw [show ((i : Int) - 1).toNat = i - 1 by omega] at h
      rw [e]; omega
    · exact hb k (by omega) hn h0
  · rw [rise, eq_comm, decide_eq_true_eq]
    exact fun k hk h0 => hb k (by omega) hk h0
noncomputable def A18_systemR_c (nB : Nat) (B : Nat → Int) (nO : Nat) (O : Nat → Int) (W G L : Int) : Ann := { orc := [(1, [(3, rIn)]), (3, [(2, .row fun l => (aN l, [fun i => .val (.int .i64 (aX l i))]))]), (7, [(4, rIn)]), (9, [(2, rRise), (7, rRise)]), (11, [(2, rIn), (7, rIn), (13, rIn)])], loops := [(0, { ι := Nat, keep := [1], boxes := [1], ts := fun _ i => [(4, dI (i : Int))], rw := fun _ _ => [(3, 1, nB + nO, [fun i => .val (.int .i64 (allF nB B O i))])], inv := fun _ i => i ≤ nB + nO ∧ ∀ j, j < i → badL (allF nB B O j) = false, mu := fun _ i => nB + nO - i, rd := fun _ σ => (iOf (σ.get 4)).toNat })], cuts := [] }
noncomputable abbrev qv (nB : Nat) : Bool := !!inR (nB:Int) (1:Int) (8:Int)
noncomputable abbrev qp (W : Int) (G : Int) : Bool := !if (!inR W (1:Int) (5000:Int)) = true then true else !inR G (0:Int) (5000:Int)
theorem systemR_c (nB : Nat) (B : Nat → Int) (nO : Nat) (O : Nat → Int) (W G L : Int)  : FnC prog 18 [sys nB B nO O W G L] (dI (sysE nB B nO O W G L)) := by
  refine FnC_owed hmix (A18_systemR_c nB B nO O W G L) (V := .need [FnC prog 31 [(dI (nB:Int)), (dI (1:Int)), (dI (8:Int))] ((dB (inR (nB:Int) (1:Int) (8:Int)))), ri ((qv nB) = true), ri ((qv nB) = true), ri ((qv nB) = true), (!inR (nB:Int) (1:Int) (8:Int)) = false → (qv nB) = true] (.ite (if (!inR (nB:Int) (1:Int) (8:Int)) = true then true else decide ((nO:Int) > 8)) (.done [(11:Int) = sysE nB B nO O W G L]) (.need [FnR prog 32 [.lst nB [fun i => (dI (B i))]] nB [fun i => (dI (B i))], nB ≤ nB, (nB + nO) * (nat_lit 7 + 1) ≤ 140737488355328] (.loop Nat (fun a => a ≤ nB + nO ∧ ∀ (j : Nat), j < a → badL (allF nB B O j) = false) (0:Int).toNat [(0:Int) = (↑(0:Int).toNat : Int), (0:Nat) = 0, nB + nO = nB + nO, nB + nO = nB + nO, ∀ i < nB + nO, (if decide (i < nB) = true then B i else O (i - nB)) = allF nB B O i, nB = nB, ∀ i < nB, B i = B i, nO = nO, ∀ i < nO, O i = O i, W = W, G = G, L = L] fun i => .ite (decide ((i:Int) < (↑(nB + nO) : Int))) (.need [(0:Int) ≤ (i:Int) ∧ (i:Int) < (↑(nB + nO) : Int), addN 0 (i:Int).toNat < nB + nO, FnC prog 31 [(dI (allF nB B O (addN 0 (i:Int).toNat))), (dI (1:Int)), (dI (10000:Int))] ((dB (inR (allF nB B O (addN 0 (i:Int).toNat)) (1:Int) (10000:Int))))] (.ite (!inR (allF nB B O (addN 0 (i:Int).toNat)) (1:Int) (10000:Int)) (.done [(2:Int) = sysE nB B nO O W G L]) (.need [i64In ((i:Int) + 1)] (.done [(i:Int) + 1 = (↑((i:Int) + 1).toNat : Int), (0:Nat) = 0, nB + nO = nB + nO, nB + nO = nB + nO, ∀ i < nB + nO, allF nB B O i = allF nB B O i, nB = nB, ∀ i < nB, B i = B i, nO = nO, ∀ i < nO, O i = O i, W = W, G = G, L = L, Int.toNat ((i:Int) + 1) ≤ nB + nO ∧ ∀ (j :
     Nat), j < ((i:Int) + 1).toNat → badL (allF nB B O j) = false, nB + nO - ((i:Int) + 1).toNat < nB + nO - i])))) (.need [FnC prog 33 [.lst nB [fun i => (dI (B i))]] ((dB (rise nB B))), ri ((!!rise nB B) = true), ri ((!!rise nB B) = true), (!!rise nB B) = true → FnC prog 33 [.lst nO [fun i => (dI (O i))]] ((dB (rise nO O))), ri ((!!rise nB B) = true), (!rise nB B) = false → (!!rise nB B) = true] (.ite (if (!rise nB B) = true then true else !rise nO O) (.done [(10:Int) = sysE nB B nO O W G L]) (.need [FnC prog 31 [(dI W), (dI (1:Int)), (dI (5000:Int))] ((dB (inR W (1:Int) (5000:Int)))), ri ((!!inR W (1:Int) (5000:Int)) = true), ri ((!!inR W (1:Int) (5000:Int)) = true), (!!inR W (1:Int) (5000:Int)) = true → FnC prog 31 [(dI G), (dI (0:Int)), (dI (5000:Int))] ((dB (inR G (0:Int) (5000:Int)))), ri ((!!inR W (1:Int) (5000:Int)) = true), (!inR W (1:Int) (5000:Int)) = false → (!!inR W (1:Int) (5000:Int)) = true, ri ((qp W G) = true), ri ((qp W G) = true), (qp W G) = true → FnC prog 31 [(dI L), (dI (1:Int)), (dI (10000:Int))] ((dB (inR L (1:Int) (10000:Int)))), ri ((qp W G) = true), (if (!inR W (1:Int) (5000:Int)) = true then true else !inR G (0:Int) (5000:Int)) = false → (qp W G) = true] (.ite (if (if (!inR W (1:Int) (5000:Int)) = true then true else !inR G (0:Int) (5000:Int)) = true then true else !inR L (1:Int) (10000:Int)) (.done [(2:Int) = sysE nB B nO O W G L]) (.done [(0:Int) = sysE nB B nO O W G L]))))))))) (by kernel_rfl) ?_
  simp only [qv, qp, VT.holds, AllT, Sq]
  have rg : ∀ x lo hi, inR x lo hi = true ↔ lo ≤ x ∧ x ≤ hi := fun x lo hi => by rw [inR, decide_eq_true_eq]
  have rf : ∀ x lo hi, inR x lo hi = false ↔ ¬ (lo ≤ x ∧ x ≤ hi) := fun x lo hi => by rw [inR, decide_eq_false_iff_not]
  refine ⟨withinR_c _ _ _, fun h => ?_, fun ⟨h, h'⟩ => ?_⟩
  · rw [rf] at h
    rw [sysE, if_pos (by omega)]
  · rw [rf] at h
    have hs : ¬ (nB < 1 ∨ nB > 8 ∨ nO > 8) := by omega
    refine ⟨⟨copyR_c nB B (by omega), Nat.le_refl _, by omega⟩, ⟨rfl, fun i hi => rfl⟩, ⟨Nat.zero_le _, fun j hj => by omega⟩, fun i ⟨hi, hb⟩ => ⟨fun hlt => ?_, fun hge => ?_⟩⟩
    · simp only [addN_zero]
      refine ⟨⟨⟨by omega, by omega⟩, by omega, withinR_c _ _ _⟩, fun h2 => ?_, fun h2 => ⟨by unfold i64In; omega, rfl, ⟨by omega, fun j hj => ?_⟩, by omega⟩⟩
      · rw [sysE, if_neg hs, if_pos]
        rw [← anyBad_app]
        exact anyN_true.2 ⟨i, by omega, by rw [badL, h2]; rfl⟩
      · by_cases e : j = i
        · rw [e, badL, h2]; rfl
        · exact hb j (by omega)
    · have hA : ¬ (anyBad nB B = true ∨ anyBad nO O = true) := by
        rw [← anyBad_app]
        intro hx
        obtain ⟨k, hk, h3⟩ := anyN_true.1 hx
        rw [hb k (by omega)] at h3; cases h3
      refine ⟨⟨rising_c nB B (by omega), fun _ => rising_c nO O (by omega)⟩, fun h2 => ?_, fun h2 => ⟨⟨withinR_c _ _ _, fun _ => withinR_c _ _ _, fun _ => withinR_c _ _ _⟩, fun h3 => ?_, fun h3 => ?_⟩⟩
      · rw [sysE, if_neg hs, if_neg hA, if_pos h2]
      · have h4 : ¬ (rise nB B = false ∨ rise nO O = false) := fun hx => hx.elim h2.1 fun e => by rw [h2.2] at e; cases e
        rw [sysE, if_neg hs, if_neg hA, if_neg h4, if_pos]
        rcases h3 with (h3 | h3) | h3
        · exact .inl h3
        · exact .inr (.inl h3)
        · exact .inr (.inr h3)
      · have h4 : ¬ (rise nB B = false ∨ rise nO O = false) := fun hx => hx.elim h2.1 fun e => by rw [h2.2] at e; cases e
        rw [sysE, if_neg hs, if_neg hA, if_neg h4, if_neg]
        rintro (h5 | h5 | h5)
        · exact h3.1 (.inl h5)
        · exact h3.1 (.inr h5)
        · rw [h3.2] at h5; cases h5
end Go.Abs
