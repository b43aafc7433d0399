/- Contracts. -/
import Derived.Test.YtdhnfeoigmeopaaDoorL2
set_option maxRecDepth 100000
namespace Go.Abs
open Go
def cntN (A : Nat → Int) (v : Int) : Nat → Int
  | 0 => 0
  | k + 1 => cntN A v k + (if A k = v then 0 else 1)
theorem cntN_bd (A : Nat → Int) (v : Int) : ∀ k, 0 ≤ cntN A v k ∧ cntN A v k ≤ k
  | 0 => by simp [cntN]
  | k + 1 => by
    have := cntN_bd A v k
    simp only [cntN]
    split <;> omega
def othersL (n : Nat) (A : Nat → Int) (m : Nat) (O : Nat → Int) : Bool := anyN (fun k => !(anyN (fun j => O j == A k) m)) n
def ckE (nB : Nat) (B : Nat → Int) (nO : Nat) (O : Nat → Int) (nC : Nat) (C : Nat → Int) (nD : Nat) (D : Nat → Int) : Int :=
  if nC > 4000 ∨ nD > 4000 then 8 else if othersL nC C nB B = true ∨ othersL nD D nO O = true then 6 else if fallR nC C = false ∨ fallR nD D = false then 10 else 0
abbrev clg (nC : Nat) (C : Nat → Int) (nD : Nat) (D : Nat → Int) : DV := .agg [nums nC C, nums nD D]
def rMax : Orc := .res fun l => dI (aX l (aN l - 1))
abbrev gB (l : List DV) : Nat := lenOf (fD 0 (arg l 0))
abbrev gBf (l : List DV) : Nat → Int := colI 0 (fD 0 (arg l 0))
abbrev gO (l : List DV) : Nat := lenOf (fD 1 (arg l 0))
abbrev gOf (l : List DV) : Nat → Int := colI 0 (fD 1 (arg l 0))
abbrev gW (l : List DV) : Int := fI 2 (arg l 0)
abbrev gG (l : List DV) : Int := fI 3 (arg l 0)
abbrev gL (l : List DV) : Int := fI 4 (arg l 0)
abbrev hC (l : List DV) : Nat := lenOf (fD 0 (arg l 1))
abbrev hCf (l : List DV) : Nat → Int := colI 0 (fD 0 (arg l 1))
abbrev hD (l : List DV) : Nat := lenOf (fD 1 (arg l 1))
abbrev hDf (l : List DV) : Nat → Int := colI 0 (fD 1 (arg l 1))
def rOthers : Orc := .res fun l => dB (othersL (aN l) (aX l) (lenOf (arg l 1)) (colI 0 (arg l 1)))
def rFall : Orc := .res fun l => dB (fallR (aN l) (aX l))
def rSys : Orc := .res fun l => dI (sysE (gB l) (gBf l) (gO l) (gOf l) (gW l) (gG l) (gL l))
def rCk : Orc := .res fun l => dI (ckE (gB l) (gBf l) (gO l) (gOf l) (hC l) (hCf l) (hD l) (hDf l))
def bothE (nB : Nat) (B : Nat → Int) (nO : Nat) (O : Nat → Int) (W G L : Int) (nC : Nat) (C : Nat → Int) (nD : Nat) (D : Nat → Int) : Int :=
  if sysE nB B nO O W G L = 0 then ckE nB B nO O nC C nD D else sysE nB B nO O W G L
def rBoth : Orc := .res fun l => dI (bothE (gB l) (gBf l) (gO l) (gOf l) (gW l) (gG l) (gL l) (hC l) (hCf l) (hD l) (hDf l))
theorem sys_ok {nB : Nat} {B : Nat → Int} {nO : Nat} {O : Nat → Int} {W G L : Int} (h : sysE nB B nO O W G L = 0) : 1 ≤ nB ∧ nB ≤ 8 ∧ nO ≤ 8 ∧ (∀ k, k < nB → 1 ≤ B k ∧ B k ≤ 10000) ∧ (∀ k, k < nO → 1 ≤ O k ∧ O k ≤ 10000) ∧ rise nB B = true ∧ rise nO O = true := by
  unfold sysE at h
  split at h
  · cases h
  · split at h
    · cases h
    · rename_i h1 h2
      split at h
      · cases h
      · rename_i h3
        have hb : ∀ {n : Nat} {A : Nat → Int}, anyBad n A ≠ true → ∀ k, k < n → 1 ≤ A k ∧ A k ≤ 10000 := by
          intro n A hx k hk
          have := anyN_false.1 (Bool.eq_false_iff.2 hx) k hk
          rw [badL, Bool.not_eq_false', inR, decide_eq_true_eq] at this
          exact this
        exact ⟨by omega, by omega, by omega, hb fun hx => h2 (.inl hx), hb fun hx => h2 (.inr hx), by cases hx : rise nB B with | true => rfl | false => exact absurd (.inl hx) h3, by cases hx : rise nO O with | true => rfl | false => exact absurd (.inr hx) h3⟩
theorem others_bd {n : Nat} {A : Nat → Int} {m : Nat} {O : Nat → Int} (h : othersL n A m O = false) {k : Nat} (hk : k < n) : ∃ j, j < m ∧ O j = A k := by
  have := anyN_false.1 h k hk
  rw [Bool.not_eq_false', anyN_true] at this
  obtain ⟨j, hj, e⟩ := this
  exact ⟨j, hj, by simpa using e⟩
theorem gcd_emod (a b : Int) : Int.gcd b (a % b) = Int.gcd a b := by
  rw [Int.gcd_comm a b, Int.emod_def, Int.gcd_sub_mul_left_right]
noncomputable def A23_costOf_c (nB : Nat) (B : Nat → Int) (nO : Nat) (O : Nat → Int) (W G L : Int) (nC : Nat) (C : Nat → Int) (nD : Nat) (D : Nat → Int) : Ann := { orc := [(5, [(3, rMax)])], loops := [(0, { ι := Nat, keep := [2, 4, 5, 16, 17], boxes := [2, 4], ts := fun _ i => [(18, dI (i : Int))], bx := fun _ i => [(5, [dI ((nD : Int) + cntN C (B (nB - 1)) i), dI (nC : Int)])], inv := fun _ i => i ≤ nC, mu := fun _ i => nC - i, rd := fun _ σ => (iOf (σ.get 18)).toNat })], cuts := [] }
theorem costOf_c (nB : Nat) (B : Nat → Int) (nO : Nat) (O : Nat → Int) (W G L : Int) (nC : Nat) (C : Nat → Int) (nD : Nat) (D : Nat → Int) (h1 : 1 ≤ nB) (h2 : nB ≤ 1000) (hr : rise nB B = true) (hc : nC ≤ 1000000) (hd : nD ≤ 1000000) : FnC prog 23 [sys nB B nO O W G L, clg nC C nD D] (dP ((nD : Int) + cntN C (B (nB - 1)) nC) nC) := by
  refine FnC_owed hmix (A23_costOf_c nB B nO O W G L nC C nD D) (V := .loop Nat (fun a => a ≤ nC) (0:Int).toNat [(0:Int) = (↑(0:Int).toNat : Int), nC = nC, ∀ i < nC, C i = C i, (nC:Int) = (nC:Int), (nD:Int) = (nD:Int) + cntN C (B (nB - 1)) (0:Int).toNat, (nC:Int) = (nC:Int), nB = nB, ∀ i < nB, B i = B i, nO = nO, ∀ i < nO, O i = O i, W = W, G = G, L = L, (0:Int) = 0, (0:Int) = 0] fun i => .ite (decide ((i:Int) < (nC:Int))) (.need [(0:Int) ≤ (i:Int) ∧ (i:Int) < (nC:Int)] (.need [FnC prog 37 [.lst nB [fun i => (dI (B i))]] ((dI (B (nB - 1))))] (.ite (C (i:Int).toNat != B (nB - 1)) (.need [i64In ((nD:Int) + cntN C (B (nB - 1)) i + 1)] (.need [i64In ((i:Int) + 1)] (.done [(i:Int) + 1 = (↑((i:Int) + 1).toNat : Int), nC = nC, ∀ i < nC, C i = C i, (nC:Int) = (nC:Int), (nD:Int) + cntN C (B (nB - 1)) i + 1 = (nD:Int) + cntN C (B (nB - 1)) ((i:Int) + 1).toNat, (nC:Int) = (nC:Int), nB = nB, ∀ i < nB, B i = B i, nO = nO, ∀ i < nO, O i = O i, W = W, G = G, L = L, (0:Int) = 0, (0:Int) = 0, Int.toNat ((i:Int) + 1) ≤ nC, nC - ((i:Int) + 1).toNat < nC - i]))) (.need [i64In ((i:Int) + 1)] (.done [(i:Int) + 1 = (↑((i:Int) + 1).toNat : Int), nC = nC, ∀ i < nC, C i = C i, (nC:Int) = (nC:Int), (nD:Int) + cntN C (B (nB - 1)) i = (nD:Int) + cntN C (B (nB - 1)) ((i:Int) + 1).toNat, (nC:Int) = (nC:Int), nB = nB, ∀ i < nB, B i = B i, nO = nO, ∀ i < nO, O i = O i, W = W, G = G, L = L, (0:Int) = 0, (0:Int) = 0, Int.toNat ((i:Int) + 1) ≤ nC, nC - ((i:Int) + 1).toNat < nC - i]))))) (.done [(nD:Int) + cntN C (B (nB - 1)) i = (nD:Int)
     + cntN C (B (nB - 1)) nC, (nC:Int) = (nC:Int)])) (by kernel_rfl) ?_
  simp only [VT.holds, AllT, Sq]
  refine ⟨⟨rfl, by simp [cntN]⟩, Nat.zero_le _, fun i hi => ⟨fun hlt => ⟨by omega, max_c nB B h1 (by omega) hr, fun hne => ?_, fun he => ?_⟩, fun hge => ?_⟩⟩
  · have := cntN_bd C (B (nB - 1)) i
    exact ⟨by unfold i64In; omega, by unfold i64In; omega, rfl, by simp only [cntN]; rw [if_neg hne]; omega, by omega, by omega⟩
  · have := cntN_bd C (B (nB - 1)) i
    exact ⟨by unfold i64In; omega, rfl, by simp only [cntN]; rw [if_pos he]; omega, by omega, by omega⟩
  · rw [show i = nC by omega]
noncomputable def A36_ck_c (nB : Nat) (B : Nat → Int) (nO : Nat) (O : Nat → Int) (W G L : Int) (nC : Nat) (C : Nat → Int) (nD : Nat) (D : Nat → Int) : Ann := { orc := [(4, [(5, rOthers), (12, rOthers)]), (6, [(2, rFall), (7, rFall)])], loops := [], cuts := [] }
noncomputable abbrev qi (nC : Nat) : Bool := decide ((nC:Int) > (4000:Int))
theorem ck_c (nB : Nat) (B : Nat → Int) (nO : Nat) (O : Nat → Int) (W G L : Int) (nC : Nat) (C : Nat → Int) (nD : Nat) (D : Nat → Int) (hs : sysE nB B nO O W G L = 0) (hc : nC ≤ 1000000) (hd : nD ≤ 1000000) : FnC prog 36 [sys nB B nO O W G L, clg nC C nD D] (dI (ckE nB B nO O nC C nD D)) := by
  refine FnC_owed hmix (A36_ck_c nB B nO O W G L nC C nD D) (V := .need [ri ((!(qi nC)) = true), ri ((!(qi nC)) = true), ri ((!(qi nC)) = true), (qi nC) = false → (!(qi nC)) = true] (.ite (if (qi nC) = true then true else decide ((nD:Int) > 4000)) (.done [(8:Int) = ckE nB B nO O nC C nD D]) (.need [FnC prog 53 [.lst nC [fun i => (dI (C i))], .lst nB [fun i => (dI (B i))]] ((dB (othersL nC C nB B))), ri ((!othersL nC C nB B) = true), ri ((!othersL nC C nB B) = true), ri ((!othersL nC C nB B) = true), ri ((!othersL nC C nB B) = true), ri ((!othersL nC C nB B) = true), (!othersL nC C nB B) = true → FnC prog 53 [.lst nD [fun i => (dI (D i))], .lst nO [fun i => (dI (O i))]] ((dB (othersL nD D nO O))), othersL nC C nB B = false → (!othersL nC C nB B) = true] (.ite (if othersL nC C nB B = true then true else othersL nD D nO O) (.done [(6:Int) = ckE nB B nO O nC C nD D]) (.need [FnC prog 57 [.lst nC [fun i => (dI (C i))]] ((dB (fallR nC C))), ri ((!!fallR nC C) = true), ri ((!!fallR nC C) = true), (!!fallR nC C) = true → FnC prog 57 [.lst nD [fun i => (dI (D i))]] ((dB (fallR nD D))), ri ((!!fallR nC C) = true), (!fallR nC C) = false → (!!fallR nC C) = true] (.ite (if (!fallR nC C) = true then true else !fallR nD D) (.done [(10:Int) = ckE nB B nO O nC C nD D]) (.done [(0:Int) = ckE nB B nO O nC C nD D]))))))) (by kernel_rfl) ?_
  simp only [qi, VT.holds, AllT, Sq]
  obtain ⟨s1, s2, s3, sB, sO, _, _⟩ := sys_ok hs
  have bd : ∀ {n m : Nat} {A V : Nat → Int}, othersL n A m V = false → (∀ k, k < m → 1 ≤ V k ∧ V k ≤ 10000) → ∀ k, k < n → 1 ≤ A k ∧ A k ≤ 10000 := fun h hV k hk => by
    obtain ⟨j, hj, e⟩ := others_bd h hk
    rw [← e]; exact hV j hj
  refine ⟨fun h => ?_, fun h => ⟨⟨others_c nC C nB B hc (by omega), fun _ => others_c nD D nO O hd (by omega)⟩, fun h2 => ?_, fun h2 => ⟨⟨falling_c nC C hc (bd h2.1 sB), fun _ => falling_c nD D hd (bd h2.2 sO)⟩, fun h3 => ?_, fun h3 => ?_⟩⟩⟩
  · rw [ckE, if_pos (by omega)]
  · rw [ckE, if_neg (by omega), if_pos h2]
  · rw [ckE, if_neg (by omega), if_neg (fun hx => by rw [h2.1, h2.2] at hx; simp at hx), if_pos h3]
  · rw [ckE, if_neg (by omega), if_neg (fun hx => by rw [h2.1, h2.2] at hx; simp at hx), if_neg (fun hx => hx.elim (fun e => h3.1 e) fun e => by rw [h3.2] at e; cases e)]
noncomputable def A22_both_c (nB : Nat) (B : Nat → Int) (nO : Nat) (O : Nat → Int) (W G L : Int) (nC : Nat) (C : Nat → Int) (nD : Nat) (D : Nat → Int) : Ann := { orc := [(1, [(1, rSys)]), (4, [(2, rCk)])], loops := [], cuts := [] }
theorem both_c (nB : Nat) (B : Nat → Int) (nO : Nat) (O : Nat → Int) (W G L : Int) (nC : Nat) (C : Nat → Int) (nD : Nat) (D : Nat → Int) (hc : nC ≤ 1000000) (hd : nD ≤ 1000000) : FnC prog 22 [sys nB B nO O W G L, clg nC C nD D] (dI (bothE nB B nO O W G L nC C nD D)) := by
  refine FnC_owed hmix (A22_both_c nB B nO O W G L nC C nD D) (V := .need [FnC prog 27 [.agg [.lst nB [fun i => (dI (B i))], .lst nO [fun i => (dI (O i))], (dI W), (dI G), (dI L)]] ((dI (sysE nB B nO O W G L)))] (.ite (sysE nB B nO O W G L != 0) (.done [sysE nB B nO O W G L = bothE nB B nO O W G L nC C nD D]) (.need [FnC prog 36 [.agg [.lst nB [fun i => (dI (B i))], .lst nO [fun i => (dI (O i))], (dI W), (dI G), (dI L)], .agg [.lst nC [fun i => (dI (C i))], .lst nD [fun i => (dI (D i))]]] ((dI (ckE nB B nO O nC C nD D)))] (.done [ckE nB B nO O nC C nD D = bothE nB B nO O W G L nC C nD D])))) (by kernel_rfl) ?_
  simp only [VT.holds, AllT, Sq]
  refine ⟨system_c nB B nO O W G L, fun h => by rw [bothE, if_neg h], fun h => ⟨ck_c nB B nO O W G L nC C nD D h hc hd, by rw [bothE, if_pos h]⟩⟩
noncomputable def A11_costTop_c (nB : Nat) (B : Nat → Int) (nO : Nat) (O : Nat → Int) (W G L : Int) (nC : Nat) (C : Nat → Int) (nD : Nat) (D : Nat → Int) : Ann := { orc := [(1, [(2, rBoth)]), (4, [(2, .res fun l => dP ((hD l : Int) + cntN (hCf l) (gBf l (gB l - 1)) (hC l)) (hC l))])], loops := [], cuts := [] }
theorem costTop_c (nB : Nat) (B : Nat → Int) (nO : Nat) (O : Nat → Int) (W G L : Int) (nC : Nat) (C : Nat → Int) (nD : Nat) (D : Nat → Int) (hc : nC ≤ 1000000) (hd : nD ≤ 1000000) : FnC prog 11 [sys nB B nO O W G L, clg nC C nD D] (.tup [dP (if bothE nB B nO O W G L nC C nD D = 0 then (nD : Int) + cntN C (B (nB - 1)) nC else 0) (if bothE nB B nO O W G L nC C nD D = 0 then nC else 0), dI (bothE nB B nO O W G L nC C nD D)]) := by
  refine FnC_owed hmix (A11_costTop_c nB B nO O W G L nC C nD D) (V := .need [FnC prog 22 [.agg [.lst nB [fun i => (dI (B i))], .lst nO [fun i => (dI (O i))], (dI W), (dI G), (dI L)], .agg [.lst nC [fun i => (dI (C i))], .lst nD [fun i => (dI (D i))]]] ((dI (bothE nB B nO O W G L nC C nD D)))] (.ite (bothE nB B nO O W G L nC C nD D != 0) (.done [(0:Int) = if bothE nB B nO O W G L nC C nD D = 0 then (nD:Int) + cntN C (B (nB - 1)) nC else (0:Int), (0:Int) = if bothE nB B nO O W G L nC C nD D = 0 then (nC:Int) else (0:Int), bothE nB B nO O W G L nC C nD D = bothE nB B nO O W G L nC C nD D]) (.need [FnC prog 23 [.agg [.lst nB [fun i => (dI (B i))], .lst nO [fun i => (dI (O i))], (dI W), (dI G), (dI L)], .agg [.lst nC [fun i => (dI (C i))], .lst nD [fun i => (dI (D i))]]] (.val (.agg (Array.mk [.int .i64 ((nD:Int) + cntN C (B (nB - 1)) nC), .int .i64 (nC:Int)])))] (.done [(nD:Int) + cntN C (B (nB - 1)) nC = if bothE nB B nO O W G L nC C nD D = 0 then (nD:Int) + cntN C (B (nB - 1)) nC else (0:Int), (nC:Int) = if bothE nB B nO O W G L nC C nD D = 0 then (nC:Int) else (0:Int), (0:Int) = bothE nB B nO O W G L nC C nD D])))) (by kernel_rfl) ?_
  simp only [VT.holds, AllT, Sq]
  refine ⟨both_c nB B nO O W G L nC C nD D hc hd, fun h => by rw [if_neg h, if_neg h]; exact ⟨rfl, rfl⟩, fun h => ?_⟩
  have hs : sysE nB B nO O W G L = 0 := by
    unfold bothE at h
    split at h
    · assumption
    · exact h
  obtain ⟨s1, s2, s3, sB, sO, sr, _⟩ := sys_ok hs
  rw [if_pos h, if_pos h]
  exact ⟨costOf_c nB B nO O W G L nC C nD D s1 (by omega) sr hc hd, rfl, rfl, h.symm⟩
noncomputable def A69_gcd_c (a b : Int) : Ann := { orc := [(2, [(3, .pos)])], loops := [(0, { ι := Int × Int, keep := [], boxes := [], ts := fun _ i => [(0, dI i.1), (1, dI i.2)], inv := fun _ i => 0 ≤ i.1 ∧ 0 ≤ i.2 ∧ Int.gcd i.1 i.2 = Int.gcd a b, mu := fun _ i => i.2.toNat, rd := fun _ σ => (iOf (σ.get 0), iOf (σ.get 1)) })], cuts := [] }
theorem gcd_c (a b : Int) (h1 : 0 ≤ a) (h2 : 0 ≤ b) : FnC prog 69 [dI a, dI b] (dI (Int.gcd a b)) := by
  refine FnC_owed hmix (A69_gcd_c a b) (V := .loop (Int × Int) (fun (a_1 : Int × Int) => (0:Int) ≤ a_1.fst ∧ (0:Int) ≤ a_1.snd ∧ Int.gcd a_1.fst a_1.snd = Int.gcd a b) (a, b) [a = a, b = b] fun (i : Int × Int) => .ite (i.snd != 0) (.need [(0:Int) ≤ i.fst ∧ (0:Int) < i.snd] (.done [i.snd = i.snd, i.fst % i.snd = i.fst % i.snd, (0:Int) ≤ i.snd ∧ (0:Int) ≤ i.fst % i.snd ∧ Int.gcd i.snd (i.fst % i.snd) = Int.gcd a b, Int.toNat (i.fst % i.snd) < Int.toNat i.snd])) (.done [i.fst = (↑(Int.gcd a b) : Int)])) (by kernel_rfl) ?_
  simp only [VT.holds, AllT, Sq]
  refine ⟨⟨h1, h2⟩, fun i ⟨h1, h2, h3⟩ => ⟨fun hne => ⟨⟨h1, by omega⟩, ⟨h2, Int.emod_nonneg _ hne, ?_⟩, ?_⟩, fun he => ?_⟩⟩
  · rw [← h3, gcd_emod]
  · have := Int.emod_lt_of_pos i.1 (show 0 < i.2 by omega)
    have := Int.emod_nonneg i.1 hne
    omega
  · rw [← h3, he, Int.gcd_zero_right]
    omega
end Go.Abs
