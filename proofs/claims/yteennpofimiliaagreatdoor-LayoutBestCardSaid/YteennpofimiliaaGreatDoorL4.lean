/- Contracts. Contracts. -/
import Derived.Test.YteennpofimiliaaGreatDoorL2
import Derived.Test.YteennpofimiliaaGreatDoorLm
section
set_option linter.unusedVariables false
set_option linter.unusedSimpArgs false
set_option maxRecDepth 100000
namespace Go.Abs.Lay
open Go
def cntN (A : Nat → Int) (v : Int) : Nat → Int
  | 0 => 0
  | k + 1 => cntN A v k + (if A k = v then 0 else 1)
theorem cntN_bd (A : Nat → Int) (v : Int) : ∀ k, 0 ≤ cntN A v k ∧ cntN A v k ≤ k
  | 0 => by simp [cntN]
  | k + 1 => by
    have := cntN_bd A v k
    simp only [cntN]
    split <;> omega
def others (n : Nat) (A : Nat → Int) (m : Nat) (O : Nat → Int) : Bool := anyN (fun k => !(anyN (fun j => O j == A k) m)) n
def ckE (nB : Nat) (B : Nat → Int) (nO : Nat) (O : Nat → Int) (nC : Nat) (C : Nat → Int) (nD : Nat) (D : Nat → Int) : Int :=
  if nC > 4000 ∨ nD > 4000 then 8 else if others nC C nB B = true ∨ others nD D nO O = true then 6 else if fallR nC C = false ∨ fallR nD D = false then 10 else 0
abbrev clg (nC : Nat) (C : Nat → Int) (nD : Nat) (D : Nat → Int) : DV := .agg [nums nC C, nums nD D]
def rMax : Orc := .res fun l => dI (aX l (aN l - 1))
abbrev gB (l : List DV) : Nat := lenOf (fD 0 (arg l 0))
abbrev gBf (l : List DV) : Nat → Int := colI 0 (fD 0 (arg l 0))
abbrev gO (l : List DV) : Nat := lenOf (fD 1 (arg l 0))
abbrev gOf (l : List DV) : Nat → Int := colI 0 (fD 1 (arg l 0))
abbrev gW (l : List DV) : Int := fI 2 (arg l 0)
abbrev gG (l : List DV) : Int := fI 3 (arg l 0)
abbrev gL (l : List DV) : Int := fI 4 (arg l 0)
abbrev hC (l : List DV) : Nat := lenOf (fD 0 (arg l 1))
abbrev hCf (l : List DV) : Nat → Int := colI 0 (fD 0 (arg l 1))
abbrev hD (l : List DV) : Nat := lenOf (fD 1 (arg l 1))
abbrev hDf (l : List DV) : Nat → Int := colI 0 (fD 1 (arg l 1))
def rOthers : Orc := .res fun l => dB (others (aN l) (aX l) (lenOf (arg l 1)) (colI 0 (arg l 1)))
def rFall : Orc := .res fun l => dB (fallR (aN l) (aX l))
def rSys : Orc := .res fun l => dI (sysE (gB l) (gBf l) (gO l) (gOf l) (gW l) (gG l) (gL l))
def rCk : Orc := .res fun l => dI (ckE (gB l) (gBf l) (gO l) (gOf l) (hC l) (hCf l) (hD l) (hDf l))
def bothE (nB : Nat) (B : Nat → Int) (nO : Nat) (O : Nat → Int) (W G L : Int) (nC : Nat) (C : Nat → Int) (nD : Nat) (D : Nat → Int) : Int :=
  if sysE nB B nO O W G L = 0 then ckE nB B nO O nC C nD D else sysE nB B nO O W G L
def rBoth : Orc := .res fun l => dI (bothE (gB l) (gBf l) (gO l) (gOf l) (gW l) (gG l) (gL l) (hC l) (hCf l) (hD l) (hDf l))
theorem sys_ok {nB : Nat} {B : Nat → Int} {nO : Nat} {O : Nat → Int} {W G L : Int} (h : sysE nB B nO O W G L = 0) : 1 ≤ nB ∧ nB ≤ 8 ∧ nO ≤ 8 ∧ (∀ k, k < nB → 1 ≤ B k ∧ B k ≤ 10000) ∧ (∀ k, k < nO → 1 ≤ O k ∧ O k ≤ 10000) ∧ rise nB B = true ∧ rise nO O = true := by
  unfold sysE at h
  split at h
  · cases h
  · split at h
    · cases h
    · rename_i h1 h2
      split at h
      · cases h
      · rename_i h3
        have hb : ∀ {n : Nat} {A : Nat → Int}, anyBad n A ≠ true → ∀ k, k < n → 1 ≤ A k ∧ A k ≤ 10000 := by
          intro n A hx k hk
          have := anyN_false.1 (Bool.eq_false_iff.2 hx) k hk
          rw [badL, Bool.not_eq_false', inR, decide_eq_true_eq] at this
          exact this
        exact ⟨by omega, by omega, by omega, hb fun hx => h2 (.inl hx), hb fun hx => h2 (.inr hx), by cases hx : rise nB B with | true => rfl | false => exact absurd (.inl hx) h3, by cases hx : rise nO O with | true => rfl | false => exact absurd (.inr hx) h3⟩
theorem others_bd {n : Nat} {A : Nat → Int} {m : Nat} {O : Nat → Int} (h : others n A m O = false) {k : Nat} (hk : k < n) : ∃ j, j < m ∧ O j = A k := by
  have := anyN_false.1 h k hk
  rw [Bool.not_eq_false', anyN_true] at this
  obtain ⟨j, hj, e⟩ := this
  exact ⟨j, hj, by simpa using e⟩
theorem gcd_emod (a b : Int) : Int.gcd b (a % b) = Int.gcd a b := by
  rw [Int.gcd_comm a b, Int.emod_def, Int.gcd_sub_mul_left_right]
noncomputable def A82_costOf_c (nB : Nat) (B : Nat → Int) (nO : Nat) (O : Nat → Int) (W G L : Int) (nC : Nat) (C : Nat → Int) (nD : Nat) (D : Nat → Int) : Ann := { orc := [(5, [(3, rMax)])], loops := [(0, { ι := Nat, keep := [2, 4, 5, 16, 17], boxes := [2, 4], ts := fun _ i => [(18, dI (i : Int))], bx := fun _ i => [(5, [dI ((nD : Int) + cntN C (B (nB - 1)) i), dI (nC : Int)])], inv := fun _ i => i ≤ nC, mu := fun _ i => nC - i, rd := fun _ σ => (iOf (σ.get 18)).toNat })], cuts := [] }
namespace w2b
noncomputable section
structure Z where
  nB : Nat
  B : Nat → Int
  nO : Nat
  O : Nat → Int
  W : Int
  G : Int
  L : Int
  nC : Nat
  C : Nat → Int
  nD : Nat
  D : Nat → Int
variable (z : Z) (i0 : Nat) (P : List Prop) (a : Int) (k : Nat)
abbrev x0 := Int.toNat ((i0:Int) + 1)
abbrev x1 := (z.nD:Int) + Lay.cntN z.C (z.B (z.nB - 1)) k
abbrev x2 : List Prop := (∀ i0 < z.nC, rf (z.C i0)) :: rf (z.nC:Int) :: (a = x1 z k) :: rf (z.nC:Int) :: rf z.nB :: (∀ i0 < z.nB, rf (z.B i0)) :: rf z.nO :: (∀ i0 < z.nO, rf (z.O i0)) :: rf z.W :: rf z.G :: rf z.L :: rf (0:Int) :: P
abbrev x3 := VT.need [i64In ((i0:Int) + 1)] (VT.done (((i0:Int) + 1 = (↑(x0 i0) : Int)) :: rf z.nC :: x2 z [rf (0:Int), x0 i0 ≤ z.nC, z.nC - x0 i0 < z.nC - i0] a (x0 i0)))
abbrev xt : VT := VT.loop Nat (fun i0 => i0 ≤ z.nC) (Int.toNat 0) ((0 = (↑(Int.toNat 0) : Int)) :: rf z.nC :: x2 z [rf (0:Int)] (z.nD:Int) (Int.toNat 0)) (fun i0 => VT.ite (decide ((i0:Int) < (z.nC:Int))) (VT.need [0 ≤ (i0:Int) ∧ (i0:Int) < (z.nC:Int)] (VT.need [FnC prog 94 [DV.lst z.nB [fun i0 => dI (z.B i0)]] (dI (z.B (z.nB - 1)))] (VT.ite ((z.C (Int.toNat (i0:Int))) != (z.B (z.nB - 1))) (VT.need [i64In (x1 z i0 + 1)] (x3 z i0 (x1 z i0 + 1))) (x3 z i0 (x1 z i0))))) (VT.done [x1 z i0 = x1 z z.nC, rf (z.nC:Int)]))
end
end w2b
open w2b in
theorem costOf_c (nB : Nat) (B : Nat → Int) (nO : Nat) (O : Nat → Int) (W G L : Int) (nC : Nat) (C : Nat → Int) (nD : Nat) (D : Nat → Int) (h1 : 1 ≤ nB) (h2 : nB ≤ 1000) (hr : rise nB B = true) (hc : nC ≤ 1000000) (hd : nD ≤ 1000000) : FnC prog 61 [sys nB B nO O W G L, clg nC C nD D] (dP ((nD : Int) + cntN C (B (nB - 1)) nC) nC) := by
  refine FnC_owed hmix (A82_costOf_c nB B nO O W G L nC C nD D) (V := xt ⟨nB, B, nO, O, W, G, L, nC, C, nD, D⟩) (by kernel_rfl) ?_
  simp only [xt, x0, x1, x2, x3, Rf, VT.holds, AllT, Sq]
  refine ⟨⟨rfl, by simp [cntN]⟩, Nat.zero_le _, fun i hi => ⟨fun hlt => ⟨by omega, max_c nB B h1 (by omega) hr, fun hne => ?_, fun he => ?_⟩, fun hge => ?_⟩⟩
  · have := cntN_bd C (B (nB - 1)) i
    exact ⟨by unfold i64In; omega, by unfold i64In; omega, rfl, by simp only [cntN]; rw [if_neg hne]; omega, by omega, by omega⟩
  · have := cntN_bd C (B (nB - 1)) i
    exact ⟨by unfold i64In; omega, rfl, by simp only [cntN]; rw [if_pos he]; omega, by omega, by omega⟩
  · rw [show i = nC by omega]
noncomputable def A110_ck_c (nB : Nat) (B : Nat → Int) (nO : Nat) (O : Nat → Int) (W G L : Int) (nC : Nat) (C : Nat → Int) (nD : Nat) (D : Nat → Int) : Ann := { orc := [(4, [(5, rOthers), (12, rOthers)]), (6, [(2, rFall), (7, rFall)])], loops := [], cuts := [] }
namespace w2c
noncomputable section
structure Z where
  nB : Nat
  B : Nat → Int
  nO : Nat
  O : Nat → Int
  W : Int
  G : Int
  L : Int
  nC : Nat
  C : Nat → Int
  nD : Nat
  D : Nat → Int
variable (z : Z) (P : List Prop) (a : Int) (k : Nat) (g h : Bool) (U : VT) (j11a : Nat → DV)
abbrev x0 := ri ((!g) = true)
abbrev x1 := Lay.others z.nC z.C z.nB z.B
abbrev x2 := Lay.fallR z.nC z.C
abbrev x3 := decide ((k:Int) > (4000:Int))
abbrev x4 := VT.done [a = Lay.ckE z.nB z.B z.nO z.O z.nC z.C z.nD z.D]
abbrev x5 := VT.need P (VT.ite g (x4 z a) U)
abbrev x6 := if g = true then true else h
abbrev x7 := FnC prog 138 [DV.lst k [j11a]] (dB g)
abbrev x8 := Lay.others z.nD z.D z.nO z.O
abbrev xt : VT := x5 z [x0 (x3 z.nC), x0 (x3 z.nC), x0 (x3 z.nC), x3 z.nC = false → (!(x3 z.nC)) = true] (8:Int) (x6 (x3 z.nC) (x3 z.nD)) (x5 z [FnC prog 135 [DV.lst z.nC [fun i0 => dI (z.C i0)], DV.lst z.nB [fun i0 => dI (z.B i0)]] (dB (x1 z)), x0 (x1 z), x0 (x1 z), x0 (x1 z), x0 (x1 z), x0 (x1 z), (!(x1 z)) = true → FnC prog 135 [DV.lst z.nD [fun i0 => dI (z.D i0)], DV.lst z.nO [fun i0 => dI (z.O i0)]] (dB (x8 z)), x1 z = false → (!(x1 z)) = true] (6:Int) (x6 (x1 z) (x8 z)) (x5 z [x7 z.nC (x2 z) (fun i0 => dI (z.C i0)), x0 (!(x2 z)), x0 (!(x2 z)), (!(!(x2 z))) = true → x7 z.nD (Lay.fallR z.nD z.D) (fun i0 => dI (z.D i0)), x0 (!(x2 z)), (!(x2 z)) = false → (!(!(x2 z))) = true] (10:Int) (x6 (!(x2 z)) (!(Lay.fallR z.nD z.D))) (x4 z (0:Int))))
end
end w2c
open w2c in
theorem ck_c (nB : Nat) (B : Nat → Int) (nO : Nat) (O : Nat → Int) (W G L : Int) (nC : Nat) (C : Nat → Int) (nD : Nat) (D : Nat → Int) (hs : sysE nB B nO O W G L = 0) (hc : nC ≤ 1000000) (hd : nD ≤ 1000000) : FnC prog 93 [sys nB B nO O W G L, clg nC C nD D] (dI (ckE nB B nO O nC C nD D)) := by
  refine FnC_owed hmix (A110_ck_c nB B nO O W G L nC C nD D) (V := xt ⟨nB, B, nO, O, W, G, L, nC, C, nD, D⟩) (by kernel_rfl) ?_
  simp only [xt, x0, x1, x2, x3, x4, x5, x6, x7, x8, Rf, VT.holds, AllT, Sq]
  obtain ⟨s1, s2, s3, sB, sO, _, _⟩ := sys_ok hs
  have bd : ∀ {n m : Nat} {A V : Nat → Int}, others n A m V = false → (∀ k, k < m → 1 ≤ V k ∧ V k ≤ 10000) → ∀ k, k < n → 1 ≤ A k ∧ A k ≤ 10000 := fun h hV k hk => by
    obtain ⟨j, hj, e⟩ := others_bd h hk
    rw [← e]; exact hV j hj
  refine ⟨fun h => ?_, fun h => ⟨⟨others_c nC C nB B hc (by omega), fun _ => others_c nD D nO O hd (by omega)⟩, fun h2 => ?_, fun h2 => ⟨⟨falling_c nC C hc (bd h2.1 sB), fun _ => falling_c nD D hd (bd h2.2 sO)⟩, fun h3 => ?_, fun h3 => ?_⟩⟩⟩
  · rw [ckE, if_pos (by omega)]
  · rw [ckE, if_neg (by omega), if_pos h2]
  · rw [ckE, if_neg (by omega), if_neg (fun hx => by rw [h2.1, h2.2] at hx; simp at hx), if_pos h3]
  · rw [ckE, if_neg (by omega), if_neg (fun hx => by rw [h2.1, h2.2] at hx; simp at hx), if_neg (fun hx => hx.elim (fun e => h3.1 e) fun e => by rw [h3.2] at e; cases e)]
noncomputable def A80_both_c (nB : Nat) (B : Nat → Int) (nO : Nat) (O : Nat → Int) (W G L : Int) (nC : Nat) (C : Nat → Int) (nD : Nat) (D : Nat → Int) : Ann := { orc := [(1, [(1, rSys)]), (4, [(2, rCk)])], loops := [], cuts := [] }
theorem both_c (nB : Nat) (B : Nat → Int) (nO : Nat) (O : Nat → Int) (W G L : Int) (nC : Nat) (C : Nat → Int) (nD : Nat) (D : Nat → Int) (hc : nC ≤ 1000000) (hd : nD ≤ 1000000) : FnC prog 60 [sys nB B nO O W G L, clg nC C nD D] (dI (bothE nB B nO O W G L nC C nD D)) := by
  refine FnC_owed hmix (A80_both_c nB B nO O W G L nC C nD D) (V := .need [FnC prog 92 [.agg [.lst nB [fun i => (dI (B i))], .lst nO [fun i => (dI (O i))], (dI W), (dI G), (dI L)]] ((dI (sysE nB B nO O W G L)))] (.ite (sysE nB B nO O W G L != (0:Int)) (.done [sysE nB B nO O W G L = bothE nB B nO O W G L nC C nD D]) (.need [FnC prog 93 [.agg [.lst nB [fun i => (dI (B i))], .lst nO [fun i => (dI (O i))], (dI W), (dI G), (dI L)], .agg [.lst nC [fun i => (dI (C i))], .lst nD [fun i => (dI (D i))]]] ((dI (ckE nB B nO O nC C nD D)))] (.done [ckE nB B nO O nC C nD D = bothE nB B nO O W G L nC C nD D])))) (by kernel_rfl) ?_
  simp only [VT.holds, AllT, Sq]
  refine ⟨system_c nB B nO O W G L, fun h => by rw [bothE, if_neg h], fun h => ⟨ck_c nB B nO O W G L nC C nD D h hc hd, by rw [bothE, if_pos h]⟩⟩
noncomputable def A34_costTop_c (nB : Nat) (B : Nat → Int) (nO : Nat) (O : Nat → Int) (W G L : Int) (nC : Nat) (C : Nat → Int) (nD : Nat) (D : Nat → Int) : Ann := { orc := [(1, [(2, rBoth)]), (4, [(2, .res fun l => dP ((hD l : Int) + cntN (hCf l) (gBf l (gB l - 1)) (hC l)) (hC l))])], loops := [], cuts := [] }
namespace w2e
noncomputable section
structure Z where
  nB : Nat
  B : Nat → Int
  nO : Nat
  O : Nat → Int
  W : Int
  G : Int
  L : Int
  nC : Nat
  C : Nat → Int
  nD : Nat
  D : Nat → Int
variable (z : Z) (a b : Int) (k : Nat) (A : DV)
abbrev x0 := Lay.bothE z.nB z.B z.nO z.O z.W z.G z.L z.nC z.C z.nD z.D
abbrev x1 := a = (if (x0 z) = (0:Int) then b else (0:Int))
abbrev x2 := (z.nD:Int) + Lay.cntN z.C (z.B (z.nB - 1)) z.nC
abbrev x3 := FnC prog k [DV.agg [DV.lst z.nB [fun i0 => dI (z.B i0)], DV.lst z.nO [fun i0 => dI (z.O i0)], dI z.W, dI z.G, dI z.L], DV.agg [DV.lst z.nC [fun i0 => dI (z.C i0)], DV.lst z.nD [fun i0 => dI (z.D i0)]]] A
abbrev xt : VT := VT.need [x3 z (60:Nat) (dI (x0 z))] (VT.ite (x0 z != 0) (VT.done [x1 z (0:Int) (x2 z), x1 z (0:Int) (z.nC:Int), rf (x0 z)]) (VT.need [x3 z (61:Nat) (DV.val (Value.agg (Array.mk [Value.int IntKind.i64 (x2 z), Value.int IntKind.i64 (z.nC:Int)])))] (VT.done [x1 z (x2 z) (x2 z), x1 z (z.nC:Int) (z.nC:Int), 0 = x0 z])))
end
end w2e
open w2e in
theorem costTop_c (nB : Nat) (B : Nat → Int) (nO : Nat) (O : Nat → Int) (W G L : Int) (nC : Nat) (C : Nat → Int) (nD : Nat) (D : Nat → Int) (hc : nC ≤ 1000000) (hd : nD ≤ 1000000) : FnC prog 27 [sys nB B nO O W G L, clg nC C nD D] (.tup [dP (if bothE nB B nO O W G L nC C nD D = 0 then (nD : Int) + cntN C (B (nB - 1)) nC else 0) (if bothE nB B nO O W G L nC C nD D = 0 then nC else 0), dI (bothE nB B nO O W G L nC C nD D)]) := by
  refine FnC_owed hmix (A34_costTop_c nB B nO O W G L nC C nD D) (V := xt ⟨nB, B, nO, O, W, G, L, nC, C, nD, D⟩) (by kernel_rfl) ?_
  simp only [xt, x0, x1, x2, x3, Rf, VT.holds, AllT, Sq]
  refine ⟨both_c nB B nO O W G L nC C nD D hc hd, fun h => by rw [if_neg h, if_neg h]; exact ⟨rfl, rfl⟩, fun h => ?_⟩
  have hs : sysE nB B nO O W G L = 0 := by
    unfold bothE at h
    split at h
    · assumption
    · exact h
  obtain ⟨s1, s2, s3, sB, sO, sr, _⟩ := sys_ok hs
  rw [if_pos h, if_pos h]
  exact ⟨costOf_c nB B nO O W G L nC C nD D s1 (by omega) sr hc hd, rfl, rfl, h.symm⟩
noncomputable def A133_gcd_c (a b : Int) : Ann := { orc := [(2, [(3, .pos)])], loops := [(0, { ι := Int × Int, keep := [], boxes := [], ts := fun _ i => [(0, dI i.1), (1, dI i.2)], inv := fun _ i => 0 ≤ i.1 ∧ 0 ≤ i.2 ∧ Int.gcd i.1 i.2 = Int.gcd a b, mu := fun _ i => i.2.toNat, rd := fun _ σ => (iOf (σ.get 0), iOf (σ.get 1)) })], cuts := [] }
theorem gcd_c (a b : Int) (h1 : 0 ≤ a) (h2 : 0 ≤ b) : FnC prog 151 [dI a, dI b] (dI (Int.gcd a b)) := by
  refine FnC_owed hmix (A133_gcd_c a b) (V := .loop (Int × Int) (fun (a_1 : Int × Int) => (0:Int) ≤ a_1.fst ∧ (0:Int) ≤ a_1.snd ∧ Int.gcd a_1.fst a_1.snd = Int.gcd a b) (a, b) [a = a, b = b] fun (i : Int × Int) => .ite (i.snd != (0:Int)) (.need [(0:Int) ≤ i.fst ∧ (0:Int) < i.snd] (.done [i.snd = i.snd, i.fst % i.snd = i.fst % i.snd, (0:Int) ≤ i.snd ∧ (0:Int) ≤ i.fst % i.snd ∧ Int.gcd i.snd (i.fst % i.snd) = Int.gcd a b, Int.toNat (i.fst % i.snd) < Int.toNat i.snd])) (.done [i.fst = (↑(Int.gcd a b) : Int)])) (by kernel_rfl) ?_
  simp only [VT.holds, AllT, Sq]
  refine ⟨⟨h1, h2⟩, fun i ⟨h1, h2, h3⟩ => ⟨fun hne => ⟨⟨h1, by omega⟩, ⟨h2, Int.emod_nonneg _ hne, ?_⟩, ?_⟩, fun he => ?_⟩⟩
  · rw [← h3, gcd_emod]
  · have := Int.emod_lt_of_pos i.1 (show 0 < i.2 by omega)
    have := Int.emod_nonneg i.1 hne
    omega
  · rw [← h3, he, Int.gcd_zero_right]
    omega
end Go.Abs.Lay
end
section
set_option linter.unusedVariables false
set_option linter.unusedSimpArgs false
set_option maxRecDepth 100000
namespace Go.Abs.Lay
open Go
abbrev part3 (X C : Nat → Int) (b : Nat → Bool) : List (Nat → DV) := [fun i => .val (.int .i64 (X i)), fun i => .val (.int .i64 (C i)), fun i => .val (.bool (b i))]
def rGcd : Orc := .res fun l => dI (Int.gcd (aI l 0) (aI l 1))
abbrev catD (u : Int) (n : Nat) (X C : Nat → Int) (b : Nat → Bool) : DV := .agg [dI u, .lst n (part3 X C b)]
abbrev catS (nB : Nat) (B : Nat → Int) (nO : Nat) (O : Nat → Int) : DV := catD (unitP nB B nO O (nB + nO)) (nB + nO) (pLen nB B nO O) (pCode nB) (fun i => decide (nB ≤ i))
theorem range_getD {n i : Nat} (h : i < n) : (List.range n).getD i 0 = i := by simp [h]
theorem snoc_getD {l : List Nat} {x i : Nat} (h : i < (l ++ [x]).length) : (l ++ [x]).getD i 0 = if i < l.length then l.getD i 0 else x := by
  simp only [List.length_append, List.length_cons, List.length_nil] at h
  split
  · rename_i h1
    simp [List.getElem?_append_left h1]
  · rw [show i = l.length by omega]; simp
theorem unitP_succ (nB : Nat) (B : Nat → Int) (nO : Nat) (O : Nat → Int) (i : Nat) : Int.gcd (pLen nB B nO O i) (unitP nB B nO O i) = unitP nB B nO O (i + 1) := by
  rw [unitP, unitP, range_snoc, gcdL_snoc, Int.gcd_comm]
theorem addN_zero (i : Nat) : addN 0 i = i := by simp [addN]
def rBack : Orc := .res fun l => .clo 177 [.cptr [nums (aN l) (aX l)]]
noncomputable def A132_back_c (n : Nat) (A : Nat → Int) : Ann := { orc := [], loops := [], cuts := [] }
theorem back_c (n : Nat) (A : Nat → Int)  : FnC prog 150 [nums n A] (.clo 177 [.cptr [nums n A]]) := by
  refine FnC_owed hmix (A132_back_c n A) (V := VT.done [n = n, ∀ i < n, A i = A i]) (by kernel_rfl) ?_
  simp only [VT.holds, AllT, Sq]
noncomputable def A120_read_c (nB : Nat) (B : Nat → Int) (nO : Nat) (O : Nat → Int) (W G L : Int) : Ann := { orc := [(2, [(2, rBack)]), (9, [(2, rBack)]), (15, [(4, rGcd)])], loops := [(4, { ι := Nat, keep := [2, 3, 48], boxes := [2], ts := fun _ i => [(49, dI (i : Int))], rw := fun _ _ => [(47, 3, nB + nO, part3 (pLen nB B nO O) (pCode nB) (fun i => decide (nB ≤ i)))], bx := fun σ i => [(3, [dI (unitP nB B nO O i), .row 3 σ.nx 0 (nB + nO)])], inv := fun _ i => i ≤ nB + nO, mu := fun _ i => nB + nO - i, rd := fun _ σ => (iOf (σ.get 49)).toNat })], cuts := [], rngs := [(0, { N := nB, enc := fun k => [.int .i64 ((nB : Int) - 1 - (k : Nat)), .int .i64 (B (nB - 1 - k))], keep := [1, 2, 3, 13], boxes := [1, 2], bx := fun σ pre => [(3, [dI 0, .row 3 (σ.nx + 50) 0 pre.length])], rb := fun _ pre => [(3, 1, 3, pre.length, part3 (fun i => B (nB - 1 - pre.getD i 0)) (fun i => if pre.getD i 0 = 0 then 1 else 10001) (fun _ => false))], inv := fun _ pre => pre.length ≤ nB }), (2, { N := nO, enc := fun k => [.int .i64 ((nO : Int) - 1 - (k : Nat)), .int .i64 (O (nO - 1 - k))], keep := [1, 2, 3, 36], boxes := [1, 2], bx := fun σ pre => [(3, [dI 0, .row 3 (σ.nx + 50) 0 (nB + pre.length)])], rb := fun _ pre => [(3, 1, 3, nB + pre.length, part3 (fun i => if i < nB then B (nB - 1 - i) else O (nO - 1 - pre.getD (i - nB) 0)) (fun i => pCode nB i) (fun i => decide (nB ≤ i)))], inv := fun _ pre => pre.length ≤ nO })] }
abbrev read_cr0 (nB : Nat) (B : Nat → Int) (nO : Nat) (O : Nat → Int) (W : Int) (G : Int) (L : Int) (r : List Prop) : List Prop := (nB = nB) :: (∀ i < nB, B i = B i) :: (nO = nO) :: (∀ i < nO, O i = O i) :: (W = W) :: (G = G) :: (L = L) :: ((0:Int) = (0:Int)) :: (Value.slice none (0:Nat) (0:Nat) = Value.slice none (0:Nat) (0:Nat)) :: r
theorem read_c (nB : Nat) (B : Nat → Int) (nO : Nat) (O : Nat → Int) (W G L : Int) (h1 : 1 ≤ nB) (h2 : nB ≤ 8) (h3 : nO ≤ 8) (hB : ∀ k, k < nB → 1 ≤ B k ∧ B k ≤ 10000) (hO : ∀ k, k < nO → 1 ≤ O k ∧ O k ≤ 10000) : FnC prog 120 [sys nB B nO O W G L] (catS nB B nO O) := by
  refine FnC_owed hmix (A120_read_c nB B nO O W G L) (V := VT.need [FnC prog 150 [DV.lst nB [fun (i : Nat) => DV.val (Value.int IntKind.i64 (B i))]] (DV.clo (177 : FuncId) [DV.cptr [DV.lst nB [fun (i : Nat) => DV.val (Value.int IntKind.i64 (B i))]]])] (VT.need ((SeqC prog (177 : FuncId) [DV.cptr [DV.lst nB [fun (i : Nat) => DV.val (Value.int IntKind.i64 (B i))]]] nB fun (k : Nat) => [Value.int IntKind.i64 ((nB:Int) - (1:Int) - (k:Int)), Value.int IntKind.i64 (B (nB - (1:Nat) - k))]) :: ((∀ (k : Nat), k < nB → List.length [Value.int IntKind.i64 ((nB:Int) - (1:Int) - (k:Int)), Value.int IntKind.i64 (B (nB - (1:Nat) - k))] = Array.size #[(14:Nat), (15:Nat)]) :: ((nB = nB) :: ((∀ i < nB, B i = B i) :: ((nat_lit 0 = (0:Nat)) :: (((0:Int) = (0:Int)) :: (((0:Nat) = (0:Nat)) :: ((nat_lit 0 = (0:Nat)) :: (read_cr0 nB B nO O W G L [nat_lit 0 ≤ nB]))))))))) (VT.cut (List Nat × Nat) (fun (q : List Nat × Nat) => List.length q.fst ≤ nB ∧ q.snd < nB ∧ List.length q.fst < nB ∧ ∀ (y : Nat), y ∈ q.fst → y < nB) (VT.cut Unit (fun (u : Unit) => List.length (List.range nB) ≤ nB) (VT.done []) fun (u : Unit) => VT.need [FnC prog 150 [DV.lst nO [fun (i : Nat) => DV.val (Value.int IntKind.i64 (O i))]] (DV.clo (177 : FuncId) [DV.cptr [DV.lst nO [fun (i : Nat) => DV.val (Value.int IntKind.i64 (O i))]]])] (VT.need ((SeqC prog (177 : FuncId) [DV.cptr [DV.lst nO [fun (i : Nat) => DV.val (Value.int IntKind.i64 (O i))]]] nO fun (k : Nat) => [Value.int IntKind.i64 ((nO:Int) - (1:Int) - (k:Int)), Value.int IntKind.i64 (O (nO - (1:Nat) - k))]) :: ((∀ (k : Nat), k < nO → List.length [Value.int IntKind.i64 ((nO:Int) - (1:Int) - (k:Int)), Value.int IntKind.i64 (O (nO - (1:Nat) - k))] = Array.size #[(37:Nat), (38:Nat)]) :: ((nO = nO) :: ((∀ i < nO, O i = O i) :: ((List.length (List.range nB) = nB + nat_lit 0) :: ((∀ i < nB + nat_lit 0, B (nB - (1:Nat) - List.getD (List.range nB) i (0:Nat)) = if i < nB then B (nB - (1:Nat) - i) else O (nO - (1 :
     Nat) - nat_lit 0)) :: ((∀ i < nB + nat_lit 0, (if List.getD (List.range nB) i (0:Nat) = (0:Nat) then (1:Int) else (10001:Int)) = pCode nB i) :: ((∀ i < nB + nat_lit 0, false = decide (nB ≤ i)) :: (((0:Int) = (0:Int)) :: (((0:Nat) = (0:Nat)) :: ((List.length (List.range nB) = nB + nat_lit 0) :: (read_cr0 nB B nO O W G L [nat_lit 0 ≤ nO])))))))))))) (VT.cut (List Nat × Nat) (fun (q : List Nat × Nat) => List.length q.fst ≤ nO ∧ q.snd < nO ∧ List.length q.fst < nO ∧ ∀ (y : Nat), y ∈ q.fst → y < nO) (VT.cut Unit (fun (u : Unit) => List.length (List.range nO) ≤ nO) (VT.done []) fun (u : Unit) => VT.loop Nat (fun (a : Nat) => a ≤ nB + nO) (0:Int).toNat [(0:Int) = (↑(0:Int).toNat : Int), (0:Nat) = (0:Nat), nB + List.length (List.range nO) = nB + nO, (↑(nB + List.length (List.range nO)) : Int) = (↑(nB + List.length (List.range nO)) : Int), nB + List.length (List.range nO) = nB + nO, ∀ i < nB + nO, (if i < nB then B (nB - (1:Nat) - i) else O (nO - (1:Nat) - List.getD (List.range nO) (i - nB) (0:Nat))) = pLen nB B nO O i, ∀ i < nB + nO, pCode nB i = pCode nB i, ∀ i < nB + nO, decide (nB ≤ i) = decide (nB ≤ i), (0:Int) = (↑(unitP nB B nO O (0:Int).toNat) : Int), (0:Nat) = (0:Nat), nB + List.length (List.range nO) = nB + nO, (0:Int) = (0:Int), Value.slice none (0:Nat) (0:Nat) = Value.slice none (0:Nat) (0:Nat)] fun (i : Nat) => VT.ite (decide ((i:Int) < (↑(nB + List.length (List.range nO)) : Int))) (VT.need [(0:Int) ≤ (i:Int) ∧ (i:Int) < (↑(nB + nO) : Int), addN (0:Nat) (i:Int).toNat < nB + nO] (VT.need [FnC prog 151 [DV.val (Value.int IntKind.i64 (pLen nB B nO O (addN (0:Nat) (i:Int).toNat))), DV.val (Value.int IntKind.i64 (↑(unitP nB B nO O i) : Int))] (DV.val (Value.int IntKind.i64 (↑(Int.gcd (pLen nB B nO O (addN (0:Nat) (i:Int).toNat)) (↑(unitP nB B nO O i) : Int)) : Int)))] (VT.need [i64In
     ((i:Int) + (1:Int))] (VT.done [(i:Int) + (1:Int) = (↑((i:Int) + (1:Int)).toNat : Int), (0:Nat) = (0:Nat), nB + nO = nB + nO, (↑(nB + List.length (List.range nO)) : Int) = (↑(nB + List.length (List.range nO)) : Int), nB + nO = nB + nO, ∀ i < nB + nO, pLen nB B nO O i = pLen nB B nO O i, ∀ i < nB + nO, pCode nB i = pCode nB i, ∀ i < nB + nO, decide (nB ≤ i) = decide (nB ≤ i), (↑(Int.gcd (pLen nB B nO O (addN (0:Nat) (i:Int).toNat)) (↑(unitP nB B nO O i) : Int)) : Int) = (↑(unitP nB B nO O ((i:Int) + (1:Int)).toNat) : Int), (0:Nat) = (0:Nat), nB + nO = nB + nO, (0:Int) = (0:Int), Value.slice none (0:Nat) (0:Nat) = Value.slice none (0:Nat) (0:Nat), Int.toNat ((i:Int) + (1:Int)) ≤ nB + nO, nB + nO - ((i:Int) + (1:Int)).toNat < nB + nO - i])))) (VT.done [nB + nO ≤ nB + nO, (↑(unitP nB B nO O i) : Int) = (↑(unitP nB B nO O (nB + nO)) : Int), nB + nO = nB + nO, ∀ i < nB + nO, pLen nB B nO O i = pLen nB B nO O i, ∀ i < nB + nO, pCode nB i = pCode nB i, ∀ i < nB + nO, decide (nB ≤ i) = decide (nB ≤ i)])) fun (q : List Nat × Nat) => VT.need [nB + List.length q.fst ≤ nB + List.length q.fst, (nB + List.length q.fst + (1:Nat)) * (nat_lit 23 + (1:Nat)) ≤ (140737488355328:Nat), (1:Nat) ≤ (1:Nat)] (VT.done ((nO = nO) :: ((∀ i < nO, O i = O i) :: ((nB + List.length q.fst + (1:Nat) = nB + List.length (q.fst ++ [q.snd])) :: ((∀ i < nB + List.length (q.fst ++ [q.snd]), (if decide (i < nB + List.length q.fst) = true then if i < nB then B (nB - (1:Nat) - i) else O (nO - (1:Nat) - List.getD q.fst (i - nB) (0:Nat)) else O (nO - (1:Nat) - q.snd)) = if i < nB then B (nB - (1:Nat) - i) else O (nO - (1:Nat) - List.getD (q.fst ++ [q.snd]) (i - nB) (0:Nat))) :: ((∀ i < nB + List.length (q.fst ++ [q.snd]), (if decide (i < nB + List.length q.fst) = true then pCode nB i else (10000:Int)) =
     pCode nB i) :: ((∀ i < nB + List.length (q.fst ++ [q.snd]), (if decide (i < nB + List.length q.fst) = true then decide (nB ≤ i) else true) = decide (nB ≤ i)) :: (((0:Int) = (0:Int)) :: (((0:Nat) = (0:Nat)) :: ((nB + List.length q.fst + (1:Nat) = nB + List.length (q.fst ++ [q.snd])) :: (read_cr0 nB B nO O W G L [List.length (q.fst ++ [q.snd]) ≤ nO])))))))))))))) fun (q : List Nat × Nat) => VT.need [i64In ((nB:Int) - (1:Int))] (VT.ite (decide ((nB:Int) - (1:Int) - (q.snd:Int) < (nB:Int) - (1:Int))) (VT.need [i64In ((1:Int) + (10000:Int))] (VT.need [List.length q.fst ≤ List.length q.fst, (List.length q.fst + (1:Nat)) * (nat_lit 23 + (1:Nat)) ≤ (140737488355328:Nat), (1:Nat) ≤ (1:Nat)] (VT.done ((nB = nB) :: ((∀ i < nB, B i = B i) :: ((List.length q.fst + (1:Nat) = List.length (q.fst ++ [q.snd])) :: ((∀ i < List.length (q.fst ++ [q.snd]), (if decide (i < List.length q.fst) = true then B (nB - (1:Nat) - List.getD q.fst i (0:Nat)) else B (nB - (1:Nat) - q.snd)) = B (nB - (1:Nat) - List.getD (q.fst ++ [q.snd]) i (0:Nat))) :: ((∀ i < List.length (q.fst ++ [q.snd]), (if decide (i < List.length q.fst) = true then if List.getD q.fst i (0:Nat) = (0:Nat) then (1:Int) else (10001:Int) else (1:Int) + (10000:Int)) = if List.getD (q.fst ++ [q.snd]) i (0:Nat) = (0:Nat) then (1:Int) else (10001:Int)) :: ((∀ i < List.length (q.fst ++ [q.snd]), (if decide (i < List.length q.fst) = true then false else false) = false) :: (((0:Int) = (0:Int)) :: (((0:Nat) = (0:Nat)) :: ((List.length q.fst + (1:Nat) = List.length (q.fst ++ [q.snd])) :: (read_cr0 nB B nO O W G L [List.length (q.fst ++ [q.snd]) ≤ nB]))))))))))))) (VT.need [List.length q.fst ≤ List.length q.fst, (List.length q.fst + (1:Nat)) * (nat_lit 23 + (1:Nat)) ≤ (140737488355328:Nat), (1:Nat) ≤ (1:Nat)] (VT.done ((nB = nB) :: ((∀ i < nB, B i = B i) :: ((List.length q.fst +
     (1:Nat) = List.length (q.fst ++ [q.snd])) :: ((∀ i < List.length (q.fst ++ [q.snd]), (if decide (i < List.length q.fst) = true then B (nB - (1:Nat) - List.getD q.fst i (0:Nat)) else B (nB - (1:Nat) - q.snd)) = B (nB - (1:Nat) - List.getD (q.fst ++ [q.snd]) i (0:Nat))) :: ((∀ i < List.length (q.fst ++ [q.snd]), (if decide (i < List.length q.fst) = true then if List.getD q.fst i (0:Nat) = (0:Nat) then (1:Int) else (10001:Int) else (1:Int)) = if List.getD (q.fst ++ [q.snd]) i (0:Nat) = (0:Nat) then (1:Int) else (10001:Int)) :: ((∀ i < List.length (q.fst ++ [q.snd]), (if decide (i < List.length q.fst) = true then false else false) = false) :: (((0:Int) = (0:Int)) :: (((0:Nat) = (0:Nat)) :: ((List.length q.fst + (1:Nat) = List.length (q.fst ++ [q.snd])) :: (read_cr0 nB B nO O W G L [List.length (q.fst ++ [q.snd]) ≤ nB])))))))))))))))) (by kernel_rfl) ?_
  simp only [VT.holds, AllT, read_cr0, Sq, List.length_range, Nat.add_zero, addN_zero]
  refine ⟨back_c nB B, ⟨back_seq nB B (by omega), fun _ _ => rfl, Nat.zero_le _⟩, ⟨fun _ _ => ⟨back_c nO O, ⟨back_seq nO O (by omega), fun _ _ => rfl, ?_, ?_, ?_, Nat.zero_le _⟩, ⟨fun _ _ => ⟨⟨rfl, ?_, rfl⟩, Nat.zero_le _, fun i hi => ⟨fun hlt => ⟨⟨⟨by omega, by omega⟩, by omega⟩, gcd_c _ _ ?_ ?_, by unfold i64In; omega, rfl, ?_, by omega, by omega⟩, fun hge => ⟨Nat.le_refl _, ?_⟩⟩⟩, fun q ⟨q1, q2, q3, q4⟩ => ?_⟩⟩, fun q ⟨q1, q2, q3, q4⟩ => ?_⟩⟩
  · intro i hi
    rw [range_getD hi, if_pos hi]
  · intro i hi
    rw [range_getD hi, pCode, if_pos hi]
  · intro i hi
    rw [decide_eq_false (by omega)]
  · intro i hi
    unfold pLen
    by_cases h : i < nB
    · rw [if_pos h, if_pos h]
    · rw [if_neg h, if_neg h, range_getD (by omega)]
  · have := pLen_bd hB hO (show i < nB + nO by omega)
    omega
  · omega
  · rw [unitP_succ]
  · rw [show i = nB + nO by omega]
  · refine ⟨⟨Nat.le_refl _, by omega, Nat.le_refl _⟩, by simp only [List.length_append, List.length_cons, List.length_nil]; omega, fun i hi => ?_, fun i hi => ?_, fun i hi => ?_, by simp only [List.length_append, List.length_cons, List.length_nil]; omega, by simp only [List.length_append, List.length_cons, List.length_nil]; omega⟩
    all_goals simp only [List.length_append, List.length_cons, List.length_nil] at hi
    · by_cases h : i < nB
      · rw [if_pos (by omega), if_pos h, if_pos h]
      · rw [if_neg h, snoc_getD (by simp only [List.length_append, List.length_cons, List.length_nil]; omega)]
        by_cases h5 : i < nB + q.1.length
        · rw [if_pos h5, if_neg h, if_pos (by omega)]
        · rw [if_neg h5, if_neg (show ¬ i - nB < q.1.length by omega), if_neg h]
    · by_cases h5 : i < nB + q.1.length
      · rw [if_pos h5]
      · rw [if_neg h5, pCode, if_neg (by omega)]
    · by_cases h5 : i < nB + q.1.length
      · rw [if_pos h5]
      · rw [if_neg h5, decide_eq_true (by omega)]
  · have hl : (q.1 ++ [q.2]).length = q.1.length + 1 := by simp
    have e1 : ∀ i, i < (q.1 ++ [q.2]).length → (if i < q.1.length then B (nB - 1 - q.1.getD i 0) else B (nB - 1 - q.2)) = B (nB - 1 - (q.1 ++ [q.2]).getD i 0) := fun i hi => by
      rw [snoc_getD hi]
      split <;> rfl
    refine ⟨by unfold i64In; omega, fun h => ⟨by unfold i64In; omega, ⟨Nat.le_refl _, by omega, Nat.le_refl _⟩, hl.symm, e1, fun i hi => ?_, hl.symm, by omega⟩, fun h => ⟨⟨Nat.le_refl _, by omega, Nat.le_refl _⟩, hl.symm, e1, fun i hi => ?_, hl.symm, by omega⟩⟩
    · rw [snoc_getD hi]
      by_cases h5 : i < q.1.length
      · rw [if_pos h5, if_pos h5]
      · rw [if_neg h5, if_neg h5, if_neg (by omega)]; rfl
    · rw [snoc_getD hi]
      by_cases h5 : i < q.1.length
      · rw [if_pos h5, if_pos h5]
      · rw [if_neg h5, if_neg h5, if_pos (by omega)]
end Go.Abs.Lay
end
