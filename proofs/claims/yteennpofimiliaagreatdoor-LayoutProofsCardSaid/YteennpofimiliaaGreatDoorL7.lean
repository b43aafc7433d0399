/- Contracts. Contracts. -/
import Derived.Test.YteennpofimiliaaGreatDoorL5
section
set_option linter.unusedVariables false
set_option linter.unusedSimpArgs false
set_option maxRecDepth 100000
namespace Go.Abs.Lay
open Go
def wpX (u : Nat) (X : Nat → Int) (i : Nat) : Nat → Nat := waysL ((List.range i).map fun i => unitsOf u (X i))
abbrev cU (l : List DV) : Nat := (fI 0 (arg l 0)).toNat
abbrev cN (l : List DV) : Nat := lenOf (fD 1 (arg l 0))
def rTable : Orc := .res fun l => .lst (aI l 1 + 1).toNat [fun k => .val (.int .i64 (tabL (plX (cU l) (colI 0 (fD 1 (arg l 0))) (colI 1 (fD 1 (arg l 0))) (cN l)) k))]
theorem meas_ok {nB : Nat} {B : Nat → Int} {nO : Nat} {O : Nat → Int} {W G L len : Int} (h : measE nB B nO O W G L len = 0) : sysE nB B nO O W G L = 0 ∧ 0 ≤ len ∧ len ≤ 4000 * (unitP nB B nO O (nB + nO) : Int) := by
  unfold measE at h
  split at h
  · rename_i h1
    split at h
    · cases h
    · split at h
      · cases h
      · exact ⟨h1, by omega, by omega⟩
  · exact absurd h ‹_›
def tabS (nB : Nat) (B : Nat → Int) (nO : Nat) (O : Nat → Int) : Nat → Int := tabL (listP (unitP nB B nO O (nB + nO)) nB B nO O (nB + nO))
def tabN (nB : Nat) (B : Nat → Int) (nO : Nat) (O : Nat → Int) (W G L len : Int) : Nat := if measE nB B nO O W G L len = 0 then (len / (unitP nB B nO O (nB + nO) : Int) + 1).toNat else 0
def waysS (nB : Nat) (B : Nat → Int) (nO : Nat) (O : Nat → Int) (len : Int) : Nat := waysP (unitP nB B nO O (nB + nO)) nB B nO O (nB + nO) (len / (unitP nB B nO O (nB + nO) : Int)).toNat
def waysV (nB : Nat) (B : Nat → Int) (nO : Nat) (O : Nat → Int) (W G L len : Int) : Int :=
  if measE nB B nO O W G L len = 0 then (if len % (unitP nB B nO O (nB + nO) : Int) = 0 then (if (waysS nB B nO O len : Int) ≤ 1000000 then (waysS nB B nO O len : Int) else 0) else 0) else 0
def waysE (nB : Nat) (B : Nat → Int) (nO : Nat) (O : Nat → Int) (W G L len : Int) : Int :=
  if measE nB B nO O W G L len = 0 then (if len % (unitP nB B nO O (nB + nO) : Int) = 0 then (if (waysS nB B nO O len : Int) ≤ 1000000 then 0 else 8) else 0) else measE nB B nO O W G L len
theorem quo_bd {u : Nat} {len : Int} (hu : 1 ≤ u) (h0 : 0 ≤ len) (h1 : len ≤ 4000 * (u : Int)) : 0 ≤ len / (u : Int) ∧ len / (u : Int) ≤ 4000 := by
  have a := Int.ediv_nonneg (a := len) (b := (u : Int)) h0 (by omega)
  have b := Int.ediv_le_ediv (c := (u : Int)) (by omega) h1
  rw [Int.mul_ediv_cancel _ (by omega)] at b
  exact ⟨a, b⟩
noncomputable def A18_tableTop_c (nB : Nat) (B : Nat → Int) (nO : Nat) (O : Nat → Int) (W G L : Int) (len : Int) : Ann := { orc := [(1, [(2, rMeas)]), (4, [(4, .pos), (5, rTable)])], loops := [], cuts := [] }
theorem tableTop_c (nB : Nat) (B : Nat → Int) (nO : Nat) (O : Nat → Int) (W G L : Int) (len : Int)  : FnC prog 24 [sys nB B nO O W G L, dI len] (.tup [.lst (tabN nB B nO O W G L len) [fun k => .val (.int .i64 (tabS nB B nO O k))], dI (measE nB B nO O W G L len)]) := by
  refine FnC_owed hmix (A18_tableTop_c nB B nO O W G L len) (V := .need [FnC prog 58 [.agg [.lst nB [fun i => (dI (B i))], .lst nO [fun i => (dI (O i))], (dI W), (dI G), (dI L)], (dI len)] (.tup [.agg [(dI (↑(catU nB B nO O W G L) : Int)), .lst (catN nB B nO O W G L) [fun i => (dI (pLen nB B nO O i)), fun i => (dI (pCode nB i)), fun i => (dB (decide (nB ≤ i)))]], (dI (measE nB B nO O W G L len))])] (.ite (measE nB B nO O W G L len != (0:Int)) (.done [tabN nB B nO O W G L len = (0:Nat), measE nB B nO O W G L len = measE nB B nO O W G L len]) (.need [(0:Int) ≤ len ∧ (0:Int) < (↑(catU nB B nO O W G L) : Int) ∧ len ≤ (9223372036854775807:Int), FnC prog 59 [.agg [(dI (↑(catU nB B nO O W G L) : Int)), .lst (catN nB B nO O W G L) [fun i => (dI (pLen nB B nO O i)), fun i => (dI (pCode nB i)), fun i => (dB (decide (nB ≤ i)))]], (dI (len / (↑(catU nB B nO O W G L) : Int)))] (.lst (len / (↑(catU nB B nO O W G L) : Int) + (1:Int)).toNat [fun k => (dI (tabL (plX (↑(catU nB B nO O W G L) : Int).toNat (pLen nB B nO O) (pCode nB) (catN nB B nO O W G L)) k))])] (.done [Int.toNat (len / (↑(catU nB B nO O W G L) : Int) + (1:Int)) = tabN nB B nO O W G L len, ∀ i < tabN nB B nO O W G L len, tabL (plX (↑(catU nB B nO O W G L) : Int).toNat (pLen nB B nO O) (pCode nB) (catN nB B nO O W G L)) i = tabS nB B nO O i, (0:Int) = measE nB B nO O W G L len])))) (by kernel_rfl) ?_
  simp only [VT.holds, AllT, Sq]
  refine ⟨measured_c nB B nO O W G L len, fun h => by rw [tabN, if_neg h], fun h => ?_⟩
  obtain ⟨h1, h2, h3⟩ := meas_ok h
  obtain ⟨s1, s2, s3, sB, sO, _, _⟩ := sys_ok h1
  have hu := unitP_bd s1 sB sO
  obtain ⟨q0, q1⟩ := quo_bd hu.1 h2 h3
  simp only [catU, catN, if_pos h1, tabN, if_pos h]
  exact ⟨⟨⟨h2, by omega, by omega⟩, table_c _ _ _ _ _ _ hu.1 (by omega) (fun i hi => pLen_bd sB sO hi) (fun i hi => unitsP_pos sB sO hi) (fun i _ => pCode_bd nB i) q0 q1⟩, trivial, fun i hi => rfl, h.symm⟩
noncomputable def A13_waysTop_c (nB : Nat) (B : Nat → Int) (nO : Nat) (O : Nat → Int) (W G L : Int) (len : Int) : Ann := { orc := [(1, [(2, rMeas)]), (4, [(3, .pos)]), (6, [(3, .pos)]), (11, [(4, .pos)])], loops := [(0, { ι := Nat, keep := [6, 37, 38], boxes := [6], ts := fun _ i => [(39, dI (i : Int))], rw := fun σ i => [(8, 1, nOf (σ.get 8), [fun q => .val (.int .i64 (wpX (iOf (cellOf σ 0 (σ.get 6))).toNat (colI 0 (σ.get 37)) i q : Nat))])], inv := fun σ i => i ≤ lenOf (σ.get 37), mu := fun σ i => lenOf (σ.get 37) - i, rd := fun _ σ => (iOf (σ.get 39)).toNat }),
  (2, { ι := Nat, keep := [6, 37, 38, 39, 11], boxes := [6], ts := fun _ k => [(12, dI (k : Int))], rw := fun σ k => [(8, 1, nOf (σ.get 8), [fun q => .val (.int .i64 ((if q < k then stepW (iOf (σ.get 11)).toNat (wpX (iOf (cellOf σ 0 (σ.get 6))).toNat (colI 0 (σ.get 37)) (iOf (σ.get 39)).toNat) q else wpX (iOf (cellOf σ 0 (σ.get 6))).toNat (colI 0 (σ.get 37)) (iOf (σ.get 39)).toNat q : Nat)))])], inv := fun σ k => (iOf (σ.get 11)).toNat ≤ k, mu := fun σ k => nOf (σ.get 8) - k, rd := fun _ σ => (iOf (σ.get 12)).toNat })], cuts := [] }
abbrev waysTop_cr0 (nB : Nat) (B : Nat → Int) (nO : Nat) (O : Nat → Int) (W : Int) (G : Int) (L : Int) (r : List Prop) : List Prop := (catN nB B nO O W G L = catN nB B nO O W G L) :: (∀ i < catN nB B nO O W G L, pLen nB B nO O i = pLen nB B nO O i) :: (∀ i < catN nB B nO O W G L, pCode nB i = pCode nB i) :: (∀ i < catN nB B nO O W G L, decide (nB ≤ i) = decide (nB ≤ i)) :: r
abbrev waysTop_cr1 (nB : Nat) (B : Nat → Int) (nO : Nat) (O : Nat → Int) (W : Int) (G : Int) (L : Int) (len : Int) (r : List Prop) : List Prop := (Int.toNat (len / (↑(catU nB B nO O W G L) : Int) + (1:Int)) = (len / (↑(catU nB B nO O W G L) : Int) + (1:Int)).toNat) :: r
theorem waysTop_c (nB : Nat) (B : Nat → Int) (nO : Nat) (O : Nat → Int) (W G L : Int) (len : Int)  : FnC prog 26 [sys nB B nO O W G L, dI len] (.tup [dI (waysV nB B nO O W G L len), dI (waysE nB B nO O W G L len)]) := by
  refine FnC_owed hmix (A13_waysTop_c nB B nO O W G L len) (V := .need [FnC prog 58 [.agg [.lst nB [fun i => (dI (B i))], .lst nO [fun i => (dI (O i))], (dI W), (dI G), (dI L)], (dI len)] (.tup [.agg [(dI (↑(catU nB B nO O W G L) : Int)), .lst (catN nB B nO O W G L) [fun i => (dI (pLen nB B nO O i)), fun i => (dI (pCode nB i)), fun i => (dB (decide (nB ≤ i)))]], (dI (measE nB B nO O W G L len))])] (.ite (measE nB B nO O W G L len != (0:Int)) (.done [(0:Int) = waysV nB B nO O W G L len, measE nB B nO O W G L len = waysE nB B nO O W G L len]) (.need [(0:Int) ≤ len ∧ (0:Int) < (↑(catU nB B nO O W G L) : Int)] (.ite (len % (↑(catU nB B nO O W G L) : Int) != (0:Int)) (.done [(0:Int) = waysV nB B nO O W G L len, (0:Int) = waysE nB B nO O W G L len]) (.need [(0:Int) ≤ len ∧ (0:Int) < (↑(catU nB B nO O W G L) : Int) ∧ len ≤ (9223372036854775807:Int), i64In (len / (↑(catU nB B nO O W G L) : Int) + (1:Int)), (0:Int) ≤ len / (↑(catU nB B nO O W G L) : Int) + (1:Int) ∧ len / (↑(catU nB B nO O W G L) : Int) + (1:Int) = len / (↑(catU nB B nO O W G L) : Int) + (1:Int) ∧ len / (↑(catU nB B nO O W G L) : Int) + (1:Int) ≤ (140737488355328:Int) ∧ prog.types[(3:Nat)].4 * Int.toNat (len / (↑(catU nB B nO O W G L) : Int) + (1:Int)) ≤ (281474976710656:Nat)] (.need [(0:Int) ≤ (0:Int) ∧ (0:Int) < (↑(len / (↑(catU nB B nO O W G L) : Int) + (1:Int)).toNat : Int), addN (0:Nat) (0:Int).toNat < (len / (↑(catU nB B nO O W G L) : Int) + (1:Int)).toNat] (.loop Nat (fun a => a ≤ catN nB B nO O W G L) (0:Int).toNat (((0:Int) = (↑(0:Int).toNat : Int)) :: (((0:Nat) = (0:Nat)) :: (waysTop_cr1 nB B nO O W G L len (waysTop_cr0 nB B nO O W G L (((↑(catN nB B nO O W G L) : Int) = (↑(catN nB B nO O W G L) : Int)) :: (waysTop_cr1 nB B nO O W G L len ((∀ i < (len / (↑(catU nB B nO O W G L) : Int) + (1:Int)).toNat, (if decide (i = addN (0:Nat) (0:Int).toNat) = true then (1:Int) else (0:Int)) = (↑(wpX (↑(catU nB B nO O W G L) : Int).toNat
     (pLen nB B nO O) (0:Int).toNat i) : Int)) :: (((↑(catU nB B nO O W G L) : Int) = (↑(catU nB B nO O W G L) : Int)) :: (waysTop_cr0 nB B nO O W G L []))))))))) fun i => .ite (decide ((i:Int) < (↑(catN nB B nO O W G L) : Int))) (.need [(0:Int) ≤ (i:Int) ∧ (i:Int) < (↑(catN nB B nO O W G L) : Int)] (.need [(0:Int) ≤ pLen nB B nO O (i:Int).toNat ∧ (0:Int) < (↑(catU nB B nO O W G L) : Int) ∧ pLen nB B nO O (i:Int).toNat ≤ (9223372036854775807:Int)] (.loop Nat (fun a => Int.toNat (pLen nB B nO O (i:Int).toNat / (↑(catU nB B nO O W G L) : Int)) ≤ a) (pLen nB B nO O (i:Int).toNat / (↑(catU nB B nO O W G L) : Int)).toNat ((pLen nB B nO O (i:Int).toNat / (↑(catU nB B nO O W G L) : Int) = (↑(pLen nB B nO O (i:Int).toNat / (↑(catU nB B nO O W G L) : Int)).toNat : Int)) :: (((0:Nat) = (0:Nat)) :: (waysTop_cr1 nB B nO O W G L len (waysTop_cr0 nB B nO O W G L (((↑(catN nB B nO O W G L) : Int) = (↑(catN nB B nO O W G L) : Int)) :: (((i:Int) = (i:Int)) :: ((pLen nB B nO O (i:Int).toNat / (↑(catU nB B nO O W G L) : Int) = pLen nB B nO O (i:Int).toNat / (↑(catU nB B nO O W G L) : Int)) :: (waysTop_cr1 nB B nO O W G L len ((∀ i_1 < (len / (↑(catU nB B nO O W G L) : Int) + (1:Int)).toNat, (↑(wpX (↑(catU nB B nO O W G L) : Int).toNat (pLen nB B nO O) i i_1) : Int) = (↑(if i_1 < (pLen nB B nO O (i:Int).toNat / (↑(catU nB B nO O W G L) : Int)).toNat then stepW (pLen nB B nO O (i:Int).toNat / (↑(catU nB B nO O W G L) : Int)).toNat (wpX (↑(catU nB B nO O W G L) : Int).toNat (pLen nB B nO O) (i:Int).toNat) i_1 else wpX (↑(catU nB B nO O W G L) : Int).toNat (pLen nB B nO O) (i:Int).toNat i_1) : Int)) :: (((↑(catU nB B nO O W G L) : Int) = (↑(catU nB B nO O W G L) : Int)) :: (waysTop_cr0 nB B nO O W G L []))))))))))) fun i_1 => .ite (decide ((i_1:Int) < (↑(len / (↑(catU nB B nO O W
     G L) : Int) + (1:Int)).toNat : Int))) (.need [(0:Int) ≤ (i_1:Int) ∧ (i_1:Int) < (↑(len / (↑(catU nB B nO O W G L) : Int) + (1:Int)).toNat : Int), addN (0:Nat) (i_1:Int).toNat < (len / (↑(catU nB B nO O W G L) : Int) + (1:Int)).toNat, i64In ((i_1:Int) - pLen nB B nO O (i:Int).toNat / (↑(catU nB B nO O W G L) : Int)), (0:Int) ≤ (i_1:Int) - pLen nB B nO O (i:Int).toNat / (↑(catU nB B nO O W G L) : Int) ∧ (i_1:Int) - pLen nB B nO O (i:Int).toNat / (↑(catU nB B nO O W G L) : Int) < (↑(len / (↑(catU nB B nO O W G L) : Int) + (1:Int)).toNat : Int), addN (0:Nat) ((i_1:Int) - pLen nB B nO O (i:Int).toNat / (↑(catU nB B nO O W G L) : Int)).toNat < (len / (↑(catU nB B nO O W G L) : Int) + (1:Int)).toNat, i64In ((↑(if addN (0:Nat) (i_1:Int).toNat < i_1 then stepW (pLen nB B nO O (i:Int).toNat / (↑(catU nB B nO O W G L) : Int)).toNat (wpX (↑(catU nB B nO O W G L) : Int).toNat (pLen nB B nO O) (i:Int).toNat) (addN (0:Nat) (i_1:Int).toNat) else wpX (↑(catU nB B nO O W G L) : Int).toNat (pLen nB B nO O) (i:Int).toNat (addN (0:Nat) (i_1:Int).toNat)) : Int) + (↑(if addN (0:Nat) ((i_1:Int) - pLen nB B nO O (i:Int).toNat / (↑(catU nB B nO O W G L) : Int)).toNat < i_1 then stepW (pLen nB B nO O (i:Int).toNat / (↑(catU nB B nO O W G L) : Int)).toNat (wpX (↑(catU nB B nO O W G L) : Int).toNat (pLen nB B nO O) (i:Int).toNat) (addN (0:Nat) ((i_1:Int) - pLen nB B nO O (i:Int).toNat / (↑(catU nB B nO O W G L) : Int)).toNat) else wpX (↑(catU nB B nO O W G L) : Int).toNat (pLen nB B nO O) (i:Int).toNat (addN (0:Nat) ((i_1:Int) - pLen nB B nO O (i:Int).toNat / (↑(catU nB B nO O W G L) : Int)).toNat)) : Int)), (0:Int) ≤ (i_1:Int) ∧ (i_1:Int) < (↑(len / (↑(catU nB B nO O W G L) : Int) + (1:Int)).toNat
     : Int), addN (0:Nat) (i_1:Int).toNat < (len / (↑(catU nB B nO O W G L) : Int) + (1:Int)).toNat] (.need [i64In ((i_1:Int) + (1:Int))] (.done (((i_1:Int) + (1:Int) = (↑((i_1:Int) + (1:Int)).toNat : Int)) :: (((0:Nat) = (0:Nat)) :: (waysTop_cr1 nB B nO O W G L len (waysTop_cr0 nB B nO O W G L (((↑(catN nB B nO O W G L) : Int) = (↑(catN nB B nO O W G L) : Int)) :: (((i:Int) = (i:Int)) :: ((pLen nB B nO O (i:Int).toNat / (↑(catU nB B nO O W G L) : Int) = pLen nB B nO O (i:Int).toNat / (↑(catU nB B nO O W G L) : Int)) :: (waysTop_cr1 nB B nO O W G L len ((∀ i_2 < (len / (↑(catU nB B nO O W G L) : Int) + (1:Int)).toNat, (if decide (i_2 = addN (0:Nat) (i_1:Int).toNat) = true then mins ((↑(if addN (0:Nat) (i_1:Int).toNat < i_1 then stepW (pLen nB B nO O (i:Int).toNat / (↑(catU nB B nO O W G L) : Int)).toNat (wpX (↑(catU nB B nO O W G L) : Int).toNat (pLen nB B nO O) (i:Int).toNat) (addN (0:Nat) (i_1:Int).toNat) else wpX (↑(catU nB B nO O W G L) : Int).toNat (pLen nB B nO O) (i:Int).toNat (addN (0:Nat) (i_1:Int).toNat)) : Int) + (↑(if addN (0:Nat) ((i_1:Int) - pLen nB B nO O (i:Int).toNat / (↑(catU nB B nO O W G L) : Int)).toNat < i_1 then stepW (pLen nB B nO O (i:Int).toNat / (↑(catU nB B nO O W G L) : Int)).toNat (wpX (↑(catU nB B nO O W G L) : Int).toNat (pLen nB B nO O) (i:Int).toNat) (addN (0:Nat) ((i_1:Int) - pLen nB B nO O (i:Int).toNat / (↑(catU nB B nO O W G L) : Int)).toNat) else wpX (↑(catU nB B nO O W G L) : Int).toNat (pLen nB B nO O) (i:Int).toNat (addN (0:Nat) ((i_1:Int) - pLen nB B nO O (i:Int).toNat / (↑(catU nB B nO O W G L) : Int)).toNat)) : Int)) [(1000001:Int)] else (↑(if i_2 < i_1 then stepW (pLen nB B nO O (i:Int).toNat / (↑(catU nB B nO O W G L) : Int)).toNat
     (wpX (↑(catU nB B nO O W G L) : Int).toNat (pLen nB B nO O) (i:Int).toNat) i_2 else wpX (↑(catU nB B nO O W G L) : Int).toNat (pLen nB B nO O) (i:Int).toNat i_2) : Int)) = (↑(if i_2 < ((i_1:Int) + (1:Int)).toNat then stepW (pLen nB B nO O (i:Int).toNat / (↑(catU nB B nO O W G L) : Int)).toNat (wpX (↑(catU nB B nO O W G L) : Int).toNat (pLen nB B nO O) (i:Int).toNat) i_2 else wpX (↑(catU nB B nO O W G L) : Int).toNat (pLen nB B nO O) (i:Int).toNat i_2) : Int)) :: (((↑(catU nB B nO O W G L) : Int) = (↑(catU nB B nO O W G L) : Int)) :: (waysTop_cr0 nB B nO O W G L [Int.toNat (pLen nB B nO O (i:Int).toNat / (↑(catU nB B nO O W G L) : Int)) ≤ ((i_1:Int) + (1:Int)).toNat, Int.toNat (len / (↑(catU nB B nO O W G L) : Int) + (1:Int)) - ((i_1:Int) + (1:Int)).toNat < (len / (↑(catU nB B nO O W G L) : Int) + (1:Int)).toNat - i_1])))))))))))))) (.need [i64In ((i:Int) + (1:Int))] (.done (((i:Int) + (1:Int) = (↑((i:Int) + (1:Int)).toNat : Int)) :: (((0:Nat) = (0:Nat)) :: (waysTop_cr1 nB B nO O W G L len (waysTop_cr0 nB B nO O W G L (((↑(catN nB B nO O W G L) : Int) = (↑(catN nB B nO O W G L) : Int)) :: (waysTop_cr1 nB B nO O W G L len ((∀ i_2 < (len / (↑(catU nB B nO O W G L) : Int) + (1:Int)).toNat, (↑(if i_2 < i_1 then stepW (pLen nB B nO O (i:Int).toNat / (↑(catU nB B nO O W G L) : Int)).toNat (wpX (↑(catU nB B nO O W G L) : Int).toNat (pLen nB B nO O) (i:Int).toNat) i_2 else wpX (↑(catU nB B nO O W G L) : Int).toNat (pLen nB B nO O) (i:Int).toNat i_2) : Int) = (↑(wpX (↑(catU nB B nO O W G L) : Int).toNat (pLen nB B nO O) ((i:Int) + (1:Int)).toNat i_2) : Int)) :: (((↑(catU nB B nO O W G L) : Int) = (↑(catU nB B nO O W G L) : Int)) :: (waysTop_cr0 nB B nO O W G L [Int.toNat ((i:Int) + (1:Int)) ≤ catN nB B nO O W G L, catN nB B nO O W G L - Int.toNat
     ((i:Int) + (1:Int)) < catN nB B nO O W G L - i])))))))))))))) (.need [i64In ((↑(len / (↑(catU nB B nO O W G L) : Int) + (1:Int)).toNat : Int) - (1:Int)), (0:Int) ≤ (↑(len / (↑(catU nB B nO O W G L) : Int) + (1:Int)).toNat : Int) - (1:Int) ∧ (↑(len / (↑(catU nB B nO O W G L) : Int) + (1:Int)).toNat : Int) - (1:Int) < (↑(len / (↑(catU nB B nO O W G L) : Int) + (1:Int)).toNat : Int), addN (0:Nat) ((↑(len / (↑(catU nB B nO O W G L) : Int) + (1:Int)).toNat : Int) - (1:Int)).toNat < (len / (↑(catU nB B nO O W G L) : Int) + (1:Int)).toNat] (.ite (decide ((↑(wpX (↑(catU nB B nO O W G L) : Int).toNat (pLen nB B nO O) i (addN (0:Nat) ((↑(len / (↑(catU nB B nO O W G L) : Int) + (1:Int)).toNat : Int) - (1:Int)).toNat)) : Int) ≤ (1000000:Int))) (.done [(↑(wpX (↑(catU nB B nO O W G L) : Int).toNat (pLen nB B nO O) i (addN (0:Nat) ((↑(len / (↑(catU nB B nO O W G L) : Int) + (1:Int)).toNat : Int) - (1:Int)).toNat)) : Int) = waysV nB B nO O W G L len, (0:Int) = waysE nB B nO O W G L len]) (.done [(0:Int) = waysV nB B nO O W G L len, (8:Int) = waysE nB B nO O W G L len])))))))))) (by kernel_rfl) ?_
  simp only [VT.holds, AllT, waysTop_cr0, waysTop_cr1, Sq]
  refine ⟨measured_c nB B nO O W G L len, fun h => by rw [waysV, waysE, if_neg h, if_neg h]; exact ⟨rfl, rfl⟩, fun h => ?_⟩
  obtain ⟨h1, h2, h3⟩ := meas_ok h
  obtain ⟨s1, s2, s3, sB, sO, _, _⟩ := sys_ok h1
  have hu := unitP_bd s1 sB sO
  obtain ⟨q0, q1⟩ := quo_bd hu.1 h2 h3
  simp only [catU, catN, if_pos h1, waysV, waysE, if_pos h]
  have hby : prog.types[3].bytes = 8 := by kernel_rfl
  rw [hby]
  have hS : waysS nB B nO O len = wpX (unitP nB B nO O (nB + nO)) (pLen nB B nO O) (nB + nO) (len / (unitP nB B nO O (nB + nO) : Int)).toNat := rfl
  simp only [hS]
  have hmp := fun {i} (hi : i < nB + nO) => unitsP_pos sB sO hi
  have hle : ∀ i q, wpX (unitP nB B nO O (nB + nO)) (pLen nB B nO O) i q ≤ 1000001 := fun i q => waysL_le _ _
  generalize unitP nB B nO O (nB + nO) = u at *
  generalize hQ : len / (u : Int) = Q at *
  refine ⟨⟨h2, by omega⟩, fun hr => by rw [if_neg hr, if_neg hr]; exact ⟨rfl, rfl⟩, fun hr => ?_⟩
  rw [if_pos hr, if_pos hr]
  refine ⟨⟨⟨h2, by omega, by omega⟩, by unfold i64In; omega, by omega, by omega, by omega⟩, ⟨⟨by omega, by omega⟩, by simp [addN]; omega⟩, ⟨rfl, fun q hq => ?_⟩, Nat.zero_le _, fun i hi => ⟨fun hlt => ?_, fun hge => ?_⟩⟩
  · rw [addN_zero]
    show _ = (((if q = 0 then 1 else 0 : Nat) : Nat) : Int)
    split <;> rfl
  · have hi' : i < nB + nO := by omega
    have hx := pLen_bd sB sO hi'
    have m1 := hmp hi'
    have e : pLen nB B nO O i / (u : Int) = (unitsOf u (pLen nB B nO O i) : Int) := by
      unfold unitsOf
      have := Int.ediv_nonneg (a := pLen nB B nO O i) (b := (u : Int)) (by omega) (by omega)
      omega
    have hs : wpX u (pLen nB B nO O) (i + 1) = stepW (unitsOf u (pLen nB B nO O i)) (wpX u (pLen nB B nO O) i) := by
      rw [wpX, range_snoc, waysL_snoc]; rfl
    simp only [e, Int.toNat_sub, addN_zero, hs, Int.toNat_natCast]
    have hW := hle i
    generalize unitsOf u (pLen nB B nO O i) = m at *
    generalize wpX u (pLen nB B nO O) i = V at *
    have hSl := stepW_le (m := m) hW
    refine ⟨⟨by omega, by omega⟩, ⟨by omega, by omega, by omega⟩, ⟨trivial, fun q hq => ?_⟩, Nat.le_refl _, fun k hk => ⟨fun hk2 => ?_, fun hk2 => ?_⟩⟩
    · split
      · rw [stepW_lt (by omega)]
      · rfl
    · have lt : k - m < k := by omega
      simp only [if_pos lt, Nat.lt_irrefl, if_false, if_true]
      have a1 := hW k
      have a2 := hSl (k - m)
      refine ⟨⟨⟨by omega, by omega⟩, by omega, by unfold i64In; omega, ⟨by omega, by omega⟩, by omega, by unfold i64In; omega, ⟨by omega, by omega⟩, by omega⟩, by unfold i64In; omega, rfl, fun q hq => ?_, by omega, by omega⟩
      by_cases e2 : q = k
      · rw [if_pos e2, if_pos (by omega), e2, stepW_ge m1 hk]
        simp only [mins]
        split <;> omega
      · rw [if_neg e2]
        by_cases e3 : q < k
        · rw [if_pos e3, if_pos (by omega)]
        · rw [if_neg e3, if_neg (by omega)]
    · refine ⟨by unfold i64In; omega, rfl, fun q hq => ?_, by omega, by omega⟩
      rw [if_pos (by omega)]
  · rw [show i = nB + nO by omega]
    have e : ((Q + 1).toNat : Int) - 1 = Q := by omega
    rw [e, addN_zero]
    refine ⟨⟨by unfold i64In; omega, ⟨by omega, by omega⟩, by omega⟩, fun hw => ?_, fun hw => ?_⟩
    · rw [if_pos hw, if_pos hw]; exact ⟨rfl, rfl⟩
    · rw [if_neg hw, if_neg hw]; exact ⟨rfl, rfl⟩
end Go.Abs.Lay
end
section
set_option linter.unusedVariables false
set_option linter.unusedSimpArgs false
set_option maxRecDepth 100000
namespace Go.Abs.Lay
open Go
def sameN (n : Nat) (A : Nat → Int) (m : Nat) (B : Nat → Int) : Bool := decide (n = m ∧ ∀ k, k < n → A k = B k)
abbrev partsR (nB : Nat) (B : Nat → Int) (nO : Nat) (O : Nat → Int) : DV := .lst (nB + nO) [fun i => .val (.int .i64 (rLen nB B O i)), fun i => .val (.int .i64 (rCode nB i))]
def allF (nB : Nat) (B O : Nat → Int) (i : Nat) : Int := if i < nB then B i else O (i - nB)
def rRise : Orc := .res fun l => dB (rise (aN l) (aX l))
theorem unitR_succ (nB : Nat) (B : Nat → Int) (O : Nat → Int) (i : Nat) : Int.gcd (unitR nB B O i) (rLen nB B O i) = unitR nB B O (i + 1) := by
  rw [unitR, unitR, range_snoc, gcdL_snoc]
theorem unitR_bd {nB : Nat} {B : Nat → Int} {nO : Nat} {O : Nat → Int} (h1 : 1 ≤ nB) (hB : ∀ k, k < nB → 1 ≤ B k ∧ B k ≤ 10000) (hO : ∀ k, k < nO → 1 ≤ O k ∧ O k ≤ 10000) : 1 ≤ unitR nB B O (nB + nO) ∧ unitR nB B O (nB + nO) ≤ 10000 := by
  rw [← unit_eq]; exact unitP_bd h1 hB hO
theorem anyBad_app (nB : Nat) (B : Nat → Int) (nO : Nat) (O : Nat → Int) : anyBad (nB + nO) (allF nB B O) = true ↔ anyBad nB B = true ∨ anyBad nO O = true := by
  unfold anyBad
  simp only [anyN_true]
  constructor
  · rintro ⟨k, hk, h⟩
    unfold allF at h
    split at h
    · exact .inl ⟨k, by omega, h⟩
    · exact .inr ⟨k - nB, by omega, h⟩
  · rintro (⟨k, hk, h⟩ | ⟨k, hk, h⟩)
    · refine ⟨k, by omega, ?_⟩
      unfold allF; rw [if_pos hk]; exact h
    · refine ⟨nB + k, by omega, ?_⟩
      unfold allF; rw [if_neg (by omega), Nat.add_sub_cancel_left]; exact h
noncomputable def A20_ints_c (n : Nat) (A : Nat → Int) (m : Nat) (B : Nat → Int) : Ann := { orc := [], loops := [(0, { ι := Nat, keep := [0, 1], boxes := [], ts := fun _ i => [(5, dI (i : Int))], inv := fun _ i => i ≤ n ∧ ∀ j, j < i → A j = B j, mu := fun _ i => n - i, rd := fun _ σ => (iOf (σ.get 5)).toNat })], cuts := [] }
theorem ints_c (n : Nat) (A : Nat → Int) (m : Nat) (B : Nat → Int) (hn : n ≤ 1000000000) : FnC prog 28 [nums n A, nums m B] (dB (sameN n A m B)) := by
  refine FnC_owed hmix (A20_ints_c n A m B) (V := .ite ((n:Int) != (m:Int)) (.done [false = sameN n A m B]) (.loop Nat (fun a => a ≤ n ∧ ∀ (j : Nat), j < a → A j = B j) (0:Int).toNat [(0:Int) = (↑(0:Int).toNat : Int), n = n, ∀ i < n, A i = A i, m = m, ∀ i < m, B i = B i] fun i => .ite (decide ((i:Int) < (n:Int))) (.need [(0:Int) ≤ (i:Int) ∧ (i:Int) < (n:Int), (0:Int) ≤ (i:Int) ∧ (i:Int) < (m:Int)] (.ite (A (i:Int).toNat != B (i:Int).toNat) (.done [false = sameN n A m B]) (.need [i64In ((i:Int) + (1:Int))] (.done [(i:Int) + (1:Int) = (↑((i:Int) + (1:Int)).toNat : Int), n = n, ∀ i < n, A i = A i, m = m, ∀ i < m, B i = B i, Int.toNat ((i:Int) + (1:Int)) ≤ n ∧ ∀ (j : Nat), j < ((i:Int) + (1:Int)).toNat → A j = B j, n - ((i:Int) + (1:Int)).toNat < n - i])))) (.done [true = sameN n A m B]))) (by kernel_rfl) ?_
  simp only [VT.holds, AllT, Sq]
  refine ⟨fun h => ?_, fun h => ⟨rfl, ⟨by omega, fun j hj => (by omega)⟩, fun i ⟨hi, hb⟩ => ⟨fun hlt => ⟨⟨by omega, by omega, by omega⟩, fun hne => ?_, fun he => ⟨by unfold i64In; omega, rfl, ⟨by omega, fun j hj => ?_⟩, by omega⟩⟩, fun hge => ?_⟩⟩⟩
  · unfold sameN
    rw [eq_comm, decide_eq_false_iff_not]
    intro hx; omega
  · unfold sameN
    rw [eq_comm, decide_eq_false_iff_not]
    intro hx; exact hne (hx.2 i (by omega))
  · by_cases e : j = i
    · subst e; exact he
    · exact hb j (by omega)
  · unfold sameN
    rw [eq_comm, decide_eq_true_eq]
    exact ⟨by omega, fun j hj => hb j (by omega)⟩
noncomputable def A121_abs_c (n : Int) : Ann := { orc := [], loops := [], cuts := [] }
theorem abs_c (n : Int) (hn : 0 ≤ n) : FnC prog 109 [dI n] (dI n) := by
  refine FnC_owed hmix (A121_abs_c n) (V := .ite (decide (n < (0:Int))) (.need [i64In (-n)] (.done [-n = n])) (.done [n = n])) (by kernel_rfl) ?_
  simp only [VT.holds, AllT, Sq]
  exact fun h => absurd h (by omega)
noncomputable def A99_gcdR_c (a b : Int) : Ann := { orc := [(2, [(3, .pos)]), (3, [(1, .res fun l => dI (aI l 0))])], loops := [(0, { ι := Int × Int, keep := [], boxes := [], ts := fun _ i => [(0, dI i.1), (1, dI i.2)], inv := fun _ i => 0 ≤ i.1 ∧ 0 ≤ i.2 ∧ Int.gcd i.1 i.2 = Int.gcd a b, mu := fun _ i => i.2.toNat, rd := fun _ σ => (iOf (σ.get 0), iOf (σ.get 1)) })], cuts := [] }
theorem gcdR_c (a b : Int) (h1 : 0 ≤ a) (h2 : 0 ≤ b) : FnC prog 79 [dI a, dI b] (dI (Int.gcd a b)) := by
  refine FnC_owed hmix (A99_gcdR_c a b) (V := .loop (Int × Int) (fun (a_1 : Int × Int) => (0:Int) ≤ a_1.fst ∧ (0:Int) ≤ a_1.snd ∧ Int.gcd a_1.fst a_1.snd = Int.gcd a b) (a, b) [a = a, b = b] fun (i : Int × Int) => .ite (i.snd != (0:Int)) (.need [(0:Int) ≤ i.fst ∧ (0:Int) < i.snd] (.done [i.snd = i.snd, i.fst % i.snd = i.fst % i.snd, (0:Int) ≤ i.snd ∧ (0:Int) ≤ i.fst % i.snd ∧ Int.gcd i.snd (i.fst % i.snd) = Int.gcd a b, Int.toNat (i.fst % i.snd) < Int.toNat i.snd])) (.need [FnC prog 109 [(dI i.fst)] ((dI i.fst))] (.done [i.fst = (↑(Int.gcd a b) : Int)]))) (by kernel_rfl) ?_
  simp only [VT.holds, AllT, Sq]
  refine ⟨⟨h1, h2⟩, fun i ⟨h1, h2, h3⟩ => ⟨fun hne => ⟨⟨h1, by omega⟩, ⟨h2, Int.emod_nonneg _ hne, ?_⟩, ?_⟩, fun he => ⟨abs_c _ h1, ?_⟩⟩⟩
  · rw [← h3, gcd_emod]
  · have := Int.emod_lt_of_pos i.1 (show 0 < i.2 by omega)
    have := Int.emod_nonneg i.1 hne
    omega
  · rw [← h3, he, Int.gcd_zero_right]
    omega
noncomputable def A61_unitR_c (nB : Nat) (B : Nat → Int) (nO : Nat) (O : Nat → Int) (W G L : Int) : Ann := { orc := [(5, [(6, rGcd)]), (9, [(6, rGcd)])], loops := [(0, { ι := Nat, keep := [1], boxes := [1], ts := fun _ i => [(3, dI (unitR nB B O i)), (4, dI (i : Int))], inv := fun _ i => i ≤ nB, mu := fun _ i => nB - i, rd := fun _ σ => (iOf (σ.get 4)).toNat }),
  (2, { ι := Nat, keep := [1], boxes := [1], ts := fun _ i => [(3, dI (unitR nB B O (nB + i))), (5, dI (i : Int))], inv := fun _ i => i ≤ nO, mu := fun _ i => nO - i, rd := fun _ σ => (iOf (σ.get 5)).toNat })], cuts := [] }
theorem unitR_c (nB : Nat) (B : Nat → Int) (nO : Nat) (O : Nat → Int) (W G L : Int) (h2 : nB ≤ 8) (h3 : nO ≤ 8) (hB : ∀ k, k < nB → 1 ≤ B k ∧ B k ≤ 10000) (hO : ∀ k, k < nO → 1 ≤ O k ∧ O k ≤ 10000) : FnC prog 48 [sys nB B nO O W G L] (dI (unitR nB B O (nB + nO))) := by
  refine FnC_owed hmix (A61_unitR_c nB B nO O W G L) (V := .loop Nat (fun a => a ≤ nB) (0:Int).toNat [(0:Int) = (↑(unitR nB B O (0:Int).toNat) : Int), (0:Int) = (↑(0:Int).toNat : Int), nB = nB, ∀ i < nB, B i = B i, nO = nO, ∀ i < nO, O i = O i, W = W, G = G, L = L] fun i => .ite (decide ((i:Int) < (nB:Int))) (.need [(0:Int) ≤ (i:Int) ∧ (i:Int) < (nB:Int), FnC prog 79 [(dI (↑(unitR nB B O i) : Int)), (dI (B (i:Int).toNat))] ((dI (↑(Int.gcd (↑(unitR nB B O i) : Int) (B (i:Int).toNat)) : Int)))] (.need [i64In ((i:Int) + (1:Int))] (.done [(↑(Int.gcd (↑(unitR nB B O i) : Int) (B (i:Int).toNat)) : Int) = (↑(unitR nB B O ((i:Int) + (1:Int)).toNat) : Int), (i:Int) + (1:Int) = (↑((i:Int) + (1:Int)).toNat : Int), nB = nB, ∀ i < nB, B i = B i, nO = nO, ∀ i < nO, O i = O i, W = W, G = G, L = L, Int.toNat ((i:Int) + (1:Int)) ≤ nB, nB - ((i:Int) + (1:Int)).toNat < nB - i]))) (.loop Nat (fun a => a ≤ nO) (0:Int).toNat [(↑(unitR nB B O i) : Int) = (↑(unitR nB B O (nB + (0:Int).toNat)) : Int), (0:Int) = (↑(0:Int).toNat : Int), nB = nB, ∀ i < nB, B i = B i, nO = nO, ∀ i < nO, O i = O i, W = W, G = G, L = L] fun i => .ite (decide ((i:Int) < (nO:Int))) (.need [(0:Int) ≤ (i:Int) ∧ (i:Int) < (nO:Int), FnC prog 79 [(dI (↑(unitR nB B O (nB + i)) : Int)), (dI (O (i:Int).toNat))] ((dI (↑(Int.gcd (↑(unitR nB B O (nB + i)) : Int) (O (i:Int).toNat)) : Int)))] (.need [i64In ((i:Int) + (1:Int))] (.done [(↑(Int.gcd (↑(unitR nB B O (nB + i)) : Int) (O (i:Int).toNat)) : Int) = (↑(unitR nB B O (nB + ((i:Int) + (1:Int)).toNat)) : Int), (i:Int) + (1:Int) = (↑((i:Int) + (1:Int)).toNat : Int), nB = nB, ∀ i < nB, B i = B i, nO = nO, ∀ i < nO, O i = O i, W = W, G = G, L = L, Int.toNat ((i:Int) + (1:Int)) ≤ nO, nO - ((i:Int) +
     (1:Int)).toNat < nO - i]))) (.done [(↑(unitR nB B O (nB + i)) : Int) = (↑(unitR nB B O (nB + nO)) : Int)]))) (by kernel_rfl) ?_
  simp only [VT.holds, AllT, Sq]
  refine ⟨⟨rfl, rfl⟩, Nat.zero_le _, fun i hi => ⟨fun hlt => ⟨⟨⟨by omega, by omega⟩, gcdR_c _ _ (by omega) (by have := hB i (by omega); omega)⟩, by unfold i64In; omega, ?_, rfl, by omega, by omega⟩, fun hge => ⟨⟨by rw [show i = nB + 0 by omega], rfl⟩, Nat.zero_le _, fun i hi => ⟨fun hlt => ⟨⟨⟨by omega, by omega⟩, gcdR_c _ _ (by omega) (by have := hO i (by omega); omega)⟩, by unfold i64In; omega, ?_, rfl, by omega, by omega⟩, fun hge => by rw [show i = nO by omega]⟩⟩⟩⟩
  · rw [← unitR_succ, rLen, if_pos (by omega)]
  · rw [show nB + (i + 1) = nB + i + 1 by omega, ← unitR_succ, rLen, if_neg (by omega), Nat.add_sub_cancel_left]
noncomputable def A62_partsR_c (nB : Nat) (B : Nat → Int) (nO : Nat) (O : Nat → Int) (W G L : Int) : Ann := { orc := [], loops := [(0, { ι := Nat, keep := [1], boxes := [1], ts := fun _ i => [(4, dI (i : Int))], rw := fun _ i => [(3, 2, i, [fun i => .val (.int .i64 (rLen nB B O i)), fun i => .val (.int .i64 (rCode nB i))])], inv := fun _ i => i ≤ nB, mu := fun _ i => nB - i, rd := fun _ σ => (iOf (σ.get 4)).toNat }),
  (2, { ι := Nat, keep := [1], boxes := [1], ts := fun _ i => [(6, dI (i : Int))], rw := fun _ i => [(3, 2, nB + i, [fun i => .val (.int .i64 (rLen nB B O i)), fun i => .val (.int .i64 (rCode nB i))])], inv := fun _ i => i ≤ nO, mu := fun _ i => nO - i, rd := fun _ σ => (iOf (σ.get 6)).toNat })], cuts := [] }
theorem partsR_c (nB : Nat) (B : Nat → Int) (nO : Nat) (O : Nat → Int) (W G L : Int) (h2 : nB ≤ 8) (h3 : nO ≤ 8) : FnC prog 72 [sys nB B nO O W G L] (partsR nB B nO O) := by
  refine FnC_owed hmix (A62_partsR_c nB B nO O W G L) (V := .loop Nat (fun a => a ≤ nB) (0:Int).toNat [(0:Int) = (↑(0:Int).toNat : Int), (0:Nat) = (0:Nat), Int.toNat (0:Int) = (0:Nat), Int.toNat (0:Int) = (0:Nat), nB = nB, ∀ i < nB, B i = B i, nO = nO, ∀ i < nO, O i = O i, W = W, G = G, L = L] fun i => .ite (decide ((i:Int) < (nB:Int))) (.need [i64In ((nB:Int) - (1:Int))] (.ite ((i:Int) == (nB:Int) - (1:Int)) (.need [(0:Int) ≤ (i:Int) ∧ (i:Int) < (nB:Int), i ≤ i, (i + (1:Nat)) * (nat_lit 15 + (1:Nat)) ≤ (140737488355328:Nat), (1:Nat) ≤ (1:Nat)] (.need [i64In ((i:Int) + (1:Int))] (.done [(i:Int) + (1:Int) = (↑((i:Int) + (1:Int)).toNat : Int), (0:Nat) = (0:Nat), i + (1:Nat) = ((i:Int) + (1:Int)).toNat, i + (1:Nat) = ((i:Int) + (1:Int)).toNat, ∀ i_1 < ((i:Int) + (1:Int)).toNat, (if decide (i_1 < i) = true then rLen nB B O i_1 else B (i:Int).toNat) = rLen nB B O i_1, ∀ i_1 < ((i:Int) + (1:Int)).toNat, (if decide (i_1 < i) = true then rCode nB i_1 else (1:Int)) = rCode nB i_1, nB = nB, ∀ i < nB, B i = B i, nO = nO, ∀ i < nO, O i = O i, W = W, G = G, L = L, Int.toNat ((i:Int) + (1:Int)) ≤ nB, nB - ((i:Int) + (1:Int)).toNat < nB - i]))) (.need [(0:Int) ≤ (i:Int) ∧ (i:Int) < (nB:Int), i ≤ i, (i + (1:Nat)) * (nat_lit 15 + (1:Nat)) ≤ (140737488355328:Nat), (1:Nat) ≤ (1:Nat)] (.need [i64In ((i:Int) + (1:Int))] (.done [(i:Int) + (1:Int) = (↑((i:Int) + (1:Int)).toNat : Int), (0:Nat) = (0:Nat), i + (1:Nat) = ((i:Int) + (1:Int)).toNat, i + (1:Nat) = ((i:Int) + (1:Int)).toNat, ∀ i_1 < ((i:Int) + (1:Int)).toNat, (if decide (i_1 < i) = true then rLen nB B O i_1 else B (i:Int).toNat) = rLen nB B O i_1, ∀ i_1 < ((i:Int) + (1:Int)).toNat, (if decide (i_1 < i) = true then rCode nB i_1 else
     (10001:Int)) = rCode nB i_1, nB = nB, ∀ i < nB, B i = B i, nO = nO, ∀ i < nO, O i = O i, W = W, G = G, L = L, Int.toNat ((i:Int) + (1:Int)) ≤ nB, nB - ((i:Int) + (1:Int)).toNat < nB - i]))))) (.loop Nat (fun a => a ≤ nO) (0:Int).toNat [(0:Int) = (↑(0:Int).toNat : Int), (0:Nat) = (0:Nat), i = nB + (0:Int).toNat, i = nB + (0:Int).toNat, ∀ i < nB + (0:Int).toNat, rLen nB B O i = rLen nB B O i, ∀ i < nB + (0:Int).toNat, rCode nB i = rCode nB i, nB = nB, ∀ i < nB, B i = B i, nO = nO, ∀ i < nO, O i = O i, W = W, G = G, L = L] fun i => .ite (decide ((i:Int) < (nO:Int))) (.need [(0:Int) ≤ (i:Int) ∧ (i:Int) < (nO:Int), nB + i ≤ nB + i, (nB + i + (1:Nat)) * (nat_lit 15 + (1:Nat)) ≤ (140737488355328:Nat), (1:Nat) ≤ (1:Nat)] (.need [i64In ((i:Int) + (1:Int))] (.done [(i:Int) + (1:Int) = (↑((i:Int) + (1:Int)).toNat : Int), (0:Nat) = (0:Nat), nB + i + (1:Nat) = nB + ((i:Int) + (1:Int)).toNat, nB + i + (1:Nat) = nB + ((i:Int) + (1:Int)).toNat, ∀ i_1 < nB + ((i:Int) + (1:Int)).toNat, (if decide (i_1 < nB + i) = true then rLen nB B O i_1 else O (i:Int).toNat) = rLen nB B O i_1, ∀ i_1 < nB + ((i:Int) + (1:Int)).toNat, (if decide (i_1 < nB + i) = true then rCode nB i_1 else (10000:Int)) = rCode nB i_1, nB = nB, ∀ i < nB, B i = B i, nO = nO, ∀ i < nO, O i = O i, W = W, G = G, L = L, Int.toNat ((i:Int) + (1:Int)) ≤ nO, nO - ((i:Int) + (1:Int)).toNat < nO - i]))) (.done [nB + i ≤ nB + i, nB + i = nB + nO, ∀ i < nB + nO, rLen nB B O i = rLen nB B O i, ∀ i < nB + nO, rCode nB i = rCode nB i]))) (by kernel_rfl) ?_
  simp only [VT.holds, AllT, Sq]
  have e1 : ∀ i, i < nB → ∀ j, j < i + 1 → (if j < i then rLen nB B O j else B i) = rLen nB B O j := fun i hi j hj => by
    by_cases h : j < i
    · rw [if_pos h]
    · rw [if_neg h, show j = i by omega, rLen, if_pos hi]
  refine ⟨rfl, Nat.zero_le _, fun i hi => ⟨fun hlt => ⟨by unfold i64In; omega, fun he => ⟨⟨⟨by omega, by omega⟩, Nat.le_refl _, by omega, Nat.le_refl _⟩, by unfold i64In; omega, rfl, e1 i (by omega), fun j hj => ?_, by omega, by omega⟩, fun he => ⟨⟨⟨by omega, by omega⟩, Nat.le_refl _, by omega, Nat.le_refl _⟩, by unfold i64In; omega, rfl, e1 i (by omega), fun j hj => ?_, by omega, by omega⟩⟩, fun hge => ⟨⟨rfl, by omega, by omega⟩, Nat.zero_le _, fun i hi => ⟨fun hlt => ⟨⟨⟨by omega, by omega⟩, Nat.le_refl _, by omega, Nat.le_refl _⟩, by unfold i64In; omega, rfl, by omega, by omega, fun j hj => ?_, fun j hj => ?_, by omega, by omega⟩, fun hge => ⟨Nat.le_refl _, by omega⟩⟩⟩⟩⟩
  · by_cases h : j < i
    · rw [if_pos h]
    · rw [if_neg h, rCode, if_pos (by omega), if_pos (by omega)]
  · by_cases h : j < i
    · rw [if_pos h]
    · rw [if_neg h, rCode, if_pos (by omega), if_neg (by omega)]
  · by_cases h : j < nB + i
    · rw [if_pos h]
    · rw [if_neg h, rLen, if_neg (by omega), show j - nB = i by omega]
  · by_cases h : j < nB + i
    · rw [if_pos h]
    · rw [if_neg h, rCode, if_neg (by omega)]
noncomputable def A60_rising_c (n : Nat) (A : Nat → Int) : Ann := { orc := [], loops := [(0, { ι := Nat, keep := [0], boxes := [], ts := fun _ i => [(3, dI (i : Int))], inv := fun _ i => 1 ≤ i ∧ ∀ k, k < i → k < n → 0 < k → A (k - 1) < A k, mu := fun _ i => n - i, rd := fun _ σ => (iOf (σ.get 3)).toNat })], cuts := [] }
theorem rising_c (n : Nat) (A : Nat → Int) (hn : n ≤ 1000000) : FnC prog 101 [nums n A] (dB (rise n A)) := by
  refine FnC_owed hmix (A60_rising_c n A) (V := .loop Nat (fun a => (1:Nat) ≤ a ∧ ∀ (k : Nat), k < a → k < n → (0:Nat) < k → A (k - (1:Nat)) < A k) (1:Int).toNat [(1:Int) = (↑(1:Int).toNat : Int), n = n, ∀ i < n, A i = A i] fun i => .ite (decide ((i:Int) < (n:Int))) (.need [(0:Int) ≤ (i:Int) ∧ (i:Int) < (n:Int), i64In ((i:Int) - (1:Int)), (0:Int) ≤ (i:Int) - (1:Int) ∧ (i:Int) - (1:Int) < (n:Int)] (.ite (decide (A (i:Int).toNat ≤ A ((i:Int) - (1:Int)).toNat)) (.done [false = rise n A]) (.need [i64In ((i:Int) + (1:Int))] (.done [(i:Int) + (1:Int) = (↑((i:Int) + (1:Int)).toNat : Int), n = n, ∀ i < n, A i = A i, (1:Nat) ≤ ((i:Int) + (1:Int)).toNat ∧ ∀ (k : Nat), k < ((i:Int) + (1:Int)).toNat → k < n → (0:Nat) < k → A (k - (1:Nat)) < A k, n - ((i:Int) + (1:Int)).toNat < n - i])))) (.done [true = rise n A])) (by kernel_rfl) ?_
  simp only [VT.holds, AllT, Sq]
  refine ⟨rfl, ⟨Nat.le_refl _, fun k hk _ h0 => absurd hk (show ¬ k < 1 by omega)⟩, fun i ⟨hi, hb⟩ => ⟨fun hlt => ⟨⟨⟨by omega, by omega⟩, by unfold i64In; omega, by omega, by omega⟩, fun h => ?_, fun h => ⟨by unfold i64In; omega, rfl, ⟨by omega, fun k hk hn h0 => ?_⟩, by omega⟩⟩, fun hge => ?_⟩⟩
  · rw [rise, eq_comm, decide_eq_false_iff_not]
    intro hx
    have := hx i (by omega) (by omega)
    rw [show i - 1 = ((i : Int) - 1).toNat by omega] at this
    omega
  · by_cases e : k = i
    · rw [show ((i : Int) - 1).toNat = i - 1 by omega] at h
      rw [e]; omega
    · exact hb k (by omega) hn h0
  · rw [rise, eq_comm, decide_eq_true_eq]
    exact fun k hk h0 => hb k (by omega) hk h0
noncomputable def A15_systemR_c (nB : Nat) (B : Nat → Int) (nO : Nat) (O : Nat → Int) (W G L : Int) : Ann := { orc := [(1, [(3, rIn)]), (3, [(2, .row fun l => (aN l, [fun i => .val (.int .i64 (aX l i))]))]), (7, [(4, rIn)]), (9, [(2, rRise), (7, rRise)]), (11, [(2, rIn), (7, rIn), (13, rIn)])], loops := [(0, { ι := Nat, keep := [1], boxes := [1], ts := fun _ i => [(4, dI (i : Int))], rw := fun _ _ => [(3, 1, nB + nO, [fun i => .val (.int .i64 (allF nB B O i))])], inv := fun _ i => i ≤ nB + nO ∧ ∀ j, j < i → badL (allF nB B O j) = false, mu := fun _ i => nB + nO - i, rd := fun _ σ => (iOf (σ.get 4)).toNat })], cuts := [] }
abbrev q_systemR_c_0 (nB : Nat) : Bool := !!inR (nB:Int) (1:Int) (8:Int)
abbrev q_systemR_c_1 (W : Int) (G : Int) : Bool := !if (!inR W (1:Int) (5000:Int)) = true then true else !inR G (0:Int) (5000:Int)
theorem systemR_c (nB : Nat) (B : Nat → Int) (nO : Nat) (O : Nat → Int) (W G L : Int)  : FnC prog 63 [sys nB B nO O W G L] (dI (sysE nB B nO O W G L)) := by
  refine FnC_owed hmix (A15_systemR_c nB B nO O W G L) (V := .need [FnC prog 34 [(dI (nB:Int)), (dI (1:Int)), (dI (8:Int))] ((dB (inR (nB:Int) (1:Int) (8:Int)))), (q_systemR_c_0 nB) = true → (q_systemR_c_0 nB) = true, (q_systemR_c_0 nB) = true → (q_systemR_c_0 nB) = true, (q_systemR_c_0 nB) = true → (q_systemR_c_0 nB) = true, (!inR (nB:Int) (1:Int) (8:Int)) = false → (q_systemR_c_0 nB) = true] (.ite (if (!inR (nB:Int) (1:Int) (8:Int)) = true then true else decide ((nO:Int) > (8:Int))) (.done [(11:Int) = sysE nB B nO O W G L]) (.need [FnR prog 11 [.lst nB [fun i => (dI (B i))]] nB [fun i => (dI (B i))], nB ≤ nB, (nB + nO) * (nat_lit 7 + (1:Nat)) ≤ (140737488355328:Nat)] (.loop Nat (fun a => a ≤ nB + nO ∧ ∀ (j : Nat), j < a → badL (allF nB B O j) = false) (0:Int).toNat [(0:Int) = (↑(0:Int).toNat : Int), (0:Nat) = (0:Nat), nB + nO = nB + nO, nB + nO = nB + nO, ∀ i < nB + nO, (if decide (i < nB) = true then B i else O (i - nB)) = allF nB B O i, nB = nB, ∀ i < nB, B i = B i, nO = nO, ∀ i < nO, O i = O i, W = W, G = G, L = L] fun i => .ite (decide ((i:Int) < (↑(nB + nO) : Int))) (.need [(0:Int) ≤ (i:Int) ∧ (i:Int) < (↑(nB + nO) : Int), addN (0:Nat) (i:Int).toNat < nB + nO, FnC prog 34 [(dI (allF nB B O (addN (0:Nat) (i:Int).toNat))), (dI (1:Int)), (dI (10000:Int))] ((dB (inR (allF nB B O (addN (0:Nat) (i:Int).toNat)) (1:Int) (10000:Int))))] (.ite (!inR (allF nB B O (addN (0:Nat) (i:Int).toNat)) (1:Int) (10000:Int)) (.done [(2:Int) = sysE nB B nO O W G L]) (.need [i64In ((i:Int) + (1:Int))] (.done [(i:Int) + (1:Int) = (↑((i:Int) + (1:Int)).toNat : Int), (0:Nat) = (0:Nat), nB + nO = nB + nO, nB + nO = nB + nO, ∀ i < nB + nO, allF nB B O i = allF nB B O i, nB = nB, ∀ i < nB, B i = B i, nO = nO, ∀ i < nO, O i = O i, W = W, G = G, L = L, Int.toNat ((i:Int) + (1:Int)) ≤ nB + nO ∧ ∀ (j :
     Nat), j < ((i:Int) + (1:Int)).toNat → badL (allF nB B O j) = false, nB + nO - ((i:Int) + (1:Int)).toNat < nB + nO - i])))) (.need [FnC prog 101 [.lst nB [fun i => (dI (B i))]] ((dB (rise nB B))), (!!rise nB B) = true → (!!rise nB B) = true, (!!rise nB B) = true → (!!rise nB B) = true, (!!rise nB B) = true → FnC prog 101 [.lst nO [fun i => (dI (O i))]] ((dB (rise nO O))), (!!rise nB B) = true → (!!rise nB B) = true, (!rise nB B) = false → (!!rise nB B) = true] (.ite (if (!rise nB B) = true then true else !rise nO O) (.done [(10:Int) = sysE nB B nO O W G L]) (.need [FnC prog 34 [(dI W), (dI (1:Int)), (dI (5000:Int))] ((dB (inR W (1:Int) (5000:Int)))), (!!inR W (1:Int) (5000:Int)) = true → (!!inR W (1:Int) (5000:Int)) = true, (!!inR W (1:Int) (5000:Int)) = true → (!!inR W (1:Int) (5000:Int)) = true, (!!inR W (1:Int) (5000:Int)) = true → FnC prog 34 [(dI G), (dI (0:Int)), (dI (5000:Int))] ((dB (inR G (0:Int) (5000:Int)))), (!!inR W (1:Int) (5000:Int)) = true → (!!inR W (1:Int) (5000:Int)) = true, (!inR W (1:Int) (5000:Int)) = false → (!!inR W (1:Int) (5000:Int)) = true, (q_systemR_c_1 W G) = true → (q_systemR_c_1 W G) = true, (q_systemR_c_1 W G) = true → (q_systemR_c_1 W G) = true, (q_systemR_c_1 W G) = true → FnC prog 34 [(dI L), (dI (1:Int)), (dI (10000:Int))] ((dB (inR L (1:Int) (10000:Int)))), (q_systemR_c_1 W G) = true → (q_systemR_c_1 W G) = true, (if (!inR W (1:Int) (5000:Int)) = true then true else !inR G (0:Int) (5000:Int)) = false → (q_systemR_c_1 W G) = true] (.ite (if (if (!inR W (1:Int) (5000:Int)) = true then true else !inR G (0:Int) (5000:Int)) = true then true else !inR L (1:Int) (10000:Int)) (.done [(2:Int) = sysE nB B nO O W G L]) (.done [(0:Int) = sysE nB B nO O W G L]))))))))) (by kernel_rfl) ?_
  simp only [q_systemR_c_0, q_systemR_c_1, VT.holds, AllT, Sq]
  have rg : ∀ x lo hi, inR x lo hi = true ↔ lo ≤ x ∧ x ≤ hi := fun x lo hi => by rw [inR, decide_eq_true_eq]
  have rf : ∀ x lo hi, inR x lo hi = false ↔ ¬ (lo ≤ x ∧ x ≤ hi) := fun x lo hi => by rw [inR, decide_eq_false_iff_not]
  refine ⟨withinR_c _ _ _, fun h => ?_, fun ⟨h, h'⟩ => ?_⟩
  · rw [rf] at h
    rw [sysE, if_pos (by omega)]
  · rw [rf] at h
    have hs : ¬ (nB < 1 ∨ nB > 8 ∨ nO > 8) := by omega
    refine ⟨⟨copyR_c nB B (by omega), Nat.le_refl _, by omega⟩, ⟨rfl, fun i hi => rfl⟩, ⟨Nat.zero_le _, fun j hj => by omega⟩, fun i ⟨hi, hb⟩ => ⟨fun hlt => ?_, fun hge => ?_⟩⟩
    · simp only [addN_zero]
      refine ⟨⟨⟨by omega, by omega⟩, by omega, withinR_c _ _ _⟩, fun h2 => ?_, fun h2 => ⟨by unfold i64In; omega, rfl, ⟨by omega, fun j hj => ?_⟩, by omega⟩⟩
      · rw [sysE, if_neg hs, if_pos]
        rw [← anyBad_app]
        exact anyN_true.2 ⟨i, by omega, by rw [badL, h2]; rfl⟩
      · by_cases e : j = i
        · rw [e, badL, h2]; rfl
        · exact hb j (by omega)
    · have hA : ¬ (anyBad nB B = true ∨ anyBad nO O = true) := by
        rw [← anyBad_app]
        intro hx
        obtain ⟨k, hk, h3⟩ := anyN_true.1 hx
        rw [hb k (by omega)] at h3; cases h3
      refine ⟨⟨rising_c nB B (by omega), fun _ => rising_c nO O (by omega)⟩, fun h2 => ?_, fun h2 => ⟨⟨withinR_c _ _ _, fun _ => withinR_c _ _ _, fun _ => withinR_c _ _ _⟩, fun h3 => ?_, fun h3 => ?_⟩⟩
      · rw [sysE, if_neg hs, if_neg hA, if_pos h2]
      · have h4 : ¬ (rise nB B = false ∨ rise nO O = false) := fun hx => hx.elim h2.1 fun e => by rw [h2.2] at e; cases e
        rw [sysE, if_neg hs, if_neg hA, if_neg h4, if_pos]
        rcases h3 with (h3 | h3) | h3
        · exact .inl h3
        · exact .inr (.inl h3)
        · exact .inr (.inr h3)
      · have h4 : ¬ (rise nB B = false ∨ rise nO O = false) := fun hx => hx.elim h2.1 fun e => by rw [h2.2] at e; cases e
        rw [sysE, if_neg hs, if_neg hA, if_neg h4, if_neg]
        rintro (h5 | h5 | h5)
        · exact h3.1 (.inl h5)
        · exact h3.1 (.inr h5)
        · rw [h3.2] at h5; cases h5
end Go.Abs.Lay
end
