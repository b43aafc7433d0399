/- Contracts. -/
import Derived.Test.YtdhnfeoigmeopaaDoorL5
set_option maxRecDepth 100000
namespace Go.Abs
open Go
def wpX (u : Nat) (X : Nat → Int) (i : Nat) : Nat → Nat := waysL ((List.range i).map fun i => unitsOf u (X i))
abbrev cU (l : List DV) : Nat := (fI 0 (arg l 0)).toNat
abbrev cN (l : List DV) : Nat := lenOf (fD 1 (arg l 0))
def rTable : Orc := .res fun l => .lst (aI l 1 + 1).toNat [fun k => .val (.int .i64 (tabL (plX (cU l) (colI 0 (fD 1 (arg l 0))) (colI 1 (fD 1 (arg l 0))) (cN l)) k))]
theorem meas_ok {nB : Nat} {B : Nat → Int} {nO : Nat} {O : Nat → Int} {W G L len : Int} (h : measE nB B nO O W G L len = 0) : sysE nB B nO O W G L = 0 ∧ 0 ≤ len ∧ len ≤ 4000 * (unitP nB B nO O (nB + nO) : Int) := by
  unfold measE at h
  split at h
  · rename_i h1
    split at h
    · cases h
    · split at h
      · cases h
      · exact ⟨h1, by omega, by omega⟩
  · exact absurd h ‹_›
def tabS (nB : Nat) (B : Nat → Int) (nO : Nat) (O : Nat → Int) : Nat → Int := tabL (listP (unitP nB B nO O (nB + nO)) nB B nO O (nB + nO))
def tabN (nB : Nat) (B : Nat → Int) (nO : Nat) (O : Nat → Int) (W G L len : Int) : Nat := if measE nB B nO O W G L len = 0 then (len / (unitP nB B nO O (nB + nO) : Int) + 1).toNat else 0
def waysS (nB : Nat) (B : Nat → Int) (nO : Nat) (O : Nat → Int) (len : Int) : Nat := waysP (unitP nB B nO O (nB + nO)) nB B nO O (nB + nO) (len / (unitP nB B nO O (nB + nO) : Int)).toNat
def waysV (nB : Nat) (B : Nat → Int) (nO : Nat) (O : Nat → Int) (W G L len : Int) : Int :=
  if measE nB B nO O W G L len = 0 then (if len % (unitP nB B nO O (nB + nO) : Int) = 0 then (if (waysS nB B nO O len : Int) ≤ 1000000 then (waysS nB B nO O len : Int) else 0) else 0) else 0
def waysE (nB : Nat) (B : Nat → Int) (nO : Nat) (O : Nat → Int) (W G L len : Int) : Int :=
  if measE nB B nO O W G L len = 0 then (if len % (unitP nB B nO O (nB + nO) : Int) = 0 then (if (waysS nB B nO O len : Int) ≤ 1000000 then 0 else 8) else 0) else measE nB B nO O W G L len
theorem quo_bd {u : Nat} {len : Int} (hu : 1 ≤ u) (h0 : 0 ≤ len) (h1 : len ≤ 4000 * (u : Int)) : 0 ≤ len / (u : Int) ∧ len / (u : Int) ≤ 4000 := by
  have a := Int.ediv_nonneg (a := len) (b := (u : Int)) h0 (by omega)
  have b := Int.ediv_le_ediv (c := (u : Int)) (by omega) h1
  rw [Int.mul_ediv_cancel _ (by omega)] at b
  exact ⟨a, b⟩
noncomputable def A8_tableTop_c (nB : Nat) (B : Nat → Int) (nO : Nat) (O : Nat → Int) (W G L : Int) (len : Int) : Ann := { orc := [(1, [(2, rMeas)]), (4, [(4, .pos), (5, rTable)])], loops := [], cuts := [] }
theorem tableTop_c (nB : Nat) (B : Nat → Int) (nO : Nat) (O : Nat → Int) (W G L : Int) (len : Int)  : FnC prog 8 [sys nB B nO O W G L, dI len] (.tup [.lst (tabN nB B nO O W G L len) [fun k => .val (.int .i64 (tabS nB B nO O k))], dI (measE nB B nO O W G L len)]) := by
  refine FnC_owed hmix (A8_tableTop_c nB B nO O W G L len) (V := .need [FnC prog 20 [.agg [.lst nB [fun i => (dI (B i))], .lst nO [fun i => (dI (O i))], (dI W), (dI G), (dI L)], (dI len)] (.tup [.agg [(dI (↑(catU nB B nO O W G L) : Int)), .lst (catN nB B nO O W G L) [fun i => (dI (pLen nB B nO O i)), fun i => (dI (pCode nB i)), fun i => (dB (decide (nB ≤ i)))]], (dI (measE nB B nO O W G L len))])] (.ite (measE nB B nO O W G L len != 0) (.done [tabN nB B nO O W G L len = 0, measE nB B nO O W G L len = measE nB B nO O W G L len]) (.need [(0:Int) ≤ len ∧ (0:Int) < (↑(catU nB B nO O W G L) : Int) ∧ len ≤ 9223372036854775807, FnC prog 21 [.agg [(dI (↑(catU nB B nO O W G L) : Int)), .lst (catN nB B nO O W G L) [fun i => (dI (pLen nB B nO O i)), fun i => (dI (pCode nB i)), fun i => (dB (decide (nB ≤ i)))]], (dI (len / (↑(catU nB B nO O W G L) : Int)))] (.lst (len / (↑(catU nB B nO O W G L) : Int) + 1).toNat [fun k => (dI (tabL (plX (↑(catU nB B nO O W G L) : Int).toNat (pLen nB B nO O) (pCode nB) (catN nB B nO O W G L)) k))])] (.done [Int.toNat (len / (↑(catU nB B nO O W G L) : Int) + 1) = tabN nB B nO O W G L len, ∀ i < tabN nB B nO O W G L len, tabL (plX (↑(catU nB B nO O W G L) : Int).toNat (pLen nB B nO O) (pCode nB) (catN nB B nO O W G L)) i = tabS nB B nO O i, (0:Int) = measE nB B nO O W G L len])))) (by kernel_rfl) ?_
  simp only [VT.holds, AllT, Sq]
  refine ⟨measured_c nB B nO O W G L len, fun h => by rw [tabN, if_neg h], fun h => ?_⟩
  obtain ⟨h1, h2, h3⟩ := meas_ok h
  obtain ⟨s1, s2, s3, sB, sO, _, _⟩ := sys_ok h1
  have hu := unitP_bd s1 sB sO
  obtain ⟨q0, q1⟩ := quo_bd hu.1 h2 h3
  simp only [catU, catN, if_pos h1, tabN, if_pos h]
  exact ⟨⟨⟨h2, by omega, by omega⟩, table_c _ _ _ _ _ _ hu.1 (by omega) (fun i hi => pLen_bd sB sO hi) (fun i hi => unitsP_pos sB sO hi) (fun i _ => pCode_bd nB i) q0 q1⟩, trivial, fun i hi => rfl, h.symm⟩
noncomputable def A10_waysTop_c (nB : Nat) (B : Nat → Int) (nO : Nat) (O : Nat → Int) (W G L : Int) (len : Int) : Ann := { orc := [(1, [(2, rMeas)]), (4, [(3, .pos)]), (6, [(3, .pos)]), (11, [(4, .pos)])], loops := [(0, { ι := Nat, keep := [6, 37, 38], boxes := [6], ts := fun _ i => [(39, dI (i : Int))], rw := fun σ i => [(8, 1, nOf (σ.get 8), [fun q => .val (.int .i64 (wpX (iOf (cellOf σ 0 (σ.get 6))).toNat (colI 0 (σ.get 37)) i q : Nat))])], inv := fun σ i => i ≤ lenOf (σ.get 37), mu := fun σ i => lenOf (σ.get 37) - i, rd := fun _ σ => (iOf (σ.get 39)).toNat }), (2, { ι := Nat, keep := [6, 37, 38, 39, 11], boxes := [6], ts := fun _ k => [(12, dI (k : Int))], rw := fun σ k => [(8, 1, nOf (σ.get 8), [fun q => .val (.int .i64 ((if q < k then stepW (iOf (σ.get 11)).toNat (wpX (iOf (cellOf σ 0 (σ.get 6))).toNat (colI 0 (σ.get 37)) (iOf (σ.get 39)).toNat) q else wpX (iOf (cellOf σ 0 (σ.get 6))).toNat (colI 0 (σ.get 37)) (iOf (σ.get 39)).toNat q : Nat)))])], inv := fun σ k => (iOf (σ.get 11)).toNat ≤ k, mu := fun σ k => nOf (σ.get 8) - k, rd := fun _ σ => (iOf (σ.get 12)).toNat })], cuts := [] }
noncomputable abbrev waysTop_cr0 (nB : Nat) (B : Nat → Int) (nO : Nat) (O : Nat → Int) (W : Int) (G : Int) (L : Int) (r : List Prop) : List Prop := (catN nB B nO O W G L = catN nB B nO O W G L) :: (∀ (i : Nat), i < catN nB B nO O W G L → pLen nB B nO O i = pLen nB B nO O i) :: (∀ (i : Nat), i < catN nB B nO O W G L → pCode nB i = pCode nB i) :: (∀ (i : Nat), i < catN nB B nO O W G L → decide (nB ≤ i) = decide (nB ≤ i)) :: r
noncomputable abbrev waysTop_cr1 (nB : Nat) (B : Nat → Int) (nO : Nat) (O : Nat → Int) (W : Int) (G : Int) (L : Int) (len : Int) (r : List Prop) : List Prop := (Int.toNat (len / (↑(catU nB B nO O W G L) : Int) + (1:Int)) = Int.toNat (len / (↑(catU nB B nO O W G L) : Int) + (1:Int))) :: r
theorem waysTop_c (nB : Nat) (B : Nat → Int) (nO : Nat) (O : Nat → Int) (W G L : Int) (len : Int)  : FnC prog 10 [sys nB B nO O W G L, dI len] (.tup [dI (waysV nB B nO O W G L len), dI (waysE nB B nO O W G L len)]) := by
  refine FnC_owed hmix (A10_waysTop_c nB B nO O W G L len) (V := .need [FnC prog 20 [.agg [.lst nB [fun i => (dI (B i))], .lst nO [fun i => (dI (O i))], (dI W), (dI G), (dI L)], (dI len)] (.tup [.agg [(dI (↑(catU nB B nO O W G L) : Int)), .lst (catN nB B nO O W G L) [fun i => (dI (pLen nB B nO O i)), fun i => (dI (pCode nB i)), fun i => (dB (decide (nB ≤ i)))]], (dI (measE nB B nO O W G L len))])] (.ite (measE nB B nO O W G L len != 0) (.done [(0:Int) = waysV nB B nO O W G L len, measE nB B nO O W G L len = waysE nB B nO O W G L len]) (.need [(0:Int) ≤ len ∧ (0:Int) < (↑(catU nB B nO O W G L) : Int)] (.ite (len % (↑(catU nB B nO O W G L) : Int) != 0) (.done [(0:Int) = waysV nB B nO O W G L len, (0:Int) = waysE nB B nO O W G L len]) (.need [(0:Int) ≤ len ∧ (0:Int) < (↑(catU nB B nO O W G L) : Int) ∧ len ≤ 9223372036854775807, i64In (len / (↑(catU nB B nO O W G L) : Int) + 1), (0:Int) ≤ len / (↑(catU nB B nO O W G L) : Int) + 1 ∧ len / (↑(catU nB B nO O W G L) : Int) + 1 = len / (↑(catU nB B nO O W G L) : Int) + 1 ∧ len / (↑(catU nB B nO O W G L) : Int) + 1 ≤ 140737488355328 ∧ prog.types[(3:Nat)].4 * Int.toNat (len / (↑(catU nB B nO O W G L) : Int) + 1) ≤ 281474976710656] (.need [(0:Int) ≤ 0 ∧ (0:Int) < (↑(len / (↑(catU nB B nO O W G L) : Int) + 1).toNat : Int), addN 0 (0:Int).toNat < (len / (↑(catU nB B nO O W G L) : Int) + 1).toNat] (.loop Nat (fun a => a ≤ catN nB B nO O W G L) (0:Int).toNat (((0:Int) = (↑(0:Int).toNat : Int)) :: (((0:Nat) = 0) :: (waysTop_cr1 nB B nO O W G L len (waysTop_cr0 nB B nO O W G L (((↑(catN nB B nO O W G L) : Int) = (↑(catN nB B nO O W G L) : Int)) :: (waysTop_cr1 nB B nO O W G L len ((∀ i < (len / (↑(catU nB B nO O W G L) : Int) + 1).toNat, (if decide (i = addN 0 (0:Int).toNat) = true then (1:Int) else (0:Int)) = (↑(wpX (↑(catU nB B nO O W G L) : Int).toNat
     (pLen nB B nO O) (0:Int).toNat i) : Int)) :: (((↑(catU nB B nO O W G L) : Int) = (↑(catU nB B nO O W G L) : Int)) :: (waysTop_cr0 nB B nO O W G L []))))))))) fun i => .ite (decide ((i:Int) < (↑(catN nB B nO O W G L) : Int))) (.need [(0:Int) ≤ (i:Int) ∧ (i:Int) < (↑(catN nB B nO O W G L) : Int)] (.need [(0:Int) ≤ pLen nB B nO O (i:Int).toNat ∧ (0:Int) < (↑(catU nB B nO O W G L) : Int) ∧ pLen nB B nO O (i:Int).toNat ≤ 9223372036854775807] (.loop Nat (fun a => Int.toNat (pLen nB B nO O (i:Int).toNat / (↑(catU nB B nO O W G L) : Int)) ≤ a) (pLen nB B nO O (i:Int).toNat / (↑(catU nB B nO O W G L) : Int)).toNat ((pLen nB B nO O (i:Int).toNat / (↑(catU nB B nO O W G L) : Int) = (↑(pLen nB B nO O (i:Int).toNat / (↑(catU nB B nO O W G L) : Int)).toNat : Int)) :: (((0:Nat) = 0) :: (waysTop_cr1 nB B nO O W G L len (waysTop_cr0 nB B nO O W G L (((↑(catN nB B nO O W G L) : Int) = (↑(catN nB B nO O W G L) : Int)) :: (((i:Int) = (i:Int)) :: ((pLen nB B nO O (i:Int).toNat / (↑(catU nB B nO O W G L) : Int) = pLen nB B nO O (i:Int).toNat / (↑(catU nB B nO O W G L) : Int)) :: (waysTop_cr1 nB B nO O W G L len ((∀ i_1 < (len / (↑(catU nB B nO O W G L) : Int) + 1).toNat, (↑(wpX (↑(catU nB B nO O W G L) : Int).toNat (pLen nB B nO O) i i_1) : Int) = (↑(if i_1 < (pLen nB B nO O (i:Int).toNat / (↑(catU nB B nO O W G L) : Int)).toNat then stepW (pLen nB B nO O (i:Int).toNat / (↑(catU nB B nO O W G L) : Int)).toNat (wpX (↑(catU nB B nO O W G L) : Int).toNat (pLen nB B nO O) (i:Int).toNat) i_1 else wpX (↑(catU nB B nO O W G L) : Int).toNat (pLen nB B nO O) (i:Int).toNat i_1) : Int)) :: (((↑(catU nB B nO O W G L) : Int) = (↑(catU nB B nO O W G L) : Int)) :: (waysTop_cr0 nB B nO O W G L []))))))))))) fun i_1 => .ite (decide ((i_1:Int) < (↑(len / (↑(catU nB B nO O W
     G L) : Int) + 1).toNat : Int))) (.need [(0:Int) ≤ (i_1:Int) ∧ (i_1:Int) < (↑(len / (↑(catU nB B nO O W G L) : Int) + 1).toNat : Int), addN 0 (i_1:Int).toNat < (len / (↑(catU nB B nO O W G L) : Int) + 1).toNat, i64In ((i_1:Int) - pLen nB B nO O (i:Int).toNat / (↑(catU nB B nO O W G L) : Int)), (0:Int) ≤ (i_1:Int) - pLen nB B nO O (i:Int).toNat / (↑(catU nB B nO O W G L) : Int) ∧ (i_1:Int) - pLen nB B nO O (i:Int).toNat / (↑(catU nB B nO O W G L) : Int) < (↑(len / (↑(catU nB B nO O W G L) : Int) + 1).toNat : Int), addN 0 ((i_1:Int) - pLen nB B nO O (i:Int).toNat / (↑(catU nB B nO O W G L) : Int)).toNat < (len / (↑(catU nB B nO O W G L) : Int) + 1).toNat, i64In ((↑(if addN 0 (i_1:Int).toNat < i_1 then stepW (pLen nB B nO O (i:Int).toNat / (↑(catU nB B nO O W G L) : Int)).toNat (wpX (↑(catU nB B nO O W G L) : Int).toNat (pLen nB B nO O) (i:Int).toNat) (addN 0 (i_1:Int).toNat) else wpX (↑(catU nB B nO O W G L) : Int).toNat (pLen nB B nO O) (i:Int).toNat (addN 0 (i_1:Int).toNat)) : Int) + (↑(if addN 0 ((i_1:Int) - pLen nB B nO O (i:Int).toNat / (↑(catU nB B nO O W G L) : Int)).toNat < i_1 then stepW (pLen nB B nO O (i:Int).toNat / (↑(catU nB B nO O W G L) : Int)).toNat (wpX (↑(catU nB B nO O W G L) : Int).toNat (pLen nB B nO O) (i:Int).toNat) (addN 0 ((i_1:Int) - pLen nB B nO O (i:Int).toNat / (↑(catU nB B nO O W G L) : Int)).toNat) else wpX (↑(catU nB B nO O W G L) : Int).toNat (pLen nB B nO O) (i:Int).toNat (addN 0 ((i_1:Int) - pLen nB B nO O (i:Int).toNat / (↑(catU nB B nO O W G L) : Int)).toNat)) : Int)), (0:Int) ≤ (i_1:Int) ∧ (i_1:Int) < (↑(len / (↑(catU nB B nO O W G L) : Int) + 1).toNat
     : Int), addN 0 (i_1:Int).toNat < (len / (↑(catU nB B nO O W G L) : Int) + 1).toNat] (.need [i64In ((i_1:Int) + 1)] (.done (((i_1:Int) + 1 = (↑((i_1:Int) + 1).toNat : Int)) :: (((0:Nat) = 0) :: (waysTop_cr1 nB B nO O W G L len (waysTop_cr0 nB B nO O W G L (((↑(catN nB B nO O W G L) : Int) = (↑(catN nB B nO O W G L) : Int)) :: (((i:Int) = (i:Int)) :: ((pLen nB B nO O (i:Int).toNat / (↑(catU nB B nO O W G L) : Int) = pLen nB B nO O (i:Int).toNat / (↑(catU nB B nO O W G L) : Int)) :: (waysTop_cr1 nB B nO O W G L len ((∀ i_2 < (len / (↑(catU nB B nO O W G L) : Int) + 1).toNat, (if decide (i_2 = addN 0 (i_1:Int).toNat) = true then mins ((↑(if addN 0 (i_1:Int).toNat < i_1 then stepW (pLen nB B nO O (i:Int).toNat / (↑(catU nB B nO O W G L) : Int)).toNat (wpX (↑(catU nB B nO O W G L) : Int).toNat (pLen nB B nO O) (i:Int).toNat) (addN 0 (i_1:Int).toNat) else wpX (↑(catU nB B nO O W G L) : Int).toNat (pLen nB B nO O) (i:Int).toNat (addN 0 (i_1:Int).toNat)) : Int) + (↑(if addN 0 ((i_1:Int) - pLen nB B nO O (i:Int).toNat / (↑(catU nB B nO O W G L) : Int)).toNat < i_1 then stepW (pLen nB B nO O (i:Int).toNat / (↑(catU nB B nO O W G L) : Int)).toNat (wpX (↑(catU nB B nO O W G L) : Int).toNat (pLen nB B nO O) (i:Int).toNat) (addN 0 ((i_1:Int) - pLen nB B nO O (i:Int).toNat / (↑(catU nB B nO O W G L) : Int)).toNat) else wpX (↑(catU nB B nO O W G L) : Int).toNat (pLen nB B nO O) (i:Int).toNat (addN 0 ((i_1:Int) - pLen nB B nO O (i:Int).toNat / (↑(catU nB B nO O W G L) : Int)).toNat)) : Int)) [(1000001:Int)] else (↑(if i_2 < i_1 then stepW (pLen nB B nO O (i:Int).toNat / (↑(catU nB B nO O W G L) : Int)).toNat
     (wpX (↑(catU nB B nO O W G L) : Int).toNat (pLen nB B nO O) (i:Int).toNat) i_2 else wpX (↑(catU nB B nO O W G L) : Int).toNat (pLen nB B nO O) (i:Int).toNat i_2) : Int)) = (↑(if i_2 < ((i_1:Int) + 1).toNat then stepW (pLen nB B nO O (i:Int).toNat / (↑(catU nB B nO O W G L) : Int)).toNat (wpX (↑(catU nB B nO O W G L) : Int).toNat (pLen nB B nO O) (i:Int).toNat) i_2 else wpX (↑(catU nB B nO O W G L) : Int).toNat (pLen nB B nO O) (i:Int).toNat i_2) : Int)) :: (((↑(catU nB B nO O W G L) : Int) = (↑(catU nB B nO O W G L) : Int)) :: (waysTop_cr0 nB B nO O W G L [Int.toNat (pLen nB B nO O (i:Int).toNat / (↑(catU nB B nO O W G L) : Int)) ≤ ((i_1:Int) + 1).toNat, Int.toNat (len / (↑(catU nB B nO O W G L) : Int) + 1) - ((i_1:Int) + 1).toNat < (len / (↑(catU nB B nO O W G L) : Int) + 1).toNat - i_1])))))))))))))) (.need [i64In ((i:Int) + 1)] (.done (((i:Int) + 1 = (↑((i:Int) + 1).toNat : Int)) :: (((0:Nat) = 0) :: (waysTop_cr1 nB B nO O W G L len (waysTop_cr0 nB B nO O W G L (((↑(catN nB B nO O W G L) : Int) = (↑(catN nB B nO O W G L) : Int)) :: (waysTop_cr1 nB B nO O W G L len ((∀ i_2 < (len / (↑(catU nB B nO O W G L) : Int) + 1).toNat, (↑(if i_2 < i_1 then stepW (pLen nB B nO O (i:Int).toNat / (↑(catU nB B nO O W G L) : Int)).toNat (wpX (↑(catU nB B nO O W G L) : Int).toNat (pLen nB B nO O) (i:Int).toNat) i_2 else wpX (↑(catU nB B nO O W G L) : Int).toNat (pLen nB B nO O) (i:Int).toNat i_2) : Int) = (↑(wpX (↑(catU nB B nO O W G L) : Int).toNat (pLen nB B nO O) ((i:Int) + 1).toNat i_2) : Int)) :: (((↑(catU nB B nO O W G L) : Int) = (↑(catU nB B nO O W G L) : Int)) :: (waysTop_cr0 nB B nO O W G L [Int.toNat ((i:Int) + 1) ≤ catN nB B nO O W G L, catN nB B nO O W G L - Int.toNat
     ((i:Int) + 1) < catN nB B nO O W G L - i])))))))))))))) (.need [i64In ((↑(len / (↑(catU nB B nO O W G L) : Int) + 1).toNat : Int) - 1), (0:Int) ≤ (↑(len / (↑(catU nB B nO O W G L) : Int) + 1).toNat : Int) - 1 ∧ (↑(len / (↑(catU nB B nO O W G L) : Int) + 1).toNat : Int) - 1 < (↑(len / (↑(catU nB B nO O W G L) : Int) + 1).toNat : Int), addN 0 ((↑(len / (↑(catU nB B nO O W G L) : Int) + 1).toNat : Int) - 1).toNat < (len / (↑(catU nB B nO O W G L) : Int) + 1).toNat] (.ite (decide ((↑(wpX (↑(catU nB B nO O W G L) : Int).toNat (pLen nB B nO O) i (addN 0 ((↑(len / (↑(catU nB B nO O W G L) : Int) + 1).toNat : Int) - 1).toNat)) : Int) ≤ 1000000)) (.done [(↑(wpX (↑(catU nB B nO O W G L) : Int).toNat (pLen nB B nO O) i (addN 0 ((↑(len / (↑(catU nB B nO O W G L) : Int) + 1).toNat : Int) - 1).toNat)) : Int) = waysV nB B nO O W G L len, (0:Int) = waysE nB B nO O W G L len]) (.done [(0:Int) = waysV nB B nO O W G L len, (8:Int) = waysE nB B nO O W G L len])))))))))) (by kernel_rfl) ?_
  simp only [VT.holds, AllT, waysTop_cr0, waysTop_cr1, Sq]
  refine ⟨measured_c nB B nO O W G L len, fun h => by rw [waysV, waysE, if_neg h, if_neg h]; exact ⟨rfl, rfl⟩, fun h => ?_⟩
  obtain ⟨h1, h2, h3⟩ := meas_ok h
  obtain ⟨s1, s2, s3, sB, sO, _, _⟩ := sys_ok h1
  have hu := unitP_bd s1 sB sO
  obtain ⟨q0, q1⟩ := quo_bd hu.1 h2 h3
  simp only [catU, catN, if_pos h1, waysV, waysE, if_pos h]
  have hby : prog.types[3].bytes = 8 := by kernel_rfl
  rw [hby]
  have hS : waysS nB B nO O len = wpX (unitP nB B nO O (nB + nO)) (pLen nB B nO O) (nB + nO) (len / (unitP nB B nO O (nB + nO) : Int)).toNat := rfl
  simp only [hS]
  have hmp := fun {i} (hi : i < nB + nO) => unitsP_pos sB sO hi
  have hle : ∀ i q, wpX (unitP nB B nO O (nB + nO)) (pLen nB B nO O) i q ≤ 1000001 := fun i q => waysL_le _ _
  generalize unitP nB B nO O (nB + nO) = u at *
  generalize hQ : len / (u : Int) = Q at *
  refine ⟨⟨h2, by omega⟩, fun hr => by rw [if_neg hr, if_neg hr]; exact ⟨rfl, rfl⟩, fun hr => ?_⟩
  rw [if_pos hr, if_pos hr]
  refine ⟨⟨⟨h2, by omega, by omega⟩, by unfold i64In; omega, by omega, by omega, by omega⟩, ⟨⟨by omega, by omega⟩, by simp [addN]; omega⟩, ⟨rfl, fun q hq => ?_⟩, Nat.zero_le _, fun i hi => ⟨fun hlt => ?_, fun hge => ?_⟩⟩
  · rw [addN_zero]
    show _ = (((if q = 0 then 1 else 0 : Nat) : Nat) : Int)
    split <;> rfl
  · have hi' : i < nB + nO := by omega
    have hx := pLen_bd sB sO hi'
    have m1 := hmp hi'
    have e : pLen nB B nO O i / (u : Int) = (unitsOf u (pLen nB B nO O i) : Int) := by
      unfold unitsOf
      have := Int.ediv_nonneg (a := pLen nB B nO O i) (b := (u : Int)) (by omega) (by omega)
      omega
    have hs : wpX u (pLen nB B nO O) (i + 1) = stepW (unitsOf u (pLen nB B nO O i)) (wpX u (pLen nB B nO O) i) := by
      rw [wpX, range_snoc, waysL_snoc]; rfl
    simp only [e, Int.toNat_sub, addN_zero, hs, Int.toNat_natCast]
    have hW := hle i
    generalize unitsOf u (pLen nB B nO O i) = m at *
    generalize wpX u (pLen nB B nO O) i = V at *
    have hSl := stepW_le (m := m) hW
    refine ⟨⟨by omega, by omega⟩, ⟨by omega, by omega, by omega⟩, ⟨trivial, fun q hq => ?_⟩, Nat.le_refl _, fun k hk => ⟨fun hk2 => ?_, fun hk2 => ?_⟩⟩
    · split
      · rw [stepW_lt (by omega)]
      · rfl
    · have lt : k - m < k := by omega
      simp only [if_pos lt, Nat.lt_irrefl, if_false, if_true]
      have a1 := hW k
      have a2 := hSl (k - m)
      refine ⟨⟨⟨by omega, by omega⟩, by omega, by unfold i64In; omega, ⟨by omega, by omega⟩, by omega, by unfold i64In; omega, ⟨by omega, by omega⟩, by omega⟩, by unfold i64In; omega, rfl, fun q hq => ?_, by omega, by omega⟩
      by_cases e2 : q = k
      · rw [if_pos e2, if_pos (by omega), e2, stepW_ge m1 hk]
        simp only [mins]
        split <;> omega
      · rw [if_neg e2]
        by_cases e3 : q < k
        · rw [if_pos e3, if_pos (by omega)]
        · rw [if_neg e3, if_neg (by omega)]
    · refine ⟨by unfold i64In; omega, rfl, fun q hq => ?_, by omega, by omega⟩
      rw [if_pos (by omega)]
  · rw [show i = nB + nO by omega]
    have e : ((Q + 1).toNat : Int) - 1 = Q := by omega
    rw [e, addN_zero]
    refine ⟨⟨by unfold i64In; omega, ⟨by omega, by omega⟩, by omega⟩, fun hw => ?_, fun hw => ?_⟩
    · rw [if_pos hw, if_pos hw]; exact ⟨rfl, rfl⟩
    · rw [if_neg hw, if_neg hw]; exact ⟨rfl, rfl⟩
end Go.Abs
