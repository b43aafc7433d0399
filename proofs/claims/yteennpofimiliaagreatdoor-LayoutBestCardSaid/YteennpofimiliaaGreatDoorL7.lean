/- Contracts. Contracts. -/
import Derived.Test.YteennpofimiliaaGreatDoorL5
section
set_option linter.unusedVariables false
set_option linter.unusedSimpArgs false
set_option maxRecDepth 100000
namespace Go.Abs.Lay
open Go
def wpX (u : Nat) (X : Nat → Int) (i : Nat) : Nat → Nat := waysL ((List.range i).map fun i => unitsOf u (X i))
def cX (l : List DV) : Nat → Int := colI 0 (fD 1 (arg l 0))
abbrev cU (l : List DV) : Nat := (fI 0 (arg l 0)).toNat
abbrev cN (l : List DV) : Nat := lenOf (fD 1 (arg l 0))
def rTable : Orc := .res fun l => .lst (aI l 1 + 1).toNat [fun k => .val (.int .i64 (tabL (plX (cU l) (colI 0 (fD 1 (arg l 0))) (colI 1 (fD 1 (arg l 0))) (cN l)) k))]
theorem meas_ok {nB : Nat} {B : Nat → Int} {nO : Nat} {O : Nat → Int} {W G L len : Int} (h : measE nB B nO O W G L len = 0) : sysE nB B nO O W G L = 0 ∧ 0 ≤ len ∧ len ≤ 4000 * (unitP nB B nO O (nB + nO) : Int) := by
  unfold measE at h
  split at h
  · rename_i h1
    split at h
    · cases h
    · split at h
      · cases h
      · exact ⟨h1, by omega, by omega⟩
  · exact absurd h ‹_›
def tabS (nB : Nat) (B : Nat → Int) (nO : Nat) (O : Nat → Int) : Nat → Int := tabL (listP (unitP nB B nO O (nB + nO)) nB B nO O (nB + nO))
def tabN (nB : Nat) (B : Nat → Int) (nO : Nat) (O : Nat → Int) (W G L len : Int) : Nat := if measE nB B nO O W G L len = 0 then (len / (unitP nB B nO O (nB + nO) : Int) + 1).toNat else 0
def waysS (nB : Nat) (B : Nat → Int) (nO : Nat) (O : Nat → Int) (len : Int) : Nat := waysP (unitP nB B nO O (nB + nO)) nB B nO O (nB + nO) (len / (unitP nB B nO O (nB + nO) : Int)).toNat
def waysV (nB : Nat) (B : Nat → Int) (nO : Nat) (O : Nat → Int) (W G L len : Int) : Int :=
  if measE nB B nO O W G L len = 0 then (if len % (unitP nB B nO O (nB + nO) : Int) = 0 then (if (waysS nB B nO O len : Int) ≤ 1000000 then (waysS nB B nO O len : Int) else 0) else 0) else 0
def waysE (nB : Nat) (B : Nat → Int) (nO : Nat) (O : Nat → Int) (W G L len : Int) : Int :=
  if measE nB B nO O W G L len = 0 then (if len % (unitP nB B nO O (nB + nO) : Int) = 0 then (if (waysS nB B nO O len : Int) ≤ 1000000 then 0 else 8) else 0) else measE nB B nO O W G L len
theorem quo_bd {u : Nat} {len : Int} (hu : 1 ≤ u) (h0 : 0 ≤ len) (h1 : len ≤ 4000 * (u : Int)) : 0 ≤ len / (u : Int) ∧ len / (u : Int) ≤ 4000 := by
  have a := Int.ediv_nonneg (a := len) (b := (u : Int)) h0 (by omega)
  have b := Int.ediv_le_ediv (c := (u : Int)) (by omega) h1
  rw [Int.mul_ediv_cancel _ (by omega)] at b
  exact ⟨a, b⟩
noncomputable def A18_tableTop_c (nB : Nat) (B : Nat → Int) (nO : Nat) (O : Nat → Int) (W G L : Int) (len : Int) : Ann := { orc := [(1, [(2, rMeas)]), (4, [(4, .pos), (5, rTable)])], loops := [], cuts := [] }
namespace w2k
noncomputable section
structure Z where
  nB : Nat
  B : Nat → Int
  nO : Nat
  O : Nat → Int
  W : Int
  G : Int
  L : Int
  len : Int
variable (z : Z) (i0 : Nat) (a : Int)
abbrev x0 : Int := (↑(Lay.catU z.nB z.B z.nO z.O z.W z.G z.L) : Int)
abbrev x1 := Lay.catN z.nB z.B z.nO z.O z.W z.G z.L
abbrev x2 := Lay.measE z.nB z.B z.nO z.O z.W z.G z.L z.len
abbrev x3 := Lay.tabN z.nB z.B z.nO z.O z.W z.G z.L z.len
abbrev x4 := Int.toNat (z.len / x0 z + 1)
abbrev x5 : List DV := [DV.agg [dI (x0 z), DV.lst (x1 z) [fun i0 => dI (Lay.pLen z.nB z.B z.nO z.O i0), fun i0 => dI (Lay.pCode z.nB i0), fun i0 => dB (decide (z.nB ≤ i0))]], dI a]
abbrev x6 := Lay.tabL (Lay.plX (Int.toNat (x0 z)) (Lay.pLen z.nB z.B z.nO z.O) (Lay.pCode z.nB) (x1 z)) i0
abbrev xt : VT := VT.need [FnC prog 58 [DV.agg [DV.lst z.nB [fun i0 => dI (z.B i0)], DV.lst z.nO [fun i0 => dI (z.O i0)], dI z.W, dI z.G, dI z.L], dI z.len] (DV.tup (x5 z (x2 z)))] (VT.ite (x2 z != 0) (VT.done [x3 z = 0, rf (x2 z)]) (VT.need [0 ≤ z.len ∧ 0 < x0 z ∧ z.len ≤ 9223372036854775807, FnC prog 59 (x5 z (z.len / x0 z)) (DV.lst (x4 z) [fun i0 => dI (x6 z i0)])] (VT.done [x4 z = x3 z, ∀ i0 < x3 z, x6 z i0 = Lay.tabS z.nB z.B z.nO z.O i0, 0 = x2 z])))
end
end w2k
open w2k in
theorem tableTop_c (nB : Nat) (B : Nat → Int) (nO : Nat) (O : Nat → Int) (W G L : Int) (len : Int)  : FnC prog 24 [sys nB B nO O W G L, dI len] (.tup [.lst (tabN nB B nO O W G L len) [fun k => .val (.int .i64 (tabS nB B nO O k))], dI (measE nB B nO O W G L len)]) := by
  refine FnC_owed hmix (A18_tableTop_c nB B nO O W G L len) (V := xt ⟨nB, B, nO, O, W, G, L, len⟩) (by kernel_rfl) ?_
  simp only [xt, x0, x1, x2, x3, x4, x5, x6, Rf, VT.holds, AllT, Sq]
  refine ⟨measured_c nB B nO O W G L len, fun h => by rw [tabN, if_neg h], fun h => ?_⟩
  obtain ⟨h1, h2, h3⟩ := meas_ok h
  obtain ⟨s1, s2, s3, sB, sO, _, _⟩ := sys_ok h1
  have hu := unitP_bd s1 sB sO
  obtain ⟨q0, q1⟩ := quo_bd hu.1 h2 h3
  simp only [catU, catN, if_pos h1, tabN, if_pos h]
  exact ⟨⟨⟨h2, by omega, by omega⟩, table_c _ _ _ _ _ _ hu.1 (by omega) (fun i hi => pLen_bd sB sO hi) (fun i hi => unitsP_pos sB sO hi) (fun i _ => pCode_bd nB i) q0 q1⟩, trivial, fun i hi => rfl, h.symm⟩
noncomputable def A13_waysTop_c (nB : Nat) (B : Nat → Int) (nO : Nat) (O : Nat → Int) (W G L : Int) (len : Int) : Ann := { orc := [(1, [(2, rMeas)]), (4, [(3, .pos)]), (6, [(3, .pos)]), (11, [(4, .pos)])], loops := [(0, { ι := Nat, keep := [6, 37, 38], boxes := [6], ts := fun _ i => [(39, dI (i : Int))], rw := fun σ i => [(8, 1, nOf (σ.get 8), [fun q => .val (.int .i64 (wpX (iOf (cellOf σ 0 (σ.get 6))).toNat (colI 0 (σ.get 37)) i q : Nat))])], inv := fun σ i => i ≤ lenOf (σ.get 37), mu := fun σ i => lenOf (σ.get 37) - i, rd := fun _ σ => (iOf (σ.get 39)).toNat }),
  (2, { ι := Nat, keep := [6, 37, 38, 39, 11], boxes := [6], ts := fun _ k => [(12, dI (k : Int))], rw := fun σ k => [(8, 1, nOf (σ.get 8), [fun q => .val (.int .i64 ((if q < k then stepW (iOf (σ.get 11)).toNat (wpX (iOf (cellOf σ 0 (σ.get 6))).toNat (colI 0 (σ.get 37)) (iOf (σ.get 39)).toNat) q else wpX (iOf (cellOf σ 0 (σ.get 6))).toNat (colI 0 (σ.get 37)) (iOf (σ.get 39)).toNat q : Nat)))])], inv := fun σ k => (iOf (σ.get 11)).toNat ≤ k, mu := fun σ k => nOf (σ.get 8) - k, rd := fun _ σ => (iOf (σ.get 12)).toNat })], cuts := [] }
namespace w2l
noncomputable section
structure Z where
  nB : Nat
  B : Nat → Int
  nO : Nat
  O : Nat → Int
  W : Int
  G : Int
  L : Int
  len : Int
variable (z : Z) (i0 i1 : Nat) (p q : Prop) (P : List Prop) (a b : Int) (k l m n : Nat) (U : VT)
abbrev x0 : Int := (↑(Lay.catU z.nB z.B z.nO z.O z.W z.G z.L) : Int)
abbrev x1 := Int.toNat (i0:Int)
abbrev x2 := Lay.catN z.nB z.B z.nO z.O z.W z.G z.L
abbrev x3 := Int.toNat (a + 1)
abbrev x4 := x3 (z.len / x0 z)
abbrev x5 : Int := (i1:Int)
abbrev x6 := Lay.pLen z.nB z.B z.nO z.O (x1 i0)
abbrev x7 := addN 0 (Int.toNat a)
abbrev x8 := Int.toNat (x6 z i0 / x0 z)
abbrev x9 := Lay.wpX (Int.toNat (x0 z)) (Lay.pLen z.nB z.B z.nO z.O) k l
abbrev x10 := x5 i1 - x6 z i0 / x0 z
abbrev x11 := ∀ i0 < x2 z, rf (decide (z.nB ≤ i0))
abbrev x12 : List Prop := p :: rf (x2 z) :: (∀ i0 < x2 z, rf (Lay.pLen z.nB z.B z.nO z.O i0)) :: (∀ i0 < x2 z, rf (Lay.pCode z.nB i0)) :: P
abbrev x13 : Int := (↑(if k < l then (Lay.stepW (x8 z i0) (Lay.wpX (Int.toNat (x0 z)) (Lay.pLen z.nB z.B z.nO z.O) (x1 i0)) m) else (x9 z (x1 i0) n)) : Int)
abbrev x14 := (↑(x4 z) : Int) - 1
abbrev x15 := 0 ≤ a ∧ b < (↑(x4 z) : Int)
abbrev x16 := z.len / x0 z + 1
abbrev x17 := x3 (i0:Int)
abbrev x18 : List Prop := p :: rf (0:Nat) :: x12 z (rf (x4 z)) (x11 z :: rf (↑(x2 z) : Int) :: P)
abbrev x19 := Lay.waysV z.nB z.B z.nO z.O z.W z.G z.L z.len
abbrev x20 := Lay.waysE z.nB z.B z.nO z.O z.W z.G z.L z.len
abbrev x21 := Lay.measE z.nB z.B z.nO z.O z.W z.G z.L z.len
abbrev x22 : List Prop := rf (x4 z) :: p :: x12 z (rf (x0 z)) (x11 z :: q :: P)
abbrev x23 := if (decide (k = l)) = true then a else b
abbrev x24 := VT.need [i64In (a + 1)] (VT.done (x18 z (b + 1 = (k:Int)) P))
abbrev x25 : List Prop := rf (x4 z) :: p :: x12 z (rf (x0 z)) [x11 z]
abbrev x26 := VT.ite (a != 0) (VT.done [0 = x19 z, p]) U
abbrev x27 := 0 ≤ a ∧ 0 < x0 z ∧ b ≤ 9223372036854775807
abbrev x28 := x13 z i0 (x7 (x5 i1)) i1 (x7 (x5 i1)) (x7 (x5 i1)) + x13 z i0 (x7 (x10 z i0 i1)) i1 (x7 (x10 z i0 i1)) (x7 (x10 z i0 i1))
abbrev xt : VT := VT.need [FnC prog 58 [DV.agg [DV.lst z.nB [fun i0 => dI (z.B i0)], DV.lst z.nO [fun i0 => dI (z.O i0)], dI z.W, dI z.G, dI z.L], dI z.len] (DV.tup [DV.agg [dI (x0 z), DV.lst (x2 z) [fun i0 => dI (Lay.pLen z.nB z.B z.nO z.O i0), fun i0 => dI (Lay.pCode z.nB i0), fun i0 => dB (decide (z.nB ≤ i0))]], dI (x21 z)])] (x26 z (x21 z = x20 z) (x21 z) (VT.need [0 ≤ z.len ∧ 0 < x0 z] (x26 z (0 = x20 z) (z.len % x0 z) (VT.need [x27 z z.len z.len, i64In (x16 z), 0 ≤ x16 z ∧ rf (x16 z) ∧ x16 z ≤ 140737488355328 ∧ TypeInfo.bytes ((Tables.types (Program.toTables prog))[(3:Nat)]) * x4 z ≤ 281474976710656] (VT.need [x15 z (0:Int) (0:Int), x7 (0:Int) < x4 z] (VT.loop Nat (fun i0 => i0 ≤ x2 z) (Int.toNat 0) (x18 z (0 = (↑(Int.toNat 0) : Int)) (x25 z (∀ i0 < x4 z, x23 (1:Int) (0:Int) i0 (x7 (0:Int)) = (↑(x9 z (Int.toNat 0) i0) : Int)))) (fun i0 => VT.ite (decide ((i0:Int) < (↑(x2 z) : Int))) (VT.need [0 ≤ (i0:Int) ∧ (i0:Int) < (↑(x2 z) : Int)] (VT.need [x27 z (x6 z i0) (x6 z i0)] (VT.loop Nat (fun i1 => x8 z i0 ≤ i1) (x8 z i0) (x18 z (x6 z i0 / x0 z = (↑(x8 z i0) : Int)) (rf (i0:Int) :: rf (x6 z i0 / x0 z) :: x25 z (∀ i1 < x4 z, (↑(x9 z i0 i1) : Int) = x13 z i0 i1 (x8 z i0) i1 i1))) (fun i1 => VT.ite (decide ((x5 i1) < (↑(x4 z) : Int))) (VT.need [x15 z (x5 i1) (x5 i1), x7 (x5 i1) < x4 z, i64In (x10 z i0 i1), x15 z (x10 z i0 i1) (x10 z i0 i1), x7 (x10 z i0 i1) < x4 z, i64In (x28 z i0 i1), x15 z (x5 i1) (x5 i1), x7 (x5 i1) < x4 z] (x24 z (rf (i0:Int) :: rf (x6 z i0 / x0 z) :: x22 z (∀ i2 < x4 z, x23 (mins (x28 z i0 i1) [(1000001:Int)]) (x13 z i0 i2 i1 i2 i2) i2 (x7 (x5 i1)) = x13 z i0 i2 (x3 (x5 i1)) i2 i2) (x8 z i0 ≤ x3 (x5 i1)) [x4 z - x3 (x5 i1) < x4 z - i1]) (x5 i1) (x5 i1) (x3 (x5 i1)))) (x24 z (x22 z (∀ i2 < x4 z, x13 z i0 i2 i1 i2 i2 = (↑(x9 z (x17 i0) i2) : Int)) (x17 i0 ≤ x2 z) [x2 z - x17 i0 < x2 z - i0]) (i0:Int) (i0:Int) (x17 i0)))))) (VT.need [i64In (x14 z), x15 z (x14 z) (x14 z), x7 (x14 z) < x4 z] (VT.ite (decide ((↑(x9 z i0 (x7 (x14 z))) : Int) ≤ (1000000:Int))) (VT.done [(↑(x9 z i0 (x7 (x14 z))) : Int) = x19 z, 0 = x20 z]) (VT.done [0 = x19 z, 8 = x20 z]))))))))))
end
end w2l
open w2l in
theorem waysTop_c (nB : Nat) (B : Nat → Int) (nO : Nat) (O : Nat → Int) (W G L : Int) (len : Int)  : FnC prog 26 [sys nB B nO O W G L, dI len] (.tup [dI (waysV nB B nO O W G L len), dI (waysE nB B nO O W G L len)]) := by
  refine FnC_owed hmix (A13_waysTop_c nB B nO O W G L len) (V := xt ⟨nB, B, nO, O, W, G, L, len⟩) (by kernel_rfl) ?_
  simp only [xt, x0, x1, x2, x3, x4, x5, x6, x7, x8, x9, x10, x11, x12, x13, x14, x15, x16, x17, x18, x19, x20, x21, x22, x23, x24, x25, x26, x27, x28, Rf, VT.holds, AllT, Sq]
  refine ⟨measured_c nB B nO O W G L len, fun h => by rw [waysV, waysE, if_neg h, if_neg h]; exact ⟨rfl, rfl⟩, fun h => ?_⟩
  obtain ⟨h1, h2, h3⟩ := meas_ok h
  obtain ⟨s1, s2, s3, sB, sO, _, _⟩ := sys_ok h1
  have hu := unitP_bd s1 sB sO
  obtain ⟨q0, q1⟩ := quo_bd hu.1 h2 h3
  simp only [catU, catN, if_pos h1, waysV, waysE, if_pos h]
  have hby : prog.types[3].bytes = 8 := by kernel_rfl
  rw [hby]
  have hS : waysS nB B nO O len = wpX (unitP nB B nO O (nB + nO)) (pLen nB B nO O) (nB + nO) (len / (unitP nB B nO O (nB + nO) : Int)).toNat := rfl
  simp only [hS]
  have hmp := fun {i} (hi : i < nB + nO) => unitsP_pos sB sO hi
  have hle : ∀ i q, wpX (unitP nB B nO O (nB + nO)) (pLen nB B nO O) i q ≤ 1000001 := fun i q => waysL_le _ _
  generalize unitP nB B nO O (nB + nO) = u at *
  generalize hQ : len / (u : Int) = Q at *
  refine ⟨⟨h2, by omega⟩, fun hr => by rw [if_neg hr, if_neg hr]; exact ⟨rfl, rfl⟩, fun hr => ?_⟩
  rw [if_pos hr, if_pos hr]
  refine ⟨⟨⟨h2, by omega, by omega⟩, by unfold i64In; omega, by omega, by omega, by omega⟩, ⟨⟨by omega, by omega⟩, by simp [addN]; omega⟩, ⟨rfl, fun q hq => ?_⟩, Nat.zero_le _, fun i hi => ⟨fun hlt => ?_, fun hge => ?_⟩⟩
  · rw [addN_zero]
    show _ = (((if q = 0 then 1 else 0 : Nat) : Nat) : Int)
    split <;> rfl
  · have hi' : i < nB + nO := by omega
    have hx := pLen_bd sB sO hi'
    have m1 := hmp hi'
    have e : pLen nB B nO O i / (u : Int) = (unitsOf u (pLen nB B nO O i) : Int) := by
      unfold unitsOf
      have := Int.ediv_nonneg (a := pLen nB B nO O i) (b := (u : Int)) (by omega) (by omega)
      omega
    have hs : wpX u (pLen nB B nO O) (i + 1) = stepW (unitsOf u (pLen nB B nO O i)) (wpX u (pLen nB B nO O) i) := by
      rw [wpX, range_snoc, waysL_snoc]; rfl
    simp only [e, Int.toNat_sub, addN_zero, hs, Int.toNat_natCast]
    have hW := hle i
    generalize unitsOf u (pLen nB B nO O i) = m at *
    generalize wpX u (pLen nB B nO O) i = V at *
    have hSl := stepW_le (m := m) hW
    refine ⟨⟨by omega, by omega⟩, ⟨by omega, by omega, by omega⟩, ⟨trivial, fun q hq => ?_⟩, Nat.le_refl _, fun k hk => ⟨fun hk2 => ?_, fun hk2 => ?_⟩⟩
    · split
      · rw [stepW_lt (by omega)]
      · rfl
    · have lt : k - m < k := by omega
      simp only [if_pos lt, Nat.lt_irrefl, if_false, if_true]
      have a1 := hW k
      have a2 := hSl (k - m)
      refine ⟨⟨⟨by omega, by omega⟩, by omega, by unfold i64In; omega, ⟨by omega, by omega⟩, by omega, by unfold i64In; omega, ⟨by omega, by omega⟩, by omega⟩, by unfold i64In; omega, rfl, fun q hq => ?_, by omega, by omega⟩
      by_cases e2 : q = k
      · rw [if_pos e2, if_pos (by omega), e2, stepW_ge m1 hk]
        simp only [mins]
        split <;> omega
      · rw [if_neg e2]
        by_cases e3 : q < k
        · rw [if_pos e3, if_pos (by omega)]
        · rw [if_neg e3, if_neg (by omega)]
    · refine ⟨by unfold i64In; omega, rfl, fun q hq => ?_, by omega, by omega⟩
      rw [if_pos (by omega)]
  · rw [show i = nB + nO by omega]
    have e : ((Q + 1).toNat : Int) - 1 = Q := by omega
    rw [e, addN_zero]
    refine ⟨⟨by unfold i64In; omega, ⟨by omega, by omega⟩, by omega⟩, fun hw => ?_, fun hw => ?_⟩
    · rw [if_pos hw, if_pos hw]; exact ⟨rfl, rfl⟩
    · rw [if_neg hw, if_neg hw]; exact ⟨rfl, rfl⟩
end Go.Abs.Lay
end
section
set_option linter.unusedVariables false
set_option linter.unusedSimpArgs false
set_option maxRecDepth 100000
namespace Go.Abs.Lay
open Go
def sameN (n : Nat) (A : Nat → Int) (m : Nat) (B : Nat → Int) : Bool := decide (n = m ∧ ∀ k, k < n → A k = B k)
def rUnitR : Orc := .res fun l => dI (unitR (gB l) (gBf l) (gOf l) (gB l + gO l))
abbrev partsR (nB : Nat) (B : Nat → Int) (nO : Nat) (O : Nat → Int) : DV := .lst (nB + nO) [fun i => .val (.int .i64 (rLen nB B O i)), fun i => .val (.int .i64 (rCode nB i))]
def rPartsR : Orc := .res fun l => partsR (gB l) (gBf l) (gO l) (gOf l)
def allF (nB : Nat) (B O : Nat → Int) (i : Nat) : Int := if i < nB then B i else O (i - nB)
def rRise : Orc := .res fun l => dB (rise (aN l) (aX l))
theorem unitR_succ (nB : Nat) (B : Nat → Int) (O : Nat → Int) (i : Nat) : Int.gcd (unitR nB B O i) (rLen nB B O i) = unitR nB B O (i + 1) := by
  rw [unitR, unitR, range_snoc, gcdL_snoc]
theorem unitR_bd {nB : Nat} {B : Nat → Int} {nO : Nat} {O : Nat → Int} (h1 : 1 ≤ nB) (hB : ∀ k, k < nB → 1 ≤ B k ∧ B k ≤ 10000) (hO : ∀ k, k < nO → 1 ≤ O k ∧ O k ≤ 10000) : 1 ≤ unitR nB B O (nB + nO) ∧ unitR nB B O (nB + nO) ≤ 10000 := by
  rw [← unit_eq]; exact unitP_bd h1 hB hO
def lenR (nB : Nat) (B : Nat → Int) (nO : Nat) (O : Nat → Int) (len : Int) : Int := if len < 0 then 2 else if len > 4000 * (unitR nB B O (nB + nO) : Int) then 8 else 0
def tabRS (nB : Nat) (B : Nat → Int) (nO : Nat) (O : Nat → Int) : Nat → Int := tabL (plX (unitR nB B O (nB + nO)) (rLen nB B O) (rCode nB) (nB + nO))
theorem anyBad_app (nB : Nat) (B : Nat → Int) (nO : Nat) (O : Nat → Int) : anyBad (nB + nO) (allF nB B O) = true ↔ anyBad nB B = true ∨ anyBad nO O = true := by
  unfold anyBad
  simp only [anyN_true]
  constructor
  · rintro ⟨k, hk, h⟩
    unfold allF at h
    split at h
    · exact .inl ⟨k, by omega, h⟩
    · exact .inr ⟨k - nB, by omega, h⟩
  · rintro (⟨k, hk, h⟩ | ⟨k, hk, h⟩)
    · refine ⟨k, by omega, ?_⟩
      unfold allF; rw [if_pos hk]; exact h
    · refine ⟨nB + k, by omega, ?_⟩
      unfold allF; rw [if_neg (by omega), Nat.add_sub_cancel_left]; exact h
noncomputable def A20_ints_c (n : Nat) (A : Nat → Int) (m : Nat) (B : Nat → Int) : Ann := { orc := [], loops := [(0, { ι := Nat, keep := [0, 1], boxes := [], ts := fun _ i => [(5, dI (i : Int))], inv := fun _ i => i ≤ n ∧ ∀ j, j < i → A j = B j, mu := fun _ i => n - i, rd := fun _ σ => (iOf (σ.get 5)).toNat })], cuts := [] }
theorem ints_c (n : Nat) (A : Nat → Int) (m : Nat) (B : Nat → Int) (hn : n ≤ 1000000000) : FnC prog 28 [nums n A, nums m B] (dB (sameN n A m B)) := by
  refine FnC_owed hmix (A20_ints_c n A m B) (V := .ite ((n:Int) != (m:Int)) (.done [false = sameN n A m B]) (.loop Nat (fun a => a ≤ n ∧ ∀ (j : Nat), j < a → A j = B j) (0:Int).toNat [(0:Int) = (↑(0:Int).toNat : Int), n = n, ∀ i < n, A i = A i, m = m, ∀ i < m, B i = B i] fun i => .ite (decide ((i:Int) < (n:Int))) (.need [(0:Int) ≤ (i:Int) ∧ (i:Int) < (n:Int), (0:Int) ≤ (i:Int) ∧ (i:Int) < (m:Int)] (.ite (A (i:Int).toNat != B (i:Int).toNat) (.done [false = sameN n A m B]) (.need [i64In ((i:Int) + (1:Int))] (.done [(i:Int) + (1:Int) = (↑((i:Int) + (1:Int)).toNat : Int), n = n, ∀ i < n, A i = A i, m = m, ∀ i < m, B i = B i, Int.toNat ((i:Int) + (1:Int)) ≤ n ∧ ∀ (j : Nat), j < ((i:Int) + (1:Int)).toNat → A j = B j, n - ((i:Int) + (1:Int)).toNat < n - i])))) (.done [true = sameN n A m B]))) (by kernel_rfl) ?_
  simp only [VT.holds, AllT, Sq]
  refine ⟨fun h => ?_, fun h => ⟨rfl, ⟨by omega, fun j hj => (by omega)⟩, fun i ⟨hi, hb⟩ => ⟨fun hlt => ⟨⟨by omega, by omega, by omega⟩, fun hne => ?_, fun he => ⟨by unfold i64In; omega, rfl, ⟨by omega, fun j hj => ?_⟩, by omega⟩⟩, fun hge => ?_⟩⟩⟩
  · unfold sameN
    rw [eq_comm, decide_eq_false_iff_not]
    intro hx; omega
  · unfold sameN
    rw [eq_comm, decide_eq_false_iff_not]
    intro hx; exact hne (hx.2 i (by omega))
  · by_cases e : j = i
    · subst e; exact he
    · exact hb j (by omega)
  · unfold sameN
    rw [eq_comm, decide_eq_true_eq]
    exact ⟨by omega, fun j hj => hb j (by omega)⟩
noncomputable def A121_abs_c (n : Int) : Ann := { orc := [], loops := [], cuts := [] }
theorem abs_c (n : Int) (hn : 0 ≤ n) : FnC prog 109 [dI n] (dI n) := by
  refine FnC_owed hmix (A121_abs_c n) (V := .ite (decide (n < (0:Int))) (.need [i64In (-n)] (.done [-n = n])) (.done [n = n])) (by kernel_rfl) ?_
  simp only [VT.holds, AllT, Sq]
  exact fun h => absurd h (by omega)
noncomputable def A99_gcdR_c (a b : Int) : Ann := { orc := [(2, [(3, .pos)]), (3, [(1, .res fun l => dI (aI l 0))])], loops := [(0, { ι := Int × Int, keep := [], boxes := [], ts := fun _ i => [(0, dI i.1), (1, dI i.2)], inv := fun _ i => 0 ≤ i.1 ∧ 0 ≤ i.2 ∧ Int.gcd i.1 i.2 = Int.gcd a b, mu := fun _ i => i.2.toNat, rd := fun _ σ => (iOf (σ.get 0), iOf (σ.get 1)) })], cuts := [] }
theorem gcdR_c (a b : Int) (h1 : 0 ≤ a) (h2 : 0 ≤ b) : FnC prog 79 [dI a, dI b] (dI (Int.gcd a b)) := by
  refine FnC_owed hmix (A99_gcdR_c a b) (V := .loop (Int × Int) (fun (a_1 : Int × Int) => (0:Int) ≤ a_1.fst ∧ (0:Int) ≤ a_1.snd ∧ Int.gcd a_1.fst a_1.snd = Int.gcd a b) (a, b) [a = a, b = b] fun (i : Int × Int) => .ite (i.snd != (0:Int)) (.need [(0:Int) ≤ i.fst ∧ (0:Int) < i.snd] (.done [i.snd = i.snd, i.fst % i.snd = i.fst % i.snd, (0:Int) ≤ i.snd ∧ (0:Int) ≤ i.fst % i.snd ∧ Int.gcd i.snd (i.fst % i.snd) = Int.gcd a b, Int.toNat (i.fst % i.snd) < Int.toNat i.snd])) (.need [FnC prog 109 [(dI i.fst)] ((dI i.fst))] (.done [i.fst = (↑(Int.gcd a b) : Int)]))) (by kernel_rfl) ?_
  simp only [VT.holds, AllT, Sq]
  refine ⟨⟨h1, h2⟩, fun i ⟨h1, h2, h3⟩ => ⟨fun hne => ⟨⟨h1, by omega⟩, ⟨h2, Int.emod_nonneg _ hne, ?_⟩, ?_⟩, fun he => ⟨abs_c _ h1, ?_⟩⟩⟩
  · rw [← h3, gcd_emod]
  · have := Int.emod_lt_of_pos i.1 (show 0 < i.2 by omega)
    have := Int.emod_nonneg i.1 hne
    omega
  · rw [← h3, he, Int.gcd_zero_right]
    omega
noncomputable def A61_unitR_c (nB : Nat) (B : Nat → Int) (nO : Nat) (O : Nat → Int) (W G L : Int) : Ann := { orc := [(5, [(6, rGcd)]), (9, [(6, rGcd)])], loops := [(0, { ι := Nat, keep := [1], boxes := [1], ts := fun _ i => [(3, dI (unitR nB B O i)), (4, dI (i : Int))], inv := fun _ i => i ≤ nB, mu := fun _ i => nB - i, rd := fun _ σ => (iOf (σ.get 4)).toNat }),
  (2, { ι := Nat, keep := [1], boxes := [1], ts := fun _ i => [(3, dI (unitR nB B O (nB + i))), (5, dI (i : Int))], inv := fun _ i => i ≤ nO, mu := fun _ i => nO - i, rd := fun _ σ => (iOf (σ.get 5)).toNat })], cuts := [] }
namespace w2p
noncomputable section
structure Z where
  nB : Nat
  B : Nat → Int
  nO : Nat
  O : Nat → Int
  W : Int
  G : Int
  L : Int
variable (z : Z) (i0 : Nat) (p : Prop) (P : List Prop) (a b : Int) (k : Nat) (U : VT) (j8a : Nat → Prop) (j9a : Nat → VT) (j10a j10b : Nat → Int)
abbrev x0 : Int := (↑(Lay.unitR z.nB z.B z.O k) : Int)
abbrev x1 := Int.toNat ((i0:Int) + 1)
abbrev x2 := x0 z (z.nB + k)
abbrev x3 := Int.toNat 0
abbrev x4 : Int := (↑(Int.gcd a (j10a (Int.toNat (i0:Int)))) : Int)
abbrev x5 : List Prop := (a = b) :: p :: rf z.nB :: (∀ i0 < z.nB, rf (z.B i0)) :: rf z.nO :: (∀ i0 < z.nO, rf (z.O i0)) :: rf z.W :: rf z.G :: P
abbrev x6 := VT.loop Nat j8a x3 (x5 z (0 = (x3:Int)) [rf z.L] a b) j9a
abbrev x7 := FnC prog 79 [dI a, dI (j10a (Int.toNat (i0:Int)))] (dI (x4 i0 b j10b))
abbrev x8 := VT.need [0 ≤ (i0:Int) ∧ (i0:Int) < a, p] U
abbrev x9 := VT.need [i64In ((i0:Int) + 1)] (VT.done (x5 z ((i0:Int) + 1 = (↑(x1 i0) : Int)) P (x4 i0 a j10a) b))
abbrev xt : VT := x6 z (0:Int) (x0 z x3) (fun i0 => i0 ≤ z.nB) (fun i0 => VT.ite (decide ((i0:Int) < (z.nB:Int))) (x8 i0 (x7 i0 (x0 z i0) (x0 z i0) z.B z.B) (z.nB:Int) (x9 z i0 [rf z.L, x1 i0 ≤ z.nB, z.nB - x1 i0 < z.nB - i0] (x0 z i0) (x0 z (x1 i0)) z.B)) (x6 z (x0 z i0) (x2 z x3) (fun i0 => i0 ≤ z.nO) (fun i0 => VT.ite (decide ((i0:Int) < (z.nO:Int))) (x8 i0 (x7 i0 (x2 z i0) (x2 z i0) z.O z.O) (z.nO:Int) (x9 z i0 [rf z.L, x1 i0 ≤ z.nO, z.nO - x1 i0 < z.nO - i0] (x2 z i0) (x2 z (x1 i0)) z.O)) (VT.done [x2 z i0 = x2 z z.nO]))))
end
end w2p
open w2p in
theorem unitR_c (nB : Nat) (B : Nat → Int) (nO : Nat) (O : Nat → Int) (W G L : Int) (h2 : nB ≤ 8) (h3 : nO ≤ 8) (hB : ∀ k, k < nB → 1 ≤ B k ∧ B k ≤ 10000) (hO : ∀ k, k < nO → 1 ≤ O k ∧ O k ≤ 10000) : FnC prog 48 [sys nB B nO O W G L] (dI (unitR nB B O (nB + nO))) := by
  refine FnC_owed hmix (A61_unitR_c nB B nO O W G L) (V := xt ⟨nB, B, nO, O, W, G, L⟩) (by kernel_rfl) ?_
  simp only [xt, x0, x1, x2, x3, x4, x5, x6, x7, x8, x9, Rf, VT.holds, AllT, Sq]
  refine ⟨⟨rfl, rfl⟩, Nat.zero_le _, fun i hi => ⟨fun hlt => ⟨⟨⟨by omega, by omega⟩, gcdR_c _ _ (by omega) (by have := hB i (by omega); omega)⟩, by unfold i64In; omega, ?_, rfl, by omega, by omega⟩, fun hge => ⟨⟨by rw [show i = nB + 0 by omega], rfl⟩, Nat.zero_le _, fun i hi => ⟨fun hlt => ⟨⟨⟨by omega, by omega⟩, gcdR_c _ _ (by omega) (by have := hO i (by omega); omega)⟩, by unfold i64In; omega, ?_, rfl, by omega, by omega⟩, fun hge => by rw [show i = nO by omega]⟩⟩⟩⟩
  · rw [← unitR_succ, rLen, if_pos (by omega)]
  · rw [show nB + (i + 1) = nB + i + 1 by omega, ← unitR_succ, rLen, if_neg (by omega), Nat.add_sub_cancel_left]
noncomputable def A62_partsR_c (nB : Nat) (B : Nat → Int) (nO : Nat) (O : Nat → Int) (W G L : Int) : Ann := { orc := [], loops := [(0, { ι := Nat, keep := [1], boxes := [1], ts := fun _ i => [(4, dI (i : Int))], rw := fun _ i => [(3, 2, i, [fun i => .val (.int .i64 (rLen nB B O i)), fun i => .val (.int .i64 (rCode nB i))])], inv := fun _ i => i ≤ nB, mu := fun _ i => nB - i, rd := fun _ σ => (iOf (σ.get 4)).toNat }),
  (2, { ι := Nat, keep := [1], boxes := [1], ts := fun _ i => [(6, dI (i : Int))], rw := fun _ i => [(3, 2, nB + i, [fun i => .val (.int .i64 (rLen nB B O i)), fun i => .val (.int .i64 (rCode nB i))])], inv := fun _ i => i ≤ nO, mu := fun _ i => nO - i, rd := fun _ σ => (iOf (σ.get 6)).toNat })], cuts := [] }
namespace w2q
noncomputable section
structure Z where
  nB : Nat
  B : Nat → Int
  nO : Nat
  O : Nat → Int
  W : Int
  G : Int
  L : Int
variable (z : Z) (i0 i1 : Nat) (p q : Prop) (P Q : List Prop) (a b c : Int) (k l m : Nat) (j8a : Nat → Prop) (j9a : Nat → VT)
abbrev x0 := Int.toNat ((i0:Int) + 1)
abbrev x1 := Int.toNat 0
abbrev x2 := Lay.rLen z.nB z.B z.O i1
abbrev x3 := (if (decide (i1 < k)) = true then a else b) = c
abbrev x4 : List Prop := p :: q :: rf z.nB :: (∀ i0 < z.nB, rf (z.B i0)) :: rf z.nO :: (∀ i0 < z.nO, rf (z.O i0)) :: rf z.W :: rf z.G :: P
abbrev x5 := VT.need P (VT.need [i64In ((i0:Int) + 1)] (VT.done (((i0:Int) + 1 = (↑(x0 i0) : Int)) :: rf (0:Nat) :: p :: q :: Q)))
abbrev x6 : List Prop := [0 ≤ (i0:Int) ∧ (i0:Int) < a, k ≤ l, (m + 1) * ((nat_lit 15) + 1) ≤ 140737488355328, (1:Nat) ≤ (1:Nat)]
abbrev x7 := i1 < x0 i0 → x3 i1 (Lay.rCode z.nB i1) a (Lay.rCode z.nB i1) i0
abbrev x8 := VT.loop Nat j8a x1 ((0 = (x1:Int)) :: rf (0:Nat) :: P) j9a
abbrev x9 := x5 i0 (i0 + 1 = x0 i0) (i0 + 1 = x0 i0) (x6 i0 (z.nB:Int) i0 i0 i0) (x4 z (∀ i1 < x0 i0, x3 i1 (x2 z i1) (z.B (Int.toNat (i0:Int))) (x2 z i1) i0) p [rf z.L, x0 i0 ≤ z.nB, z.nB - x0 i0 < z.nB - i0])
abbrev xt : VT := x8 (x4 z (x1 = 0) (x1 = 0) [rf z.L]) (fun i0 => i0 ≤ z.nB) (fun i0 => VT.ite (decide ((i0:Int) < (z.nB:Int))) (VT.need [i64In ((z.nB:Int) - 1)] (VT.ite ((i0:Int) == (z.nB:Int) - 1) (x9 z i0 (∀ (i1 : Nat), x7 z i0 i1 (1:Int))) (x9 z i0 (∀ (i1 : Nat), x7 z i0 i1 (10001:Int))))) (x8 ((i0 = z.nB + x1) :: (i0 = z.nB + x1) :: x4 z (∀ i0 < z.nB + x1, rf (Lay.rLen z.nB z.B z.O i0)) (∀ i0 < z.nB + x1, rf (Lay.rCode z.nB i0)) [rf z.L]) (fun i0 => i0 ≤ z.nO) (fun i0 => VT.ite (decide ((i0:Int) < (z.nO:Int))) (x5 i0 (z.nB + i0 + 1 = z.nB + x0 i0) (z.nB + i0 + 1 = z.nB + x0 i0) (x6 i0 (z.nO:Int) (z.nB + i0) (z.nB + i0) (z.nB + i0)) (x4 z (∀ i1 < z.nB + x0 i0, x3 i1 (x2 z i1) (z.O (Int.toNat (i0:Int))) (x2 z i1) (z.nB + i0)) (∀ i1 < z.nB + x0 i0, x3 i1 (Lay.rCode z.nB i1) (10000:Int) (Lay.rCode z.nB i1) (z.nB + i0)) [rf z.L, x0 i0 ≤ z.nO, z.nO - x0 i0 < z.nO - i0])) (VT.done [z.nB + i0 ≤ z.nB + i0, z.nB + i0 = z.nB + z.nO, ∀ i0 < z.nB + z.nO, rf (Lay.rLen z.nB z.B z.O i0), ∀ i0 < z.nB + z.nO, rf (Lay.rCode z.nB i0)]))))
end
end w2q
open w2q in
theorem partsR_c (nB : Nat) (B : Nat → Int) (nO : Nat) (O : Nat → Int) (W G L : Int) (h2 : nB ≤ 8) (h3 : nO ≤ 8) : FnC prog 72 [sys nB B nO O W G L] (partsR nB B nO O) := by
  refine FnC_owed hmix (A62_partsR_c nB B nO O W G L) (V := xt ⟨nB, B, nO, O, W, G, L⟩) (by kernel_rfl) ?_
  simp only [xt, x0, x1, x2, x3, x4, x5, x6, x7, x8, x9, Rf, VT.holds, AllT, Sq]
  have e1 : ∀ i, i < nB → ∀ j, j < i + 1 → (if j < i then rLen nB B O j else B i) = rLen nB B O j := fun i hi j hj => by
    by_cases h : j < i
    · rw [if_pos h]
    · rw [if_neg h, show j = i by omega, rLen, if_pos hi]
  refine ⟨rfl, Nat.zero_le _, fun i hi => ⟨fun hlt => ⟨by unfold i64In; omega, fun he => ⟨⟨⟨by omega, by omega⟩, Nat.le_refl _, by omega, Nat.le_refl _⟩, by unfold i64In; omega, rfl, e1 i (by omega), fun j hj => ?_, by omega, by omega⟩, fun he => ⟨⟨⟨by omega, by omega⟩, Nat.le_refl _, by omega, Nat.le_refl _⟩, by unfold i64In; omega, rfl, e1 i (by omega), fun j hj => ?_, by omega, by omega⟩⟩, fun hge => ⟨⟨rfl, by omega, by omega⟩, Nat.zero_le _, fun i hi => ⟨fun hlt => ⟨⟨⟨by omega, by omega⟩, Nat.le_refl _, by omega, Nat.le_refl _⟩, by unfold i64In; omega, rfl, by omega, by omega, fun j hj => ?_, fun j hj => ?_, by omega, by omega⟩, fun hge => ⟨Nat.le_refl _, by omega⟩⟩⟩⟩⟩
  · by_cases h : j < i
    · rw [if_pos h]
    · rw [if_neg h, rCode, if_pos (by omega), if_pos (by omega)]
  · by_cases h : j < i
    · rw [if_pos h]
    · rw [if_neg h, rCode, if_pos (by omega), if_neg (by omega)]
  · by_cases h : j < nB + i
    · rw [if_pos h]
    · rw [if_neg h, rLen, if_neg (by omega), show j - nB = i by omega]
  · by_cases h : j < nB + i
    · rw [if_pos h]
    · rw [if_neg h, rCode, if_neg (by omega)]
noncomputable def A60_rising_c (n : Nat) (A : Nat → Int) : Ann := { orc := [], loops := [(0, { ι := Nat, keep := [0], boxes := [], ts := fun _ i => [(3, dI (i : Int))], inv := fun _ i => 1 ≤ i ∧ ∀ k, k < i → k < n → 0 < k → A (k - 1) < A k, mu := fun _ i => n - i, rd := fun _ σ => (iOf (σ.get 3)).toNat })], cuts := [] }
theorem rising_c (n : Nat) (A : Nat → Int) (hn : n ≤ 1000000) : FnC prog 101 [nums n A] (dB (rise n A)) := by
  refine FnC_owed hmix (A60_rising_c n A) (V := .loop Nat (fun a => (1:Nat) ≤ a ∧ ∀ (k : Nat), k < a → k < n → (0:Nat) < k → A (k - (1:Nat)) < A k) (1:Int).toNat [(1:Int) = (↑(1:Int).toNat : Int), n = n, ∀ i < n, A i = A i] fun i => .ite (decide ((i:Int) < (n:Int))) (.need [(0:Int) ≤ (i:Int) ∧ (i:Int) < (n:Int), i64In ((i:Int) - (1:Int)), (0:Int) ≤ (i:Int) - (1:Int) ∧ (i:Int) - (1:Int) < (n:Int)] (.ite (decide (A (i:Int).toNat ≤ A ((i:Int) - (1:Int)).toNat)) (.done [false = rise n A]) (.need [i64In ((i:Int) + (1:Int))] (.done [(i:Int) + (1:Int) = (↑((i:Int) + (1:Int)).toNat : Int), n = n, ∀ i < n, A i = A i, (1:Nat) ≤ ((i:Int) + (1:Int)).toNat ∧ ∀ (k : Nat), k < ((i:Int) + (1:Int)).toNat → k < n → (0:Nat) < k → A (k - (1:Nat)) < A k, n - ((i:Int) + (1:Int)).toNat < n - i])))) (.done [true = rise n A])) (by kernel_rfl) ?_
  simp only [VT.holds, AllT, Sq]
  refine ⟨rfl, ⟨Nat.le_refl _, fun k hk _ h0 => absurd hk (show ¬ k < 1 by omega)⟩, fun i ⟨hi, hb⟩ => ⟨fun hlt => ⟨⟨⟨by omega, by omega⟩, by unfold i64In; omega, by omega, by omega⟩, fun h => ?_, fun h => ⟨by unfold i64In; omega, rfl, ⟨by omega, fun k hk hn h0 => ?_⟩, by omega⟩⟩, fun hge => ?_⟩⟩
  · rw [rise, eq_comm, decide_eq_false_iff_not]
    intro hx
    have := hx i (by omega) (by omega)
    rw [show i - 1 = ((i : Int) - 1).toNat by omega] at this
    omega
  · by_cases e : k = i
    · rw [show ((i : Int) - 1).toNat = i - 1 by omega] at h
      rw [e]; omega
    · exact hb k (by omega) hn h0
  · rw [rise, eq_comm, decide_eq_true_eq]
    exact fun k hk h0 => hb k (by omega) hk h0
noncomputable def A15_systemR_c (nB : Nat) (B : Nat → Int) (nO : Nat) (O : Nat → Int) (W G L : Int) : Ann := { orc := [(1, [(3, rIn)]), (3, [(2, .row fun l => (aN l, [fun i => .val (.int .i64 (aX l i))]))]), (7, [(4, rIn)]), (9, [(2, rRise), (7, rRise)]), (11, [(2, rIn), (7, rIn), (13, rIn)])], loops := [(0, { ι := Nat, keep := [1], boxes := [1], ts := fun _ i => [(4, dI (i : Int))], rw := fun _ _ => [(3, 1, nB + nO, [fun i => .val (.int .i64 (allF nB B O i))])], inv := fun _ i => i ≤ nB + nO ∧ ∀ j, j < i → badL (allF nB B O j) = false, mu := fun _ i => nB + nO - i, rd := fun _ σ => (iOf (σ.get 4)).toNat })], cuts := [] }
namespace w2s
noncomputable section
structure Z where
  nB : Nat
  B : Nat → Int
  nO : Nat
  O : Nat → Int
  W : Int
  G : Int
  L : Int
variable (z : Z) (i0 : Nat) (p : Prop) (P : List Prop) (a b c d : Int) (k : Nat) (g h : Bool) (U : VT)
abbrev x0 := z.nB + z.nO
abbrev x1 := !(Lay.inR z.W 1 5000)
abbrev x2 := ri ((!g) = true)
abbrev x3 := Lay.rise z.nB z.B
abbrev x4 := Lay.allF z.nB z.B z.O k
abbrev x5 := if (x1 z) = true then true else (!(Lay.inR z.G 0 5000))
abbrev x6 := !(Lay.inR (z.nB:Int) 1 8)
abbrev x7 := VT.done [a = Lay.sysE z.nB z.B z.nO z.O z.W z.G z.L]
abbrev x8 := Int.toNat ((i0:Int) + 1)
abbrev x9 := addN 0 (Int.toNat (i0:Int))
abbrev x10 := FnC prog 34 [dI a, dI 1, dI b] (dB (Lay.inR c 1 d))
abbrev x11 := VT.need (p :: x2 g :: P) U
abbrev x12 := VT.ite (if g = true then true else h) (x7 z a) U
abbrev x13 := x10 a (10000:Int) b (10000:Int)
abbrev x14 : List Prop := (a = (k:Int)) :: rf (0:Nat) :: rf (x0 z) :: rf (x0 z) :: p :: rf z.nB :: (∀ i0 < z.nB, rf (z.B i0)) :: rf z.nO :: (∀ i0 < z.nO, rf (z.O i0)) :: rf z.W :: rf z.G :: rf z.L :: P
abbrev xt : VT := x11 (x10 (z.nB:Int) (8:Int) (z.nB:Int) (8:Int)) [x2 (x6 z), x2 (x6 z), x6 z = false → (!(x6 z)) = true] (x6 z) (x12 z (11:Int) (x6 z) (decide ((z.nO:Int) > (8:Int))) (VT.need [FnR prog 11 [DV.lst z.nB [fun i0 => dI (z.B i0)]] z.nB [fun i0 => dI (z.B i0)], z.nB ≤ z.nB, x0 z * ((nat_lit 7) + 1) ≤ 140737488355328] (VT.loop Nat (fun i0 => i0 ≤ x0 z ∧ (∀ i1 < i0, Lay.badL (x4 z i1) = false)) (Int.toNat 0) (x14 z (∀ i0 < x0 z, (if (decide (i0 < z.nB)) = true then (z.B i0) else (z.O (i0 - z.nB))) = x4 z i0) [] (0:Int) (Int.toNat 0)) (fun i0 => VT.ite (decide ((i0:Int) < (↑(x0 z) : Int))) (VT.need [0 ≤ (i0:Int) ∧ (i0:Int) < (↑(x0 z) : Int), x9 i0 < x0 z, x13 (x4 z (x9 i0)) (x4 z (x9 i0))] (VT.ite (!(Lay.inR (x4 z (x9 i0)) 1 10000)) (x7 z (2:Int)) (VT.need [i64In ((i0:Int) + 1)] (VT.done (x14 z (∀ i0 < x0 z, rf (x4 z i0)) [x8 i0 ≤ x0 z ∧ (∀ i1 < x8 i0, Lay.badL (x4 z i1) = false), x0 z - x8 i0 < x0 z - i0] ((i0:Int) + 1) (x8 i0)))))) (x11 (FnC prog 101 [DV.lst z.nB [fun i0 => dI (z.B i0)]] (dB (x3 z))) [x2 (!(x3 z)), (!(!(x3 z))) = true → FnC prog 101 [DV.lst z.nO [fun i0 => dI (z.O i0)]] (dB (Lay.rise z.nO z.O)), x2 (!(x3 z)), (!(x3 z)) = false → (!(!(x3 z))) = true] (!(x3 z)) (x12 z (10:Int) (!(x3 z)) (!(Lay.rise z.nO z.O)) (x11 (x10 z.W (5000:Int) z.W (5000:Int)) [x2 (x1 z), (!(x1 z)) = true → FnC prog 34 [dI z.G, dI 0, dI 5000] (dB (Lay.inR z.G 0 5000)), x2 (x1 z), x1 z = false → (!(x1 z)) = true, x2 (x5 z), x2 (x5 z), (!(x5 z)) = true → x13 z.L z.L, x2 (x5 z), x5 z = false → (!(x5 z)) = true] (x1 z) (x12 z (2:Int) (x5 z) (!(Lay.inR z.L 1 10000)) (x7 z (0:Int))))))))))
end
end w2s
open w2s in
theorem systemR_c (nB : Nat) (B : Nat → Int) (nO : Nat) (O : Nat → Int) (W G L : Int)  : FnC prog 63 [sys nB B nO O W G L] (dI (sysE nB B nO O W G L)) := by
  refine FnC_owed hmix (A15_systemR_c nB B nO O W G L) (V := xt ⟨nB, B, nO, O, W, G, L⟩) (by kernel_rfl) ?_
  simp only [xt, x0, x1, x2, x3, x4, x5, x6, x7, x8, x9, x10, x11, x12, x13, x14, Rf, VT.holds, AllT, Sq]
  have rg : ∀ x lo hi, inR x lo hi = true ↔ lo ≤ x ∧ x ≤ hi := fun x lo hi => by rw [inR, decide_eq_true_eq]
  have rf : ∀ x lo hi, inR x lo hi = false ↔ ¬ (lo ≤ x ∧ x ≤ hi) := fun x lo hi => by rw [inR, decide_eq_false_iff_not]
  refine ⟨withinR_c _ _ _, fun h => ?_, fun ⟨h, h'⟩ => ?_⟩
  · rw [rf] at h
    rw [sysE, if_pos (by omega)]
  · rw [rf] at h
    have hs : ¬ (nB < 1 ∨ nB > 8 ∨ nO > 8) := by omega
    refine ⟨⟨copyR_c nB B (by omega), Nat.le_refl _, by omega⟩, ⟨rfl, fun i hi => rfl⟩, ⟨Nat.zero_le _, fun j hj => by omega⟩, fun i ⟨hi, hb⟩ => ⟨fun hlt => ?_, fun hge => ?_⟩⟩
    · simp only [addN_zero]
      refine ⟨⟨⟨by omega, by omega⟩, by omega, withinR_c _ _ _⟩, fun h2 => ?_, fun h2 => ⟨by unfold i64In; omega, rfl, ⟨by omega, fun j hj => ?_⟩, by omega⟩⟩
      · rw [sysE, if_neg hs, if_pos]
        rw [← anyBad_app]
        exact anyN_true.2 ⟨i, by omega, by rw [badL, h2]; rfl⟩
      · by_cases e : j = i
        · rw [e, badL, h2]; rfl
        · exact hb j (by omega)
    · have hA : ¬ (anyBad nB B = true ∨ anyBad nO O = true) := by
        rw [← anyBad_app]
        intro hx
        obtain ⟨k, hk, h3⟩ := anyN_true.1 hx
        rw [hb k (by omega)] at h3; cases h3
      refine ⟨⟨rising_c nB B (by omega), fun _ => rising_c nO O (by omega)⟩, fun h2 => ?_, fun h2 => ⟨⟨withinR_c _ _ _, fun _ => withinR_c _ _ _, fun _ => withinR_c _ _ _⟩, fun h3 => ?_, fun h3 => ?_⟩⟩
      · rw [sysE, if_neg hs, if_neg hA, if_pos h2]
      · have h4 : ¬ (rise nB B = false ∨ rise nO O = false) := fun hx => hx.elim h2.1 fun e => by rw [h2.2] at e; cases e
        rw [sysE, if_neg hs, if_neg hA, if_neg h4, if_pos]
        rcases h3 with (h3 | h3) | h3
        · exact .inl h3
        · exact .inr (.inl h3)
        · exact .inr (.inr h3)
      · have h4 : ¬ (rise nB B = false ∨ rise nO O = false) := fun hx => hx.elim h2.1 fun e => by rw [h2.2] at e; cases e
        rw [sysE, if_neg hs, if_neg hA, if_neg h4, if_neg]
        rintro (h5 | h5 | h5)
        · exact h3.1 (.inl h5)
        · exact h3.1 (.inr h5)
        · rw [h3.2] at h5; cases h5
end Go.Abs.Lay
end
