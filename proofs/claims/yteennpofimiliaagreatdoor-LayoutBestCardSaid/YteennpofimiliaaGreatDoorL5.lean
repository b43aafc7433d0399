/- Contracts. -/
import Derived.Test.YteennpofimiliaaGreatDoorL4
set_option linter.unusedVariables false
set_option linter.unusedSimpArgs false
set_option maxRecDepth 100000
namespace Go.Abs.Lay
open Go
def catN (nB : Nat) (B : Nat → Int) (nO : Nat) (O : Nat → Int) (W G L : Int) : Nat := if sysE nB B nO O W G L = 0 then nB + nO else 0
def catU (nB : Nat) (B : Nat → Int) (nO : Nat) (O : Nat → Int) (W G L : Int) : Nat := if sysE nB B nO O W G L = 0 then unitP nB B nO O (nB + nO) else 0
abbrev catE (nB : Nat) (B : Nat → Int) (nO : Nat) (O : Nat → Int) (W G L : Int) : DV := catD (catU nB B nO O W G L) (catN nB B nO O W G L) (pLen nB B nO O) (pCode nB) (fun i => decide (nB ≤ i))
def measE (nB : Nat) (B : Nat → Int) (nO : Nat) (O : Nat → Int) (W G L : Int) (len : Int) : Int := if sysE nB B nO O W G L = 0 then (if len < 0 then 2 else if len > 4000 * (unitP nB B nO O (nB + nO) : Int) then 8 else 0) else sysE nB B nO O W G L
def rRead : Orc := .res fun l => catS (gB l) (gBf l) (gO l) (gOf l)
def rOpened : Orc := .res fun l => .tup [catE (gB l) (gBf l) (gO l) (gOf l) (gW l) (gG l) (gL l), dI (sysE (gB l) (gBf l) (gO l) (gOf l) (gW l) (gG l) (gL l))]
def rMeas : Orc := .res fun l => .tup [catE (gB l) (gBf l) (gO l) (gOf l) (gW l) (gG l) (gL l), dI (measE (gB l) (gBf l) (gO l) (gOf l) (gW l) (gG l) (gL l) (aI l 1))]
def plX (u : Nat) (X C : Nat → Int) (i : Nat) : List (Nat × Int) := (List.range i).map fun i => (unitsOf u (X i), C i)
noncomputable def A98_opened_c (nB : Nat) (B : Nat → Int) (nO : Nat) (O : Nat → Int) (W G L : Int) : Ann := { orc := [(1, [(1, rSys)]), (4, [(1, rRead)])], loops := [], cuts := [] }
theorem opened_c (nB : Nat) (B : Nat → Int) (nO : Nat) (O : Nat → Int) (W G L : Int)  : FnC prog 81 [sys nB B nO O W G L] (.tup [catE nB B nO O W G L, dI (sysE nB B nO O W G L)]) := by
  refine FnC_owed hmix (A98_opened_c nB B nO O W G L) (V := .need [FnC prog 92 [.agg [.lst nB [fun i => (dI (B i))], .lst nO [fun i => (dI (O i))], (dI W), (dI G), (dI L)]] ((dI (sysE nB B nO O W G L)))] (.ite (sysE nB B nO O W G L != (0:Int)) (.done [(0:Int) = (↑(catU nB B nO O W G L) : Int), catN nB B nO O W G L = (0:Nat), sysE nB B nO O W G L = sysE nB B nO O W G L]) (.need [FnC prog 120 [.agg [.lst nB [fun i => (dI (B i))], .lst nO [fun i => (dI (O i))], (dI W), (dI G), (dI L)]] (.agg [(dI (↑(unitP nB B nO O (nB + nO)) : Int)), .lst (nB + nO) [fun i => (dI (pLen nB B nO O i)), fun i => (dI (pCode nB i)), fun i => (dB (decide (nB ≤ i)))]])] (.done [(↑(unitP nB B nO O (nB + nO)) : Int) = (↑(catU nB B nO O W G L) : Int), nB + nO = catN nB B nO O W G L, ∀ i < catN nB B nO O W G L, pLen nB B nO O i = pLen nB B nO O i, ∀ i < catN nB B nO O W G L, pCode nB i = pCode nB i, ∀ i < catN nB B nO O W G L, decide (nB ≤ i) = decide (nB ≤ i), (0:Int) = sysE nB B nO O W G L])))) (by kernel_rfl) ?_
  simp only [VT.holds, AllT, Sq]
  refine ⟨system_c nB B nO O W G L, fun h => by rw [catU, catN, if_neg h, if_neg h]; exact ⟨rfl, rfl⟩, fun h => ?_⟩
  obtain ⟨s1, s2, s3, sB, sO, _, _⟩ := sys_ok h
  rw [catU, catN, if_pos h, if_pos h]
  exact ⟨read_c nB B nO O W G L s1 s2 s3 sB sO, rfl, rfl, h.symm⟩
noncomputable def A58_measured_c (nB : Nat) (B : Nat → Int) (nO : Nat) (O : Nat → Int) (W G L : Int) (len : Int) : Ann := { orc := [(1, [(1, rOpened)])], loops := [], cuts := [] }
namespace w2i
noncomputable section
structure Z where
  nB : Nat
  B : Nat → Int
  nO : Nat
  O : Nat → Int
  W : Int
  G : Int
  L : Int
  len : Int
variable (z : Z) (a : Int)
abbrev x0 := Lay.catN z.nB z.B z.nO z.O z.W z.G z.L
abbrev x1 : Int := (↑(Lay.catU z.nB z.B z.nO z.O z.W z.G z.L) : Int)
abbrev x2 := VT.done [rf (x1 z), rf (x0 z), ∀ i0 < x0 z, rf (Lay.pLen z.nB z.B z.nO z.O i0), ∀ i0 < x0 z, rf (Lay.pCode z.nB i0), ∀ i0 < x0 z, rf (decide (z.nB ≤ i0)), a = Lay.measE z.nB z.B z.nO z.O z.W z.G z.L z.len]
abbrev x3 := Lay.sysE z.nB z.B z.nO z.O z.W z.G z.L
abbrev xt : VT := VT.need [FnC prog 81 [DV.agg [DV.lst z.nB [fun i0 => dI (z.B i0)], DV.lst z.nO [fun i0 => dI (z.O i0)], dI z.W, dI z.G, dI z.L]] (DV.tup [DV.agg [dI (x1 z), DV.lst (x0 z) [fun i0 => dI (Lay.pLen z.nB z.B z.nO z.O i0), fun i0 => dI (Lay.pCode z.nB i0), fun i0 => dB (decide (z.nB ≤ i0))]], dI (x3 z)])] (VT.ite (x3 z != 0) (x2 z (x3 z)) (VT.ite (decide (z.len < (0:Int))) (x2 z (2:Int)) (VT.need [i64In (4000 * x1 z)] (VT.ite (decide (z.len > (4000 * x1 z))) (x2 z (8:Int)) (x2 z (0:Int))))))
end
end w2i
open w2i in
theorem measured_c (nB : Nat) (B : Nat → Int) (nO : Nat) (O : Nat → Int) (W G L : Int) (len : Int)  : FnC prog 58 [sys nB B nO O W G L, dI len] (.tup [catE nB B nO O W G L, dI (measE nB B nO O W G L len)]) := by
  refine FnC_owed hmix (A58_measured_c nB B nO O W G L len) (V := xt ⟨nB, B, nO, O, W, G, L, len⟩) (by kernel_rfl) ?_
  simp only [xt, x0, x1, x2, x3, Rf, VT.holds, AllT, Sq]
  refine ⟨opened_c nB B nO O W G L, fun h => by rw [measE, if_neg h], fun h => ⟨fun h1 => by rw [measE, if_pos h, if_pos h1], fun h1 => ?_⟩⟩
  obtain ⟨s1, s2, s3, sB, sO, _, _⟩ := sys_ok h
  have hu := unitP_bd s1 sB sO
  rw [catU, if_pos h, measE, if_pos h, if_neg h1]
  exact ⟨by unfold i64In; omega, fun h2 => by rw [if_pos h2], fun h2 => by rw [if_neg h2]⟩
noncomputable def A63_table_c (u n : Nat) (X C : Nat → Int) (b : Nat → Bool) (N : Int) : Ann := { orc := [(9, [(4, .pos)])], loops := [(0, { ι := Nat, keep := [1, 2], boxes := [2], ts := fun _ k => [(6, dI (k : Int))], rw := fun _ k => [(5, 1, (N + 1).toNat, [fun q => .val (.int .i64 (if q < k then tabL (plX u X C n) q else 0))])], inv := fun _ k => 1 ≤ k ∧ (k : Int) ≤ N + 1, mu := fun _ k => (N + 1 - (k : Int)).toNat, rd := fun _ σ => (iOf (σ.get 6)).toNat }),
  (2, { ι := Nat, keep := [1, 2, 6, 23, 24], boxes := [2], ts := fun _ i => [(25, dI (i : Int))], rw := fun σ i => [(5, 1, (N + 1).toNat, [fun q => .val (.int .i64 (if q < (iOf (σ.get 6)).toNat then tabL (plX u X C n) q else if q = (iOf (σ.get 6)).toNat then bestL (plX u X C i) (tabL (plX u X C n)) (iOf (σ.get 6)).toNat else 0))])], inv := fun _ i => i ≤ n, mu := fun _ i => n - i, rd := fun _ σ => (iOf (σ.get 25)).toNat })], cuts := [] }
namespace w2j
noncomputable section
structure Z where
  u : Nat
  n : Nat
  X : Nat → Int
  C : Nat → Int
  b : Nat → Bool
  N : Int
variable (z : Z) (i0 i1 : Nat) (p q : Prop) (P : List Prop) (a b : Int) (k l m n : Nat) (g : Bool) (U V : VT)
abbrev x0 : Int := (i0:Int)
abbrev x1 := Int.toNat (x0 i0)
abbrev x2 := Int.toNat (a + 1)
abbrev x3 := addN 0 (x1 i0)
abbrev x4 := z.X (Int.toNat (i1:Int))
abbrev x5 := Lay.tabL (Lay.plX z.u z.X z.C z.n) k
abbrev x6 := if k < (x1 i0) then (x5 z l) else (if m = (x1 i0) then (Lay.bestL (Lay.plX z.u z.X z.C n) (Lay.tabL (Lay.plX z.u z.X z.C z.n)) (x1 i0)) else (0:Int))
abbrev x7 := x0 i0 - x4 z i1 / (z.u:Int)
abbrev x8 := addN 0 (Int.toNat (x7 z i0 i1))
abbrev x9 := x2 (i1:Int)
abbrev x10 := decide ((x4 z i1 / (z.u:Int)) > (x0 i0))
abbrev x11 : List Prop := rf (x2 z.N) :: p :: rf a :: rf z.n :: (∀ i0 < z.n, rf (z.X i0)) :: (∀ i0 < z.n, rf (z.C i0)) :: P
abbrev x12 := decide ((x6 z i0 (x3 i0) (x3 i0) (x3 i0) i1) < (0:Int))
abbrev x13 := x11 z p ((∀ i0 < z.n, rf (z.b i0)) :: q :: P) a
abbrev x14 := VT.need (p :: q :: P) U
abbrev x15 := ri ((!(x10 z i0 i1)) = true)
abbrev x16 : List Prop := (a = (k:Int)) :: rf (0:Nat) :: P
abbrev x17 := ri ((!(x12 z i0 i1)) = true)
abbrev x18 := if k < l then (x5 z m) else (0:Int)
abbrev x19 := 0 ≤ x0 i0 ∧ x0 i0 < (↑(x2 z.N) : Int)
abbrev x20 := x13 z (rf z.N) (rf (z.n:Int)) P (x0 i0)
abbrev x21 := VT.need [i64In ((i1:Int) + 1)] (VT.done (x16 (x20 z i0 (x13 z p (x9 i1 ≤ z.n) [z.n - x9 i1 < z.n - i1] (z.u:Int))) ((i1:Int) + 1) (x9 i1)))
abbrev x22 := x6 z i0 (x8 z i0 i1) (x8 z i0 i1) (x8 z i0 i1) i1 + (z.C (Int.toNat (i1:Int)))
abbrev x23 := x21 z i0 i1 (∀ i2 < x2 z.N, x6 z i0 i2 i2 i2 i1 = x6 z i0 i2 i2 i2 (x9 i1))
abbrev x24 := VT.ite g (x14 (x19 z i0) (x3 i0 < x2 z.N) [] U) V
abbrev x25 := if (decide (k = (x3 i0))) = true then a else b
abbrev x26 := x11 z p [∀ i0 < z.n, rf (z.b i0)] (z.u:Int)
abbrev x27 := 0 ≤ x7 z i0 i1 ∧ x7 z i0 i1 < (↑(x2 z.N) : Int)
abbrev xt : VT := x14 (i64In (z.N + 1)) (0 ≤ z.N + 1 ∧ rf (z.N + 1) ∧ z.N + 1 ≤ 140737488355328 ∧ TypeInfo.bytes ((Tables.types (Program.toTables prog))[(3:Nat)]) * x2 z.N ≤ 281474976710656) [] (VT.loop Nat (fun i0 => 1 ≤ i0 ∧ x0 i0 ≤ z.N + 1) (Int.toNat 1) (x16 (rf (x2 z.N) :: rf z.N :: x26 z (∀ i0 < x2 z.N, 0 = x18 z i0 (Int.toNat 1) i0)) (1:Int) (Int.toNat 1)) (fun i0 => x24 z i0 (decide ((x0 i0) ≤ z.N)) (VT.loop Nat (fun i0 => i0 ≤ z.n) (Int.toNat 0) (x16 (x20 z i0 (x26 z (∀ i1 < x2 z.N, x25 i0 (-(1:Int)) (x18 z i1 i0 i1) i1 = x6 z i0 i1 i1 i1 (Int.toNat 0)))) (0:Int) (Int.toNat 0)) (fun i1 => VT.ite (decide ((i1:Int) < (z.n:Int))) (VT.need [0 ≤ (i1:Int) ∧ (i1:Int) < (z.n:Int)] (VT.need [0 ≤ x4 z i1 ∧ 0 < (z.u:Int) ∧ x4 z i1 ≤ 9223372036854775807] (x14 (x15 z i0 i1) (x15 z i0 i1) [(!(x10 z i0 i1)) = true → i64In (x7 z i0 i1), x15 z i0 i1, x15 z i0 i1, (!(x10 z i0 i1)) = true → x27 z i0 i1, x15 z i0 i1, (!(x10 z i0 i1)) = true → x8 z i0 i1 < x2 z.N, x15 z i0 i1, x10 z i0 i1 = false → (!(x10 z i0 i1)) = true] (VT.ite (if (x10 z i0 i1) = true then true else (decide ((x6 z i0 (x8 z i0 i1) (x8 z i0 i1) (x8 z i0 i1) i1) < (0:Int)))) (x23 z i0 i1) (x14 (i64In (x7 z i0 i1)) (x27 z i0 i1) [x8 z i0 i1 < x2 z.N, i64In (x22 z i0 i1)] (x14 (x19 z i0) (x3 i0 < x2 z.N) [x17 z i0 i1, x17 z i0 i1, (!(x12 z i0 i1)) = true → x19 z i0, x17 z i0 i1, (!(x12 z i0 i1)) = true → x3 i0 < x2 z.N, x17 z i0 i1, x17 z i0 i1, x12 z i0 i1 = false → (!(x12 z i0 i1)) = true] (x24 z i0 (if (x12 z i0 i1) = true then true else (decide ((x22 z i0 i1) < (x6 z i0 (x3 i0) (x3 i0) (x3 i0) i1)))) (x21 z i0 i1 (∀ i2 < x2 z.N, x25 i0 (x22 z i0 i1) (x6 z i0 i2 i2 i2 i1) i2 = x6 z i0 i2 i2 i2 (x9 i1))) (x23 z i0 i1)))))))) (VT.need [i64In (x0 i0 + 1)] (VT.done (x16 (rf (x2 z.N) :: rf z.N :: x13 z (∀ i2 < x2 z.N, x6 z i0 i2 i2 i2 i1 = x18 z i2 (x2 (x0 i0)) i2) (1 ≤ x2 (x0 i0) ∧ (↑(x2 (x0 i0)) : Int) ≤ z.N + 1) [Int.toNat (z.N + 1 - (↑(x2 (x0 i0)) : Int)) < Int.toNat (z.N + 1 - x0 i0)] (z.u:Int)) (x0 i0 + 1) (x2 (x0 i0))))))) (VT.done [x2 z.N ≤ x2 z.N, rf (x2 z.N), ∀ i1 < x2 z.N, x18 z i1 i0 i1 = x5 z i1])))
end
end w2j
open w2j in
theorem table_c (u n : Nat) (X C : Nat → Int) (b : Nat → Bool) (N : Int) (hu : 1 ≤ u) (hn : n ≤ 16) (hX : ∀ i, i < n → 1 ≤ X i ∧ X i ≤ 10000) (hm : ∀ i, i < n → 1 ≤ unitsOf u (X i)) (hC : ∀ i, i < n → 0 ≤ C i ∧ C i ≤ 10001) (hN : 0 ≤ N) (hN2 : N ≤ 4000) : FnC prog 59 [catD u n X C b, dI N] (.lst (N + 1).toNat [fun k => .val (.int .i64 (tabL (plX u X C n) k))]) := by
  refine FnC_owed hmix (A63_table_c u n X C b N) (V := xt ⟨u, n, X, C, b, N⟩) (by kernel_rfl) ?_
  simp only [xt, x0, x1, x2, x3, x4, x5, x6, x7, x8, x9, x10, x11, x12, x13, x14, x15, x16, x17, x18, x19, x20, x21, x22, x23, x24, x25, x26, x27, Rf, VT.holds, AllT, Sq]
  have hbd : ∀ p ∈ plX u X C n, 0 ≤ p.2 ∧ p.2 ≤ 10001 := fun p hp => by
    obtain ⟨i, hi, rfl⟩ := List.mem_map.1 hp
    exact hC i (List.mem_range.1 hi)
  have hT := tabL_bd hbd
  have hT0 := tabL_zero (plX u X C n)
  have hTe := fun {k} => tabL_eq (plX u X C n) (k := k)
  generalize hTT : tabL (plX u X C n) = T at *
  have hby : prog.types[3].bytes = 8 := by kernel_rfl
  rw [hby]
  refine ⟨⟨by unfold i64In; omega, by omega, by omega, by omega⟩, ⟨rfl, fun i hi => ?_⟩, ⟨by omega, by omega⟩, fun k ⟨k1, k2⟩ => ⟨fun hk => ⟨⟨⟨by omega, by omega⟩, by rw [addN_zero]; omega⟩, ⟨rfl, fun q hq => ?_⟩, Nat.zero_le _, fun i hi => ⟨fun hlt => ?_, fun hge => ?_⟩⟩, fun hk => ⟨Nat.le_refl _, fun q hq => by rw [if_pos (by omega)]⟩⟩⟩
  · by_cases e : i < Int.toNat 1
    · rw [if_pos e, show i = 0 by omega, hT0]
    · rw [if_neg e]
  · rw [addN_zero]
    by_cases e : q = k
    · rw [if_pos e, if_neg (by omega), if_pos e]; rfl
    · rw [if_neg e, if_neg e]
  · have hi' : i < n := by omega
    have hx := hX i hi'
    have e : X i / (u : Int) = (unitsOf u (X i) : Int) := by
      unfold unitsOf
      have := Int.ediv_nonneg (a := X i) (b := (u : Int)) (by omega) (by omega)
      omega
    have m1 := hm i hi'
    have hc := hC i hi'
    have hs : bestL (plX u X C (i + 1)) T k = minP (bestL (plX u X C i) T k) (candL T k (unitsOf u (X i), C i)) := by
      rw [plX, range_snoc, bestL_snoc]; rfl
    simp only [e, Int.toNat_sub, addN_zero, hs]
    generalize unitsOf u (X i) = m at *
    have lt : k - m < k := by omega
    simp only [if_pos lt, Nat.lt_irrefl, if_false, if_true]
    have t1 := hT (k - m)
    generalize bestL (plX u X C i) T k = b at *
    refine ⟨⟨by omega, by omega⟩, ⟨by omega, by omega, by omega⟩, ⟨fun _ => by unfold i64In; omega, fun _ => by omega, fun _ => by omega⟩, fun h => ?_, fun ⟨h, h'⟩ => ?_⟩
    · have hcd : candL T k (m, C i) = -1 := by
        unfold candL
        rw [if_neg]
        intro ⟨_, h2, h3⟩
        dsimp only at h2 h3
        omega
      rw [hcd]
      exact ⟨by unfold i64In; omega, rfl, fun q hq => rfl, by omega, by omega⟩
    · have hcd : candL T k (m, C i) = T (k - m) + C i := by
        unfold candL
        rw [if_pos (show 1 ≤ m ∧ m ≤ k ∧ 0 ≤ T (k - m) from ⟨m1, by omega, by omega⟩)]
      rw [hcd]
      refine ⟨⟨by unfold i64In; omega, ⟨by omega, by omega⟩, by omega, by unfold i64In; omega⟩, ⟨⟨by omega, by omega⟩, by omega, fun _ => by omega, fun _ => by omega⟩, fun h2 => ⟨⟨⟨by omega, by omega⟩, by omega⟩, by unfold i64In; omega, rfl, fun q hq => ?_, by omega, by omega⟩, fun h2 => ⟨by unfold i64In; omega, rfl, fun q hq => ?_, by omega, by omega⟩⟩
      · by_cases e2 : q = k
        · rw [if_pos e2, if_neg (by omega), if_pos e2, minP, if_neg (by omega), if_pos h2]
        · rw [if_neg e2, if_neg e2, if_neg e2]
      · by_cases e2 : q = k
        · rw [if_neg (by omega), if_pos e2, if_neg (by omega), if_pos e2, minP, if_neg (by omega), if_neg (by omega)]
        · rw [if_neg e2, if_neg e2]
  · rw [show i = n by omega]
    refine ⟨by unfold i64In; omega, rfl, fun q hq => ?_, ⟨by omega, by omega⟩, by omega⟩
    by_cases e : q < k
    · rw [if_pos e, if_pos (by omega)]
    · by_cases e2 : q = k
      · rw [if_neg e, if_pos e2, if_pos (by omega), e2, hTe (by omega)]
      · rw [if_neg e, if_neg e2, if_neg (by omega)]
end Go.Abs.Lay
