/- Contracts. -/
import Derived.Test.YteennpofimiliaaGreatDoorK60
set_option linter.unusedVariables false
set_option linter.unusedSimpArgs false
set_option maxRecDepth 100000
namespace Go.Abs
open Go
def pvX (n nT n0 n1 : Nat) (ok : Bool) (lst code : Int) : Int := if 4001 < nT then 8 else if n0 ≠ n + 1 ∨ n1 ≠ n + 1 then 11 else if ok = false then 25 else if lst ≠ code then 25 else 0
/-- A proof: its table, its rings. -/
structure Prf where
  nT : Nat
  T : Nat → Int
  n0 : Nat
  A0 : Nat → Int
  A1 : Nat → Int
  n1 : Nat
  B0 : Nat → Int
  B1 : Nat → Int
abbrev prf (p : Prf) : DV := .agg [Lay.nums p.nT p.T, lst2 p.n0 p.A0 p.A1, lst2 p.n1 p.B0 p.B1]
def prfIn (p : Prf) : Prop := i64T p.nT p.T ∧ i64T p.n0 p.A0 ∧ i64T p.n0 p.A1 ∧ i64T p.n1 p.B0 ∧ i64T p.n1 p.B1
def pvC (b : Bld) (nB : Nat) (B : Nat → Int) (nO : Nat) (O : Nat → Int) (p : Prf) : Bool := ptbB (uRI nB B nO O) (nB + nO) (Lay.rLen nB B O) (Lay.rCode nB) p.nT p.T
def pvA (b : Bld) (nB : Nat) (B : Nat → Int) (nO : Nat) (O : Nat → Int) (W G : Int) (p : Prf) : Bool := folB (uRI nB B nO O) (b.N 0) (fun i a e => ruL (b.N 0) (b.X 0) (b.Y 0) G W i a e) p.nT p.T p.A0 p.A1 0
def pvB (b : Bld) (nB : Nat) (B : Nat → Int) (nO : Nat) (O : Nat → Int) (W G : Int) (p : Prf) : Bool := folB (uRI nB B nO O) (b.N 0) (fun i a e => ruL (b.N 0) (b.X 0) (b.Y 0) G W i a e) p.nT p.T p.B0 p.B1 1
def pvP (b : Bld) (nB : Nat) (B : Nat → Int) (nO : Nat) (O : Nat → Int) (W G : Int) (p : Prf) : Bool := pvC b nB B nO O p && (pvA b nB B nO O W G p && pvB b nB B nO O W G p)
def pvL (x y : Int) : Int := if x < 0 ∨ 0 ≤ y ∧ y < x then y else x
def pvK (nB : Nat) (B : Nat → Int) (l : Lyt) : Int := 10000 * totO nB B l l.nR + totB l l.nR
def pvE (b : Bld) (nB : Nat) (B : Nat → Int) (nO : Nat) (O : Nat → Int) (W G : Int) (l : Lyt) (p : Prf) : Int := pvX (b.N 0) p.nT p.n0 p.n1 (pvP b nB B nO O W G p) (pvL (p.A0 (b.N 0)) (p.B1 (b.N 0))) (pvK nB B l)
def pvR (b : Bld) (nB : Nat) (B : Nat → Int) (nO : Nat) (O : Nat → Int) (W G L : Int) (l : Lyt) (p : Prf) : Int := if laE b nB B nO O W G L l ≠ 0 then laE b nB B nO O W G L l else pvE b nB B nO O W G l p
section
variable {b : Bld} {nB : Nat} {B : Nat → Int} {nO : Nat} {O : Nat → Int} {W G : Int} {l : Lyt} {p : Prf}
theorem pv_1 (h : p.nT > 4001) : 8 = pvE b nB B nO O W G l p := by rw [pvE, pvX, if_pos (by omega)]
theorem pv_2 (h : ¬ p.nT > 4001) (h2 : ¬ p.n0 = b.N 0 + 1 ∨ ¬ p.n1 = b.N 0 + 1) : 11 = pvE b nB B nO O W G l p := by rw [pvE, pvX, if_neg (by omega), if_pos (by omega)]
theorem pv_3 (h : ¬ p.nT > 4001) (h2 : p.n0 = b.N 0 + 1 ∧ p.n1 = b.N 0 + 1) (h3 : pvP b nB B nO O W G p = false) : 25 = pvE b nB B nO O W G l p := by rw [pvE, pvX, if_neg (by omega), if_neg (by omega), if_pos h3]
theorem pv_4 {v : Int} (h : ¬ p.nT > 4001) (h2 : p.n0 = b.N 0 + 1 ∧ p.n1 = b.N 0 + 1) (h3 : pvP b nB B nO O W G p = true) (hv : pvL (p.A0 (b.N 0)) (p.B1 (b.N 0)) = v) : (¬ v = pvK nB B l → 25 = pvE b nB B nO O W G l p) ∧ (v = pvK nB B l → 0 = pvE b nB B nO O W G l p) := by
  rw [pvE, pvX, if_neg (by omega), if_neg (by omega), if_neg (by rw [h3]; simp), hv]
  exact ⟨fun hx => by rw [if_pos hx], fun hx => by rw [if_neg (fun hy => hy hx)]⟩
theorem pv_all : pvP b nB B nO O W G p = true ↔ pvC b nB B nO O p = true ∧ pvA b nB B nO O W G p = true ∧ pvB b nB B nO O W G p = true := by rw [pvP, Bool.and_eq_true, Bool.and_eq_true]
theorem pv_bad (h : (pvC b nB B nO O p = false ∨ pvA b nB B nO O W G p = false) ∨ pvB b nB B nO O W G p = false) : pvP b nB B nO O W G p = false := by
  rw [← Bool.not_eq_true, pv_all]
  rintro ⟨h1, h2, h3⟩
  rw [h1, h2, h3] at h
  simp at h
theorem fol_low {u : Int} {n : Nat} {R : Int → Int → Int → Int} {nT : Nat} {T L0 L1 : Nat → Int} {f : Nat} (h : folB u n R nT T L0 L1 f = true) : -1 ≤ L0 n ∧ -1 ≤ L1 n := by
  rw [folB, Bool.and_eq_true, decide_eq_true_eq] at h
  exact h.1 n (by omega)
theorem pvK_bd (ht : tidOk l) : i64In (10000 * totO nB B l l.nR) ∧ i64In (10000 * totO nB B l l.nR + totB l l.nR) ∧ (0 ≤ totO nB B l l.nR ∧ totO nB B l l.nR ≤ 100000000) ∧ 0 ≤ totB l l.nR ∧ totB l l.nR ≤ 100000000 := by
  have h1 := totO_bd (nB := nB) (B := B) ht l.nR (Nat.le_refl _)
  have h2 := totB_bd ht l.nR (Nat.le_refl _)
  have h3 := ht.2.1
  unfold i64In
  omega
end
noncomputable def A12_proofA_c (b : Bld) (nB : Nat) (B : Nat → Int) (nO : Nat) (O : Nat → Int) (W G L : Int) (l : Lyt) (p : Prf) : Ann := { orc := [(1, [(3, .res fun _ => .tup [.any, dI (laE b nB B nO O W G L l)])]), (4, [(1, .res fun _ => dI 0)]), (9, [(6, .res fun _ => dB true), (15, .res fun _ => dB true), (25, .res fun _ => dB true)]), (19, [(2, .res fun _ => dP 0 0)])], loops := [], cuts := [], unroll := [(1, 3)] }
namespace w46
noncomputable section
structure Z where
  b : Bld
  nB : Nat
  B : Nat → Int
  nO : Nat
  O : Nat → Int
  W : Int
  G : Int
  L : Int
  l : Lyt
  p : Prf
variable (z : Z) (p : Prop) (P : List Prop) (a b : Int) (k : Nat) (g h : Bool) (A : DV) (U : VT) (j11a : Nat → DV) (j15a : List Int)
abbrev x0 := Int.toNat 0
abbrev x1 := (0:Int) + (1:Int)
abbrev x2 := DV.lst k [j11a]
abbrev x3 : List Prop := ri (g = true) :: P
abbrev x4 := decide ((List.getD j15a k 0) ≥ (0:Int))
abbrev x5 := (10000:Int) * (0:Int)
abbrev x6 := laE z.b z.nB z.B z.nO z.O z.W z.G z.L z.l
abbrev x7 := x4 (Int.toNat x1) [z.p.B0 x0, z.p.B1 x0]
abbrev x8 := if g = true then true else h
abbrev x9 : Int := -(1:Int)
abbrev x10 := 0 ≤ a ∧ b < (↑(2:Nat) : Int)
abbrev x11 := x8 (!true) (!true)
abbrev x12 := (z.p.n0:Int) != x1
abbrev x13 := VT.ite g (VT.done [a = x6 z]) U
abbrev x14 := decide (x9 < (0:Int))
abbrev x15 := List.getD [z.p.A0 x0, z.p.A1 x0] x0 0
abbrev x16 := x4 x0 [z.p.A0 x0, z.p.A1 x0]
abbrev x17 : List DV := [DV.agg [x2 z.nB (fun i0 => dI (z.B i0)), x2 z.nO (fun i0 => dI (z.O i0)), dI z.W, dI z.G, dI z.L], DV.agg [x2 z.l.nC (fun i0 => dI (z.l.C i0)), DV.lst z.l.nR [fun i0 => dI (z.l.F i0), fun i0 => dI (z.l.SX i0), fun i0 => dI (z.l.SY i0), fun i0 => dI (z.l.Ln i0), fun i0 => x2 (z.l.nP i0) (fun i1 => dI (z.l.P i0 i1)), fun i0 => x2 (z.l.nQ i0) (fun i1 => dI (z.l.Q i0 i1))]]]
abbrev x18 := VT.ite (decide (a < (2:Int))) U (VT.need [FnC prog 45 (x17 z) (DV.val (Value.agg (Array.mk [Value.int IntKind.i64 0, Value.int IntKind.i64 0])))] (VT.need [i64In x5, i64In (x5 + 0)] (x13 z (25:Int) (b != x5 + 0) (VT.done [0 = x6 z]))))
abbrev x19 := g = false → h = true
abbrev x20 := decide ((x15 z) < (0:Int))
abbrev x21 := x3 (x3 P (!(!true))) (!(!true))
abbrev x22 := List.getD [z.p.B0 x0, z.p.B1 x0] (Int.toNat x1) 0
abbrev x23 := x10 (0:Int) (0:Int)
abbrev x24 := VT.need [i64In (x1 + 1)] (x18 z (x1 + 1) a (VT.need [x10 (x1 + 1) (x1 + 1), False, False, False, False] (VT.need [False, False, False, False, False, False, False, False, False] (VT.done [False]))))
abbrev x25 := x2 z.p.nT (fun i0 => dI (z.p.T i0))
abbrev x26 := x3 (x3 P ((x7 z) && (!g))) (x7 z)
abbrev x27 : List Prop := ((!(x12 z)) = true → p) :: x3 (x3 P (!(x12 z))) (!(x12 z))
abbrev x28 := x3 (x3 [x7 z = true → p, ri (x7 z = true)] (x7 z)) ((x7 z) && (!g))
abbrev x29 := VT.need [i64In x1] (x18 z x1 a (VT.need [x10 x1 x1, (0:Int) ≤ (0:Int) ∧ 0 < (z.p.n1:Int), x10 x1 x1] U))
abbrev x30 := FnC prog 44 [DV.any, x25 z, A, dI a] (dB true)
abbrev x31 := VT.ite (if (x7 z) = true then g else false) (x24 z (x22 z)) (x24 z a)
abbrev xt : VT := VT.need [FnC prog 41 (bld z.b :: x17 z) (DV.tup [DV.any, dI (x6 z)])] (VT.ite (x6 z != 0) (VT.done [rf (x6 z)]) (VT.need [FnC prog 42 [DV.any] (dI 0)] (x13 z (8:Int) (decide ((z.p.nT:Int) > (4001:Int))) (VT.need (x23 :: i64In x1 :: x3 (x27 z (x10 (1:Int) (1:Int)) (x3 (x27 z (i64In x1) [x19 (x12 z) (!(x12 z))]) (!(x12 z)))) (!(x12 z))) (x13 z (11:Int) (x8 (x12 z) ((z.p.n1:Int) != x1)) (VT.need (False :: False :: False :: FnC prog 43 [DV.any, x25 z] (dB true) :: x21 (((!(!true)) = true → x23) :: x21 (x21 (((!(!true)) = true → x30 z (0:Int) (DV.lst z.p.n0 [fun i0 => dI (z.p.A0 i0), fun i0 => dI (z.p.A1 i0)])) :: x3 (x19 (!true) (!(!true)) :: x3 (x3 (((!x11) = true → x10 (1:Int) (1:Int)) :: x3 (x3 (x3 (x3 (((!x11) = true → x30 z (1:Int) (DV.lst z.p.n1 [fun i0 => dI (z.p.B0 i0), fun i0 => dI (z.p.B1 i0)])) :: x3 [x19 x11 (!x11)] (!x11)) (!x11)) (!x11)) (!x11)) (!x11)) (!x11)) (!x11)) (!(!true)))))) (x13 z (25:Int) (x8 x11 (!true)) (x18 z (0:Int) x9 (VT.need [x23, (0:Int) ≤ (0:Int) ∧ 0 < (z.p.n0:Int), x23] (VT.need (x3 (x3 (x3 (x3 (x3 [x16 z = true → x19 x14 ((x16 z) && (!x14)), ri (x16 z = true)] (x16 z)) ((x16 z) && (!x14))) ((x16 z) && (!x14))) (x16 z)) (x16 z)) (VT.ite (if (x16 z) = true then (x8 x14 (decide ((x15 z) < x9))) else false) (x29 z (x15 z) (VT.need (x3 (x26 z (x28 z (x19 (x20 z) ((x7 z) && (!(x20 z)))) (x20 z)) (x20 z)) (x7 z)) (x31 z (x15 z) (x8 (x20 z) (decide ((x22 z) < (x15 z))))))) (x29 z x9 (VT.need (x3 (x26 z (x28 z (x19 x14 ((x7 z) && (!x14))) x14) x14) (x7 z)) (x31 z x9 (x8 x14 (decide ((x22 z) < x9)))))))))))))))))
end
end w46
open w46 in
theorem proofA_c (b : Bld) (nB : Nat) (B : Nat → Int) (nO : Nat) (O : Nat → Int) (W G L : Int) (l : Lyt) (p : Prf) (hN : ∀ i, i < b.nS → b.N i ≤ 1000) (ht : tidOk l) (h0 : laE b nB B nO O W G L l ≠ 0) : FnC prog 12 [bld b, Lay.sys nB B nO O W G L, lyt l, prf p] (dI (laE b nB B nO O W G L l)) := by
  refine FnC_owed hmix (A12_proofA_c b nB B nO O W G L l p) (V := xt ⟨b, nB, B, nO, O, W, G, L, l, p⟩) (by kernel_rfl) ?_
  simp only [xt, x0, x1, x2, x3, x4, x5, x6, x7, x8, x9, x10, x11, x12, x13, x14, x15, x16, x17, x18, x19, x20, x21, x22, x23, x24, x25, x26, x27, x28, x29, x30, x31, Rf, VT.holds, AllT, Sq]
  exact ⟨laidE_c b nB B nO O W G L l hN ht, fun h => absurd h h0⟩
noncomputable def A12_proofB_c (b : Bld) (nB : Nat) (B : Nat → Int) (nO : Nat) (O : Nat → Int) (W G L : Int) (l : Lyt) (p : Prf) : Ann := { orc := [(1, [(3, .res fun _ => .tup [ringD b nB B nO O W G L, dI 0])]), (4, [(1, .res fun _ => dI (b.N 0 : Int))]), (9, [(6, .res fun _ => dB (pvC b nB B nO O p)), (15, .res fun _ => dB (pvA b nB B nO O W G p)), (25, .res fun _ => dB (pvB b nB B nO O W G p))]), (19, [(2, .res fun _ => dP (totO nB B l l.nR) (totB l l.nR))])], loops := [], cuts := [], unroll := [(1, 3)] }
namespace w47
noncomputable section
structure Z where
  b : Bld
  nB : Nat
  B : Nat → Int
  nO : Nat
  O : Nat → Int
  W : Int
  G : Int
  L : Int
  l : Lyt
  p : Prf
variable (z : Z) (p : Prop) (P : List Prop) (a b : Int) (k : Nat) (g h : Bool) (E : List DV) (U : VT) (j11a : Nat → DV) (j17a : List Int)
abbrev x0 : Int := (↑(z.b.N 0) : Int)
abbrev x1 := Int.toNat (x0 z)
abbrev x2 := DV.lst k [j11a]
abbrev x3 := (0:Int) + (1:Int)
abbrev x4 := List.getD j17a (Int.toNat a) 0
abbrev x5 : List Prop := ri (g = true) :: P
abbrev x6 := decide ((x4 a j17a) ≥ (0:Int))
abbrev x7 := pvC z.b z.nB z.B z.nO z.O z.p
abbrev x8 := 10000 * totO z.nB z.B z.l z.l.nR
abbrev x9 := x6 x3 [z.p.B0 (x1 z), z.p.B1 (x1 z)]
abbrev x10 := VT.done [a = pvE z.b z.nB z.B z.nO z.O z.W z.G z.l z.p]
abbrev x11 := if g = true then true else h
abbrev x12 : Int := -(1:Int)
abbrev x13 := 0 ≤ a ∧ b < (↑(2:Nat) : Int)
abbrev x14 := pvA z.b z.nB z.B z.nO z.O z.W z.G z.p
abbrev x15 := x11 (!(x7 z)) (!(x14 z))
abbrev x16 : List DV := x2 z.nB (fun i0 => dI (z.B i0)) :: x2 z.nO (fun i0 => dI (z.O i0)) :: dI z.W :: dI z.G :: dI z.L :: E
abbrev x17 := (z.p.n0:Int) != x0 z + 1
abbrev x18 := decide (x12 < (0:Int))
abbrev x19 := x4 (0:Int) [z.p.A0 (x1 z), z.p.A1 (x1 z)]
abbrev x20 := x6 (0:Int) [z.p.A0 (x1 z), z.p.A1 (x1 z)]
abbrev x21 : List DV := [DV.agg (x16 z []), DV.agg [x2 z.l.nC (fun i0 => dI (z.l.C i0)), DV.lst z.l.nR [fun i0 => dI (z.l.F i0), fun i0 => dI (z.l.SX i0), fun i0 => dI (z.l.SY i0), fun i0 => dI (z.l.Ln i0), fun i0 => x2 (z.l.nP i0) (fun i1 => dI (z.l.P i0 i1)), fun i0 => x2 (z.l.nQ i0) (fun i1 => dI (z.l.Q i0 i1))]]]
abbrev x22 := VT.ite (decide (a < (2:Int))) U (VT.need [FnC prog 45 (x21 z) (DV.val (Value.agg (Array.mk [Value.int IntKind.i64 (totO z.nB z.B z.l z.l.nR), Value.int IntKind.i64 (totB z.l z.l.nR)])))] (VT.need [i64In (x8 z), i64In (x8 z + totB z.l z.l.nR)] (VT.ite (b != x8 z + totB z.l z.l.nR) (x10 z (25:Int)) (x10 z (0:Int)))))
abbrev x23 := g = false → h = true
abbrev x24 := decide ((x19 z) < (0:Int))
abbrev x25 : List DV := dI (↑(Lay.catU z.nB z.B z.nO z.O z.W z.G z.L) : Int) :: E
abbrev x26 := DV.lst (Lay.catN z.nB z.B z.nO z.O z.W z.G z.L) [fun i0 => dI (Lay.pLen z.nB z.B z.nO z.O i0), fun i0 => dI (Lay.pCode z.nB i0), fun i0 => dB (decide (z.nB ≤ i0))]
abbrev x27 := x5 (x5 P (!(!(x7 z)))) (!(!(x7 z)))
abbrev x28 := x5 (x5 P (!(x15 z))) (!(x15 z))
abbrev x29 := x4 x3 [z.p.B0 (x1 z), z.p.B1 (x1 z)]
abbrev x30 := x13 (0:Int) (0:Int)
abbrev x31 := VT.need [i64In (x3 + 1)] (x22 z (x3 + 1) a (VT.need [x13 (x3 + 1) (x3 + 1), False, False, False, False] (VT.need [False, False, False, False, False, False, False, False, False] (VT.done [False]))))
abbrev x32 := DV.cptr (DV.val (Value.string z.b.name) :: DV.lst z.b.nS [fun i0 => dI (z.b.fl i0), fun i0 => DV.lst (z.b.N i0) [fun i1 => dI (z.b.X i0 i1), fun i1 => dI (z.b.Y i0 i1)]] :: dI z.b.roof :: DV.lst z.b.nO [fun i0 => dI (z.b.O i0 0), fun i0 => dI (z.b.O i0 1), fun i0 => dI (z.b.O i0 2), fun i0 => dI (z.b.O i0 3), fun i0 => dI (z.b.O i0 4), fun i0 => dI (z.b.O i0 5)] :: DV.lst z.b.nB [fun i0 => dI (z.b.B i0 0), fun i0 => dI (z.b.B i0 1), fun i0 => dI (z.b.B i0 2), fun i0 => dI (z.b.B i0 3), fun i0 => dI (z.b.B i0 4), fun i0 => dI (z.b.B i0 5)] :: x16 z (x25 z [x26 z, DV.lst (z.b.N 0) [fun i0 => dI (z.b.X 0 i0), fun i0 => dI (z.b.Y 0 i0), fun i0 => dI (z.b.X 0 (ix (z.b.N 0) ((i0:Int) + 1))), fun i0 => dI (z.b.Y 0 (ix (z.b.N 0) ((i0:Int) + 1))), fun i0 => dI (lenW (z.b.N 0) (z.b.X 0) (z.b.Y 0) (i0:Int)), fun i0 => dI (dD (z.b.N 0) (z.b.X 0) (z.b.Y 0) (i0:Int))], x2 (z.b.N 0) (fun i0 => dI (cor (z.b.N 0) (z.b.X 0) (z.b.Y 0) i0))]))
abbrev x33 := x2 z.p.nT (fun i0 => dI (z.p.T i0))
abbrev x34 := x5 (x5 P ((x9 z) && (!g))) (x9 z)
abbrev x35 : List Prop := ((!(x17 z)) = true → p) :: x5 (x5 P (!(x17 z))) (!(x17 z))
abbrev x36 := x5 (x5 [x9 z = true → p, ri (x9 z = true)] (x9 z)) ((x9 z) && (!g))
abbrev x37 := VT.need [i64In x3] (x22 z x3 a (VT.need [x13 x3 x3, 0 ≤ x0 z ∧ x0 z < (z.p.n1:Int), x13 x3 x3] U))
abbrev x38 := VT.ite (if (x9 z) = true then g else false) (x31 z (x29 z)) (x31 z a)
abbrev x39 := pvB z.b z.nB z.B z.nO z.O z.W z.G z.p
abbrev xt : VT := VT.need [FnC prog 41 (bld z.b :: x21 z) (DV.tup [x32 z, dI 0])] (VT.ite ((0:Int) != (0:Int)) (x10 z (0:Int)) (VT.need [FnC prog 42 [x32 z] (dI (x0 z))] (VT.ite (decide ((z.p.nT:Int) > (4001:Int))) (x10 z (8:Int)) (VT.need (x30 :: i64In (x0 z + 1) :: x5 (x35 z (x13 (1:Int) (1:Int)) (x5 (x35 z (i64In (x0 z + 1)) [x23 (x17 z) (!(x17 z))]) (!(x17 z)))) (!(x17 z))) (VT.ite (x11 (x17 z) ((z.p.n1:Int) != x0 z + 1)) (x10 z (11:Int)) (VT.need (FnC prog 43 [DV.agg (x25 z [x26 z]), x33 z] (dB (x7 z)) :: x27 z (((!(!(x7 z))) = true → x30) :: x27 z (x27 z (((!(!(x7 z))) = true → FnC prog 44 [x32 z, x33 z, DV.lst z.p.n0 [fun i0 => dI (z.p.A0 i0), fun i0 => dI (z.p.A1 i0)], dI 0] (dB (x14 z))) :: x5 (x23 (!(x7 z)) (!(!(x7 z))) :: x28 z (((!(x15 z)) = true → x13 (1:Int) (1:Int)) :: x28 z (x28 z (((!(x15 z)) = true → FnC prog 44 [x32 z, x33 z, DV.lst z.p.n1 [fun i0 => dI (z.p.B0 i0), fun i0 => dI (z.p.B1 i0)], dI 1] (dB (x39 z))) :: x5 [x23 (x15 z) (!(x15 z))] (!(x15 z)))))) (!(!(x7 z))))))) (VT.ite (x11 (x15 z) (!(x39 z))) (x10 z (25:Int)) (x22 z (0:Int) x12 (VT.need [x30, 0 ≤ x0 z ∧ x0 z < (z.p.n0:Int), x30] (VT.need (x5 (x5 (x5 (x5 (x5 [x20 z = true → x23 x18 ((x20 z) && (!x18)), ri (x20 z = true)] (x20 z)) ((x20 z) && (!x18))) ((x20 z) && (!x18))) (x20 z)) (x20 z)) (VT.ite (if (x20 z) = true then (x11 x18 (decide ((x19 z) < x12))) else false) (x37 z (x19 z) (VT.need (x5 (x34 z (x36 z (x23 (x24 z) ((x9 z) && (!(x24 z)))) (x24 z)) (x24 z)) (x9 z)) (x38 z (x19 z) (x11 (x24 z) (decide ((x29 z) < (x19 z))))))) (x37 z x12 (VT.need (x5 (x34 z (x36 z (x23 x18 ((x9 z) && (!x18))) x18) x18) (x9 z)) (x38 z x12 (x11 x18 (decide ((x29 z) < x12)))))))))))))))))
end
end w47
open w47 in
theorem proofB_c (b : Bld) (nB : Nat) (B : Nat → Int) (nO : Nat) (O : Nat → Int) (W G L : Int) (l : Lyt) (p : Prf) (hN : ∀ i, i < b.nS → b.N i ≤ 1000) (ht : tidOk l) (h0 : arE b nB B nO O W G L = 0) (hl : lyE b nB B nO O W G l = 0) (hp : prfIn p) (hT : p.nT ≤ 1000000) : FnC prog 12 [bld b, Lay.sys nB B nO O W G L, lyt l, prf p] (dI (pvE b nB B nO O W G l p)) := by
  refine FnC_owed hmix (A12_proofB_c b nB B nO O W G L l p) (V := xt ⟨b, nB, B, nO, O, W, G, L, l, p⟩) (by kernel_rfl) ?_
  simp only [xt, x0, x1, x2, x3, x4, x5, x6, x7, x8, x9, x10, x11, x12, x13, x14, x15, x16, x17, x18, x19, x20, x21, x22, x23, x24, x25, x26, x27, x28, x29, x30, x31, x32, x33, x34, x35, x36, x37, x38, x39, Rf, VT.holds, AllT, Sq]
  obtain ⟨hc, hs, _, _, _, _, _⟩ := ar_zero h0
  obtain ⟨b1, b2, b3, b4, b5⟩ := b0_ok hc
  have hn4 := chk_n b2
  obtain ⟨hX, hY⟩ := chk_inB b2
  have g1 := (sys_wgl hs).1
  obtain ⟨ue, u1, u2⟩ := u_bd hs
  obtain ⟨p1, p2, p3, p4, p5⟩ := hp
  have kb := pvK_bd (nB := nB) (B := B) ht
  have e1 : ∀ x y : Int, [x, y].getD 0 0 = x := fun _ _ => rfl
  have e2 : ∀ x y : Int, [x, y].getD (0 + 1 : Int).toNat 0 = y := fun _ _ => rfl
  simp only [e1, e2]
  refine ⟨laidC_c b nB B nO O W G L l hN h0 hl ht, fun h => absurd trivial h, fun _ => ⟨n_c _ _ _ _ _ _ _ _ _ _ _ _ _ _ _, fun h => pv_1 (by omega), fun h => ⟨⟨by omega, by unfold i64In; omega, fun _ => by omega, fun _ => by unfold i64In; omega⟩, fun h2 => pv_2 (by omega) (by omega), fun h2 => ?_⟩⟩⟩
  have f1 : p.n0 = b.N 0 + 1 := by omega
  have f2 : p.n1 = b.N 0 + 1 := by omega
  rw [f1] at p2 p3
  rw [f2] at p4 p5
  have hpc : Lay.catN nB B nO O W G L = nB + nO := by rw [Lay.catN, if_pos hs]
  obtain ⟨s1, s2, s3, sB, sO, _, _⟩ := Lay.sys_ok hs
  refine ⟨⟨?_, fun _ => by omega, fun _ => ?_, fun _ => by omega, fun _ => ?_⟩, fun h3 => pv_3 (by omega) ⟨f1, f2⟩ (pv_bad h3), fun h3 => ?_⟩
  · have := pcovers_c (Lay.catU nB B nO O W G L) (nB + nO) (Lay.pLen nB B nO O) (Lay.pCode nB) (fun i => decide (nB ≤ i)) p.nT p.T (by omega) (fun i hi => by have := Lay.pLen_bd sB sO hi; omega) p1 hT (by omega)
    rw [ue, ptb_eq] at this
    rw [ue, hpc]
    exact this
  · have := follows_c b nB B nO O W G L p.nT p.T p.A0 p.A1 0 h0 p1 hT p2 p3 (by omega)
    have e : folB (Lay.catU nB B nO O W G L : Nat) (b.N 0) (fun i a e => ruL (b.N 0) (b.X 0) (b.Y 0) G W i a e) p.nT p.T p.A0 p.A1 0 = pvA b nB B nO O W G p := by rw [pvA, ue]
    rw [e] at this
    rw [f1]; exact this
  · have := follows_c b nB B nO O W G L p.nT p.T p.B0 p.B1 1 h0 p1 hT p4 p5 (by omega)
    have e : folB (Lay.catU nB B nO O W G L : Nat) (b.N 0) (fun i a e => ruL (b.N 0) (b.X 0) (b.Y 0) G W i a e) p.nT p.T p.B0 p.B1 1 = pvB b nB B nO O W G p := by rw [pvB, ue]
    rw [e] at this
    rw [f2]; exact this
  have hall : pvP b nB B nO O W G p = true := by
    rw [pv_all]
    refine ⟨?_, ?_, h3.2⟩
    · cases hq : pvC b nB B nO O p with
      | true => rfl
      | false => exact absurd (.inl hq) h3.1
    · cases hq : pvA b nB B nO O W G p with
      | true => rfl
      | false => exact absurd (.inr hq) h3.1
  have x1 := (fol_low (pv_all.1 hall).2.1).1
  have y1 := (fol_low (pv_all.1 hall).2.2).2
  have tot := total_c nB B nO O W G L l hs ht
  have leaf : ∀ v : Int, pvL (p.A0 (b.N 0)) (p.B1 (b.N 0)) = v → (¬ v = 10000 * totO nB B l l.nR + totB l l.nR → 25 = pvE b nB B nO O W G l p) ∧ (v = 10000 * totO nB B l l.nR + totB l l.nR → 0 = pvE b nB B nO O W G l p) := fun v hv => pv_4 (by omega) ⟨f1, f2⟩ hall hv
  have lt1 : ¬ ((0:Int) + 1 + 1 < 2) := by decide
  have lt2 : ((0:Int) + 1 < 2) := by decide
  have in1 : i64In ((0:Int) + 1) := by unfold i64In; omega
  have in2 : i64In ((0:Int) + 1 + 1) := by unfold i64In; omega
  have x0 : 0 ≤ (b.N 0 : Int) ∧ (b.N 0 : Int) < p.n0 := by omega
  have y0 : 0 ≤ (b.N 0 : Int) ∧ (b.N 0 : Int) < p.n1 := by omega
  generalize hx : p.A0 (b.N 0) = x at *
  generalize hy : p.B1 (b.N 0) = y at *
  refine ⟨fun _ => ⟨⟨by omega, x0, by omega⟩, fun a c => ⟨a, c⟩, fun a => ⟨in1, fun _ => ⟨⟨by omega, y0, by omega⟩, fun a c => ⟨a, c⟩, fun c => ⟨in2, fun h => absurd h lt1, fun _ => ⟨tot, ⟨kb.1, kb.2.1⟩, leaf _ ?_⟩⟩, fun c => ⟨in2, fun h => absurd h lt1, fun _ => ⟨tot, ⟨kb.1, kb.2.1⟩, leaf _ ?_⟩⟩⟩, fun h => absurd lt2 h⟩, fun a => ⟨in1, fun _ => ⟨⟨by omega, y0, by omega⟩, fun a c => ⟨a, c⟩, fun c => ⟨in2, fun h => absurd h lt1, fun _ => ⟨tot, ⟨kb.1, kb.2.1⟩, leaf _ ?_⟩⟩, fun c => ⟨in2, fun h => absurd h lt1, fun _ => ⟨tot, ⟨kb.1, kb.2.1⟩, leaf _ ?_⟩⟩⟩, fun h => absurd lt2 h⟩⟩, fun h => absurd (by decide) h⟩
  · rw [pvL, if_pos (by omega)]
  · rw [pvL, if_neg (by omega)]
  · rw [pvL, if_pos (by omega)]
  · rw [pvL, if_pos (by omega)]; omega
noncomputable def A10_proofR_c (b : Bld) (nB : Nat) (B : Nat → Int) (nO : Nat) (O : Nat → Int) (W G L : Int) (l : Lyt) (p : Prf) : Ann := { orc := [(1, [(1, rFst b)]), (6, [(3, .res fun _ => dB (pvC b nB B nO O p)), (13, .res fun _ => dB (pvA b nB B nO O W G p)), (24, .res fun _ => dB (pvB b nB B nO O W G p))]), (12, [(3, .res fun _ => dP (totO nB B l l.nR) (totB l l.nR)), (4, .res fun _ => dI (pvK nB B l))])], loops := [], cuts := [(12, { ι := Unit, keep := [5, 6], boxes := [5, 6], ts := fun _ _ => [(10, dI (pvL (p.A0 (b.N 0)) (p.B1 (b.N 0))))], inv := fun _ _ => p.nT ≤ 4001 ∧ p.n0 = b.N 0 + 1 ∧ p.n1 = b.N 0 + 1 ∧ pvP b nB B nO O W G p = true, mu := fun _ _ => 0, rd := fun _ _ => () })] }
namespace w48
noncomputable section
structure Z where
  b : Bld
  nB : Nat
  B : Nat → Int
  nO : Nat
  O : Nat → Int
  W : Int
  G : Int
  L : Int
  l : Lyt
  p : Prf
variable (z : Z) (p : Prop) (P : List Prop) (a : Int) (k : Nat) (g h : Bool) (E : List DV) (U : VT) (j11a : Nat → DV)
abbrev x0 : Int := (↑(z.b.N 0) : Int)
abbrev x1 := Int.toNat (x0 z)
abbrev x2 := pvC z.b z.nB z.B z.nO z.O z.p
abbrev x3 : List Prop := ri ((!g) = true) :: P
abbrev x4 := if g = true then true else h
abbrev x5 := DV.lst k [j11a]
abbrev x6 := pvA z.b z.nB z.B z.nO z.O z.W z.G z.p
abbrev x7 := x4 (!(x2 z)) (!(x6 z))
abbrev x8 := List.getD [z.p.A0 (x1 z), z.p.A1 (x1 z)] (Int.toNat 0) 0
abbrev x9 := (z.p.n0:Int) != x0 z + 1
abbrev x10 := decide ((x8 z) < (0:Int))
abbrev x11 := x3 P (!(x2 z))
abbrev x12 := List.getD [z.p.B0 (x1 z), z.p.B1 (x1 z)] (Int.toNat 1) 0
abbrev x13 := decide ((x12 z) ≥ (0:Int))
abbrev x14 : List Prop := [a = pvE z.b z.nB z.B z.nO z.O z.W z.G z.l z.p]
abbrev x15 := VT.ite g (VT.done (x14 z a)) U
abbrev x16 := g = false → (!h) = true
abbrev x17 := (0:Int) ≤ (0:Int) ∧ 0 < (↑(2:Nat) : Int)
abbrev x18 := (0:Int) ≤ (1:Int) ∧ 1 < (↑(2:Nat) : Int)
abbrev x19 : List DV := DV.agg [x5 z.nB (fun i0 => dI (z.B i0)), x5 z.nO (fun i0 => dI (z.O i0)), dI z.W, dI z.G, dI z.L] :: E
abbrev x20 := ((!(x10 z)) && (x13 z)) = true
abbrev x21 := x5 z.p.nT (fun i0 => dI (z.p.T i0))
abbrev x22 := pvL (z.p.A0 (z.b.N 0)) (z.p.B1 (z.b.N 0))
abbrev x23 := z.p.nT ≤ 4001 ∧ z.p.n0 = z.b.N 0 + 1 ∧ z.p.n1 = z.b.N 0 + 1 ∧ pvP z.b z.nB z.B z.nO z.O z.W z.G z.p = true
abbrev x24 : List Prop := ((!(x9 z)) = true → p) :: x3 (x3 P (x9 z)) (x9 z)
abbrev x25 := FnC prog 39 (bld z.b :: x19 z (x21 z :: E)) (dB g)
abbrev x26 : List Prop := [a = x22 z, rf z.nB, ∀ i0 < z.nB, rf (z.B i0), rf z.nO, ∀ i0 < z.nO, rf (z.O i0), rf z.W, rf z.G, rf z.L, rf z.l.nC, ∀ i0 < z.l.nC, rf (z.l.C i0), rf z.l.nR, ∀ i0 < z.l.nR, rf (z.l.F i0), ∀ i0 < z.l.nR, rf (z.l.SX i0), ∀ i0 < z.l.nR, rf (z.l.SY i0), ∀ i0 < z.l.nR, rf (z.l.Ln i0), ∀ i0 < z.l.nR, rf (z.l.nP i0) ∧ (∀ i1 < z.l.nP i0, rf (z.l.P i0 i1)), ∀ i0 < z.l.nR, rf (z.l.nQ i0) ∧ (∀ i1 < z.l.nQ i0, rf (z.l.Q i0 i1)), x23 z]
abbrev x27 := DV.val (Value.agg (Array.mk [Value.int IntKind.i64 (totO z.nB z.B z.l z.l.nR), Value.int IntKind.i64 (totB z.l z.l.nR)]))
abbrev x28 := pvB z.b z.nB z.B z.nO z.O z.W z.G z.p
abbrev xt : VT := VT.need [FnC prog 33 [bld z.b] (DV.lst (z.b.N 0) [fun i0 => dI (z.b.X 0 i0), fun i0 => dI (z.b.Y 0 i0)])] (x15 z (8:Int) (decide ((z.p.nT:Int) > (4001:Int))) (VT.need (x17 :: i64In (x0 z + 1) :: x3 (x24 z x18 (x3 (x24 z (i64In (x0 z + 1)) [x16 (x9 z) (x9 z)]) (x9 z))) (x9 z)) (x15 z (11:Int) (x4 (x9 z) ((z.p.n1:Int) != x0 z + 1)) (VT.need (FnC prog 38 (x19 z [x21 z]) (dB (x2 z)) :: x11 z (x11 z (((!(!(x2 z))) = true → x17) :: x11 z (x11 z (x11 z (x11 z (x11 z (((!(!(x2 z))) = true → x25 z (x6 z) [DV.lst z.p.n0 [fun i0 => dI (z.p.A0 i0), fun i0 => dI (z.p.A1 i0)], dI 0]) :: x11 z (x16 (!(x2 z)) (!(x2 z)) :: x3 (x3 (((!(x7 z)) = true → x18) :: x3 (x3 (x3 (x3 (x3 (((!(x7 z)) = true → x25 z (x28 z) [DV.lst z.p.n1 [fun i0 => dI (z.p.B0 i0), fun i0 => dI (z.p.B1 i0)], dI 1]) :: x3 [x16 (x7 z) (x7 z)] (x7 z)) (x7 z)) (x7 z)) (x7 z)) (x7 z)) (x7 z)) (x7 z)) (x7 z)))))))))) (x15 z (25:Int) (x4 (x7 z) (!(x28 z))) (VT.need [x17, 0 ≤ x0 z ∧ x0 z < (z.p.n0:Int), x17] (VT.cut PUnit (fun (i0 : PUnit) => x23 z) (VT.need [x18, 0 ≤ x0 z ∧ x0 z < (z.p.n1:Int), x18] (VT.need (x3 (x3 (ri (x20 z) :: ri (x20 z) :: x3 [(!(x10 z)) = true → x13 z = true → x20 z, x16 (x10 z) (x10 z)] (x10 z)) (x10 z)) (x10 z)) (VT.ite (x4 (x10 z) (if (x13 z) = true then (decide ((x12 z) < (x8 z))) else false)) (VT.done (x26 z (x12 z))) (VT.done (x26 z (x8 z)))))) (fun (i0 : PUnit) => VT.need [FnC prog 21 (x19 z [DV.agg [x5 z.l.nC (fun i0 => dI (z.l.C i0)), DV.lst z.l.nR [fun i0 => dI (z.l.F i0), fun i0 => dI (z.l.SX i0), fun i0 => dI (z.l.SY i0), fun i0 => dI (z.l.Ln i0), fun i0 => x5 (z.l.nP i0) (fun i1 => dI (z.l.P i0 i1)), fun i0 => x5 (z.l.nQ i0) (fun i1 => dI (z.l.Q i0 i1))]]]) (x27 z), FnC prog 40 [x27 z] (dI (pvK z.nB z.B z.l))] (x15 z (25:Int) (x22 z != pvK z.nB z.B z.l) (VT.done (x14 z (0:Int))))))))))))
end
end w48
open w48 in
theorem proofR_c (b : Bld) (nB : Nat) (B : Nat → Int) (nO : Nat) (O : Nat → Int) (W G L : Int) (l : Lyt) (p : Prf) (ht : tidOk l) (h0 : arE b nB B nO O W G L = 0) (hp : prfIn p) (hT : p.nT ≤ 1000000) : FnC prog 10 [bld b, Lay.sys nB B nO O W G L, lyt l, prf p] (dI (pvE b nB B nO O W G l p)) := by
  refine FnC_owed hmix (A10_proofR_c b nB B nO O W G L l p) (V := xt ⟨b, nB, B, nO, O, W, G, L, l, p⟩) (by kernel_rfl) ?_
  simp only [xt, x0, x1, x2, x3, x4, x5, x6, x7, x8, x9, x10, x11, x12, x13, x14, x15, x16, x17, x18, x19, x20, x21, x22, x23, x24, x25, x26, x27, x28, Rf, VT.holds, AllT, Sq]
  obtain ⟨hc, hs, _, _, _, _, _⟩ := ar_zero h0
  obtain ⟨b1, b2, b3, b4, b5⟩ := b0_ok hc
  have hn4 := chk_n b2
  obtain ⟨hX, hY⟩ := chk_inB b2
  have g1 := (sys_wgl hs).1
  obtain ⟨ue, u1, u2⟩ := u_bd hs
  obtain ⟨p1, p2, p3, p4, p5⟩ := hp
  have kb := pvK_bd (nB := nB) (B := B) ht
  have e1 : ∀ x y : Int, [x, y].getD 0 0 = x := fun _ _ => rfl
  have e2 : ∀ x y : Int, [x, y].getD (Int.toNat 1) 0 = y := fun _ _ => rfl
  simp only [e1, e2]
  refine ⟨first_c b b1, fun h => pv_1 (by omega), fun h => ⟨⟨by omega, by unfold i64In; omega, fun _ => by omega, fun _ => by unfold i64In; omega⟩, fun h2 => pv_2 (by omega) (by omega), fun h2 => ?_⟩⟩
  have f1 : p.n0 = b.N 0 + 1 := by omega
  have f2 : p.n1 = b.N 0 + 1 := by omega
  rw [f1] at p2 p3
  rw [f2] at p4 p5
  refine ⟨⟨tableRight_c nB B nO O W G L p.nT p.T hs p1 hT, fun _ => by omega, fun _ => ?_, fun _ => by omega, fun _ => ?_⟩, fun h3 => pv_3 (by omega) ⟨f1, f2⟩ (pv_bad h3), fun h3 => ?_⟩
  · rw [f1]; exact ringRight_c b nB B nO O W G L p.nT p.T p.A0 p.A1 0 h0 p1 hT p2 p3 (by omega)
  · rw [f2]; exact ringRight_c b nB B nO O W G L p.nT p.T p.B0 p.B1 1 h0 p1 hT p4 p5 (by omega)
  have hall : pvP b nB B nO O W G p = true := by
    rw [pv_all]
    refine ⟨?_, ?_, h3.2⟩
    · cases hq : pvC b nB B nO O p with
      | true => rfl
      | false => exact absurd (.inl hq) h3.1
    · cases hq : pvA b nB B nO O W G p with
      | true => rfl
      | false => exact absurd (.inr hq) h3.1
  refine ⟨by omega, ⟨by omega, fun h4 h5 => ⟨h4, h5⟩, fun h4 => ⟨?_, by omega, f1, f2, hall⟩, fun h4 => ⟨?_, by omega, f1, f2, hall⟩⟩, fun _ ⟨i1, i2, i3, i4⟩ => ⟨⟨totalR_c nB B nO O W G L l hs ht, codeR_c _ _ kb.2.2.1 kb.2.2.2⟩, pv_4 (by omega) ⟨i2, i3⟩ i4 rfl⟩⟩
  · rw [pvL, if_pos (by omega)]
  · rw [pvL, if_neg (by omega)]
section
variable {b : Bld} {nB : Nat} {B : Nat → Int} {nO : Nat} {O : Nat → Int} {W G L : Int} {l : Lyt} {p : Prf}
theorem pvR_1 (h : laE b nB B nO O W G L l ≠ 0) : pvR b nB B nO O W G L l p = laE b nB B nO O W G L l := by rw [pvR, if_pos h]
theorem pvR_2 (h : laE b nB B nO O W G L l = 0) : pvR b nB B nO O W G L l p = pvE b nB B nO O W G l p := by rw [pvR, if_neg (fun hx => hx h)]
theorem proof_tc (b : Bld) (nB : Nat) (B : Nat → Int) (nO : Nat) (O : Nat → Int) (W G L : Int) (l : Lyt) (p : Prf) (hN : ∀ i, i < b.nS → b.N i ≤ 1000) (ht : tidOk l) (hp : prfIn p) (hT : p.nT ≤ 1000000) :
    FnC prog 12 [bld b, Lay.sys nB B nO O W G L, lyt l, prf p] (dI (pvR b nB B nO O W G L l p)) := by
  by_cases h : laE b nB B nO O W G L l = 0
  · obtain ⟨h1, h2⟩ := laE_zero h
    rw [pvR_2 h]
    exact proofB_c b nB B nO O W G L l p hN ht h1 h2 hp hT
  · rw [pvR_1 h]
    exact proofA_c b nB B nO O W G L l p hN ht h
end
end Go.Abs
