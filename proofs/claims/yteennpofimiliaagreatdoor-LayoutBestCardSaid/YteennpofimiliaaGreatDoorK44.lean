/- Contracts. Contracts. -/
import Derived.Test.YteennpofimiliaaGreatDoorK42
section
set_option linter.unusedVariables false
set_option linter.unusedSimpArgs false
set_option maxRecDepth 100000
namespace Go.Abs
open Go
abbrev plB (i : Nat) : Int := [1000, 2500].getD i 0
abbrev plO (_ : Nat) : Int := 500
abbrev plain : DV := Lay.sys 2 plB 1 plO 700 300 2000
def plT (k : Nat) : Int := [0, 10000, 10001, 20001, 20002, 1, 10001].getD k 0
def rPlain : Orc := .res fun _ => plain
theorem plain_sys : Lay.sysE 2 plB 1 plO 700 300 2000 = 0 := by decide +kernel
theorem plain_unit : Lay.unitP 2 plB 1 plO 3 = 500 := by decide +kernel
theorem plain_meas (len : Int) (h : 0 ≤ len) (h2 : len ≤ 2000000) : Lay.measE 2 plB 1 plO 700 300 2000 len = 0 := by
  rw [Lay.measE, if_pos plain_sys, plain_unit, if_neg (by omega), if_neg (by omega)]
theorem plain_ways : Lay.waysS 2 plB 1 plO 2000 = 3 := by decide +kernel
theorem plain_tab : ∀ k, k < 7 → Lay.tabS 2 plB 1 plO k = plT k := by decide +kernel
abbrev jobD (b : Bld) (nB : Nat) (B : Nat → Int) (nO : Nat) (O : Nat → Int) (W G L : Int) : DV := .agg [.val (.string b.name), .lst b.nS (stoC b), dI b.roof, .lst b.nO (opeC b), .lst b.nB (boxC b), Lay.nums nB B, Lay.nums nO O, dI W, dI G, dI L]
def jobS (b : Bld) (nB nO : Nat) : Bool := smallF b && decide (nB ≤ 12 ∧ nO ≤ 12)
theorem jobS_ok {b : Bld} {nB nO : Nat} (h : jobS b nB nO = true) : (b.nS ≤ 25 ∧ b.nO ≤ 105 ∧ b.nB ≤ 55 ∧ ∀ i, i < b.nS → b.N i ≤ 45) ∧ nB ≤ 12 ∧ nO ≤ 12 := by
  unfold jobS at h
  rw [Bool.and_eq_true, decide_eq_true_eq] at h
  exact ⟨small_ok h.1, h.2⟩
noncomputable def A8_awakeJ_c  : Ann := { orc := [(1, [(0, rPlain), (1, .res fun _ => .tup [Lay.nums 7 (Lay.tabS 2 plB 1 plO), dI 0])]), (2, [(0, rPlain), (1, .res fun _ => .tup [dI 3, dI 0])]), (3, [(0, rPlain), (4, .res fun _ => .tup [dP 2 2, dI 0])]), (4, [(5, .res fun _ => dB true)])], loops := [], cuts := [] }
namespace w3d
noncomputable section
variable (i0 : Nat) (p : Prop) (P : List Prop) (g h : Bool) (E : List DV) (U : VT) (j10a : Nat → DV)
abbrev x0 := if g = true then h else false
abbrev x1 := (0:Int) == (0:Int)
abbrev x2 : List Prop := ri (g = true) :: P
abbrev x3 := x0 (x0 x1 true) x1
abbrev x4 := List.getD [(1000:Int), (2500:Int)] i0 0
abbrev x5 := DV.agg (DV.lst 2 [j10a] :: DV.lst 1 [fun i0 => dI 500] :: E)
abbrev x6 := x5 [dI 700, dI 300, dI 2000] (fun i0 => dI (x4 i0))
abbrev x7 := x0 (x0 x3 ((3:Int) == (3:Int))) x1
abbrev x8 := VT.need [FnC prog 25 [] x6, p] U
abbrev x9 := ((2:Int) == (2:Int)) && g
abbrev x10 := x2 P (x0 x3 ((3:Int) == (3:Int)))
abbrev x11 := fun (i0 : Nat) => dI (Lay.tabS 2 (fun i0 => x4 i0) 1 (fun i0 => (500:Int)) i0)
abbrev xt : VT := x8 (FnC prog 24 [x6, dI 3000] (DV.tup [DV.lst 7 [x11], dI 0])) (x8 (FnC prog 26 [x6, dI 2000] (DV.tup [dI 3, dI 0])) (VT.need [FnC prog 25 [] x6, (2:Nat) ≤ (2:Nat), (1:Nat) ≤ (1:Nat), FnC prog 27 [x6, x5 [] (fun i0 => dI (List.getD [(2500:Int), (1000:Int)] i0 0))] (DV.tup [DV.val (Value.agg (Array.mk [Value.int IntKind.i64 2, Value.int IntKind.i64 2])), dI 0])] (VT.need ((x1 = true) :: x2 (x2 ((x1 = true → (7:Nat) ≤ (7:Nat)) :: (x1 = true → FnC prog 28 [DV.lst 7 [x11], DV.lst 7 [fun i0 => dI (List.getD [(0:Int), (10000:Int), (10001:Int), (20001:Int), (20002:Int), (1:Int), (10001:Int)] i0 0)]] (dB true)) :: x2 (x2 (x2 (x2 (x2 (x10 (x10 (x2 (x2 (x2 [] x7) x7) x7))) x3) x3) (x0 x1 true)) (x0 x1 true)) x1) x1) x1) (VT.done [x0 x7 (x9 (x9 true)) = true]))))
end
end w3d
open w3d in
theorem awakeJ_c   : FnC prog 5 [] (dB true) := by
  refine FnC_owed hmix (A8_awakeJ_c ) (V := xt) (by kernel_rfl) ?_
  simp only [xt, x0, x1, x2, x3, x4, x5, x6, x7, x8, x9, x10, x11, Rf, VT.holds, AllT, Sq]
  have p := Lay.plain_c
  have t := Lay.tableTop_c 2 plB 1 plO 700 300 2000 3000
  have w := Lay.waysTop_c 2 plB 1 plO 700 300 2000 2000
  have c := Lay.costTop_c 2 plB 1 plO 700 300 2000 2 (fun a => [2500, 1000].getD a 0) 1 (fun _ => 500) (by omega) (by omega)
  rw [show Lay.tabN 2 plB 1 plO 700 300 2000 3000 = 7 by rw [Lay.tabN, if_pos (plain_meas _ (by omega) (by omega)), plain_unit]; rfl, plain_meas _ (by omega) (by omega)] at t
  rw [show Lay.waysE 2 plB 1 plO 700 300 2000 2000 = 0 by rw [Lay.waysE, if_pos (plain_meas _ (by omega) (by omega)), plain_unit, if_pos (by decide), plain_ways]; rfl,
    show Lay.waysV 2 plB 1 plO 700 300 2000 2000 = 3 by rw [Lay.waysV, if_pos (plain_meas _ (by omega) (by omega)), plain_unit, if_pos (by decide), plain_ways]; rfl] at w
  have hb : Lay.bothE 2 plB 1 plO 700 300 2000 2 (fun a => [2500, 1000].getD a 0) 1 (fun _ => 500) = 0 := by decide +kernel
  rw [hb, if_pos rfl, if_pos rfl] at c
  have hi := Lay.ints_c 7 (Lay.tabS 2 plB 1 plO) 7 plT (by omega)
  rw [show Lay.sameN 7 (Lay.tabS 2 plB 1 plO) 7 plT = true from decide_eq_true ⟨rfl, plain_tab⟩] at hi
  exact ⟨⟨p, t⟩, ⟨p, w⟩, ⟨p, Nat.le_refl _, Nat.le_refl _, c⟩, fun _ => Nat.le_refl _, fun _ => hi⟩
noncomputable def A9_jobSmall_c (b : Bld) (nB : Nat) (B : Nat → Int) (nO : Nat) (O : Nat → Int) (W G L : Int) : Ann := { orc := [(1, [(2, .res fun _ => dB (smallF b)), (6, .res fun _ => dB (decide (nB ≤ 12 ∧ nO ≤ 12)))])], loops := [], cuts := [] }
theorem jobSmall_c (b : Bld) (nB : Nat) (B : Nat → Int) (nO : Nat) (O : Nat → Int) (W G L : Int)  : FnC prog 6 [jobD b nB B nO O W G L] (dB (jobS b nB nO)) := by
  refine FnC_owed hmix (A9_jobSmall_c b nB B nO O W G L) (V := .need [FnC prog 29 [(bld b)] ((dB (smallF b))), smallF b = true → smallF b = true, smallF b = true → smallF b = true, smallF b = true → FnC prog 30 [.agg [.lst nB [fun i => (dI (B i))], .lst nO [fun i => (dI (O i))], (dI W), (dI G), (dI L)]] ((dB (decide (nB ≤ (12:Nat) ∧ nO ≤ (12:Nat))))), smallF b = true → smallF b = true] (.done [(if smallF b = true then decide (nB ≤ (12:Nat) ∧ nO ≤ (12:Nat)) else false) = jobS b nB nO])) (by kernel_rfl) ?_
  simp only [VT.holds, AllT, Sq]
  exact ⟨⟨small_c b, fun _ => Lay.few_c nB B nO O W G L⟩, rfl⟩
noncomputable def A13_jobRing_c (b : Bld) (nB : Nat) (B : Nat → Int) (nO : Nat) (O : Nat → Int) (W G L : Int) : Ann := { orc := [(1, [(4, .res fun _ => dI (arE b nB B nO O W G L))])], loops := [], cuts := [] }
theorem jobRing_c (b : Bld) (nB : Nat) (B : Nat → Int) (nO : Nat) (O : Nat → Int) (W G L : Int) (hN : ∀ i, i < b.nS → b.N i ≤ 1000) : FnC prog 8 [jobD b nB B nO O W G L] (dI (arE b nB B nO O W G L)) := by
  refine FnC_owed hmix (A13_jobRing_c b nB B nO O W G L) (V := .need [FnC prog 32 [(bld b), .agg [.lst nB [fun i => (dI (B i))], .lst nO [fun i => (dI (O i))], (dI W), (dI G), (dI L)]] ((dI (arE b nB B nO O W G L)))] (.done [arE b nB B nO O W G L = arE b nB B nO O W G L])) (by kernel_rfl) ?_
  simp only [VT.holds, AllT, Sq]
  exact checkRingR_c b nB B nO O W G L hN
end Go.Abs
end
section
set_option linter.unusedVariables false
set_option linter.unusedSimpArgs false
set_option maxRecDepth 100000
namespace Go.Abs
open Go
def bad01 (x : Int) : Bool := !Lay.inR x 0 1
def rArE (b : Bld) (nB : Nat) (B : Nat → Int) (nO : Nat) (O : Nat → Int) (W G L : Int) : Orc := .res fun _ => .tup [.any, dI (arE b nB B nO O W G L)]
def rArO (b : Bld) (nB : Nat) (B : Nat → Int) (nO : Nat) (O : Nat → Int) (W G L : Int) : Orc := .res fun _ => .tup [ringD b nB B nO O W G L, dI 0]
section
variable {b : Bld} {nB : Nat} {B : Nat → Int} {nO : Nat} {O : Nat → Int} {W G L i : Int} {m : Nat} {C : Nat → Int}
end
noncomputable def A43_aroundO_c (b : Bld) (nB : Nat) (B : Nat → Int) (nO : Nat) (O : Nat → Int) (W G L : Int) : Ann := { orc := [(1, [(1, rChkB b)]), (4, [(1, .res fun _ => .tup [Lay.catE nB B nO O W G L, dI (Lay.sysE nB B nO O W G L)])]), (9, [(4, .pos)]), (15, [(2, rOfs)]), (20, [(2, rWaK)]), (21, [(2, rCoK)]), (27, [(2, rRbx b G W L)]), (31, [(2, rOver)])], loops := [(1, { ι := Nat, keep := [2, 3, 7, 9, 60], boxes := [2, 3, 7], ts := fun _ i => [(61, dI (i : Int))], inv := fun _ i => i ≤ 2, mu := fun _ i => 2 - i, rd := fun _ σ => (iOf (σ.get 61)).toNat }), (3, { ι := Nat, keep := [2, 14, 109], boxes := [2, 14], ts := fun _ i => [(110, dI (i : Int))], inv := fun _ i => i ≤ b.N 0, mu := fun _ i => b.N 0 - i, rd := fun _ σ => (iOf (σ.get 110)).toNat }), (5, { ι := Nat, keep := [2, 14, 109, 110, 15, 16, 117, 118], boxes := [2, 14, 16], ts := fun _ j => [(119, dI (j : Int))], inv := fun σ j => j ≤ b.nB, mu := fun _ j => b.nB - j, rd := fun _ σ => (iOf (σ.get 119)).toNat })], cuts := [] }
namespace w3g
noncomputable section
structure Z where
  b : Bld
  nB : Nat
  B : Nat → Int
  nO : Nat
  O : Nat → Int
  W : Int
  G : Int
  L : Int
variable (z : Z) (i0 i1 : Nat) (p : Prop) (P : List Prop) (a : Int) (k : Nat) (g : Bool) (A : DV) (E : List DV) (U : VT) (j13a : Nat → Prop) (j14a : Nat → VT) (j19a : List Value)
abbrev x0 := Int.toNat 0
abbrev x1 := z.b.N x0
abbrev x2 : Int := (i0:Int)
abbrev x3 := i0 < z.b.nB → rf (z.b.B i0 k)
abbrev x4 := i0 < z.b.nO → rf (z.b.O i0 k)
abbrev x5 := i0 < x1 z → rf a
abbrev x6 := Lay.catN z.nB z.B z.nO z.O z.W z.G z.L
abbrev x7 := z.b.B (Int.toNat (i1:Int)) k
abbrev x8 : List Value := Value.int IntKind.i64 a :: j19a
abbrev x9 := VT.need [p] U
abbrev x10 : List Prop := rf z.b.nB :: (∀ (i0 : Nat), x3 z i0 (0:Nat)) :: (∀ (i0 : Nat), x3 z i0 (1:Nat)) :: (∀ (i0 : Nat), x3 z i0 (2:Nat)) :: (∀ (i0 : Nat), x3 z i0 (3:Nat)) :: (∀ (i0 : Nat), x3 z i0 (4:Nat)) :: (∀ (i0 : Nat), x3 z i0 (5:Nat)) :: P
abbrev x11 : List Prop := rf z.b.name :: rf z.b.nS :: (∀ i0 < z.b.nS, rf (z.b.fl i0)) :: (∀ i0 < z.b.nS, rf (z.b.N i0) ∧ (∀ i1 < z.b.N i0, rf (z.b.X i0 i1)) ∧ (∀ i1 < z.b.N i0, rf (z.b.Y i0 i1))) :: rf z.b.roof :: rf z.b.nO :: (∀ (i0 : Nat), x4 z i0 (0:Nat)) :: (∀ (i0 : Nat), x4 z i0 (1:Nat)) :: (∀ (i0 : Nat), x4 z i0 (2:Nat)) :: (∀ (i0 : Nat), x4 z i0 (3:Nat)) :: (∀ (i0 : Nat), x4 z i0 (4:Nat)) :: (∀ (i0 : Nat), x4 z i0 (5:Nat)) :: x10 z P
abbrev x12 := Lay.catU z.nB z.B z.nO z.O z.W z.G z.L
abbrev x13 := z.b.X x0 (ix (x1 z) (x2 i0 + 1))
abbrev x14 := z.b.Y x0 (ix (x1 z) (x2 i0 + 1))
abbrev x15 := ∀ i0 < x6 z, rf (Lay.pCode z.nB i0)
abbrev x16 := topH z.b.roof z.L
abbrev x17 := ∀ i0 < x6 z, rf (decide (z.nB ≤ i0))
abbrev x18 := VT.ite g (VT.done [False, a = 0]) U
abbrev x19 := lenW (x1 z) (z.b.X x0) (z.b.Y x0) (x2 i0)
abbrev x20 := dD (x1 z) (z.b.X x0) (z.b.Y x0) (x2 i0)
abbrev x21 := cor (x1 z) (z.b.X x0) (z.b.Y x0) i0
abbrev x22 := x11 z (rf z.nB :: (∀ i0 < z.nB, rf (z.B i0)) :: rf z.nO :: (∀ i0 < z.nO, rf (z.O i0)) :: rf z.W :: rf z.G :: rf z.L :: rf (↑(x12 z) : Int) :: rf (x6 z) :: (∀ i0 < x6 z, rf (Lay.pLen z.nB z.B z.nO z.O i0)) :: P)
abbrev x23 := ruX1 (z.b.N 0) (z.b.X 0) (z.b.Y 0) z.G z.W (x2 i0) 1 0
abbrev x24 := ruY1 (z.b.N 0) (z.b.X 0) (z.b.Y 0) z.G z.W (x2 i0) 1 0
abbrev x25 := ruX2 (z.b.N 0) (z.b.X 0) (z.b.Y 0) z.G z.W (x2 i0) 1 0
abbrev x26 := ruY2 (z.b.N 0) (z.b.X 0) (z.b.Y 0) z.G z.W (x2 i0) 1 0
abbrev x27 := Int.toNat (x2 i0 + 1)
abbrev x28 := x8 (x7 z i1 k) j19a
abbrev x29 : List Prop := p :: rf (x1 z) :: (∀ (i0 : Nat), x5 z i0 (z.b.X x0 i0)) :: (∀ (i0 : Nat), x5 z i0 (z.b.Y x0 i0)) :: P
abbrev x30 := DV.tup [A, dI a]
abbrev x31 := ∀ (i0 : Nat), x5 z i0 (x21 z i0)
abbrev x32 : List Prop := p :: rf (↑(x1 z) : Int) :: P
abbrev x33 := x11 z (x22 z (x15 z :: x29 z (x17 z) ((∀ (i0 : Nat), x5 z i0 (x13 z i0)) :: (∀ (i0 : Nat), x5 z i0 (x14 z i0)) :: (∀ (i0 : Nat), x5 z i0 (x19 z i0)) :: (∀ (i0 : Nat), x5 z i0 (x20 z i0)) :: rf (x1 z) :: P)))
abbrev x34 := Int.toNat ((i1:Int) + 1)
abbrev x35 := DV.val (Value.agg (Array.mk j19a))
abbrev x36 := DV.lst (x1 z) [fun i0 => dI (z.b.X x0 i0), fun i0 => dI (z.b.Y x0 i0)]
abbrev x37 := List.getD [z.G, z.G + z.W] (Int.toNat (x2 i0)) 0
abbrev x38 := Lay.sysE z.nB z.B z.nO z.O z.W z.G z.L
abbrev x39 := DV.lst (x1 z) [fun i0 => dI (x21 z i0)]
abbrev x40 := x29 z p (rf z.G :: rf (z.G + z.W) :: P)
abbrev x41 := VT.loop Nat j13a x0 (x32 z (0 = (x0:Int)) P) j14a
abbrev x42 := x9 (i64In (x2 i0 + 1)) (VT.done P)
abbrev x43 := x2 i0 + 1 = (↑(x27 i0) : Int)
abbrev x44 := FnC prog k [x36 z] (x30 (0:Int) A)
abbrev x45 := DV.lst (x6 z) [fun i0 => dI (Lay.pLen z.nB z.B z.nO z.O i0), fun i0 => dI (Lay.pCode z.nB i0), fun i0 => dB (decide (z.nB ≤ i0))]
abbrev x46 := DV.lst (x1 z) [fun i0 => dI (z.b.X x0 i0), fun i0 => dI (z.b.Y x0 i0), fun i0 => dI (x13 z i0), fun i0 => dI (x14 z i0), fun i0 => dI (x19 z i0), fun i0 => dI (x20 z i0)]
abbrev x47 : List Prop := rf (x2 i0) :: rf (x2 i0) :: x10 z (rf (z.b.nB:Int) :: x33 z (x31 z :: rf (x23 z i0) :: rf (x24 z i0) :: rf (0:Int) :: rf (x25 z i0) :: rf (x26 z i0) :: rf (x16 z) :: P))
abbrev x48 := x35 (x8 (x23 z i0) (x8 (x24 z i0) (x8 (0:Int) (x8 (x25 z i0) (x8 (x26 z i0) (x8 (x16 z) []))))))
abbrev x49 := ofE (x1 z) (z.b.X x0) (z.b.Y x0) (x37 z i0)
abbrev x50 : List DV := DV.lst z.nB [fun i0 => dI (z.B i0)] :: DV.lst z.nO [fun i0 => dI (z.O i0)] :: dI z.W :: dI z.G :: E
abbrev x51 := isO (x23 z i0) (x24 z i0) 0 (x25 z i0) (x26 z i0) (x16 z) (x7 z i1 (0:Nat)) (x7 z i1 (1:Nat)) (x7 z i1 (2:Nat)) (x7 z i1 (3:Nat)) (x7 z i1 (4:Nat)) (x7 z i1 (5:Nat))
abbrev xt : VT := x9 (FnC prog 80 [bld z.b] (dI (chkB z.b))) (x18 (chkB z.b) (chkB z.b != 0) (x9 (FnC prog 81 [DV.agg (x50 z [dI z.L])] (x30 (x38 z) (DV.agg [dI (↑(x12 z) : Int), x45 z]))) (x18 (x38 z) (x38 z != 0) (x18 (2:Int) (decide (z.b.roof < z.L)) (x9 (0 ≤ z.b.roof ∧ 0 < z.L ∧ z.b.roof ≤ 9223372036854775807) (x18 (8:Int) (decide ((z.b.roof / z.L) > (40:Int))) (x9 ((0:Int) ≤ (0:Int) ∧ 0 < (z.b.nS:Int)) (x9 (i64In (z.G + z.W)) (VT.loop Nat (fun i0 => i0 ≤ 2) x0 (x40 z (0 = (x0:Int)) (x22 z [x15 z, x17 z])) (fun i0 => VT.ite (decide ((x2 i0) < (2:Int))) (x9 (0 ≤ x2 i0 ∧ x2 i0 < (↑(2:Nat) : Int)) (x9 (FnC prog 82 [x36 z, dI (x37 z i0)] (x30 (x49 z i0) DV.any)) (x18 (12:Int) (x49 z i0 != 0) (x42 i0 (x40 z (x43 i0) (x22 z [x15 z, x17 z, x27 i0 ≤ 2, 2 - x27 i0 < 2 - i0])))))) (x9 (x44 z (83:Nat) (x46 z)) (x9 (x44 z (84:Nat) (x39 z)) (x18 (12:Int) ((↑(x1 z) : Int) != (↑(x1 z) : Int)) (x41 z (x33 z [x31 z]) (fun i0 => i0 ≤ z.b.N 0) (fun i0 => VT.ite (decide ((x2 i0) < (↑(x1 z) : Int))) (x9 (FnC prog 85 [DV.cptr (DV.val (Value.string z.b.name) :: DV.lst z.b.nS [fun i0 => dI (z.b.fl i0), fun i0 => DV.lst (z.b.N i0) [fun i1 => dI (z.b.X i0 i1), fun i1 => dI (z.b.Y i0 i1)]] :: dI z.b.roof :: DV.lst z.b.nO [fun i0 => dI (z.b.O i0 0), fun i0 => dI (z.b.O i0 1), fun i0 => dI (z.b.O i0 2), fun i0 => dI (z.b.O i0 3), fun i0 => dI (z.b.O i0 4), fun i0 => dI (z.b.O i0 5)] :: DV.lst z.b.nB [fun i0 => dI (z.b.B i0 0), fun i0 => dI (z.b.B i0 1), fun i0 => dI (z.b.B i0 2), fun i0 => dI (z.b.B i0 3), fun i0 => dI (z.b.B i0 4), fun i0 => dI (z.b.B i0 5)] :: x50 z [dI z.L, dI (↑(x12 z) : Int), x45 z, x46 z, x39 z]), dI (x2 i0), dI 1, dI 0] (x48 z i0)) (x41 z (x47 z i0 []) (fun i0 => i0 ≤ z.b.nB) (fun i1 => VT.ite (decide ((i1:Int) < (z.b.nB:Int))) (x9 (0 ≤ (i1:Int) ∧ (i1:Int) < (z.b.nB:Int)) (x9 (FnC prog 86 [x48 z i0, x35 (x28 z i1 (0:Nat) (x28 z i1 (1:Nat) (x28 z i1 (2:Nat) (x28 z i1 (3:Nat) (x28 z i1 (4:Nat) (x28 z i1 (5:Nat) []))))))] (x30 (erB (x23 z i0) (x24 z i0) 0 (x25 z i0) (x26 z i0) (x16 z) (x7 z i1 (0:Nat)) (x7 z i1 (1:Nat)) (x7 z i1 (2:Nat)) (x7 z i1 (3:Nat)) (x7 z i1 (4:Nat)) (x7 z i1 (5:Nat))) (dB (x51 z i0 i1)))) (x18 (12:Int) (x51 z i0 i1) (x9 (i64In ((i1:Int) + 1)) (VT.done (x32 z ((i1:Int) + 1 = (↑(x34 i1) : Int)) (x47 z i0 [x34 i1 ≤ z.b.nB, z.b.nB - x34 i1 < z.b.nB - i1]))))))) (x42 i0 (x32 z (x43 i0) (x33 z [x31 z, x27 i0 ≤ z.b.N 0, z.b.N 0 - x27 i0 < z.b.N 0 - i0])))))) (VT.done (x22 z [x15 z, x17 z, x1 z = z.b.N 0, ∀ i0 < z.b.N 0, z.b.X x0 i0 = z.b.X 0 i0, ∀ i0 < z.b.N 0, z.b.Y x0 i0 = z.b.Y 0 i0, ∀ i0 < z.b.N 0, x13 z i0 = z.b.X 0 (ix (z.b.N 0) (x2 i0 + 1)), ∀ i0 < z.b.N 0, x14 z i0 = z.b.Y 0 (ix (z.b.N 0) (x2 i0 + 1)), ∀ i0 < z.b.N 0, x19 z i0 = lenW (z.b.N 0) (z.b.X 0) (z.b.Y 0) (x2 i0), ∀ i0 < z.b.N 0, x20 z i0 = dD (z.b.N 0) (z.b.X 0) (z.b.Y 0) (x2 i0), x1 z = z.b.N 0, ∀ i0 < z.b.N 0, x21 z i0 = cor (z.b.N 0) (z.b.X 0) (z.b.Y 0) i0, rf (0:Int)])))))))))))))))))
end
end w3g
open w3g in
theorem aroundO_c (b : Bld) (nB : Nat) (B : Nat → Int) (nO : Nat) (O : Nat → Int) (W G L : Int) (hN : ∀ i, i < b.nS → b.N i ≤ 1000) (h0 : arE b nB B nO O W G L = 0) : FnC prog 49 [bld b, Lay.sys nB B nO O W G L] (.tup [ringD b nB B nO O W G L, dI 0]) := by
  refine FnC_owed hmix (A43_aroundO_c b nB B nO O W G L) (V := xt ⟨b, nB, B, nO, O, W, G, L⟩) (by kernel_rfl) ?_
  simp only [xt, x0, x1, x2, x3, x4, x5, x6, x7, x8, x9, x10, x11, x12, x13, x14, x15, x16, x17, x18, x19, x20, x21, x22, x23, x24, x25, x26, x27, x28, x29, x30, x31, x32, x33, x34, x35, x36, x37, x38, x39, x40, x41, x42, x43, x44, x45, x46, x47, x48, x49, x50, x51, Rf, VT.holds, AllT, Sq]
  obtain ⟨hc, hs, h3, h4, e1, e2, hk⟩ := ar_zero h0
  obtain ⟨b1, b2, b3, b4, b5⟩ := b0_ok hc
  obtain ⟨g1, g2, g3⟩ := sys_wgl hs
  have hg := g1
  unfold gwOk at hg
  have hn := chk_n b2
  obtain ⟨hX, hY⟩ := chk_inB b2
  refine ⟨check_b b hN, fun h => absurd hc h, fun _ => ⟨Lay.opened_c nB B nO O W G L, fun h => absurd hs h, fun _ => ⟨fun h => absurd h h3, fun _ => ⟨by omega, fun h => absurd h h4, fun _ => ⟨by omega, by unfold i64In; omega, rfl, by omega, fun i hi => ⟨fun hlt => ?_, fun hge => ?_⟩⟩⟩⟩⟩⟩
  · have hcase : i = 0 ∨ i = 1 := by omega
    have hd : (0 ≤ gwF G W i ∧ gwF G W i ≤ 1000000) ∧ ofE (b.N 0) (b.X 0) (b.Y 0) (gwF G W i) = 0 := by
      rcases hcase with rfl | rfl
      · exact ⟨show 0 ≤ G ∧ G ≤ 1000000 by omega, e1⟩
      · exact ⟨show 0 ≤ G + W ∧ G + W ≤ 1000000 by omega, e2⟩
    exact ⟨by omega, offset_c _ _ _ _ b2 hd.1, fun h => absurd hd.2 h, fun h => ⟨by unfold i64In; omega, rfl, by omega, by omega⟩⟩
  · refine ⟨walls_k b2, corners_k b2, fun h => absurd trivial h, fun _ => ⟨rfl, Nat.zero_le _, fun i hi hlt => ?_⟩⟩
    refine ⟨ringBox_c _ _ _ _ _ _ _ _ _ _ _ _ _ _ _ _ _ _ (by omega) (by omega) hX hY g1 (by omega) (by omega) ⟨b3, b4⟩ ⟨g2, g3⟩, rfl, Nat.zero_le _, fun j hj => ⟨fun hlt2 => ?_, fun hge2 => ⟨by unfold i64In; omega, rfl, by omega, by omega⟩⟩⟩
    rw [ring_over hc hs h4 e1 e2 (i := i) (j := j) (by omega) (by omega)]
    have hb : ringBad b G W L i j = false := by
      unfold ringOk at hk
      rw [decide_eq_true_eq] at hk
      exact hk i (by omega) j (by omega)
    refine ⟨by omega, ?_, fun h => (by rw [hb] at h; cases h), fun h => ⟨by unfold i64In; omega, rfl, by omega, by omega⟩⟩
    have := overlap_c (ruX1 (b.N 0) (b.X 0) (b.Y 0) G W i 1 0) (ruY1 (b.N 0) (b.X 0) (b.Y 0) G W i 1 0) 0 (ruX2 (b.N 0) (b.X 0) (b.Y 0) G W i 1 0) (ruY2 (b.N 0) (b.X 0) (b.Y 0) G W i 1 0) (topH b.roof L) (b.B j 0) (b.B j 1) (b.B j 2) (b.B j 3) (b.B j 4) (b.B j 5)
    rw [ring_over hc hs h4 e1 e2 (i := i) (j := j) (by omega) (by omega)] at this
    exact this
end Go.Abs
end
