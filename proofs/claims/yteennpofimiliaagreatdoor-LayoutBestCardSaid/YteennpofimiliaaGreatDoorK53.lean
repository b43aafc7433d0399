/- Contracts. -/
import Derived.Test.YteennpofimiliaaGreatDoorK51
set_option linter.unusedVariables false
set_option linter.unusedSimpArgs false
set_option maxRecDepth 100000
namespace Go.Abs
open Go
def prOk (l : Lyt) (i : Nat) : Prop := (∀ k, k < l.nP i → 1 ≤ l.P i k ∧ l.P i k ≤ 10000) ∧ ∀ k, k < l.nQ i → 1 ≤ l.Q i k ∧ l.Q i k ≤ 10000
section
variable {b : Bld} {nB : Nat} {B : Nat → Int} {nO : Nat} {O : Nat → Int} {W G L : Int} {l : Lyt}
/-- What an accepted layout gives. -/
theorem ly_ok (h0 : arE b nB B nO O W G L = 0) (h : lyE b nB B nO O W G l = 0) : (l.nC = b.N 0 ∧ l.nR = b.N 0) ∧ (∀ k, k < b.N 0 → 0 ≤ l.C k ∧ l.C k ≤ 1) ∧ ∀ i, i < b.N 0 → ruE b nB B nO O W G l i = 0 ∧ prOk l i := by
  obtain ⟨hc, hs, _, _, _, _, _⟩ := ar_zero h0
  by_cases h1 : l.nC = b.N 0 ∧ l.nR = b.N 0
  · cases h2 : Lay.anyN (fun k => bad01 (l.C k)) l.nC with
    | true => rw [ly_2 h1 h2] at h; cases h
    | false =>
      rw [ly_3 h1 h2] at h
      have h3 := firstE_zero h
      refine ⟨h1, fun k hk => bad01_sp.1 (anyN_no.1 h2 k (by omega)), fun i hi => ⟨h3 i hi, ?_⟩⟩
      have h4 := h3 i hi
      unfold ruE at h4
      split at h4
      · cases h4
      · split at h4
        · cases h4
        · unfold cloE Lay.closesE at h4
          have h5 : Lay.ckE nB B nO O (l.nP i) (l.P i) (l.nQ i) (l.Q i) = 0 := by
            split at h4
            · rename_i h6; first | exact h6 | exact absurd h4 h6
            · rename_i h6; first | exact Decidable.not_not.1 h6 | cases h4 | exact h4
          exact Lay.ck_bd hs h5
  · rw [ly_1 (by omega)] at h; cases h
end
noncomputable def A61_laidC_c (b : Bld) (nB : Nat) (B : Nat → Int) (nO : Nat) (O : Nat → Int) (W G L : Int) (l : Lyt) : Ann := { orc := [(1, [(2, rArO b nB B nO O W G L)]), (4, [(1, .res fun _ => dI (b.N 0 : Int))]), (7, [(2, .res fun _ => dB (Lay.anyN (fun k => bad01 (l.C k)) l.nC))]), (12, [(10, .pos)]), (15, [(7, .res fun q => dI (befF (b.N 0) (b.X 0) (b.Y 0) G W (aI q 1) (aI q 2))), (10, .res fun q => dP (atX (b.N 0) (b.X 0) (b.Y 0) (aI q 1) (aI q 2) (aI q 3)) (atY (b.N 0) (b.X 0) (b.Y 0) (aI q 1) (aI q 2) (aI q 3))), (19, .res fun q => dI (ruL (b.N 0) (b.X 0) (b.Y 0) G W (aI q 1) (aI q 2) (aI q 3)))]), (17, [(5, rClo nB B nO O)])], loops := [(0, { ι := Nat, keep := [3, 4, 5, 8, 10, 43, 44], boxes := [3, 4, 5], ts := fun _ i => [(45, dI (i : Int))], inv := fun _ i => i ≤ b.N 0, mu := fun _ i => b.N 0 - i, rd := fun _ σ => (iOf (σ.get 45)).toNat })], cuts := [] }
namespace w3y
noncomputable section
structure Z where
  b : Bld
  nB : Nat
  B : Nat → Int
  nO : Nat
  O : Nat → Int
  W : Int
  G : Int
  L : Int
  l : Lyt
variable (z : Z) (i0 : Nat) (p : Prop) (P : List Prop) (a : Int) (k : Nat) (g : Bool) (E : List DV) (U : VT) (j9a : FuncId) (j12a : Nat → DV)
abbrev x0 : Int := (i0:Int)
abbrev x1 := Int.toNat (x0 i0)
abbrev x2 := i0 < z.b.nO → rf (z.b.O i0 k)
abbrev x3 := i0 < z.b.nB → rf (z.b.B i0 k)
abbrev x4 := befF (z.b.N 0) (z.b.X 0) (z.b.Y 0) z.G z.W (x0 i0) (z.l.C (x1 i0))
abbrev x5 := DV.lst k [j12a]
abbrev x6 := i0 < z.b.N 0 → rf a
abbrev x7 : Int := (↑(z.b.N 0) : Int)
abbrev x8 := Lay.catN z.nB z.B z.nO z.O z.W z.G z.L
abbrev x9 := ix (z.b.N 0) (x0 i0 + 1)
abbrev x10 := atX (z.b.N 0) (z.b.X 0) (z.b.Y 0) (x0 i0) (x4 z i0) z.G
abbrev x11 := atY (z.b.N 0) (z.b.X 0) (z.b.Y 0) (x0 i0) (x4 z i0) z.G
abbrev x12 := (z.l.SX (x1 i0) == x10 z i0) && ((z.l.SY (x1 i0) == x11 z i0) && true)
abbrev x13 := lenW (z.b.N 0) (z.b.X 0) (z.b.Y 0) (x0 i0)
abbrev x14 := dD (z.b.N 0) (z.b.X 0) (z.b.Y 0) (x0 i0)
abbrev x15 := cor (z.b.N 0) (z.b.X 0) (z.b.Y 0) i0
abbrev x16 : Int := (↑(Lay.catU z.nB z.B z.nO z.O z.W z.G z.L) : Int)
abbrev x17 : List Prop := ri ((!(!(x12 z i0))) = true) :: P
abbrev x18 := (z.l.nC:Int) != x7 z
abbrev x19 : List DV := x5 z.nB (fun i0 => dI (z.B i0)) :: x5 z.nO (fun i0 => dI (z.O i0)) :: dI z.W :: dI z.G :: dI z.L :: E
abbrev x20 := VT.need [p] U
abbrev x21 := VT.ite g (VT.done [False, a = 0]) U
abbrev x22 : List Prop := rf z.b.name :: rf z.b.nS :: (∀ i0 < z.b.nS, rf (z.b.fl i0)) :: (∀ i0 < z.b.nS, rf (z.b.N i0) ∧ (∀ i1 < z.b.N i0, rf (z.b.X i0 i1)) ∧ (∀ i1 < z.b.N i0, rf (z.b.Y i0 i1))) :: rf z.b.roof :: rf z.b.nO :: (∀ (i0 : Nat), x2 z i0 (0:Nat)) :: (∀ (i0 : Nat), x2 z i0 (1:Nat)) :: (∀ (i0 : Nat), x2 z i0 (2:Nat)) :: (∀ (i0 : Nat), x2 z i0 (3:Nat)) :: (∀ (i0 : Nat), x2 z i0 (4:Nat)) :: (∀ (i0 : Nat), x2 z i0 (5:Nat)) :: rf z.b.nB :: (∀ (i0 : Nat), x3 z i0 (0:Nat)) :: (∀ (i0 : Nat), x3 z i0 (1:Nat)) :: (∀ (i0 : Nat), x3 z i0 (2:Nat)) :: (∀ (i0 : Nat), x3 z i0 (3:Nat)) :: (∀ (i0 : Nat), x3 z i0 (4:Nat)) :: (∀ (i0 : Nat), x3 z i0 (5:Nat)) :: rf z.nB :: (∀ i0 < z.nB, rf (z.B i0)) :: rf z.nO :: (∀ i0 < z.nO, rf (z.O i0)) :: rf z.W :: rf z.G :: rf z.L :: P
abbrev x23 := DV.cptr (DV.val (Value.string z.b.name) :: DV.lst z.b.nS [fun i0 => dI (z.b.fl i0), fun i0 => DV.lst (z.b.N i0) [fun i1 => dI (z.b.X i0 i1), fun i1 => dI (z.b.Y i0 i1)]] :: dI z.b.roof :: DV.lst z.b.nO [fun i0 => dI (z.b.O i0 0), fun i0 => dI (z.b.O i0 1), fun i0 => dI (z.b.O i0 2), fun i0 => dI (z.b.O i0 3), fun i0 => dI (z.b.O i0 4), fun i0 => dI (z.b.O i0 5)] :: DV.lst z.b.nB [fun i0 => dI (z.b.B i0 0), fun i0 => dI (z.b.B i0 1), fun i0 => dI (z.b.B i0 2), fun i0 => dI (z.b.B i0 3), fun i0 => dI (z.b.B i0 4), fun i0 => dI (z.b.B i0 5)] :: x19 z [dI (x16 z), DV.lst (x8 z) [fun i0 => dI (Lay.pLen z.nB z.B z.nO z.O i0), fun i0 => dI (Lay.pCode z.nB i0), fun i0 => dB (decide (z.nB ≤ i0))], DV.lst (z.b.N 0) [fun i0 => dI (z.b.X 0 i0), fun i0 => dI (z.b.Y 0 i0), fun i0 => dI (z.b.X 0 (x9 z i0)), fun i0 => dI (z.b.Y 0 (x9 z i0)), fun i0 => dI (x13 z i0), fun i0 => dI (x14 z i0)], x5 (z.b.N 0) (fun i0 => dI (x15 z i0))])
abbrev x24 := ∀ i0 < z.l.nR, rf (z.l.nP i0) ∧ (∀ i1 < z.l.nP i0, rf (z.l.P i0 i1))
abbrev x25 := ∀ i0 < z.l.nR, rf (z.l.nQ i0) ∧ (∀ i1 < z.l.nQ i0, rf (z.l.Q i0 i1))
abbrev x26 : List Prop := rf z.l.nR :: (∀ i0 < z.l.nR, rf (z.l.F i0)) :: (∀ i0 < z.l.nR, rf (z.l.SX i0)) :: (∀ i0 < z.l.nR, rf (z.l.SY i0)) :: (∀ i0 < z.l.nR, rf (z.l.Ln i0)) :: P
abbrev x27 := Int.toNat (x0 i0 + 1)
abbrev x28 := z.l.C (Int.toNat ((x0 i0 + 1) % x7 z))
abbrev x29 : List Prop := ri ((!(x18 z)) = true) :: ri ((!(x18 z)) = true) :: P
abbrev x30 := x22 z (rf (x16 z) :: rf (x8 z) :: (∀ i0 < x8 z, rf (Lay.pLen z.nB z.B z.nO z.O i0)) :: (∀ i0 < x8 z, rf (Lay.pCode z.nB i0)) :: (∀ i0 < x8 z, rf (decide (z.nB ≤ i0))) :: rf (z.b.N 0) :: (∀ (i0 : Nat), x6 z i0 (z.b.X 0 i0)) :: (∀ (i0 : Nat), x6 z i0 (z.b.Y 0 i0)) :: (∀ (i0 : Nat), x6 z i0 (z.b.X 0 (x9 z i0))) :: (∀ (i0 : Nat), x6 z i0 (z.b.Y 0 (x9 z i0))) :: (∀ (i0 : Nat), x6 z i0 (x13 z i0)) :: (∀ (i0 : Nat), x6 z i0 (x14 z i0)) :: rf (z.b.N 0) :: (∀ (i0 : Nat), x6 z i0 (x15 z i0)) :: rf a :: P)
abbrev x31 := Lay.closesE z.nB z.B z.nO z.O (z.l.nP (x1 i0)) (z.l.P (x1 i0)) (z.l.nQ (x1 i0)) (z.l.Q (x1 i0)) (z.l.Ln (x1 i0))
abbrev x32 := Lay.anyN (fun i0 => bad01 (z.l.C i0)) z.l.nC
abbrev x33 := FnC prog j9a (x23 z :: dI (x0 i0) :: dI (z.l.C (x1 i0)) :: E) (dI a)
abbrev x34 : List Prop := p :: x30 z (x26 z (x24 z :: x25 z :: rf (z.l.nR:Int) :: x22 z (rf z.l.nC :: (∀ i0 < z.l.nC, rf (z.l.C i0)) :: P))) (x7 z)
abbrev x35 := ruL (z.b.N 0) (z.b.X 0) (z.b.Y 0) z.G z.W (x0 i0) (z.l.C (x1 i0)) (x28 z i0)
abbrev xt : VT := x20 (FnC prog (49 : FuncId) [bld z.b, DV.agg (x19 z [])] (DV.tup [x23 z, dI 0])) (VT.ite ((0:Int) != (0:Int)) (VT.done [False, rf (0:Int)]) (x20 (FnC prog (42 : FuncId) [x23 z] (dI (x7 z))) (VT.need (x29 z (x29 z [x18 z = false → (!(x18 z)) = true])) (x21 (11:Int) (if (x18 z) = true then true else ((z.l.nR:Int) != x7 z)) (x20 (FnC prog (73 : FuncId) [x5 z.l.nC (fun i0 => dI (z.l.C i0)), DV.val (Value.func (Fn.func 74) (Array.mk []) (Array.mk []))] (dB (x32 z))) (x21 (2:Int) (x32 z) (VT.loop Nat (fun i0 => i0 ≤ z.b.N 0) (Int.toNat 0) (x34 z (0 = (↑(Int.toNat 0) : Int)) (x26 z [x24 z, x25 z])) (fun i0 => VT.ite (decide ((x0 i0) < (z.l.nR:Int))) (x20 (0 ≤ x0 i0 ∧ x0 i0 < (z.l.nR:Int)) (VT.need [0 ≤ x0 i0 ∧ x0 i0 < (z.l.nC:Int), i64In (x0 i0 + 1), 0 ≤ x0 i0 + 1 ∧ 0 < x7 z, 0 ≤ (x0 i0 + 1) % x7 z ∧ (x0 i0 + 1) % x7 z < (z.l.nC:Int)] (x21 (10:Int) (z.l.F (x1 i0) != x0 i0) (VT.need (x33 z i0 (x4 z i0) [] (53 : FuncId) :: FnC prog (52 : FuncId) [x23 z, dI (x0 i0), dI (x4 z i0), dI z.G] (DV.val (Value.agg (Array.mk [Value.int IntKind.i64 (x10 z i0), Value.int IntKind.i64 (x11 z i0)]))) :: x17 z i0 (x17 z i0 (x17 z i0 (x17 z i0 (x17 z i0 (((!(!(x12 z i0))) = true → x33 z i0 (x35 z i0) [dI (x28 z i0)] (54 : FuncId)) :: x17 z i0 (x17 z i0 [(!(x12 z i0)) = false → (!(!(x12 z i0))) = true]))))))) (x21 (3:Int) (if (!(x12 z i0)) = true then true else (z.l.Ln (x1 i0) != x35 z i0)) (x20 (FnC prog (76 : FuncId) [DV.agg (x19 z []), dI (z.l.Ln (x1 i0)), DV.agg [x5 (z.l.nP (x1 i0)) (fun i1 => dI (z.l.P (x1 i0) i1)), x5 (z.l.nQ (x1 i0)) (fun i1 => dI (z.l.Q (x1 i0) i1))]] (dI (x31 z i0))) (x21 (x31 z i0) (x31 z i0 != 0) (x20 (i64In (x0 i0 + 1)) (VT.done (x34 z (x0 i0 + 1 = (↑(x27 i0) : Int)) (x26 z [x24 z, x25 z, x27 i0 ≤ z.b.N 0, z.b.N 0 - x27 i0 < z.b.N 0 - i0]))))))))))) (VT.done (x30 z [] (0:Int)))))))))))
end
end w3y
open w3y in
theorem laidC_c (b : Bld) (nB : Nat) (B : Nat → Int) (nO : Nat) (O : Nat → Int) (W G L : Int) (l : Lyt) (hN : ∀ i, i < b.nS → b.N i ≤ 1000) (h0 : arE b nB B nO O W G L = 0) (hl : lyE b nB B nO O W G l = 0) (ht : tidOk l) : FnC prog 41 [bld b, Lay.sys nB B nO O W G L, lyt l] (.tup [ringD b nB B nO O W G L, dI 0]) := by
  refine FnC_owed hmix (A61_laidC_c b nB B nO O W G L l) (V := xt ⟨b, nB, B, nO, O, W, G, L, l⟩) (by kernel_rfl) ?_
  simp only [xt, x0, x1, x2, x3, x4, x5, x6, x7, x8, x9, x10, x11, x12, x13, x14, x15, x16, x17, x18, x19, x20, x21, x22, x23, x24, x25, x26, x27, x28, x29, x30, x31, x32, x33, x34, x35, Rf, VT.holds, AllT, Sq]
  obtain ⟨hc, hs, _, _, _, _, _⟩ := ar_zero h0
  obtain ⟨b1, b2, b3, b4, b5⟩ := b0_ok hc
  have hn := chk_n b2
  obtain ⟨hX, hY⟩ := chk_inB b2
  have g1 := (sys_wgl hs).1
  have g2 := g1
  unfold gwOk at g2
  obtain ⟨t1, t2, t3⟩ := ht
  obtain ⟨hN2, hch, hru⟩ := ly_ok h0 hl
  have hany : Lay.anyN (fun k => bad01 (l.C k)) l.nC = false := anyN_no.2 fun k hk => bad01_sp.2 (hch k (by omega))
  refine ⟨aroundO_c b nB B nO O W G L hN h0, fun h => absurd trivial h, fun _ => ⟨n_c _ _ _ _ _ _ _ _ _ _ _ _ _ _ _, fun h => absurd h (by omega), fun h => ?_⟩⟩
  refine ⟨choicesL_c l.nC l.C (by omega), fun h2 => absurd h2 (by rw [hany]; simp), fun h2 => ⟨rfl, Nat.zero_le _, fun i hi hlt => ?_⟩⟩
  have q1 := Int.emod_nonneg ((i : Int) + 1) (show (b.N 0 : Int) ≠ 0 by omega)
  have q2 := Int.emod_lt_of_pos ((i : Int) + 1) (show (0:Int) < b.N 0 by omega)
  have ha := hch i (by omega)
  have hb2 := hch (((i : Int) + 1) % (b.N 0 : Int)).toNat (by omega)
  have bb := bef_bd (n := b.N 0) (X := b.X 0) (Y := b.Y 0) (i : Int) g1 ha
  have t4 := t3 i (by omega)
  have hri := (hru i (by omega)).1
  refine ⟨by omega, ⟨by omega, by unfold i64In; omega, by omega, q1, by omega⟩, fun h3 => absurd hri (by rw [ru_1 h3]; decide), fun h3 => ⟨⟨before_c _ _ _ _ _ _ _ _ _ _ _ _ _ _ _ _ _ (by omega) g1 ha, ringAt_c _ _ _ _ _ _ _ _ _ _ _ _ _ _ _ _ _ _ (by omega) hX hY (by omega) (by omega), fun _ => runLen_c _ _ _ _ _ _ _ _ _ _ _ _ _ _ _ _ _ _ (by omega) (by omega) hX hY g1 ha hb2⟩, fun h4 => absurd hri (fun hr0 => absurd ((ru_2 h3 fun hx => ?_).symm.trans hr0) (by decide)), fun h4 => ?_⟩⟩
  · rcases h4 with h4 | h4
    · exact absurd (h4 hx.1 hx.2.1) (by simp)
    · exact h4 hx.2.2
  · have h5 : l.SX i = ruX b G W i (l.C i) ∧ l.SY i = ruY b G W i (l.C i) ∧ l.Ln i = ruL (b.N 0) (b.X 0) (b.Y 0) G W i (l.C i) (nxC b l i) := by
      by_cases e1 : l.SX i = ruX b G W i (l.C i)
      · by_cases e2 : l.SY i = ruY b G W i (l.C i)
        · exact ⟨e1, e2, h4.2⟩
        · exact absurd (fun _ hx => absurd hx e2) h4.1
      · exact absurd (fun hx => absurd hx e1) h4.1
    rw [ru_3 h3 h5] at hri
    refine ⟨Lay.closes_c nB B nO O W G L _ _ _ _ _ hs (by omega) (by omega), fun h6 => absurd hri h6, fun h6 => ⟨by unfold i64In; omega, rfl, by omega, by omega⟩⟩
end Go.Abs
