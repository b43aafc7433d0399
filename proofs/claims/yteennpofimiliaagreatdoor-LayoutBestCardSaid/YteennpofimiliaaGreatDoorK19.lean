/- Contracts. -/
import Derived.Test.YteennpofimiliaaGreatDoorK18
set_option linter.unusedVariables false
set_option linter.unusedSimpArgs false
set_option maxRecDepth 100000
namespace Go.Abs
open Go
abbrev opV (b : Bld) (i : Nat) : DV := .val (.agg #[.int .i64 (b.O i 0), .int .i64 (b.O i 1), .int .i64 (b.O i 2), .int .i64 (b.O i 3), .int .i64 (b.O i 4), .int .i64 (b.O i 5)])
def misB (b : Bld) (i : Nat) : Bool := decide (b.O i 0 < 0 ∨ b.O i 0 ≥ b.nS ∨ b.O i 1 < 0 ∨ b.O i 1 ≥ b.N (b.O i 0).toNat)
def rngB (b : Bld) (i : Nat) : Bool := decide (b.O i 2 < 0 ∨ b.O i 2 ≥ b.O i 3 ∨ b.O i 3 > lenW (b.N (b.O i 0).toNat) (b.X (b.O i 0).toNat) (b.Y (b.O i 0).toNat) ((b.O i 1).toNat : Int) ∨ b.O i 4 < 0 ∨ b.O i 4 ≥ b.O i 5 ∨ b.O i 5 > topF b (b.O i 0).toNat - b.fl (b.O i 0).toNat)
def claB (b : Bld) (i j : Nat) : Bool := decide (b.O j 0 = b.O i 0 ∧ b.O j 1 = b.O i 1 ∧ max (b.O j 2) (b.O i 2) < min (b.O j 3) (b.O i 3) ∧ max (b.O j 4) (b.O i 4) < min (b.O j 5) (b.O i 5))
def opE (b : Bld) (i : Nat) : Int := if misB b i = true then 6 else if rngB b i = true then 2 else if ∀ j, j < i → claB b i j = false then 0 else 12
theorem opE_zero {b : Bld} {i : Nat} (h : opE b i = 0) : misB b i = false ∧ rngB b i = false := by
  unfold opE at h
  split at h
  · cases h
  · rename_i h1
    split at h
    · cases h
    · rename_i h2
      exact ⟨by simpa using h1, by simpa using h2⟩
def rLenW : Orc := .res fun l => dI (lenW (aN l) (aX l) (aY l) (aI l 1))
theorem rngB_spec {b : Bld} {i : Nat} : rngB b i = true ↔ (b.O i 2 < 0 ∨ b.O i 2 ≥ b.O i 3 ∨ b.O i 3 > lenW (b.N (b.O i 0).toNat) (b.X (b.O i 0).toNat) (b.Y (b.O i 0).toNat) ((b.O i 1).toNat : Int) ∨ b.O i 4 < 0 ∨ b.O i 4 ≥ b.O i 5 ∨ b.O i 5 > topF b (b.O i 0).toNat - b.fl (b.O i 0).toNat) := by unfold rngB; rw [decide_eq_true_eq]
theorem misB_spec {b : Bld} {i : Nat} : misB b i = true ↔ (b.O i 0 < 0 ∨ b.O i 0 ≥ b.nS ∨ b.O i 1 < 0 ∨ b.O i 1 ≥ b.N (b.O i 0).toNat) := by unfold misB; rw [decide_eq_true_eq]
def flOk (b : Bld) : Prop := (∀ i, i < b.nS → 0 ≤ b.fl i ∧ b.fl i ≤ 1000000) ∧ 0 ≤ b.roof ∧ b.roof ≤ 1000000
theorem topF_bd {b : Bld} (h : flOk b) (i : Nat) : 0 ≤ topF b i ∧ topF b i ≤ 1000000 := by
  unfold topF
  split
  · exact h.1 _ (by assumption)
  · exact h.2
noncomputable def A85_opening_c (b : Bld) (i : Nat) : Ann := { orc := [(6, [(17, rLenW), (38, rTop b)])], loops := [(0, { ι := Nat, keep := [4, 82, 83], boxes := [4], ts := fun _ j => [(84, dI (j : Int))], inv := fun _ j => j ≤ i ∧ ∀ k, k < j → claB b i k = false, mu := fun _ j => i - j, rd := fun _ σ => (iOf (σ.get 84)).toNat })], cuts := [] }
namespace w1i
noncomputable section
structure Z where
  b : Bld
  i : Nat
variable (z : Z) (i0 : Nat) (p : Prop) (P : List Prop) (a : Int) (k : Nat) (g h : Bool) (U : VT)
abbrev x0 := z.b.O z.i 0
abbrev x1 := if g = true then true else h
abbrev x2 := Int.toNat (x0 z)
abbrev x3 := z.b.O (Int.toNat (i0:Int)) k
abbrev x4 := decide (a < (0:Int))
abbrev x5 := z.b.O z.i 1
abbrev x6 := x4 (z.b.O z.i 2)
abbrev x7 := if g = true then h else false
abbrev x8 : List Prop := ri ((!g) = true) :: P
abbrev x9 := x1 (x6 z) (decide ((z.b.O z.i 2) ≥ (z.b.O z.i 3)))
abbrev x10 := lenW (z.b.N (x2 z)) (z.b.X (x2 z)) (z.b.Y (x2 z)) (x5 z)
abbrev x11 := x1 (x9 z) (decide ((z.b.O z.i 3) > (x10 z)))
abbrev x12 := x7 (x3 z i0 (0:Nat) == x0 z) (x3 z i0 (1:Nat) == x5 z)
abbrev x13 := x1 (x11 z) (x4 (z.b.O z.i 4))
abbrev x14 := x1 (x13 z) (decide ((z.b.O z.i 4) ≥ (z.b.O z.i 5)))
abbrev x15 := i0 < z.i → rf (z.b.O i0 k)
abbrev x16 := x7 (x12 z i0) (decide ((maxs (x3 z i0 (2:Nat)) [z.b.O z.i 2]) < (mins (x3 z i0 (3:Nat)) [z.b.O z.i 3])))
abbrev x17 : List Prop := ri (x12 z i0 = true) :: ri (x12 z i0 = true) :: P
abbrev x18 : List Prop := ri (x16 z i0 = true) :: ri (x16 z i0 = true) :: P
abbrev x19 := g = false → (!h) = true
abbrev x20 : List Prop := ri ((x3 z i0 (0:Nat) == x0 z) = true) :: P
abbrev x21 := VT.ite g (VT.done [a = opE z.b z.i]) U
abbrev x22 := Int.toNat ((i0:Int) + 1)
abbrev x23 := x8 (x8 P (x4 (x0 z))) (x4 (x0 z))
abbrev x24 := x8 (x8 P (x4 (x5 z))) (x4 (x5 z))
abbrev x25 : List Prop := ((!(x14 z)) = true → p) :: x8 (x8 P (x14 z)) (x14 z)
abbrev x26 := topF z.b (x2 z) - z.b.fl (x2 z)
abbrev x27 : List Prop := p :: rf z.i :: (∀ (i0 : Nat), x15 z i0 (0:Nat)) :: (∀ (i0 : Nat), x15 z i0 (1:Nat)) :: (∀ (i0 : Nat), x15 z i0 (2:Nat)) :: (∀ (i0 : Nat), x15 z i0 (3:Nat)) :: (∀ (i0 : Nat), x15 z i0 (4:Nat)) :: (∀ (i0 : Nat), x15 z i0 (5:Nat)) :: rf (z.i:Int) :: rf (x0 z) :: rf (x5 z) :: rf (z.b.O z.i 2) :: rf (z.b.O z.i 3) :: rf (z.b.O z.i 4) :: rf (z.b.O z.i 5) :: P
abbrev xt : VT := VT.need (x23 z (x23 z (x8 [x19 (x4 (x0 z)) (x4 (x0 z))] (x4 (x0 z))))) (x21 z (6:Int) (x1 (x4 (x0 z)) (decide ((x0 z) ≥ (z.b.nS:Int)))) (VT.need [0 ≤ x0 z ∧ x0 z < (z.b.nS:Int)] (VT.need (x24 z (x24 z (x8 [x19 (x4 (x5 z)) (x4 (x5 z))] (x4 (x5 z))))) (x21 z (6:Int) (x1 (x4 (x5 z)) (decide ((x5 z) ≥ (↑(z.b.N (x2 z)) : Int)))) (VT.need (x8 (x8 (x8 (x8 (x19 (x6 z) (x6 z) :: x8 (x8 (x8 (x8 (x8 (((!(x9 z)) = true → FnC prog 122 [DV.lst (z.b.N (x2 z)) [fun i0 => dI (z.b.X (x2 z) i0), fun i0 => dI (z.b.Y (x2 z) i0)], dI (x5 z)] (dI (x10 z))) :: x8 (x8 (x19 (x9 z) (x9 z) :: x8 (x8 (x19 (x11 z) (x11 z) :: x8 (x8 (x8 (x8 (x19 (x13 z) (x13 z) :: x8 (x8 (x8 (x8 (x25 z (FnC prog 147 [bld z.b, dI (x0 z)] (dI (topF z.b (x2 z)))) (x8 (x25 z (i64In (x26 z)) [x19 (x14 z) (x14 z)]) (x14 z))) (x14 z)) (x14 z)) (x14 z)) (x14 z)) (x13 z)) (x13 z)) (x13 z)) (x13 z)) (x11 z)) (x11 z)) (x9 z)) (x9 z)) (x9 z)) (x9 z)) (x9 z)) (x9 z)) (x9 z)) (x6 z)) (x6 z)) (x6 z)) (x6 z)) (x21 z (2:Int) (x1 (x14 z) (decide ((z.b.O z.i 5) > (x26 z)))) (VT.loop Nat (fun i0 => i0 ≤ z.i ∧ (∀ i1 < i0, claB z.b z.i i1 = false)) (Int.toNat 0) (x27 z (0 = (↑(Int.toNat 0) : Int)) []) (fun i0 => VT.ite (decide ((i0:Int) < (z.i:Int))) (VT.need [0 ≤ (i0:Int) ∧ (i0:Int) < (z.i:Int)] (VT.need (x20 z i0 (x20 z i0 (x20 z i0 (x20 z i0 (x20 z i0 (x17 z i0 (x17 z i0 (x17 z i0 (x17 z i0 (x17 z i0 (ri (x12 z i0 = true) :: x18 z i0 (x18 z i0 (x18 z i0 (x18 z i0 (x18 z i0 [ri (x16 z i0 = true)]))))))))))))))) (x21 z (12:Int) (x7 (x16 z i0) (decide ((maxs (x3 z i0 (4:Nat)) [z.b.O z.i 4]) < (mins (x3 z i0 (5:Nat)) [z.b.O z.i 5])))) (VT.need [i64In ((i0:Int) + 1)] (VT.done (x27 z ((i0:Int) + 1 = (↑(x22 i0) : Int)) [x22 i0 ≤ z.i ∧ (∀ i1 < x22 i0, claB z.b z.i i1 = false), z.i - x22 i0 < z.i - i0])))))) (VT.done [0 = opE z.b z.i])))))))))
end
end w1i
open w1i in
theorem opening_c (b : Bld) (i : Nat) (hi : i ≤ 1000) (hS : b.nS ≤ 1000) (ho : outsOk b) (hf : flOk b) : FnC prog 117 [bld b, opV b i, .lst i (opeC b)] (dI (opE b i)) := by
  refine FnC_owed hmix (A85_opening_c b i) (V := xt ⟨b, i⟩) (by kernel_rfl) ?_
  simp only [xt, x0, x1, x2, x3, x4, x5, x6, x7, x8, x9, x10, x11, x12, x13, x14, x15, x16, x17, x18, x19, x20, x21, x22, x23, x24, x25, x26, x27, Rf, VT.holds, AllT, Sq]
  have hcla : ∀ j, claB b i j = decide (b.O j 0 = b.O i 0 ∧ b.O j 1 = b.O i 1 ∧ max (b.O j 2) (b.O i 2) < min (b.O j 3) (b.O i 3) ∧ max (b.O j 4) (b.O i 4) < min (b.O j 5) (b.O i 5)) := fun j => rfl
  simp only [maxs1, mins1]
  refine ⟨fun h => by rw [opE, if_pos (misB_spec.2 (by omega))], fun h0 => ⟨by omega, fun h => by rw [opE, if_pos (misB_spec.2 (by omega))], fun h1 => ?_⟩⟩
  have e0 : ((b.O i 0).toNat : Int) = b.O i 0 := by omega
  have e1 : ((b.O i 1).toNat : Int) = b.O i 1 := by omega
  have hs : (b.O i 0).toNat < b.nS := by omega
  have hch := ho _ hs
  have hn := chk_n hch
  obtain ⟨hX, hY⟩ := chk_inB hch
  have hm : ¬ misB b i = true := fun h => by have := misB_spec.1 h; omega
  have hr := rngB_spec (b := b) (i := i)
  rw [e1] at hr
  have ht := top_c b (b.O i 0).toNat (by omega)
  rw [e0] at ht
  have hl := length_c (b.N (b.O i 0).toNat) (b.X (b.O i 0).toNat) (b.Y (b.O i 0).toNat) (b.O i 1) (by omega) (by omega) (by omega) (by omega) hX hY
  have b1 := topF_bd hf (b.O i 0).toNat
  have b2 := hf.1 _ hs
  generalize hL : lenW (b.N (b.O i 0).toNat) (b.X (b.O i 0).toNat) (b.Y (b.O i 0).toNat) (b.O i 1) = L at *
  have hl' : FnC prog 122 [pts (b.N (b.O i 0).toNat) (b.X (b.O i 0).toNat) (b.Y (b.O i 0).toNat), dI (b.O i 1)] (dI L) := by rw [← hL]; exact hl
  refine ⟨⟨fun _ => hl', fun _ => ht, fun _ => by unfold i64In; omega⟩, fun h => by rw [opE, if_neg hm, if_pos (hr.2 (by omega))], fun h => ?_⟩
  have hnr : ¬ rngB b i = true := fun h2 => by have := hr.1 h2; omega
  refine ⟨rfl, ⟨Nat.zero_le _, fun k hk => absurd hk (Nat.not_lt_zero k)⟩, fun j ⟨hj, hb⟩ => ⟨fun hlt => ⟨⟨by omega, hlt⟩, fun h2 => ?_, fun h2 => ⟨by unfold i64In; omega, by omega, ⟨by omega, fun k hk => ?_⟩, by omega⟩⟩, fun hge => ?_⟩⟩
  · rw [opE, if_neg hm, if_neg hnr, if_neg]
    intro hall
    have := hall j (by omega)
    rw [hcla, decide_eq_false_iff_not] at this
    exact this ⟨h2.1.1.1, h2.1.1.2, h2.1.2, h2.2⟩
  · rcases Nat.lt_or_ge k j with h5 | h5
    · exact hb k h5
    · rw [show k = j by omega, hcla, decide_eq_false_iff_not]
      rintro ⟨c1, c2, c3, c4⟩
      exact h2 ⟨⟨c1, c2⟩, c3⟩ c4
  · rw [opE, if_neg hm, if_neg hnr, if_pos (fun k hk => hb k (by omega))]
noncomputable def A82_openingR_c (b : Bld) (i : Nat) : Ann := { orc := [(2, [(6, rWithin), (20, rWithin)]), (4, [(7, rWallsR)]), (5, [(3, rTop b)])], loops := [(0, { ι := Nat, keep := [1, 2, 5], boxes := [2, 5], ts := fun _ j => [(8, dI (j : Int))], inv := fun _ j => j ≤ i ∧ ∀ k, k < j → claB b i k = false, mu := fun _ j => i - j, rd := fun _ σ => (iOf (σ.get 8)).toNat })], cuts := [] }
namespace w1j
noncomputable section
structure Z where
  b : Bld
  i : Nat
variable (z : Z) (i0 : Nat) (p : Prop) (P : List Prop) (a : Int) (k : Nat) (g h : Bool) (U : VT)
abbrev x0 := z.b.O (Int.toNat (z.i:Int)) k
abbrev x1 := x0 z (0:Nat)
abbrev x2 := z.b.O (Int.toNat (i0:Int)) k
abbrev x3 := Int.toNat (x1 z)
abbrev x4 := if g = true then true else h
abbrev x5 := if g = true then h else false
abbrev x6 : List Prop := ri (g = true) :: P
abbrev x7 := x0 z (3:Nat)
abbrev x8 := x0 z (1:Nat)
abbrev x9 := decide ((x0 z (2:Nat)) < (0:Int))
abbrev x10 := z.b.N (x3 z)
abbrev x11 := x4 (x9 z) (decide ((x0 z (2:Nat)) ≥ (x7 z)))
abbrev x12 := x5 (x2 z i0 (0:Nat) == x1 z) (x2 z i0 (1:Nat) == x8 z)
abbrev x13 := decide ((0 ≤ x1 z) ∧ (x1 z ≤ (z.b.nS:Int) - 1))
abbrev x14 := lenW (x10 z) (z.b.X (x3 z)) (z.b.Y (x3 z)) a
abbrev x15 := x4 (x11 z) (decide ((x7 z) > (x14 z (↑(Int.toNat (x8 z)) : Int))))
abbrev x16 := x5 (x12 z i0) (decide ((x0 z (2:Nat)) < (x2 z i0 (3:Nat))))
abbrev x17 := x6 P (!(!(x13 z)))
abbrev x18 := x4 (x15 z) (decide ((x0 z (4:Nat)) < (0:Int)))
abbrev x19 := i0 < z.b.nO → rf (z.b.O i0 k)
abbrev x20 := i0 < z.b.nB → rf (z.b.B i0 k)
abbrev x21 := x5 (x16 z i0) (decide ((x2 z i0 (2:Nat)) < (x7 z)))
abbrev x22 := x0 z (5:Nat)
abbrev x23 := (i0:Int) + 1
abbrev x24 := g = false → (!h) = true
abbrev x25 := x4 (x18 z) (decide ((x0 z (4:Nat)) ≥ (x22 z)))
abbrev x26 := x5 (x21 z i0) (decide ((x0 z (4:Nat)) < (x2 z i0 (5:Nat))))
abbrev x27 := x6 P (x2 z i0 (0:Nat) == x1 z)
abbrev x28 := VT.ite g (VT.done [a = opE z.b z.i]) U
abbrev x29 := x6 (x6 P (!(x9 z))) (!(x9 z))
abbrev x30 := x6 (x6 P (!(x18 z))) (!(x18 z))
abbrev x31 := 0 ≤ x1 z ∧ x1 z < (z.b.nS:Int)
abbrev x32 := topF z.b (x3 z) - z.b.fl (x3 z)
abbrev x33 := decide ((0 ≤ x8 z) ∧ (x8 z ≤ (↑(x10 z) : Int) - 1))
abbrev x34 : List Prop := p :: rf (z.i:Int) :: rf z.b.name :: rf z.b.nS :: (∀ i0 < z.b.nS, rf (z.b.fl i0)) :: (∀ i0 < z.b.nS, rf (z.b.N i0) ∧ (∀ i1 < z.b.N i0, rf (z.b.X i0 i1)) ∧ (∀ i1 < z.b.N i0, rf (z.b.Y i0 i1))) :: rf z.b.roof :: rf z.b.nO :: (∀ (i0 : Nat), x19 z i0 (0:Nat)) :: (∀ (i0 : Nat), x19 z i0 (1:Nat)) :: (∀ (i0 : Nat), x19 z i0 (2:Nat)) :: (∀ (i0 : Nat), x19 z i0 (3:Nat)) :: (∀ (i0 : Nat), x19 z i0 (4:Nat)) :: (∀ (i0 : Nat), x19 z i0 (5:Nat)) :: rf z.b.nB :: (∀ (i0 : Nat), x20 z i0 (0:Nat)) :: (∀ (i0 : Nat), x20 z i0 (1:Nat)) :: (∀ (i0 : Nat), x20 z i0 (2:Nat)) :: (∀ (i0 : Nat), x20 z i0 (3:Nat)) :: (∀ (i0 : Nat), x20 z i0 (4:Nat)) :: (∀ (i0 : Nat), x20 z i0 (5:Nat)) :: rf (x1 z) :: rf (x8 z) :: rf (x0 z (2:Nat)) :: rf (x7 z) :: rf (x0 z (4:Nat)) :: rf (x22 z) :: P
abbrev xt : VT := VT.need [0 ≤ (z.i:Int) ∧ (z.i:Int) < (z.b.nO:Int)] (VT.need (i64In ((z.b.nS:Int) - 1) :: FnC prog 34 [dI (x1 z), dI 0, dI ((z.b.nS:Int) - 1)] (dB (x13 z)) :: x17 z (x17 z (x17 z (x17 z (x17 z (((!(!(x13 z))) = true → x31 z) :: x17 z (x17 z (x17 z (x17 z (((!(!(x13 z))) = true → i64In ((↑(x10 z) : Int) - 1)) :: x17 z (x17 z (((!(!(x13 z))) = true → FnC prog 34 [dI (x8 z), dI 0, dI ((↑(x10 z) : Int) - 1)] (dB (x33 z))) :: x17 z [x24 (!(x13 z)) (!(x13 z))])))))))))))) (x28 z (6:Int) (x4 (!(x13 z)) (!(x33 z))) (VT.need [x31 z, FnC prog 69 [DV.lst (x10 z) [fun i0 => dI (z.b.X (x3 z) i0), fun i0 => dI (z.b.Y (x3 z) i0)]] (DV.lst (x10 z) [fun i0 => dI (z.b.X (x3 z) i0), fun i0 => dI (z.b.Y (x3 z) i0), fun i0 => dI (z.b.X (x3 z) (ix (x10 z) (x23 i0))), fun i0 => dI (z.b.Y (x3 z) (ix (x10 z) (x23 i0))), fun i0 => dI (x14 z (i0:Int)), fun i0 => dI (dD (x10 z) (z.b.X (x3 z)) (z.b.Y (x3 z)) (i0:Int))]), 0 ≤ x8 z ∧ x8 z < (↑(x10 z) : Int)] (VT.need [FnC prog 143 [bld z.b, dI (x1 z)] (dI (topF z.b (x3 z))), x31 z, i64In (x32 z)] (VT.need (x29 z (x29 z (x24 (x9 z) (x9 z) :: x6 (x6 (x6 (x24 (x11 z) (x11 z) :: x6 (x6 (x24 (x15 z) (x15 z) :: x30 z (x30 z (x24 (x18 z) (x18 z) :: x6 (x6 (x6 [x24 (x25 z) (x25 z)] (!(x25 z))) (!(x25 z))) (!(x25 z))))) (!(x15 z))) (!(x15 z))) (!(x11 z))) (!(x11 z))) (!(x11 z))))) (x28 z (2:Int) (x4 (x25 z) (decide ((x22 z) > (x32 z)))) (VT.loop Nat (fun i0 => i0 ≤ z.i ∧ (∀ i1 < i0, claB z.b z.i i1 = false)) (Int.toNat 0) (x34 z (0 = (↑(Int.toNat 0) : Int)) []) (fun i0 => VT.ite (decide ((i0:Int) < (z.i:Int))) (VT.need [0 ≤ (i0:Int) ∧ (i0:Int) < (z.b.nO:Int)] (VT.need (x27 z i0 (x27 z i0 (x27 z i0 (x27 z i0 (x27 z i0 (x6 (x6 (x6 (x6 (x6 (x6 (x6 (x6 (x6 (x6 (x6 (x6 (x6 (x6 (x6 (x6 (x6 (x6 (x6 (x6 [] (x26 z i0)) (x26 z i0)) (x26 z i0)) (x26 z i0)) (x26 z i0)) (x21 z i0)) (x21 z i0)) (x21 z i0)) (x21 z i0)) (x21 z i0)) (x16 z i0)) (x16 z i0)) (x16 z i0)) (x16 z i0)) (x16 z i0)) (x12 z i0)) (x12 z i0)) (x12 z i0)) (x12 z i0)) (x12 z i0))))))) (x28 z (12:Int) (x5 (x26 z i0) (decide ((x2 z i0 (4:Nat)) < (x22 z)))) (VT.need [i64In (x23 i0)] (VT.done (x34 z (x23 i0 = (↑(Int.toNat (x23 i0)) : Int)) [Int.toNat (x23 i0) ≤ z.i ∧ (∀ i1 < Int.toNat (x23 i0), claB z.b z.i i1 = false), z.i - Int.toNat (x23 i0) < z.i - i0])))))) (VT.done [0 = opE z.b z.i])))))))))
end
end w1j
open w1j in
theorem openingR_c (b : Bld) (i : Nat) (hi : i < b.nO) (hO : b.nO ≤ 1000) (hS : b.nS ≤ 1000) (ho : outsOk b) (hf : flOk b) (hpre : ∀ j, j < i → opE b j = 0) : FnC prog 98 [bld b, dI (i : Int)] (dI (opE b i)) := by
  refine FnC_owed hmix (A82_openingR_c b i) (V := xt ⟨b, i⟩) (by kernel_rfl) ?_
  simp only [xt, x0, x1, x2, x3, x4, x5, x6, x7, x8, x9, x10, x11, x12, x13, x14, x15, x16, x17, x18, x19, x20, x21, x22, x23, x24, x25, x26, x27, x28, x29, x30, x31, x32, x33, x34, Rf, VT.holds, AllT, Sq]
  have hcla : ∀ j, claB b i j = decide (b.O j 0 = b.O i 0 ∧ b.O j 1 = b.O i 1 ∧ max (b.O j 2) (b.O i 2) < min (b.O j 3) (b.O i 3) ∧ max (b.O j 4) (b.O i 4) < min (b.O j 5) (b.O i 5)) := fun j => rfl
  have hN : 0 ≤ b.O i 0 → b.O i 0 < b.nS → b.N (b.O i 0).toNat ≤ 40 := fun h1 h2 => (chk_n (ho (b.O i 0).toNat (by omega))).2
  refine ⟨⟨by omega, by omega⟩, ⟨by unfold i64In; omega, within_c _ _ _, fun h => by omega, fun h => by have := hN (by omega) (by omega); unfold i64In; omega, fun _ => within_c _ _ _⟩, fun h => by rw [opE, if_pos (misB_spec.2 (by omega))], fun h => ?_⟩
  have e0 : ((b.O i 0).toNat : Int) = b.O i 0 := by omega
  have e1 : ((b.O i 1).toNat : Int) = b.O i 1 := by omega
  have hs : (b.O i 0).toNat < b.nS := by omega
  have hch := ho _ hs
  have hn := chk_n hch
  have hm : ¬ misB b i = true := fun h => by have := misB_spec.1 h; omega
  have hr := rngB_spec (b := b) (i := i)
  have ht := topR_c b (b.O i 0).toNat (by omega)
  rw [e0] at ht
  have b1 := topF_bd hf (b.O i 0).toNat
  have b2 := hf.1 _ hs
  have hw := wallsR_c _ _ _ hch
  refine ⟨⟨by omega, hw, by omega⟩, ⟨ht, by omega, by unfold i64In; omega⟩, fun h => by rw [opE, if_neg hm, if_pos (hr.2 (by omega))], fun h => ?_⟩
  have hnr : ¬ rngB b i = true := fun h2 => by have := hr.1 h2; omega
  refine ⟨rfl, ⟨Nat.zero_le _, fun k hk => absurd hk (Nat.not_lt_zero k)⟩, fun j ⟨hj, hb⟩ => ⟨fun hlt => ?_, fun hge => ?_⟩⟩
  · have hpj : ¬ rngB b j = true := by rw [(opE_zero (hpre j (by omega))).2]; simp
    rw [rngB_spec] at hpj
    refine ⟨⟨by omega, by omega⟩, fun h2 => ?_, fun h2 => ⟨by unfold i64In; omega, by omega, ⟨by omega, fun k hk => ?_⟩, by omega⟩⟩
    · rw [opE, if_neg hm, if_neg hnr, if_neg]
      intro hall
      have := hall j (by omega)
      rw [hcla, decide_eq_false_iff_not] at this
      exact this (by omega)
    · rcases Nat.lt_or_ge k j with h5 | h5
      · exact hb k h5
      · rw [show k = j by omega, hcla, decide_eq_false_iff_not]
        omega
  · rw [opE, if_neg hm, if_neg hnr, if_pos (fun k hk => hb k (by omega))]
end Go.Abs
