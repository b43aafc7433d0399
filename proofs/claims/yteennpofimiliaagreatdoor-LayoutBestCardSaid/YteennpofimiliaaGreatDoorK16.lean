/- Contracts. -/
import Derived.Test.YteennpofimiliaaGreatDoorK15
import Derived.Test.YteennpofimiliaaGreatDoorK9
set_option linter.unusedVariables false
set_option linter.unusedSimpArgs false
set_option maxRecDepth 100000
namespace Go.Abs
open Go
structure Bld where
  name : ByteArray
  nS : Nat
  fl : Nat → Int
  N : Nat → Nat
  X : Nat → Nat → Int
  Y : Nat → Nat → Int
  roof : Int
  nO : Nat
  O : Nat → Nat → Int
  nB : Nat
  B : Nat → Nat → Int
abbrev stoC (b : Bld) : List (Nat → DV) := [fun i => dI (b.fl i), fun i => pts (b.N i) (b.X i) (b.Y i)]
abbrev opeC (b : Bld) : List (Nat → DV) := [fun i => dI (b.O i 0), fun i => dI (b.O i 1), fun i => dI (b.O i 2), fun i => dI (b.O i 3), fun i => dI (b.O i 4), fun i => dI (b.O i 5)]
abbrev boxC (b : Bld) : List (Nat → DV) := [fun i => dI (b.B i 0), fun i => dI (b.B i 1), fun i => dI (b.B i 2), fun i => dI (b.B i 3), fun i => dI (b.B i 4), fun i => dI (b.B i 5)]
abbrev bld (b : Bld) : DV := .agg [.val (.string b.name), .lst b.nS (stoC b), dI b.roof, .lst b.nO (opeC b), .lst b.nB (boxC b)]
def chB (s : ByteArray) (i : Nat) : Bool := decide ((97 ≤ bget s i ∧ bget s i ≤ 122) ∨ (65 ≤ bget s i ∧ bget s i ≤ 90) ∨ (i ≠ 0 ∧ (bget s i = 45 ∨ (48 ≤ bget s i ∧ bget s i ≤ 57))))
def nameF (s : ByteArray) : Bool := decide (1 ≤ s.size ∧ s.size ≤ 12 ∧ ∀ i, i < s.size → chB s i = true)
def topF (b : Bld) (i : Nat) : Int := if i + 1 < b.nS then b.fl (i + 1) else b.roof
def manyC (n : Nat) : Bool := decide (n > 14 ∧ n ≤ 40 ∨ n > 45)
def smallF (b : Bld) : Bool := decide (¬ (b.nS > 6 ∧ b.nS ≤ 20 ∨ b.nS > 25 ∨ b.nO > 8 ∧ b.nO ≤ 100 ∨ b.nO > 105 ∨ b.nB > 6 ∧ b.nB ≤ 50 ∨ b.nB > 55 ∨ b.name.size > 100) ∧ ∀ i, i < b.nS → manyC (b.N i) = false)
def rTop (b : Bld) : Orc := .res fun l => dI (topF b (aI l 1).toNat)
def rNameF (b : Bld) : Orc := .res fun _ => dB (nameF b.name)
theorem bl_len (bs : ByteArray) : ∀ (k i : Nat) (r : List UInt8), bs.size - i = k → (ByteArray.toList.loop bs i r).length = r.length + k
  | 0, i, r, h => by
    unfold ByteArray.toList.loop
    rw [if_neg (by omega)]; simp
  | k + 1, i, r, h => by
    unfold ByteArray.toList.loop
    rw [if_pos (by omega), bl_len bs k (i + 1) _ (by omega), List.length_cons]; omega
theorem bytes_nil (s : ByteArray) : s.toList = (ByteArray.mk #[]).toList ↔ s.size = 0 := by
  have h1 : s.toList.length = s.size := by
    show (ByteArray.toList.loop s 0 []).length = _
    rw [bl_len s s.size 0 [] (by omega)]; simp
  have h2 : (ByteArray.mk #[]).toList = [] := by
    apply List.eq_nil_of_length_eq_zero
    show (ByteArray.toList.loop (ByteArray.mk #[]) 0 []).length = _
    rw [bl_len _ 0 0 [] (by rfl)]; rfl
  rw [h2]
  constructor
  · intro h; rw [h] at h1; exact h1.symm
  · intro h; exact List.eq_nil_of_length_eq_zero (by omega)
theorem lt_zero_if {α : Type} (i : Nat) (a b : α) : (if i < 0 then a else b) = b := if_neg (Nat.not_lt_zero i)
noncomputable def A83_isName_c (s : ByteArray) : Ann := { orc := [], loops := [(0, { ι := Nat, keep := [0, 14], boxes := [], ts := fun _ i => [(15, dI (i : Int))], inv := fun _ i => i ≤ s.size ∧ ∀ j, j < i → chB s j = true, mu := fun _ i => s.size - i, rd := fun _ σ => (iOf (σ.get 15)).toNat })], cuts := [] }
namespace w18
noncomputable section
variable (z : ByteArray) (i0 : Nat) (P : List Prop) (a b : Int) (g h : Bool)
abbrev x0 := bget z (Int.toNat (i0:Int))
abbrev x1 := decide ((x0 z i0) ≥ a)
abbrev x2 := if g = true then h else false
abbrev x3 := x2 (x1 z i0 a) (decide ((x0 z i0) ≤ b))
abbrev x4 := x3 z i0 (97:Int) (122:Int)
abbrev x5 := if g = true then true else h
abbrev x6 : List Prop := ri (g = true) :: P
abbrev x7 := !(x5 (x4 z i0) (x3 z i0 (65:Int) (90:Int)))
abbrev x8 := (x7 z i0) && (!((i0:Int) == 0))
abbrev x9 := ByteArray.size z
abbrev x10 := (x8 z i0) && (x0 z i0 != 45)
abbrev x11 : Int := (↑(x9 z) : Int)
abbrev x12 := ByteArray.toList z == ByteArray.toList (ByteArray.mk (List.toArray []))
abbrev x13 := Int.toNat ((i0:Int) + 1)
abbrev x14 := g = false → h = true
abbrev x15 := decide ((x0 z i0) < (48:Int))
abbrev x16 := VT.done [g = nameF z]
abbrev xt : VT := VT.need (x6 (x6 [x14 (x12 z) (!(x12 z))] (!(x12 z))) (!(x12 z))) (VT.ite (x5 (x12 z) (decide ((x11 z) > (12:Int)))) (x16 z false) (VT.loop Nat (fun i0 => i0 ≤ x9 z ∧ (∀ i1 < i0, chB z i1 = true)) (Int.toNat 0) [0 = (↑(Int.toNat 0) : Int), rf z, rf (x11 z)] (fun i0 => VT.ite (decide ((i0:Int) < (x11 z))) (VT.need [0 ≤ (i0:Int) ∧ (i0:Int) < x11 z] (VT.need (x6 (x6 (x6 (x6 (x6 (x6 [(!(x4 z i0)) = true → x1 z i0 (65:Int) = true → ((!(x4 z i0)) && (x1 z i0 (65:Int))) = true, x14 (x4 z i0) (!(x4 z i0))] (!(x4 z i0))) ((!(x4 z i0)) && (x1 z i0 (65:Int)))) (!(x4 z i0))) (!(x4 z i0))) (x1 z i0 (97:Int))) (x1 z i0 (97:Int))) (VT.need (x6 (x6 (x6 (x6 (x6 (x6 (x6 (x6 ((x10 z i0 = true → x14 (x15 z i0) ((x10 z i0) && (!(x15 z i0)))) :: x6 ((x8 z i0 = true → (x0 z i0 != 45) = true → x10 z i0 = true) :: x6 ((x7 z i0 = true → x14 ((i0:Int) == 0) (x8 z i0)) :: x6 [] (x7 z i0)) (x7 z i0)) (x8 z i0)) (x10 z i0)) ((x10 z i0) && (!(x15 z i0)))) (x10 z i0)) (x10 z i0)) (x8 z i0)) (x8 z i0)) (x7 z i0)) (x7 z i0)) (VT.ite (x2 (x7 z i0) (x5 ((i0:Int) == 0) (x2 (x0 z i0 != 45) (x5 (x15 z i0) (decide ((x0 z i0) > (57:Int))))))) (x16 z false) (VT.need [i64In ((i0:Int) + 1)] (VT.done [(i0:Int) + 1 = (↑(x13 i0) : Int), rf z, rf (x11 z), x13 i0 ≤ x9 z ∧ (∀ i1 < x13 i0, chB z i1 = true), x9 z - x13 i0 < x9 z - i0])))))) (x16 z true))))
end
end w18
open w18 in
theorem isName_c (s : ByteArray)  : FnC prog 115 [.val (.string s)] (dB (nameF s)) := by
  refine FnC_owed hmix (A83_isName_c s) (V := xt s) (by kernel_rfl) ?_
  simp only [xt, x0, x1, x2, x3, x4, x5, x6, x7, x8, x9, x10, x11, x12, x13, x14, x15, x16, Rf, VT.holds, AllT, Sq]
  simp only [bytes_nil]
  refine ⟨fun h => by rw [eq_comm, nameF, decide_eq_false_iff_not]; omega, fun h => ⟨rfl, ⟨Nat.zero_le _, fun j hj => absurd hj (Nat.not_lt_zero j)⟩, fun i ⟨hi, hb⟩ => ⟨fun hlt => ?_, fun hge => ?_⟩⟩⟩
  · have hs := bget s i
    have e1 : chB s i = true ↔ ((97 ≤ bget s i ∧ bget s i ≤ 122) ∨ (65 ≤ bget s i ∧ bget s i ≤ 90) ∨ (i ≠ 0 ∧ (bget s i = 45 ∨ (48 ≤ bget s i ∧ bget s i ≤ 57)))) := by unfold chB; rw [decide_eq_true_eq]
    refine ⟨⟨by omega, hlt⟩, fun h1 h2 => ⟨h1, h2⟩, ⟨fun h1 h2 => ⟨h1, h2⟩, fun h1 h2 => ⟨h1, h2⟩, fun h1 h2 => ⟨h1, h2⟩⟩, fun h1 => ?_, fun h1 => ⟨by unfold i64In; omega, by omega, ⟨by omega, fun j hj => ?_⟩, by omega⟩⟩
    · rw [eq_comm, nameF, decide_eq_false_iff_not]
      intro hx
      have h2 := e1.1 (hx.2.2 i (by omega))
      omega
    · rcases Nat.lt_or_ge j i with h | h
      · exact hb j h
      · rw [show j = i by omega, e1]
        omega
  · rw [eq_comm, nameF, decide_eq_true_eq]
    exact ⟨by omega, by omega, fun j hj => hb j (by omega)⟩
noncomputable def A81_isNameR_c (s : ByteArray) : Ann := { orc := [], loops := [(0, { ι := Nat, keep := [0], boxes := [], ts := fun _ i => [(3, dI (i : Int))], inv := fun _ i => i ≤ s.size ∧ ∀ j, j < i → chB s j = true, mu := fun _ i => s.size - i, rd := fun _ σ => (iOf (σ.get 3)).toNat })], cuts := [] }
namespace w19
noncomputable section
variable (z : ByteArray) (i0 : Nat) (P : List Prop) (a b : Int) (g h : Bool)
abbrev x0 := bget z (Int.toNat (i0:Int))
abbrev x1 := decide ((x0 z i0) ≥ a)
abbrev x2 := if g = true then h else false
abbrev x3 := x2 (x1 z i0 a) (decide ((x0 z i0) ≤ b))
abbrev x4 := x3 z i0 (97:Int) (122:Int)
abbrev x5 := if g = true then true else h
abbrev x6 : List Prop := ri (g = true) :: P
abbrev x7 := !(x5 (x4 z i0) (x3 z i0 (65:Int) (90:Int)))
abbrev x8 := ByteArray.size z
abbrev x9 := (x7 z i0) && (!((i0:Int) == 0))
abbrev x10 : Int := (↑(x8 z) : Int)
abbrev x11 := (x9 z i0) && (x0 z i0 != 45)
abbrev x12 := decide ((x10 z) < (1:Int))
abbrev x13 := Int.toNat ((i0:Int) + 1)
abbrev x14 := g = false → h = true
abbrev x15 := decide ((x0 z i0) < (48:Int))
abbrev x16 := VT.done [g = nameF z]
abbrev xt : VT := VT.need (x6 (x6 [x14 (x12 z) (!(x12 z))] (!(x12 z))) (!(x12 z))) (VT.ite (x5 (x12 z) (decide ((x10 z) > (12:Int)))) (x16 z false) (VT.loop Nat (fun i0 => i0 ≤ x8 z ∧ (∀ i1 < i0, chB z i1 = true)) (Int.toNat 0) [0 = (↑(Int.toNat 0) : Int), rf z] (fun i0 => VT.ite (decide ((i0:Int) < (x10 z))) (VT.need [0 ≤ (i0:Int) ∧ (i0:Int) < x10 z] (VT.need (x6 (x6 (x6 (x6 (x6 (x6 [(!(x4 z i0)) = true → x1 z i0 (65:Int) = true → ((!(x4 z i0)) && (x1 z i0 (65:Int))) = true, x14 (x4 z i0) (!(x4 z i0))] (!(x4 z i0))) ((!(x4 z i0)) && (x1 z i0 (65:Int)))) (!(x4 z i0))) (!(x4 z i0))) (x1 z i0 (97:Int))) (x1 z i0 (97:Int))) (VT.need (x6 (x6 (x6 (x6 (x6 (x6 (x6 (x6 ((x11 z i0 = true → x14 (x15 z i0) ((x11 z i0) && (!(x15 z i0)))) :: x6 ((x9 z i0 = true → (x0 z i0 != 45) = true → x11 z i0 = true) :: x6 ((x7 z i0 = true → x14 ((i0:Int) == 0) (x9 z i0)) :: x6 [] (x7 z i0)) (x7 z i0)) (x9 z i0)) (x11 z i0)) ((x11 z i0) && (!(x15 z i0)))) (x11 z i0)) (x11 z i0)) (x9 z i0)) (x9 z i0)) (x7 z i0)) (x7 z i0)) (VT.ite (x2 (x7 z i0) (x5 ((i0:Int) == 0) (x2 (x0 z i0 != 45) (x5 (x15 z i0) (decide ((x0 z i0) > (57:Int))))))) (x16 z false) (VT.need [i64In ((i0:Int) + 1)] (VT.done [(i0:Int) + 1 = (↑(x13 i0) : Int), rf z, x13 i0 ≤ x8 z ∧ (∀ i1 < x13 i0, chB z i1 = true), x8 z - x13 i0 < x8 z - i0])))))) (x16 z true))))
end
end w19
open w19 in
theorem isNameR_c (s : ByteArray)  : FnC prog 95 [.val (.string s)] (dB (nameF s)) := by
  refine FnC_owed hmix (A81_isNameR_c s) (V := xt s) (by kernel_rfl) ?_
  simp only [xt, x0, x1, x2, x3, x4, x5, x6, x7, x8, x9, x10, x11, x12, x13, x14, x15, x16, Rf, VT.holds, AllT, Sq]
  refine ⟨fun h => by rw [eq_comm, nameF, decide_eq_false_iff_not]; omega, fun h => ⟨rfl, ⟨Nat.zero_le _, fun j hj => absurd hj (Nat.not_lt_zero j)⟩, fun i ⟨hi, hb⟩ => ⟨fun hlt => ?_, fun hge => ?_⟩⟩⟩
  · have hs := bget s i
    have e1 : chB s i = true ↔ ((97 ≤ bget s i ∧ bget s i ≤ 122) ∨ (65 ≤ bget s i ∧ bget s i ≤ 90) ∨ (i ≠ 0 ∧ (bget s i = 45 ∨ (48 ≤ bget s i ∧ bget s i ≤ 57)))) := by unfold chB; rw [decide_eq_true_eq]
    refine ⟨⟨by omega, hlt⟩, fun h1 h2 => ⟨h1, h2⟩, ⟨fun h1 h2 => ⟨h1, h2⟩, fun h1 h2 => ⟨h1, h2⟩, fun h1 h2 => ⟨h1, h2⟩⟩, fun h1 => ?_, fun h1 => ⟨by unfold i64In; omega, by omega, ⟨by omega, fun j hj => ?_⟩, by omega⟩⟩
    · rw [eq_comm, nameF, decide_eq_false_iff_not]
      intro hx
      have h2 := e1.1 (hx.2.2 i (by omega))
      omega
    · rcases Nat.lt_or_ge j i with h | h
      · exact hb j h
      · rw [show j = i by omega, e1]
        omega
  · rw [eq_comm, nameF, decide_eq_true_eq]
    exact ⟨by omega, by omega, fun j hj => hb j (by omega)⟩
noncomputable def A80_top_c (b : Bld) (i : Nat) : Ann := { orc := [], loops := [], cuts := [] }
theorem top_c (b : Bld) (i : Nat) (hi : i ≤ 1000000) : FnC prog 147 [bld b, dI (i : Int)] (dI (topF b i)) := by
  refine FnC_owed hmix (A80_top_c b i) (V := .need [i64In ((i:Int) + (1:Int))] (.ite (decide ((i:Int) + (1:Int) < (b.nS:Int))) (.need [i64In ((i:Int) + (1:Int)), (0:Int) ≤ (i:Int) + (1:Int) ∧ (i:Int) + (1:Int) < (b.nS:Int)] (.done [b.fl ((i:Int) + (1:Int)).toNat = topF b i])) (.done [b.roof = topF b i]))) (by kernel_rfl) ?_
  simp only [VT.holds, AllT, Sq]
  refine ⟨by unfold i64In; omega, fun h => ⟨⟨by unfold i64In; omega, by omega, h⟩, by rw [topF, if_pos (by omega)]⟩, fun h => by rw [topF, if_neg (by omega)]⟩
noncomputable def A45_topR_c (b : Bld) (i : Nat) : Ann := { orc := [], loops := [], cuts := [] }
theorem topR_c (b : Bld) (i : Nat) (hi : i ≤ 1000000) : FnC prog 143 [bld b, dI (i : Int)] (dI (topF b i)) := by
  refine FnC_owed hmix (A45_topR_c b i) (V := .need [i64In ((i:Int) + (1:Int))] (.ite (decide ((i:Int) + (1:Int) < (b.nS:Int))) (.need [i64In ((i:Int) + (1:Int)), (0:Int) ≤ (i:Int) + (1:Int) ∧ (i:Int) + (1:Int) < (b.nS:Int)] (.done [b.fl ((i:Int) + (1:Int)).toNat = topF b i])) (.done [b.roof = topF b i]))) (by kernel_rfl) ?_
  simp only [VT.holds, AllT, Sq]
  refine ⟨by unfold i64In; omega, fun h => ⟨⟨by unfold i64In; omega, by omega, h⟩, by rw [topF, if_pos (by omega)]⟩, fun h => by rw [topF, if_neg (by omega)]⟩
noncomputable def A37_small_c (b : Bld) : Ann := { orc := [], loops := [(0, { ι := Nat, keep := [1], boxes := [1], ts := fun _ i => [(3, dI (i : Int))], inv := fun _ i => i ≤ b.nS ∧ b.nS ≤ 25 ∧ ∀ j, j < i → manyC (b.N j) = false, mu := fun _ i => b.nS - i, rd := fun _ σ => (iOf (σ.get 3)).toNat })], cuts := [] }
namespace w1c
noncomputable section
variable (z : Bld) (i0 : Nat) (p : Prop) (P : List Prop) (a : Int) (k : Nat) (g h : Bool) (U : VT)
abbrev x0 := decide ((k:Int) > a)
abbrev x1 := if g = true then true else h
abbrev x2 := decide ((k:Int) ≤ a)
abbrev x3 := if g = true then h else false
abbrev x4 := x3 (x0 (6:Int) z.nS) (x2 (20:Int) z.nS)
abbrev x5 := x1 (x4 z) (x0 (25:Int) z.nS)
abbrev x6 : List Prop := ri (g = true) :: P
abbrev x7 := x0 (8:Int) z.nO
abbrev x8 := x1 (x5 z) (x3 (x7 z) (x2 (100:Int) z.nO))
abbrev x9 := x1 (x8 z) (x0 (105:Int) z.nO)
abbrev x10 := x0 (6:Int) z.nB
abbrev x11 := i0 < z.nO → rf (z.O i0 k)
abbrev x12 := i0 < z.nB → rf (z.B i0 k)
abbrev x13 := x1 (x9 z) (x3 (x10 z) (x2 (50:Int) z.nB))
abbrev x14 := g = false → (!h) = true
abbrev x15 := x0 (14:Int) (z.N (Int.toNat (i0:Int)))
abbrev x16 := x1 (x13 z) (x0 (55:Int) z.nB)
abbrev x17 := Int.toNat ((i0:Int) + 1)
abbrev x18 := x3 (x15 z i0) (x2 (40:Int) (z.N (Int.toNat (i0:Int))))
abbrev x19 := x6 P ((!(x5 z)) && (x7 z))
abbrev x20 := x6 P ((!(x9 z)) && (x10 z))
abbrev x21 := x6 (x6 P (!(x5 z))) (!(x5 z))
abbrev x22 := x6 (x6 P (!(x9 z))) (!(x9 z))
abbrev x23 := x6 (x6 P (x0 (6:Int) z.nS)) (x0 (6:Int) z.nS)
abbrev x24 := ∀ (i0 : Nat), x12 z i0 (4:Nat)
abbrev x25 := ∀ (i0 : Nat), x12 z i0 (5:Nat)
abbrev x26 := VT.ite g (VT.done [false = smallF z]) U
abbrev x27 : List Prop := p :: rf z.name :: rf z.nS :: (∀ i0 < z.nS, rf (z.fl i0)) :: (∀ i0 < z.nS, rf (z.N i0) ∧ (∀ i1 < z.N i0, rf (z.X i0 i1)) ∧ (∀ i1 < z.N i0, rf (z.Y i0 i1))) :: rf z.roof :: rf z.nO :: (∀ (i0 : Nat), x11 z i0 (0:Nat)) :: (∀ (i0 : Nat), x11 z i0 (1:Nat)) :: (∀ (i0 : Nat), x11 z i0 (2:Nat)) :: (∀ (i0 : Nat), x11 z i0 (3:Nat)) :: (∀ (i0 : Nat), x11 z i0 (4:Nat)) :: (∀ (i0 : Nat), x11 z i0 (5:Nat)) :: rf z.nB :: (∀ (i0 : Nat), x12 z i0 (0:Nat)) :: (∀ (i0 : Nat), x12 z i0 (1:Nat)) :: (∀ (i0 : Nat), x12 z i0 (2:Nat)) :: (∀ (i0 : Nat), x12 z i0 (3:Nat)) :: P
abbrev xt : VT := VT.need (x23 z (x23 z (x6 (x6 (x6 (x14 (x4 z) (x4 z) :: x21 z (x21 z (x19 z (x19 z (x19 z (x6 (((!(x5 z)) = true → x7 z = true → ((!(x5 z)) && (x7 z)) = true) :: x14 (x5 z) (x5 z) :: x6 (x6 (x6 (x14 (x8 z) (x8 z) :: x22 z (x22 z (x20 z (x20 z (x20 z (x6 (((!(x9 z)) = true → x10 z = true → ((!(x9 z)) && (x10 z)) = true) :: x14 (x9 z) (x9 z) :: x6 (x6 (x6 (x14 (x13 z) (x13 z) :: x6 (x6 (x6 [x14 (x16 z) (x16 z)] (!(x16 z))) (!(x16 z))) (!(x16 z))) (!(x13 z))) (!(x13 z))) (!(x13 z))) (!(x9 z)))))))) (!(x8 z))) (!(x8 z))) (!(x8 z))) (!(x5 z)))))))) (!(x4 z))) (!(x4 z))) (!(x4 z))))) (x26 z (x1 (x16 z) (x0 (100:Int) (ByteArray.size z.name))) (VT.loop Nat (fun i0 => i0 ≤ z.nS ∧ z.nS ≤ 25 ∧ (∀ i1 < i0, manyC (z.N i1) = false)) (Int.toNat 0) (x27 z (0 = (↑(Int.toNat 0) : Int)) [x24 z, x25 z]) (fun i0 => VT.ite (decide ((i0:Int) < (z.nS:Int))) (VT.need [0 ≤ (i0:Int) ∧ (i0:Int) < (z.nS:Int)] (VT.need (x6 (x6 (x6 [x14 (x18 z i0) (x18 z i0)] (!(x18 z i0))) (x15 z i0)) (x15 z i0)) (x26 z (x1 (x18 z i0) (x0 (45:Int) (z.N (Int.toNat (i0:Int))))) (VT.need [i64In ((i0:Int) + 1)] (VT.done (x27 z ((i0:Int) + 1 = (↑(x17 i0) : Int)) [x24 z, x25 z, x17 i0 ≤ z.nS ∧ z.nS ≤ 25 ∧ (∀ i1 < x17 i0, manyC (z.N i1) = false), z.nS - x17 i0 < z.nS - i0])))))) (VT.done [true = smallF z]))))
end
end w1c
open w1c in
theorem small_c (b : Bld)  : FnC prog 29 [bld b] (dB (smallF b)) := by
  refine FnC_owed hmix (A37_small_c b) (V := xt b) (by kernel_rfl) ?_
  simp only [xt, x0, x1, x2, x3, x4, x5, x6, x7, x8, x9, x10, x11, x12, x13, x14, x15, x16, x17, x18, x19, x20, x21, x22, x23, x24, x25, x26, x27, Rf, VT.holds, AllT, Sq]
  refine ⟨⟨fun h1 h2 => ⟨h1, h2⟩, fun h1 h2 => ⟨h1, h2⟩⟩, fun h => ?_, fun h => ⟨rfl, ⟨Nat.zero_le _, by omega, fun j hj => absurd hj (Nat.not_lt_zero j)⟩, fun i ⟨hi, h25, hb⟩ => ⟨fun hlt => ⟨⟨by omega, hlt⟩, fun h1 => ?_, fun h1 => ⟨by unfold i64In; omega, by omega, ⟨by omega, h25, fun j hj => ?_⟩, by omega⟩⟩, fun hge => ?_⟩⟩⟩
  · rw [eq_comm, smallF, decide_eq_false_iff_not]
    intro hx
    have := hx.1
    omega
  · rw [eq_comm, smallF, decide_eq_false_iff_not]
    intro hx
    have h2 := hx.2 i (by omega)
    rw [manyC, decide_eq_false_iff_not] at h2
    omega
  · rcases Nat.lt_or_ge j i with h2 | h2
    · exact hb j h2
    · rw [show j = i by omega, manyC, decide_eq_false_iff_not]
      omega
  · rw [eq_comm, smallF, decide_eq_true_eq]
    exact ⟨by omega, fun j hj => hb j (by omega)⟩
noncomputable def A39_copied_c (b : Bld) : Ann := { orc := [(5, [(14, rPts)])], loops := [(0, { ι := Nat, keep := [1, 2, 3], boxes := [1, 2], ts := fun _ i => [(4, dI (i : Int))], bx := fun σ i => [(3, [.val (.string b.name), .row 2 (σ.nx + 50) 0 i, dI b.roof, .row 6 (σ.nx + 51) 0 b.nO, .row 6 (σ.nx + 52) 0 b.nB])], rb := fun _ i => [(3, 1, 2, i, stoC b), (3, 3, 6, b.nO, opeC b), (3, 4, 6, b.nB, boxC b)], inv := fun _ i => i ≤ b.nS, mu := fun _ i => b.nS - i, rd := fun _ σ => (iOf (σ.get 4)).toNat })], cuts := [] }
namespace w1d
noncomputable section
variable (z : Bld) (i0 i1 : Nat) (p : Prop) (P : List Prop) (a b : Int) (k l : Nat)
abbrev x0 := i0 < z.nO → rf (z.O i0 k)
abbrev x1 := i0 < z.nB → rf (z.B i0 k)
abbrev x2 := (if (decide (i0 < (0:Nat))) = true then (0:Int) else a) = b
abbrev x3 := Int.toNat (i0:Int)
abbrev x4 := Int.toNat ((i0:Int) + 1)
abbrev x5 : List Prop := rf (Value.slice none 0 0) :: P
abbrev x6 := i0 < z.nO → x2 i0 (z.O (i0 - 0) k) (z.O i0 l)
abbrev x7 := i0 < z.nB → x2 i0 (z.B (i0 - 0) k) (z.B i0 l)
abbrev x8 := ∀ (i0 : Nat), x1 z i0 (4:Nat)
abbrev x9 := ∀ (i0 : Nat), x1 z i0 (5:Nat)
abbrev x10 : List Prop := rf z.nO :: (∀ (i0 : Nat), x0 z i0 (0:Nat)) :: (∀ (i0 : Nat), x0 z i0 (1:Nat)) :: (∀ (i0 : Nat), x0 z i0 (2:Nat)) :: (∀ (i0 : Nat), x0 z i0 (3:Nat)) :: (∀ (i0 : Nat), x0 z i0 (4:Nat)) :: (∀ (i0 : Nat), x0 z i0 (5:Nat)) :: rf z.nB :: (∀ (i0 : Nat), x1 z i0 (0:Nat)) :: (∀ (i0 : Nat), x1 z i0 (1:Nat)) :: (∀ (i0 : Nat), x1 z i0 (2:Nat)) :: (∀ (i0 : Nat), x1 z i0 (3:Nat)) :: P
abbrev x11 := if (decide (i1 < i0)) = true then a else b
abbrev x12 : List Prop := (∀ i0 < z.nS, rf (z.fl i0)) :: (∀ i0 < z.nS, rf (z.N i0) ∧ (∀ i1 < z.N i0, rf (z.X i0 i1)) ∧ (∀ i1 < z.N i0, rf (z.Y i0 i1))) :: rf z.roof :: x10 z P
abbrev x13 : List Prop := rf (0:Nat) :: p :: rf z.roof :: rf (0:Nat) :: P
abbrev x14 := (0 + k) * ((nat_lit 47) + 1) ≤ 140737488355328
abbrev x15 : List Prop := (0 ≤ (i0:Int) ∧ (i0:Int) < (z.nS:Int)) :: P
abbrev x16 := DV.lst (z.N (x3 i0)) [fun i1 => dI (z.X (x3 i0) i1), fun i1 => dI (z.Y (x3 i0) i1)]
abbrev x17 : List Prop := rf z.nS :: x12 z (x8 z :: x9 z :: rf (ByteArray.mk (List.toArray [])) :: x5 (rf (0:Int) :: x5 (x5 P)))
abbrev xt : VT := VT.need [(0:Nat) ≤ (0:Nat), x14 z.nO, (0:Nat) ≤ (0:Nat), x14 z.nB] (VT.loop Nat (fun i0 => i0 ≤ z.nS) (Int.toNat 0) ((0 = (↑(Int.toNat 0) : Int)) :: (Int.toNat 0 = 0) :: (0 + z.nO = z.nO) :: (∀ (i0 : Nat), x6 z i0 (0:Nat) (0:Nat)) :: (∀ (i0 : Nat), x6 z i0 (1:Nat) (1:Nat)) :: (∀ (i0 : Nat), x6 z i0 (2:Nat) (2:Nat)) :: (∀ (i0 : Nat), x6 z i0 (3:Nat) (3:Nat)) :: (∀ (i0 : Nat), x6 z i0 (4:Nat) (4:Nat)) :: (∀ (i0 : Nat), x6 z i0 (5:Nat) (5:Nat)) :: (0 + z.nB = z.nB) :: (∀ (i0 : Nat), x7 z i0 (0:Nat) (0:Nat)) :: (∀ (i0 : Nat), x7 z i0 (1:Nat) (1:Nat)) :: (∀ (i0 : Nat), x7 z i0 (2:Nat) (2:Nat)) :: (∀ (i0 : Nat), x7 z i0 (3:Nat) (3:Nat)) :: (∀ (i0 : Nat), x7 z i0 (4:Nat) (4:Nat)) :: (∀ (i0 : Nat), x7 z i0 (5:Nat) (5:Nat)) :: rf z.name :: x13 z (Int.toNat 0 = 0) ((0 + z.nO = z.nO) :: rf (0:Nat) :: (0 + z.nB = z.nB) :: rf z.name :: x17 z [])) (fun i0 => VT.ite (decide ((i0:Int) < (z.nS:Int))) (VT.need (x15 z i0 (x15 z i0 [FnC prog 46 [x16 z i0] (x16 z i0), i0 ≤ i0, (i0 + 1) * ((nat_lit 31) + 1) ≤ 140737488355328, (1:Nat) ≤ (1:Nat)])) (VT.need [i64In ((i0:Int) + 1)] (VT.done (((i0:Int) + 1 = (↑(x4 i0) : Int)) :: (i0 + 1 = x4 i0) :: (∀ i1 < x4 i0, x11 i0 i1 (z.fl i1) (z.fl (x3 i0)) = z.fl i1) :: (∀ i1 < x4 i0, (if (decide (i1 < i0)) = true then (z.N i1) else (z.N (x3 i0))) = z.N i1 ∧ (∀ i2 < z.N i1, x11 i0 i1 (z.X i1 i2) (z.X (x3 i0) i2) = z.X i1 i2) ∧ (∀ i2 < z.N i1, x11 i0 i1 (z.Y i1 i2) (z.Y (x3 i0) i2) = z.Y i1 i2)) :: x10 z (x8 z :: x9 z :: rf z.name :: x13 z (i0 + 1 = x4 i0) (rf z.nO :: rf (0:Nat) :: rf z.nB :: rf z.name :: x17 z [x4 i0 ≤ z.nS, z.nS - x4 i0 < z.nS - i0])))))) (VT.done ((i0 ≤ i0) :: (z.nO ≤ z.nO) :: (z.nB ≤ z.nB) :: rf z.name :: (i0 = z.nS) :: x12 z [x8 z, x9 z]))))
end
end w1d
open w1d in
theorem copied_c (b : Bld) (hS : b.nS ≤ 1000) (hO : b.nO ≤ 1000) (hB : b.nB ≤ 1000) (hN : ∀ i, i < b.nS → b.N i ≤ 1000) : FnC prog 13 [bld b] (bld b) := by
  refine FnC_owed hmix (A39_copied_c b) (V := xt b) (by kernel_rfl) ?_
  simp only [xt, x0, x1, x2, x3, x4, x5, x6, x7, x8, x9, x10, x11, x12, x13, x14, x15, x16, x17, Rf, VT.holds, AllT, Sq]
  simp only [lt_zero_if, Nat.sub_zero, Nat.zero_add, implies_true, and_true, true_and]
  refine ⟨⟨Nat.le_refl _, by omega, Nat.le_refl _, by omega⟩, rfl, Nat.zero_le _, fun i hi => ⟨fun hlt => ?_, fun hge => by omega⟩⟩
  have hNi := hN i (by omega)
  refine ⟨⟨⟨by omega, hlt⟩, ⟨by omega, hlt⟩, points_c _ _ _ (by omega), Nat.le_refl _, by omega, Nat.le_refl _⟩, by unfold i64In; omega, by omega, last_if (f := b.fl) rfl, fun j hj => ?_, by omega, by omega⟩
  by_cases h : j < i
  · simp only [if_pos h, implies_true, and_true]
  · have : j = i := by omega
    subst this
    simp only [Nat.lt_irrefl, if_false, implies_true, and_true]
end Go.Abs
