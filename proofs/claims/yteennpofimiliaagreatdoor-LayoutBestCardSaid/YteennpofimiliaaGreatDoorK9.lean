/- Contracts. -/
import Derived.Test.YteennpofimiliaaGreatDoorK8
set_option linter.unusedVariables false
set_option linter.unusedSimpArgs false
set_option maxRecDepth 100000
namespace Go.Abs
open Go
abbrev bx (a b c d e f : Int) : DV := .val (.agg #[.int .i64 a, .int .i64 b, .int .i64 c, .int .i64 d, .int .i64 e, .int .i64 f])
def ckB (a b c d e f : Int) : Int := if ¬ (inF a = true ∧ inF b = true ∧ inF c = true ∧ inF d = true ∧ inF e = true ∧ inF f = true) then 2 else if a ≥ d ∨ b ≥ e ∨ c ≥ f then 3 else 0
def okC (a1 b1 c1 d1 e1 f1 a2 b2 c2 d2 e2 f2 : Int) : Bool := decide (max a1 a2 < min d1 d2 ∧ max b1 b2 < min e1 e2 ∧ max c1 c2 < min f1 f2)
def erB (a1 b1 c1 d1 e1 f1 a2 b2 c2 d2 e2 f2 : Int) : Int := if ckB a1 b1 c1 d1 e1 f1 ≠ 0 then ckB a1 b1 c1 d1 e1 f1 else ckB a2 b2 c2 d2 e2 f2
def rCkB : Orc := .res fun l => dI (ckB (fI 0 (arg l 0)) (fI 1 (arg l 0)) (fI 2 (arg l 0)) (fI 3 (arg l 0)) (fI 4 (arg l 0)) (fI 5 (arg l 0)))
def rErB : Orc := .res fun l => dI (if ckB (colI 0 (arg l 0) 0) (colI 1 (arg l 0) 0) (colI 2 (arg l 0) 0) (colI 3 (arg l 0) 0) (colI 4 (arg l 0) 0) (colI 5 (arg l 0) 0) ≠ 0 then ckB (colI 0 (arg l 0) 0) (colI 1 (arg l 0) 0) (colI 2 (arg l 0) 0) (colI 3 (arg l 0) 0) (colI 4 (arg l 0) 0) (colI 5 (arg l 0) 0) else ckB (colI 0 (arg l 0) 1) (colI 1 (arg l 0) 1) (colI 2 (arg l 0) 1) (colI 3 (arg l 0) 1) (colI 4 (arg l 0) 1) (colI 5 (arg l 0) 1))
def rCm : Orc := .res fun l => .tup [bx (max (fI 0 (arg l 0)) (fI 0 (arg l 1))) (max (fI 1 (arg l 0)) (fI 1 (arg l 1))) (max (fI 2 (arg l 0)) (fI 2 (arg l 1))) (min (fI 3 (arg l 0)) (fI 3 (arg l 1))) (min (fI 4 (arg l 0)) (fI 4 (arg l 1))) (min (fI 5 (arg l 0)) (fI 5 (arg l 1))), dB (okC (fI 0 (arg l 0)) (fI 1 (arg l 0)) (fI 2 (arg l 0)) (fI 3 (arg l 0)) (fI 4 (arg l 0)) (fI 5 (arg l 0)) (fI 0 (arg l 1)) (fI 1 (arg l 1)) (fI 2 (arg l 1)) (fI 3 (arg l 1)) (fI 4 (arg l 1)) (fI 5 (arg l 1)))]
def cmR (b : Bool) (x : Int) : Int := if b = true then x else 0
def rCmR : Orc := .res fun l => .tup [bx (cmR (okC (fI 0 (arg l 0)) (fI 1 (arg l 0)) (fI 2 (arg l 0)) (fI 3 (arg l 0)) (fI 4 (arg l 0)) (fI 5 (arg l 0)) (fI 0 (arg l 1)) (fI 1 (arg l 1)) (fI 2 (arg l 1)) (fI 3 (arg l 1)) (fI 4 (arg l 1)) (fI 5 (arg l 1))) (max (fI 0 (arg l 0)) (fI 0 (arg l 1)))) (cmR (okC (fI 0 (arg l 0)) (fI 1 (arg l 0)) (fI 2 (arg l 0)) (fI 3 (arg l 0)) (fI 4 (arg l 0)) (fI 5 (arg l 0)) (fI 0 (arg l 1)) (fI 1 (arg l 1)) (fI 2 (arg l 1)) (fI 3 (arg l 1)) (fI 4 (arg l 1)) (fI 5 (arg l 1))) (max (fI 1 (arg l 0)) (fI 1 (arg l 1)))) (cmR (okC (fI 0 (arg l 0)) (fI 1 (arg l 0)) (fI 2 (arg l 0)) (fI 3 (arg l 0)) (fI 4 (arg l 0)) (fI 5 (arg l 0)) (fI 0 (arg l 1)) (fI 1 (arg l 1)) (fI 2 (arg l 1)) (fI 3 (arg l 1)) (fI 4 (arg l 1)) (fI 5 (arg l 1))) (max (fI 2 (arg l 0)) (fI 2 (arg l 1)))) (cmR (okC (fI 0 (arg l 0)) (fI 1 (arg l 0)) (fI 2 (arg l 0)) (fI 3 (arg l 0)) (fI 4 (arg l 0)) (fI 5 (arg l 0)) (fI 0 (arg l 1)) (fI 1 (arg l 1)) (fI 2 (arg l 1)) (fI 3 (arg l 1)) (fI 4 (arg l 1)) (fI 5 (arg l 1))) (min (fI 3 (arg l 0)) (fI 3 (arg l 1)))) (cmR (okC (fI 0 (arg l 0)) (fI 1 (arg l 0)) (fI 2 (arg l 0)) (fI 3 (arg l 0)) (fI 4 (arg l 0)) (fI 5 (arg l 0)) (fI 0 (arg l 1)) (fI 1 (arg l 1)) (fI 2 (arg l 1)) (fI 3 (arg l 1)) (fI 4 (arg l 1)) (fI 5 (arg l 1))) (min (fI 4 (arg l 0)) (fI 4 (arg l 1)))) (cmR (okC (fI 0 (arg l 0)) (fI 1 (arg l 0)) (fI 2 (arg l 0)) (fI 3 (arg l 0)) (fI 4 (arg l 0)) (fI 5 (arg l 0)) (fI 0 (arg l 1)) (fI 1 (arg l 1)) (fI 2 (arg l 1)) (fI 3 (arg l 1)) (fI 4 (arg l 1)) (fI 5 (arg l 1))) (min (fI 5 (arg l 0)) (fI 5 (arg l 1)))), dB (okC (fI 0 (arg l 0)) (fI 1 (arg l 0)) (fI 2 (arg l 0)) (fI 3 (arg l 0)) (fI 4 (arg l 0)) (fI 5 (arg l 0)) (fI 0 (arg l 1)) (fI 1 (arg l 1)) (fI 2 (arg l 1)) (fI 3 (arg l 1)) (fI 4 (arg l 1)) (fI 5 (arg l 1)))]
def isO (a1 b1 c1 d1 e1 f1 a2 b2 c2 d2 e2 f2 : Int) : Bool := decide (erB a1 b1 c1 d1 e1 f1 a2 b2 c2 d2 e2 f2 = 0) && okC a1 b1 c1 d1 e1 f1 a2 b2 c2 d2 e2 f2
def rOver : Orc := .res fun l => .tup [dB (isO (fI 0 (arg l 0)) (fI 1 (arg l 0)) (fI 2 (arg l 0)) (fI 3 (arg l 0)) (fI 4 (arg l 0)) (fI 5 (arg l 0)) (fI 0 (arg l 1)) (fI 1 (arg l 1)) (fI 2 (arg l 1)) (fI 3 (arg l 1)) (fI 4 (arg l 1)) (fI 5 (arg l 1))), dI (erB (fI 0 (arg l 0)) (fI 1 (arg l 0)) (fI 2 (arg l 0)) (fI 3 (arg l 0)) (fI 4 (arg l 0)) (fI 5 (arg l 0)) (fI 0 (arg l 1)) (fI 1 (arg l 1)) (fI 2 (arg l 1)) (fI 3 (arg l 1)) (fI 4 (arg l 1)) (fI 5 (arg l 1)))]
def six (a b c d e f : Int) (j : Nat) : Int := [a, b, c, d, e, f].getD j 0
theorem six_all {a b c d e f : Int} : (∀ j, j < 6 → inF (six a b c d e f j) = true) ↔ (inF a = true ∧ inF b = true ∧ inF c = true ∧ inF d = true ∧ inF e = true ∧ inF f = true) :=
  ⟨fun h => ⟨h 0 (by omega), h 1 (by omega), h 2 (by omega), h 3 (by omega), h 4 (by omega), h 5 (by omega)⟩, fun ⟨h0, h1, h2, h3, h4, h5⟩ j hj => by
    match j, hj with
    | 0, _ => exact h0
    | 1, _ => exact h1
    | 2, _ => exact h2
    | 3, _ => exact h3
    | 4, _ => exact h4
    | 5, _ => exact h5⟩
theorem maxs1 (a b : Int) : maxs a [b] = max a b := by simp only [maxs]; split <;> omega
theorem mins1 (a b : Int) : mins a [b] = min a b := by simp only [mins]; split <;> omega
noncomputable def A30_checkBox_c (a b c d e f : Int) : Ann := { orc := [(4, [(1, rIn)])], loops := [(0, { ι := Nat, keep := [1, 17], boxes := [1], ts := fun _ i => [(18, dI (i : Int))], inv := fun _ i => i ≤ 6 ∧ ∀ j, j < i → inF (six a b c d e f j) = true, mu := fun _ i => 6 - i, rd := fun _ σ => (iOf (σ.get 18)).toNat })], cuts := [] }
namespace w12
noncomputable section
structure Z where
  a : Int
  b : Int
  c : Int
  d : Int
  e : Int
  f : Int
variable (z : Z) (i0 : Nat) (P : List Prop) (a : Int)
abbrev x0 := decide (z.a ≥ z.d)
abbrev x1 := if (x0 z) = true then true else (decide (z.b ≥ z.e))
abbrev x2 := Int.toNat ((i0:Int) + 1)
abbrev x3 : List Prop := ri ((!(x0 z)) = true) :: P
abbrev x4 : List Prop := ri ((!(x1 z)) = true) :: P
abbrev x5 : List Prop := rf z.a :: rf z.b :: rf z.c :: rf z.d :: rf z.e :: rf z.f :: P
abbrev x6 := List.getD [z.a, z.b, z.c, z.d, z.e, z.f] (Int.toNat (i0:Int)) 0
abbrev x7 := VT.done [a = ckB z.a z.b z.c z.d z.e z.f]
abbrev xt : VT := VT.loop Nat (fun i0 => i0 ≤ 6 ∧ (∀ i1 < i0, inF (six z.a z.b z.c z.d z.e z.f i1) = true)) (Int.toNat 0) ((0 = (↑(Int.toNat 0) : Int)) :: x5 z (x5 z [])) (fun i0 => VT.ite (decide ((i0:Int) < (6:Int))) (VT.need [0 ≤ (i0:Int) ∧ (i0:Int) < (↑(6:Nat) : Int)] (VT.need [FnC prog 148 [dI (x6 z i0)] (dB (inF (x6 z i0)))] (VT.ite (!(inF (x6 z i0))) (x7 z (2:Int)) (VT.need [i64In ((i0:Int) + 1)] (VT.done (((i0:Int) + 1 = (↑(x2 i0) : Int)) :: x5 z (x5 z [x2 i0 ≤ 6 ∧ (∀ i1 < x2 i0, inF (six z.a z.b z.c z.d z.e z.f i1) = true), 6 - x2 i0 < 6 - i0]))))))) (VT.need (x3 z (x3 z (x3 z (x3 z ((x0 z = false → (!(x0 z)) = true) :: x4 z (x4 z (x4 z (x4 z [x1 z = false → (!(x1 z)) = true])))))))) (VT.ite (if (x1 z) = true then true else (decide (z.c ≥ z.f))) (x7 z (3:Int)) (x7 z (0:Int)))))
end
end w12
open w12 in
theorem checkBox_c (a b c d e f : Int)  : FnC prog 118 [bx a b c d e f] (dI (ckB a b c d e f)) := by
  refine FnC_owed hmix (A30_checkBox_c a b c d e f) (V := xt ⟨a, b, c, d, e, f⟩) (by kernel_rfl) ?_
  simp only [xt, x0, x1, x2, x3, x4, x5, x6, x7, Rf, VT.holds, AllT, Sq]
  refine ⟨rfl, ⟨by omega, fun j hj => (by omega)⟩, fun i ⟨hi, hb⟩ => ⟨fun hlt => ⟨by omega, inside_c _, fun hx => ?_, fun hx => ⟨by unfold i64In; omega, rfl, ⟨by omega, fun j hj => ?_⟩, by omega⟩⟩, fun hge => ?_⟩⟩
  · rw [ckB, if_pos (fun hall => ?_)]
    have := six_all.2 hall i (by omega)
    rw [show [a, b, c, d, e, f].getD i 0 = six a b c d e f i from rfl, this] at hx
    cases hx
  · by_cases ej : j = i
    · subst ej; exact hx
    · exact hb j (by omega)
  · have hall := six_all.1 (fun j hj => hb j (by omega))
    refine ⟨fun h => ?_, fun h => ?_⟩
    · rw [ckB, if_neg (fun hx => hx hall), if_pos (by omega)]
    · rw [ckB, if_neg (fun hx => hx hall), if_neg (by omega)]
noncomputable def A29_checkBoxR_c (a b c d e f : Int) : Ann := { orc := [(1, [(2, rIn), (7, rIn), (13, rIn), (19, rIn), (25, rIn), (31, rIn)])], loops := [], cuts := [] }
namespace w13
noncomputable section
structure Z where
  a : Int
  b : Int
  c : Int
  d : Int
  e : Int
  f : Int
variable (z : Z) (p : Prop) (P : List Prop) (a b : Int) (g h : Bool)
abbrev x0 := if g = true then true else h
abbrev x1 := x0 g (!(inF a))
abbrev x2 := x1 z.b (!(inF z.a))
abbrev x3 : List Prop := ri ((!g) = true) :: P
abbrev x4 := x1 z.c (x2 z)
abbrev x5 := decide (z.a ≥ z.d)
abbrev x6 := x1 z.d (x4 z)
abbrev x7 := g = false → (!h) = true
abbrev x8 := x0 (x5 z) (decide (z.b ≥ z.e))
abbrev x9 := x1 z.e (x6 z)
abbrev x10 := FnC prog 104 [dI a] (dB (inF b))
abbrev x11 := (!g) = true → p
abbrev x12 := VT.done [a = ckB z.a z.b z.c z.d z.e z.f]
abbrev xt : VT := VT.need (x10 z.a z.a :: x3 (x3 (x11 (x10 z.b z.b) (!(inF z.a)) :: x3 (x7 (!(inF z.a)) (!(inF z.a)) :: x3 (x3 (x11 (x10 z.c z.c) (x2 z) :: x3 (x7 (x2 z) (x2 z) :: x3 (x3 (x11 (x10 z.d z.d) (x4 z) :: x3 (x7 (x4 z) (x4 z) :: x3 (x3 (x11 (x10 z.e z.e) (x6 z) :: x3 (x7 (x6 z) (x6 z) :: x3 (x3 (x11 (x10 z.f z.f) (x9 z) :: x3 [x7 (x9 z) (x9 z)] (x9 z)) (x9 z)) (x9 z)) (x6 z)) (x6 z)) (x6 z)) (x4 z)) (x4 z)) (x4 z)) (x2 z)) (x2 z)) (x2 z)) (!(inF z.a))) (!(inF z.a))) (!(inF z.a))) (VT.ite (x1 z.f (x9 z)) (x12 z (2:Int)) (VT.need (x3 (x3 (x3 (x3 (x7 (x5 z) (x5 z) :: x3 (x3 (x3 (x3 [x7 (x8 z) (x8 z)] (x8 z)) (x8 z)) (x8 z)) (x8 z)) (x5 z)) (x5 z)) (x5 z)) (x5 z)) (VT.ite (x0 (x8 z) (decide (z.c ≥ z.f))) (x12 z (3:Int)) (x12 z (0:Int)))))
end
end w13
open w13 in
theorem checkBoxR_c (a b c d e f : Int)  : FnC prog 99 [bx a b c d e f] (dI (ckB a b c d e f)) := by
  refine FnC_owed hmix (A29_checkBoxR_c a b c d e f) (V := xt ⟨a, b, c, d, e, f⟩) (by kernel_rfl) ?_
  simp only [xt, x0, x1, x2, x3, x4, x5, x6, x7, x8, x9, x10, x11, x12, Rf, VT.holds, AllT, Sq]
  refine ⟨⟨in_c a, fun _ => in_c b, fun _ => in_c c, fun _ => in_c d, fun _ => in_c e, fun _ => in_c f⟩, fun h => ?_, fun h => ?_⟩
  · rw [ckB, if_pos (fun ⟨h0, h1, h2, h3, h4, h5⟩ => by simp [h0, h1, h2, h3, h4, h5] at h)]
  · have hall : inF a = true ∧ inF b = true ∧ inF c = true ∧ inF d = true ∧ inF e = true ∧ inF f = true := by simpa [and_assoc] using h
    refine ⟨fun h => ?_, fun h => ?_⟩
    · rw [ckB, if_neg (fun hx => hx hall), if_pos (by omega)]
    · rw [ckB, if_neg (fun hx => hx hall), if_neg (by omega)]
noncomputable def A69_checkBoxes_c (A B C D E F : Nat → Int) : Ann := { orc := [(4, [(1, rCkB)])], loops := [(0, { ι := Nat, keep := [6, 7], boxes := [], ts := fun _ i => [(8, dI (i : Int))], inv := fun _ i => i ≤ 2 ∧ ∀ j, j < i → ckB (A j) (B j) (C j) (D j) (E j) (F j) = 0, mu := fun _ i => 2 - i, rd := fun _ σ => (iOf (σ.get 8)).toNat })], cuts := [] }
namespace w14
noncomputable section
structure Z where
  A : Nat → Int
  B : Nat → Int
  C : Nat → Int
  D : Nat → Int
  E : Nat → Int
  F : Nat → Int
variable (z : Z) (i0 i1 : Nat) (p : Prop) (P : List Prop) (k : Nat) (j10a : Nat → Int) (j14a : List Value)
abbrev x0 := j10a (0:Nat)
abbrev x1 := j10a (Int.toNat (i0:Int))
abbrev x2 := j10a (1:Nat)
abbrev x3 := i0 < 2 → rf (j10a i0)
abbrev x4 : List Value := Value.int IntKind.i64 (x1 i0 j10a) :: j14a
abbrev x5 := Int.toNat ((i0:Int) + 1)
abbrev x6 : Int := (↑(2:Nat) : Int)
abbrev x7 := ckB (x0 z.A) (x0 z.B) (x0 z.C) (x0 z.D) (x0 z.E) (x0 z.F)
abbrev x8 := ckB (x1 i0 z.A) (x1 i0 z.B) (x1 i0 z.C) (x1 i0 z.D) (x1 i0 z.E) (x1 i0 z.F)
abbrev x9 : List Prop := p :: rf (2:Nat) :: (∀ (i0 : Nat), x3 i0 z.A) :: (∀ (i0 : Nat), x3 i0 z.B) :: (∀ (i0 : Nat), x3 i0 z.C) :: (∀ (i0 : Nat), x3 i0 z.D) :: (∀ (i0 : Nat), x3 i0 z.E) :: P
abbrev x10 := if (x7 z) ≠ (0:Int) then (x7 z) else (ckB (x2 z.A) (x2 z.B) (x2 z.C) (x2 z.D) (x2 z.E) (x2 z.F))
abbrev x11 := i1 < k → ckB (z.A i1) (z.B i1) (z.C i1) (z.D i1) (z.E i1) (z.F i1) = 0
abbrev xt : VT := VT.loop Nat (fun i0 => i0 ≤ 2 ∧ (∀ (i1 : Nat), x11 z i1 i0)) (Int.toNat 0) (x9 z (0 = (↑(Int.toNat 0) : Int)) [∀ (i0 : Nat), x3 i0 z.F, rf x6]) (fun i0 => VT.ite (decide ((i0:Int) < x6)) (VT.need [0 ≤ (i0:Int) ∧ (i0:Int) < x6] (VT.need [FnC prog 118 [DV.val (Value.agg (Array.mk (x4 i0 z.A (x4 i0 z.B (x4 i0 z.C (x4 i0 z.D (x4 i0 z.E (x4 i0 z.F []))))))))] (dI (x8 z i0))] (VT.ite (x8 z i0 != 0) (VT.done [x8 z i0 = x10 z]) (VT.need [i64In ((i0:Int) + 1)] (VT.done (x9 z ((i0:Int) + 1 = (↑(x5 i0) : Int)) [∀ (i0 : Nat), x3 i0 z.F, rf x6, x5 i0 ≤ 2 ∧ (∀ (i1 : Nat), x11 z i1 (x5 i0)), 2 - x5 i0 < 2 - i0])))))) (VT.done [0 = x10 z]))
end
end w14
open w14 in
theorem checkBoxes_c (A B C D E F : Nat → Int)  : FnC prog 130 [.lst 2 [fun i => dI (A i), fun i => dI (B i), fun i => dI (C i), fun i => dI (D i), fun i => dI (E i), fun i => dI (F i)]] (dI (if ckB (A 0) (B 0) (C 0) (D 0) (E 0) (F 0) ≠ 0 then ckB (A 0) (B 0) (C 0) (D 0) (E 0) (F 0) else ckB (A 1) (B 1) (C 1) (D 1) (E 1) (F 1))) := by
  refine FnC_owed hmix (A69_checkBoxes_c A B C D E F) (V := xt ⟨A, B, C, D, E, F⟩) (by kernel_rfl) ?_
  simp only [xt, x0, x1, x2, x3, x4, x5, x6, x7, x8, x9, x10, x11, Rf, VT.holds, AllT, Sq]
  refine ⟨rfl, ⟨by omega, fun j hj => (by omega)⟩, fun i ⟨hi, hb⟩ => ⟨fun hlt => ⟨by omega, checkBox_c _ _ _ _ _ _, fun hx => ?_, fun hx => ⟨by unfold i64In; omega, rfl, ⟨by omega, fun j hj => ?_⟩, by omega⟩⟩, fun hge => ?_⟩⟩
  · match i, hlt with
    | 0, _ => rw [if_pos hx]
    | 1, _ => rw [if_neg (fun h => h (hb 0 (by omega)))]
    | i + 2, hlt => omega
  · by_cases ej : j = i
    · subst ej; exact hx
    · exact hb j (by omega)
  · rw [if_neg (fun h => h (hb 0 (by omega))), hb 1 (by omega)]
noncomputable def A70_common_c (a1 b1 c1 d1 e1 f1 a2 b2 c2 d2 e2 f2 : Int) : Ann := { orc := [], loops := [], cuts := [] }
namespace w15
noncomputable section
structure Z where
  a1 : Int
  b1 : Int
  c1 : Int
  d1 : Int
  e1 : Int
  f1 : Int
  a2 : Int
  b2 : Int
  c2 : Int
  d2 : Int
  e2 : Int
  f2 : Int
variable (z : Z) (a b c d : Int)
abbrev x0 := decide ((maxs a [b]) < (mins c [d]))
abbrev x1 := x0 z.a1 z.a2 z.d1 z.d2
abbrev x2 := if (x1 z) = true then (x0 z.b1 z.b2 z.e1 z.e2) else false
abbrev xt : VT := VT.need [ri (x1 z = true), ri (x1 z = true), ri (x1 z = true), ri (x1 z = true), ri (x1 z = true), ri (x2 z = true), ri (x2 z = true), ri (x2 z = true), ri (x2 z = true), ri (x2 z = true)] (VT.done [maxs z.a1 [z.a2] = max z.a1 z.a2, maxs z.b1 [z.b2] = max z.b1 z.b2, maxs z.c1 [z.c2] = max z.c1 z.c2, mins z.d1 [z.d2] = min z.d1 z.d2, mins z.e1 [z.e2] = min z.e1 z.e2, mins z.f1 [z.f2] = min z.f1 z.f2, (if (x2 z) = true then (x0 z.c1 z.c2 z.f1 z.f2) else false) = okC z.a1 z.b1 z.c1 z.d1 z.e1 z.f1 z.a2 z.b2 z.c2 z.d2 z.e2 z.f2])
end
end w15
open w15 in
theorem common_c (a1 b1 c1 d1 e1 f1 a2 b2 c2 d2 e2 f2 : Int)  : FnC prog 131 [bx a1 b1 c1 d1 e1 f1, bx a2 b2 c2 d2 e2 f2] (.tup [bx (max a1 a2) (max b1 b2) (max c1 c2) (min d1 d2) (min e1 e2) (min f1 f2), dB (okC a1 b1 c1 d1 e1 f1 a2 b2 c2 d2 e2 f2)]) := by
  refine FnC_owed hmix (A70_common_c a1 b1 c1 d1 e1 f1 a2 b2 c2 d2 e2 f2) (V := xt ⟨a1, b1, c1, d1, e1, f1, a2, b2, c2, d2, e2, f2⟩) (by kernel_rfl) ?_
  simp only [xt, x0, x1, x2, Rf, VT.holds, AllT, Sq]
  simp only [maxs1, mins1, true_and]
  simp [okC, Bool.and_assoc]
noncomputable def A31_commonR_c (a1 b1 c1 d1 e1 f1 a2 b2 c2 d2 e2 f2 : Int) : Ann := { orc := [], loops := [], cuts := [] }
namespace w16
noncomputable section
structure Z where
  a1 : Int
  b1 : Int
  c1 : Int
  d1 : Int
  e1 : Int
  f1 : Int
  a2 : Int
  b2 : Int
  c2 : Int
  d2 : Int
  e2 : Int
  f2 : Int
variable (z : Z) (P : List Prop) (a b : Int)
abbrev x0 := okC z.a1 z.b1 z.c1 z.d1 z.e1 z.f1 z.a2 z.b2 z.c2 z.d2 z.e2 z.f2
abbrev x1 := decide ((maxs z.a1 [z.a2]) ≥ (mins z.d1 [z.d2]))
abbrev x2 := a = cmR (x0 z) b
abbrev x3 := if (x1 z) = true then true else (decide ((maxs z.b1 [z.b2]) ≥ (mins z.e1 [z.e2])))
abbrev x4 : List Prop := x2 z (0:Int) a :: P
abbrev x5 : List Prop := ri ((!(x1 z)) = true) :: P
abbrev x6 : List Prop := ri ((!(x3 z)) = true) :: P
abbrev xt : VT := VT.need (x5 z (x5 z (x5 z (x5 z ((x1 z = false → (!(x1 z)) = true) :: x6 z (x6 z (x6 z (x6 z [x3 z = false → (!(x3 z)) = true])))))))) (VT.ite (if (x3 z) = true then true else (decide ((maxs z.c1 [z.c2]) ≥ (mins z.f1 [z.f2])))) (VT.done (x4 z (x4 z (x4 z (x4 z (x4 z (x4 z [false = x0 z] (min z.f1 z.f2)) (min z.e1 z.e2)) (min z.d1 z.d2)) (max z.c1 z.c2)) (max z.b1 z.b2)) (max z.a1 z.a2))) (VT.done [x2 z (maxs z.a1 [z.a2]) (max z.a1 z.a2), x2 z (maxs z.b1 [z.b2]) (max z.b1 z.b2), x2 z (maxs z.c1 [z.c2]) (max z.c1 z.c2), x2 z (mins z.d1 [z.d2]) (min z.d1 z.d2), x2 z (mins z.e1 [z.e2]) (min z.e1 z.e2), x2 z (mins z.f1 [z.f2]) (min z.f1 z.f2), true = x0 z]))
end
end w16
open w16 in
theorem commonR_c (a1 b1 c1 d1 e1 f1 a2 b2 c2 d2 e2 f2 : Int)  : FnC prog 105 [bx a1 b1 c1 d1 e1 f1, bx a2 b2 c2 d2 e2 f2] (.tup [bx (cmR (okC a1 b1 c1 d1 e1 f1 a2 b2 c2 d2 e2 f2) (max a1 a2)) (cmR (okC a1 b1 c1 d1 e1 f1 a2 b2 c2 d2 e2 f2) (max b1 b2)) (cmR (okC a1 b1 c1 d1 e1 f1 a2 b2 c2 d2 e2 f2) (max c1 c2)) (cmR (okC a1 b1 c1 d1 e1 f1 a2 b2 c2 d2 e2 f2) (min d1 d2)) (cmR (okC a1 b1 c1 d1 e1 f1 a2 b2 c2 d2 e2 f2) (min e1 e2)) (cmR (okC a1 b1 c1 d1 e1 f1 a2 b2 c2 d2 e2 f2) (min f1 f2)), dB (okC a1 b1 c1 d1 e1 f1 a2 b2 c2 d2 e2 f2)]) := by
  refine FnC_owed hmix (A31_commonR_c a1 b1 c1 d1 e1 f1 a2 b2 c2 d2 e2 f2) (V := xt ⟨a1, b1, c1, d1, e1, f1, a2, b2, c2, d2, e2, f2⟩) (by kernel_rfl) ?_
  simp only [xt, x0, x1, x2, x3, x4, x5, x6, Rf, VT.holds, AllT, Sq]
  simp only [maxs1, mins1]
  refine ⟨fun h => ?_, fun h => ?_⟩
  · have : okC a1 b1 c1 d1 e1 f1 a2 b2 c2 d2 e2 f2 = false := by unfold okC; rw [decide_eq_false_iff_not]; omega
    simp [this, cmR]
  · have : okC a1 b1 c1 d1 e1 f1 a2 b2 c2 d2 e2 f2 = true := by unfold okC; rw [decide_eq_true_eq]; omega
    simp [this, cmR]
noncomputable def A27_overlap_c (a1 b1 c1 d1 e1 f1 a2 b2 c2 d2 e2 f2 : Int) : Ann := { orc := [(1, [(3, rErB)]), (4, [(2, rCm)])], loops := [], cuts := [] }
theorem overlap_c (a1 b1 c1 d1 e1 f1 a2 b2 c2 d2 e2 f2 : Int)  : FnC prog 86 [bx a1 b1 c1 d1 e1 f1, bx a2 b2 c2 d2 e2 f2] (.tup [dB (isO a1 b1 c1 d1 e1 f1 a2 b2 c2 d2 e2 f2), dI (erB a1 b1 c1 d1 e1 f1 a2 b2 c2 d2 e2 f2)]) := by
  refine FnC_owed hmix (A27_overlap_c a1 b1 c1 d1 e1 f1 a2 b2 c2 d2 e2 f2) (V := .need [(2:Nat) ≤ (2:Nat), FnC prog 130 [.lst (2:Nat) [fun a => (dI (List.getD [a1, a2] a (0:Int))), fun a => (dI (List.getD [b1, b2] a (0:Int))), fun a => (dI (List.getD [c1, c2] a (0:Int))), fun a => (dI (List.getD [d1, d2] a (0:Int))), fun a => (dI (List.getD [e1, e2] a (0:Int))), fun a => (dI (List.getD [f1, f2] a (0:Int)))]] ((dI (if ckB a1 b1 c1 d1 e1 f1 ≠ (0:Int) then ckB a1 b1 c1 d1 e1 f1 else ckB a2 b2 c2 d2 e2 f2)))] (.ite ((if ckB a1 b1 c1 d1 e1 f1 ≠ (0:Int) then ckB a1 b1 c1 d1 e1 f1 else ckB a2 b2 c2 d2 e2 f2) != (0:Int)) (.done [false = isO a1 b1 c1 d1 e1 f1 a2 b2 c2 d2 e2 f2, (if ckB a1 b1 c1 d1 e1 f1 ≠ (0:Int) then ckB a1 b1 c1 d1 e1 f1 else ckB a2 b2 c2 d2 e2 f2) = erB a1 b1 c1 d1 e1 f1 a2 b2 c2 d2 e2 f2]) (.need [FnC prog 131 [.val (.agg ⟨[.int .i64 a1, .int .i64 b1, .int .i64 c1, .int .i64 d1, .int .i64 e1, .int .i64 f1]⟩), .val (.agg ⟨[.int .i64 a2, .int .i64 b2, .int .i64 c2, .int .i64 d2, .int .i64 e2, .int .i64 f2]⟩)] (.tup [.val (.agg ⟨[.int .i64 (max a1 a2), .int .i64 (max b1 b2), .int .i64 (max c1 c2), .int .i64 (min d1 d2), .int .i64 (min e1 e2), .int .i64 (min f1 f2)]⟩), (dB (okC a1 b1 c1 d1 e1 f1 a2 b2 c2 d2 e2 f2))])] (.done [okC a1 b1 c1 d1 e1 f1 a2 b2 c2 d2 e2 f2 = isO a1 b1 c1 d1 e1 f1 a2 b2 c2 d2 e2 f2, (0:Int) = erB a1 b1 c1 d1 e1 f1 a2 b2 c2 d2 e2 f2])))) (by kernel_rfl) ?_
  simp only [VT.holds, AllT, Sq]
  refine ⟨⟨Nat.le_refl 2, checkBoxes_c _ _ _ _ _ _⟩, fun h => ?_, fun h => ⟨common_c a1 b1 c1 d1 e1 f1 a2 b2 c2 d2 e2 f2, ?_, ?_⟩⟩
  · have : erB a1 b1 c1 d1 e1 f1 a2 b2 c2 d2 e2 f2 = if ¬ckB a1 b1 c1 d1 e1 f1 = 0 then ckB a1 b1 c1 d1 e1 f1 else ckB a2 b2 c2 d2 e2 f2 := rfl
    rw [this]
    refine ⟨?_, rfl⟩
    rw [isO, this, decide_eq_false h, Bool.false_and]
  · have : erB a1 b1 c1 d1 e1 f1 a2 b2 c2 d2 e2 f2 = 0 := h
    rw [isO, this]; simp
  · exact h.symm
end Go.Abs
