/- Contracts. Contracts. -/
import Derived.Test.YteennpofimiliaaGreatDoorK44
import Derived.Test.YteennpofimiliaaGreatDoorL10
section
set_option linter.unusedVariables false
set_option linter.unusedSimpArgs false
set_option maxRecDepth 100000
namespace Go.Abs
open Go
theorem bad01_sp {x : Int} : bad01 x = false ↔ 0 ≤ x ∧ x ≤ 1 := by
  unfold bad01 Lay.inR
  simp
structure Lyt where
  nC : Nat
  C : Nat → Int
  nR : Nat
  F : Nat → Int
  SX : Nat → Int
  SY : Nat → Int
  Ln : Nat → Int
  nP : Nat → Nat
  P : Nat → Nat → Int
  nQ : Nat → Nat
  Q : Nat → Nat → Int
abbrev runC (l : Lyt) : List (Nat → DV) := [fun i => dI (l.F i), fun i => dI (l.SX i), fun i => dI (l.SY i), fun i => dI (l.Ln i), fun i => Lay.nums (l.nP i) (l.P i), fun i => Lay.nums (l.nQ i) (l.Q i)]
abbrev lyt (l : Lyt) : DV := .agg [Lay.nums l.nC l.C, .lst l.nR (runC l)]
def odC (nB : Nat) (B : Nat → Int) (l : Lyt) (i : Nat) : Int := (l.nQ i : Int) + Lay.cntN (l.P i) (B (nB - 1)) (l.nP i)
def totO (nB : Nat) (B : Nat → Int) (l : Lyt) : Nat → Int
  | 0 => 0
  | k + 1 => totO nB B l k + odC nB B l k
def totB (l : Lyt) : Nat → Int
  | 0 => 0
  | k + 1 => totB l k + (l.nP k : Int)
def tidOk (l : Lyt) : Prop := l.nC ≤ 1000 ∧ l.nR ≤ 1000 ∧ ∀ i, i < l.nR → l.nP i ≤ 10000 ∧ l.nQ i ≤ 10000
def cloE (nB : Nat) (B : Nat → Int) (nO : Nat) (O : Nat → Int) (l : Lyt) (i : Nat) : Int := Lay.closesE nB B nO O (l.nP i) (l.P i) (l.nQ i) (l.Q i) (l.Ln i)
def ruX (b : Bld) (G W : Int) (i : Nat) (a : Int) : Int := atX (b.N 0) (b.X 0) (b.Y 0) i (befF (b.N 0) (b.X 0) (b.Y 0) G W i a) G
def ruY (b : Bld) (G W : Int) (i : Nat) (a : Int) : Int := atY (b.N 0) (b.X 0) (b.Y 0) i (befF (b.N 0) (b.X 0) (b.Y 0) G W i a) G
def nxC (b : Bld) (l : Lyt) (i : Nat) : Int := l.C (((i : Int) + 1) % (b.N 0 : Int)).toNat
def ruE (b : Bld) (nB : Nat) (B : Nat → Int) (nO : Nat) (O : Nat → Int) (W G : Int) (l : Lyt) (i : Nat) : Int :=
  if l.F i ≠ i then 10 else if ¬ (l.SX i = ruX b G W i (l.C i) ∧ l.SY i = ruY b G W i (l.C i) ∧ l.Ln i = ruL (b.N 0) (b.X 0) (b.Y 0) G W i (l.C i) (nxC b l i)) then 3 else cloE nB B nO O l i
def lyE (b : Bld) (nB : Nat) (B : Nat → Int) (nO : Nat) (O : Nat → Int) (W G : Int) (l : Lyt) : Int :=
  if l.nC ≠ b.N 0 ∨ l.nR ≠ b.N 0 then 11 else if Lay.anyN (fun k => bad01 (l.C k)) l.nC = true then 2 else firstE (ruE b nB B nO O W G l) (b.N 0)
def laE (b : Bld) (nB : Nat) (B : Nat → Int) (nO : Nat) (O : Nat → Int) (W G L : Int) (l : Lyt) : Int := if arE b nB B nO O W G L ≠ 0 then arE b nB B nO O W G L else lyE b nB B nO O W G l
theorem odC_bd {nB : Nat} {B : Nat → Int} {l : Lyt} (h : tidOk l) {i : Nat} (hi : i < l.nR) : 0 ≤ odC nB B l i ∧ odC nB B l i ≤ 20000 := by
  have := h.2.2 i hi
  have hc := Lay.cntN_bd (l.P i) (B (nB - 1)) (l.nP i)
  unfold odC
  omega
theorem totO_bd {nB : Nat} {B : Nat → Int} {l : Lyt} (h : tidOk l) : ∀ k, k ≤ l.nR → 0 ≤ totO nB B l k ∧ totO nB B l k ≤ 20000 * k
  | 0, _ => by rw [totO]; omega
  | k + 1, hk => by
    have := totO_bd (nB := nB) (B := B) h k (by omega)
    have := odC_bd (nB := nB) (B := B) h (i := k) (by omega)
    rw [totO]
    omega
theorem totB_bd {l : Lyt} (h : tidOk l) : ∀ k, k ≤ l.nR → 0 ≤ totB l k ∧ totB l k ≤ 10000 * k
  | 0, _ => by rw [totB]; omega
  | k + 1, hk => by
    have := totB_bd h k (by omega)
    have := h.2.2 k (by omega)
    rw [totB]
    omega
noncomputable def A97_laid1_c (x : Int) : Ann := { orc := [(1, [(1, .res fun _ => dB (Lay.inR x 0 1))])], loops := [], cuts := [] }
theorem laid1_c (x : Int)  : FnC prog 74 [dI x] (dB (bad01 x)) := by
  refine FnC_owed hmix (A97_laid1_c x) (V := .need [FnC prog 75 [(dI x), (dI (0:Int)), (dI (1:Int))] ((dB (Lay.inR x (0:Int) (1:Int))))] (.done [(!Lay.inR x (0:Int) (1:Int)) = bad01 x])) (by kernel_rfl) ?_
  simp only [VT.holds, AllT, Sq]
  exact ⟨Lay.within_c x 0 1, rfl⟩
noncomputable def A63_total_c (nB : Nat) (B : Nat → Int) (nO : Nat) (O : Nat → Int) (W G L : Int) (l : Lyt) : Ann := { orc := [(5, [(3, .res fun q => dP ((lenOf (fD 1 (arg q 1)) : Int) + Lay.cntN (colI 0 (fD 0 (arg q 1))) (B (nB - 1)) (lenOf (fD 0 (arg q 1)))) (lenOf (fD 0 (arg q 1))))])], loops := [(0, { ι := Nat, keep := [2, 3, 4, 10, 11, 5], boxes := [2, 3, 4], ts := fun _ i => [(12, dI (i : Int))], bx := fun _ i => [(5, [dI (totO nB B l i), dI (totB l i)])], inv := fun _ i => i ≤ l.nR, mu := fun _ i => l.nR - i, rd := fun _ σ => (iOf (σ.get 12)).toNat })], cuts := [] }
namespace w3r
noncomputable section
structure Z where
  nB : Nat
  B : Nat → Int
  nO : Nat
  O : Nat → Int
  W : Int
  G : Int
  L : Int
  l : Lyt
variable (z : Z) (i0 : Nat) (p : Prop) (P : List Prop)
abbrev x0 := Int.toNat (i0:Int)
abbrev x1 := Int.toNat ((i0:Int) + 1)
abbrev x2 := Int.toNat 0
abbrev x3 : List Prop := p :: rf z.l.nR :: (∀ i0 < z.l.nR, rf (z.l.F i0)) :: (∀ i0 < z.l.nR, rf (z.l.SX i0)) :: (∀ i0 < z.l.nR, rf (z.l.SY i0)) :: (∀ i0 < z.l.nR, rf (z.l.Ln i0)) :: (∀ i0 < z.l.nR, rf (z.l.nP i0) ∧ (∀ i1 < z.l.nP i0, rf (z.l.P i0 i1))) :: (∀ i0 < z.l.nR, rf (z.l.nQ i0) ∧ (∀ i1 < z.l.nQ i0, rf (z.l.Q i0 i1))) :: P
abbrev x4 := (↑(z.l.nQ (x0 i0)) : Int) + Lay.cntN (z.l.P (x0 i0)) (z.B (z.nB - 1)) (z.l.nP (x0 i0))
abbrev x5 := totB z.l i0 + (↑(z.l.nP (x0 i0)) : Int)
abbrev x6 : List Prop := rf z.nB :: (∀ i0 < z.nB, rf (z.B i0)) :: rf z.nO :: (∀ i0 < z.nO, rf (z.O i0)) :: rf z.W :: rf z.G :: rf z.L :: rf z.l.nC :: x3 z (∀ i0 < z.l.nC, rf (z.l.C i0)) (rf (0:Int) :: rf (0:Int) :: P)
abbrev xt : VT := VT.loop Nat (fun i0 => i0 ≤ z.l.nR) x2 (x3 z (0 = (x2:Int)) (rf (z.l.nR:Int) :: (0 = totO z.nB z.B z.l x2) :: (0 = totB z.l x2) :: x6 z [])) (fun i0 => VT.ite (decide ((i0:Int) < (z.l.nR:Int))) (VT.need [0 ≤ (i0:Int) ∧ (i0:Int) < (z.l.nR:Int)] (VT.need [FnC prog (61 : FuncId) [DV.agg [DV.lst z.nB [fun i0 => dI (z.B i0)], DV.lst z.nO [fun i0 => dI (z.O i0)], dI z.W, dI z.G, dI z.L], DV.agg [DV.lst (z.l.nP (x0 i0)) [fun i1 => dI (z.l.P (x0 i0) i1)], DV.lst (z.l.nQ (x0 i0)) [fun i1 => dI (z.l.Q (x0 i0) i1)]]] (DV.val (Value.agg (Array.mk [Value.int IntKind.i64 (x4 z i0), Value.int IntKind.i64 (↑(z.l.nP (x0 i0)) : Int)])))] (VT.need [i64In (totO z.nB z.B z.l i0 + x4 z i0)] (VT.need [i64In (x5 z i0)] (VT.need [i64In ((i0:Int) + 1)] (VT.done (x3 z ((i0:Int) + 1 = (↑(x1 i0) : Int)) (rf (z.l.nR:Int) :: (totO z.nB z.B z.l i0 + x4 z i0 = totO z.nB z.B z.l (x1 i0)) :: (x5 z i0 = totB z.l (x1 i0)) :: x6 z [x1 i0 ≤ z.l.nR, z.l.nR - x1 i0 < z.l.nR - i0])))))))) (VT.done [totO z.nB z.B z.l i0 = totO z.nB z.B z.l z.l.nR, totB z.l i0 = totB z.l z.l.nR]))
end
end w3r
open w3r in
theorem total_c (nB : Nat) (B : Nat → Int) (nO : Nat) (O : Nat → Int) (W G L : Int) (l : Lyt) (hs : Lay.sysE nB B nO O W G L = 0) (h : tidOk l) : FnC prog 45 [Lay.sys nB B nO O W G L, lyt l] (dP (totO nB B l l.nR) (totB l l.nR)) := by
  refine FnC_owed hmix (A63_total_c nB B nO O W G L l) (V := xt ⟨nB, B, nO, O, W, G, L, l⟩) (by kernel_rfl) ?_
  simp only [xt, x0, x1, x2, x3, x4, x5, x6, Rf, VT.holds, AllT, Sq]
  obtain ⟨s1, s2, s3, sB, sO, sr, _⟩ := Lay.sys_ok hs
  obtain ⟨t1, t2, t3⟩ := h
  refine ⟨⟨rfl, rfl, rfl⟩, Nat.zero_le _, fun i hi => ⟨fun hlt => ?_, fun hge => by rw [show i = l.nR by omega]; exact ⟨rfl, rfl⟩⟩⟩
  have t4 := t3 i (by omega)
  have a1 := totO_bd (nB := nB) (B := B) ⟨t1, t2, t3⟩ i hi
  have a2 := totB_bd ⟨t1, t2, t3⟩ i hi
  have a3 := odC_bd (nB := nB) (B := B) ⟨t1, t2, t3⟩ (i := i) (by omega)
  unfold odC at a3
  exact ⟨by omega, Lay.costOf_c nB B nO O W G L _ _ _ _ s1 (by omega) sr (by omega) (by omega), by unfold i64In; omega, by unfold i64In; omega, by unfold i64In; omega, rfl, rfl, rfl, by omega, by omega⟩
noncomputable def A30_totalR_c (nB : Nat) (B : Nat → Int) (nO : Nat) (O : Nat → Int) (W G L : Int) (l : Lyt) : Ann := { orc := [(5, [(7, .res fun q => dP ((lenOf (fD 1 (arg q 1)) : Int) + Lay.cntN (colI 0 (fD 0 (arg q 1))) (B (nB - 1)) (lenOf (fD 0 (arg q 1)))) (lenOf (fD 0 (arg q 1))))])], loops := [(0, { ι := Nat, keep := [2, 3, 4, 5], boxes := [2, 3, 4], ts := fun _ i => [(6, dI (i : Int))], bx := fun _ i => [(5, [dI (totO nB B l i), dI (totB l i)])], inv := fun _ i => i ≤ l.nR, mu := fun _ i => l.nR - i, rd := fun _ σ => (iOf (σ.get 6)).toNat })], cuts := [] }
namespace w3s
noncomputable section
structure Z where
  nB : Nat
  B : Nat → Int
  nO : Nat
  O : Nat → Int
  W : Int
  G : Int
  L : Int
  l : Lyt
variable (z : Z) (i0 : Nat) (P : List Prop)
abbrev x0 := Int.toNat (i0:Int)
abbrev x1 := Int.toNat ((i0:Int) + 1)
abbrev x2 := Int.toNat 0
abbrev x3 := (↑(z.l.nQ (x0 i0)) : Int) + Lay.cntN (z.l.P (x0 i0)) (z.B (z.nB - 1)) (z.l.nP (x0 i0))
abbrev x4 := totB z.l i0 + (↑(z.l.nP (x0 i0)) : Int)
abbrev x5 : List Prop := rf z.nB :: (∀ i0 < z.nB, rf (z.B i0)) :: rf z.nO :: (∀ i0 < z.nO, rf (z.O i0)) :: rf z.W :: rf z.G :: rf z.L :: rf z.l.nC :: (∀ i0 < z.l.nC, rf (z.l.C i0)) :: rf z.l.nR :: (∀ i0 < z.l.nR, rf (z.l.F i0)) :: (∀ i0 < z.l.nR, rf (z.l.SX i0)) :: (∀ i0 < z.l.nR, rf (z.l.SY i0)) :: (∀ i0 < z.l.nR, rf (z.l.Ln i0)) :: (∀ i0 < z.l.nR, rf (z.l.nP i0) ∧ (∀ i1 < z.l.nP i0, rf (z.l.P i0 i1))) :: (∀ i0 < z.l.nR, rf (z.l.nQ i0) ∧ (∀ i1 < z.l.nQ i0, rf (z.l.Q i0 i1))) :: rf (0:Int) :: rf (0:Int) :: P
abbrev xt : VT := VT.loop Nat (fun i0 => i0 ≤ z.l.nR) x2 ((0 = (x2:Int)) :: (0 = totO z.nB z.B z.l x2) :: (0 = totB z.l x2) :: x5 z []) (fun i0 => VT.ite (decide ((i0:Int) < (z.l.nR:Int))) (VT.need [0 ≤ (i0:Int) ∧ (i0:Int) < (z.l.nR:Int), FnC prog (57 : FuncId) [DV.agg [DV.lst z.nB [fun i0 => dI (z.B i0)], DV.lst z.nO [fun i0 => dI (z.O i0)], dI z.W, dI z.G, dI z.L], DV.agg [DV.lst (z.l.nP (x0 i0)) [fun i1 => dI (z.l.P (x0 i0) i1)], DV.lst (z.l.nQ (x0 i0)) [fun i1 => dI (z.l.Q (x0 i0) i1)]]] (DV.val (Value.agg (Array.mk [Value.int IntKind.i64 (x3 z i0), Value.int IntKind.i64 (↑(z.l.nP (x0 i0)) : Int)])))] (VT.need [i64In (totO z.nB z.B z.l i0 + x3 z i0), i64In (x4 z i0)] (VT.need [i64In ((i0:Int) + 1)] (VT.done (((i0:Int) + 1 = (↑(x1 i0) : Int)) :: (totO z.nB z.B z.l i0 + x3 z i0 = totO z.nB z.B z.l (x1 i0)) :: (x4 z i0 = totB z.l (x1 i0)) :: x5 z [x1 i0 ≤ z.l.nR, z.l.nR - x1 i0 < z.l.nR - i0]))))) (VT.done [totO z.nB z.B z.l i0 = totO z.nB z.B z.l z.l.nR, totB z.l i0 = totB z.l z.l.nR]))
end
end w3s
open w3s in
theorem totalR_c (nB : Nat) (B : Nat → Int) (nO : Nat) (O : Nat → Int) (W G L : Int) (l : Lyt) (hs : Lay.sysE nB B nO O W G L = 0) (h : tidOk l) : FnC prog 21 [Lay.sys nB B nO O W G L, lyt l] (dP (totO nB B l l.nR) (totB l l.nR)) := by
  refine FnC_owed hmix (A30_totalR_c nB B nO O W G L l) (V := xt ⟨nB, B, nO, O, W, G, L, l⟩) (by kernel_rfl) ?_
  simp only [xt, x0, x1, x2, x3, x4, x5, Rf, VT.holds, AllT, Sq]
  obtain ⟨s1, s2, s3, sB, sO, sr, _⟩ := Lay.sys_ok hs
  obtain ⟨t1, t2, t3⟩ := h
  refine ⟨⟨rfl, rfl, rfl⟩, Nat.zero_le _, fun i hi => ⟨fun hlt => ?_, fun hge => by rw [show i = l.nR by omega]; exact ⟨rfl, rfl⟩⟩⟩
  have t4 := t3 i (by omega)
  have a1 := totO_bd (nB := nB) (B := B) ⟨t1, t2, t3⟩ i hi
  have a2 := totB_bd ⟨t1, t2, t3⟩ i hi
  have a3 := odC_bd (nB := nB) (B := B) ⟨t1, t2, t3⟩ (i := i) (by omega)
  unfold odC at a3
  exact ⟨⟨by omega, Lay.costR_c nB B nO O W G L _ _ _ _ s1 (by omega) (by omega) (by omega)⟩, ⟨by unfold i64In; omega, by unfold i64In; omega⟩, by unfold i64In; omega, rfl, rfl, rfl, by omega, by omega⟩
end Go.Abs
end
section
set_option linter.unusedVariables false
set_option linter.unusedSimpArgs false
set_option maxRecDepth 100000
namespace Go.Abs
open Go
def rClo (nB : Nat) (B : Nat → Int) (nO : Nat) (O : Nat → Int) : Orc := .res fun q => dI (Lay.closesE nB B nO O (lenOf (fD 0 (arg q 2))) (colI 0 (fD 0 (arg q 2))) (lenOf (fD 1 (arg q 2))) (colI 0 (fD 1 (arg q 2))) (aI q 1))
theorem anyN_no {p : Nat → Bool} {n : Nat} : Lay.anyN p n = false ↔ ∀ k, k < n → p k = false := by
  unfold Lay.anyN
  rw [Bool.not_eq_false', decide_eq_true_eq]
section
variable {b : Bld} {nB : Nat} {B : Nat → Int} {nO : Nat} {O : Nat → Int} {W G L : Int} {l : Lyt}
theorem ly_1 (h : ¬ (l.nC : Int) = b.N 0 ∨ ¬ (l.nR : Int) = b.N 0) : lyE b nB B nO O W G l = 11 := by rw [lyE, if_pos (by omega)]
theorem ly_2 (h : l.nC = b.N 0 ∧ l.nR = b.N 0) (h2 : Lay.anyN (fun k => bad01 (l.C k)) l.nC = true) : lyE b nB B nO O W G l = 2 := by rw [lyE, if_neg (by omega), if_pos h2]
theorem ly_3 (h : l.nC = b.N 0 ∧ l.nR = b.N 0) (h2 : Lay.anyN (fun k => bad01 (l.C k)) l.nC = false) : lyE b nB B nO O W G l = firstE (ruE b nB B nO O W G l) (b.N 0) := by rw [lyE, if_neg (by omega), if_neg (by rw [h2]; simp)]
theorem ly_at (h : l.nC = b.N 0 ∧ l.nR = b.N 0) (h2 : Lay.anyN (fun k => bad01 (l.C k)) l.nC = false) {i : Nat} (hi : i < b.N 0) (hb : ∀ k, k < i → ruE b nB B nO O W G l k = 0) {e : Int} (he : ruE b nB B nO O W G l i = e) (h0 : e ≠ 0) : e = lyE b nB B nO O W G l := by
  rw [ly_3 h h2, firstE_at hb (by rw [he]; exact h0) hi, he]
theorem ly_no (h : l.nC = b.N 0 ∧ l.nR = b.N 0) (h2 : Lay.anyN (fun k => bad01 (l.C k)) l.nC = false) (hb : ∀ k, k < b.N 0 → ruE b nB B nO O W G l k = 0) : 0 = lyE b nB B nO O W G l := by
  rw [ly_3 h h2, firstE_none hb]
theorem ru_1 {i : Nat} (h : ¬ l.F i = (i : Int)) : ruE b nB B nO O W G l i = 10 := by rw [ruE, if_pos h]
theorem ru_2 {i : Nat} (h : l.F i = (i : Int)) (h2 : ¬ (l.SX i = ruX b G W i (l.C i) ∧ l.SY i = ruY b G W i (l.C i) ∧ l.Ln i = ruL (b.N 0) (b.X 0) (b.Y 0) G W i (l.C i) (nxC b l i))) : ruE b nB B nO O W G l i = 3 := by rw [ruE, if_neg (fun hx => hx h), if_pos h2]
theorem ru_3 {i : Nat} (h : l.F i = (i : Int)) (h2 : l.SX i = ruX b G W i (l.C i) ∧ l.SY i = ruY b G W i (l.C i) ∧ l.Ln i = ruL (b.N 0) (b.X 0) (b.Y 0) G W i (l.C i) (nxC b l i)) : ruE b nB B nO O W G l i = cloE nB B nO O l i := by rw [ruE, if_neg (fun hx => hx h), if_neg (fun hx => hx h2)]
end
theorem choicesL_c (m : Nat) (C : Nat → Int) (hm : m ≤ 1000000) : FnC prog 73 [Lay.nums m C, .val (.func (.func 74) #[] #[])] (dB (Lay.anyN (fun k => bad01 (C k)) m)) := by
  obtain ⟨r, hr⟩ := Lay.isFirst_exists (fun k => bad01 (C k)) m
  exact Lay.contains_c 74 bad01 m C r hm laid1_c hr
noncomputable def A61_laidA_c (b : Bld) (nB : Nat) (B : Nat → Int) (nO : Nat) (O : Nat → Int) (W G L : Int) (l : Lyt) : Ann := { orc := [(1, [(2, rArE b nB B nO O W G L)]), (4, [(1, .res fun _ => dI 0)]), (7, [(2, .res fun _ => dB true)])], loops := [(0, { ι := Nat, keep := [], boxes := [], ts := fun _ _ => [], inv := fun _ _ => True, mu := fun _ i => i, rd := fun _ _ => 0 })], cuts := [] }
theorem laidA_c (b : Bld) (nB : Nat) (B : Nat → Int) (nO : Nat) (O : Nat → Int) (W G L : Int) (l : Lyt) (hN : ∀ i, i < b.nS → b.N i ≤ 1000) (h0 : arE b nB B nO O W G L ≠ 0) : FnC prog 41 [bld b, Lay.sys nB B nO O W G L, lyt l] (.tup [.any, dI (arE b nB B nO O W G L)]) := by
  refine FnC_owed hmix (A61_laidA_c b nB B nO O W G L l) (V := .need [FnC prog 49 [(bld b), .agg [.lst nB [fun i => (dI (B i))], .lst nO [fun i => (dI (O i))], (dI W), (dI G), (dI L)]] (.tup [.any, (dI (arE b nB B nO O W G L))])] (.ite (arE b nB B nO O W G L != (0:Int)) (.done [arE b nB B nO O W G L = arE b nB B nO O W G L]) (.need [FnC prog 42 [.any] ((dI (0:Int)))] (.need [(!(l.nC:Int) != (0:Int)) = true → (!(l.nC:Int) != (0:Int)) = true, (!(l.nC:Int) != (0:Int)) = true → (!(l.nC:Int) != (0:Int)) = true, (!(l.nC:Int) != (0:Int)) = true → (!(l.nC:Int) != (0:Int)) = true, (!(l.nC:Int) != (0:Int)) = true → (!(l.nC:Int) != (0:Int)) = true, ((l.nC:Int) != (0:Int)) = false → (!(l.nC:Int) != (0:Int)) = true] (.ite (if ((l.nC:Int) != (0:Int)) = true then true else (l.nR:Int) != (0:Int)) (.done [(11:Int) = arE b nB B nO O W G L]) (.need [FnC prog 73 [.lst l.nC [fun i => (dI (l.C i))], .val (Value.func (Fn.func (74:Nat)) (Array.mk []) (Array.mk []))] ((dB true))] (.ite true (.done [(2:Int) = arE b nB B nO O W G L]) (.loop Nat (fun a => True) (0:Nat) [] fun i => .need [False] (.done [False]))))))))) (by kernel_rfl) ?_
  simp only [VT.holds, AllT, Sq]
  exact ⟨aroundE_c b nB B nO O W G L hN, fun h => absurd h h0⟩
noncomputable def A61_laidB_c (b : Bld) (nB : Nat) (B : Nat → Int) (nO : Nat) (O : Nat → Int) (W G L : Int) (l : Lyt) : Ann := { orc := [(1, [(2, rArO b nB B nO O W G L)]), (4, [(1, .res fun _ => dI (b.N 0 : Int))]), (7, [(2, .res fun _ => dB (Lay.anyN (fun k => bad01 (l.C k)) l.nC))]), (12, [(10, .pos)]), (15, [(7, .res fun q => dI (befF (b.N 0) (b.X 0) (b.Y 0) G W (aI q 1) (aI q 2))), (10, .res fun q => dP (atX (b.N 0) (b.X 0) (b.Y 0) (aI q 1) (aI q 2) (aI q 3)) (atY (b.N 0) (b.X 0) (b.Y 0) (aI q 1) (aI q 2) (aI q 3))), (19, .res fun q => dI (ruL (b.N 0) (b.X 0) (b.Y 0) G W (aI q 1) (aI q 2) (aI q 3)))]), (17, [(5, rClo nB B nO O)])], loops := [(0, { ι := Nat, keep := [3, 4, 5, 8, 10, 43, 44], boxes := [3, 4, 5], ts := fun _ i => [(45, dI (i : Int))], inv := fun _ i => i ≤ b.N 0 ∧ ∀ k, k < i → ruE b nB B nO O W G l k = 0, mu := fun _ i => b.N 0 - i, rd := fun _ σ => (iOf (σ.get 45)).toNat })], cuts := [] }
namespace w3u
noncomputable section
structure Z where
  b : Bld
  nB : Nat
  B : Nat → Int
  nO : Nat
  O : Nat → Int
  W : Int
  G : Int
  L : Int
  l : Lyt
variable (z : Z) (i0 i1 : Nat) (p : Prop) (P : List Prop) (a : Int) (k : Nat) (g : Bool) (E : List DV) (U : VT) (j9a : FuncId) (j12a : Nat → DV)
abbrev x0 : Int := (i0:Int)
abbrev x1 := Int.toNat (x0 i0)
abbrev x2 := befF (z.b.N 0) (z.b.X 0) (z.b.Y 0) z.G z.W (x0 i0) (z.l.C (x1 i0))
abbrev x3 := i0 < z.b.nO → rf (z.b.O i0 k)
abbrev x4 := i0 < z.b.nB → rf (z.b.B i0 k)
abbrev x5 := DV.lst k [j12a]
abbrev x6 : Int := (↑(z.b.N 0) : Int)
abbrev x7 := i0 < z.b.N 0 → rf a
abbrev x8 := ix (z.b.N 0) (x0 i0 + 1)
abbrev x9 := Lay.catN z.nB z.B z.nO z.O z.W z.G z.L
abbrev x10 := atX (z.b.N 0) (z.b.X 0) (z.b.Y 0) (x0 i0) (x2 z i0) z.G
abbrev x11 := atY (z.b.N 0) (z.b.X 0) (z.b.Y 0) (x0 i0) (x2 z i0) z.G
abbrev x12 := (z.l.SX (x1 i0) == x10 z i0) && ((z.l.SY (x1 i0) == x11 z i0) && true)
abbrev x13 : List Prop := ri ((!(!(x12 z i0))) = true) :: P
abbrev x14 := (z.l.nC:Int) != x6 z
abbrev x15 := lenW (z.b.N 0) (z.b.X 0) (z.b.Y 0) (x0 i0)
abbrev x16 := dD (z.b.N 0) (z.b.X 0) (z.b.Y 0) (x0 i0)
abbrev x17 := cor (z.b.N 0) (z.b.X 0) (z.b.Y 0) i0
abbrev x18 : List DV := x5 z.nB (fun i0 => dI (z.B i0)) :: x5 z.nO (fun i0 => dI (z.O i0)) :: dI z.W :: dI z.G :: dI z.L :: E
abbrev x19 : Int := (↑(Lay.catU z.nB z.B z.nO z.O z.W z.G z.L) : Int)
abbrev x20 := VT.done [a = lyE z.b z.nB z.B z.nO z.O z.W z.G z.l]
abbrev x21 := VT.need [p] U
abbrev x22 := VT.ite g (x20 z a) U
abbrev x23 := DV.cptr (DV.val (Value.string z.b.name) :: DV.lst z.b.nS [fun i0 => dI (z.b.fl i0), fun i0 => DV.lst (z.b.N i0) [fun i1 => dI (z.b.X i0 i1), fun i1 => dI (z.b.Y i0 i1)]] :: dI z.b.roof :: DV.lst z.b.nO [fun i0 => dI (z.b.O i0 0), fun i0 => dI (z.b.O i0 1), fun i0 => dI (z.b.O i0 2), fun i0 => dI (z.b.O i0 3), fun i0 => dI (z.b.O i0 4), fun i0 => dI (z.b.O i0 5)] :: DV.lst z.b.nB [fun i0 => dI (z.b.B i0 0), fun i0 => dI (z.b.B i0 1), fun i0 => dI (z.b.B i0 2), fun i0 => dI (z.b.B i0 3), fun i0 => dI (z.b.B i0 4), fun i0 => dI (z.b.B i0 5)] :: x18 z [dI (x19 z), DV.lst (x9 z) [fun i0 => dI (Lay.pLen z.nB z.B z.nO z.O i0), fun i0 => dI (Lay.pCode z.nB i0), fun i0 => dB (decide (z.nB ≤ i0))], DV.lst (z.b.N 0) [fun i0 => dI (z.b.X 0 i0), fun i0 => dI (z.b.Y 0 i0), fun i0 => dI (z.b.X 0 (x8 z i0)), fun i0 => dI (z.b.Y 0 (x8 z i0)), fun i0 => dI (x15 z i0), fun i0 => dI (x16 z i0)], x5 (z.b.N 0) (fun i0 => dI (x17 z i0))])
abbrev x24 := Int.toNat (x0 i0 + 1)
abbrev x25 := ∀ i0 < z.l.nR, rf (z.l.nQ i0) ∧ (∀ i1 < z.l.nQ i0, rf (z.l.Q i0 i1))
abbrev x26 : List Prop := rf z.l.nR :: (∀ i0 < z.l.nR, rf (z.l.F i0)) :: (∀ i0 < z.l.nR, rf (z.l.SX i0)) :: (∀ i0 < z.l.nR, rf (z.l.SY i0)) :: (∀ i0 < z.l.nR, rf (z.l.Ln i0)) :: (∀ i0 < z.l.nR, rf (z.l.nP i0) ∧ (∀ i1 < z.l.nP i0, rf (z.l.P i0 i1))) :: P
abbrev x27 : List Prop := rf z.b.name :: rf z.b.nS :: (∀ i0 < z.b.nS, rf (z.b.fl i0)) :: (∀ i0 < z.b.nS, rf (z.b.N i0) ∧ (∀ i1 < z.b.N i0, rf (z.b.X i0 i1)) ∧ (∀ i1 < z.b.N i0, rf (z.b.Y i0 i1))) :: rf z.b.roof :: rf z.b.nO :: (∀ (i0 : Nat), x3 z i0 (0:Nat)) :: (∀ (i0 : Nat), x3 z i0 (1:Nat)) :: (∀ (i0 : Nat), x3 z i0 (2:Nat)) :: (∀ (i0 : Nat), x3 z i0 (3:Nat)) :: (∀ (i0 : Nat), x3 z i0 (4:Nat)) :: (∀ (i0 : Nat), x3 z i0 (5:Nat)) :: rf z.b.nB :: (∀ (i0 : Nat), x4 z i0 (0:Nat)) :: (∀ (i0 : Nat), x4 z i0 (1:Nat)) :: (∀ (i0 : Nat), x4 z i0 (2:Nat)) :: (∀ (i0 : Nat), x4 z i0 (3:Nat)) :: (∀ (i0 : Nat), x4 z i0 (4:Nat)) :: (∀ (i0 : Nat), x4 z i0 (5:Nat)) :: rf z.nB :: (∀ i0 < z.nB, rf (z.B i0)) :: rf z.nO :: (∀ i0 < z.nO, rf (z.O i0)) :: rf z.W :: rf z.G :: rf z.L :: P
abbrev x28 := z.l.C (Int.toNat ((x0 i0 + 1) % x6 z))
abbrev x29 : List Prop := ri ((!(x14 z)) = true) :: ri ((!(x14 z)) = true) :: P
abbrev x30 := Lay.closesE z.nB z.B z.nO z.O (z.l.nP (x1 i0)) (z.l.P (x1 i0)) (z.l.nQ (x1 i0)) (z.l.Q (x1 i0)) (z.l.Ln (x1 i0))
abbrev x31 := Lay.anyN (fun i0 => bad01 (z.l.C i0)) z.l.nC
abbrev x32 := FnC prog j9a (x23 z :: dI (x0 i0) :: dI (z.l.C (x1 i0)) :: E) (dI a)
abbrev x33 : List Prop := p :: x27 z (rf (x19 z) :: rf (x9 z) :: (∀ i0 < x9 z, rf (Lay.pLen z.nB z.B z.nO z.O i0)) :: (∀ i0 < x9 z, rf (Lay.pCode z.nB i0)) :: (∀ i0 < x9 z, rf (decide (z.nB ≤ i0))) :: rf (z.b.N 0) :: (∀ (i0 : Nat), x7 z i0 (z.b.X 0 i0)) :: (∀ (i0 : Nat), x7 z i0 (z.b.Y 0 i0)) :: (∀ (i0 : Nat), x7 z i0 (z.b.X 0 (x8 z i0))) :: (∀ (i0 : Nat), x7 z i0 (z.b.Y 0 (x8 z i0))) :: (∀ (i0 : Nat), x7 z i0 (x15 z i0)) :: (∀ (i0 : Nat), x7 z i0 (x16 z i0)) :: rf (z.b.N 0) :: (∀ (i0 : Nat), x7 z i0 (x17 z i0)) :: rf (x6 z) :: x26 z (x25 z :: rf (z.l.nR:Int) :: x27 z (rf z.l.nC :: (∀ i0 < z.l.nC, rf (z.l.C i0)) :: P)))
abbrev x34 := ruL (z.b.N 0) (z.b.X 0) (z.b.Y 0) z.G z.W (x0 i0) (z.l.C (x1 i0)) (x28 z i0)
abbrev x35 := i1 < k → ruE z.b z.nB z.B z.nO z.O z.W z.G z.l i1 = 0
abbrev xt : VT := x21 (FnC prog (49 : FuncId) [bld z.b, DV.agg (x18 z [])] (DV.tup [x23 z, dI 0])) (x22 z (0:Int) ((0:Int) != (0:Int)) (x21 (FnC prog (42 : FuncId) [x23 z] (dI (x6 z))) (VT.need (x29 z (x29 z [x14 z = false → (!(x14 z)) = true])) (x22 z (11:Int) (if (x14 z) = true then true else ((z.l.nR:Int) != x6 z)) (x21 (FnC prog (73 : FuncId) [x5 z.l.nC (fun i0 => dI (z.l.C i0)), DV.val (Value.func (Fn.func 74) (Array.mk []) (Array.mk []))] (dB (x31 z))) (x22 z (2:Int) (x31 z) (VT.loop Nat (fun i0 => i0 ≤ z.b.N 0 ∧ (∀ (i1 : Nat), x35 z i1 i0)) (Int.toNat 0) (x33 z (0 = (↑(Int.toNat 0) : Int)) (x26 z [x25 z])) (fun i0 => VT.ite (decide ((x0 i0) < (z.l.nR:Int))) (x21 (0 ≤ x0 i0 ∧ x0 i0 < (z.l.nR:Int)) (VT.need [0 ≤ x0 i0 ∧ x0 i0 < (z.l.nC:Int), i64In (x0 i0 + 1), 0 ≤ x0 i0 + 1 ∧ 0 < x6 z, 0 ≤ (x0 i0 + 1) % x6 z ∧ (x0 i0 + 1) % x6 z < (z.l.nC:Int)] (x22 z (10:Int) (z.l.F (x1 i0) != x0 i0) (VT.need (x32 z i0 (x2 z i0) [] (53 : FuncId) :: FnC prog (52 : FuncId) [x23 z, dI (x0 i0), dI (x2 z i0), dI z.G] (DV.val (Value.agg (Array.mk [Value.int IntKind.i64 (x10 z i0), Value.int IntKind.i64 (x11 z i0)]))) :: x13 z i0 (x13 z i0 (x13 z i0 (x13 z i0 (x13 z i0 (((!(!(x12 z i0))) = true → x32 z i0 (x34 z i0) [dI (x28 z i0)] (54 : FuncId)) :: x13 z i0 (x13 z i0 [(!(x12 z i0)) = false → (!(!(x12 z i0))) = true]))))))) (x22 z (3:Int) (if (!(x12 z i0)) = true then true else (z.l.Ln (x1 i0) != x34 z i0)) (x21 (FnC prog (76 : FuncId) [DV.agg (x18 z []), dI (z.l.Ln (x1 i0)), DV.agg [x5 (z.l.nP (x1 i0)) (fun i1 => dI (z.l.P (x1 i0) i1)), x5 (z.l.nQ (x1 i0)) (fun i1 => dI (z.l.Q (x1 i0) i1))]] (dI (x30 z i0))) (x22 z (x30 z i0) (x30 z i0 != 0) (x21 (i64In (x0 i0 + 1)) (VT.done (x33 z (x0 i0 + 1 = (↑(x24 i0) : Int)) (x26 z [x25 z, x24 i0 ≤ z.b.N 0 ∧ (∀ (i1 : Nat), x35 z i1 (x24 i0)), z.b.N 0 - x24 i0 < z.b.N 0 - i0]))))))))))) (x20 z (0:Int))))))))))
end
end w3u
open w3u in
theorem laidB_c (b : Bld) (nB : Nat) (B : Nat → Int) (nO : Nat) (O : Nat → Int) (W G L : Int) (l : Lyt) (hN : ∀ i, i < b.nS → b.N i ≤ 1000) (h0 : arE b nB B nO O W G L = 0) (ht : tidOk l) : FnC prog 41 [bld b, Lay.sys nB B nO O W G L, lyt l] (.tup [.any, dI (lyE b nB B nO O W G l)]) := by
  refine FnC_owed hmix (A61_laidB_c b nB B nO O W G L l) (V := xt ⟨b, nB, B, nO, O, W, G, L, l⟩) (by kernel_rfl) ?_
  simp only [xt, x0, x1, x2, x3, x4, x5, x6, x7, x8, x9, x10, x11, x12, x13, x14, x15, x16, x17, x18, x19, x20, x21, x22, x23, x24, x25, x26, x27, x28, x29, x30, x31, x32, x33, x34, x35, Rf, VT.holds, AllT, Sq]
  obtain ⟨hc, hs, _, _, _, _, _⟩ := ar_zero h0
  obtain ⟨b1, b2, b3, b4, b5⟩ := b0_ok hc
  have hn := chk_n b2
  obtain ⟨hX, hY⟩ := chk_inB b2
  have g1 := (sys_wgl hs).1
  have g2 := g1
  unfold gwOk at g2
  obtain ⟨t1, t2, t3⟩ := ht
  refine ⟨aroundO_c b nB B nO O W G L hN h0, fun h => absurd trivial h, fun _ => ⟨n_c _ _ _ _ _ _ _ _ _ _ _ _ _ _ _, fun h => (ly_1 h).symm, fun h => ?_⟩⟩
  have hN2 : l.nC = b.N 0 ∧ l.nR = b.N 0 := by omega
  refine ⟨choicesL_c l.nC l.C (by omega), fun h2 => (ly_2 hN2 h2).symm, fun h2 => ⟨rfl, ⟨Nat.zero_le _, fun k hk => absurd hk (Nat.not_lt_zero k)⟩, fun i ⟨hi, hb⟩ => ⟨fun hlt => ?_, fun hge => ly_no hN2 h2 fun k hk => hb k (by omega)⟩⟩⟩
  have hch : ∀ k, k < b.N 0 → 0 ≤ l.C k ∧ l.C k ≤ 1 := fun k hk => bad01_sp.1 (anyN_no.1 h2 k (by omega))
  have q1 := Int.emod_nonneg ((i : Int) + 1) (show (b.N 0 : Int) ≠ 0 by omega)
  have q2 := Int.emod_lt_of_pos ((i : Int) + 1) (show (0:Int) < b.N 0 by omega)
  have ha := hch i (by omega)
  have hb2 := hch (((i : Int) + 1) % (b.N 0 : Int)).toNat (by omega)
  have bb := bef_bd (n := b.N 0) (X := b.X 0) (Y := b.Y 0) (i : Int) g1 ha
  have t4 := t3 i (by omega)
  refine ⟨by omega, ⟨by omega, by unfold i64In; omega, by omega, q1, by omega⟩, fun h3 => ly_at hN2 h2 (by omega) hb (ru_1 h3) (by decide), fun h3 => ⟨⟨before_c _ _ _ _ _ _ _ _ _ _ _ _ _ _ _ _ _ (by omega) g1 ha, ringAt_c _ _ _ _ _ _ _ _ _ _ _ _ _ _ _ _ _ _ (by omega) hX hY (by omega) (by omega), fun _ => runLen_c _ _ _ _ _ _ _ _ _ _ _ _ _ _ _ _ _ _ (by omega) (by omega) hX hY g1 ha hb2⟩, fun h4 => ly_at hN2 h2 (by omega) hb (ru_2 h3 fun hx => ?_) (by decide), fun h4 => ?_⟩⟩
  · rcases h4 with h4 | h4
    · exact absurd (h4 hx.1 hx.2.1) (by simp)
    · exact h4 hx.2.2
  · have h5 : l.SX i = ruX b G W i (l.C i) ∧ l.SY i = ruY b G W i (l.C i) ∧ l.Ln i = ruL (b.N 0) (b.X 0) (b.Y 0) G W i (l.C i) (nxC b l i) := by
      by_cases e1 : l.SX i = ruX b G W i (l.C i)
      · by_cases e2 : l.SY i = ruY b G W i (l.C i)
        · exact ⟨e1, e2, h4.2⟩
        · exact absurd (fun _ hx => absurd hx e2) h4.1
      · exact absurd (fun hx => absurd hx e1) h4.1
    refine ⟨Lay.closes_c nB B nO O W G L _ _ _ _ _ hs (by omega) (by omega), fun h6 => ly_at hN2 h2 (by omega) hb (ru_3 h3 h5) h6, fun h6 => ⟨by unfold i64In; omega, rfl, ⟨by omega, fun k hk => ?_⟩, by omega⟩⟩
    by_cases e : k = i
    · rw [e, ru_3 h3 h5]; exact h6
    · exact hb k (by omega)
noncomputable def A29_checkLayoutR_c (b : Bld) (nB : Nat) (B : Nat → Int) (nO : Nat) (O : Nat → Int) (W G L : Int) (l : Lyt) : Ann := { orc := [(1, [(1, rFst b)]), (7, [(5, rWi)]), (15, [(10, .res fun q => dP (atX (b.N 0) (b.X 0) (b.Y 0) (aI q 2) (befF (b.N 0) (b.X 0) (b.Y 0) G W (aI q 2) (aI q 3)) G) (atY (b.N 0) (b.X 0) (b.Y 0) (aI q 2) (befF (b.N 0) (b.X 0) (b.Y 0) G W (aI q 2) (aI q 3)) G)), (28, .pos), (31, .res fun q => dI (ruL (b.N 0) (b.X 0) (b.Y 0) G W (aI q 2) (aI q 3) (aI q 4)))]), (17, [(5, rClo nB B nO O)])], loops := [(0, { ι := Nat, keep := [3, 4, 5, 7], boxes := [3, 4, 5], ts := fun _ i => [(8, dI (i : Int))], inv := fun _ i => i ≤ b.N 0 ∧ ∀ k, k < i → bad01 (l.C k) = false, mu := fun _ i => b.N 0 - i, rd := fun _ σ => (iOf (σ.get 8)).toNat }), (2, { ι := Nat, keep := [3, 4, 5, 7], boxes := [3, 4, 5], ts := fun _ i => [(9, dI (i : Int))], inv := fun _ i => i ≤ b.N 0 ∧ ∀ k, k < i → ruE b nB B nO O W G l k = 0, mu := fun _ i => b.N 0 - i, rd := fun _ σ => (iOf (σ.get 9)).toNat })], cuts := [] }
namespace w3v
noncomputable section
structure Z where
  b : Bld
  nB : Nat
  B : Nat → Int
  nO : Nat
  O : Nat → Int
  W : Int
  G : Int
  L : Int
  l : Lyt
variable (z : Z) (i0 i1 : Nat) (p : Prop) (P : List Prop) (a : Int) (k : Nat) (g : Bool) (j15a : Nat → Prop) (j16a : Nat → VT)
abbrev x0 : Int := (i0:Int)
abbrev x1 := Int.toNat (x0 i0)
abbrev x2 := z.l.C (x1 i0)
abbrev x3 := befF (z.b.N 0) (z.b.X 0) (z.b.Y 0) z.G z.W (x0 i0) (x2 z i0)
abbrev x4 := atX (z.b.N 0) (z.b.X 0) (z.b.Y 0) (x0 i0) (x3 z i0) z.G
abbrev x5 := atY (z.b.N 0) (z.b.X 0) (z.b.Y 0) (x0 i0) (x3 z i0) z.G
abbrev x6 := (z.l.SX (x1 i0) == x4 z i0) && ((z.l.SY (x1 i0) == x5 z i0) && true)
abbrev x7 := (!(!(x6 z i0))) = true
abbrev x8 := i0 < z.b.nO → rf (z.b.O i0 k)
abbrev x9 := i0 < z.b.nB → rf (z.b.B i0 k)
abbrev x10 : Int := (↑(z.b.N 0) : Int)
abbrev x11 := Int.toNat (x0 i0 + 1)
abbrev x12 : List Prop := ri (x7 z i0) :: ri (x7 z i0) :: P
abbrev x13 := (z.l.nC:Int) != x10 z
abbrev x14 := VT.done [a = lyE z.b z.nB z.B z.nO z.O z.W z.G z.l]
abbrev x15 := ri ((!(x13 z)) = true)
abbrev x16 := ∀ i0 < z.l.nR, rf (z.l.Ln i0)
abbrev x17 := ∀ i0 < z.l.nR, rf (z.l.nP i0) ∧ (∀ i1 < z.l.nP i0, rf (z.l.P i0 i1))
abbrev x18 := ∀ i0 < z.l.nR, rf (z.l.nQ i0) ∧ (∀ i1 < z.l.nQ i0, rf (z.l.Q i0 i1))
abbrev x19 : List Prop := (a = (k:Int)) :: rf (x10 z) :: rf z.b.name :: rf z.b.nS :: (∀ i0 < z.b.nS, rf (z.b.fl i0)) :: (∀ i0 < z.b.nS, rf (z.b.N i0) ∧ (∀ i1 < z.b.N i0, rf (z.b.X i0 i1)) ∧ (∀ i1 < z.b.N i0, rf (z.b.Y i0 i1))) :: rf z.b.roof :: rf z.b.nO :: (∀ (i0 : Nat), x8 z i0 (0:Nat)) :: (∀ (i0 : Nat), x8 z i0 (1:Nat)) :: (∀ (i0 : Nat), x8 z i0 (2:Nat)) :: (∀ (i0 : Nat), x8 z i0 (3:Nat)) :: (∀ (i0 : Nat), x8 z i0 (4:Nat)) :: (∀ (i0 : Nat), x8 z i0 (5:Nat)) :: rf z.b.nB :: (∀ (i0 : Nat), x9 z i0 (0:Nat)) :: (∀ (i0 : Nat), x9 z i0 (1:Nat)) :: (∀ (i0 : Nat), x9 z i0 (2:Nat)) :: (∀ (i0 : Nat), x9 z i0 (3:Nat)) :: (∀ (i0 : Nat), x9 z i0 (4:Nat)) :: (∀ (i0 : Nat), x9 z i0 (5:Nat)) :: rf z.nB :: (∀ i0 < z.nB, rf (z.B i0)) :: rf z.nO :: (∀ i0 < z.nO, rf (z.O i0)) :: rf z.W :: rf z.G :: rf z.L :: rf z.l.nC :: (∀ i0 < z.l.nC, rf (z.l.C i0)) :: rf z.l.nR :: (∀ i0 < z.l.nR, rf (z.l.F i0)) :: (∀ i0 < z.l.nR, rf (z.l.SX i0)) :: (∀ i0 < z.l.nR, rf (z.l.SY i0)) :: P
abbrev x20 := z.l.C (Int.toNat ((x0 i0 + 1) % x10 z))
abbrev x21 := x12 z i0 ((x7 z i0 → p) :: ri (x7 z i0) :: P)
abbrev x22 := 0 ≤ x0 i0 ∧ x0 i0 < (z.l.nC:Int)
abbrev x23 := DV.agg [DV.lst z.nB [fun i0 => dI (z.B i0)], DV.lst z.nO [fun i0 => dI (z.O i0)], dI z.W, dI z.G, dI z.L]
abbrev x24 := Lay.closesE z.nB z.B z.nO z.O (z.l.nP (x1 i0)) (z.l.P (x1 i0)) (z.l.nQ (x1 i0)) (z.l.Q (x1 i0)) (z.l.Ln (x1 i0))
abbrev x25 := decide ((0 ≤ x2 z i0) ∧ (x2 z i0 ≤ 1))
abbrev x26 := VT.loop Nat j15a (Int.toNat 0) (x19 z [x16 z, x17 z, x18 z] (0:Int) (Int.toNat 0)) j16a
abbrev x27 := VT.ite g (x14 z a) (VT.need [i64In (x0 i0 + 1)] (VT.done (x19 z [x16 z, x17 z, x18 z, x11 i0 ≤ z.b.N 0 ∧ p, z.b.N 0 - x11 i0 < z.b.N 0 - i0] (x0 i0 + 1) (x11 i0))))
abbrev x28 := ruL (z.b.N 0) (z.b.X 0) (z.b.Y 0) z.G z.W (x0 i0) (x2 z i0) (x20 z i0)
abbrev x29 := ruE z.b z.nB z.B z.nO z.O z.W z.G z.l i1 = 0
abbrev xt : VT := VT.need [FnC prog (33 : FuncId) [bld z.b] (DV.lst (z.b.N 0) [fun i0 => dI (z.b.X 0 i0), fun i0 => dI (z.b.Y 0 i0)])] (VT.need [x15 z, x15 z, x15 z, x15 z, x13 z = false → (!(x13 z)) = true] (VT.ite (if (x13 z) = true then true else ((z.l.nR:Int) != x10 z)) (x14 z (11:Int)) (x26 z (fun i0 => i0 ≤ z.b.N 0 ∧ (∀ i1 < i0, bad01 (z.l.C i1) = false)) (fun i0 => VT.ite (decide ((x0 i0) < (x10 z))) (VT.need [x22 z i0, FnC prog (34 : FuncId) [dI (x2 z i0), dI 0, dI 1] (dB (x25 z i0))] (x27 z i0 (∀ i1 < x11 i0, bad01 (z.l.C i1) = false) (2:Int) (!(x25 z i0)))) (x26 z (fun i0 => i0 ≤ z.b.N 0 ∧ (∀ i1 < i0, x29 z i1)) (fun i0 => VT.ite (decide ((x0 i0) < (x10 z))) (VT.need [0 ≤ x0 i0 ∧ x0 i0 < (z.l.nR:Int)] (VT.ite (z.l.F (x1 i0) != x0 i0) (x14 z (10:Int)) (VT.need (x22 z i0 :: FnC prog (35 : FuncId) [bld z.b, x23 z, dI (x0 i0), dI (x2 z i0)] (DV.val (Value.agg (Array.mk [Value.int IntKind.i64 (x4 z i0), Value.int IntKind.i64 (x5 z i0)]))) :: x12 z i0 (x21 z i0 (x22 z i0) (x21 z i0 (i64In (x0 i0 + 1)) (ri (x7 z i0) :: (x7 z i0 → 0 ≤ x0 i0 + 1 ∧ 0 < x10 z) :: x21 z i0 (0 ≤ (x0 i0 + 1) % x10 z ∧ (x0 i0 + 1) % x10 z < (z.l.nC:Int)) (x12 z i0 (x12 z i0 (ri (x7 z i0) :: (x7 z i0 → FnC prog (36 : FuncId) [bld z.b, x23 z, dI (x0 i0), dI (x2 z i0), dI (x20 z i0)] (dI (x28 z i0))) :: x12 z i0 [(!(x6 z i0)) = false → x7 z i0]))))))) (VT.ite (if (!(x6 z i0)) = true then true else (z.l.Ln (x1 i0) != x28 z i0)) (x14 z (3:Int)) (VT.need [FnC prog (37 : FuncId) [x23 z, dI (z.l.Ln (x1 i0)), DV.agg [DV.lst (z.l.nP (x1 i0)) [fun i1 => dI (z.l.P (x1 i0) i1)], DV.lst (z.l.nQ (x1 i0)) [fun i1 => dI (z.l.Q (x1 i0) i1)]]] (dI (x24 z i0))] (x27 z i0 (∀ i1 < x11 i0, x29 z i1) (x24 z i0) (x24 z i0 != 0))))))) (x14 z (0:Int))))))))
end
end w3v
open w3v in
theorem checkLayoutR_c (b : Bld) (nB : Nat) (B : Nat → Int) (nO : Nat) (O : Nat → Int) (W G L : Int) (l : Lyt) (h0 : arE b nB B nO O W G L = 0) (ht : tidOk l) : FnC prog 9 [bld b, Lay.sys nB B nO O W G L, lyt l] (dI (lyE b nB B nO O W G l)) := by
  refine FnC_owed hmix (A29_checkLayoutR_c b nB B nO O W G L l) (V := xt ⟨b, nB, B, nO, O, W, G, L, l⟩) (by kernel_rfl) ?_
  simp only [xt, x0, x1, x2, x3, x4, x5, x6, x7, x8, x9, x10, x11, x12, x13, x14, x15, x16, x17, x18, x19, x20, x21, x22, x23, x24, x25, x26, x27, x28, x29, Rf, VT.holds, AllT, Sq]
  obtain ⟨hc, hs, _, _, _, _, _⟩ := ar_zero h0
  obtain ⟨b1, b2, b3, b4, b5⟩ := b0_ok hc
  have hn := chk_n b2
  obtain ⟨hX, hY⟩ := chk_inB b2
  have g1 := (sys_wgl hs).1
  have g2 := g1
  unfold gwOk at g2
  obtain ⟨t1, t2, t3⟩ := ht
  refine ⟨first_c b b1, fun h => (ly_1 h).symm, fun h => ?_⟩
  have hN2 : l.nC = b.N 0 ∧ l.nR = b.N 0 := by omega
  refine ⟨rfl, ⟨Nat.zero_le _, fun k hk => absurd hk (Nat.not_lt_zero k)⟩, fun i ⟨hi, hb⟩ => ⟨fun hlt => ⟨⟨by omega, within_c _ _ _⟩, fun h2 => ?_, fun h2 => ⟨by unfold i64In; omega, rfl, ⟨by omega, fun k hk => ?_⟩, by omega⟩⟩, fun hge => ?_⟩⟩
  · refine (ly_2 hN2 ?_).symm
    rw [← Bool.not_eq_false, anyN_no]
    exact fun hx => h2 (bad01_sp.1 (hx i (by omega)))
  · by_cases e : k = i
    · rw [e]; exact bad01_sp.2 h2
    · exact hb k (by omega)
  obtain rfl : i = b.N 0 := by omega
  have h2 : Lay.anyN (fun k => bad01 (l.C k)) l.nC = false := anyN_no.2 fun k hk => hb k (by omega)
  have hch : ∀ k, k < b.N 0 → 0 ≤ l.C k ∧ l.C k ≤ 1 := fun k hk => bad01_sp.1 (hb k hk)
  clear hb
  refine ⟨rfl, ⟨Nat.zero_le _, fun k hk => absurd hk (Nat.not_lt_zero k)⟩, fun i ⟨hi, hb⟩ => ⟨fun hlt => ?_, fun hge => ly_no hN2 h2 fun k hk => hb k (by omega)⟩⟩
  have q1 := Int.emod_nonneg ((i : Int) + 1) (show (b.N 0 : Int) ≠ 0 by omega)
  have q2 := Int.emod_lt_of_pos ((i : Int) + 1) (show (0:Int) < b.N 0 by omega)
  have ha := hch i (by omega)
  have hb2 := hch (((i : Int) + 1) % (b.N 0 : Int)).toNat (by omega)
  have t4 := t3 i (by omega)
  refine ⟨by omega, fun h3 => ly_at hN2 h2 (by omega) hb (ru_1 h3) (by decide), fun h3 => ⟨⟨by omega, runStartR_c b nB B nO O W G L i _ b1 b2 g1 (by omega) ha, fun _ => by omega, fun _ => by unfold i64In; omega, fun _ => by omega, fun _ => ⟨q1, by omega⟩, fun _ => runLenR_c b nB B nO O W G L i _ _ b1 b2 g1 (by omega) ha hb2⟩, fun h4 => ly_at hN2 h2 (by omega) hb (ru_2 h3 fun hx => ?_) (by decide), fun h4 => ?_⟩⟩
  · rcases h4 with h4 | h4
    · exact absurd (h4 hx.1 hx.2.1) (by simp)
    · exact h4 hx.2.2
  · have h5 : l.SX i = ruX b G W i (l.C i) ∧ l.SY i = ruY b G W i (l.C i) ∧ l.Ln i = ruL (b.N 0) (b.X 0) (b.Y 0) G W i (l.C i) (nxC b l i) := by
      by_cases e1 : l.SX i = ruX b G W i (l.C i)
      · by_cases e2 : l.SY i = ruY b G W i (l.C i)
        · exact ⟨e1, e2, h4.2⟩
        · exact absurd (fun _ hx => absurd hx e2) h4.1
      · exact absurd (fun hx => absurd hx e1) h4.1
    refine ⟨Lay.checkR_c nB B nO O W G L _ _ _ _ _ hs (by omega) (by omega), fun h6 => ly_at hN2 h2 (by omega) hb (ru_3 h3 h5) h6, fun h6 => ⟨by unfold i64In; omega, rfl, ⟨by omega, fun k hk => ?_⟩, by omega⟩⟩
    by_cases e : k = i
    · rw [e, ru_3 h3 h5]; exact h6
    · exact hb k (by omega)
end Go.Abs
end
