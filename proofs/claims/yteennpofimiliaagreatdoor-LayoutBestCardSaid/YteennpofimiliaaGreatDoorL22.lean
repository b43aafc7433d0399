/- Contracts. Plain laws of closings: their sums, costs, errors. -/
import Derived.Test.YteennpofimiliaaGreatDoorL7
import Derived.Test.YteennpofimiliaaGreatDoorL21
import Derived.Test.YteennpofimiliaaGreatDoorL10
section
set_option linter.unusedVariables false
set_option linter.unusedSimpArgs false
set_option maxRecDepth 100000
namespace Go.Abs.Lay
open Go
abbrev uR (nB : Nat) (B : Nat → Int) (nO : Nat) (O : Nat → Int) : Nat := unitR nB B O (nB + nO)
noncomputable def A21_tableR_c (nB : Nat) (B : Nat → Int) (nO : Nat) (O : Nat → Int) (W G L len : Int) : Ann := { orc := [(2, [(1, rUnitR)]), (3, [(1, rPartsR)]), (11, [(6, .pos)])], loops := [(0, { ι := Nat, keep := [1, 6, 7], boxes := [], ts := fun _ k => [(8, dI (k : Int))], rw := fun _ k => [(5, 1, k, [fun q => .val (.int .i64 (tabRS nB B nO O q))])], inv := fun _ k => 1 ≤ k ∧ (k : Int) ≤ len / (uR nB B nO O : Int) + 1, mu := fun _ k => (len / (uR nB B nO O : Int) + 1 - (k : Int)).toNat, rd := fun _ σ => (iOf (σ.get 8)).toNat }),
  (2, { ι := Nat, keep := [1, 6, 7, 8], boxes := [], ts := fun σ i => [(10, dI (i : Int)), (9, dI (bestL (plX (uR nB B nO O) (rLen nB B O) (rCode nB) i) (tabRS nB B nO O) (iOf (σ.get 8)).toNat))], rw := fun σ _ => [(5, 1, (iOf (σ.get 8)).toNat, [fun q => .val (.int .i64 (tabRS nB B nO O q))])], inv := fun _ i => i ≤ nB + nO, mu := fun _ i => nB + nO - i, rd := fun _ σ => (iOf (σ.get 10)).toNat })], cuts := [] }
namespace w49
noncomputable section
structure Z where
  nB : Nat
  B : Nat → Int
  nO : Nat
  O : Nat → Int
  W : Int
  G : Int
  L : Int
  len : Int
variable (z : Z) (i0 i1 : Nat) (p : Prop) (P : List Prop) (a : Int) (k : Nat) (A : DV)
abbrev x0 := z.nB + z.nO
abbrev x1 : Int := (i0:Int)
abbrev x2 := Lay.unitR z.nB z.B z.O (x0 z)
abbrev x3 : Int := (↑(x2 z) : Int)
abbrev x4 := Lay.rLen z.nB z.B z.O (Int.toNat (i1:Int))
abbrev x5 := Int.toNat (x1 i0)
abbrev x6 := x1 i0 - x4 z i1 / x3 z
abbrev x7 := Lay.tabRS z.nB z.B z.nO z.O k
abbrev x8 := decide ((x4 z i1 / x3 z) ≤ (x1 i0))
abbrev x9 := x7 z (addN 0 (Int.toNat (x6 z i0 i1)))
abbrev x10 := Lay.bestL (Lay.plX (x2 z) (Lay.rLen z.nB z.B z.O) (Lay.rCode z.nB) k) (Lay.tabRS z.nB z.B z.nO z.O) (x5 i0)
abbrev x11 := if (x8 z i0 i1) = true then (decide ((x9 z i0 i1) ≥ (0:Int))) else false
abbrev x12 := decide ((x10 z i0 i1) < (0:Int))
abbrev x13 := (x11 z i0 i1) && (!(x12 z i0 i1))
abbrev x14 := Int.toNat (a + 1)
abbrev x15 := x14 (i1:Int)
abbrev x16 : List Prop := ri (x8 z i0 i1 = true) :: P
abbrev x17 := Int.toNat 1
abbrev x18 : List Prop := p :: rf (0:Nat) :: P
abbrev x19 : List Prop := rf z.len :: rf (x3 z) :: rf (x0 z) :: (∀ i0 < x0 z, rf (Lay.rLen z.nB z.B z.O i0)) :: (∀ i0 < x0 z, rf (Lay.rCode z.nB i0)) :: P
abbrev x20 : List Prop := ri (x11 z i0 i1 = true) :: P
abbrev x21 : List Prop := ri (x13 z i0 i1 = true) :: ri (x13 z i0 i1 = true) :: (x13 z i0 i1 = true → p) :: P
abbrev x22 := x9 z i0 i1 + Lay.rCode z.nB (Int.toNat (i1:Int))
abbrev x23 := addN 0 (Int.toNat (x6 z i0 i1)) < x5 i0
abbrev x24 := 0 ≤ (i1:Int) ∧ (i1:Int) < (↑(x0 z) : Int)
abbrev x25 := 0 ≤ x6 z i0 i1 ∧ x6 z i0 i1 < (↑(x5 i0) : Int)
abbrev x26 := x16 z i0 i1 ((x8 z i0 i1 = true → p) :: x16 z i0 i1 P)
abbrev x27 := x21 z i0 i1 p (ri (x13 z i0 i1 = true) :: ri (x13 z i0 i1 = true) :: P)
abbrev x28 := Int.toNat (z.len / x3 z + 1 - a)
abbrev x29 := VT.need [i64In ((i1:Int) + 1)] (VT.done (((i1:Int) + 1 = (↑(x15 i1) : Int)) :: x18 (a = x10 z i0 (x15 i1)) (rf (x5 i0) :: x19 z [rf (x1 i0), rf (x5 i0), ∀ i1 < x5 i0, rf (x7 z i1), x15 i1 ≤ x0 z, x0 z - x15 i1 < x0 z - i1])))
abbrev x30 := FnC prog k [DV.agg [DV.lst z.nB [fun i0 => dI (z.B i0)], DV.lst z.nO [fun i0 => dI (z.O i0)], dI z.W, dI z.G, dI z.L]] A
abbrev xt : VT := VT.need [x30 z (48:Nat) (dI (x3 z))] (VT.need [x30 z (72:Nat) (DV.lst (x0 z) [fun i0 => dI (Lay.rLen z.nB z.B z.O i0), fun i0 => dI (Lay.rCode z.nB i0)])] (VT.loop Nat (fun i0 => 1 ≤ i0 ∧ x1 i0 ≤ z.len / x3 z + 1) x17 (x18 (1 = (x17:Int)) ((1 = x17) :: x19 z [1 = x17, ∀ i0 < x17, 0 = x7 z i0])) (fun i0 => VT.need [i64In (x1 i0 * x3 z)] (VT.ite (decide ((x1 i0 * x3 z) ≤ z.len)) (VT.loop Nat (fun i0 => i0 ≤ x0 z) (Int.toNat 0) ((0 = (↑(Int.toNat 0) : Int)) :: x18 ((-(1:Int)) = x10 z i0 (Int.toNat 0)) ((i0 = x5 i0) :: x19 z [rf (x1 i0), i0 = x5 i0, ∀ i1 < x5 i0, rf (x7 z i1)])) (fun i1 => VT.ite (decide ((i1:Int) < (↑(x0 z) : Int))) (VT.need [x24 z i1, 0 ≤ x4 z i1 ∧ 0 < x3 z ∧ x4 z i1 ≤ 9223372036854775807] (VT.need (x16 z i0 i1 (x26 z i0 i1 (i64In (x6 z i0 i1)) (x26 z i0 i1 (x25 z i0 i1) ((x8 z i0 i1 = true → x23 z i0 i1) :: x16 z i0 i1 (x16 z i0 i1 (x20 z i0 i1 (x20 z i0 i1 (x21 z i0 i1 (i64In (x6 z i0 i1)) (x21 z i0 i1 (x25 z i0 i1) (ri (x13 z i0 i1 = true) :: (x13 z i0 i1 = true → x23 z i0 i1) :: x27 z i0 i1 (x24 z i1) (x27 z i0 i1 (i64In (x22 z i0 i1)) (x20 z i0 i1 ((x11 z i0 i1 = true → x12 z i0 i1 = false → x13 z i0 i1 = true) :: x20 z i0 i1 []))))))))))))) (VT.ite (if (x11 z i0 i1) = true then (if (x12 z i0 i1) = true then true else (decide ((x22 z i0 i1) < (x10 z i0 i1)))) else false) (VT.need [i64In (x6 z i0 i1), x25 z i0 i1, x23 z i0 i1, x24 z i1, i64In (x22 z i0 i1)] (x29 z i0 i1 (x22 z i0 i1))) (x29 z i0 i1 (x10 z i0 i1))))) (VT.need [x5 i0 ≤ x5 i0, (x5 i0 + 1) * ((nat_lit 7) + 1) ≤ 140737488355328, (1:Nat) ≤ (1:Nat)] (VT.need [i64In (x1 i0 + 1)] (VT.done (x18 (x1 i0 + 1 = (↑(x14 (x1 i0)) : Int)) ((x5 i0 + 1 = x14 (x1 i0)) :: x19 z [x5 i0 + 1 = x14 (x1 i0), ∀ i2 < x14 (x1 i0), (if (decide (i2 < (x5 i0))) = true then (x7 z i2) else (x10 z i0 i1)) = x7 z i2, 1 ≤ x14 (x1 i0) ∧ (↑(x14 (x1 i0)) : Int) ≤ z.len / x3 z + 1, x28 z (↑(x14 (x1 i0)) : Int) < x28 z (x1 i0)]))))))) (VT.done [i0 ≤ i0, i0 = x14 (z.len / x3 z), ∀ i0 < x14 (z.len / x3 z), rf (x7 z i0)])))))
end
end w49
open w49 in
theorem tableR_c (nB : Nat) (B : Nat → Int) (nO : Nat) (O : Nat → Int) (W G L len : Int) (hs : sysE nB B nO O W G L = 0) (hl : lenR nB B nO O len = 0) : FnC prog 91 [sys nB B nO O W G L, dI len] (.lst (len / (uR nB B nO O : Int) + 1).toNat [fun k => .val (.int .i64 (tabRS nB B nO O k))]) := by
  refine FnC_owed hmix (A21_tableR_c nB B nO O W G L len) (V := xt ⟨nB, B, nO, O, W, G, L, len⟩) (by kernel_rfl) ?_
  simp only [xt, x0, x1, x2, x3, x4, x5, x6, x7, x8, x9, x10, x11, x12, x13, x14, x15, x16, x17, x18, x19, x20, x21, x22, x23, x24, x25, x26, x27, x28, x29, x30, Rf, VT.holds, AllT, Sq]
  obtain ⟨s1, s2, s3, sB, sO, _, _⟩ := sys_ok hs
  have hu := unitR_bd s1 sB sO
  have hlen : 0 ≤ len ∧ len ≤ 4000 * (unitR nB B O (nB + nO) : Int) := by
    unfold lenR at hl
    split at hl
    · cases hl
    · split at hl
      · cases hl
      · omega
  obtain ⟨q0, q1⟩ := quo_bd hu.1 hlen.1 hlen.2
  have hmp := fun {i} (hi : i < nB + nO) => unitsR_pos sB sO hi
  have huc := unitR_c nB B nO O W G L s2 s3 sB sO
  have hpc := partsR_c nB B nO O W G L s2 s3
  have hbd : ∀ p ∈ plX (unitR nB B O (nB + nO)) (rLen nB B O) (rCode nB) (nB + nO), 0 ≤ p.2 ∧ p.2 ≤ 10001 := fun p hp => by
    obtain ⟨i, hi, rfl⟩ := List.mem_map.1 hp
    exact rCode_bd nB i
  have hT := tabL_bd hbd
  have hT0 := tabL_zero (plX (unitR nB B O (nB + nO)) (rLen nB B O) (rCode nB) (nB + nO))
  have hTe := fun {k} => tabL_eq (plX (unitR nB B O (nB + nO)) (rLen nB B O) (rCode nB) (nB + nO)) (k := k)
  simp only [tabRS]
  generalize hTT : tabL (plX (unitR nB B O (nB + nO)) (rLen nB B O) (rCode nB) (nB + nO)) = T at *
  generalize unitR nB B O (nB + nO) = u at *
  have hmul : ∀ k : Nat, (k : Int) * (u : Int) ≤ len ↔ (k : Int) ≤ len / (u : Int) := fun k => (Int.le_ediv_iff_mul_le (by omega)).symm
  generalize hQ : len / (u : Int) = Q at *
  refine ⟨huc, hpc, ⟨rfl, rfl, rfl, fun i hi => by rw [show i = 0 by omega, hT0]⟩, ⟨by omega, by omega⟩, fun k ⟨k1, k2⟩ => ⟨?_, fun hk => ⟨⟨rfl, rfl⟩, Nat.zero_le _, fun i hi => ⟨fun hlt => ?_, fun hge => ?_⟩⟩, fun hk => ?_⟩⟩
  · have hm := Int.mul_le_mul (a := (k : Int)) (b := (u : Int)) (c := 4001) (d := 10000) (by omega) (by omega) (by omega) (by omega)
    have hm0 := Int.mul_nonneg (a := (k : Int)) (b := (u : Int)) (by omega) (by omega)
    unfold i64In; omega
  · rw [hmul] at hk
    have hi' : i < nB + nO := by omega
    have hx := rLen_bd sB sO hi'
    have e : rLen nB B O i / (u : Int) = (unitsOf u (rLen nB B O i) : Int) := by
      unfold unitsOf
      have := Int.ediv_nonneg (a := rLen nB B O i) (b := (u : Int)) (by omega) (by omega)
      omega
    have m1 := hmp hi'
    have hc := rCode_bd nB i
    have hs : bestL (plX u (rLen nB B O) (rCode nB) (i + 1)) T k = minP (bestL (plX u (rLen nB B O) (rCode nB) i) T k) (candL T k (unitsOf u (rLen nB B O i), rCode nB i)) := by
      rw [plX, range_snoc, bestL_snoc]; rfl
    simp only [e, Int.toNat_sub, addN_zero, hs]
    generalize unitsOf u (rLen nB B O i) = m at *
    have t1 := hT (k - m)
    generalize bestL (plX u (rLen nB B O) (rCode nB) i) T k = b at *
    generalize rCode nB i = c at *
    refine ⟨⟨⟨by omega, by omega⟩, by omega, by omega, by omega⟩, ⟨fun _ => by unfold i64In; omega, fun _ => by omega, fun _ => by omega, fun _ => by unfold i64In; omega, fun _ => by omega, fun _ => by omega, fun _ => by omega, fun _ => by unfold i64In; omega, fun a b => ⟨a, b⟩⟩, fun ⟨⟨h2, h3⟩, h4⟩ => ⟨⟨by unfold i64In; omega, by omega, by omega, by omega, by unfold i64In; omega⟩, by unfold i64In; omega, rfl, ?_, by omega, by omega⟩, fun h2 => ⟨by unfold i64In; omega, rfl, ?_, by omega, by omega⟩⟩
    · have hcd : candL T k (m, c) = T (k - m) + c := by
        unfold candL
        rw [if_pos (show 1 ≤ m ∧ m ≤ k ∧ 0 ≤ T (k - m) from ⟨m1, by omega, by omega⟩)]
      rw [hcd, minP, if_neg (by omega), if_pos h4]
    · by_cases h5 : (m : Int) ≤ (k : Int) ∧ T (k - m) ≥ 0
      · have hcd : candL T k (m, c) = T (k - m) + c := by
          unfold candL
          rw [if_pos (show 1 ≤ m ∧ m ≤ k ∧ 0 ≤ T (k - m) from ⟨m1, by omega, by omega⟩)]
        have h6 := h2 h5
        rw [hcd, minP, if_neg (by omega), if_neg (by omega)]
      · have hcd : candL T k (m, c) = -1 := by
          unfold candL
          rw [if_neg]
          intro ⟨_, h6, h7⟩
          dsimp only at h6 h7
          exact h5 ⟨by omega, by omega⟩
        rw [hcd, minP, if_pos (by omega)]
  · rw [hmul] at hk
    rw [show i = nB + nO by omega]
    refine ⟨⟨Nat.le_refl _, by omega, Nat.le_refl _⟩, by unfold i64In; omega, rfl, fun q hq => ?_, ⟨by omega, by omega⟩, by omega⟩
    by_cases e : q < k
    · rw [if_pos e]
    · rw [if_neg e, show q = k by omega, hTe (by omega)]
  · rw [hmul] at hk
    exact ⟨Nat.le_refl _, by omega⟩
end Go.Abs.Lay
end
section
set_option linter.unusedVariables false
set_option linter.unusedSimpArgs false
set_option maxRecDepth 100000
namespace Go.Abs.Lay
open Go
section
def sumZ : List Int → Int
  | [] => 0
  | x :: l => x + sumZ l
def oddZ (v : Int) : List Int → Int
  | [] => 0
  | x :: l => (if x = v then 0 else 1) + oddZ v l
theorem sumZ_app (l m : List Int) : sumZ (l ++ m) = sumZ l + sumZ m := by
  induction l with
  | nil => simp [sumZ]
  | cons x l ih => simp only [List.cons_append, sumZ, ih]; omega
theorem oddZ_app (v : Int) (l m : List Int) : oddZ v (l ++ m) = oddZ v l + oddZ v m := by
  induction l with
  | nil => simp [oddZ]
  | cons x l ih => simp only [List.cons_append, oddZ, ih]; omega
theorem sumZ_perm {l m : List Int} (h : l.Perm m) : sumZ l = sumZ m := by
  induction h with
  | nil => rfl
  | cons x _ ih => simp only [sumZ, ih]
  | swap x y l => simp only [sumZ]; omega
  | trans _ _ h1 h2 => exact h1.trans h2
theorem oddZ_perm {v : Int} {l m : List Int} (h : l.Perm m) : oddZ v l = oddZ v m := by
  induction h with
  | nil => rfl
  | cons x _ ih => simp only [oddZ, ih]
  | swap x y l => simp only [oddZ]; omega
  | trans _ _ h1 h2 => exact h1.trans h2
theorem sumI_eq (f : Nat → Int) : ∀ n, sumI f n = sumZ ((List.range n).map f)
  | 0 => rfl
  | n + 1 => by rw [range_snoc, sumZ_app, sumI, sumI_eq f n]; simp [sumZ]
theorem cntN_eq (f : Nat → Int) (v : Int) : ∀ n, cntN f v n = oddZ v ((List.range n).map f)
  | 0 => rfl
  | n + 1 => by rw [range_snoc, oddZ_app, cntN, cntN_eq f v n]; simp [oddZ]
theorem sumI_list (l : List Int) : sumI (fun i => l.getD i 0) l.length = sumZ l := by rw [sumI_eq, range_getD_self]
theorem cntN_list (l : List Int) (v : Int) : cntN (fun i => l.getD i 0) v l.length = oddZ v l := by rw [cntN_eq, range_getD_self]
theorem sortD_fall (l : List Int) : fallR (sortD l).length (fun i => (sortD l).getD i 0) = true := by
  have hp : (sortD l).Pairwise fun x y => decide (y ≤ x) = true := by
    apply List.pairwise_mergeSort
    · intro a b c h1 h2; rw [decide_eq_true_eq] at *; omega
    · intro a b; rw [Bool.or_eq_true, decide_eq_true_eq, decide_eq_true_eq]; omega
  rw [fallR, decide_eq_true_eq]
  intro k hk h0
  have := List.pairwise_iff_getElem.1 hp (k - 1) k (by omega) hk (by omega)
  rw [decide_eq_true_eq] at this
  rw [List.getD_eq_getElem?_getD, List.getD_eq_getElem?_getD, List.getElem?_eq_getElem hk, List.getElem?_eq_getElem (show k - 1 < (sortD l).length by omega)]
  exact this
section
variable {u n : Nat} {X C T : Nat → Int} {b : Nat → Bool} {K : Nat}
/-- What the taken parts amount to. -/
theorem take_sum (h : Tab u n X C T) (hK : 0 ≤ T K) (hd : ∀ i, i < n → X i = (unitsOf u (X i) : Int) * u) : ∀ j, sumZ (takeL u n X C T b false K j) + sumZ (takeL u n X C T b true K j) + (kAt u n X C T K j : Int) * u = (K : Int) * u
  | 0 => by simp [takeL, sumZ, kAt]
  | j + 1 => by
    have ih := take_sum h hK hd j
    by_cases h0 : kAt u n X C T K j = 0
    · rw [take_stay h0 (j + 1) (by omega), take_stay h0 (j + 1) (by omega), kAt_zero h0 (j + 1) (by omega)]
      rw [h0] at ih; exact ih
    · obtain ⟨p1, p2, _⟩ := pick_spec h (by omega) (kAt_ok h hK j)
      obtain ⟨k1, _⟩ := kAt_lt h hK h0
      have hx := hd _ p1
      have e : (kAt u n X C T K j : Int) * u = (kAt u n X C T K (j + 1) : Int) * u + (unitsOf u (X (pickP u n X C T (kAt u n X C T K j))) : Int) * u := by
        rw [← Int.add_mul]; congr 1; omega
      rw [takeL, takeL]
      cases hb : b (pickP u n X C T (kAt u n X C T K j)) with
      | false =>
        rw [if_pos ⟨h0, rfl⟩, if_neg (fun hx => by cases hx.2), sumZ_app]
        simp only [sumZ]
        omega
      | true =>
        rw [if_neg (fun hx => by cases hx.2), if_pos ⟨h0, rfl⟩, sumZ_app]
        simp only [sumZ]
        omega
theorem take_cost (h : Tab u n X C T) (hK : 0 ≤ T K) {M : Int} (h1 : ∀ i, i < n → b i = false → C i = 1 + 10000 * (if X i = M then 0 else 1)) (h2 : ∀ i, i < n → b i = true → C i = 10000) :
    ∀ j, ((takeL u n X C T b false K j).length : Int) + 10000 * (oddZ M (takeL u n X C T b false K j) + (takeL u n X C T b true K j).length) + T (kAt u n X C T K j) = T K
  | 0 => by simp [takeL, oddZ, kAt]
  | j + 1 => by
    have ih := take_cost h hK h1 h2 j
    by_cases h0 : kAt u n X C T K j = 0
    · rw [take_stay h0 (j + 1) (by omega), take_stay h0 (j + 1) (by omega), kAt_zero h0 (j + 1) (by omega)]
      rw [h0] at ih; exact ih
    · obtain ⟨p1, p2, _⟩ := pick_spec h (by omega) (kAt_ok h hK j)
      have p3 := (okP_iff.1 p2).2.2
      rw [takeL, takeL]
      have hk : kAt u n X C T K (j + 1) = kAt u n X C T K j - unitsOf u (X (pickP u n X C T (kAt u n X C T K j))) := rfl
      rw [hk]
      cases hb : b (pickP u n X C T (kAt u n X C T K j)) with
      | false =>
        have hc := h1 _ p1 hb
        rw [if_pos ⟨h0, rfl⟩, if_neg (fun hx => by cases hx.2), oddZ_app, List.length_append, List.length_singleton]
        simp only [oddZ]
        omega
      | true =>
        have hc := h2 _ p1 hb
        rw [if_neg (fun hx => by cases hx.2), if_pos ⟨h0, rfl⟩, List.length_append, List.length_singleton]
        omega
end
end
section
def closS (nB : Nat) (B : Nat → Int) (nO : Nat) (O : Nat → Int) (W G L len : Int) (s : Bool) : List Int :=
  if measE nB B nO O W G L len = 0 then closL (unitP nB B nO O (nB + nO)) (nB + nO) (pLen nB B nO O) (pCode nB) (tabS nB B nO O) (fun i => decide (nB ≤ i)) s len else []
theorem tab_sys {nB : Nat} {B : Nat → Int} {nO : Nat} {O : Nat → Int} (sB : ∀ k, k < nB → 1 ≤ B k ∧ B k ≤ 10000) (sO : ∀ k, k < nO → 1 ≤ O k ∧ O k ≤ 10000) : Tab (unitP nB B nO O (nB + nO)) (nB + nO) (pLen nB B nO O) (pCode nB) (tabS nB B nO O) :=
  ⟨rfl, fun i hi => unitsP_pos sB sO hi, fun i _ => pCode_bd nB i⟩
end
section
theorem units_mul {u : Nat} {x : Int} (hu : 1 ≤ u) (hd : (u : Int) ∣ x) (hx : 0 ≤ x) : x = (unitsOf u x : Int) * u := by
  have h0 := Int.ediv_nonneg (a := x) (b := (u : Int)) hx (by omega)
  unfold unitsOf
  rw [Int.toNat_of_nonneg h0, Int.ediv_mul_cancel hd]
/-- What is closed: the parts are of the system, descend, have the length in sum and the least code. -/
theorem clos_facts {nB : Nat} {B : Nat → Int} {nO : Nat} {O : Nat → Int} {W G L len : Int} (h : measE nB B nO O W G L len = 0) (hok : okC (unitP nB B nO O (nB + nO)) (tabS nB B nO O) len = true) :
    (closS nB B nO O W G L len false).length ≤ 4000 ∧ (closS nB B nO O W G L len true).length ≤ 4000 ∧
    (∀ x, x ∈ closS nB B nO O W G L len false → ∃ j, j < nB ∧ B j = x) ∧ (∀ x, x ∈ closS nB B nO O W G L len true → ∃ j, j < nO ∧ O j = x) ∧
    fallR (closS nB B nO O W G L len false).length (fun i => (closS nB B nO O W G L len false).getD i 0) = true ∧ fallR (closS nB B nO O W G L len true).length (fun i => (closS nB B nO O W G L len true).getD i 0) = true ∧
    sumZ (closS nB B nO O W G L len false) + sumZ (closS nB B nO O W G L len true) = len ∧
    ((closS nB B nO O W G L len false).length : Int) + 10000 * (oddZ (B (nB - 1)) (closS nB B nO O W G L len false) + (closS nB B nO O W G L len true).length) = tabS nB B nO O (len / (unitP nB B nO O (nB + nO) : Int)).toNat := by
  obtain ⟨h1, h2, h3⟩ := meas_ok h
  obtain ⟨s1, s2, s3, sB, sO, sr, _⟩ := sys_ok h1
  have hu := unitP_bd s1 sB sO
  obtain ⟨q0, q1⟩ := quo_bd hu.1 h2 h3
  have ht := tab_sys sB sO
  have hok' := hok
  rw [okC, decide_eq_true_eq] at hok'
  obtain ⟨hr, hK⟩ := hok'
  have hdv : ∀ i, i < nB + nO → pLen nB B nO O i = (unitsOf (unitP nB B nO O (nB + nO)) (pLen nB B nO O i) : Int) * (unitP nB B nO O (nB + nO) : Nat) := fun i hi =>
    units_mul hu.1 (gcdL_dvd (mem_range_map hi)) (by have := pLen_bd sB sO hi; omega)
  have hlen : len = ((len / (unitP nB B nO O (nB + nO) : Int)).toNat : Int) * (unitP nB B nO O (nB + nO) : Nat) := by
    rw [Int.toNat_of_nonneg q0, Int.ediv_mul_cancel (Int.dvd_of_emod_eq_zero hr)]
  have e : ∀ s, closS nB B nO O W G L len s = sortD (takeL (unitP nB B nO O (nB + nO)) (nB + nO) (pLen nB B nO O) (pCode nB) (tabS nB B nO O) (fun i => decide (nB ≤ i)) s (len / (unitP nB B nO O (nB + nO) : Int)).toNat (len / (unitP nB B nO O (nB + nO) : Int)).toNat) := fun s => by
    rw [closS, if_pos h, closL, hok, if_pos rfl]
  have hrise : ∀ k, k < nB → 0 < k → B (k - 1) < B k := by rw [rise, decide_eq_true_eq] at sr; exact sr
  have hless : ∀ i, i < nB - 1 → B i < B (nB - 1) := by
    intro i hi
    have : ∀ d, i + d + 1 < nB → B i < B (i + d + 1) := by
      intro d
      induction d with
      | zero => intro hd; exact hrise (i + 1) hd (by omega)
      | succ d ih =>
        intro hd
        have h5 := ih (by omega)
        have h6 := hrise (i + (d + 1) + 1) hd (by omega)
        rw [show i + (d + 1) + 1 - 1 = i + d + 1 by omega] at h6
        omega
    have h7 := this (nB - 2 - i) (by omega)
    rw [show i + (nB - 2 - i) + 1 = nB - 1 by omega] at h7
    exact h7
  have hu1 := hu.1
  have hKb : (len / (unitP nB B nO O (nB + nO) : Int)).toNat ≤ 4000 := by omega
  generalize unitP nB B nO O (nB + nO) = u at *
  generalize (len / (u : Int)).toNat = K at *
  have hend := kAt_end ht hK
  have hsum := take_sum (b := fun i => decide (nB ≤ i)) ht hK hdv K
  have hcost := take_cost (b := fun i => decide (nB ≤ i)) (M := B (nB - 1)) ht hK (fun i hi hb => by
    have hb' : i < nB := by rw [decide_eq_false_iff_not] at hb; omega
    rw [pCode, if_pos hb', pLen, if_pos hb']
    by_cases h0 : i = 0
    · rw [if_pos h0, h0, Nat.sub_zero, if_pos rfl]; rfl
    · have := hless (nB - 1 - i) (by omega)
      rw [if_neg h0, if_neg (by omega)]; rfl) (fun i hi hb => by
    rw [decide_eq_true_eq] at hb
    rw [pCode, if_neg (by omega)]) K
  have hle : ∀ i, i ≤ K → (∀ j, j < i → kAt u (nB + nO) (pLen nB B nO O) (pCode nB) (tabS nB B nO O) K j ≠ 0) ∨ ∃ j, j < i ∧ kAt u (nB + nO) (pLen nB B nO O) (pCode nB) (tabS nB B nO O) K j = 0 := fun i _ => by
    by_cases hx : ∃ j, j < i ∧ kAt u (nB + nO) (pLen nB B nO O) (pCode nB) (tabS nB B nO O) K j = 0
    · exact .inr hx
    · exact .inl fun j hj h0 => hx ⟨j, hj, h0⟩
  have hlens : ∀ m, (takeL u (nB + nO) (pLen nB B nO O) (pCode nB) (tabS nB B nO O) (fun i => decide (nB ≤ i)) false K m).length + (takeL u (nB + nO) (pLen nB B nO O) (pCode nB) (tabS nB B nO O) (fun i => decide (nB ≤ i)) true K m).length ≤ m := by
    intro m
    induction m with
    | zero => simp [takeL]
    | succ m ih =>
      simp only [takeL]
      split <;> split <;> (try simp only [List.length_append, List.length_singleton]) <;> rename_i a b
      · rw [a.2] at b; cases b.2
      all_goals omega
  have hl := hlens K
  simp only [e]
  rw [sortD_len, sortD_len, sumZ_perm (sortD_perm _), sumZ_perm (sortD_perm _), oddZ_perm (sortD_perm _)]
  have f1 := sortD_fall (takeL u (nB + nO) (pLen nB B nO O) (pCode nB) (tabS nB B nO O) (fun i => decide (nB ≤ i)) false K K)
  have f2 := sortD_fall (takeL u (nB + nO) (pLen nB B nO O) (pCode nB) (tabS nB B nO O) (fun i => decide (nB ≤ i)) true K K)
  rw [sortD_len] at f1 f2
  rw [hend] at hsum hcost
  rw [ht.zero] at hcost
  refine ⟨by omega, by omega, fun x hx => ?_, fun x hx => ?_, f1, f2, ?_, ?_⟩
  · obtain ⟨i, hi, rfl, hb⟩ := take_mem ht hK ((sortD_perm _).mem_iff.1 hx)
    have hb' : i < nB := by rw [decide_eq_false_iff_not] at hb; omega
    exact ⟨nB - 1 - i, by omega, by rw [pLen, if_pos hb']⟩
  · obtain ⟨i, hi, rfl, hb⟩ := take_mem ht hK ((sortD_perm _).mem_iff.1 hx)
    have hb' : nB ≤ i := by rwa [decide_eq_true_eq] at hb
    exact ⟨nO - 1 - (i - nB), by omega, by rw [pLen, if_neg (by omega)]⟩
  · rw [hlen]; simpa using hsum
  · omega
theorem tabS_eq (nB : Nat) (B : Nat → Int) (nO : Nat) (O : Nat → Int) : tabS nB B nO O = tabRS nB B nO O := by
  funext k
  unfold tabS tabRS
  rw [table_eq, unit_eq]; rfl
theorem getD_mem {l : List Int} {k : Nat} (h : k < l.length) : l.getD k 0 ∈ l := by
  rw [List.getD_eq_getElem?_getD, List.getElem?_eq_getElem h]; exact List.getElem_mem h
theorem clos_ck {nB : Nat} {B : Nat → Int} {nO : Nat} {O : Nat → Int} {W G L len : Int} (h : measE nB B nO O W G L len = 0) (hok : okC (unitP nB B nO O (nB + nO)) (tabS nB B nO O) len = true) :
    ckE nB B nO O (closS nB B nO O W G L len false).length (fun i => (closS nB B nO O W G L len false).getD i 0) (closS nB B nO O W G L len true).length (fun i => (closS nB B nO O W G L len true).getD i 0) = 0 := by
  obtain ⟨c1, c2, c3, c4, c5, c6, c7, c8⟩ := clos_facts h hok
  have g : ∀ {l : List Int} {m : Nat} {V : Nat → Int}, (∀ x, x ∈ l → ∃ j, j < m ∧ V j = x) → others l.length (fun i => l.getD i 0) m V = false := fun h => anyN_false.2 fun k hk => by
    obtain ⟨j, hj, e⟩ := h _ (getD_mem hk)
    rw [Bool.not_eq_false']
    exact anyN_true.2 ⟨j, hj, by simpa using e⟩
  rw [ckE, if_neg (by omega), if_neg (by rw [g c3, g c4]; simp), if_neg (by rw [c5, c6]; simp)]
theorem clos_closes {nB : Nat} {B : Nat → Int} {nO : Nat} {O : Nat → Int} {W G L len : Int} (h : measE nB B nO O W G L len = 0) (hok : okC (unitP nB B nO O (nB + nO)) (tabS nB B nO O) len = true) :
    closesE nB B nO O (closS nB B nO O W G L len false).length (fun i => (closS nB B nO O W G L len false).getD i 0) (closS nB B nO O W G L len true).length (fun i => (closS nB B nO O W G L len true).getD i 0) len = 0 := by
  obtain ⟨c1, c2, c3, c4, c5, c6, c7, c8⟩ := clos_facts h hok
  rw [closesE, if_pos (clos_ck h hok), sumI_list, sumI_list, if_pos c7]
end
section
theorem bestF_le {l : List (Nat × Int)} {T : Nat → Int} {k : Nat} {p : Nat × Int} (hp : p ∈ l) (hc : 0 ≤ candL T k p) : ∀ b, 0 ≤ l.foldl (fun b p => minP b (candL T k p)) b ∧ l.foldl (fun b p => minP b (candL T k p)) b ≤ candL T k p := by
  have stay : ∀ (l : List (Nat × Int)) (b : Int), 0 ≤ b → 0 ≤ l.foldl (fun b p => minP b (candL T k p)) b ∧ l.foldl (fun b p => minP b (candL T k p)) b ≤ b := by
    intro l
    induction l with
    | nil => intro b hb; exact ⟨hb, Int.le_refl _⟩
    | cons q l ih =>
      intro b hb
      show 0 ≤ l.foldl (fun b p => minP b (candL T k p)) (minP b (candL T k q)) ∧ l.foldl (fun b p => minP b (candL T k p)) (minP b (candL T k q)) ≤ b
      have hm : 0 ≤ minP b (candL T k q) ∧ minP b (candL T k q) ≤ b := by
        unfold minP
        split
        · omega
        · split <;> omega
      obtain ⟨h1, h2⟩ := ih _ hm.1
      exact ⟨h1, by omega⟩
  induction l with
  | nil => cases hp
  | cons q l ih =>
    intro b
    show 0 ≤ l.foldl (fun b p => minP b (candL T k p)) (minP b (candL T k q)) ∧ l.foldl (fun b p => minP b (candL T k p)) (minP b (candL T k q)) ≤ candL T k p
    rcases List.mem_cons.1 hp with rfl | hp
    · have hm : 0 ≤ minP b (candL T k p) ∧ minP b (candL T k p) ≤ candL T k p := by
        unfold minP
        split
        · omega
        · split <;> omega
      obtain ⟨h1, h2⟩ := stay l _ hm.1
      exact ⟨h1, by omega⟩
    · exact ih hp _
section
variable {l : List (Nat × Int)} (hc : ∀ p ∈ l, 0 ≤ p.2 ∧ p.2 ≤ 10001)
include hc
theorem tab_step {k : Nat} {p : Nat × Int} (hp : p ∈ l) (h1 : 1 ≤ p.1) (h2 : p.1 ≤ k) (h3 : 0 ≤ tabL l (k - p.1)) : 0 ≤ tabL l k ∧ tabL l k ≤ tabL l (k - p.1) + p.2 := by
  have e : candL (tabL l) k p = tabL l (k - p.1) + p.2 := by rw [candL, if_pos ⟨h1, h2, h3⟩]
  have hp2 := hc p hp
  have := bestF_le (T := tabL l) (k := k) hp (by rw [e]; omega) (-1)
  rw [tabL_eq l (by omega), ← e]
  exact this
end
/-- Whether so many units are a sum of parts. -/
inductive Rep (l : List Nat) : Nat → Prop
  | zero : Rep l 0
  | add {m k : Nat} (hm : m ∈ l) (h1 : 1 ≤ m) (h2 : m ≤ k) (h : Rep l (k - m)) : Rep l k
theorem Rep.mono {l l' : List Nat} (h : ∀ m, m ∈ l → m ∈ l') {k : Nat} (r : Rep l k) : Rep l' k := by
  induction r with
  | zero => exact .zero
  | add hm h1 h2 _ ih => exact .add (h _ hm) h1 h2 ih
end
end Go.Abs.Lay
end
