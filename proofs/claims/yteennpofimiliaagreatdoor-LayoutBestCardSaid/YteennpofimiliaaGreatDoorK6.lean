/- Contracts. -/
import Derived.Test.YteennpofimiliaaGreatDoorK5
set_option linter.unusedVariables false
set_option linter.unusedSimpArgs false
set_option maxRecDepth 100000
namespace Go.Abs
open Go
def cnt (n : Nat) (X Y : Nat → Int) (p q : Int) : Nat → Int
  | 0 => 0
  | k + 1 => if crB n X Y p q k = true then cnt n X Y p q k + 1 else cnt n X Y p q k
theorem cnt_spec (n : Nat) (X Y : Nat → Int) (p q : Int) : ∀ k, 0 ≤ cnt n X Y p q k ∧ cnt n X Y p q k ≤ k ∧ (crs n X Y p q k = true ↔ cnt n X Y p q k % 2 = 1)
  | 0 => by simp [cnt, crs]
  | k + 1 => by
    obtain ⟨h1, h2, h3⟩ := cnt_spec n X Y p q k
    simp only [cnt, crs]
    split
    · refine ⟨by omega, by omega, ?_⟩
      cases hc : crs n X Y p q k with
      | true => have := h3.1 hc; simp; omega
      | false =>
        have : ¬ cnt n X Y p q k % 2 = 1 := fun h => by rw [h3.2 h] at hc; cases hc
        simp; omega
    · exact ⟨h1, by omega, h3⟩
def formR (n : Nat) (X Y : Nat → Int) (j : Nat) : Bool := dO n X Y j && (!(dO n X Y ((j : Int) - 1)) || decide (dD n X Y j % 2 ≠ dD n X Y ((j : Int) - 1) % 2))
theorem dO_wrap {n : Nat} {X Y : Nat → Int} (hn : 0 < n) : dO n X Y (-1) = dO n X Y (((n - 1 : Nat)) : Int) := by
  have e1 : ix n (-1) = ix n (((n - 1 : Nat)) : Int) := by
    unfold ix
    rw [show (-1 + (n : Int)) = (((n - 1 : Nat)) : Int) by omega, Int.add_emod_right]
  have e2 : ix n (-1 + 1) = ix n ((((n - 1 : Nat)) : Int) + 1) := by
    unfold ix
    rw [show (((n - 1 : Nat)) : Int) + 1 = (n : Int) by omega, show (-1 + 1 + (n : Int)) = (n : Int) by omega, Int.add_emod_right]
  unfold dO
  rw [e1, e2]
theorem tmod_two (d e : Int) : (d - e).tmod 2 = 0 ↔ d % 2 = e % 2 := by
  rw [← Int.dvd_iff_tmod_eq_zero, Int.dvd_iff_emod_eq_zero]; omega
theorem formR_all {n : Nat} {X Y : Nat → Int} (hn : 0 < n) (h : ∀ j, j < n → formR n X Y j = true) : ∀ j, j < n → formOk n X Y j = true := by
  intro j hj
  have h1 := h j hj
  have hp : dO n X Y ((j : Int) - 1) = true := by
    cases j with
    | zero =>
      have h2 := h (n - 1) (by omega)
      simp only [formR, Bool.and_eq_true] at h2
      rw [show ((0:Nat) : Int) - 1 = -1 from rfl, dO_wrap hn]; exact h2.1
    | succ k =>
      have h2 := h k (by omega)
      simp only [formR, Bool.and_eq_true] at h2
      rw [show ((k + 1 : Nat) : Int) - 1 = (k : Int) by omega]; exact h2.1
  simp only [formR, hp, Bool.and_eq_true, Bool.not_true, Bool.false_or] at h1
  simp only [formOk, hp, h1.1, h1.2, Bool.and_self]
noncomputable def A59_twiceR_c (n : Nat) (X Y : Nat → Int) : Ann := { orc := [(5, [(2, rNext)])], loops := [(0, { ι := Nat, keep := [0], boxes := [], ts := fun _ i => [(3, dI (twS n X Y i)), (4, dI (i : Int))], inv := fun _ i => i ≤ n, mu := fun _ i => n - i, rd := fun _ σ => (iOf (σ.get 4)).toNat })], cuts := [] }
namespace wl
noncomputable section
structure Z where
  n : Nat
  X : Nat → Int
  Y : Nat → Int
variable (z : Z) (i0 : Nat)
abbrev x0 := (i0:Int) + 1
abbrev x1 := Int.toNat (x0 i0)
abbrev x2 := (z.X (Int.toNat (i0:Int))) * (z.Y (ix z.n (x0 i0)))
abbrev x3 := twS z.n z.X z.Y i0 + x2 z i0
abbrev x4 := (z.Y (Int.toNat (i0:Int))) * (z.X (ix z.n (x0 i0)))
abbrev xt : VT := VT.loop Nat (fun i0 => i0 ≤ z.n) (Int.toNat 0) [rf (0:Int), 0 = (↑(Int.toNat 0) : Int), rf z.n, ∀ i0 < z.n, rf (z.X i0), ∀ i0 < z.n, rf (z.Y i0)] (fun i0 => VT.ite (decide ((i0:Int) < (z.n:Int))) (VT.need [FnC prog 108 [DV.lst z.n [fun i0 => dI (z.X i0), fun i0 => dI (z.Y i0)], dI (i0:Int)] (DV.val (Value.agg (Array.mk [Value.int IntKind.i64 (z.X (ix z.n (x0 i0))), Value.int IntKind.i64 (z.Y (ix z.n (x0 i0)))])))] (VT.need [0 ≤ (i0:Int) ∧ (i0:Int) < (z.n:Int), i64In (x2 z i0), i64In (x3 z i0), 0 ≤ (i0:Int) ∧ (i0:Int) < (z.n:Int), i64In (x4 z i0), i64In (x3 z i0 - x4 z i0)] (VT.need [i64In (x0 i0)] (VT.done [x3 z i0 - x4 z i0 = twS z.n z.X z.Y (x1 i0), x0 i0 = (↑(x1 i0) : Int), rf z.n, ∀ i0 < z.n, rf (z.X i0), ∀ i0 < z.n, rf (z.Y i0), x1 i0 ≤ z.n, z.n - x1 i0 < z.n - i0])))) (VT.done [twS z.n z.X z.Y i0 = twS z.n z.X z.Y z.n]))
end
end wl
open wl in
theorem twiceR_c (n : Nat) (X Y : Nat → Int) (hn : 0 < n) (hn2 : n ≤ 800) (hX : inB n X) (hY : inB n Y) : FnC prog 140 [pts n X Y] (dI (twS n X Y n)) := by
  refine FnC_owed hmix (A59_twiceR_c n X Y) (V := xt ⟨n, X, Y⟩) (by kernel_rfl) ?_
  simp only [xt, x0, x1, x2, x3, x4, Rf, VT.holds, AllT, Sq]
  refine ⟨rfl, Nat.zero_le n, fun i hi => ⟨fun h => ?_, fun h => ?_⟩⟩
  · have b1 := tw_term hn hX hY i (i + 1)
    have b2 := tw_term hn hX hY (i + 1) i
    have b3 := twS_bd hn hX hY i
    have hc := Int.mul_comm (Y (ix n i)) (X (ix n (i + 1)))
    have e := ix_nat (n := n) (i := i) (by omega)
    have e2 : twS n X Y (i + 1) = twS n X Y i + (X (ix n i) * Y (ix n (i + 1)) - X (ix n (i + 1)) * Y (ix n i)) := rfl
    rw [e] at b1 b2 hc e2
    simp only [i64In]
    refine ⟨next_c n X Y i hn (by omega) (by omega) (by omega), by omega, by omega, by omega, by omega, by omega⟩
  · have : i = n := by omega
    rw [this]
noncomputable def A17_whereR_c (n : Nat) (X Y : Nat → Int) (p q : Int) : Ann := { orc := [(5, [(2, rNext)]), (6, [(9, rBetween), (20, rBetween)]), (10, [(1, .pos)])], loops := [(0, { ι := Nat, keep := [0, 3], boxes := [3], ts := fun _ i => [(5, dI (cnt n X Y p q i)), (6, dI (i : Int))], inv := fun _ i => i ≤ n ∧ ∀ j, j < i → onS n X Y p q j = false, mu := fun _ i => n - i, rd := fun _ σ => (iOf (σ.get 6)).toNat })], cuts := [] }
namespace wm
noncomputable section
structure Z where
  n : Nat
  X : Nat → Int
  Y : Nat → Int
  p : Int
  q : Int
variable (z : Z) (i0 i1 : Nat) (p : Prop) (P : List Prop) (a : Int) (k : Nat) (g h : Bool)
abbrev x0 := (i0:Int) + 1
abbrev x1 := z.X (Int.toNat (i0:Int))
abbrev x2 := z.X (ix z.n (x0 i0))
abbrev x3 := if g = true then h else false
abbrev x4 := x1 z i0 == x2 z i0
abbrev x5 := x3 (x4 z i0) (decide ((x1 z i0) > z.p))
abbrev x6 := z.Y (ix z.n (x0 i0))
abbrev x7 := z.Y (Int.toNat (i0:Int))
abbrev x8 : List Prop := ri (g = true) :: ri (h = true) :: P
abbrev x9 := decide ((min (x1 z i0) (x2 z i0) ≤ z.p) ∧ (z.p ≤ max (x1 z i0) (x2 z i0)))
abbrev x10 := x3 (x5 z i0) (decide (z.q ≥ (mins (x7 z i0) [x6 z i0])))
abbrev x11 := Int.toNat (x0 i0)
abbrev x12 := 0 ≤ (i0:Int) ∧ (i0:Int) < (z.n:Int)
abbrev x13 := cnt z.n z.X z.Y z.p z.q i0
abbrev x14 := x8 P (x5 z i0) (x5 z i0)
abbrev x15 := x8 P (x10 z i0) (x10 z i0)
abbrev x16 : List Prop := ri (g = true) :: (h = true → x12 z i0) :: P
abbrev x17 := x8 P (x9 z i0) (x9 z i0)
abbrev x18 := x8 P (x4 z i0) (x4 z i0)
abbrev x19 : List Prop := p :: (a = (k:Int)) :: rf z.n :: (∀ i0 < z.n, rf (z.X i0)) :: (∀ i0 < z.n, rf (z.Y i0)) :: rf z.p :: P
abbrev x20 := i1 < k → onS z.n z.X z.Y z.p z.q i1 = false
abbrev x21 := VT.done [a = whF z.n z.X z.Y z.p z.q]
abbrev x22 := decide ((min (x7 z i0) (x6 z i0) ≤ z.q) ∧ (z.q ≤ max (x7 z i0) (x6 z i0)))
abbrev x23 := VT.need [i64In (x0 i0)] (VT.done (x19 z (a = cnt z.n z.X z.Y z.p z.q (x11 i0)) [rf z.q, x11 i0 ≤ z.n ∧ (∀ (i1 : Nat), x20 z i1 (x11 i0)), z.n - x11 i0 < z.n - i0] (x0 i0) (x11 i0)))
abbrev xt : VT := VT.loop Nat (fun i0 => i0 ≤ z.n ∧ (∀ (i1 : Nat), x20 z i1 i0)) (Int.toNat 0) (x19 z (rf (0:Int)) [rf z.q] (0:Int) (Int.toNat 0)) (fun i0 => VT.ite (decide ((i0:Int) < (z.n:Int))) (VT.need [FnC prog 108 [DV.lst z.n [fun i0 => dI (z.X i0), fun i0 => dI (z.Y i0)], dI (i0:Int)] (DV.val (Value.agg (Array.mk [Value.int IntKind.i64 (x2 z i0), Value.int IntKind.i64 (x6 z i0)])))] (VT.need (x12 z i0 :: FnC prog 185 [dI z.p, dI (x1 z i0), dI (x2 z i0)] (dB (x9 z i0)) :: x17 z i0 (x16 z i0 (x17 z i0 (x17 z i0 (x17 z i0 [x9 z i0 = true → FnC prog 185 [dI z.q, dI (x7 z i0), dI (x6 z i0)] (dB (x22 z i0)), ri (x9 z i0 = true)]))) (x9 z i0) (x9 z i0))) (VT.ite (x3 (x9 z i0) (x22 z i0)) (x21 z (0:Int)) (VT.need (x12 z i0 :: ri (x4 z i0 = true) :: x16 z i0 (x18 z i0 (x18 z i0 (x18 z i0 (x14 z i0 (x16 z i0 (x14 z i0 (x14 z i0 (x14 z i0 (x14 z i0 (x15 z i0 (x16 z i0 (x15 z i0 (x15 z i0 (x15 z i0 (x15 z i0 [])))) (x10 z i0) (x10 z i0))))))) (x5 z i0) (x5 z i0)))))) (x4 z i0) (x4 z i0)) (VT.ite (x3 (x10 z i0) (decide (z.q < (maxs (x7 z i0) [x6 z i0])))) (VT.need [i64In (x13 z i0 + 1)] (x23 z i0 (x13 z i0 + 1))) (x23 z i0 (x13 z i0))))))) (VT.need [0 ≤ x13 z i0 ∧ (0:Int) < (2:Int)] (VT.ite (x13 z i0 % 2 == 1) (x21 z (1:Int)) (x21 z (-(1:Int))))))
end
end wm
open wm in
theorem whereR_c (n : Nat) (X Y : Nat → Int) (p q : Int) (hn : 0 < n) (hn2 : n ≤ 800) : FnC prog 173 [pts n X Y, dP p q] (dI (whF n X Y p q)) := by
  refine FnC_owed hmix (A17_whereR_c n X Y p q) (V := xt ⟨n, X, Y, p, q⟩) (by kernel_rfl) ?_
  simp only [xt, x0, x1, x2, x3, x4, x5, x6, x7, x8, x9, x10, x11, x12, x13, x14, x15, x16, x17, x18, x19, x20, x21, x22, x23, Rf, VT.holds, AllT, Sq]
  refine ⟨rfl, ⟨Nat.zero_le n, fun j hj => (by omega)⟩, fun i ⟨hin, hb⟩ => ⟨fun hlt => ?_, fun hge => ?_⟩⟩
  · have e := ix_nat (n := n) (i := i) (by omega)
    have e1 : lo n X i = min (X i) (X (ix n (i + 1))) := by unfold lo; rw [e]
    have e2 : hi n X i = max (X i) (X (ix n (i + 1))) := by unfold hi; rw [e]
    have e3 : lo n Y i = min (Y i) (Y (ix n (i + 1))) := by unfold lo; rw [e]
    have e4 : hi n Y i = max (Y i) (Y (ix n (i + 1))) := by unfold hi; rw [e]
    have m1 : mins (Y i) [Y (ix n (i + 1))] = lo n Y i := by simp only [mins]; split <;> omega
    have m2 : maxs (Y i) [Y (ix n (i + 1))] = hi n Y i := by simp only [maxs]; split <;> omega
    have f1 : (X i = X (ix n (i + 1)) ∧ X i > p) ↔ (lo n X i = hi n X i ∧ lo n X i > p) := by omega
    have b1 := between_c p (X i) (X (ix n (i + 1)))
    have b2 := between_c q (Y i) (Y (ix n (i + 1)))
    have hr : (0:Int) ≤ i ∧ (i : Int) < n := by omega
    rw [m1, m2]
    refine ⟨next_c n X Y i hn (by omega) (by omega) (by omega), ⟨hr, b1, fun _ => hr, fun _ => b2⟩, fun hon => ?_, fun hoff => ⟨⟨hr, fun _ => hr, fun _ => hr, fun _ => hr⟩, ?_⟩⟩
    · rw [whF, if_pos (fun hall => ?_)]
      have := hall i (by omega)
      unfold onS at this
      rw [decide_eq_false_iff_not] at this
      exact this (by omega)
    · have hbn : ∀ j, j < i + 1 → onS n X Y p q j = false := fun j hj => by
        by_cases e : j = i
        · subst e
          unfold onS
          rw [decide_eq_false_iff_not]
          omega
        · exact hb j (by omega)
      obtain ⟨c1, c2, _⟩ := cnt_spec n X Y p q i
      refine ⟨fun hc => ⟨by unfold i64In; omega, by unfold i64In; omega, ?_, rfl, ⟨by omega, hbn⟩, by omega⟩, fun hc => ⟨by unfold i64In; omega, ?_, rfl, ⟨by omega, hbn⟩, by omega⟩⟩
      · rw [cnt, if_pos]
        unfold crB
        rw [decide_eq_true_eq]; omega
      · rw [cnt, if_neg]
        unfold crB
        rw [decide_eq_true_eq]; omega
  · have hall : ∀ j, j < n → onS n X Y p q j = false := fun j hj => hb j (by omega)
    have : i = n := by omega
    subst this
    obtain ⟨c1, c2, c3⟩ := cnt_spec i X Y p q i
    refine ⟨by omega, fun h => ?_, fun h => ?_⟩
    · rw [whF, if_neg (fun hx => hx hall), if_pos (c3.2 h)]
    · rw [whF, if_neg (fun hx => hx hall), if_neg (fun hx => h (c3.1 hx))]
noncomputable def A15_checkR_c (n : Nat) (X Y : Nat → Int) : Ann := { orc := [(2, [(1, rWithin)]), (7, [(5, rIn), (13, rIn)]), (12, [(6, rNext), (7, rDirR), (14, .pos), (21, rDirR)]), (22, [(6, rNext), (13, rNext), (14, rTouR)]), (24, [(1, rTw)])], loops := [(0, { ι := Nat, keep := [0, 3], boxes := [], ts := fun _ i => [(4, dI (i : Int))], inv := fun _ i => i ≤ n ∧ ∀ j, j < i → badP X Y j = false, mu := fun _ i => n - i, rd := fun _ σ => (iOf (σ.get 4)).toNat }),
  (2, { ι := Nat, keep := [0, 3], boxes := [], ts := fun _ i => [(5, dI (i : Int))], inv := fun _ i => i ≤ n ∧ ∀ j, j < i → formR n X Y j = true, mu := fun _ i => n - i, rd := fun _ σ => (iOf (σ.get 5)).toNat }),
  (4, { ι := Nat, keep := [0, 3], boxes := [], ts := fun _ i => [(8, dI (i : Int))], inv := fun _ i => i ≤ n ∧ ∀ j, j < i → ∀ k, k < n → j + 2 ≤ k → clash n X Y j k = false, mu := fun _ i => n - i, rd := fun _ σ => (iOf (σ.get 8)).toNat }),
  (6, { ι := Nat, keep := [0, 3, 8], boxes := [], ts := fun _ k => [(9, dI (k : Int))], inv := fun σ k => (iOf (σ.get 8)).toNat + 1 ≤ k ∧ ∀ j, j < k → (iOf (σ.get 8)).toNat + 2 ≤ j → j < n → clash n X Y (iOf (σ.get 8)).toNat j = false, mu := fun _ k => n + 2 - k, rd := fun _ σ => (iOf (σ.get 9)).toNat })], cuts := [] }
namespace wn
noncomputable section
structure Z where
  n : Nat
  X : Nat → Int
  Y : Nat → Int
variable (z : Z) (i0 i1 i2 : Nat) (p : Prop) (P : List Prop) (a b : Int) (k : Nat) (g h : Bool) (U V : VT) (j10a : Nat → Prop) (j11a : Nat → VT)
abbrev x0 : Int := (i0:Int)
abbrev x1 : Int := (z.n:Int)
abbrev x2 := z.X (Int.toNat (x0 i0))
abbrev x3 := z.Y (Int.toNat (x0 i0))
abbrev x4 := (x0 i0 + x1 z - 1) % x1 z
abbrev x5 := z.X (ix z.n (x0 i0 + 1))
abbrev x6 := z.Y (ix z.n (x0 i0 + 1))
abbrev x7 := (i1:Int) + 1
abbrev x8 := dirR (x2 z i0) (x3 z i0) (x5 z i0) (x6 z i0)
abbrev x9 := Int.toNat (x0 i0 + 1)
abbrev x10 := decide ((x8 z i0) < (0:Int))
abbrev x11 := (i1:Int) == x0 i0 + 1
abbrev x12 := dirR (z.X (Int.toNat (x4 z i0))) (z.Y (Int.toNat (x4 z i0))) (x2 z i0) (x3 z i0)
abbrev x13 := !(inF (x2 z i0))
abbrev x14 := DV.val (Value.agg (Array.mk [Value.int IntKind.i64 a, Value.int IntKind.i64 b]))
abbrev x15 := decide ((x12 z i0) ≥ (0:Int))
abbrev x16 := Int.toNat (x7 i1)
abbrev x17 := ((!(x10 z i0)) && (x15 z i0)) = true
abbrev x18 : List Prop := p :: rf z.n :: (∀ i0 < z.n, rf (z.X i0)) :: (∀ i0 < z.n, rf (z.Y i0)) :: P
abbrev x19 := VT.ite g (VT.done [a = chk z.n z.X z.Y]) U
abbrev x20 := ((!(x11 i0 i1)) && (x0 i0 == 0)) = true
abbrev x21 := 0 ≤ x0 i0 ∧ x0 i0 < x1 z
abbrev x22 := x14 (x5 z i0) (x6 z i0)
abbrev x23 := x0 i0 + 1 = (↑(x9 i0) : Int)
abbrev x24 := DV.lst z.n [fun i0 => dI (z.X i0), fun i0 => dI (z.Y i0)]
abbrev x25 := if g = true then true else h
abbrev x26 := VT.ite (decide ((x0 i0) < (x1 z))) U V
abbrev x27 := g = false → (!h) = true
abbrev x28 := x14 (x2 z i0) (x3 z i0)
abbrev x29 := VT.loop Nat j10a (Int.toNat 0) [0 = (↑(Int.toNat 0) : Int), rf z.n, ∀ i0 < z.n, rf (z.X i0), ∀ i0 < z.n, rf (z.Y i0), rf (x1 z)] j11a
abbrev x30 := VT.need [i64In (x0 i0 + 1)] (VT.done (x18 z (x23 i0) [rf (x1 z), x9 i0 ≤ z.n ∧ p, z.n - x9 i0 < z.n - i0]))
abbrev x31 := i2 < k → Int.toNat (x0 i0) + 2 ≤ i2 → i2 < z.n → clash z.n z.X z.Y (Int.toNat (x0 i0)) i2 = false
abbrev x32 := x14 (z.X (ix z.n (x7 i1))) (z.Y (ix z.n (x7 i1)))
abbrev x33 : List Prop := ri ((!(x13 z i0)) = true) :: ((!(x13 z i0)) = true → p) :: ri ((!(x13 z i0)) = true) :: P
abbrev x34 := VT.need (x21 z i0 :: FnC prog 108 [x24 z, dI (x0 i0)] (x22 z i0) :: P) U
abbrev x35 := decide ((4 ≤ x1 z) ∧ (x1 z ≤ 40))
abbrev x36 := FnC prog 104 [dI a] (dB (inF b))
abbrev x37 := ∀ i0 < z.n, i1 + 2 ≤ i0 → clash z.n z.X z.Y i1 i0 = false
abbrev x38 := VT.need [i64In (x7 i1)] (VT.done (x18 z (x7 i1 = (↑(x16 i1) : Int)) [rf (x1 z), rf (x0 i0), Int.toNat (x0 i0) + 1 ≤ x16 i1 ∧ (∀ (i2 : Nat), x31 z i0 i2 (x16 i1)), z.n + 2 - x16 i1 < z.n + 2 - i1]))
abbrev x39 := touR (x2 z i0) (x3 z i0) (x5 z i0) (x6 z i0) (z.X (Int.toNat (i1:Int))) (z.Y (Int.toNat (i1:Int))) (z.X (ix z.n (x7 i1))) (z.Y (ix z.n (x7 i1)))
abbrev xt : VT := VT.need [FnC prog 34 [dI (x1 z), dI 4, dI 40] (dB (x35 z))] (x19 z (11:Int) (!(x35 z)) (x29 z (fun i0 => i0 ≤ z.n ∧ (∀ i1 < i0, badP z.X z.Y i1 = false)) (fun i0 => x26 z i0 (VT.need (x21 z i0 :: x36 (x2 z i0) (x2 z i0) :: ri ((!(x13 z i0)) = true) :: x33 z i0 (x21 z i0) (ri ((!(x13 z i0)) = true) :: x33 z i0 (x36 (x3 z i0) (x3 z i0)) [x27 (x13 z i0) (x13 z i0)])) (x19 z (2:Int) (x25 (x13 z i0) (!(inF (x3 z i0)))) (x30 z i0 (∀ i1 < x9 i0, badP z.X z.Y i1 = false)))) (x29 z (fun i0 => i0 ≤ z.n ∧ (∀ i1 < i0, formR z.n z.X z.Y i1 = true)) (fun i0 => x26 z i0 (x34 z i0 [FnC prog 110 [x28 z i0, x22 z i0] (dI (x8 z i0)), i64In (x0 i0 + x1 z), i64In (x0 i0 + x1 z - 1), 0 ≤ x0 i0 + x1 z - 1 ∧ 0 < x1 z, 0 ≤ x4 z i0 ∧ x4 z i0 < x1 z, x21 z i0, FnC prog 110 [x14 (z.X (Int.toNat (x4 z i0))) (z.Y (Int.toNat (x4 z i0))), x28 z i0] (dI (x12 z i0))] (VT.need [ri ((!(x10 z i0)) = true), ri ((!(x10 z i0)) = true), ri (x17 z i0), ri (x17 z i0), x17 z i0 → i64In (x8 z i0 - x12 z i0), ri (x17 z i0), x17 z i0 → ((2:Int) ≠ (0:Int)), ri (x17 z i0), ri ((!(x10 z i0)) = true), (!(x10 z i0)) = true → x15 z i0 = true → x17 z i0, x27 (x10 z i0) (x10 z i0)] (x19 z (3:Int) (x25 (x10 z i0) (if (x15 z i0) = true then (Int.tmod (x8 z i0 - x12 z i0) 2 == 0) else false)) (x30 z i0 (∀ i1 < x9 i0, formR z.n z.X z.Y i1 = true))))) (x29 z (fun i0 => i0 ≤ z.n ∧ (∀ i1 < i0, x37 z i1)) (fun i0 => x26 z i0 (VT.need [i64In (x0 i0 + 1)] (VT.loop Nat (fun i1 => Int.toNat (x0 i0) + 1 ≤ i1 ∧ (∀ (i2 : Nat), x31 z i0 i2 i1)) (x9 i0) (x18 z (x23 i0) [rf (x1 z), rf (x0 i0)]) (fun i1 => VT.ite (decide ((i1:Int) < (x1 z))) (VT.need [i64In (x0 i0 + 1), ri ((!(x11 i0 i1)) = true), ri ((!(x11 i0 i1)) = true), ri (x20 i0 i1), x20 i0 i1 → i64In (x1 z - 1), ri (x20 i0 i1), ri (x20 i0 i1), ri ((!(x11 i0 i1)) = true), (!(x11 i0 i1)) = true → (x0 i0 == 0) = true → x20 i0 i1, x27 (x11 i0 i1) (x11 i0 i1)] (VT.ite (x25 (x11 i0 i1) (if (x0 i0 == 0) = true then ((i1:Int) == x1 z - 1) else false)) (x38 z i0 i1) (x34 z i0 [0 ≤ (i1:Int) ∧ (i1:Int) < x1 z, FnC prog 108 [x24 z, dI (i1:Int)] (x32 z i1), FnC prog 139 [x28 z i0, x22 z i0, x14 (z.X (Int.toNat (i1:Int))) (z.Y (Int.toNat (i1:Int))), x32 z i1] (dB (x39 z i0 i1))] (x19 z (12:Int) (x39 z i0 i1) (x38 z i0 i1))))) (x30 z i0 (∀ i1 < x9 i0, x37 z i1))))) (VT.need [FnC prog 140 [x24 z] (dI (twS z.n z.X z.Y z.n))] (x19 z (10:Int) (decide ((twS z.n z.X z.Y z.n) < (0:Int))) (VT.done [0 = chk z.n z.X z.Y]))))))))))
end
end wn
open wn in
theorem checkR_c (n : Nat) (X Y : Nat → Int) (hn2 : n ≤ 1000000) : FnC prog 96 [pts n X Y] (dI (chk n X Y)) := by
  refine FnC_owed hmix (A15_checkR_c n X Y) (V := xt ⟨n, X, Y⟩) (by kernel_rfl) ?_
  simp only [xt, x0, x1, x2, x3, x4, x5, x6, x7, x8, x9, x10, x11, x12, x13, x14, x15, x16, x17, x18, x19, x20, x21, x22, x23, x24, x25, x26, x27, x28, x29, x30, x31, x32, x33, x34, x35, x36, x37, x38, x39, Rf, VT.holds, AllT, Sq]
  refine ⟨within_c _ _ _, fun h => ?_, fun h => ⟨rfl, ⟨Nat.zero_le n, fun j hj => (by omega)⟩, fun i ⟨hin, hb⟩ => ⟨fun hlt => ?_, fun hge => ⟨rfl, ⟨Nat.zero_le n, fun j hj => (by omega)⟩, fun i1 ⟨hi1, hf⟩ => ⟨fun hlt1 => ?_, fun hge1 => ⟨rfl, ⟨Nat.zero_le n, fun j hj => (by omega)⟩, fun i2 ⟨hi2, hc⟩ => ⟨fun hlt2 => ⟨by unfold i64In; omega, rfl, ⟨Nat.le_refl _, fun j h1 h2 => (by omega)⟩, fun k ⟨hk, hck⟩ => ⟨fun hkn => ?_, fun hkn => ?_⟩⟩, fun hge2 => ?_⟩⟩⟩⟩⟩⟩⟩
  · rw [chk, if_pos (by omega)]
  · have hr : (0:Int) ≤ i ∧ (i : Int) < n := by omega
    have b1 := in_c (X i)
    have b2 := in_c (Y i)
    refine ⟨⟨hr, b1, fun _ => hr, fun _ => b2⟩, fun hbad => ?_, fun hok => ⟨by unfold i64In; omega, rfl, ⟨by omega, fun j hj => ?_⟩, by omega⟩⟩
    · rw [chk, if_neg (by omega), if_pos]
      unfold allIn
      rw [decide_eq_false_iff_not]
      intro hall
      have := hall i (by omega)
      rcases hbad with hx | hx <;> simp [badP, hx] at this
    · by_cases e : j = i
      · subst e
        simp [badP, hok.2, hok.1]
      · exact hb j (by omega)
  · have hr : (0:Int) ≤ i1 ∧ (i1 : Int) < n := by omega
    have e0 := ix_nat (n := n) (i := i1) (by omega)
    have e1 : ix n ((i1 : Int) - 1 + 1) = i1 := by rw [show (i1 : Int) - 1 + 1 = (i1 : Int) by omega, e0]
    have m1 := Int.emod_lt_of_pos ((i1 : Int) + n - 1) (show (0:Int) < n by omega)
    have m2 := Int.emod_nonneg ((i1 : Int) + n - 1) (show (n : Int) ≠ 0 by omega)
    have d1 := dirR_c (X i1) (Y i1) (X (ix n ((i1 : Int) + 1))) (Y (ix n ((i1 : Int) + 1)))
    have d2 := dirR_c (X (ix n ((i1 : Int) - 1))) (Y (ix n ((i1 : Int) - 1))) (X i1) (Y i1)
    rw [ix_prev]
    have g1 : dirR (X i1) (Y i1) (X (ix n ((i1 : Int) + 1))) (Y (ix n ((i1 : Int) + 1))) = if dO n X Y i1 = true then dD n X Y i1 else -1 := by
      unfold dirR dO dD; rw [e0]
    have g2 : dirR (X (ix n ((i1 : Int) - 1))) (Y (ix n ((i1 : Int) - 1))) (X i1) (Y i1) = if dO n X Y ((i1 : Int) - 1) = true then dD n X Y ((i1 : Int) - 1) else -1 := by
      unfold dirR dO dD; rw [e1]
    have r1 := dD_range n X Y i1
    have r2 := dD_range n X Y ((i1 : Int) - 1)
    generalize hd : dirR (X i1) (Y i1) (X (ix n ((i1 : Int) + 1))) (Y (ix n ((i1 : Int) + 1))) = d at *
    generalize he : dirR (X (ix n ((i1 : Int) - 1))) (Y (ix n ((i1 : Int) - 1))) (X i1) (Y i1) = e at *
    have par := tmod_two d e
    have b1 : -1 ≤ d ∧ d ≤ 3 := by rw [g1]; split <;> omega
    have b2 : -1 ≤ e ∧ e ≤ 3 := by rw [g2]; split <;> omega
    refine ⟨⟨hr, next_c n X Y i1 (by omega) (by omega) (by omega) (by omega), d1, by unfold i64In; omega, by unfold i64In; omega, ⟨by omega, by omega⟩, ⟨m2, m1⟩, hr, d2⟩, ⟨fun _ => by unfold i64In; omega, fun _ => by omega, fun h1 h2 => ⟨h1, h2⟩⟩, fun hbad => ?_, fun hok => ⟨by unfold i64In; omega, rfl, ⟨by omega, fun j hj => ?_⟩, by omega⟩⟩
    · have hnf : formOk n X Y i1 = false := by
        unfold formOk
        cases ho1 : dO n X Y i1
        · simp
        · cases ho2 : dO n X Y ((i1 : Int) - 1)
          · simp
          · rw [ho1] at g1
            rw [ho2] at g2
            simp only [if_true] at g1 g2
            simp
            omega
      have ha : allIn n X Y = true := by
        unfold allIn
        rw [decide_eq_true_eq]
        exact fun j hj => hb j (by omega)
      rw [chk, if_neg (by omega), if_neg (by rw [ha]; simp), if_pos (fun hall => by rw [hall i1 (by omega)] at hnf; cases hnf)]
    · by_cases ej : j = i1
      · subst ej
        unfold formR
        cases ho1 : dO n X Y j
        · rw [ho1] at g1; simp at g1; omega
        · cases ho2 : dO n X Y ((j : Int) - 1)
          · simp
          · rw [ho1] at g1
            rw [ho2] at g2
            simp only [if_true] at g1 g2
            simp
            have := hok.2 (by omega)
            omega
      · exact hf j (by omega)
  · have hr1 : (0:Int) ≤ i2 ∧ (i2 : Int) < n := by omega
    have hr2 : (0:Int) ≤ k ∧ (k : Int) < n := by omega
    have e1 := ix_nat (n := n) (i := i2) (by omega)
    have e2 := ix_nat (n := n) (i := k) (by omega)
    have t := touchR_c (X i2) (Y i2) (X (ix n ((i2 : Int) + 1))) (Y (ix n ((i2 : Int) + 1))) (X k) (Y k) (X (ix n ((k : Int) + 1))) (Y (ix n ((k : Int) + 1)))
    have te : touR (X i2) (Y i2) (X (ix n ((i2 : Int) + 1))) (Y (ix n ((i2 : Int) + 1))) (X k) (Y k) (X (ix n ((k : Int) + 1))) (Y (ix n ((k : Int) + 1))) = touF n X Y i2 k := by
      unfold touR touF lo hi; rw [e1, e2]
    rw [te] at t ⊢
    have cl : clash n X Y i2 k = (decide (((k : Int) + 1) % (n : Int) ≠ (i2 : Int)) && touF n X Y i2 k) := rfl
    have cm : ((k : Int) + 1) % (n : Int) = (i2 : Int) ↔ (i2 = 0 ∧ k = n - 1) := by
      by_cases ek : k = n - 1
      · rw [show (k : Int) + 1 = n by omega, Int.emod_self]; omega
      · rw [Int.emod_eq_of_lt (by omega) (by omega)]; omega
    refine ⟨⟨by unfold i64In; omega, fun _ => by unfold i64In; omega, fun h1 h2 => ⟨h1, h2⟩⟩, fun hs => ⟨by unfold i64In; omega, rfl, ⟨by omega, fun j h1 h2 h3 => ?_⟩, by omega⟩, fun hs => ⟨⟨hr1, next_c n X Y i2 (by omega) (by omega) (by omega) (by omega), hr2, next_c n X Y k (by omega) (by omega) (by omega) (by omega), t⟩, fun ht => ?_, fun ht => ⟨by unfold i64In; omega, rfl, ⟨by omega, fun j h1 h2 h3 => ?_⟩, by omega⟩⟩⟩
    · by_cases ej : j = k
      · subst ej
        have hx := cm.2 (show i2 = 0 ∧ j = n - 1 by omega)
        rw [cl]
        simp [hx]
      · exact hck j (by omega) h2 h3
    · have ha : allIn n X Y = true := by
        unfold allIn
        rw [decide_eq_true_eq]
        exact fun j hj => hb j (by omega)
      have hform := formR_all (n := n) (X := X) (Y := Y) (by omega) (fun j hj => hf j (by omega))
      rw [chk, if_neg (by omega), if_neg (by rw [ha]; simp), if_neg (fun hx => hx hform), if_pos (fun hall => ?_)]
      have h2 := hall i2 (by omega) k (by omega) (by omega)
      rw [cl, ht, Bool.and_true, decide_eq_false_iff_not] at h2
      exact h2 (fun hx => by have := cm.1 hx; omega)
    · by_cases ej : j = k
      · subst ej
        rw [cl, ht, Bool.and_false]
      · exact hck j (by omega) h2 h3
  · refine ⟨by unfold i64In; omega, rfl, ⟨by omega, fun j h1 k' h2 h3 => ?_⟩, by omega⟩
    by_cases e : j = i2
    · subst e; exact hck k' (by omega) h3 h2
    · exact hc j (by omega) k' h2 h3
  · have ha : allIn n X Y = true := by
      unfold allIn
      rw [decide_eq_true_eq]
      exact fun j hj => hb j (by omega)
    obtain ⟨b1, b2⟩ := allIn_inB ha
    have hform := formR_all (n := n) (X := X) (Y := Y) (by omega) (fun j hj => hf j (by omega))
    have hcl : ∀ j, j < n → ∀ k, k < n → j + 2 ≤ k → clash n X Y j k = false := fun j hj => hc j (by omega)
    refine ⟨twiceR_c n X Y (by omega) (by omega) b1 b2, fun ht => ?_, fun ht => ?_⟩
    · rw [chk, if_neg (by omega), if_neg (by rw [ha]; simp), if_neg (fun hx => hx hform), if_neg (fun hx => hx hcl), if_pos ht]
    · rw [chk, if_neg (by omega), if_neg (by rw [ha]; simp), if_neg (fun hx => hx hform), if_neg (fun hx => hx hcl), if_neg ht]
end Go.Abs
