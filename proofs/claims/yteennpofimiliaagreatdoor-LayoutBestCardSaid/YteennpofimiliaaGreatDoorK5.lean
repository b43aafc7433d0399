/- Contracts. Contracts. -/
import Derived.Test.YteennpofimiliaaGreatDoorK3
section
set_option linter.unusedVariables false
set_option linter.unusedSimpArgs false
set_option maxRecDepth 100000
namespace Go.Abs
open Go
theorem chk_zero {n : Nat} {X Y : Nat → Int} (h : chk n X Y = 0) : (4 ≤ n ∧ n ≤ 40) ∧ allIn n X Y = true ∧ (∀ i, i < n → formOk n X Y i = true) ∧
    (∀ i, i < n → ∀ k, k < n → i + 2 ≤ k → clash n X Y i k = false) ∧ 0 ≤ twS n X Y n := by
  unfold chk at h
  split at h
  · cases h
  · rename_i h1
    split at h
    · cases h
    · rename_i h2
      split at h
      · cases h
      · rename_i h3
        split at h
        · cases h
        · rename_i h4
          split at h
          · cases h
          · rename_i h5
            exact ⟨Decidable.not_not.1 h1, by simpa using h2, Decidable.not_not.1 h3, Decidable.not_not.1 h4, by omega⟩
theorem chk_inB {n : Nat} {X Y : Nat → Int} (h : chk n X Y = 0) : inB n X ∧ inB n Y := allIn_inB (chk_zero h).2.1
theorem chk_n {n : Nat} {X Y : Nat → Int} (h : chk n X Y = 0) : 4 ≤ n ∧ n ≤ 40 := (chk_zero h).1
def onS (n : Nat) (X Y : Nat → Int) (p q : Int) (i : Nat) : Bool := decide (lo n X i ≤ p ∧ p ≤ hi n X i ∧ lo n Y i ≤ q ∧ q ≤ hi n Y i)
def crB (n : Nat) (X Y : Nat → Int) (p q : Int) (i : Nat) : Bool := decide (lo n X i = hi n X i ∧ lo n X i > p ∧ lo n Y i ≤ q ∧ q < hi n Y i)
def crs (n : Nat) (X Y : Nat → Int) (p q : Int) : Nat → Bool
  | 0 => false
  | k + 1 => if crB n X Y p q k = true then !(crs n X Y p q k) else crs n X Y p q k
def whF (n : Nat) (X Y : Nat → Int) (p q : Int) : Int := if ¬ ∀ i, i < n → onS n X Y p q i = false then 0 else if crs n X Y p q n = true then 1 else -1
def ap (p l h : Int) : Int := max (max (l - p) (p - h)) 0
def dst (n : Nat) (X Y : Nat → Int) (p q : Int) (i : Nat) : Int := ap p (lo n X i) (hi n X i) * ap p (lo n X i) (hi n X i) + ap q (lo n Y i) (hi n Y i) * ap q (lo n Y i) (hi n Y i)
def cor (n : Nat) (X Y : Nat → Int) (k : Nat) : Int := if dD n X Y k = (dD n X Y ((k : Int) - 1) + 1) % 4 then 1 else -1
def rWhF : Orc := .res fun l => dI (whF (aN l) (aX l) (aY l) (fI 0 (arg l 1)) (fI 1 (arg l 1)))
def coN (n : Nat) (X Y : Nat → Int) : Nat := if chk n X Y ≠ 0 then 0 else n
theorem lo_bd {n : Nat} {X : Nat → Int} (hn : 0 < n) (h : inB n X) (i : Int) : -1000000 ≤ lo n X i ∧ lo n X i ≤ 1000000 := by
  have := h _ (ix_lt (i := i) hn)
  have := h _ (ix_lt (i := i + 1) hn)
  unfold lo; omega
theorem hi_bd {n : Nat} {X : Nat → Int} (hn : 0 < n) (h : inB n X) (i : Int) : -1000000 ≤ hi n X i ∧ hi n X i ≤ 1000000 := by
  have := h _ (ix_lt (i := i) hn)
  have := h _ (ix_lt (i := i + 1) hn)
  unfold hi; omega
noncomputable def A21_corners_c (n : Nat) (X Y : Nat → Int) : Ann := { orc := [(1, [(1, rChk)]), (9, [(2, rOuter)])], loops := [(0, { ι := Nat, keep := [0, 14], boxes := [], ts := fun _ i => [(15, dI (i : Int))], rw := fun _ i => [(5, 1, i, [fun k => dI (cor n X Y k)])], inv := fun _ i => i ≤ n, mu := fun _ i => n - i, rd := fun _ σ => (iOf (σ.get 15)).toNat })], cuts := [] }
namespace we
noncomputable section
structure Z where
  n : Nat
  X : Nat → Int
  Y : Nat → Int
variable (z : Z) (i0 i1 : Nat) (p : Prop) (P : List Prop) (a : Int)
abbrev x0 := Int.toNat ((i0:Int) + 1)
abbrev x1 := chk z.n z.X z.Y
abbrev x2 : List Prop := rf z.n :: (∀ i0 < z.n, rf (z.X i0)) :: (∀ i0 < z.n, rf (z.Y i0)) :: P
abbrev x3 := DV.lst z.n [fun i0 => dI (z.X i0), fun i0 => dI (z.Y i0)]
abbrev x4 := VT.need [i0 ≤ i0, (i0 + 1) * ((nat_lit 7) + 1) ≤ 140737488355328, (1:Nat) ≤ (1:Nat)] (VT.need [i64In ((i0:Int) + 1)] (VT.done (((i0:Int) + 1 = (↑(x0 i0) : Int)) :: rf (0:Nat) :: (i0 + 1 = x0 i0) :: x2 z [rf (z.n:Int), i0 + 1 = x0 i0, p, x0 i0 ≤ z.n, z.n - x0 i0 < z.n - i0])))
abbrev x5 := i1 < x0 i0 → (if (decide (i1 < i0)) = true then (cor z.n z.X z.Y i1) else a) = cor z.n z.X z.Y i1
abbrev x6 := decide ((dD z.n z.X z.Y (i0:Int)) = ((dD z.n z.X z.Y ((i0:Int) - 1) + 1) % 4))
abbrev xt : VT := VT.need [FnC prog 121 [x3 z] (dI (x1 z))] (VT.ite (x1 z != 0) (VT.done [coN z.n z.X z.Y = 0, rf (x1 z)]) (VT.loop Nat (fun i0 => i0 ≤ z.n) (Int.toNat 0) ((0 = (↑(Int.toNat 0) : Int)) :: rf (0:Nat) :: (Int.toNat 0 = 0) :: x2 z [rf (z.n:Int), Int.toNat 0 = 0]) (fun i0 => VT.ite (decide ((i0:Int) < (z.n:Int))) (VT.need [FnC prog 123 [x3 z, dI (i0:Int)] (dB (x6 z i0))] (VT.ite (x6 z i0) (x4 z i0 (∀ (i1 : Nat), x5 z i0 i1 (1:Int))) (x4 z i0 (∀ (i1 : Nat), x5 z i0 i1 (-(1:Int)))))) (VT.done [i0 ≤ i0, i0 = coN z.n z.X z.Y, ∀ i0 < coN z.n z.X z.Y, rf (cor z.n z.X z.Y i0), 0 = x1 z]))))
end
end we
open we in
theorem corners_c (n : Nat) (X Y : Nat → Int) (hn2 : n ≤ 1000000) : FnC prog 84 [pts n X Y] (.tup [.lst (coN n X Y) [fun k => dI (cor n X Y k)], dI (chk n X Y)]) := by
  refine FnC_owed hmix (A21_corners_c n X Y) (V := xt ⟨n, X, Y⟩) (by kernel_rfl) ?_
  simp only [xt, x0, x1, x2, x3, x4, x5, x6, Rf, VT.holds, AllT, Sq]
  refine ⟨checkOutline_c n X Y hn2, fun h => by rw [coN, if_pos h], fun h => ⟨rfl, Nat.zero_le n, fun i hin => ⟨fun hlt => ?_, fun hge => ⟨Nat.le_refl i, ?_, h.symm⟩⟩⟩⟩
  · have hn := chk_n h
    have last : ∀ s : Int, s = cor n X Y i → ∀ k, k < i + 1 → (if k < i then cor n X Y k else s) = cor n X Y k := fun s hs k hk => by
      by_cases e : k < i
      · rw [if_pos e]
      · have : k = i := by omega
        subst this
        rw [if_neg e, hs]
    refine ⟨outer_c n X Y i (by omega) (by omega) (by omega) (by omega), fun ho => ⟨⟨Nat.le_refl i, by omega, Nat.le_refl 1⟩, by unfold i64In; omega, rfl, last 1 (by rw [cor, if_pos ho]), by omega, by omega⟩, fun ho => ⟨⟨Nat.le_refl i, by omega, Nat.le_refl 1⟩, by unfold i64In; omega, rfl, last (-1) (by rw [cor, if_neg ho]), by omega, by omega⟩⟩
  · rw [coN, if_neg (by rw [h]; simp)]
    omega
end Go.Abs
end
section
set_option linter.unusedVariables false
set_option linter.unusedSimpArgs false
set_option maxRecDepth 100000
namespace Go.Abs
open Go
theorem ix_nat {n i : Nat} (h : i < n) : ix n (i : Int) = i := by
  unfold ix
  rw [Int.add_emod_right, Int.emod_eq_of_lt (by omega) (by omega)]
  rfl
theorem ix_next {n : Nat} (i : Int) : ((i + 1) % (n : Int)).toNat = ix n (i + 1) := by
  unfold ix; rw [Int.add_emod_right]
theorem ix_prev {n : Nat} (i : Int) : ((i + (n : Int) - 1) % (n : Int)).toNat = ix n (i - 1) := by
  unfold ix; congr 2; omega
def rWithin : Orc := .res fun l => dB (decide (aI l 1 ≤ aI l 0 ∧ aI l 0 ≤ aI l 2))
def dirR (a b c d : Int) : Int := if dirOk a b c d = true then dirD a b c d else -1
def rDirR : Orc := .res fun l => dI (dirR (fI 0 (arg l 0)) (fI 1 (arg l 0)) (fI 0 (arg l 1)) (fI 1 (arg l 1)))
def rNext : Orc := .res fun l => dP (aX l (ix (aN l) (aI l 1 + 1))) (aY l (ix (aN l) (aI l 1 + 1)))
def touR (a b c d e f g h : Int) : Bool := decide (min a c ≤ max e g ∧ min e g ≤ max a c ∧ min b d ≤ max f h ∧ min f h ≤ max b d)
def rTouR : Orc := .res fun l => dB (touR (fI 0 (arg l 0)) (fI 1 (arg l 0)) (fI 0 (arg l 1)) (fI 1 (arg l 1)) (fI 0 (arg l 2)) (fI 1 (arg l 2)) (fI 0 (arg l 3)) (fI 1 (arg l 3)))
def rBetween : Orc := .res fun l => dB (decide (min (aI l 1) (aI l 2) ≤ aI l 0 ∧ aI l 0 ≤ max (aI l 1) (aI l 2)))
noncomputable def A44_within_c (x l h : Int) : Ann := { orc := [], loops := [], cuts := [] }
theorem within_c (x l h : Int)  : FnC prog 34 [dI x, dI l, dI h] (dB (decide (l ≤ x ∧ x ≤ h))) := by
  refine FnC_owed hmix (A44_within_c x l h) (V := .need [decide (x ≥ l) = true → decide (x ≥ l) = true, decide (x ≥ l) = true → decide (x ≥ l) = true, decide (x ≥ l) = true → decide (x ≥ l) = true] (.done [(if decide (x ≥ l) = true then decide (x ≤ h) else false) = decide (l ≤ x ∧ x ≤ h)])) (by kernel_rfl) ?_
  simp only [VT.holds, AllT, Sq]
  grind
noncomputable def A55_in_c (x : Int) : Ann := { orc := [(1, [(1, rWithin)])], loops := [], cuts := [] }
theorem in_c (x : Int)  : FnC prog 104 [dI x] (dB (inF x)) := by
  refine FnC_owed hmix (A55_in_c x) (V := .need [FnC prog 34 [(dI x), (dI (-1000000:Int)), (dI (1000000:Int))] ((dB (decide ((-1000000:Int) ≤ x ∧ x ≤ (1000000:Int)))))] (.done [decide ((-1000000:Int) ≤ x ∧ x ≤ (1000000:Int)) = inF x])) (by kernel_rfl) ?_
  simp only [VT.holds, AllT, Sq]
  exact ⟨within_c x _ _, rfl⟩
noncomputable def A56_dirR_c (a b c d : Int) : Ann := { orc := [], loops := [], cuts := [] }
namespace wh
noncomputable section
structure Z where
  a : Int
  b : Int
  c : Int
  d : Int
variable (z : Z) (P : List Prop) (a b : Int) (g : Bool) (U : VT)
abbrev x0 : List Prop := ri ((z.b == z.d) = true) :: P
abbrev x1 : List Prop := ri ((z.a == z.c) = true) :: P
abbrev x2 := VT.done [a = dirR z.a z.b z.c z.d]
abbrev x3 := if (a == b) = true then g else false
abbrev x4 := VT.need (x0 z (x0 z (x0 z (x0 z (x0 z []))))) (VT.ite (x3 z.b z.d g) (x2 z a) U)
abbrev x5 := VT.need (x1 z (x1 z (x1 z (x1 z (x1 z []))))) (VT.ite (x3 z.a z.c g) (x2 z a) U)
abbrev xt : VT := x4 z (0:Int) (decide (z.c > z.a)) (x5 z (1:Int) (decide (z.d > z.b)) (x4 z (2:Int) (decide (z.c < z.a)) (x5 z (3:Int) (decide (z.d < z.b)) (x2 z (-(1:Int))))))
end
end wh
open wh in
theorem dirR_c (a b c d : Int)  : FnC prog 110 [dP a b, dP c d] (dI (dirR a b c d)) := by
  refine FnC_owed hmix (A56_dirR_c a b c d) (V := xt ⟨a, b, c, d⟩) (by kernel_rfl) ?_
  simp only [xt, x0, x1, x2, x3, x4, x5, Rf, VT.holds, AllT, Sq]
  unfold dirR dirOk dirD
  simp only [decide_eq_true_eq]
  refine ⟨fun h => ?_, fun h1 => ⟨fun h => ?_, fun h2 => ⟨fun h => ?_, fun h3 => ⟨fun h => ?_, fun h4 => ?_⟩⟩⟩⟩
  all_goals grind
noncomputable def A57_next_c (n : Nat) (X Y : Nat → Int) (i : Int) : Ann := { orc := [(1, [(5, .pos)])], loops := [], cuts := [] }
theorem next_c (n : Nat) (X Y : Nat → Int) (i : Int) (hn : 0 < n) (hn2 : n ≤ 1000000) (h1 : 0 ≤ i) (h2 : i ≤ 1000000) : FnC prog 108 [pts n X Y, dI i] (dP (X (ix n (i + 1))) (Y (ix n (i + 1)))) := by
  refine FnC_owed hmix (A57_next_c n X Y i) (V := .need [i64In (i + (1:Int)), (0:Int) ≤ i + (1:Int) ∧ (0:Int) < (n:Int), (0:Int) ≤ (i + (1:Int)) % (n:Int) ∧ (i + (1:Int)) % (n:Int) < (n:Int)] (.done [X ((i + (1:Int)) % (n:Int)).toNat = X (ix n (i + (1:Int))), Y ((i + (1:Int)) % (n:Int)).toNat = Y (ix n (i + (1:Int)))])) (by kernel_rfl) ?_
  simp only [VT.holds, AllT, Sq]
  have := Int.emod_lt_of_pos (i + 1) (show (0:Int) < n by omega)
  have := Int.emod_nonneg (i + 1) (show (n : Int) ≠ 0 by omega)
  rw [ix_next]
  exact ⟨⟨by unfold i64In; omega, by omega, by omega⟩, rfl, rfl⟩
noncomputable def A58_touchR_c (a b c d e f g h : Int) : Ann := { orc := [], loops := [], cuts := [] }
namespace wj
noncomputable section
structure Z where
  a : Int
  b : Int
  c : Int
  d : Int
  e : Int
  f : Int
  g : Int
  h : Int
variable (z : Z) (P : List Prop) (a b c d : Int) (g h : Bool)
abbrev x0 := decide ((mins a [b]) ≤ (maxs c [d]))
abbrev x1 := if g = true then h else false
abbrev x2 := x0 z.a z.c z.e z.g
abbrev x3 : List Prop := ri (g = true) :: ri (h = true) :: P
abbrev x4 := x1 (x2 z) (x0 z.e z.g z.a z.c)
abbrev x5 := x1 (x4 z) (x0 z.b z.d z.f z.h)
abbrev x6 := x3 P (x2 z) (x2 z)
abbrev x7 := x3 P (x4 z) (x4 z)
abbrev x8 := x3 P (x5 z) (x5 z)
abbrev xt : VT := VT.need (x6 z (x6 z (x6 z (x6 z (x6 z (x3 (x7 z (x7 z (x7 z (x7 z (x7 z (x8 z (x8 z (x8 z (x8 z (x8 z [ri (x5 z = true)])))))))))) (x2 z) (x4 z))))))) (VT.done [x1 (x5 z) (x0 z.f z.h z.b z.d) = touR z.a z.b z.c z.d z.e z.f z.g z.h])
end
end wj
open wj in
theorem touchR_c (a b c d e f g h : Int)  : FnC prog 139 [dP a b, dP c d, dP e f, dP g h] (dB (touR a b c d e f g h)) := by
  refine FnC_owed hmix (A58_touchR_c a b c d e f g h) (V := xt ⟨a, b, c, d, e, f, g, h⟩) (by kernel_rfl) ?_
  simp only [xt, x0, x1, x2, x3, x4, x5, x6, x7, x8, Rf, VT.holds, AllT, Sq, mins, maxs]
  unfold touR
  grind
noncomputable def A60_between_c (x a b : Int) : Ann := { orc := [], loops := [], cuts := [] }
theorem between_c (x a b : Int)  : FnC prog 185 [dI x, dI a, dI b] (dB (decide (min a b ≤ x ∧ x ≤ max a b))) := by
  refine FnC_owed hmix (A60_between_c x a b) (V := .need [decide (x ≥ mins a [b]) = true → decide (x ≥ mins a [b]) = true, decide (x ≥ mins a [b]) = true → decide (x ≥ mins a [b]) = true, decide (x ≥ mins a [b]) = true → decide (x ≥ mins a [b]) = true, decide (x ≥ mins a [b]) = true → decide (x ≥ mins a [b]) = true, decide (x ≥ mins a [b]) = true → decide (x ≥ mins a [b]) = true] (.done [(if decide (x ≥ mins a [b]) = true then decide (x ≤ maxs a [b]) else false) = decide (min a b ≤ x ∧ x ≤ max a b)])) (by kernel_rfl) ?_
  simp only [VT.holds, AllT, Sq, mins, maxs]
  grind
end Go.Abs
end
