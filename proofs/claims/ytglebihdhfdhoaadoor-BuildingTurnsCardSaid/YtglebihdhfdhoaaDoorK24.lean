/- Contracts. -/
import Derived.Test.YtglebihdhfdhoaaDoorK22
import Derived.Test.YtglebihdhfdhoaaDoorK23
set_option linter.unusedVariables false
set_option linter.unusedSimpArgs false
set_option maxRecDepth 100000
namespace Go.Abs
open Go
def faE (b : Bld) (w : Int) : Int := if chkB b ≠ 0 then chkB b else if w < 0 ∨ w ≥ b.N 0 then 6 else 0
def faN (b : Bld) (w : Int) : Nat := if faE b w ≠ 0 then 0 else b.N 0
/-- An opening's storey, its side's direction; how far along and across it lies from a facade's start. -/
def oD (b : Bld) (i : Nat) : Int := dD (b.N ((b.O i 0).toNat)) (b.X ((b.O i 0).toNat)) (b.Y ((b.O i 0).toNat)) (b.O i 1)
def wD (b : Bld) (w : Int) : Int := dD (b.N 0) (b.X 0) (b.Y 0) w
def wA (b : Bld) (w : Int) (i : Nat) (d : Int) : Int := alF (b.X 0 w.toNat) (b.Y 0 w.toNat) (b.X ((b.O i 0).toNat) (b.O i 1).toNat) (b.Y ((b.O i 0).toNat) (b.O i 1).toNat) d
def wOk (b : Bld) (w : Int) (i : Nat) : Bool := decide (oD b i = wD b w ∧ wA b w i ((wD b w + 1) % 4) = 0)
/-- The openings in the plane of a facade, of the first k. -/
def wiL (b : Bld) (w : Int) : Nat → List Nat
  | 0 => []
  | k + 1 => if wOk b w k = true then wiL b w k ++ [k] else wiL b w k
def wV0 (b : Bld) (w : Int) (i : Nat) : Int := wA b w i (wD b w) + b.O i 2
def wV1 (b : Bld) (w : Int) (i : Nat) : Int := wA b w i (wD b w) + b.O i 3
def wV2 (b : Bld) (i : Nat) : Int := b.fl ((b.O i 0).toNat) + b.O i 4
def wV3 (b : Bld) (i : Nat) : Int := b.fl ((b.O i 0).toNat) + b.O i 5
abbrev winC (b : Bld) (w : Int) (l : List Nat) : List (Nat → DV) := [fun j => dI (wV0 b w (l.getD j 0)), fun j => dI (wV1 b w (l.getD j 0)), fun j => dI (wV2 b (l.getD j 0)), fun j => dI (wV3 b (l.getD j 0)), fun j => dI ((l.getD j 0 : Nat) : Int)]
def wiN (b : Bld) (w : Int) : Nat := if faE b w ≠ 0 then 0 else (wiL b w b.nO).length
def rFa (b : Bld) (w : Int) : Orc := .res fun _ => .tup [pts (faN b w) (b.X 0) (b.Y 0), dI (faE b w)]
def rWin (b : Bld) (w : Int) : Orc := .res fun _ => .tup [.lst (wiN b w) (winC b w (wiL b w b.nO)), dI (faE b w)]
def rWinR (b : Bld) (w : Int) : Orc := .res fun _ => .lst (wiL b w b.nO).length (winC b w (wiL b w b.nO))
theorem snoc_f {f : Nat → Int} (l : List Nat) (x : Nat) {v : Int} (hv : v = f x) : ∀ j, j < l.length + 1 → (if j < l.length then f (l.getD j 0) else v) = f ((l ++ [x]).getD j 0) := fun j h => by
  split
  · rename_i h1; simp [List.getElem?_append_left h1]
  · rw [show j = l.length by omega, hv]; simp
section
variable {b : Bld}
theorem op_ok (h : chkB b = 0) {i : Nat} (hi : i < b.nO) : 0 ≤ b.O i 0 ∧ b.O i 0 < b.nS ∧ 0 ≤ b.O i 1 ∧ b.O i 1 < b.N ((b.O i 0).toNat) ∧ chk (b.N ((b.O i 0).toNat)) (b.X ((b.O i 0).toNat)) (b.Y ((b.O i 0).toNat)) = 0 ∧
    0 ≤ b.O i 2 ∧ b.O i 2 < b.O i 3 ∧ b.O i 3 ≤ 4000000 ∧ 0 ≤ b.O i 4 ∧ b.O i 4 < b.O i 5 ∧ b.O i 5 ≤ 1000000 ∧ 0 ≤ b.fl ((b.O i 0).toNat) ∧ b.fl ((b.O i 0).toNat) ≤ 1000000 := by
  obtain ⟨c1, c2, c3, c4, c5, c6⟩ := chkB_zero h
  obtain ⟨f1, f2, f3⟩ := floors_ok c2 c3 c4
  obtain ⟨m, r⟩ := opE_zero (c5 i hi)
  have hm : ¬ (b.O i 0 < 0 ∨ b.O i 0 ≥ b.nS ∨ b.O i 1 < 0 ∨ b.O i 1 ≥ b.N (b.O i 0).toNat) := fun hx => by rw [misB_spec.2 hx] at m; cases m
  have hr := (not_congr (rngB_spec (b := b) (i := i))).1 (by rw [r]; simp)
  have e1 : ((b.O i 1).toNat : Int) = b.O i 1 := by omega
  have hs : (b.O i 0).toNat < b.nS := by omega
  have ho := f1 _ hs
  obtain ⟨hX, hY⟩ := chk_inB ho
  have hn := chk_n ho
  have t1 := topF_bd f2 ((b.O i 0).toNat)
  have t2 := f2.1 _ hs
  have hl : lenW (b.N ((b.O i 0).toNat)) (b.X ((b.O i 0).toNat)) (b.Y ((b.O i 0).toNat)) ((b.O i 1).toNat : Int) ≤ 4000000 := by
    unfold lenW
    have a1 := hX _ (ix_lt (n := b.N ((b.O i 0).toNat)) (i := ((b.O i 1).toNat : Int)) (by omega))
    have a2 := hX _ (ix_lt (n := b.N ((b.O i 0).toNat)) (i := ((b.O i 1).toNat : Int) + 1) (by omega))
    have a3 := hY _ (ix_lt (n := b.N ((b.O i 0).toNat)) (i := ((b.O i 1).toNat : Int)) (by omega))
    have a4 := hY _ (ix_lt (n := b.N ((b.O i 0).toNat)) (i := ((b.O i 1).toNat : Int) + 1) (by omega))
    omega
  exact ⟨by omega, by omega, by omega, by omega, ho, by omega, by omega, by omega, by omega, by omega, by omega, t2.1, t2.2⟩
theorem fa_1 (h : chkB b ≠ 0) (w : Int) : faE b w = chkB b ∧ faN b w = 0 ∧ wiN b w = 0 := by
  have e : faE b w = chkB b := by rw [faE, if_pos h]
  exact ⟨e, by rw [faN, if_pos (by rw [e]; exact h)], by rw [wiN, if_pos (by rw [e]; exact h)]⟩
theorem fa_2 (h : chkB b = 0) {w : Int} (hw : w < 0 ∨ w ≥ b.N 0) : faE b w = 6 ∧ faN b w = 0 ∧ wiN b w = 0 := by
  have e : faE b w = 6 := by rw [faE, if_neg (by rw [h]; simp), if_pos hw]
  exact ⟨e, by rw [faN, if_pos (by rw [e]; simp)], by rw [wiN, if_pos (by rw [e]; simp)]⟩
theorem fa_3 (h : chkB b = 0) {w : Int} (hw : ¬ (w < 0 ∨ w ≥ b.N 0)) : faE b w = 0 ∧ faN b w = b.N 0 ∧ wiN b w = (wiL b w b.nO).length := by
  have e : faE b w = 0 := by rw [faE, if_neg (by rw [h]; simp), if_neg hw]
  exact ⟨e, by rw [faN, if_neg (by rw [e]; simp)], by rw [wiN, if_neg (by rw [e]; simp)]⟩
theorem fa_zero {w : Int} (h : faE b w = 0) : chkB b = 0 ∧ 0 ≤ w ∧ w < b.N 0 := by
  unfold faE at h
  split at h
  · rename_i h1; exact absurd h h1
  · rename_i h1
    split at h
    · cases h
    · exact ⟨Decidable.not_not.1 h1, by omega, by omega⟩
theorem fl0_ok (h : chkB b = 0) : 0 < b.nS ∧ chk (b.N 0) (b.X 0) (b.Y 0) = 0 := by
  obtain ⟨c1, c2, c3, c4, c5, c6⟩ := chkB_zero h
  have hs := shp_no c2
  exact ⟨by omega, (floors_ok c2 c3 c4).1 0 (by omega)⟩
theorem wD_range (w : Int) : 0 ≤ wD b w ∧ wD b w < 4 := by
  have := dD_range (b.N 0) (b.X 0) (b.Y 0) w
  unfold wD; omega
theorem oD_range (i : Nat) : 0 ≤ oD b i ∧ oD b i < 4 := by
  have := dD_range (b.N ((b.O i 0).toNat)) (b.X ((b.O i 0).toNat)) (b.Y ((b.O i 0).toNat)) (b.O i 1)
  unfold oD; omega
theorem in_m3 {n : Nat} {X : Nat → Int} (h : inB n X) {k : Nat} (hk : k < n) : m3 (X k) := by
  have := h k hk
  unfold m3; omega
theorem wiL_len (w : Int) : ∀ k, (wiL b w k).length ≤ k
  | 0 => Nat.le_refl _
  | k + 1 => by
    have := wiL_len w k
    rw [wiL]
    split
    · rw [List.length_append]; simp; omega
    · omega
theorem wiL_no {w : Int} {i : Nat} (h : ¬ (oD b i = wD b w ∧ wA b w i ((wD b w + 1) % 4) = 0)) : wiL b w (i + 1) = wiL b w i := by
  rw [wiL, if_neg]
  rw [wOk, decide_eq_true_eq]
  exact h
theorem wiL_yes {w : Int} {i : Nat} (h : oD b i = wD b w ∧ wA b w i ((wD b w + 1) % 4) = 0) : wiL b w (i + 1) = wiL b w i ++ [i] := by
  rw [wiL, if_pos]
  rw [wOk, decide_eq_true_eq]
  exact h
theorem al_bd {x0 y0 x y d : Int} (hd : 0 ≤ d ∧ d < 4) (h0 : m3 x0) (h1 : m3 y0) (h2 : m3 x) (h3 : m3 y) : -6000000 ≤ alF x0 y0 x y d ∧ alF x0 y0 x y d ≤ 6000000 := by
  unfold m3 at *
  unfold alF
  obtain ⟨e1, e2⟩ | ⟨e1, e2⟩ | ⟨e1, e2⟩ | ⟨e1, e2⟩ := st_val hd
  all_goals
    rw [e1, e2]
    omega
theorem m3_mul {t u d : Int} (ht : m3 t) (hu : m3 u) (hd : 0 ≤ d ∧ d < 4) : i64In ((t - u) * stX d) ∧ i64In ((t - u) * stY d) := by
  unfold m3 at ht hu
  unfold i64In
  obtain ⟨e1, e2⟩ | ⟨e1, e2⟩ | ⟨e1, e2⟩ | ⟨e1, e2⟩ := st_val hd
  all_goals
    rw [e1, e2]
    omega
theorem al_left {x0 y0 x y d : Int} (hd : 0 ≤ d ∧ d < 4) : alF x0 y0 x y ((d + 1) % 4) = (y - y0) * stX d - (x - x0) * stY d := by
  unfold alF
  obtain rfl | rfl | rfl | rfl : d = 0 ∨ d = 1 ∨ d = 2 ∨ d = 3 := by omega
  · show (x - x0) * 0 + (y - y0) * 1 = (y - y0) * 1 - (x - x0) * 0; omega
  · show (x - x0) * -1 + (y - y0) * 0 = (y - y0) * 0 - (x - x0) * 1; omega
  · show (x - x0) * 0 + (y - y0) * -1 = (y - y0) * -1 - (x - x0) * 0; omega
  · show (x - x0) * 1 + (y - y0) * 0 = (y - y0) * 0 - (x - x0) * -1; omega
end
noncomputable def A29_facade_c (b : Bld) (w : Int) : Ann := { orc := [(1, [(1, rChkB b)])], loops := [], cuts := [] }
theorem facade_c (b : Bld) (w : Int) (hN : ∀ i, i < b.nS → b.N i ≤ 1000) : FnC prog 29 [bld b, dI w] (.tup [pts (faN b w) (b.X 0) (b.Y 0), dI (faE b w)]) := by
  refine FnC_owed hmix (A29_facade_c b w) (V := VT.need [FnC prog (49 : Nat) [DV.agg [DV.val (Value.string b.name), DV.lst b.nS [fun (i : Nat) => DV.val (Value.int IntKind.i64 (b.fl i)), fun (i : Nat) => DV.lst (b.N i) [fun (i_1 : Nat) => DV.val (Value.int IntKind.i64 (b.X i i_1)), fun (i_1 : Nat) => DV.val (Value.int IntKind.i64 (b.Y i i_1))]], DV.val (Value.int IntKind.i64 b.roof), DV.lst b.nO [fun (i : Nat) => DV.val (Value.int IntKind.i64 (b.O i (0 : Nat))), fun (i : Nat) => DV.val (Value.int IntKind.i64 (b.O i (1 : Nat))), fun (i : Nat) => DV.val (Value.int IntKind.i64 (b.O i (2 : Nat))), fun (i : Nat) => DV.val (Value.int IntKind.i64 (b.O i (3 : Nat))), fun (i : Nat) => DV.val (Value.int IntKind.i64 (b.O i (4 : Nat))), fun (i : Nat) => DV.val (Value.int IntKind.i64 (b.O i (5 : Nat)))], DV.lst b.nB [fun (i : Nat) => DV.val (Value.int IntKind.i64 (b.B i (0 : Nat))), fun (i : Nat) => DV.val (Value.int IntKind.i64 (b.B i (1 : Nat))), fun (i : Nat) => DV.val (Value.int IntKind.i64 (b.B i (2 : Nat))), fun (i : Nat) => DV.val (Value.int IntKind.i64 (b.B i (3 : Nat))), fun (i : Nat) => DV.val (Value.int IntKind.i64 (b.B i (4 : Nat))), fun (i : Nat) => DV.val (Value.int IntKind.i64 (b.B i (5 : Nat)))]]] (DV.val (Value.int IntKind.i64 (chkB b)))] (VT.ite (chkB b != (0 : Int)) (VT.done [faN b w = (0 : Nat), chkB b = faE b w]) (VT.need [(0 : Int) ≤ (0 : Int) ∧ (0 : Int) < (↑b.nS : Int)] (VT.need [(!decide (w < (0 : Int))) = true → (!decide (w < (0 : Int))) = true, (!decide (w < (0 : Int))) = true → (!decide (w < (0 : Int))) = true, (!decide (w < (0 : Int))) = true → (!decide (w < (0 : Int))) = true, decide (w < (0 : Int)) = false → (!decide (w < (0 : Int))) = true] (VT.ite (if decide (w < (0 : Int)) = true then true else decide (w ≥ (↑(b.N (Int.toNat (0 : Int))) : Int))) (VT.done [faN b w = (0 : Nat), (6 : Int) = faE b w]) (VT.done [b.N (Int.toNat (0 : Int)) = faN b w, ∀ (i : Nat), i < faN b w → b.X (Int.toNat (0 : Int)) i = b.X (0 : Nat) i, ∀ (i : Nat), i < faN b w → b.Y (Int.toNat (0 : Int)) i = b.Y (0 : Nat) i,
     (0 : Int) = faE b w])))))) (by kernel_rfl) ?_
  simp only [VT.holds, AllT, imp_self, implies_true, and_true, true_and, toNat_succ, toNat_add2, toNat_zero', Int.toNat_natCast, Bool.if_true_left, Bool.if_false_right, Bool.decide_eq_true, Bool.or_eq_true, Bool.or_eq_false_iff, Bool.and_eq_true, Bool.and_eq_false_imp, Bool.not_eq_true', Bool.not_eq_false', Bool.not_not, bne_iff_ne, bne_eq_false_iff_eq, beq_iff_eq, beq_eq_false_iff_ne, decide_eq_true_eq, decide_eq_false_iff_not, ne_eq]
  refine ⟨check_b b hN, fun h => ⟨(fa_1 h w).2.1, (fa_1 h w).1.symm⟩, fun h => ⟨?_, fun h1 => ⟨(fa_2 h h1).2.1, (fa_2 h h1).1.symm⟩, fun h1 => ?_⟩⟩
  · have := (fl0_ok h).1; omega
  · have e := fa_3 h (w := w) (by omega)
    exact ⟨e.2.1.symm, e.1.symm⟩
end Go.Abs
