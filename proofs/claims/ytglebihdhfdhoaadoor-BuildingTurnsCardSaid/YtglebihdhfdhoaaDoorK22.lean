/- Contracts. -/
import Derived.Test.YtglebihdhfdhoaaDoorK21
set_option linter.unusedVariables false
set_option linter.unusedSimpArgs false
set_option maxRecDepth 100000
namespace Go.Abs
open Go
/-- The first number below n at which p holds, or -1. -/
def firstI (p : Nat → Bool) : Nat → Int
  | 0 => -1
  | k + 1 => if 0 ≤ firstI p k then firstI p k else if p k = true then (k : Int) else -1
theorem firstI_none {p : Nat → Bool} : ∀ {n : Nat}, (∀ j, j < n → p j = false) → firstI p n = -1
  | 0, _ => rfl
  | n + 1, h => by
    rw [firstI, firstI_none (fun j hj => h j (by omega)), if_neg (by omega), if_neg (by rw [h n (by omega)]; simp)]
theorem firstI_at {p : Nat → Bool} {i : Nat} (h : ∀ j, j < i → p j = false) (hi : p i = true) : ∀ {n : Nat}, i < n → firstI p n = i
  | n + 1, hn => by
    rcases Nat.lt_or_ge i n with h1 | h1
    · have := firstI_at h hi h1
      rw [firstI, this, if_pos (by omega)]
    · have : i = n := by omega
      subst this
      rw [firstI, firstI_none h, if_neg (by omega), if_pos hi]
def okI (b : Bld) (x1 y1 z1 x2 y2 z2 : Int) (i : Nat) : Bool := okC x1 y1 z1 x2 y2 z2 (b.B i 0) (b.B i 1) (b.B i 2) (b.B i 3) (b.B i 4) (b.B i 5)
theorem okC_comm (a1 b1 c1 d1 e1 f1 a2 b2 c2 d2 e2 f2 : Int) : okC a1 b1 c1 d1 e1 f1 a2 b2 c2 d2 e2 f2 = okC a2 b2 c2 d2 e2 f2 a1 b1 c1 d1 e1 f1 := by
  unfold okC
  rw [decide_eq_decide]; omega
def bkE (b : Bld) (x1 y1 z1 x2 y2 z2 : Int) : Int := if chkB b ≠ 0 then chkB b else ckB x1 y1 z1 x2 y2 z2
def bkV (b : Bld) (x1 y1 z1 x2 y2 z2 : Int) : Bool := decide (bkE b x1 y1 z1 x2 y2 z2 = 0) && blkF b x1 y1 z1 x2 y2 z2
def fbV (b : Bld) (x1 y1 z1 x2 y2 z2 : Int) : Int := if bkE b x1 y1 z1 x2 y2 z2 ≠ 0 then 0 else firstI (okI b x1 y1 z1 x2 y2 z2) b.nB
abbrev cpB (x1 y1 z1 x2 y2 z2 : Int) : DV := .cptr [dI x1, dI y1, dI z1, dI x2, dI y2, dI z2]
section
variable {b : Bld} {x1 y1 z1 x2 y2 z2 : Int}
theorem bk_1 (h : chkB b ≠ 0) : bkE b x1 y1 z1 x2 y2 z2 = chkB b ∧ bkV b x1 y1 z1 x2 y2 z2 = false ∧ fbV b x1 y1 z1 x2 y2 z2 = 0 := by
  have e : bkE b x1 y1 z1 x2 y2 z2 = chkB b := by rw [bkE, if_pos h]
  exact ⟨e, by rw [bkV, e, decide_eq_false h]; rfl, by rw [fbV, if_pos (by rw [e]; exact h)]⟩
theorem bk_2 (h : chkB b = 0) (h2 : ckB x1 y1 z1 x2 y2 z2 ≠ 0) : bkE b x1 y1 z1 x2 y2 z2 = ckB x1 y1 z1 x2 y2 z2 ∧ bkV b x1 y1 z1 x2 y2 z2 = false ∧ fbV b x1 y1 z1 x2 y2 z2 = 0 := by
  have e : bkE b x1 y1 z1 x2 y2 z2 = ckB x1 y1 z1 x2 y2 z2 := by rw [bkE, if_neg (by rw [h]; simp)]
  exact ⟨e, by rw [bkV, e, decide_eq_false h2]; rfl, by rw [fbV, if_pos (by rw [e]; exact h2)]⟩
theorem bk_3 (h : chkB b = 0) (h2 : ckB x1 y1 z1 x2 y2 z2 = 0) : bkE b x1 y1 z1 x2 y2 z2 = 0 ∧ bkV b x1 y1 z1 x2 y2 z2 = blkF b x1 y1 z1 x2 y2 z2 ∧ fbV b x1 y1 z1 x2 y2 z2 = firstI (okI b x1 y1 z1 x2 y2 z2) b.nB := by
  have e : bkE b x1 y1 z1 x2 y2 z2 = 0 := by rw [bkE, if_neg (by rw [h]; simp), h2]
  exact ⟨e, by rw [bkV, e]; rfl, by rw [fbV, if_neg (by rw [e]; simp)]⟩
end
noncomputable def A46_blocksTop_c (b : Bld) (x1 y1 z1 x2 y2 z2 : Int) : Ann := { orc := [(1, [(1, rChkB b)]), (4, [(1, rCkB)]), (7, [(2, rBlk b)])], loops := [], cuts := [] }
theorem blocksTop_c (b : Bld) (x1 y1 z1 x2 y2 z2 : Int) (hN : ∀ i, i < b.nS → b.N i ≤ 1000) : FnC prog 22 [bld b, bx x1 y1 z1 x2 y2 z2] (.tup [dB (bkV b x1 y1 z1 x2 y2 z2), dI (bkE b x1 y1 z1 x2 y2 z2)]) := by
  refine FnC_owed hmix (A46_blocksTop_c b x1 y1 z1 x2 y2 z2) (V := VT.need [FnC prog (49 : Nat) [DV.agg [DV.val (Value.string b.name), DV.lst b.nS [fun (i : Nat) => DV.val (Value.int IntKind.i64 (b.fl i)), fun (i : Nat) => DV.lst (b.N i) [fun (i_1 : Nat) => DV.val (Value.int IntKind.i64 (b.X i i_1)), fun (i_1 : Nat) => DV.val (Value.int IntKind.i64 (b.Y i i_1))]], DV.val (Value.int IntKind.i64 b.roof), DV.lst b.nO [fun (i : Nat) => DV.val (Value.int IntKind.i64 (b.O i (0 : Nat))), fun (i : Nat) => DV.val (Value.int IntKind.i64 (b.O i (1 : Nat))), fun (i : Nat) => DV.val (Value.int IntKind.i64 (b.O i (2 : Nat))), fun (i : Nat) => DV.val (Value.int IntKind.i64 (b.O i (3 : Nat))), fun (i : Nat) => DV.val (Value.int IntKind.i64 (b.O i (4 : Nat))), fun (i : Nat) => DV.val (Value.int IntKind.i64 (b.O i (5 : Nat)))], DV.lst b.nB [fun (i : Nat) => DV.val (Value.int IntKind.i64 (b.B i (0 : Nat))), fun (i : Nat) => DV.val (Value.int IntKind.i64 (b.B i (1 : Nat))), fun (i : Nat) => DV.val (Value.int IntKind.i64 (b.B i (2 : Nat))), fun (i : Nat) => DV.val (Value.int IntKind.i64 (b.B i (3 : Nat))), fun (i : Nat) => DV.val (Value.int IntKind.i64 (b.B i (4 : Nat))), fun (i : Nat) => DV.val (Value.int IntKind.i64 (b.B i (5 : Nat)))]]] (DV.val (Value.int IntKind.i64 (chkB b)))] (VT.ite (chkB b != (0 : Int)) (VT.done [false = bkV b x1 y1 z1 x2 y2 z2, chkB b = bkE b x1 y1 z1 x2 y2 z2]) (VT.need [FnC prog (59 : Nat) [DV.val (Value.agg (Array.mk [Value.int IntKind.i64 x1, Value.int IntKind.i64 y1, Value.int IntKind.i64 z1, Value.int IntKind.i64 x2, Value.int IntKind.i64 y2, Value.int IntKind.i64 z2]))] (DV.val (Value.int IntKind.i64 (ckB x1 y1 z1 x2 y2 z2)))] (VT.ite (ckB x1 y1 z1 x2 y2 z2 != (0 : Int)) (VT.done [false = bkV b x1 y1 z1 x2 y2 z2, ckB x1 y1 z1 x2 y2 z2 = bkE b x1 y1 z1 x2 y2 z2]) (VT.need [FnC prog (60 : Nat) [DV.agg [DV.val (Value.string b.name), DV.lst b.nS [fun (i : Nat) => DV.val (Value.int IntKind.i64 (b.fl i)), fun (i : Nat) => DV.lst (b.N i) [fun (i_1 : Nat) => DV.val (Value.int IntKind.i64 (b.X i i_1)), fun (i_1 : Nat) =>
     DV.val (Value.int IntKind.i64 (b.Y i i_1))]], DV.val (Value.int IntKind.i64 b.roof), DV.lst b.nO [fun (i : Nat) => DV.val (Value.int IntKind.i64 (b.O i (0 : Nat))), fun (i : Nat) => DV.val (Value.int IntKind.i64 (b.O i (1 : Nat))), fun (i : Nat) => DV.val (Value.int IntKind.i64 (b.O i (2 : Nat))), fun (i : Nat) => DV.val (Value.int IntKind.i64 (b.O i (3 : Nat))), fun (i : Nat) => DV.val (Value.int IntKind.i64 (b.O i (4 : Nat))), fun (i : Nat) => DV.val (Value.int IntKind.i64 (b.O i (5 : Nat)))], DV.lst b.nB [fun (i : Nat) => DV.val (Value.int IntKind.i64 (b.B i (0 : Nat))), fun (i : Nat) => DV.val (Value.int IntKind.i64 (b.B i (1 : Nat))), fun (i : Nat) => DV.val (Value.int IntKind.i64 (b.B i (2 : Nat))), fun (i : Nat) => DV.val (Value.int IntKind.i64 (b.B i (3 : Nat))), fun (i : Nat) => DV.val (Value.int IntKind.i64 (b.B i (4 : Nat))), fun (i : Nat) => DV.val (Value.int IntKind.i64 (b.B i (5 : Nat)))]], DV.val (Value.agg (Array.mk [Value.int IntKind.i64 x1, Value.int IntKind.i64 y1, Value.int IntKind.i64 z1, Value.int IntKind.i64 x2, Value.int IntKind.i64 y2, Value.int IntKind.i64 z2]))] (DV.val (Value.bool (blkF b x1 y1 z1 x2 y2 z2)))] (VT.done [blkF b x1 y1 z1 x2 y2 z2 = bkV b x1 y1 z1 x2 y2 z2, (0 : Int) = bkE b x1 y1 z1 x2 y2 z2])))))) (by kernel_rfl) ?_
  simp only [VT.holds, AllT, imp_self, implies_true, and_true, true_and, toNat_succ, toNat_add2, toNat_zero', Int.toNat_natCast, Bool.if_true_left, Bool.if_false_right, Bool.decide_eq_true, Bool.or_eq_true, Bool.or_eq_false_iff, Bool.and_eq_true, Bool.and_eq_false_imp, Bool.not_eq_true', Bool.not_eq_false', Bool.not_not, bne_iff_ne, bne_eq_false_iff_eq, beq_iff_eq, beq_eq_false_iff_ne, decide_eq_true_eq, decide_eq_false_iff_not, ne_eq]
  refine ⟨check_b b hN, fun h => ⟨(bk_1 h).2.1.symm, (bk_1 h).1.symm⟩, fun h => ⟨checkBox_c _ _ _ _ _ _, fun h1 => ⟨(bk_2 h h1).2.1.symm, (bk_2 h h1).1.symm⟩, fun h1 => ?_⟩⟩
  obtain ⟨c1, c2, c3, c4, c5, c6⟩ := chkB_zero h
  have hs := shp_no c2
  obtain ⟨f1, f2, f3⟩ := floors_ok c2 c3 c4
  exact ⟨blocks_c b _ _ _ _ _ _ (by omega) f1 h1, (bk_3 h h1).2.1.symm, (bk_3 h h1).1.symm⟩
end Go.Abs
