/- Contracts. -/
import Derived.Test.YtglebihdhfdhoaaDoorK20
set_option linter.unusedVariables false
set_option linter.unusedSimpArgs false
set_option maxRecDepth 100000
namespace Go.Abs
open Go
def rTopT (b : Bld) (s : Int) : Orc := .res fun _ => .tup [dI (topV b s), dI (topE b s)]
def rVolT (b : Bld) : Orc := .res fun _ => .tup [dI (volR b), dI (chkB b)]
section
variable {b : Bld} {s : Int}
theorem topE_1 (h : chkB b ≠ 0) : topE b s = chkB b ∧ topV b s = 0 := by
  have e : topE b s = chkB b := by rw [topE, if_pos h]
  exact ⟨e, by rw [topV, if_pos (by rw [e]; exact h)]⟩
theorem topE_2 (h : chkB b = 0) (h2 : s < 0 ∨ s ≥ b.nS) : topE b s = 6 ∧ topV b s = 0 := by
  have e : topE b s = 6 := by rw [topE, if_neg (by rw [h]; simp), if_pos h2]
  exact ⟨e, by rw [topV, if_pos (by rw [e]; simp)]⟩
theorem topE_3 (h : chkB b = 0) (h2 : ¬ (s < 0 ∨ s ≥ b.nS)) : topE b s = 0 ∧ topV b s = topF b s.toNat := by
  have e : topE b s = 0 := by rw [topE, if_neg (by rw [h]; simp), if_neg h2]
  exact ⟨e, by rw [topV, if_neg (by rw [e]; simp)]⟩
theorem shp_no (h : shpB b = false) : ¬ (b.nS < 1 ∨ b.nS > 20 ∨ b.nO > 100 ∨ b.nB > 50) := fun h1 => by rw [shpB_spec.2 h1] at h; cases h
theorem small_ok (h : smallF b = true) : b.nS ≤ 25 ∧ b.nO ≤ 105 ∧ b.nB ≤ 55 ∧ ∀ i, i < b.nS → b.N i ≤ 45 := by
  unfold smallF at h
  rw [decide_eq_true_eq] at h
  refine ⟨by omega, by omega, by omega, fun i hi => ?_⟩
  have := h.2 i hi
  rw [manyC, decide_eq_false_iff_not] at this
  omega
end
noncomputable def A40_volume_c (b : Bld) : Ann := { orc := [(1, [(1, rChkB b)]), (8, [(3, rTw), (4, .pos), (7, rTop b), (11, .wrap), (12, .wrap)])], loops := [(0, { ι := Nat, keep := [1, 14, 15], boxes := [1], ts := fun _ i => [(5, dI (volF b i)), (16, dI (i : Int))], inv := fun _ i => i ≤ b.nS, mu := fun _ i => b.nS - i, rd := fun _ σ => (iOf (σ.get 16)).toNat })], cuts := [] }
theorem volume_c (b : Bld) (hN : ∀ i, i < b.nS → b.N i ≤ 1000) : FnC prog 21 [bld b] (.tup [dI (volR b), dI (chkB b)]) := by
  refine FnC_owed hmix (A40_volume_c b) (V := VT.need [FnC prog (49 : Nat) [DV.agg [DV.val (Value.string b.name), DV.lst b.nS [fun (i : Nat) => DV.val (Value.int IntKind.i64 (b.fl i)), fun (i : Nat) => DV.lst (b.N i) [fun (i_1 : Nat) => DV.val (Value.int IntKind.i64 (b.X i i_1)), fun (i_1 : Nat) => DV.val (Value.int IntKind.i64 (b.Y i i_1))]], DV.val (Value.int IntKind.i64 b.roof), DV.lst b.nO [fun (i : Nat) => DV.val (Value.int IntKind.i64 (b.O i (0 : Nat))), fun (i : Nat) => DV.val (Value.int IntKind.i64 (b.O i (1 : Nat))), fun (i : Nat) => DV.val (Value.int IntKind.i64 (b.O i (2 : Nat))), fun (i : Nat) => DV.val (Value.int IntKind.i64 (b.O i (3 : Nat))), fun (i : Nat) => DV.val (Value.int IntKind.i64 (b.O i (4 : Nat))), fun (i : Nat) => DV.val (Value.int IntKind.i64 (b.O i (5 : Nat)))], DV.lst b.nB [fun (i : Nat) => DV.val (Value.int IntKind.i64 (b.B i (0 : Nat))), fun (i : Nat) => DV.val (Value.int IntKind.i64 (b.B i (1 : Nat))), fun (i : Nat) => DV.val (Value.int IntKind.i64 (b.B i (2 : Nat))), fun (i : Nat) => DV.val (Value.int IntKind.i64 (b.B i (3 : Nat))), fun (i : Nat) => DV.val (Value.int IntKind.i64 (b.B i (4 : Nat))), fun (i : Nat) => DV.val (Value.int IntKind.i64 (b.B i (5 : Nat)))]]] (DV.val (Value.int IntKind.i64 (chkB b)))] (VT.ite (chkB b != (0 : Int)) (VT.done [(0 : Int) = volR b, chkB b = chkB b]) (VT.loop Nat (fun (a : Nat) => a ≤ b.nS) (Int.toNat (0 : Int)) [(0 : Int) = volF b (Int.toNat (0 : Int)), (0 : Int) = (↑(Int.toNat (0 : Int)) : Int), b.nS = b.nS, ∀ (i : Nat), i < b.nS → b.fl i = b.fl i, ∀ (i : Nat), i < b.nS → b.N i = b.N i ∧ (∀ (i_1 : Nat), i_1 < b.N i → b.X i i_1 = b.X i i_1) ∧ ∀ (i_1 : Nat), i_1 < b.N i → b.Y i i_1 = b.Y i i_1, (↑b.nS : Int) = (↑b.nS : Int), b.name = b.name, b.nS = b.nS, ∀ (i : Nat), i < b.nS → b.fl i = b.fl i, ∀ (i : Nat), i < b.nS → b.N i = b.N i ∧ (∀ (i_1 : Nat), i_1 < b.N i → b.X i i_1 = b.X i i_1) ∧ ∀ (i_1 : Nat), i_1 < b.N i → b.Y i i_1 = b.Y i i_1, b.roof = b.roof, b.nO = b.nO, ∀ (i : Nat), i < b.nO → b.O i (0 : Nat) = b.O i (0 : Nat), ∀ (i : Nat),
     i < b.nO → b.O i (1 : Nat) = b.O i (1 : Nat), ∀ (i : Nat), i < b.nO → b.O i (2 : Nat) = b.O i (2 : Nat), ∀ (i : Nat), i < b.nO → b.O i (3 : Nat) = b.O i (3 : Nat), ∀ (i : Nat), i < b.nO → b.O i (4 : Nat) = b.O i (4 : Nat), ∀ (i : Nat), i < b.nO → b.O i (5 : Nat) = b.O i (5 : Nat), b.nB = b.nB, ∀ (i : Nat), i < b.nB → b.B i (0 : Nat) = b.B i (0 : Nat), ∀ (i : Nat), i < b.nB → b.B i (1 : Nat) = b.B i (1 : Nat), ∀ (i : Nat), i < b.nB → b.B i (2 : Nat) = b.B i (2 : Nat), ∀ (i : Nat), i < b.nB → b.B i (3 : Nat) = b.B i (3 : Nat), ∀ (i : Nat), i < b.nB → b.B i (4 : Nat) = b.B i (4 : Nat), ∀ (i : Nat), i < b.nB → b.B i (5 : Nat) = b.B i (5 : Nat)] fun (i : Nat) => VT.ite (decide ((↑i : Int) < (↑b.nS : Int))) (VT.need [(0 : Int) ≤ (↑i : Int) ∧ (↑i : Int) < (↑b.nS : Int)] (VT.need [FnC prog (57 : Nat) [DV.lst (b.N (Int.toNat (↑i : Int))) [fun (i_1 : Nat) => DV.val (Value.int IntKind.i64 (b.X (Int.toNat (↑i : Int)) i_1)), fun (i_1 : Nat) => DV.val (Value.int IntKind.i64 (b.Y (Int.toNat (↑i : Int)) i_1))]] (DV.val (Value.int IntKind.i64 (twS (b.N (Int.toNat (↑i : Int))) (b.X (Int.toNat (↑i : Int))) (b.Y (Int.toNat (↑i : Int))) (b.N (Int.toNat (↑i : Int)))))), (0 : Int) ≤ twS (b.N (Int.toNat (↑i : Int))) (b.X (Int.toNat (↑i : Int))) (b.Y (Int.toNat (↑i : Int))) (b.N (Int.toNat (↑i : Int))) ∧ (0 : Int) < (2 : Int) ∧ twS (b.N (Int.toNat (↑i : Int))) (b.X (Int.toNat (↑i : Int))) (b.Y (Int.toNat (↑i : Int))) (b.N (Int.toNat (↑i : Int))) ≤ (9223372036854775807 : Int), FnC prog (58 : Nat) [DV.agg [DV.val (Value.string b.name), DV.lst b.nS [fun (i : Nat) => DV.val (Value.int IntKind.i64 (b.fl i)), fun (i : Nat) => DV.lst (b.N i) [fun (i_1 : Nat) => DV.val (Value.int IntKind.i64 (b.X i i_1)), fun (i_1 : Nat) => DV.val (Value.int IntKind.i64 (b.Y i i_1))]], DV.val (Value.int IntKind.i64 b.roof), DV.lst b.nO [fun (i : Nat) => DV.val (Value.int IntKind.i64 (b.O i (0 : Nat))), fun (i : Nat) => DV.val (Value.int IntKind.i64 (b.O i (1 : Nat))), fun (i : Nat) => DV.val (Value.int IntKind.i64
     (b.O i (2 : Nat))), fun (i : Nat) => DV.val (Value.int IntKind.i64 (b.O i (3 : Nat))), fun (i : Nat) => DV.val (Value.int IntKind.i64 (b.O i (4 : Nat))), fun (i : Nat) => DV.val (Value.int IntKind.i64 (b.O i (5 : Nat)))], DV.lst b.nB [fun (i : Nat) => DV.val (Value.int IntKind.i64 (b.B i (0 : Nat))), fun (i : Nat) => DV.val (Value.int IntKind.i64 (b.B i (1 : Nat))), fun (i : Nat) => DV.val (Value.int IntKind.i64 (b.B i (2 : Nat))), fun (i : Nat) => DV.val (Value.int IntKind.i64 (b.B i (3 : Nat))), fun (i : Nat) => DV.val (Value.int IntKind.i64 (b.B i (4 : Nat))), fun (i : Nat) => DV.val (Value.int IntKind.i64 (b.B i (5 : Nat)))]], DV.val (Value.int IntKind.i64 (↑i : Int))] (DV.val (Value.int IntKind.i64 (topF b (Int.toNat (↑i : Int))))), i64In (topF b (Int.toNat (↑i : Int)) - b.fl (Int.toNat (↑i : Int)))] (VT.need [i64In ((↑i : Int) + (1 : Int))] (VT.done [IntKind.wrap IntKind.i64 (volF b i + IntKind.wrap IntKind.i64 (twS (b.N (Int.toNat (↑i : Int))) (b.X (Int.toNat (↑i : Int))) (b.Y (Int.toNat (↑i : Int))) (b.N (Int.toNat (↑i : Int))) / (2 : Int) * (topF b (Int.toNat (↑i : Int)) - b.fl (Int.toNat (↑i : Int))))) = volF b (Int.toNat ((↑i : Int) + (1 : Int))), (↑i : Int) + (1 : Int) = (↑(Int.toNat ((↑i : Int) + (1 : Int))) : Int), b.nS = b.nS, ∀ (i : Nat), i < b.nS → b.fl i = b.fl i, ∀ (i : Nat), i < b.nS → b.N i = b.N i ∧ (∀ (i_1 : Nat), i_1 < b.N i → b.X i i_1 = b.X i i_1) ∧ ∀ (i_1 : Nat), i_1 < b.N i → b.Y i i_1 = b.Y i i_1, (↑b.nS : Int) = (↑b.nS : Int), b.name = b.name, b.nS = b.nS, ∀ (i : Nat), i < b.nS → b.fl i = b.fl i, ∀ (i : Nat), i < b.nS → b.N i = b.N i ∧ (∀ (i_1 : Nat), i_1 < b.N i → b.X i i_1 = b.X i i_1) ∧ ∀ (i_1 : Nat), i_1 < b.N i → b.Y i i_1 = b.Y i i_1, b.roof = b.roof, b.nO = b.nO, ∀ (i : Nat), i < b.nO → b.O i (0 : Nat) = b.O i (0 : Nat), ∀ (i : Nat), i < b.nO → b.O i (1 : Nat) = b.O i (1 : Nat), ∀ (i : Nat), i < b.nO → b.O i (2 : Nat) = b.O i (2 : Nat), ∀ (i : Nat), i < b.nO → b.O i (3 : Nat) = b.O i (3 : Nat), ∀ (i : Nat), i < b.nO → b.O i (4 :
     Nat) = b.O i (4 : Nat), ∀ (i : Nat), i < b.nO → b.O i (5 : Nat) = b.O i (5 : Nat), b.nB = b.nB, ∀ (i : Nat), i < b.nB → b.B i (0 : Nat) = b.B i (0 : Nat), ∀ (i : Nat), i < b.nB → b.B i (1 : Nat) = b.B i (1 : Nat), ∀ (i : Nat), i < b.nB → b.B i (2 : Nat) = b.B i (2 : Nat), ∀ (i : Nat), i < b.nB → b.B i (3 : Nat) = b.B i (3 : Nat), ∀ (i : Nat), i < b.nB → b.B i (4 : Nat) = b.B i (4 : Nat), ∀ (i : Nat), i < b.nB → b.B i (5 : Nat) = b.B i (5 : Nat), Int.toNat ((↑i : Int) + (1 : Int)) ≤ b.nS, b.nS - Int.toNat ((↑i : Int) + (1 : Int)) < b.nS - i])))) (VT.done [volF b i = volR b, (0 : Int) = chkB b])))) (by kernel_rfl) ?_
  simp only [VT.holds, AllT, imp_self, implies_true, and_true, true_and, toNat_succ, toNat_add2, toNat_zero', Int.toNat_natCast, Bool.if_true_left, Bool.if_false_right, Bool.decide_eq_true, Bool.or_eq_true, Bool.or_eq_false_iff, Bool.and_eq_true, Bool.and_eq_false_imp, Bool.not_eq_true', Bool.not_eq_false', Bool.not_not, bne_iff_ne, bne_eq_false_iff_eq, beq_iff_eq, beq_eq_false_iff_ne, decide_eq_true_eq, decide_eq_false_iff_not, ne_eq]
  refine ⟨check_b b hN, fun h => by rw [volR, if_pos h], fun h => ⟨⟨rfl, rfl⟩, Nat.zero_le _, fun i hi => ⟨fun hlt => ?_, fun hge => ?_⟩⟩⟩
  · obtain ⟨c1, c2, c3, c4, c5, c6⟩ := chkB_zero h
    have hs := shp_no c2
    obtain ⟨f1, f2, f3⟩ := floors_ok c2 c3 c4
    have hch := f1 i (by omega)
    have hnn := chk_n hch
    obtain ⟨hX, hY⟩ := chk_inB hch
    have t1 := topF_bd f2 i
    have t2 := f2.1 i (by omega)
    have tw := (chk_zero hch).2.2.2.2
    have tb := twS_bd (by omega : 0 < b.N i) hX hY (b.N i)
    refine ⟨⟨by omega, hlt⟩, ⟨twice_c _ _ _ (by omega) (by omega) hX hY, ⟨tw, by omega, by omega⟩, top_c b i (by omega), by unfold i64In; omega⟩, by unfold i64In; omega, rfl, by omega, by omega, by omega⟩
  · have e : i = b.nS := by omega
    rw [e]
    exact ⟨by rw [volR, if_neg (by rw [h]; simp)], h.symm⟩
end Go.Abs
