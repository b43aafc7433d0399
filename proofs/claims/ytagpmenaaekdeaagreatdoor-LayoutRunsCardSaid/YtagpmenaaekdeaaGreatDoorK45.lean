/- Contracts. -/
import Derived.Test.YtagpmenaaekdeaaGreatDoorK44
set_option linter.unusedVariables false
set_option linter.unusedSimpArgs false
set_option maxRecDepth 100000
namespace Go.Abs
open Go
def ch2 (a e : Int) (k : Nat) : Int := [a, e].getD k 0
def ch1 (a : Int) (_ : Nat) : Int := a
theorem facadeE_c (b : Bld) (nB : Nat) (B : Nat → Int) (nO : Nat) (O : Nat → Int) (W G L i : Int) (m : Nat) (C : Nat → Int) (hN : ∀ i, i < b.nS → b.N i ≤ 1000) (hm : m ≤ 1000000) :
    FnC prog 47 [bld b, Lay.sys nB B nO O W G L, dI i, Lay.nums m C] (.tup [.any, dI (fcE b nB B nO O W G L i m C)]) := by
  by_cases h : arE b nB B nO O W G L = 0
  · exact facadeB_c b nB B nO O W G L i m C hN h hm
  · exact facadeA_c b nB B nO O W G L i m C hN h
section
variable {b : Bld} {nB : Nat} {B : Nat → Int} {nO : Nat} {O : Nat → Int} {W G L i a e : Int}
theorem bad01_spec {x : Int} : bad01 x = false ↔ 0 ≤ x ∧ x ≤ 1 := by
  unfold bad01 Lay.inR
  simp
theorem any_two {p : Nat → Bool} : Lay.anyN p 2 = false ↔ p 0 = false ∧ p 1 = false := by
  unfold Lay.anyN
  simp only [Bool.not_eq_false', decide_eq_true_eq]
  refine ⟨fun h => ⟨h 0 (by omega), h 1 (by omega)⟩, fun h k hk => ?_⟩
  obtain rfl | rfl : k = 0 ∨ k = 1 := by omega
  · exact h.1
  · exact h.2
theorem any_one {p : Nat → Bool} : Lay.anyN p 1 = false ↔ p 0 = false := by
  unfold Lay.anyN
  simp only [Bool.not_eq_false', decide_eq_true_eq]
  refine ⟨fun h => h 0 (by omega), fun h k hk => ?_⟩
  obtain rfl : k = 0 := by omega
  exact h
theorem fc2_a (h : arE b nB B nO O W G L ≠ 0) : fcE b nB B nO O W G L i 2 (ch2 a e) = arE b nB B nO O W G L ∧ fcE b nB B nO O W G L i 1 (ch1 a) = arE b nB B nO O W G L := ⟨fc_1 h, fc_1 h⟩
theorem fc2_b (h : arE b nB B nO O W G L = 0) (h2 : ¬ (0 ≤ i ∧ i ≤ (b.N 0 : Int) - 1)) : fcE b nB B nO O W G L i 2 (ch2 a e) = 6 ∧ fcE b nB B nO O W G L i 1 (ch1 a) = 6 := ⟨fc_2 h (by omega), fc_2 h (by omega)⟩
theorem fc2_c (h : arE b nB B nO O W G L = 0) (h2 : 0 ≤ i ∧ i ≤ (b.N 0 : Int) - 1) (h3 : ¬ (0 ≤ a ∧ a ≤ 1)) : fcE b nB B nO O W G L i 2 (ch2 a e) = 2 ∧ fcE b nB B nO O W G L i 1 (ch1 a) = 2 := by
  refine ⟨fc_3 h (by omega) ?_, fc_3 h (by omega) ?_⟩
  · rw [← Bool.not_eq_false, any_two]
    exact fun hx => h3 (bad01_spec.1 hx.1)
  · rw [← Bool.not_eq_false, any_one]
    exact fun hx => h3 (bad01_spec.1 hx)
theorem fc2_d (h : arE b nB B nO O W G L = 0) (h2 : 0 ≤ i ∧ i ≤ (b.N 0 : Int) - 1) (h3 : 0 ≤ a ∧ a ≤ 1) (h4 : ¬ (0 ≤ e ∧ e ≤ 1)) : fcE b nB B nO O W G L i 2 (ch2 a e) = 2 ∧ fcE b nB B nO O W G L i 1 (ch1 a) = 0 := by
  refine ⟨fc_3 h (by omega) ?_, fc_4 h (by omega) ?_⟩
  · rw [← Bool.not_eq_false, any_two]
    exact fun hx => h4 (bad01_spec.1 hx.2)
  · rw [any_one]
    exact bad01_spec.2 h3
theorem fc2_e (h : arE b nB B nO O W G L = 0) (h2 : 0 ≤ i ∧ i ≤ (b.N 0 : Int) - 1) (h3 : 0 ≤ a ∧ a ≤ 1) (h4 : 0 ≤ e ∧ e ≤ 1) : fcE b nB B nO O W G L i 2 (ch2 a e) = 0 ∧ fcE b nB B nO O W G L i 1 (ch1 a) = 0 := by
  refine ⟨fc_4 h (by omega) ?_, fc_4 h (by omega) ?_⟩
  · rw [any_two]
    exact ⟨bad01_spec.2 h3, bad01_spec.2 h4⟩
  · rw [any_one]
    exact bad01_spec.2 h3
theorem fc1_ok (h : fcE b nB B nO O W G L i 1 (ch1 a) = 0) : arE b nB B nO O W G L = 0 ∧ (0 ≤ i ∧ i < (b.N 0 : Int)) ∧ 0 ≤ a ∧ a ≤ 1 := by
  obtain ⟨h1, h2, h3⟩ := fc_zero h
  rw [any_one] at h3
  exact ⟨h1, by omega, bad01_spec.1 h3⟩
theorem fc2_ok (h : fcE b nB B nO O W G L i 2 (ch2 a e) = 0) : arE b nB B nO O W G L = 0 ∧ (0 ≤ i ∧ i < (b.N 0 : Int)) ∧ (0 ≤ a ∧ a ≤ 1) ∧ 0 ≤ e ∧ e ≤ 1 := by
  obtain ⟨h1, h2, h3⟩ := fc_zero h
  rw [any_two] at h3
  exact ⟨h1, by omega, bad01_spec.1 h3.1, bad01_spec.1 h3.2⟩
/-- A choice moves an end by the width. -/
theorem choice_W (n : Nat) (X Y : Nat → Int) (G : Int) {W : Int} (i : Int) {a e : Int} (ha : 0 ≤ a ∧ a ≤ 1) (hW : 1 ≤ W ∧ W ≤ 5000) : ((ruL n X Y G W i (1 - a) e - ruL n X Y G W i a e).natAbs : Int) = W := by
  unfold ruL befF
  have h := mul01 ha hW
  have h1 : (1 - (1 - a)) * W = a * W := by rw [show 1 - (1 - a) = a by omega]
  rw [h1]
  split <;> omega
end
noncomputable def A14_runLengthA_c (b : Bld) (nB : Nat) (B : Nat → Int) (nO : Nat) (O : Nat → Int) (W G L i a e : Int) : Ann := { orc := [(1, [(6, .res fun _ => .tup [.any, dI (fcE b nB B nO O W G L i 2 (ch2 a e))])]), (4, [(4, .res fun _ => dI 0)])], loops := [], cuts := [] }
theorem runLengthA_c (b : Bld) (nB : Nat) (B : Nat → Int) (nO : Nat) (O : Nat → Int) (W G L i a e : Int) (hN : ∀ i, i < b.nS → b.N i ≤ 1000) (h0 : fcE b nB B nO O W G L i 2 (ch2 a e) ≠ 0) : FnC prog 14 [bld b, Lay.sys nB B nO O W G L, dI i, dI a, dI e] (.tup [dI 0, dI (fcE b nB B nO O W G L i 2 (ch2 a e))]) := by
  refine FnC_owed hmix (A14_runLengthA_c b nB B nO O W G L i a e) (V := .need [(2 : Nat) ≤ (2 : Nat), FnC prog (47 : Nat) [(bld b), .agg [.lst nB [fun i => (dI (B i))], .lst nO [fun i => (dI (O i))], (dI W), (dI G), (dI L)], (dI i), .lst (2 : Nat) [fun i => (dI (List.getD [a, e] i (0 : Int)))]] (.tup [.any, (dI (fcE b nB B nO O W G L i (2 : Nat) (ch2 a e)))])] (.ite (fcE b nB B nO O W G L i (2 : Nat) (ch2 a e) != (0 : Int)) (.done [(0 : Int) = (0 : Int), fcE b nB B nO O W G L i (2 : Nat) (ch2 a e) = fcE b nB B nO O W G L i (2 : Nat) (ch2 a e)]) (.need [FnC prog (48 : Nat) [.any, (dI i), (dI a), (dI e)] ((dI (0 : Int)))] (.done [(0 : Int) = (0 : Int), (0 : Int) = fcE b nB B nO O W G L i (2 : Nat) (ch2 a e)])))) (by kernel_rfl) ?_
  simp only [VT.holds, AllT, imp_self, implies_true, and_true, true_and, toNat_succ, toNat_add2, toNat_zero', Int.toNat_natCast, Bool.if_true_left, Bool.if_false_right, Bool.decide_eq_true, Bool.or_eq_true, Bool.or_eq_false_iff, Bool.and_eq_true, Bool.and_eq_false_imp, Bool.not_eq_true', Bool.not_eq_false', Bool.not_not, bne_iff_ne, bne_eq_false_iff_eq, beq_iff_eq, beq_eq_false_iff_ne, decide_eq_true_eq, decide_eq_false_iff_not, ne_eq]
  exact ⟨⟨Nat.le_refl _, facadeE_c b nB B nO O W G L i 2 (ch2 a e) hN (by omega)⟩, fun h => absurd h h0⟩
noncomputable def A14_runLengthB_c (b : Bld) (nB : Nat) (B : Nat → Int) (nO : Nat) (O : Nat → Int) (W G L i a e : Int) : Ann := { orc := [(1, [(6, rArO b nB B nO O W G L)]), (4, [(4, .res fun _ => dI (ruL (b.N 0) (b.X 0) (b.Y 0) G W i a e))])], loops := [], cuts := [] }
abbrev runLengthB_cd0 (b : Bld) (nB : Nat) (B : Nat → Int) (nO : Nat) (O : Nat → Int) (W : Int) (G : Int) (L : Int) (i : Int) : DV := .cptr [.val (.string b.name), .lst b.nS [fun i => (dI (b.fl i)), fun i => .lst (b.N i) [fun i_1 => (dI (b.X i i_1)), fun i_1 => (dI (b.Y i i_1))]], (dI b.roof), .lst b.nO [fun i => (dI (b.O i (0 : Nat))), fun i => (dI (b.O i (1 : Nat))), fun i => (dI (b.O i (2 : Nat))), fun i => (dI (b.O i (3 : Nat))), fun i => (dI (b.O i (4 : Nat))), fun i => (dI (b.O i (5 : Nat)))], .lst b.nB [fun i => (dI (b.B i (0 : Nat))), fun i => (dI (b.B i (1 : Nat))), fun i => (dI (b.B i (2 : Nat))), fun i => (dI (b.B i (3 : Nat))), fun i => (dI (b.B i (4 : Nat))), fun i => (dI (b.B i (5 : Nat)))], .lst nB [fun i => (dI (B i))], .lst nO [fun i => (dI (O i))], (dI W), (dI G), (dI L), (dI (↑(Lay.catU nB B nO O W G L) : Int)), .lst (Lay.catN nB B nO O W G L) [fun i => (dI (Lay.pLen nB B nO O i)), fun i => (dI (Lay.pCode nB i)), fun i => (dB (decide (nB ≤ i)))], .lst (b.N (0 : Nat)) [fun i => (dI (b.X (0 : Nat) i)), fun i => (dI (b.Y (0 : Nat) i)), fun i => (dI (b.X (0 : Nat) (ix (b.N (0 : Nat)) ((↑i : Int) + (1 : Int))))), fun i => (dI (b.Y (0 : Nat) (ix (b.N (0 : Nat)) ((↑i : Int) + (1 : Int))))), fun i => (dI (lenW (b.N (0 : Nat)) (b.X (0 : Nat)) (b.Y (0 : Nat)) (↑i : Int))), fun i => (dI (dD (b.N (0 : Nat)) (b.X (0 : Nat)) (b.Y (0 : Nat)) (↑i : Int)))], .lst (b.N (0 : Nat)) [fun k => (dI (cor (b.N (0 : Nat)) (b.X (0 : Nat)) (b.Y (0 : Nat)) k))]]
theorem runLengthB_c (b : Bld) (nB : Nat) (B : Nat → Int) (nO : Nat) (O : Nat → Int) (W G L i a e : Int) (hN : ∀ i, i < b.nS → b.N i ≤ 1000) (h0 : fcE b nB B nO O W G L i 2 (ch2 a e) = 0) : FnC prog 14 [bld b, Lay.sys nB B nO O W G L, dI i, dI a, dI e] (.tup [dI (ruL (b.N 0) (b.X 0) (b.Y 0) G W i a e), dI 0]) := by
  refine FnC_owed hmix (A14_runLengthB_c b nB B nO O W G L i a e) (V := .need [(2 : Nat) ≤ (2 : Nat), FnC prog (47 : Nat) [(bld b), .agg [.lst nB [fun i => (dI (B i))], .lst nO [fun i => (dI (O i))], (dI W), (dI G), (dI L)], (dI i), .lst (2 : Nat) [fun i => (dI (List.getD [a, e] i (0 : Int)))]] (.tup [(runLengthB_cd0 b nB B nO O W G L i), (dI (0 : Int))])] (.ite ((0 : Int) != (0 : Int)) (.done [(0 : Int) = ruL (b.N (0 : Nat)) (b.X (0 : Nat)) (b.Y (0 : Nat)) G W i a e, (0 : Int) = (0 : Int)]) (.need [FnC prog (48 : Nat) [(runLengthB_cd0 b nB B nO O W G L i), (dI i), (dI a), (dI e)] ((dI (ruL (b.N (0 : Nat)) (b.X (0 : Nat)) (b.Y (0 : Nat)) G W i a e)))] (.done [ruL (b.N (0 : Nat)) (b.X (0 : Nat)) (b.Y (0 : Nat)) G W i a e = ruL (b.N (0 : Nat)) (b.X (0 : Nat)) (b.Y (0 : Nat)) G W i a e, (0 : Int) = (0 : Int)])))) (by kernel_rfl) ?_
  simp only [VT.holds, AllT, runLengthB_cd0, imp_self, implies_true, and_true, true_and, toNat_succ, toNat_add2, toNat_zero', Int.toNat_natCast, Bool.if_true_left, Bool.if_false_right, Bool.decide_eq_true, Bool.or_eq_true, Bool.or_eq_false_iff, Bool.and_eq_true, Bool.and_eq_false_imp, Bool.not_eq_true', Bool.not_eq_false', Bool.not_not, bne_iff_ne, bne_eq_false_iff_eq, beq_iff_eq, beq_eq_false_iff_ne, decide_eq_true_eq, decide_eq_false_iff_not, ne_eq]
  obtain ⟨h1, h2, h3, h4⟩ := fc2_ok h0
  obtain ⟨hc, hs, _, _, _, _, _⟩ := ar_zero h1
  obtain ⟨b1, b2, b3, b4, b5⟩ := b0_ok hc
  have hn := chk_n b2
  obtain ⟨hX, hY⟩ := chk_inB b2
  exact ⟨⟨Nat.le_refl _, facadeC_c b nB B nO O W G L i 2 (ch2 a e) hN h0 (by omega)⟩, fun h => absurd trivial h, fun _ => runLen_c _ _ _ _ _ _ _ _ _ _ _ _ _ _ _ _ _ _ h2 (by omega) hX hY (sys_wgl hs).1 h3 h4⟩
noncomputable def A15_runStartA_c (b : Bld) (nB : Nat) (B : Nat → Int) (nO : Nat) (O : Nat → Int) (W G L i a : Int) : Ann := { orc := [(1, [(5, .res fun _ => .tup [.any, dI (fcE b nB B nO O W G L i 1 (ch1 a))])]), (4, [(5, .res fun _ => dI 0), (8, .res fun _ => dP 0 0)])], loops := [], cuts := [] }
theorem runStartA_c (b : Bld) (nB : Nat) (B : Nat → Int) (nO : Nat) (O : Nat → Int) (W G L i a : Int) (hN : ∀ i, i < b.nS → b.N i ≤ 1000) (h0 : fcE b nB B nO O W G L i 1 (ch1 a) ≠ 0) : FnC prog 15 [bld b, Lay.sys nB B nO O W G L, dI i, dI a] (.tup [dP 0 0, dI (fcE b nB B nO O W G L i 1 (ch1 a))]) := by
  refine FnC_owed hmix (A15_runStartA_c b nB B nO O W G L i a) (V := .need [(1 : Nat) ≤ (1 : Nat), FnC prog (47 : Nat) [(bld b), .agg [.lst nB [fun i => (dI (B i))], .lst nO [fun i => (dI (O i))], (dI W), (dI G), (dI L)], (dI i), .lst (1 : Nat) [fun i => (dI a)]] (.tup [.any, (dI (fcE b nB B nO O W G L i (1 : Nat) (ch1 a)))])] (.ite (fcE b nB B nO O W G L i (1 : Nat) (ch1 a) != (0 : Int)) (.done [(0 : Int) = (0 : Int), (0 : Int) = (0 : Int), fcE b nB B nO O W G L i (1 : Nat) (ch1 a) = fcE b nB B nO O W G L i (1 : Nat) (ch1 a)]) (.need [FnC prog (50 : Nat) [.any, (dI i), (dI a)] ((dI (0 : Int))), FnC prog (49 : Nat) [.any, (dI i), (dI (0 : Int)), (dI G)] (.val (.agg (Array.mk [.int .i64 (0 : Int), .int .i64 (0 : Int)])))] (.done [(0 : Int) = (0 : Int), (0 : Int) = (0 : Int), (0 : Int) = fcE b nB B nO O W G L i (1 : Nat) (ch1 a)])))) (by kernel_rfl) ?_
  simp only [VT.holds, AllT, imp_self, implies_true, and_true, true_and, toNat_succ, toNat_add2, toNat_zero', Int.toNat_natCast, Bool.if_true_left, Bool.if_false_right, Bool.decide_eq_true, Bool.or_eq_true, Bool.or_eq_false_iff, Bool.and_eq_true, Bool.and_eq_false_imp, Bool.not_eq_true', Bool.not_eq_false', Bool.not_not, bne_iff_ne, bne_eq_false_iff_eq, beq_iff_eq, beq_eq_false_iff_ne, decide_eq_true_eq, decide_eq_false_iff_not, ne_eq]
  exact ⟨⟨Nat.le_refl _, facadeE_c b nB B nO O W G L i 1 (ch1 a) hN (by omega)⟩, fun h => absurd h h0⟩
noncomputable def A15_runStartB_c (b : Bld) (nB : Nat) (B : Nat → Int) (nO : Nat) (O : Nat → Int) (W G L i a : Int) : Ann := { orc := [(1, [(5, rArO b nB B nO O W G L)]), (4, [(5, .res fun _ => dI (befF (b.N 0) (b.X 0) (b.Y 0) G W i a)), (8, .res fun _ => dP (atX (b.N 0) (b.X 0) (b.Y 0) i (befF (b.N 0) (b.X 0) (b.Y 0) G W i a) G) (atY (b.N 0) (b.X 0) (b.Y 0) i (befF (b.N 0) (b.X 0) (b.Y 0) G W i a) G))])], loops := [], cuts := [] }
abbrev runStartB_cd0 (b : Bld) (nB : Nat) (B : Nat → Int) (nO : Nat) (O : Nat → Int) (W : Int) (G : Int) (L : Int) (i : Int) : DV := .cptr [.val (.string b.name), .lst b.nS [fun i => (dI (b.fl i)), fun i => .lst (b.N i) [fun i_1 => (dI (b.X i i_1)), fun i_1 => (dI (b.Y i i_1))]], (dI b.roof), .lst b.nO [fun i => (dI (b.O i (0 : Nat))), fun i => (dI (b.O i (1 : Nat))), fun i => (dI (b.O i (2 : Nat))), fun i => (dI (b.O i (3 : Nat))), fun i => (dI (b.O i (4 : Nat))), fun i => (dI (b.O i (5 : Nat)))], .lst b.nB [fun i => (dI (b.B i (0 : Nat))), fun i => (dI (b.B i (1 : Nat))), fun i => (dI (b.B i (2 : Nat))), fun i => (dI (b.B i (3 : Nat))), fun i => (dI (b.B i (4 : Nat))), fun i => (dI (b.B i (5 : Nat)))], .lst nB [fun i => (dI (B i))], .lst nO [fun i => (dI (O i))], (dI W), (dI G), (dI L), (dI (↑(Lay.catU nB B nO O W G L) : Int)), .lst (Lay.catN nB B nO O W G L) [fun i => (dI (Lay.pLen nB B nO O i)), fun i => (dI (Lay.pCode nB i)), fun i => (dB (decide (nB ≤ i)))], .lst (b.N (0 : Nat)) [fun i => (dI (b.X (0 : Nat) i)), fun i => (dI (b.Y (0 : Nat) i)), fun i => (dI (b.X (0 : Nat) (ix (b.N (0 : Nat)) ((↑i : Int) + (1 : Int))))), fun i => (dI (b.Y (0 : Nat) (ix (b.N (0 : Nat)) ((↑i : Int) + (1 : Int))))), fun i => (dI (lenW (b.N (0 : Nat)) (b.X (0 : Nat)) (b.Y (0 : Nat)) (↑i : Int))), fun i => (dI (dD (b.N (0 : Nat)) (b.X (0 : Nat)) (b.Y (0 : Nat)) (↑i : Int)))], .lst (b.N (0 : Nat)) [fun k => (dI (cor (b.N (0 : Nat)) (b.X (0 : Nat)) (b.Y (0 : Nat)) k))]]
theorem runStartB_c (b : Bld) (nB : Nat) (B : Nat → Int) (nO : Nat) (O : Nat → Int) (W G L i a : Int) (hN : ∀ i, i < b.nS → b.N i ≤ 1000) (h0 : fcE b nB B nO O W G L i 1 (ch1 a) = 0) : FnC prog 15 [bld b, Lay.sys nB B nO O W G L, dI i, dI a] (.tup [dP (atX (b.N 0) (b.X 0) (b.Y 0) i (befF (b.N 0) (b.X 0) (b.Y 0) G W i a) G) (atY (b.N 0) (b.X 0) (b.Y 0) i (befF (b.N 0) (b.X 0) (b.Y 0) G W i a) G), dI 0]) := by
  refine FnC_owed hmix (A15_runStartB_c b nB B nO O W G L i a) (V := .need [(1 : Nat) ≤ (1 : Nat), FnC prog (47 : Nat) [(bld b), .agg [.lst nB [fun i => (dI (B i))], .lst nO [fun i => (dI (O i))], (dI W), (dI G), (dI L)], (dI i), .lst (1 : Nat) [fun i => (dI a)]] (.tup [(runStartB_cd0 b nB B nO O W G L i), (dI (0 : Int))])] (.ite ((0 : Int) != (0 : Int)) (.done [(0 : Int) = atX (b.N (0 : Nat)) (b.X (0 : Nat)) (b.Y (0 : Nat)) i (befF (b.N (0 : Nat)) (b.X (0 : Nat)) (b.Y (0 : Nat)) G W i a) G, (0 : Int) = atY (b.N (0 : Nat)) (b.X (0 : Nat)) (b.Y (0 : Nat)) i (befF (b.N (0 : Nat)) (b.X (0 : Nat)) (b.Y (0 : Nat)) G W i a) G, (0 : Int) = (0 : Int)]) (.need [FnC prog (50 : Nat) [(runStartB_cd0 b nB B nO O W G L i), (dI i), (dI a)] ((dI (befF (b.N (0 : Nat)) (b.X (0 : Nat)) (b.Y (0 : Nat)) G W i a))), FnC prog (49 : Nat) [(runStartB_cd0 b nB B nO O W G L i), (dI i), (dI (befF (b.N (0 : Nat)) (b.X (0 : Nat)) (b.Y (0 : Nat)) G W i a)), (dI G)] (.val (.agg (Array.mk [.int .i64 (atX (b.N (0 : Nat)) (b.X (0 : Nat)) (b.Y (0 : Nat)) i (befF (b.N (0 : Nat)) (b.X (0 : Nat)) (b.Y (0 : Nat)) G W i a) G), .int .i64 (atY (b.N (0 : Nat)) (b.X (0 : Nat)) (b.Y (0 : Nat)) i (befF (b.N (0 : Nat)) (b.X (0 : Nat)) (b.Y (0 : Nat)) G W i a) G)])))] (.done [atX (b.N (0 : Nat)) (b.X (0 : Nat)) (b.Y (0 : Nat)) i (befF (b.N (0 : Nat)) (b.X (0 : Nat)) (b.Y (0 : Nat)) G W i a) G = atX (b.N (0 : Nat)) (b.X (0 : Nat)) (b.Y (0 : Nat)) i (befF (b.N (0 : Nat)) (b.X (0 : Nat)) (b.Y (0 : Nat)) G W i a) G, atY (b.N (0 : Nat)) (b.X (0 : Nat)) (b.Y (0 : Nat)) i (befF (b.N (0 : Nat)) (b.X (0 : Nat)) (b.Y (0 : Nat)) G W i a) G = atY (b.N (0 : Nat)) (b.X (0 : Nat)) (b.Y (0 : Nat)) i (befF (b.N (0 : Nat)) (b.X (0 : Nat)) (b.Y (0 : Nat)) G W i a) G, (0 : Int) = (0 : Int)])))) (by kernel_rfl) ?_
  simp only [VT.holds, AllT, runStartB_cd0, imp_self, implies_true, and_true, true_and, toNat_succ, toNat_add2, toNat_zero', Int.toNat_natCast, Bool.if_true_left, Bool.if_false_right, Bool.decide_eq_true, Bool.or_eq_true, Bool.or_eq_false_iff, Bool.and_eq_true, Bool.and_eq_false_imp, Bool.not_eq_true', Bool.not_eq_false', Bool.not_not, bne_iff_ne, bne_eq_false_iff_eq, beq_iff_eq, beq_eq_false_iff_ne, decide_eq_true_eq, decide_eq_false_iff_not, ne_eq]
  obtain ⟨h1, h2, h3⟩ := fc1_ok h0
  obtain ⟨hc, hs, _, _, _, _, _⟩ := ar_zero h1
  obtain ⟨b1, b2, b3, b4, b5⟩ := b0_ok hc
  have hn := chk_n b2
  obtain ⟨hX, hY⟩ := chk_inB b2
  have g1 := (sys_wgl hs).1
  have g2 := g1
  unfold gwOk at g2
  have hb := bef_bd (n := b.N 0) (X := b.X 0) (Y := b.Y 0) i g1 h3
  exact ⟨⟨Nat.le_refl _, facadeC_c b nB B nO O W G L i 1 (ch1 a) hN h0 (by omega)⟩, fun h => absurd trivial h, fun _ => ⟨before_c _ _ _ _ _ _ _ _ _ _ _ _ _ _ _ _ _ h2 g1 h3, ringAt_c _ _ _ _ _ _ _ _ _ _ _ _ _ _ _ _ _ _ h2 hX hY (by omega) (by omega)⟩⟩
end Go.Abs
