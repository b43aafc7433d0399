/- Contracts. -/
import Derived.Test.YtagpmenaaekdeaaGreatDoorK40
import Derived.Test.YtagpmenaaekdeaaGreatDoorL7
set_option linter.unusedVariables false
set_option linter.unusedSimpArgs false
set_option maxRecDepth 100000
namespace Go.Abs
open Go
/-- A ring of runs: the building's cells, the system's, the catalogue's, the walls, the corners. -/
abbrev ringC (c0 c1 : DV) (rf : Int) (c3 c4 c5 c6 : DV) (W G L : Int) (c10 c11 : DV) (n : Nat) (X Y : Nat → Int) : DV := .cptr [c0, c1, dI rf, c3, c4, c5, c6, dI W, dI G, dI L, c10, c11, .lst n (wcols n X Y), .lst n [fun k => dI (cor n X Y k)]]
def rgN (l : List DV) : Nat := match arg l 0 with
  | .cptr [_, _, _, _, _, _, _, _, _, _, _, _, .lst n _, _] => n
  | _ => 0
theorem cor_at {n : Nat} {X Y : Nat → Int} {i : Int} (h : 0 ≤ i) : cor n X Y i.toNat = corI n X Y i := by
  have e : cor n X Y i.toNat = corI n X Y (i.toNat : Nat) := rfl
  rw [e, Int.toNat_of_nonneg h]
theorem ix_at {n : Nat} {i : Int} (h : 0 ≤ i ∧ i < n) : ix n i = i.toNat := by
  unfold ix
  rw [Int.add_emod_right, Int.emod_eq_of_lt h.1 h.2]
def gwOk (G W : Int) : Prop := 0 ≤ G ∧ G ≤ 5000 ∧ 1 ≤ W ∧ W ≤ 5000
theorem mul01 {a W : Int} (h : 0 ≤ a ∧ a ≤ 1) (hW : 1 ≤ W ∧ W ≤ 5000) : (a * W = 0 ∧ (1 - a) * W = W ∧ a = 0) ∨ (a * W = W ∧ (1 - a) * W = 0 ∧ a = 1) := by
  obtain rfl | rfl : a = 0 ∨ a = 1 := by omega
  · exact .inl ⟨by omega, by omega, rfl⟩
  · exact .inr ⟨by omega, by omega, rfl⟩
theorem bef_bd {n : Nat} {X Y : Nat → Int} {G W a : Int} (i : Int) (hg : gwOk G W) (ha : 0 ≤ a ∧ a ≤ 1) : -20000 ≤ befF n X Y G W i a ∧ befF n X Y G W i a ≤ 20000 := by
  obtain ⟨g1, g2, g3, g4⟩ := hg
  have hm := mul01 ha ⟨g3, g4⟩
  unfold befF
  split <;> omega
theorem beh_bd {n : Nat} {X Y : Nat → Int} {G W a : Int} (i : Int) (hn : 0 < n) (hX : inB n X) (hY : inB n Y) (hg : gwOk G W) (ha : 0 ≤ a ∧ a ≤ 1) : -20000 ≤ behF n X Y G W i a ∧ behF n X Y G W i a ≤ 4020000 := by
  obtain ⟨g1, g2, g3, g4⟩ := hg
  have hm := mul01 ha ⟨g3, g4⟩
  have hl := lenW_bd hn hX hY i
  unfold behF
  split <;> omega
theorem mul_st {d t : Int} (h : 0 ≤ d ∧ d < 4) (ht : -9000000 ≤ t ∧ t ≤ 9000000) : (-9000000 ≤ t * stX d ∧ t * stX d ≤ 9000000) ∧ (-9000000 ≤ t * stY d ∧ t * stY d ≤ 9000000) := by
  obtain ⟨e1, e2⟩ | ⟨e1, e2⟩ | ⟨e1, e2⟩ | ⟨e1, e2⟩ := st_val h
  all_goals
    rw [e1, e2]
    omega
theorem top_bd {rf L : Int} (hr : 0 ≤ rf ∧ rf ≤ 1000000) (hL : 1 ≤ L ∧ L ≤ 10000) : 0 ≤ rf / L ∧ rf / L ≤ 1000000 ∧ 0 < topH rf L ∧ topH rf L ≤ 1010000 := by
  have h1 := Int.ediv_nonneg hr.1 (show 0 ≤ L by omega)
  have h2 := Int.ediv_le_self L hr.1
  have h3 := Int.ediv_mul_le rf (show L ≠ 0 by omega)
  unfold topH
  have h4 : 0 ≤ rf / L * L := Int.mul_nonneg h1 (by omega)
  rw [Int.add_mul, Int.one_mul]
  omega
noncomputable def A57_n_c (c0 c1 : DV) (rf : Int) (c3 c4 c5 c6 : DV) (W G L : Int) (c10 c11 : DV) (n : Nat) (X Y : Nat → Int) : Ann := { orc := [], loops := [], cuts := [] }
theorem n_c (c0 c1 : DV) (rf : Int) (c3 c4 c5 c6 : DV) (W G L : Int) (c10 c11 : DV) (n : Nat) (X Y : Nat → Int)  : FnC prog 57 [ringC c0 c1 rf c3 c4 c5 c6 W G L c10 c11 n X Y] (dI (n : Int)) := by
  refine FnC_owed hmix (A57_n_c c0 c1 rf c3 c4 c5 c6 W G L c10 c11 n X Y) (V := .done [(↑n : Int) = (↑n : Int)]) (by kernel_rfl) ?_
  simp only [VT.holds, AllT, imp_self, implies_true, and_true, true_and, toNat_succ, toNat_add2, toNat_zero', Int.toNat_natCast, Bool.if_true_left, Bool.if_false_right, Bool.decide_eq_true, Bool.or_eq_true, Bool.or_eq_false_iff, Bool.and_eq_true, Bool.and_eq_false_imp, Bool.not_eq_true', Bool.not_eq_false', Bool.not_not, bne_iff_ne, bne_eq_false_iff_eq, beq_iff_eq, beq_eq_false_iff_ne, decide_eq_true_eq, decide_eq_false_iff_not, ne_eq]
noncomputable def A50_before_c (c0 c1 : DV) (rf : Int) (c3 c4 c5 c6 : DV) (W G L : Int) (c10 c11 : DV) (n : Nat) (X Y : Nat → Int) (i a : Int) : Ann := { orc := [], loops := [], cuts := [] }
theorem before_c (c0 c1 : DV) (rf : Int) (c3 c4 c5 c6 : DV) (W G L : Int) (c10 c11 : DV) (n : Nat) (X Y : Nat → Int) (i a : Int) (h : 0 ≤ i ∧ i < n) (hg : gwOk G W) (ha : 0 ≤ a ∧ a ≤ 1) : FnC prog 50 [ringC c0 c1 rf c3 c4 c5 c6 W G L c10 c11 n X Y, dI i, dI a] (dI (befF n X Y G W i a)) := by
  refine FnC_owed hmix (A50_before_c c0 c1 rf c3 c4 c5 c6 W G L c10 c11 n X Y i a) (V := .need [(0 : Int) ≤ i ∧ i < (↑n : Int)] (.ite (decide (cor n X Y (Int.toNat i) > (0 : Int))) (.need [i64In (-G), i64In (a * W), i64In (-G - a * W)] (.done [-G - a * W = befF n X Y G W i a])) (.need [i64In ((1 : Int) - a), i64In (((1 : Int) - a) * W), i64In (G + ((1 : Int) - a) * W)] (.done [G + ((1 : Int) - a) * W = befF n X Y G W i a])))) (by kernel_rfl) ?_
  simp only [VT.holds, AllT, imp_self, implies_true, and_true, true_and, toNat_succ, toNat_add2, toNat_zero', Int.toNat_natCast, Bool.if_true_left, Bool.if_false_right, Bool.decide_eq_true, Bool.or_eq_true, Bool.or_eq_false_iff, Bool.and_eq_true, Bool.and_eq_false_imp, Bool.not_eq_true', Bool.not_eq_false', Bool.not_not, bne_iff_ne, bne_eq_false_iff_eq, beq_iff_eq, beq_eq_false_iff_ne, decide_eq_true_eq, decide_eq_false_iff_not, ne_eq]
  rw [cor_at h.1]
  obtain ⟨g1, g2, g3, g4⟩ := hg
  have hm := mul01 ha ⟨g3, g4⟩
  refine ⟨h, fun h1 => ⟨?_, ?_⟩, fun h1 => ⟨?_, ?_⟩⟩
  · unfold i64In; omega
  · rw [befF, if_pos h1]
  · unfold i64In; omega
  · rw [befF, if_neg h1]
noncomputable def A88_behind_c (c0 c1 : DV) (rf : Int) (c3 c4 c5 c6 : DV) (W G L : Int) (c10 c11 : DV) (n : Nat) (X Y : Nat → Int) (i a : Int) : Ann := { orc := [(1, [(7, .res fun _ => dI (n : Int)), (8, .pos)])], loops := [], cuts := [] }
theorem behind_c (c0 c1 : DV) (rf : Int) (c3 c4 c5 c6 : DV) (W G L : Int) (c10 c11 : DV) (n : Nat) (X Y : Nat → Int) (i a : Int) (h : 0 ≤ i ∧ i < n) (hn : n ≤ 1000) (hX : inB n X) (hY : inB n Y) (hg : gwOk G W) (ha : 0 ≤ a ∧ a ≤ 1) : FnC prog 88 [ringC c0 c1 rf c3 c4 c5 c6 W G L c10 c11 n X Y, dI i, dI a] (dI (behF n X Y G W i a)) := by
  refine FnC_owed hmix (A88_behind_c c0 c1 rf c3 c4 c5 c6 W G L c10 c11 n X Y i a) (V := .need [i64In (i + (1 : Int)), FnC prog (57 : Nat) [.cptr [c0, c1, (dI rf), c3, c4, c5, c6, (dI W), (dI G), (dI L), c10, c11, .lst n [fun i => (dI (X i)), fun i => (dI (Y i)), fun i => (dI (X (ix n ((↑i : Int) + (1 : Int))))), fun i => (dI (Y (ix n ((↑i : Int) + (1 : Int))))), fun i => (dI (lenW n X Y (↑i : Int))), fun i => (dI (dD n X Y (↑i : Int)))], .lst n [fun k => (dI (cor n X Y k))]]] ((dI (↑n : Int))), (0 : Int) ≤ i + (1 : Int) ∧ (0 : Int) < (↑n : Int), (0 : Int) ≤ (i + (1 : Int)) % (↑n : Int) ∧ (i + (1 : Int)) % (↑n : Int) < (↑n : Int)] (.ite (decide (cor n X Y (Int.toNat ((i + (1 : Int)) % (↑n : Int))) > (0 : Int))) (.need [(0 : Int) ≤ i ∧ i < (↑n : Int), i64In (lenW n X Y (↑(Int.toNat i) : Int) + G), i64In ((1 : Int) - a), i64In (((1 : Int) - a) * W), i64In (lenW n X Y (↑(Int.toNat i) : Int) + G + ((1 : Int) - a) * W)] (.done [lenW n X Y (↑(Int.toNat i) : Int) + G + ((1 : Int) - a) * W = behF n X Y G W i a])) (.need [(0 : Int) ≤ i ∧ i < (↑n : Int), i64In (lenW n X Y (↑(Int.toNat i) : Int) - G), i64In (a * W), i64In (lenW n X Y (↑(Int.toNat i) : Int) - G - a * W)] (.done [lenW n X Y (↑(Int.toNat i) : Int) - G - a * W = behF n X Y G W i a])))) (by kernel_rfl) ?_
  simp only [VT.holds, AllT, imp_self, implies_true, and_true, true_and, toNat_succ, toNat_add2, toNat_zero', Int.toNat_natCast, Bool.if_true_left, Bool.if_false_right, Bool.decide_eq_true, Bool.or_eq_true, Bool.or_eq_false_iff, Bool.and_eq_true, Bool.and_eq_false_imp, Bool.not_eq_true', Bool.not_eq_false', Bool.not_not, bne_iff_ne, bne_eq_false_iff_eq, beq_iff_eq, beq_eq_false_iff_ne, decide_eq_true_eq, decide_eq_false_iff_not, ne_eq]
  rw [cor_next (by omega), Int.toNat_of_nonneg h.1]
  have he := Int.emod_nonneg (i + 1) (show (n : Int) ≠ 0 by omega)
  have he2 := Int.emod_lt_of_pos (i + 1) (show (0 : Int) < n by omega)
  have hl := lenW_bd (n := n) (by omega) hX hY i
  obtain ⟨g1, g2, g3, g4⟩ := hg
  have hm := mul01 ha ⟨g3, g4⟩
  refine ⟨⟨by unfold i64In; omega, n_c _ _ _ _ _ _ _ _ _ _ _ _ _ _ _, by omega, he, he2⟩, fun h1 => ⟨⟨h, ?_⟩, ?_⟩, fun h1 => ⟨⟨h, ?_⟩, ?_⟩⟩
  · unfold i64In; omega
  · rw [behF, if_pos h1]
  · unfold i64In; omega
  · rw [behF, if_neg h1]
noncomputable def A48_runLen_c (c0 c1 : DV) (rf : Int) (c3 c4 c5 c6 : DV) (W G L : Int) (c10 c11 : DV) (n : Nat) (X Y : Nat → Int) (i a b : Int) : Ann := { orc := [(1, [(3, .res fun _ => dI (behF n X Y G W i b)), (7, .res fun _ => dI (befF n X Y G W i a))])], loops := [], cuts := [] }
theorem runLen_c (c0 c1 : DV) (rf : Int) (c3 c4 c5 c6 : DV) (W G L : Int) (c10 c11 : DV) (n : Nat) (X Y : Nat → Int) (i a b : Int) (h : 0 ≤ i ∧ i < n) (hn : n ≤ 1000) (hX : inB n X) (hY : inB n Y) (hg : gwOk G W) (ha : 0 ≤ a ∧ a ≤ 1) (hb : 0 ≤ b ∧ b ≤ 1) : FnC prog 48 [ringC c0 c1 rf c3 c4 c5 c6 W G L c10 c11 n X Y, dI i, dI a, dI b] (dI (ruL n X Y G W i a b)) := by
  refine FnC_owed hmix (A48_runLen_c c0 c1 rf c3 c4 c5 c6 W G L c10 c11 n X Y i a b) (V := .need [FnC prog (88 : Nat) [.cptr [c0, c1, (dI rf), c3, c4, c5, c6, (dI W), (dI G), (dI L), c10, c11, .lst n [fun i => (dI (X i)), fun i => (dI (Y i)), fun i => (dI (X (ix n ((↑i : Int) + (1 : Int))))), fun i => (dI (Y (ix n ((↑i : Int) + (1 : Int))))), fun i => (dI (lenW n X Y (↑i : Int))), fun i => (dI (dD n X Y (↑i : Int)))], .lst n [fun k => (dI (cor n X Y k))]], (dI i), (dI b)] ((dI (behF n X Y G W i b))), FnC prog (50 : Nat) [.cptr [c0, c1, (dI rf), c3, c4, c5, c6, (dI W), (dI G), (dI L), c10, c11, .lst n [fun i => (dI (X i)), fun i => (dI (Y i)), fun i => (dI (X (ix n ((↑i : Int) + (1 : Int))))), fun i => (dI (Y (ix n ((↑i : Int) + (1 : Int))))), fun i => (dI (lenW n X Y (↑i : Int))), fun i => (dI (dD n X Y (↑i : Int)))], .lst n [fun k => (dI (cor n X Y k))]], (dI i), (dI a)] ((dI (befF n X Y G W i a))), i64In (behF n X Y G W i b - befF n X Y G W i a)] (.done [behF n X Y G W i b - befF n X Y G W i a = ruL n X Y G W i a b])) (by kernel_rfl) ?_
  simp only [VT.holds, AllT, imp_self, implies_true, and_true, true_and, toNat_succ, toNat_add2, toNat_zero', Int.toNat_natCast, Bool.if_true_left, Bool.if_false_right, Bool.decide_eq_true, Bool.or_eq_true, Bool.or_eq_false_iff, Bool.and_eq_true, Bool.and_eq_false_imp, Bool.not_eq_true', Bool.not_eq_false', Bool.not_not, bne_iff_ne, bne_eq_false_iff_eq, beq_iff_eq, beq_eq_false_iff_ne, decide_eq_true_eq, decide_eq_false_iff_not, ne_eq]
  have b1 := bef_bd (n := n) (X := X) (Y := Y) i hg ha
  have b2 := beh_bd i (by omega) hX hY hg hb
  exact ⟨⟨behind_c _ _ _ _ _ _ _ _ _ _ _ _ _ _ _ _ _ h hn hX hY hg hb, before_c _ _ _ _ _ _ _ _ _ _ _ _ _ _ _ _ _ h hg ha, by unfold i64In; omega⟩, rfl⟩
noncomputable def A49_ringAt_c (c0 c1 : DV) (rf : Int) (c3 c4 c5 c6 : DV) (W G L : Int) (c10 c11 : DV) (n : Nat) (X Y : Nat → Int) (i al out : Int) : Ann := { orc := [], loops := [], cuts := [] }
theorem ringAt_c (c0 c1 : DV) (rf : Int) (c3 c4 c5 c6 : DV) (W G L : Int) (c10 c11 : DV) (n : Nat) (X Y : Nat → Int) (i al out : Int) (h : 0 ≤ i ∧ i < n) (hX : inB n X) (hY : inB n Y) (h1 : -9000000 ≤ al ∧ al ≤ 9000000) (h2 : -9000000 ≤ out ∧ out ≤ 9000000) : FnC prog 49 [ringC c0 c1 rf c3 c4 c5 c6 W G L c10 c11 n X Y, dI i, dI al, dI out] (dP (atX n X Y i al out) (atY n X Y i al out)) := by
  refine FnC_owed hmix (A49_ringAt_c c0 c1 rf c3 c4 c5 c6 W G L c10 c11 n X Y i al out) (V := .need [(0 : Int) ≤ i ∧ i < (↑n : Int)] (.need [(0 : Int) ≤ dD n X Y (↑(Int.toNat i) : Int) ∧ dD n X Y (↑(Int.toNat i) : Int) ≤ (9223372036854775807 : Int) ∧ (3 : Int) = (3 : Int), (0 : Int) ≤ dD n X Y (↑(Int.toNat i) : Int) % (4 : Int) ∧ dD n X Y (↑(Int.toNat i) : Int) % (4 : Int) < (↑(4 : Nat) : Int)] (.need [i64In (al * List.getD [(1 : Int), (0 : Int), (-1 : Int), (0 : Int)] (Int.toNat (dD n X Y (↑(Int.toNat i) : Int) % (4 : Int))) (0 : Int)), i64In (X (Int.toNat i) + al * List.getD [(1 : Int), (0 : Int), (-1 : Int), (0 : Int)] (Int.toNat (dD n X Y (↑(Int.toNat i) : Int) % (4 : Int))) (0 : Int)), i64In (out * List.getD [(0 : Int), (1 : Int), (0 : Int), (-1 : Int)] (Int.toNat (dD n X Y (↑(Int.toNat i) : Int) % (4 : Int))) (0 : Int)), i64In (X (Int.toNat i) + al * List.getD [(1 : Int), (0 : Int), (-1 : Int), (0 : Int)] (Int.toNat (dD n X Y (↑(Int.toNat i) : Int) % (4 : Int))) (0 : Int) + out * List.getD [(0 : Int), (1 : Int), (0 : Int), (-1 : Int)] (Int.toNat (dD n X Y (↑(Int.toNat i) : Int) % (4 : Int))) (0 : Int)), i64In (al * List.getD [(0 : Int), (1 : Int), (0 : Int), (-1 : Int)] (Int.toNat (dD n X Y (↑(Int.toNat i) : Int) % (4 : Int))) (0 : Int)), i64In (Y (Int.toNat i) + al * List.getD [(0 : Int), (1 : Int), (0 : Int), (-1 : Int)] (Int.toNat (dD n X Y (↑(Int.toNat i) : Int) % (4 : Int))) (0 : Int)), i64In (out * List.getD [(1 : Int), (0 : Int), (-1 : Int), (0 : Int)] (Int.toNat (dD n X Y (↑(Int.toNat i) : Int) % (4 : Int))) (0 : Int)), i64In (Y (Int.toNat i) + al * List.getD [(0 : Int), (1 : Int), (0 : Int), (-1 : Int)] (Int.toNat (dD n X Y (↑(Int.toNat i) : Int) % (4 : Int))) (0 : Int) - out * List.getD [(1 : Int), (0 : Int), (-1 : Int), (0 : Int)] (Int.toNat (dD n X Y (↑(Int.toNat i) : Int) % (4 : Int))) (0 : Int))] (.done [X (Int.toNat i) + al * List.getD [(1 : Int), (0 : Int), (-1 : Int), (0 : Int)] (Int.toNat (dD n X Y (↑(Int.toNat i) : Int) % (4 : Int))) (0 : Int) + out * List.getD [(0 : Int), (1 : Int), (0 : Int), (-1 : Int)] (Int.toNat (dD n X Y
     (↑(Int.toNat i) : Int) % (4 : Int))) (0 : Int) = atX n X Y i al out, Y (Int.toNat i) + al * List.getD [(0 : Int), (1 : Int), (0 : Int), (-1 : Int)] (Int.toNat (dD n X Y (↑(Int.toNat i) : Int) % (4 : Int))) (0 : Int) - out * List.getD [(1 : Int), (0 : Int), (-1 : Int), (0 : Int)] (Int.toNat (dD n X Y (↑(Int.toNat i) : Int) % (4 : Int))) (0 : Int) = atY n X Y i al out])))) (by kernel_rfl) ?_
  simp only [VT.holds, AllT, imp_self, implies_true, and_true, true_and, toNat_succ, toNat_add2, toNat_zero', Int.toNat_natCast, Bool.if_true_left, Bool.if_false_right, Bool.decide_eq_true, Bool.or_eq_true, Bool.or_eq_false_iff, Bool.and_eq_true, Bool.and_eq_false_imp, Bool.not_eq_true', Bool.not_eq_false', Bool.not_not, bne_iff_ne, bne_eq_false_iff_eq, beq_iff_eq, beq_eq_false_iff_ne, decide_eq_true_eq, decide_eq_false_iff_not, ne_eq]
  rw [Int.toNat_of_nonneg h.1]
  have hd := dD_range n X Y i
  have hd2 : 0 ≤ dD n X Y i ∧ dD n X Y i < 4 := by omega
  rw [Int.emod_eq_of_lt hd2.1 hd2.2, gX hd2, gY hd2]
  have x1 := hX i.toNat (by omega)
  have y1 := hY i.toNat (by omega)
  obtain ⟨m1, m2⟩ := mul_st hd2 h1
  obtain ⟨m3, m4⟩ := mul_st hd2 h2
  refine ⟨h, ⟨by omega, hd2⟩, by unfold i64In; omega, ?_, ?_⟩
  · rw [atX, ix_at h]
  · rw [atY, ix_at h]
noncomputable def A101_top_c' (c0 c1 : DV) (rf : Int) (c3 c4 c5 c6 : DV) (W G L : Int) (c10 c11 : DV) (n : Nat) (X Y : Nat → Int) : Ann := { orc := [(1, [(10, .pos)])], loops := [], cuts := [] }
theorem top_c' (c0 c1 : DV) (rf : Int) (c3 c4 c5 c6 : DV) (W G L : Int) (c10 c11 : DV) (n : Nat) (X Y : Nat → Int) (hr : 0 ≤ rf ∧ rf ≤ 1000000) (hL : 1 ≤ L ∧ L ≤ 10000) : FnC prog 101 [ringC c0 c1 rf c3 c4 c5 c6 W G L c10 c11 n X Y] (dI (topH rf L)) := by
  refine FnC_owed hmix (A101_top_c' c0 c1 rf c3 c4 c5 c6 W G L c10 c11 n X Y) (V := VT.need
        [(0 : Int) ≤ rf ∧ (0 : Int) < L ∧ rf ≤ (9223372036854775807 : Int), i64In (rf / L + (1 : Int)),
          i64In ((rf / L + (1 : Int)) * L)]
        (VT.done [(rf / L + (1 : Int)) * L = topH rf L])) (by kernel_rfl) ?_
  simp only [VT.holds, AllT, imp_self, implies_true, and_true, true_and, toNat_succ, toNat_add2, toNat_zero', Int.toNat_natCast, Bool.if_true_left, Bool.if_false_right, Bool.decide_eq_true, Bool.or_eq_true, Bool.or_eq_false_iff, Bool.and_eq_true, Bool.and_eq_false_imp, Bool.not_eq_true', Bool.not_eq_false', Bool.not_not, bne_iff_ne, bne_eq_false_iff_eq, beq_iff_eq, beq_eq_false_iff_ne, decide_eq_true_eq, decide_eq_false_iff_not, ne_eq]
  obtain ⟨t1, t2, t3, t4⟩ := top_bd hr hL
  have e : (rf / L + 1) * L = topH rf L := rfl
  rw [e]
  exact ⟨⟨by omega, by unfold i64In; omega, by unfold i64In; omega⟩, rfl⟩
noncomputable def A66_ringBox_c (c0 c1 : DV) (rf : Int) (c3 c4 c5 c6 : DV) (W G L : Int) (c10 c11 : DV) (n : Nat) (X Y : Nat → Int) (i a b : Int) : Ann := { orc := [(1, [(5, .res fun _ => dI (befF n X Y G W i a)), (11, .res fun _ => dP (atX n X Y i (befF n X Y G W i a) G) (atY n X Y i (befF n X Y G W i a) G))]), (2, [(5, .res fun _ => dI (behF n X Y G W i b)), (17, .res fun _ => dP (atX n X Y i (behF n X Y G W i b) (G + W)) (atY n X Y i (behF n X Y G W i b) (G + W)))]), (3, [(21, .res fun _ => dI (topH rf L))])], loops := [], cuts := [] }
abbrev ringBox_cd0 (c0 : DV) (c1 : DV) (rf : Int) (c3 : DV) (c4 : DV) (c5 : DV) (c6 : DV) (W : Int) (G : Int) (L : Int) (c10 : DV) (c11 : DV) (n : Nat) (X : Nat → Int) (Y : Nat → Int) (i : Int) : DV := .cptr [c0, c1, (dI rf), c3, c4, c5, c6, (dI W), (dI G), (dI L), c10, c11, .lst n [fun i => (dI (X i)), fun i => (dI (Y i)), fun i => (dI (X (ix n ((↑i : Int) + (1 : Int))))), fun i => (dI (Y (ix n ((↑i : Int) + (1 : Int))))), fun i => (dI (lenW n X Y (↑i : Int))), fun i => (dI (dD n X Y (↑i : Int)))], .lst n [fun k => (dI (cor n X Y k))]]
theorem ringBox_c (c0 c1 : DV) (rf : Int) (c3 c4 c5 c6 : DV) (W G L : Int) (c10 c11 : DV) (n : Nat) (X Y : Nat → Int) (i a b : Int) (h : 0 ≤ i ∧ i < n) (hn : n ≤ 1000) (hX : inB n X) (hY : inB n Y) (hg : gwOk G W) (ha : 0 ≤ a ∧ a ≤ 1) (hb : 0 ≤ b ∧ b ≤ 1) (hr : 0 ≤ rf ∧ rf ≤ 1000000) (hL : 1 ≤ L ∧ L ≤ 10000) : FnC prog 66 [ringC c0 c1 rf c3 c4 c5 c6 W G L c10 c11 n X Y, dI i, dI a, dI b] (bx (ruX1 n X Y G W i a b) (ruY1 n X Y G W i a b) 0 (ruX2 n X Y G W i a b) (ruY2 n X Y G W i a b) (topH rf L)) := by
  refine FnC_owed hmix (A66_ringBox_c c0 c1 rf c3 c4 c5 c6 W G L c10 c11 n X Y i a b) (V := .need [FnC prog (50 : Nat) [(ringBox_cd0 c0 c1 rf c3 c4 c5 c6 W G L c10 c11 n X Y i), (dI i), (dI a)] ((dI (befF n X Y G W i a))), FnC prog (49 : Nat) [(ringBox_cd0 c0 c1 rf c3 c4 c5 c6 W G L c10 c11 n X Y i), (dI i), (dI (befF n X Y G W i a)), (dI G)] (.val (.agg (Array.mk [.int .i64 (atX n X Y i (befF n X Y G W i a) G), .int .i64 (atY n X Y i (befF n X Y G W i a) G)])))] (.need [FnC prog (88 : Nat) [(ringBox_cd0 c0 c1 rf c3 c4 c5 c6 W G L c10 c11 n X Y i), (dI i), (dI b)] ((dI (behF n X Y G W i b))), i64In (G + W), FnC prog (49 : Nat) [(ringBox_cd0 c0 c1 rf c3 c4 c5 c6 W G L c10 c11 n X Y i), (dI i), (dI (behF n X Y G W i b)), (dI (G + W))] (.val (.agg (Array.mk [.int .i64 (atX n X Y i (behF n X Y G W i b) (G + W)), .int .i64 (atY n X Y i (behF n X Y G W i b) (G + W))])))] (.need [FnC prog (101 : Nat) [(ringBox_cd0 c0 c1 rf c3 c4 c5 c6 W G L c10 c11 n X Y i)] ((dI (topH rf L)))] (.done [mins (atX n X Y i (befF n X Y G W i a) G) [atX n X Y i (behF n X Y G W i b) (G + W)] = ruX1 n X Y G W i a b, mins (atY n X Y i (befF n X Y G W i a) G) [atY n X Y i (behF n X Y G W i b) (G + W)] = ruY1 n X Y G W i a b, (0 : Int) = (0 : Int), maxs (atX n X Y i (befF n X Y G W i a) G) [atX n X Y i (behF n X Y G W i b) (G + W)] = ruX2 n X Y G W i a b, maxs (atY n X Y i (befF n X Y G W i a) G) [atY n X Y i (behF n X Y G W i b) (G + W)] = ruY2 n X Y G W i a b, topH rf L = topH rf L])))) (by kernel_rfl) ?_
  simp only [VT.holds, AllT, ringBox_cd0, imp_self, implies_true, and_true, true_and, toNat_succ, toNat_add2, toNat_zero', Int.toNat_natCast, Bool.if_true_left, Bool.if_false_right, Bool.decide_eq_true, Bool.or_eq_true, Bool.or_eq_false_iff, Bool.and_eq_true, Bool.and_eq_false_imp, Bool.not_eq_true', Bool.not_eq_false', Bool.not_not, bne_iff_ne, bne_eq_false_iff_eq, beq_iff_eq, beq_eq_false_iff_ne, decide_eq_true_eq, decide_eq_false_iff_not, ne_eq]
  have b1 := bef_bd (n := n) (X := X) (Y := Y) i hg ha
  have b2 := beh_bd i (by omega) hX hY hg hb
  have hg' := hg
  obtain ⟨g1, g2, g3, g4⟩ := hg'
  exact ⟨⟨before_c _ _ _ _ _ _ _ _ _ _ _ _ _ _ _ _ _ h hg ha, ringAt_c _ _ _ _ _ _ _ _ _ _ _ _ _ _ _ _ _ _ h hX hY (by omega) (by omega)⟩, ⟨behind_c _ _ _ _ _ _ _ _ _ _ _ _ _ _ _ _ _ h hn hX hY hg hb, by unfold i64In; omega, ringAt_c _ _ _ _ _ _ _ _ _ _ _ _ _ _ _ _ _ _ h hX hY (by omega) (by omega)⟩, top_c' _ _ _ _ _ _ _ _ _ _ _ _ _ _ _ hr hL, mins1 _ _, mins1 _ _, maxs1 _ _, maxs1 _ _⟩
noncomputable def A90_reach_c (nB : Nat) (B : Nat → Int) (nO : Nat) (O : Nat → Int) (W G L c : Int) (has : Bool) : Ann := { orc := [], loops := [], cuts := [] }
theorem reach_c (nB : Nat) (B : Nat → Int) (nO : Nat) (O : Nat → Int) (W G L c : Int) (has : Bool) (hg : gwOk G W) : FnC prog 90 [Lay.sys nB B nO O W G L, dI c, dB has] (dI (reaF G W c has)) := by
  refine FnC_owed hmix (A90_reach_c nB B nO O W G L c has) (V := .need [decide (c > (0 : Int)) = true → decide (c > (0 : Int)) = true] (.ite (if decide (c > (0 : Int)) = true then has else false) (.need [i64In (G + W)] (.done [G + W = reaF G W c has])) (.ite (decide (c > (0 : Int))) (.done [G = reaF G W c has]) (.ite has (.need [i64In (-G)] (.done [-G = reaF G W c has])) (.need [i64In (-G), i64In (-G - W)] (.done [-G - W = reaF G W c has])))))) (by kernel_rfl) ?_
  simp only [VT.holds, AllT, imp_self, implies_true, and_true, true_and, toNat_succ, toNat_add2, toNat_zero', Int.toNat_natCast, Bool.if_true_left, Bool.if_false_right, Bool.decide_eq_true, Bool.or_eq_true, Bool.or_eq_false_iff, Bool.and_eq_true, Bool.and_eq_false_imp, Bool.not_eq_true', Bool.not_eq_false', Bool.not_not, bne_iff_ne, bne_eq_false_iff_eq, beq_iff_eq, beq_eq_false_iff_ne, decide_eq_true_eq, decide_eq_false_iff_not, ne_eq]
  obtain ⟨g1, g2, g3, g4⟩ := hg
  unfold reaF i64In
  refine ⟨fun ⟨h1, h2⟩ => ⟨by omega, by rw [if_pos h1, if_pos h2]⟩, fun h1 => ⟨fun h2 => by rw [if_pos h2, if_neg (by rw [h1 h2]; simp)], fun h2 => ⟨fun h3 => ⟨by omega, by rw [if_neg h2, if_pos h3]⟩, fun h3 => ⟨by omega, by rw [if_neg h2, if_neg (by rw [h3]; simp)]⟩⟩⟩⟩
noncomputable def A52_place_c (x y x2 y2 len d al r : Int) : Ann := { orc := [(1, [(2, rSt)]), (2, [(3, .pos), (4, rSt)])], loops := [], cuts := [] }
theorem place_c (x y x2 y2 len d al r : Int) (h : 0 ≤ d ∧ d < 4) (hx : m3 x) (hy : m3 y) (h1 : -9000000 ≤ al ∧ al ≤ 9000000) (h2 : -9000000 ≤ r ∧ r ≤ 9000000) : FnC prog 52 [.val (.agg #[.int .i64 x, .int .i64 y, .int .i64 x2, .int .i64 y2, .int .i64 len, .int .i64 d]), dI al, dI r] (dP (x + al * stX d + r * stX ((d + 3) % 4)) (y + al * stY d + r * stY ((d + 3) % 4))) := by
  refine FnC_owed hmix (A52_place_c x y x2 y2 len d al r) (V := .need [FnC prog (91 : Nat) [(dI d)] (.tup [(dI (stX d)), (dI (stY d))])] (.need [i64In (d + (3 : Int)), (0 : Int) ≤ d + (3 : Int) ∧ (0 : Int) < (4 : Int), FnC prog (91 : Nat) [(dI ((d + (3 : Int)) % (4 : Int)))] (.tup [(dI (stX ((d + (3 : Int)) % (4 : Int)))), (dI (stY ((d + (3 : Int)) % (4 : Int))))])] (.need [i64In (al * stX d), i64In (x + al * stX d), i64In (r * stX ((d + (3 : Int)) % (4 : Int))), i64In (x + al * stX d + r * stX ((d + (3 : Int)) % (4 : Int))), i64In (al * stY d), i64In (y + al * stY d), i64In (r * stY ((d + (3 : Int)) % (4 : Int))), i64In (y + al * stY d + r * stY ((d + (3 : Int)) % (4 : Int)))] (.done [x + al * stX d + r * stX ((d + (3 : Int)) % (4 : Int)) = x + al * stX d + r * stX ((d + (3 : Int)) % (4 : Int)), y + al * stY d + r * stY ((d + (3 : Int)) % (4 : Int)) = y + al * stY d + r * stY ((d + (3 : Int)) % (4 : Int))])))) (by kernel_rfl) ?_
  simp only [VT.holds, AllT, imp_self, implies_true, and_true, true_and, toNat_succ, toNat_add2, toNat_zero', Int.toNat_natCast, Bool.if_true_left, Bool.if_false_right, Bool.decide_eq_true, Bool.or_eq_true, Bool.or_eq_false_iff, Bool.and_eq_true, Bool.and_eq_false_imp, Bool.not_eq_true', Bool.not_eq_false', Bool.not_not, bne_iff_ne, bne_eq_false_iff_eq, beq_iff_eq, beq_eq_false_iff_ne, decide_eq_true_eq, decide_eq_false_iff_not, ne_eq]
  unfold m3 at hx hy
  have h3 : 0 ≤ (d + 3) % 4 ∧ (d + 3) % 4 < 4 := by omega
  obtain ⟨q1, q2⟩ := mul_st h h1
  obtain ⟨q3, q4⟩ := mul_st h3 h2
  refine ⟨step_c _ h, ⟨by unfold i64In; omega, by omega, step_c _ h3⟩, ?_⟩
  unfold i64In; omega
theorem vX0 : stX 0 = 1 := rfl
theorem vX1 : stX 1 = 0 := rfl
theorem vX2 : stX 2 = -1 := rfl
theorem vX3 : stX 3 = 0 := rfl
theorem vY0 : stY 0 = 0 := rfl
theorem vY1 : stY 1 = 1 := rfl
theorem vY2 : stY 2 = 0 := rfl
theorem vY3 : stY 3 = -1 := rfl
theorem pos1 : ((1 : Int) > 0) = True := by simp
theorem neg1 : ((-1 : Int) > 0) = False := by simp
theorem st_r {d : Int} (h : 0 ≤ d ∧ d < 4) : stX ((d + 3) % 4) = stY d ∧ stY ((d + 3) % 4) = -stX d := by
  obtain rfl | rfl | rfl | rfl : d = 0 ∨ d = 1 ∨ d = 2 ∨ d = 3 := by omega
  all_goals exact ⟨rfl, rfl⟩
/-- Where a run begins and ends, as the specification has it. -/
theorem bef_rea {n : Nat} {X Y : Nat → Int} {G W i a : Int} (ha : 0 ≤ a ∧ a ≤ 1) : -reaF G W (corI n X Y i) (decide (a = 1)) = befF n X Y G W i a := by
  unfold reaF befF
  obtain rfl | rfl : a = 0 ∨ a = 1 := by omega
  · rw [show decide ((0 : Int) = 1) = false from rfl, if_neg (show ¬ false = true by simp), if_neg (show ¬ false = true by simp)]
    split <;> omega
  · rw [show decide ((1 : Int) = 1) = true from rfl, if_pos rfl, if_pos rfl]
    split <;> omega
theorem beh_rea {n : Nat} {X Y : Nat → Int} {G W i b : Int} (hb : 0 ≤ b ∧ b ≤ 1) : lenW n X Y i + reaF G W (corI n X Y (i + 1)) (decide (b = 0)) = behF n X Y G W i b := by
  unfold reaF behF
  obtain rfl | rfl : b = 0 ∨ b = 1 := by omega
  · rw [show decide ((0 : Int) = 0) = true from rfl, if_pos rfl, if_pos rfl]
    split <;> omega
  · rw [show decide ((1 : Int) = 0) = false from rfl, if_neg (show ¬ false = true by simp), if_neg (show ¬ false = true by simp)]
    split <;> omega
/-- The box of a run of the outer kind lies between the parallel outlines: its numbers are coordinates, and it is a box. -/
theorem box_in {n : Nat} {X Y : Nat → Int} {G W : Int} (h : chk n X Y = 0) (hg : gwOk G W) (e1 : ofE n X Y G = 0) (e2 : ofE n X Y (G + W) = 0) {i : Nat} (hi : i < n) :
    inF (ruX1 n X Y G W i 1 0) = true ∧ inF (ruY1 n X Y G W i 1 0) = true ∧ inF (ruX2 n X Y G W i 1 0) = true ∧ inF (ruY2 n X Y G W i 1 0) = true ∧ ruX1 n X Y G W i 1 0 < ruX2 n X Y G W i 1 0 ∧ ruY1 n X Y G W i 1 0 < ruY2 n X Y G W i 1 0 := by
  have hn := chk_n h
  obtain ⟨g1, g2, g3, g4⟩ := hg
  obtain ⟨a1, c1⟩ := of_zero e1
  obtain ⟨a2, c2⟩ := of_zero e2
  obtain ⟨p1, p2⟩ := chk_inB c1
  obtain ⟨p3, p4⟩ := chk_inB c2
  have hpos := run_pos (w := W) a1 a2 g1 (by omega) hi
  have hj := ix_lt (n := n) (i := (i : Int) + 1) (by omega)
  have ej : ((ix n ((i : Int) + 1) : Nat) : Int) = ((i : Int) + 1) % n := ix_cast (by omega) _
  have ei : ix n (i : Int) = i := ix_nat hi
  have t1 := turn_cases h hi
  have t2 := turn_cases h hj
  have dj : dD n X Y ((ix n ((i : Int) + 1) : Nat) : Int) = dD n X Y ((i : Int) + 1) := dD_ix (by omega) _
  have dj1 : dD n X Y (((ix n ((i : Int) + 1) : Nat) : Int) - 1) = dD n X Y i := by
    rw [ej]
    refine dD_mod (by omega) ?_
    rw [show ((i : Int) + 1) % (n : Int) - 1 - i = ((i : Int) + 1) % n - (i + 1) by omega]
    exact emod_self_sub _ _
  have cj : corI n X Y ((ix n ((i : Int) + 1) : Nat) : Int) = corI n X Y ((i : Int) + 1) := by
    rw [ej]
    exact corI_mod (by omega) (emod_self_sub _ _)
  rw [dj, dj1, cj] at t2
  obtain ⟨s1, s2, s3⟩ := side_to (dO_of_chk h hi)
  have q1 := p1 i hi
  have q2 := p2 i hi
  have q3 := p3 i hi
  have q4 := p4 i hi
  have r1 := p1 _ hj
  have r2 := p2 _ hj
  have r3 := p3 _ hj
  have r4 := p4 _ hj
  unfold ofX at q1 q3 r1 r3
  unfold ofY at q2 q4 r2 r4
  rw [dj, dj1, s1] at r1 r3
  rw [dj, dj1, s2] at r2 r4
  rw [ei] at r1 r2 r3 r4
  unfold ruX1 ruX2 ruY1 ruY2 atX atY
  rw [ei]
  unfold ruL behF befF at hpos
  unfold behF befF inF
  simp only [decide_eq_true_eq]
  have d0 := dD_range n X Y i
  have d1 := dD_range n X Y ((i : Int) - 1)
  have d2 := dD_range n X Y ((i : Int) + 1)
  generalize dD n X Y (i : Int) = D at *
  generalize dD n X Y ((i : Int) - 1) = D0 at *
  generalize dD n X Y ((i : Int) + 1) = D1 at *
  generalize corI n X Y (i : Int) = C0 at *
  generalize corI n X Y ((i : Int) + 1) = C1 at *
  generalize lenW n X Y (i : Int) = len at *
  generalize X i = x at *
  generalize Y i = y at *
  clear s1 s2 dj dj1 cj ej ei p1 p2 p3 p4 c1 c2 a1 a2 e1 e2 h hj hn hi
  have k0 := st_r (d := D) (by omega)
  have k1 := st_r (d := D0) (by omega)
  have k2 := st_r (d := D1) (by omega)
  rw [k0.1, k1.1] at q1 q3
  rw [k0.1, k2.1] at r1 r3
  rw [k0.2, k1.2] at q2 q4
  rw [k0.2, k2.2] at r2 r4
  clear k0 k1 k2
  rcases t1 with ⟨rfl, t1⟩ | ⟨rfl, t1⟩ <;> rcases t2 with ⟨rfl, t2⟩ | ⟨rfl, t2⟩ <;> simp only [pos1, neg1, if_true, if_false] at hpos ⊢ <;>
  · obtain rfl | rfl | rfl | rfl : D = 0 ∨ D = 1 ∨ D = 2 ∨ D = 3 := by omega
    all_goals
      obtain ⟨rfl⟩ | ⟨rfl⟩ | ⟨rfl⟩ | ⟨rfl⟩ : D0 = 0 ∨ D0 = 1 ∨ D0 = 2 ∨ D0 = 3 := by omega
      all_goals first
        | (exfalso; omega)
        | (obtain ⟨rfl⟩ | ⟨rfl⟩ | ⟨rfl⟩ | ⟨rfl⟩ : D1 = 0 ∨ D1 = 1 ∨ D1 = 2 ∨ D1 = 3 := by omega
           all_goals first
             | (exfalso; omega)
             | (simp only [vX0, vX1, vX2, vX3, vY0, vY1, vY2, vY3] at q1 q2 q3 q4 r1 r2 r3 r4 ⊢
                omega))
end Go.Abs
