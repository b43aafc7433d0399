/- Contracts. -/
import Derived.Test.YtbemjdppfiabgaaK8
set_option linter.unusedVariables false
set_option linter.unusedSimpArgs false
set_option maxRecDepth 100000
namespace Go.Abs
open Go
abbrev ftC (s : Scf) : DV := .clo 90 [.cptr [.lst s.nN (footD s s.nM)]]
/-- Whether something is missing at one of the nodes. -/
def noA (s : Scf) (x : Nat → Int) (j : Nat) : Bool := !ftA s s.nM (x j).toNat
/-- Whether a member has a free end. -/
def frP (s : Scf) (i : Nat) : Bool := if s.K i = 0 then !ftB s s.nM (s.A i).toNat && !ftU s s.nM (s.A i).toNat else decide (0 ≤ ixF (noA s (fun j => endX s (s.K i) (s.A i) (s.B i) j)) (endN (s.K i) (s.A i) (s.B i)))
def frN (s : Scf) : Nat := if chkE s = 0 then flN (frP s) s.nM else 0
abbrev crn_ok (s : Scf) (a b : Int) : Prop := atH s s.nN [s.X b.toNat, s.Y a.toNat, s.Z a.toNat] = true ∧ atH s s.nN [s.X a.toNat, s.Y b.toNat, s.Z a.toNat] = true
theorem nAt_lt {s : Scf} {x y z : Int} : ∀ {n : Nat}, nAt s n x y z < n
  | 0 => by show (-1 : Int) < ((0 : Nat) : Int); decide
  | n + 1 => by
    have := nAt_lt (s := s) (x := x) (y := y) (z := z) (n := n)
    rw [nAt]
    split
    · omega
    · split <;> omega
theorem end_bd {s : Scf} {k a b : Int} (hA : 0 ≤ a ∧ a < s.nN) (hB : 0 ≤ b ∧ b < s.nN) (hk : k = 6 → crn_ok s a b) (j : Nat) : 0 ≤ endX s k a b j ∧ endX s k a b j < s.nN := by
  unfold endX
  split
  · rename_i h6
    obtain ⟨h1, h2⟩ := hk h6
    rw [atH, decide_eq_true_eq] at h1 h2
    unfold crn
    split
    · exact hA
    · split
      · exact ⟨h1, nAt_lt⟩
      · split
        · exact hB
        · exact ⟨h2, nAt_lt⟩
  · split
    · exact hA
    · exact hB
noncomputable def A90_freeC_c (s : Scf) (n : Int) : Ann := { orc := [], loops := [], cuts := [] }
theorem freeC_c (s : Scf) (n : Int) (hn : 0 ≤ n ∧ n < s.nN) : FnC prog 90 [dI n, .cptr [.lst s.nN (footD s s.nM)]] (dB (!ftA s s.nM n.toNat)) := by
  refine FnC_owed hmix (A90_freeC_c s n) (V := .need [(0 : Int) ≤ n ∧ n < (↑s.nN : Int)] (.done [(!ftA s s.nM (Int.toNat n)) = !ftA s s.nM (Int.toNat n)])) (by kernel_rfl) ?_
  simp only [VT.holds, AllT, imp_self, implies_true, and_true, true_and, toNat_succ, toNat_add2, toNat_zero', Int.toNat_natCast, Bool.if_true_left, Bool.if_false_right, Bool.decide_eq_true, Bool.or_eq_true, Bool.or_eq_false_iff, Bool.and_eq_true, Bool.and_eq_false_imp, Bool.not_eq_true', Bool.not_eq_false', Bool.not_not, bne_iff_ne, bne_eq_false_iff_eq, beq_iff_eq, beq_eq_false_iff_ne, decide_eq_true_eq, decide_eq_false_iff_not, ne_eq]
  exact hn
noncomputable def A134_indexI_c (s : Scf) (m : Nat) (x : Nat → Int) : Ann := { orc := [(4, [(5, .res fun q => dB (!ftA s s.nM (aI q 0).toNat))])], loops := [(0, { ι := Nat, keep := [0, 1, 7], boxes := [], ts := fun _ i => [(8, dI (i : Int))], inv := fun _ i => i ≤ m ∧ ∀ j, j < i → noA s x j = false, mu := fun _ i => m - i, rd := fun _ σ => (iOf (σ.get 8)).toNat })], cuts := [] }
theorem indexI_c (s : Scf) (m : Nat) (x : Nat → Int) (hm : m ≤ 1000000) (hx : ∀ j, j < m → 0 ≤ x j ∧ x j < s.nN) : FnC prog 134 [.lst m [fun j => dI (x j)], ftC s] (dI (ixF (noA s x) m)) := by
  refine FnC_owed hmix (A134_indexI_c s m x) (V := .loop Nat (fun a => a ≤ m ∧ ∀ (j : Nat), j < a → noA s x j = false) (Int.toNat (0 : Int)) [(0 : Int) = (↑(Int.toNat (0 : Int)) : Int), m = m, ∀ (i : Nat), i < m → x i = x i, s.nN = s.nN, ∀ (i : Nat), i < s.nN → ftB s s.nM i = ftB s s.nM i, ∀ (i : Nat), i < s.nN → ftU s s.nM i = ftU s s.nM i, ∀ (i : Nat), i < s.nN → ftA s s.nM i = ftA s s.nM i, (↑m : Int) = (↑m : Int)] fun i => .ite (decide ((↑i : Int) < (↑m : Int))) (.need [(0 : Int) ≤ (↑i : Int) ∧ (↑i : Int) < (↑m : Int), FnC prog (90 : FuncId) [(dI (x (Int.toNat (↑i : Int)))), .cptr [.lst s.nN [fun i => (dB (ftB s s.nM i)), fun i => (dB (ftU s s.nM i)), fun i => (dB (ftA s s.nM i))]]] ((dB !ftA s s.nM (Int.toNat (x (Int.toNat (↑i : Int))))))] (.ite (!ftA s s.nM (Int.toNat (x (Int.toNat (↑i : Int))))) (.done [(↑i : Int) = ixF (noA s x) m]) (.need [i64In ((↑i : Int) + (1 : Int))] (.done [(↑i : Int) + (1 : Int) = (↑(Int.toNat ((↑i : Int) + (1 : Int))) : Int), m = m, ∀ (i : Nat), i < m → x i = x i, s.nN = s.nN, ∀ (i : Nat), i < s.nN → ftB s s.nM i = ftB s s.nM i, ∀ (i : Nat), i < s.nN → ftU s s.nM i = ftU s s.nM i, ∀ (i : Nat), i < s.nN → ftA s s.nM i = ftA s s.nM i, (↑m : Int) = (↑m : Int), Int.toNat ((↑i : Int) + (1 : Int)) ≤ m ∧ ∀ (j : Nat), j < Int.toNat ((↑i : Int) + (1 : Int)) → noA s x j = false, m - Int.toNat ((↑i : Int) + (1 : Int)) < m - i])))) (.done [(-1 : Int) = ixF (noA s x) m])) (by kernel_rfl) ?_
  simp only [VT.holds, AllT, imp_self, implies_true, and_true, true_and, toNat_succ, toNat_add2, toNat_zero', Int.toNat_natCast, Bool.if_true_left, Bool.if_false_right, Bool.decide_eq_true, Bool.or_eq_true, Bool.or_eq_false_iff, Bool.and_eq_true, Bool.and_eq_false_imp, Bool.not_eq_true', Bool.not_eq_false', Bool.not_not, bne_iff_ne, bne_eq_false_iff_eq, beq_iff_eq, beq_eq_false_iff_ne, decide_eq_true_eq, decide_eq_false_iff_not, ne_eq]
  refine ⟨rfl, ⟨Nat.zero_le _, fun j hj => absurd hj (Nat.not_lt_zero j)⟩, fun i ⟨hi, hb'⟩ => ⟨fun hlt => ?_, fun hge => ?_⟩⟩
  · have hlt : i < m := by omega
    refine ⟨⟨by omega, freeC_c s _ (hx i hlt)⟩, fun h => ?_, fun h => ⟨by unfold i64In; omega, by omega, ⟨by omega, fun j hj => ?_⟩, by omega⟩⟩
    · exact (ixF_at hb' (by rw [noA, h]; rfl) hlt).symm
    · rcases Nat.lt_or_ge j i with h9 | h9
      · exact hb' j h9
      · obtain rfl : j = i := by omega
        rw [noA, h]; rfl
  · obtain rfl : i = m := by omega
    exact (ixF_none hb').symm
noncomputable def A89_containsI_c (s : Scf) (m : Nat) (x : Nat → Int) : Ann := { orc := [(1, [(2, .res fun q => dI (ixF (noA s x) m))])], loops := [], cuts := [] }
theorem containsI_c (s : Scf) (m : Nat) (x : Nat → Int) (hm : m ≤ 1000000) (hx : ∀ j, j < m → 0 ≤ x j ∧ x j < s.nN) : FnC prog 89 [.lst m [fun j => dI (x j)], ftC s] (dB (decide (0 ≤ ixF (noA s x) m))) := by
  refine FnC_owed hmix (A89_containsI_c s m x) (V := .need [FnC prog (134 : Nat) [.lst m [fun j => (dI (x j))], .clo (90 : FuncId) [.cptr [.lst s.nN [fun i => (dB (ftB s s.nM i)), fun i => (dB (ftU s s.nM i)), fun i => (dB (ftA s s.nM i))]]]] ((dI (ixF (noA s x) m)))] (.done [decide (ixF (noA s x) m ≥ (0 : Int)) = decide ((0 : Int) ≤ ixF (noA s x) m)])) (by kernel_rfl) ?_
  simp only [VT.holds, AllT, imp_self, implies_true, and_true, true_and, toNat_succ, toNat_add2, toNat_zero', Int.toNat_natCast, Bool.if_true_left, Bool.if_false_right, Bool.decide_eq_true, Bool.or_eq_true, Bool.or_eq_false_iff, Bool.and_eq_true, Bool.and_eq_false_imp, Bool.not_eq_true', Bool.not_eq_false', Bool.not_not, bne_iff_ne, bne_eq_false_iff_eq, beq_iff_eq, beq_eq_false_iff_ne, decide_eq_true_eq, decide_eq_false_iff_not, ne_eq]
  exact indexI_c s m x hm hx
noncomputable def A26_Free_c (s : Scf) : Ann := { orc := [(1, [(1, .res fun q => rdD s)]), (4, [(1, .res fun q => .lst s.nN (footD s s.nM))]), (12, [(2, .res fun q => .lst (endN (fI 0 (arg q 1)) (fI 1 (arg q 1)) (fI 2 (arg q 1))) [fun j => dI (endX s (fI 0 (arg q 1)) (fI 1 (arg q 1)) (fI 2 (arg q 1)) j)]), (4, .res fun q => dB (decide (0 ≤ ixF (noA s (fun j => colI 0 (arg q 0) j)) (lenOf (arg q 0)))))])], loops := [(0, { ι := Nat, keep := [1, 4, 6, 22, 23], boxes := [1, 4, 6], ts := fun _ i => [(24, dI (i : Int))], rw := fun _ i => [(7, 1, flN (frP s) i, [fun j => dI (flI (frP s) i j)])], inv := fun _ i => i ≤ s.nM, mu := fun _ i => s.nM - i, rd := fun _ σ => (iOf (σ.get 24)).toNat })], cuts := [] }
noncomputable abbrev q_Free_c_0 (s : Scf) (i : Nat) : Bool := !ftB s s.nM (Int.toNat (s.A (Int.toNat (↑i : Int))))
noncomputable abbrev Free_cd0 (s : Scf) : DV := .agg [.lst s.nN [fun i => (dI (s.X i)), fun i => (dI (s.Y i)), fun i => (dI (s.Z i))], .lst s.nM [fun i => (dI (s.K i)), fun i => (dI (s.A i)), fun i => (dI (s.B i))], DV.mp (KS.ints (3 : Nat)) (fun (l : List Int) => atH s (rdN s) l) fun (l : List Int) => (dI (atL s (rdN s) l))]
noncomputable abbrev Free_cd1 (s : Scf) (i : Nat) : DV := .lst (endN (s.K (Int.toNat (↑i : Int))) (s.A (Int.toNat (↑i : Int))) (s.B (Int.toNat (↑i : Int)))) [fun j => (dI (endX s (s.K (Int.toNat (↑i : Int))) (s.A (Int.toNat (↑i : Int))) (s.B (Int.toNat (↑i : Int))) j))]
noncomputable abbrev Free_cr0 (s : Scf) (r : List Prop) : List Prop := (s.nN = s.nN) :: (∀ (i : Nat), i < s.nN → s.X i = s.X i) :: (∀ (i : Nat), i < s.nN → s.Y i = s.Y i) :: (∀ (i : Nat), i < s.nN → s.Z i = s.Z i) :: (s.nM = s.nM) :: (∀ (i : Nat), i < s.nM → s.K i = s.K i) :: (∀ (i : Nat), i < s.nM → s.A i = s.A i) :: (∀ (i : Nat), i < s.nM → s.B i = s.B i) :: r
noncomputable abbrev Free_cr1 (s : Scf) (r : List Prop) : List Prop := (s.nN = s.nN) :: (∀ (i : Nat), i < s.nN → ftB s s.nM i = ftB s s.nM i) :: (∀ (i : Nat), i < s.nN → ftU s s.nM i = ftU s s.nM i) :: (∀ (i : Nat), i < s.nN → ftA s s.nM i = ftA s s.nM i) :: r
noncomputable abbrev Free_cr2 (s : Scf) (r : List Prop) : List Prop := (s.nM = s.nM) :: (∀ (i : Nat), i < s.nM → s.K i = s.K i) :: (∀ (i : Nat), i < s.nM → s.A i = s.A i) :: (∀ (i : Nat), i < s.nM → s.B i = s.B i) :: ((↑s.nM : Int) = (↑s.nM : Int)) :: r
theorem Free_c (s : Scf)  : FnC prog 26 [scfD s] (.tup [.lst (frN s) [fun j => dI (flI (frP s) s.nM j)], dI (chkE s)]) := by
  refine FnC_owed hmix (A26_Free_c s) (V := .need [FnC prog (74 : Nat) [.agg [.lst s.nN [fun i => (dI (s.X i)), fun i => (dI (s.Y i)), fun i => (dI (s.Z i))], .lst s.nM [fun i => (dI (s.K i)), fun i => (dI (s.A i)), fun i => (dI (s.B i))]]] (.tup [(Free_cd0 s), (dI (chkE s))])] (.ite (chkE s != (0 : Int)) (.done [frN s = (0 : Nat), chkE s = chkE s]) (.need [FnC prog (75 : Nat) [(Free_cd0 s)] (.lst s.nN [fun i => (dB (ftB s s.nM i)), fun i => (dB (ftU s s.nM i)), fun i => (dB (ftA s s.nM i))])] (.loop Nat (fun a => a ≤ s.nM) (Int.toNat (0 : Int)) (((0 : Int) = (↑(Int.toNat (0 : Int)) : Int)) :: (((0 : Nat) = (0 : Nat)) :: ((flN (frP s) (Int.toNat (0 : Int)) = (0 : Nat)) :: (Free_cr2 s ((flN (frP s) (Int.toNat (0 : Int)) = (0 : Nat)) :: (Free_cr0 s (Free_cr0 s ((∀ (l : List Int), atH s (rdN s) l = atH s (rdN s) l) :: ((∀ (l : List Int), atH s (rdN s) l = true → atL s (rdN s) l = atL s (rdN s) l) :: (Free_cr1 s [])))))))))) fun i => .ite (decide ((↑i : Int) < (↑s.nM : Int))) (.need [(0 : Int) ≤ (↑i : Int) ∧ (↑i : Int) < (↑s.nM : Int)] (.ite (s.K (Int.toNat (↑i : Int)) == (0 : Int)) (.need [(0 : Int) ≤ s.A (Int.toNat (↑i : Int)) ∧ s.A (Int.toNat (↑i : Int)) < (↑s.nN : Int), (q_Free_c_0 s i) = true → (q_Free_c_0 s i) = true, (q_Free_c_0 s i) = true → (q_Free_c_0 s i) = true, (q_Free_c_0 s i) = true → (q_Free_c_0 s i) = true, (q_Free_c_0 s i) = true → (0 : Int) ≤ s.A (Int.toNat (↑i : Int)) ∧ s.A (Int.toNat (↑i : Int)) < (↑s.nN : Int), (q_Free_c_0 s i) = true → (q_Free_c_0 s i) = true, (q_Free_c_0 s i) = true → (q_Free_c_0 s i) = true, (q_Free_c_0 s i) = true → (q_Free_c_0 s i) = true, (q_Free_c_0 s i) = true → (q_Free_c_0 s i) = true] (.ite (if (q_Free_c_0 s i) = true then !ftU s s.nM (Int.toNat (s.A (Int.toNat (↑i : Int)))) else false) (.need [flN (frP s) i ≤ flN (frP s) i, (flN (frP s) i + (1 : Nat)) * (nat_lit 7 + (1 : Nat)) ≤ (140737488355328 : Nat), (1 : Nat) ≤ (1 : Nat)] (.need [i64In ((↑i : Int) + (1 : Int))] (.done (((↑i : Int) + (1 : Int) = (↑(Int.toNat ((↑i : Int) + (1 : Int))) : Int)) :: (((0 : Nat) = (0
     : Nat)) :: ((flN (frP s) i + (1 : Nat) = flN (frP s) (Int.toNat ((↑i : Int) + (1 : Int)))) :: (Free_cr2 s ((flN (frP s) i + (1 : Nat) = flN (frP s) (Int.toNat ((↑i : Int) + (1 : Int)))) :: ((∀ (i_1 : Nat), i_1 < flN (frP s) (Int.toNat ((↑i : Int) + (1 : Int))) → (if decide (i_1 < flN (frP s) i) = true then (↑(flI (frP s) i i_1) : Int) else (↑i : Int)) = (↑(flI (frP s) (Int.toNat ((↑i : Int) + (1 : Int))) i_1) : Int)) :: (Free_cr0 s (Free_cr0 s ((∀ (l : List Int), atH s (rdN s) l = atH s (rdN s) l) :: ((∀ (l : List Int), atH s (rdN s) l = true → atL s (rdN s) l = atL s (rdN s) l) :: (Free_cr1 s [Int.toNat ((↑i : Int) + (1 : Int)) ≤ s.nM, s.nM - Int.toNat ((↑i : Int) + (1 : Int)) < s.nM - i])))))))))))))) (.need [i64In ((↑i : Int) + (1 : Int))] (.done (((↑i : Int) + (1 : Int) = (↑(Int.toNat ((↑i : Int) + (1 : Int))) : Int)) :: (((0 : Nat) = (0 : Nat)) :: ((flN (frP s) i = flN (frP s) (Int.toNat ((↑i : Int) + (1 : Int)))) :: (Free_cr2 s ((flN (frP s) i = flN (frP s) (Int.toNat ((↑i : Int) + (1 : Int)))) :: ((∀ (i_1 : Nat), i_1 < flN (frP s) (Int.toNat ((↑i : Int) + (1 : Int))) → (↑(flI (frP s) i i_1) : Int) = (↑(flI (frP s) (Int.toNat ((↑i : Int) + (1 : Int))) i_1) : Int)) :: (Free_cr0 s (Free_cr0 s ((∀ (l : List Int), atH s (rdN s) l = atH s (rdN s) l) :: ((∀ (l : List Int), atH s (rdN s) l = true → atL s (rdN s) l = atL s (rdN s) l) :: (Free_cr1 s [Int.toNat ((↑i : Int) + (1 : Int)) ≤ s.nM, s.nM - Int.toNat ((↑i : Int) + (1 : Int)) < s.nM - i]))))))))))))))) (.need [FnC prog (78 : Nat) [(Free_cd0 s), .val (.agg (Array.mk [.int .i64 (s.K (Int.toNat (↑i : Int))), .int .i64 (s.A (Int.toNat (↑i : Int))), .int .i64 (s.B (Int.toNat (↑i : Int)))]))] ((Free_cd1 s i)), FnC prog (89 : Nat) [(Free_cd1 s i), .clo (90 : Nat) [.cptr [.lst s.nN [fun i => (dB (ftB s s.nM i)), fun i => (dB (ftU s s.nM i)), fun i => (dB (ftA s s.nM i))]]]] ((dB (decide ((0 : Int) ≤ ixF (noA s (endX s (s.K (Int.toNat (↑i : Int))) (s.A (Int.toNat (↑i : Int))) (s.B (Int.toNat (↑i : Int))))) (endN (s.K
     (Int.toNat (↑i : Int))) (s.A (Int.toNat (↑i : Int))) (s.B (Int.toNat (↑i : Int))))))))] (.ite (decide ((0 : Int) ≤ ixF (noA s (endX s (s.K (Int.toNat (↑i : Int))) (s.A (Int.toNat (↑i : Int))) (s.B (Int.toNat (↑i : Int))))) (endN (s.K (Int.toNat (↑i : Int))) (s.A (Int.toNat (↑i : Int))) (s.B (Int.toNat (↑i : Int)))))) (.need [flN (frP s) i ≤ flN (frP s) i, (flN (frP s) i + (1 : Nat)) * (nat_lit 7 + (1 : Nat)) ≤ (140737488355328 : Nat), (1 : Nat) ≤ (1 : Nat)] (.need [i64In ((↑i : Int) + (1 : Int))] (.done (((↑i : Int) + (1 : Int) = (↑(Int.toNat ((↑i : Int) + (1 : Int))) : Int)) :: (((0 : Nat) = (0 : Nat)) :: ((flN (frP s) i + (1 : Nat) = flN (frP s) (Int.toNat ((↑i : Int) + (1 : Int)))) :: (Free_cr2 s ((flN (frP s) i + (1 : Nat) = flN (frP s) (Int.toNat ((↑i : Int) + (1 : Int)))) :: ((∀ (i_1 : Nat), i_1 < flN (frP s) (Int.toNat ((↑i : Int) + (1 : Int))) → (if decide (i_1 < flN (frP s) i) = true then (↑(flI (frP s) i i_1) : Int) else (↑i : Int)) = (↑(flI (frP s) (Int.toNat ((↑i : Int) + (1 : Int))) i_1) : Int)) :: (Free_cr0 s (Free_cr0 s ((∀ (l : List Int), atH s (rdN s) l = atH s (rdN s) l) :: ((∀ (l : List Int), atH s (rdN s) l = true → atL s (rdN s) l = atL s (rdN s) l) :: (Free_cr1 s [Int.toNat ((↑i : Int) + (1 : Int)) ≤ s.nM, s.nM - Int.toNat ((↑i : Int) + (1 : Int)) < s.nM - i])))))))))))))) (.need [i64In ((↑i : Int) + (1 : Int))] (.done (((↑i : Int) + (1 : Int) = (↑(Int.toNat ((↑i : Int) + (1 : Int))) : Int)) :: (((0 : Nat) = (0 : Nat)) :: ((flN (frP s) i = flN (frP s) (Int.toNat ((↑i : Int) + (1 : Int)))) :: (Free_cr2 s ((flN (frP s) i = flN (frP s) (Int.toNat ((↑i : Int) + (1 : Int)))) :: ((∀ (i_1 : Nat), i_1 < flN (frP s) (Int.toNat ((↑i : Int) + (1 : Int))) → (↑(flI (frP s) i i_1) : Int) = (↑(flI (frP s) (Int.toNat ((↑i : Int) + (1 : Int))) i_1) : Int)) :: (Free_cr0 s (Free_cr0 s ((∀ (l : List Int), atH s (rdN s) l = atH s (rdN s) l) :: ((∀ (l : List Int), atH s (rdN s) l = true → atL s (rdN s) l = atL s (rdN s) l) :: (Free_cr1 s [Int.toNat ((↑i : Int) + (1
     : Int)) ≤ s.nM, s.nM - Int.toNat ((↑i : Int) + (1 : Int)) < s.nM - i]))))))))))))))))) (.done [flN (frP s) i ≤ flN (frP s) i, flN (frP s) i = frN s, ∀ (i_1 : Nat), i_1 < frN s → (↑(flI (frP s) i i_1) : Int) = (↑(flI (frP s) s.nM i_1) : Int), (0 : Int) = chkE s]))))) (by kernel_rfl) ?_
  simp only [q_Free_c_0, VT.holds, AllT, imp_self, implies_true, and_true, true_and, toNat_succ, toNat_add2, toNat_zero', Int.toNat_natCast, Bool.if_true_left, Bool.if_false_right, Bool.decide_eq_true, Bool.or_eq_true, Bool.or_eq_false_iff, Bool.and_eq_true, Bool.and_eq_false_imp, Bool.not_eq_true', Bool.not_eq_false', Bool.not_not, bne_iff_ne, bne_eq_false_iff_eq, beq_iff_eq, beq_eq_false_iff_ne, decide_eq_true_eq, decide_eq_false_iff_not, ne_eq]
  refine ⟨read_c s, fun h => by rw [frN, if_neg h], fun h0 => ⟨(by rw [rdN_ok h0]; exact feet_c s (chk_facts h0) : FnC prog 75 [frmD s (rdN s)] (.lst s.nN (footD s s.nM))), ⟨rfl, rfl, rfl⟩, Nat.zero_le _, fun i hi => ⟨fun hlt => ?_, fun hge => ?_⟩⟩⟩
  · have hc := chk_facts h0
    have hm := hc.nM
    have hlt : i < s.nM := by omega
    obtain ⟨hA, hB⟩ := hc.ends i hlt
    have hle := flN_le (frP s) i
    have i64 : i64In ((i : Int) + 1) := by unfold i64In; omega
    refine ⟨by omega, fun h => ?_, fun h => ?_⟩
    · have e : frP s i = (!ftB s s.nM (s.A i).toNat && !ftU s s.nM (s.A i).toNat) := by rw [frP, if_pos h]
      refine ⟨⟨hA, fun _ => hA⟩, fun h1 => ?_, fun h1 => ?_⟩
      · have hp : frP s i = true := by rw [e, h1.1, h1.2]; rfl
        exact ⟨⟨Nat.le_refl _, by omega, Nat.le_refl _⟩, i64, by omega, (flN_yes hp).symm, (flN_yes hp).symm, fun q hq => flI_yes' hp (fun q : Nat => (q : Int)) hq, by omega, by omega⟩
      · have hp : ¬ frP s i = true := by
          rw [e, Bool.and_eq_true, Bool.not_eq_true', Bool.not_eq_true']
          intro h2
          have := h1 h2.1
          rw [h2.2] at this; cases this
        exact ⟨i64, by omega, (flN_no hp).symm, (flN_no hp).symm, fun q _ => by rw [flI_no hp], by omega, by omega⟩
    · have e : frP s i = decide (0 ≤ ixF (noA s (fun j => endX s (s.K i) (s.A i) (s.B i) j)) (endN (s.K i) (s.A i) (s.B i))) := by rw [frP, if_neg h]
      have hr := hc.right i hlt
      have hk : s.K i = 6 → crn_ok s (s.A i) (s.B i) := fun h6 => by rw [h6] at hr; exact (rgt6 hr).2
      have hx : ∀ j, j < endN (s.K i) (s.A i) (s.B i) → 0 ≤ endX s (s.K i) (s.A i) (s.B i) j ∧ endX s (s.K i) (s.A i) (s.B i) j < s.nN := fun j _ => end_bd hA hB hk j
      have hN : endN (s.K i) (s.A i) (s.B i) ≤ 1000000 := by
        unfold endN
        split
        · decide
        · split <;> decide
      have e78 : FnC prog 78 [frmD s (rdN s), dM (s.K i) (s.A i) (s.B i)] (.lst (endN (s.K i) (s.A i) (s.B i)) [fun j => dI (endX s (s.K i) (s.A i) (s.B i) j)]) := by rw [rdN_ok h0]; exact nodes_c s _ _ _ hA hB hk
      refine ⟨⟨e78, containsI_c s _ _ hN hx⟩, fun h1 => ?_, fun h1 => ?_⟩
      · have hp : frP s i = true := by rw [e]; exact decide_eq_true h1
        exact ⟨⟨Nat.le_refl _, by omega, Nat.le_refl _⟩, i64, by omega, (flN_yes hp).symm, (flN_yes hp).symm, fun q hq => flI_yes' hp (fun q : Nat => (q : Int)) hq, by omega, by omega⟩
      · have hp : ¬ frP s i = true := by rw [e, decide_eq_true_eq]; exact h1
        exact ⟨i64, by omega, (flN_no hp).symm, (flN_no hp).symm, fun q _ => by rw [flI_no hp], by omega, by omega⟩
  · obtain rfl : i = s.nM := by omega
    have e : frN s = flN (frP s) s.nM := by rw [frN, if_pos h0]
    exact ⟨Nat.le_refl _, e.symm, fun _ _ => rfl, h0.symm⟩
end Go.Abs
