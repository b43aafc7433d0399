/- Contracts. -/
import Derived.Test.YtbemjdppfiabgaaK18
set_option linter.unusedVariables false
set_option linter.unusedSimpArgs false
set_option maxRecDepth 100000
namespace Go.Abs
open Go
abbrev fS (d : DV) : ByteArray := match fD 0 d with
  | .val (.string s) => s
  | _ => ⟨#[]⟩
def nmP (c : Cat) (s : ByteArray) (j : Nat) : Bool := decide (c.nm j = s)
def fdX (c : Cat) (s : ByteArray) : Int := ixF (nmP c s) c.n
def fdE (c : Cat) (s : ByteArray) : Int := if ctE c ≠ 0 then ctE c else if fdX c s < 0 then 6 else 0
def fdI (c : Cat) (s : ByteArray) : Int := if ctE c ≠ 0 then 0 else if fdX c s < 0 then 0 else fdX c s
theorem str_beq (x y : ByteArray) : (x.toList == y.toList) = decide (x = y) := by
  by_cases h : x = y
  · rw [decide_eq_true h, h]; simp
  · rw [decide_eq_false h]
    cases e : x.toList == y.toList with
    | false => rfl
    | true => exact absurd (str_eq (by simpa using e)) h
theorem ct_n {c : Cat} (h : ctE c = 0) : c.n ≤ 60 := by
  rw [ctE] at h
  split at h
  · cases h
  · omega
noncomputable def A103_findC_c (s : ByteArray) (k q m t e0 e1 : Int) (name : ByteArray) : Ann := { orc := [], loops := [], cuts := [] }
theorem findC_c (s : ByteArray) (k q m t e0 e1 : Int) (name : ByteArray)  : FnC prog 103 [ptD s k q m t e0 e1, .cptr [dS name]] (dB (decide (s = name))) := by
  refine FnC_owed hmix (A103_findC_c s k q m t e0 e1 name) (V := .done [(ByteArray.toList s == ByteArray.toList name) = decide (s = name)]) (by kernel_rfl) ?_
  simp only [VT.holds, AllT, imp_self, implies_true, and_true, true_and, toNat_succ, toNat_add2, toNat_zero', Int.toNat_natCast, Bool.if_true_left, Bool.if_false_right, Bool.decide_eq_true, Bool.or_eq_true, Bool.or_eq_false_iff, Bool.and_eq_true, Bool.and_eq_false_imp, Bool.not_eq_true', Bool.not_eq_false', Bool.not_not, bne_iff_ne, bne_eq_false_iff_eq, beq_iff_eq, beq_eq_false_iff_ne, decide_eq_true_eq, decide_eq_false_iff_not, ne_eq]
  exact str_beq _ _
noncomputable def A102_indexP_c (c : Cat) (s : ByteArray) : Ann := { orc := [(4, [(5, .res fun q => dB (decide (fS (arg q 0) = s)))])], loops := [(0, { ι := Nat, keep := [0, 1, 7], boxes := [], ts := fun _ i => [(8, dI (i : Int))], inv := fun _ i => i ≤ c.n ∧ ∀ j, j < i → nmP c s j = false, mu := fun _ i => c.n - i, rd := fun _ σ => (iOf (σ.get 8)).toNat })], cuts := [] }
noncomputable abbrev indexP_cr0 (c : Cat) (s : ByteArray) (r : List Prop) : List Prop := (c.n = c.n) :: (∀ (i : Nat), i < c.n → c.nm i = c.nm i) :: (∀ (i : Nat), i < c.n → c.K i = c.K i) :: (∀ (i : Nat), i < c.n → c.Q i = c.Q i) :: (∀ (i : Nat), i < c.n → c.M i = c.M i) :: (∀ (i : Nat), i < c.n → c.T i = c.T i) :: (∀ (i : Nat), i < c.n → c.E0 i = c.E0 i) :: (∀ (i : Nat), i < c.n → c.E1 i = c.E1 i) :: (s = s) :: ((↑c.n : Int) = (↑c.n : Int)) :: r
theorem indexP_c (c : Cat) (s : ByteArray) (hn : c.n ≤ 1000000) : FnC prog 102 [prtsD c, .clo 103 [.cptr [dS s]]] (dI (fdX c s)) := by
  refine FnC_owed hmix (A102_indexP_c c s) (V := .loop Nat (fun a => a ≤ c.n ∧ ∀ (j : Nat), j < a → nmP c s j = false) (Int.toNat (0 : Int)) (((0 : Int) = (↑(Int.toNat (0 : Int)) : Int)) :: (indexP_cr0 c s [])) fun i => .ite (decide ((↑i : Int) < (↑c.n : Int))) (.need [(0 : Int) ≤ (↑i : Int) ∧ (↑i : Int) < (↑c.n : Int), FnC prog (103 : FuncId) [.val (.agg (Array.mk [.string (c.nm (Int.toNat (↑i : Int))), .int .i64 (c.K (Int.toNat (↑i : Int))), .int .i64 (c.Q (Int.toNat (↑i : Int))), .int .i64 (c.M (Int.toNat (↑i : Int))), .int .i64 (c.T (Int.toNat (↑i : Int))), .int .i64 (c.E0 (Int.toNat (↑i : Int))), .int .i64 (c.E1 (Int.toNat (↑i : Int)))])), .cptr [.val (.string s)]] ((dB (decide (c.nm (Int.toNat (↑i : Int)) = s))))] (.ite (decide (c.nm (Int.toNat (↑i : Int)) = s)) (.done [(↑i : Int) = fdX c s]) (.need [i64In ((↑i : Int) + (1 : Int))] (.done (((↑i : Int) + (1 : Int) = (↑(Int.toNat ((↑i : Int) + (1 : Int))) : Int)) :: (indexP_cr0 c s [Int.toNat ((↑i : Int) + (1 : Int)) ≤ c.n ∧ ∀ (j : Nat), j < Int.toNat ((↑i : Int) + (1 : Int)) → nmP c s j = false, c.n - Int.toNat ((↑i : Int) + (1 : Int)) < c.n - i])))))) (.done [(-1 : Int) = fdX c s])) (by kernel_rfl) ?_
  simp only [VT.holds, AllT, indexP_cr0, imp_self, implies_true, and_true, true_and, toNat_succ, toNat_add2, toNat_zero', Int.toNat_natCast, Bool.if_true_left, Bool.if_false_right, Bool.decide_eq_true, Bool.or_eq_true, Bool.or_eq_false_iff, Bool.and_eq_true, Bool.and_eq_false_imp, Bool.not_eq_true', Bool.not_eq_false', Bool.not_not, bne_iff_ne, bne_eq_false_iff_eq, beq_iff_eq, beq_eq_false_iff_ne, decide_eq_true_eq, decide_eq_false_iff_not, ne_eq]
  refine ⟨rfl, ⟨Nat.zero_le _, fun j hj => absurd hj (Nat.not_lt_zero j)⟩, fun i ⟨hi, hb'⟩ => ⟨fun hlt => ?_, fun hge => ?_⟩⟩
  · have hlt : i < c.n := by omega
    refine ⟨⟨by omega, findC_c _ _ _ _ _ _ _ _⟩, fun h => ?_, fun h => ⟨by unfold i64In; omega, by omega, ⟨by omega, fun j hj => ?_⟩, by omega⟩⟩
    · exact (ixF_at hb' (decide_eq_true h) hlt).symm
    · rcases Nat.lt_or_ge j i with h9 | h9
      · exact hb' j h9
      · obtain rfl : j = i := by omega
        exact decide_eq_false h
  · obtain rfl : i = c.n := by omega
    exact (ixF_none hb').symm
noncomputable def A41_Find_c (c : Cat) (s : ByteArray) : Ann := { orc := [(1, [(1, .res fun q => dI (ctE c))]), (4, [(3, .res fun q => dI (fdX c s))])], loops := [], cuts := [] }
theorem Find_c (c : Cat) (s : ByteArray)  : FnC prog 41 [catD c, dS s] (.tup [dI (fdI c s), dI (fdE c s)]) := by
  refine FnC_owed hmix (A41_Find_c c s) (V := .need [FnC prog (42 : Nat) [.agg [.lst c.n [fun i => .val (.string (c.nm i)), fun i => (dI (c.K i)), fun i => (dI (c.Q i)), fun i => (dI (c.M i)), fun i => (dI (c.T i)), fun i => (dI (c.E0 i)), fun i => (dI (c.E1 i))], .lst c.m [fun i => (dI (c.P0 i)), fun i => (dI (c.P1 i))]]] ((dI (ctE c)))] (.ite (ctE c != (0 : Int)) (.done [(0 : Int) = fdI c s, ctE c = fdE c s]) (.need [FnC prog (102 : Nat) [.lst c.n [fun i => .val (.string (c.nm i)), fun i => (dI (c.K i)), fun i => (dI (c.Q i)), fun i => (dI (c.M i)), fun i => (dI (c.T i)), fun i => (dI (c.E0 i)), fun i => (dI (c.E1 i))], .clo (103 : Nat) [.cptr [.val (.string s)]]] ((dI (fdX c s)))] (.ite (decide (fdX c s < (0 : Int))) (.done [(0 : Int) = fdI c s, (6 : Int) = fdE c s]) (.done [fdX c s = fdI c s, (0 : Int) = fdE c s]))))) (by kernel_rfl) ?_
  simp only [VT.holds, AllT, imp_self, implies_true, and_true, true_and, toNat_succ, toNat_add2, toNat_zero', Int.toNat_natCast, Bool.if_true_left, Bool.if_false_right, Bool.decide_eq_true, Bool.or_eq_true, Bool.or_eq_false_iff, Bool.and_eq_true, Bool.and_eq_false_imp, Bool.not_eq_true', Bool.not_eq_false', Bool.not_not, bne_iff_ne, bne_eq_false_iff_eq, beq_iff_eq, beq_eq_false_iff_ne, decide_eq_true_eq, decide_eq_false_iff_not, ne_eq]
  refine ⟨checkCat_c c, fun h => ⟨by rw [fdI, if_pos h], by rw [fdE, if_pos h]⟩, fun h => ⟨indexP_c c s (by have := ct_n h; omega), fun h2 => ⟨by rw [fdI, if_neg (by rw [h]; decide), if_pos h2], by rw [fdE, if_neg (by rw [h]; decide), if_pos h2]⟩, fun h2 => ⟨by rw [fdI, if_neg (by rw [h]; decide), if_neg h2], by rw [fdE, if_neg (by rw [h]; decide), if_neg h2]⟩⟩⟩
noncomputable def A43_findR_c (c : Cat) (s : ByteArray) : Ann := { orc := [], loops := [(0, { ι := Nat, keep := [1, 2], boxes := [2], ts := fun _ i => [(5, dI (i : Int))], inv := fun _ i => i ≤ c.n ∧ ∀ j, j < i → nmP c s j = false, mu := fun _ i => c.n - i, rd := fun _ σ => (iOf (σ.get 5)).toNat })], cuts := [] }
noncomputable abbrev findR_cr0 (c : Cat) (r : List Prop) : List Prop := (c.n = c.n) :: (∀ (i : Nat), i < c.n → c.nm i = c.nm i) :: (∀ (i : Nat), i < c.n → c.K i = c.K i) :: (∀ (i : Nat), i < c.n → c.Q i = c.Q i) :: (∀ (i : Nat), i < c.n → c.M i = c.M i) :: (∀ (i : Nat), i < c.n → c.T i = c.T i) :: (∀ (i : Nat), i < c.n → c.E0 i = c.E0 i) :: (∀ (i : Nat), i < c.n → c.E1 i = c.E1 i) :: (c.m = c.m) :: (∀ (i : Nat), i < c.m → c.P0 i = c.P0 i) :: (∀ (i : Nat), i < c.m → c.P1 i = c.P1 i) :: r
theorem findR_c (c : Cat) (s : ByteArray) (hn : c.n ≤ 1000000) : FnC prog 43 [catD c, dS s] (dI (fdX c s)) := by
  refine FnC_owed hmix (A43_findR_c c s) (V := .loop Nat (fun a => a ≤ c.n ∧ ∀ (j : Nat), j < a → nmP c s j = false) (Int.toNat (0 : Int)) (((0 : Int) = (↑(Int.toNat (0 : Int)) : Int)) :: ((s = s) :: (findR_cr0 c []))) fun i => .ite (decide ((↑i : Int) < (↑c.n : Int))) (.need [(0 : Int) ≤ (↑i : Int) ∧ (↑i : Int) < (↑c.n : Int)] (.ite (ByteArray.toList (c.nm (Int.toNat (↑i : Int))) == ByteArray.toList s) (.done [(↑i : Int) = fdX c s]) (.need [i64In ((↑i : Int) + (1 : Int))] (.done (((↑i : Int) + (1 : Int) = (↑(Int.toNat ((↑i : Int) + (1 : Int))) : Int)) :: ((s = s) :: (findR_cr0 c [Int.toNat ((↑i : Int) + (1 : Int)) ≤ c.n ∧ ∀ (j : Nat), j < Int.toNat ((↑i : Int) + (1 : Int)) → nmP c s j = false, c.n - Int.toNat ((↑i : Int) + (1 : Int)) < c.n - i]))))))) (.done [(-1 : Int) = fdX c s])) (by kernel_rfl) ?_
  simp only [VT.holds, AllT, findR_cr0, imp_self, implies_true, and_true, true_and, toNat_succ, toNat_add2, toNat_zero', Int.toNat_natCast, Bool.if_true_left, Bool.if_false_right, Bool.decide_eq_true, Bool.or_eq_true, Bool.or_eq_false_iff, Bool.and_eq_true, Bool.and_eq_false_imp, Bool.not_eq_true', Bool.not_eq_false', Bool.not_not, bne_iff_ne, bne_eq_false_iff_eq, beq_iff_eq, beq_eq_false_iff_ne, decide_eq_true_eq, decide_eq_false_iff_not, ne_eq]
  refine ⟨rfl, ⟨Nat.zero_le _, fun j hj => absurd hj (Nat.not_lt_zero j)⟩, fun i ⟨hi, hb'⟩ => ⟨fun hlt => ?_, fun hge => ?_⟩⟩
  · have hlt : i < c.n := by omega
    refine ⟨by omega, fun h => ?_, fun h => ⟨by unfold i64In; omega, by omega, ⟨by omega, fun j hj => ?_⟩, by omega⟩⟩
    · exact (ixF_at hb' (decide_eq_true (str_eq h)) hlt).symm
    · rcases Nat.lt_or_ge j i with h9 | h9
      · exact hb' j h9
      · obtain rfl : j = i := by omega
        exact decide_eq_false fun e => h (by rw [e])
  · obtain rfl : i = c.n := by omega
    exact (ixF_none hb').symm
noncomputable def A8_catalogues_c (c : Cat) (s : ByteArray) : Ann := { orc := [(1, [(0, .res fun _ => dB true)]), (3, [(1, .res fun _ => dB (decide (c.n ≤ 70 ∧ c.m ≤ 210)))]), (5, [(1, .res fun _ => dI (ctE c))]), (6, [(2, .res fun _ => .tup [dI (fdI c s), dI (fdE c s)])]), (7, [(1, .res fun _ => dI (ctE c))]), (11, [(2, .res fun _ => dI (fdX c s))])], loops := [], cuts := [] }
noncomputable abbrev catalogues_cd0 (c : Cat) : DV := .agg [.lst c.n [fun i => .val (.string (c.nm i)), fun i => (dI (c.K i)), fun i => (dI (c.Q i)), fun i => (dI (c.M i)), fun i => (dI (c.T i)), fun i => (dI (c.E0 i)), fun i => (dI (c.E1 i))], .lst c.m [fun i => (dI (c.P0 i)), fun i => (dI (c.P1 i))]]
theorem catalogues_c (c : Cat) (s : ByteArray)  : FnC prog 8 [catD c, dS s] (dB true) := by
  refine FnC_owed hmix (A8_catalogues_c c s) (V := .need [FnC prog (15 : Nat) [] ((dB true))] (.ite (!true) (.done [false = true]) (.need [FnC prog (39 : Nat) [(catalogues_cd0 c)] ((dB (decide (c.n ≤ (70 : Nat) ∧ c.m ≤ (210 : Nat)))))] (.ite (!decide (c.n ≤ (70 : Nat) ∧ c.m ≤ (210 : Nat))) (.done [true = true]) (.need [FnC prog (40 : Nat) [(catalogues_cd0 c)] ((dI (ctE c)))] (.need [FnC prog (41 : Nat) [(catalogues_cd0 c), .val (.string s)] (.tup [(dI (fdI c s)), (dI (fdE c s))])] (.need [FnC prog (42 : Nat) [(catalogues_cd0 c)] ((dI (ctE c)))] (.ite (ctE c != ctE c) (.done [false = true]) (.ite (ctE c != (0 : Int)) (.need [(fdE c s == ctE c) = true → (fdE c s == ctE c) = true, (fdE c s == ctE c) = true → (fdE c s == ctE c) = true] (.done [(if (fdE c s == ctE c) = true then fdI c s == (0 : Int) else false) = true])) (.need [FnC prog (43 : Nat) [(catalogues_cd0 c), .val (.string s)] ((dI (fdX c s)))] (.ite (decide (fdX c s < (0 : Int))) (.need [(fdE c s == (6 : Int)) = true → (fdE c s == (6 : Int)) = true, (fdE c s == (6 : Int)) = true → (fdE c s == (6 : Int)) = true] (.done [(if (fdE c s == (6 : Int)) = true then fdI c s == (0 : Int) else false) = true])) (.need [(fdE c s == (0 : Int)) = true → (fdE c s == (0 : Int)) = true, (fdE c s == (0 : Int)) = true → (fdE c s == (0 : Int)) = true, (fdE c s == (0 : Int)) = true → (fdE c s == (0 : Int)) = true] (.done [(if (fdE c s == (0 : Int)) = true then fdI c s == fdX c s else false) = true]))))))))))))) (by kernel_rfl) ?_
  simp only [VT.holds, AllT, catalogues_cd0, imp_self, implies_true, and_true, true_and, toNat_succ, toNat_add2, toNat_zero', Int.toNat_natCast, Bool.if_true_left, Bool.if_false_right, Bool.decide_eq_true, Bool.or_eq_true, Bool.or_eq_false_iff, Bool.and_eq_true, Bool.and_eq_false_imp, Bool.not_eq_true', Bool.not_eq_false', Bool.not_not, bne_iff_ne, bne_eq_false_iff_eq, beq_iff_eq, beq_eq_false_iff_ne, decide_eq_true_eq, decide_eq_false_iff_not, ne_eq]
  refine ⟨awake_c, fun h => (by cases h), fun _ => ⟨short_c c, fun ⟨h1, h2⟩ => ⟨checkCatR_c c, Find_c c s, checkCat_c c, fun h => absurd trivial h, fun _ => ⟨fun h => ⟨by rw [fdE, if_pos h], by rw [fdI, if_pos h]⟩, fun h => ⟨findR_c c s (by omega), fun h2 => ⟨by rw [fdE, if_neg (by rw [h]; decide), if_pos h2], by rw [fdI, if_neg (by rw [h]; decide), if_pos h2]⟩, fun h2 => ⟨by rw [fdE, if_neg (by rw [h]; decide), if_neg h2], by rw [fdI, if_neg (by rw [h]; decide), if_neg h2]⟩⟩⟩⟩⟩⟩
end Go.Abs
