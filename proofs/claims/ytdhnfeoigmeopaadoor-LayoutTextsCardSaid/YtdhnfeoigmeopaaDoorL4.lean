/- Contracts. -/
import Derived.Test.YtdhnfeoigmeopaaDoorL3
import Derived.Test.YtdhnfeoigmeopaaDoorLm
set_option maxRecDepth 100000
namespace Go.Abs
open Go
abbrev part3 (X C : Nat → Int) (b : Nat → Bool) : List (Nat → DV) := [fun i => .val (.int .i64 (X i)), fun i => .val (.int .i64 (C i)), fun i => .val (.bool (b i))]
def rGcd : Orc := .res fun l => dI (Int.gcd (aI l 0) (aI l 1))
abbrev catD (u : Int) (n : Nat) (X C : Nat → Int) (b : Nat → Bool) : DV := .agg [dI u, .lst n (part3 X C b)]
abbrev catS (nB : Nat) (B : Nat → Int) (nO : Nat) (O : Nat → Int) : DV := catD (unitP nB B nO O (nB + nO)) (nB + nO) (pLen nB B nO O) (pCode nB) (fun i => decide (nB ≤ i))
theorem range_getD {n i : Nat} (h : i < n) : (List.range n).getD i 0 = i := by simp [h]
theorem snoc_getD {l : List Nat} {x i : Nat} (h : i < (l ++ [x]).length) : (l ++ [x]).getD i 0 = if i < l.length then l.getD i 0 else x := by
  simp only [List.length_append, List.length_cons, List.length_nil] at h
  split
  · rename_i h1
    simp [List.getElem?_append_left h1]
  · rw [show i = l.length by omega]; simp
theorem unitP_succ (nB : Nat) (B : Nat → Int) (nO : Nat) (O : Nat → Int) (i : Nat) : Int.gcd (pLen nB B nO O i) (unitP nB B nO O i) = unitP nB B nO O (i + 1) := by
  rw [unitP, unitP, range_snoc, gcdL_snoc, Int.gcd_comm]
theorem addN_zero (i : Nat) : addN 0 i = i := by simp [addN]
def rBack : Orc := .res fun l => .clo 83 [.cptr [nums (aN l) (aX l)]]
noncomputable def A68_back_c (n : Nat) (A : Nat → Int) : Ann := { orc := [], loops := [], cuts := [] }
theorem back_c (n : Nat) (A : Nat → Int)  : FnC prog 68 [nums n A] (.clo 83 [.cptr [nums n A]]) := by
  refine FnC_owed hmix (A68_back_c n A) (V := .done [n = n, ∀ i < n, A i = A i]) (by kernel_rfl) ?_
  simp only [VT.holds, AllT, Sq]
noncomputable def A52_read_c (nB : Nat) (B : Nat → Int) (nO : Nat) (O : Nat → Int) (W G L : Int) : Ann := { orc := [(2, [(2, rBack)]), (9, [(2, rBack)]), (15, [(4, rGcd)])], loops := [(4, { ι := Nat, keep := [2, 3, 48], boxes := [2], ts := fun _ i => [(49, dI (i : Int))], rw := fun _ _ => [(47, 3, nB + nO, part3 (pLen nB B nO O) (pCode nB) (fun i => decide (nB ≤ i)))], bx := fun σ i => [(3, [dI (unitP nB B nO O i), .row 3 σ.nx 0 (nB + nO)])], inv := fun _ i => i ≤ nB + nO, mu := fun _ i => nB + nO - i, rd := fun _ σ => (iOf (σ.get 49)).toNat })], cuts := [], rngs := [(0, { N := nB, enc := fun k => [.int .i64 ((nB : Int) - 1 - (k : Nat)), .int .i64 (B (nB - 1 - k))], keep := [1, 2, 3, 13], boxes := [1, 2], bx := fun σ pre => [(3, [dI 0, .row 3 (σ.nx + 50) 0 pre.length])], rb := fun _ pre => [(3, 1, 3, pre.length, part3 (fun i => B (nB - 1 - pre.getD i 0)) (fun i => if pre.getD i 0 = 0 then 1 else 10001) (fun _ => false))], inv := fun _ pre => pre.length ≤ nB }), (2, { N := nO, enc := fun k => [.int .i64 ((nO : Int) - 1 - (k : Nat)), .int .i64 (O (nO - 1 - k))], keep := [1, 2, 3, 36], boxes := [1, 2], bx := fun σ pre => [(3, [dI 0, .row 3 (σ.nx + 50) 0 (nB + pre.length)])], rb := fun _ pre => [(3, 1, 3, nB + pre.length, part3 (fun i => if i < nB then B (nB - 1 - i) else O (nO - 1 - pre.getD (i - nB) 0)) (fun i => pCode nB i) (fun i => decide (nB ≤ i)))], inv := fun _ pre => pre.length ≤ nO })] }
noncomputable abbrev qkb (i : Nat) (nB : Nat) (q : List Nat × Nat) : Bool := decide (i < nB + List.length q.fst)
noncomputable abbrev read_cr0 (nB : Nat) (B : Nat → Int) (nO : Nat) (O : Nat → Int) (W : Int) (G : Int) (L : Int) (r : List Prop) : List Prop := (nB = nB) :: (∀ (i : Nat), i < nB → B i = B i) :: (nO = nO) :: (∀ (i : Nat), i < nO → O i = O i) :: (W = W) :: (G = G) :: (L = L) :: ((0:Int) = (0:Int)) :: (Value.slice none (0:Nat) (0:Nat) = Value.slice none (0:Nat) (0:Nat)) :: r
theorem read_c (nB : Nat) (B : Nat → Int) (nO : Nat) (O : Nat → Int) (W G L : Int) (h1 : 1 ≤ nB) (h2 : nB ≤ 8) (h3 : nO ≤ 8) (hB : ∀ k, k < nB → 1 ≤ B k ∧ B k ≤ 10000) (hO : ∀ k, k < nO → 1 ≤ O k ∧ O k ≤ 10000) : FnC prog 52 [sys nB B nO O W G L] (catS nB B nO O) := by
  refine FnC_owed hmix (A52_read_c nB B nO O W G L) (V := .need [FnC prog 68 [.lst nB [fun i => (dI (B i))]] (.clo (83 : FuncId) [.cptr [.lst nB [fun i => (dI (B i))]]])] (.need ((SeqC prog (83 : FuncId) [.cptr [.lst nB [fun i => (dI (B i))]]] nB fun k => [.int .i64 ((nB:Int) - 1 - (k:Int)), .int .i64 (B (nB - 1 - k))]) :: ((∀ (k : Nat), k < nB → (2:Nat) = 2) :: ((nB = nB) :: ((∀ i < nB, B i = B i) :: ((nat_lit 0 = 0) :: (((0:Int) = 0) :: (((0:Nat) = 0) :: ((nat_lit 0 = 0) :: (read_cr0 nB B nO O W G L [nat_lit 0 ≤ nB]))))))))) (.cut (List Nat × Nat) (fun (q : List Nat × Nat) => List.length q.fst ≤ nB ∧ q.snd < nB ∧ List.length q.fst < nB ∧ ∀ (y : Nat), y ∈ q.fst → y < nB) (.cut Unit (fun (u : Unit) => List.length (List.range nB) ≤ nB) (.done []) fun (u : Unit) => .need [FnC prog 68 [.lst nO [fun i => (dI (O i))]] (.clo (83 : FuncId) [.cptr [.lst nO [fun i => (dI (O i))]]])] (.need ((SeqC prog (83 : FuncId) [.cptr [.lst nO [fun i => (dI (O i))]]] nO fun k => [.int .i64 ((nO:Int) - 1 - (k:Int)), .int .i64 (O (nO - 1 - k))]) :: ((∀ (k : Nat), k < nO → (2:Nat) = 2) :: ((nO = nO) :: ((∀ i < nO, O i = O i) :: ((List.length (List.range nB) = nB + nat_lit 0) :: ((∀ i < nB + nat_lit 0, B (nB - 1 - List.getD (List.range nB) i 0) = if i < nB then B (nB - 1 - i) else O (nO - 1 - nat_lit 0)) :: ((∀ i < nB + nat_lit 0, (if List.getD (List.range nB) i 0 = 0 then (1:Int) else (10001:Int)) = pCode nB i) :: ((∀ i < nB + nat_lit 0, false = decide (nB ≤ i)) :: (((0:Int) = 0) :: (((0:Nat) = 0) :: ((List.length (List.range nB) = nB + nat_lit 0) :: (read_cr0 nB B nO O W G L [nat_lit 0 ≤ nO])))))))))))) (.cut (List Nat × Nat) (fun (q : List Nat × Nat) => List.length q.fst ≤ nO ∧ q.snd < nO ∧ List.length q.fst < nO ∧ ∀ (y : Nat), y ∈ q.fst → y < nO) (.cut Unit (fun (u : Unit) => List.length (List.range
     nO) ≤ nO) (.done []) fun (u : Unit) => .loop Nat (fun a => a ≤ nB + nO) (0:Int).toNat [(0:Int) = (↑(0:Int).toNat : Int), (0:Nat) = 0, nB + List.length (List.range nO) = nB + nO, (↑(nB + List.length (List.range nO)) : Int) = (↑(nB + List.length (List.range nO)) : Int), nB + List.length (List.range nO) = nB + nO, ∀ i < nB + nO, (if i < nB then B (nB - 1 - i) else O (nO - 1 - List.getD (List.range nO) (i - nB) (0:Nat))) = pLen nB B nO O i, ∀ i < nB + nO, pCode nB i = pCode nB i, ∀ i < nB + nO, decide (nB ≤ i) = decide (nB ≤ i), (0:Int) = (↑(unitP nB B nO O (0:Int).toNat) : Int), (0:Nat) = 0, nB + List.length (List.range nO) = nB + nO, (0:Int) = 0, Value.slice none 0 (0:Nat) = Value.slice none 0 (0:Nat)] fun i => .ite (decide ((i:Int) < (↑(nB + List.length (List.range nO)) : Int))) (.need [(0:Int) ≤ (i:Int) ∧ (i:Int) < (↑(nB + nO) : Int), addN 0 (i:Int).toNat < nB + nO] (.need [FnC prog 69 [(dI (pLen nB B nO O (addN 0 (i:Int).toNat))), (dI (↑(unitP nB B nO O i) : Int))] ((dI (↑(Int.gcd (pLen nB B nO O (addN 0 (i:Int).toNat)) (↑(unitP nB B nO O i) : Int)) : Int)))] (.need [i64In ((i:Int) + 1)] (.done [(i:Int) + 1 = (↑((i:Int) + 1).toNat : Int), (0:Nat) = 0, nB + nO = nB + nO, (↑(nB + List.length (List.range nO)) : Int) = (↑(nB + List.length (List.range nO)) : Int), nB + nO = nB + nO, ∀ i < nB + nO, pLen nB B nO O i = pLen nB B nO O i, ∀ i < nB + nO, pCode nB i = pCode nB i, ∀ i < nB + nO, decide (nB ≤ i) = decide (nB ≤ i), (↑(Int.gcd (pLen nB B nO O (addN 0 (i:Int).toNat)) (↑(unitP nB B nO O i) : Int)) : Int) = (↑(unitP nB B nO O ((i:Int) + 1).toNat) : Int), (0:Nat) = 0, nB + nO = nB + nO, (0:Int) = 0, Value.slice none 0 (0 :
     Nat) = Value.slice none 0 (0:Nat), Int.toNat ((i:Int) + 1) ≤ nB + nO, nB + nO - ((i:Int) + 1).toNat < nB + nO - i])))) (.done [nB + nO ≤ nB + nO, (↑(unitP nB B nO O i) : Int) = (↑(unitP nB B nO O (nB + nO)) : Int), nB + nO = nB + nO, ∀ i < nB + nO, pLen nB B nO O i = pLen nB B nO O i, ∀ i < nB + nO, pCode nB i = pCode nB i, ∀ i < nB + nO, decide (nB ≤ i) = decide (nB ≤ i)])) fun (q : List Nat × Nat) => .need [nB + List.length q.fst ≤ nB + List.length q.fst, (nB + List.length q.fst + 1) * (nat_lit 23 + 1) ≤ 140737488355328, (1:Nat) ≤ 1] (.done ((nO = nO) :: ((∀ i < nO, O i = O i) :: ((nB + List.length q.fst + 1 = nB + List.length (q.fst ++ [q.snd])) :: ((∀ i < nB + List.length (q.fst ++ [q.snd]), (if (qkb i nB q) = true then if i < nB then B (nB - 1 - i) else O (nO - 1 - List.getD q.fst (i - nB) (0:Nat)) else O (nO - 1 - q.snd)) = if i < nB then B (nB - 1 - i) else O (nO - 1 - List.getD (q.fst ++ [q.snd]) (i - nB) (0:Nat))) :: ((∀ i < nB + List.length (q.fst ++ [q.snd]), (if (qkb i nB q) = true then pCode nB i else (10000:Int)) = pCode nB i) :: ((∀ i < nB + List.length (q.fst ++ [q.snd]), (if (qkb i nB q) = true then decide (nB ≤ i) else true) = decide (nB ≤ i)) :: (((0:Int) = 0) :: (((0:Nat) = 0) :: ((nB + List.length q.fst + 1 = nB + List.length (q.fst ++ [q.snd])) :: (read_cr0 nB B nO O W G L [List.length (q.fst ++ [q.snd]) ≤ nO])))))))))))))) fun (q : List Nat × Nat) => .need [i64In ((nB:Int) - 1)] (.ite (decide ((nB:Int) - 1 - (q.snd:Int) < (nB:Int) - 1)) (.need [i64In (10001:Int)] (.need [List.length q.fst ≤ List.length q.fst, (List.length q.fst + 1) * (nat_lit 23 + 1) ≤ 140737488355328, (1:Nat) ≤ 1] (.done ((nB = nB) :: ((∀ (i : Nat), i
     < nB → B i = B i) :: ((List.length q.fst + 1 = List.length (q.fst ++ [q.snd])) :: ((∀ i < List.length (q.fst ++ [q.snd]), (if decide (i < List.length q.fst) = true then B (nB - 1 - List.getD q.fst i 0) else B (nB - 1 - q.snd)) = B (nB - 1 - List.getD (q.fst ++ [q.snd]) i 0)) :: ((∀ i < List.length (q.fst ++ [q.snd]), (if decide (i < List.length q.fst) = true then if List.getD q.fst i 0 = 0 then (1:Int) else (10001:Int) else (10001:Int)) = if List.getD (q.fst ++ [q.snd]) i 0 = 0 then (1:Int) else (10001:Int)) :: ((∀ i < List.length (q.fst ++ [q.snd]), (if decide (i < List.length q.fst) = true then false else false) = false) :: (((0:Int) = 0) :: (((0:Nat) = 0) :: ((List.length q.fst + 1 = List.length (q.fst ++ [q.snd])) :: (read_cr0 nB B nO O W G L [List.length (q.fst ++ [q.snd]) ≤ nB]))))))))))))) (.need [List.length q.fst ≤ List.length q.fst, (List.length q.fst + 1) * (nat_lit 23 + 1) ≤ 140737488355328, (1:Nat) ≤ 1] (.done ((nB = nB) :: ((∀ i < nB, B i = B i) :: ((List.length q.fst + 1 = List.length (q.fst ++ [q.snd])) :: ((∀ i < List.length (q.fst ++ [q.snd]), (if decide (i < List.length q.fst) = true then B (nB - 1 - List.getD q.fst i 0) else B (nB - 1 - q.snd)) = B (nB - 1 - List.getD (q.fst ++ [q.snd]) i 0)) :: ((∀ i < List.length (q.fst ++ [q.snd]), (if decide (i < List.length q.fst) = true then if List.getD q.fst i 0 = 0 then (1:Int) else (10001:Int) else (1:Int)) = if List.getD (q.fst ++ [q.snd]) i 0 = 0 then (1:Int) else (10001:Int)) :: ((∀ i < List.length (q.fst ++ [q.snd]), (if decide (i < List.length q.fst) = true then false else false) = false) :: (((0:Int) = 0) :: (((0:Nat) = 0) :: ((List.length q.fst + 1
     = List.length (q.fst ++ [q.snd])) :: (read_cr0 nB B nO O W G L [List.length (q.fst ++ [q.snd]) ≤ nB])))))))))))))))) (by kernel_rfl) ?_
  simp only [qkb, VT.holds, AllT, Sq, List.length_range, Nat.add_zero, addN_zero]
  refine ⟨back_c nB B, ⟨back_seq nB B (by omega), Nat.zero_le _⟩, ⟨fun _ _ => ⟨back_c nO O, ⟨back_seq nO O (by omega), ?_, ?_, ?_, Nat.zero_le _⟩, ⟨fun _ _ => ⟨⟨rfl, ?_, rfl⟩, Nat.zero_le _, fun i hi => ⟨fun hlt => ⟨⟨⟨by omega, by omega⟩, by omega⟩, gcd_c _ _ ?_ ?_, by unfold i64In; omega, rfl, ?_, by omega, by omega⟩, fun hge => ⟨Nat.le_refl _, ?_⟩⟩⟩, fun q ⟨q1, q2, q3, q4⟩ => ?_⟩⟩, fun q ⟨q1, q2, q3, q4⟩ => ?_⟩⟩
  · intro i hi
    rw [range_getD hi, if_pos hi]
  · intro i hi
    rw [range_getD hi, pCode, if_pos hi]
  · intro i hi
    rw [decide_eq_false (by omega)]
  · intro i hi
    unfold pLen
    by_cases h : i < nB
    · rw [if_pos h, if_pos h]
    · rw [if_neg h, if_neg h, range_getD (by omega)]
  · have := pLen_bd hB hO (show i < nB + nO by omega)
    omega
  · omega
  · rw [unitP_succ]
  · rw [show i = nB + nO by omega]
  · refine ⟨⟨Nat.le_refl _, by omega, Nat.le_refl _⟩, by simp only [List.length_append, List.length_cons, List.length_nil]; omega, fun i hi => ?_, fun i hi => ?_, fun i hi => ?_, by simp only [List.length_append, List.length_cons, List.length_nil]; omega, by simp only [List.length_append, List.length_cons, List.length_nil]; omega⟩
    all_goals simp only [List.length_append, List.length_cons, List.length_nil] at hi
    · by_cases h : i < nB
      · rw [if_pos (by omega), if_pos h, if_pos h]
      · rw [if_neg h, snoc_getD (by simp only [List.length_append, List.length_cons, List.length_nil]; omega)]
        by_cases h5 : i < nB + q.1.length
        · rw [if_pos h5, if_neg h, if_pos (by omega)]
        · rw [if_neg h5, if_neg (show ¬ i - nB < q.1.length by omega), if_neg h]
    · by_cases h5 : i < nB + q.1.length
      · rw [if_pos h5]
      · rw [if_neg h5, pCode, if_neg (by omega)]
    · by_cases h5 : i < nB + q.1.length
      · rw [if_pos h5]
      · rw [if_neg h5, decide_eq_true (by omega)]
  · have hl : (q.1 ++ [q.2]).length = q.1.length + 1 := by simp
    have e1 : ∀ i, i < (q.1 ++ [q.2]).length → (if i < q.1.length then B (nB - 1 - q.1.getD i 0) else B (nB - 1 - q.2)) = B (nB - 1 - (q.1 ++ [q.2]).getD i 0) := fun i hi => by
      rw [snoc_getD hi]
      split <;> rfl
    refine ⟨by unfold i64In; omega, fun h => ⟨by unfold i64In; omega, ⟨Nat.le_refl _, by omega, Nat.le_refl _⟩, hl.symm, e1, fun i hi => ?_, hl.symm, by omega⟩, fun h => ⟨⟨Nat.le_refl _, by omega, Nat.le_refl _⟩, hl.symm, e1, fun i hi => ?_, hl.symm, by omega⟩⟩
    · rw [snoc_getD hi]
      by_cases h5 : i < q.1.length
      · rw [if_pos h5, if_pos h5]
      · rw [if_neg h5, if_neg h5, if_neg (by omega)] <;> rfl
    · rw [snoc_getD hi]
      by_cases h5 : i < q.1.length
      · rw [if_pos h5, if_pos h5]
      · rw [if_neg h5, if_neg h5, if_pos (by omega)]
end Go.Abs
