/- Contracts. Contracts. Contracts. -/
import Derived.Test.YtbemjdppfiabgaaK51
import Derived.Test.YtbemjdppfiabgaaLg
section
section
set_option linter.unusedVariables false
set_option linter.unusedSimpArgs false
set_option maxRecDepth 100000
namespace Go.Abs
open Go
def catA (n : Nat) (A B : Nat → Int) (j : Nat) : Int := if j < n then A j else B (j - n)
abbrev rGrow : Orc := .row fun _ => (0, [fun _ => dI 0])
/-- Which of the ends may be joined with one. -/
def jnP (c : Cat) (o : Int) (A : Nat → Int) (j : Nat) : Bool := jnF c (A j) o
def jnQ (c : Cat) (u : Int) (A : Nat → Int) (j : Nat) : Bool := !jnF c u (A j)
/-- Whether all ends at a node may be joined: the first k others; the first k upper ones. -/
def ndO (c : Cat) (n : Nat) (A : Nat → Int) (O : Nat → Int) : Nat → Bool
  | 0 => true
  | k + 1 => ndO c n A O k && decide (0 ≤ ixF (jnP c (O k) A) n)
def ndU (c : Cat) (n : Nat) (A : Nat → Int) (U : Nat → Int) : Nat → Bool
  | 0 => true
  | k + 1 => ndU c n A U k && !decide (0 ≤ ixF (jnQ c (U k) A) n)
def nfF (c : Cat) (nl : Nat) (L : Nat → Int) (nu : Nat) (U : Nat → Int) (no : Nat) (O : Nat → Int) : Bool := ndO c (nl + nu) (catA nl L U) O no && ndU c nl L U nu
abbrev lsI (n : Nat) (A : Nat → Int) : DV := .lst n [fun j => dI (A j)]
noncomputable def A141_concat_c (n : Nat) (A : Nat → Int) (m : Nat) (B : Nat → Int) : Ann := { orc := [(9, [(1, rGrow)])], loops := [], cuts := [], unroll := [(0, 3), (2, 3)], dec := [12, 28] }
noncomputable abbrev q_concat_c_0 (i : Nat) (n : Nat) (m : Nat) : Bool := decide (i < (0:Nat) + if Int.toNat (0:Int) = (0:Nat) then n else m)
theorem concat_c (n : Nat) (A : Nat → Int) (m : Nat) (B : Nat → Int) (hn : n ≤ 100000) (hm : m ≤ 100000) : FnR prog 141 [.lst 2 [fun i => .lst (if i = 0 then n else m) [fun j => dI (if i = 0 then A j else B j)]]] (n + m) [fun j => dI (catA n A B j)] := by
  refine FnR_owed hmix (A141_concat_c n A m B) (V := .need [(0:Int) ≤ 0 ∧ (0:Int) < (↑(2:Nat) : Int)] (.need [i64In ((0:Int) + (↑(if Int.toNat (0:Int) = 0 then n else m) : Int))] (.ite (decide ((0:Int) + (↑(if Int.toNat (0:Int) = 0 then n else m) : Int) < 0)) (.need [False, False] (.need [i64In (1:Int)] (.need [(0:Int) ≤ 1 ∧ (1:Int) < (↑(2:Nat) : Int)] (.need [i64In ((0:Int) + (↑(if Int.toNat (0:Int) = 0 then n else m) : Int) + (↑(if Int.toNat (1:Int) = 0 then n else m) : Int))] (.ite (decide ((0:Int) + (↑(if Int.toNat (0:Int) = 0 then n else m) : Int) + (↑(if Int.toNat (1:Int) = 0 then n else m) : Int) < 0)) (.need [False, False] (.need [i64In (2:Int)] (.need [FnR prog 162 [.val (Value.slice none 0 (0:Nat)), (dI ((0:Int) + (↑(if Int.toNat (0:Int) = 0 then n else m) : Int) + (↑(if Int.toNat (1:Int) = 0 then n else m) : Int)))] (0:Nat) [fun x => (dI (0:Int))]] (.need [(0:Int) ≤ 0 ∧ (0:Int) < (↑(2:Nat) : Int)] (.need [(0:Nat) ≤ 0, ((0:Nat) + if Int.toNat (0:Int) = 0 then n else m) * (nat_lit 7 + 1) ≤ 140737488355328] (.need [i64In (1:Int)] (.need [(0:Int) ≤ 1 ∧ (1:Int) < (↑(2:Nat) : Int)] (.need [((0:Nat) + if Int.toNat (0:Int) = 0 then n else m) ≤ 0 + if Int.toNat (0:Int) = 0 then n else m, (((0:Nat) + if Int.toNat (0:Int) = 0 then n else m) + if Int.toNat (1:Int) = 0 then n else m) * (nat_lit 7 + 1) ≤ 140737488355328] (.need [i64In (2:Int)] (.done [(((0:Nat) + if Int.toNat (0:Int) = 0 then n else m) + if Int.toNat (1:Int) = 0 then n else m) = n + m ∧ (((0:Nat) + if Int.toNat (0:Int) = 0 then n else m) + if Int.toNat (1:Int) = 0 then n else m) ≤ ((0:Nat) + if Int.toNat (0:Int) = 0 then n else m) + if Int.toNat (1:Int) = 0 then n else m, ∀ (i : Nat), i < n + m →
     (if (q_concat_c_0 i n m) = true then if decide (i < 0) = true then (0:Int) else if Int.toNat (0:Int) = 0 then A (i - 0) else B (i - 0) else if Int.toNat (1:Int) = 0 then A (i - ((0:Nat) + if Int.toNat (0:Int) = 0 then n else m)) else B (i - ((0:Nat) + if Int.toNat (0:Int) = 0 then n else m))) = catA n A B i])))))))))) (.need [i64In (2:Int)] (.need [FnR prog 162 [.val (Value.slice none 0 (0:Nat)), (dI ((0:Int) + (↑(if Int.toNat (0:Int) = 0 then n else m) : Int) + (↑(if Int.toNat (1:Int) = 0 then n else m) : Int)))] (0:Nat) [fun x => (dI (0:Int))]] (.need [(0:Int) ≤ 0 ∧ (0:Int) < (↑(2:Nat) : Int)] (.need [(0:Nat) ≤ 0, ((0:Nat) + if Int.toNat (0:Int) = 0 then n else m) * (nat_lit 7 + 1) ≤ 140737488355328] (.need [i64In (1:Int)] (.need [(0:Int) ≤ 1 ∧ (1:Int) < (↑(2:Nat) : Int)] (.need [((0:Nat) + if Int.toNat (0:Int) = 0 then n else m) ≤ 0 + if Int.toNat (0:Int) = 0 then n else m, (((0:Nat) + if Int.toNat (0:Int) = 0 then n else m) + if Int.toNat (1:Int) = 0 then n else m) * (nat_lit 7 + 1) ≤ 140737488355328] (.need [i64In (2:Int)] (.done [(((0:Nat) + if Int.toNat (0:Int) = 0 then n else m) + if Int.toNat (1:Int) = 0 then n else m) = n + m ∧ (((0:Nat) + if Int.toNat (0:Int) = 0 then n else m) + if Int.toNat (1:Int) = 0 then n else m) ≤ ((0:Nat) + if Int.toNat (0:Int) = 0 then n else m) + if Int.toNat (1:Int) = 0 then n else m, ∀ i < n + m, (if (q_concat_c_0 i n m) = true then if decide (i < 0) = true then (0:Int) else if Int.toNat (0:Int) = 0 then A (i - 0) else B (i - 0) else if Int.toNat (1:Int) = 0 then A (i - ((0:Nat) + if Int.toNat (0:Int) = 0 then n else m)) else B (i - ((0:Nat)
     + if Int.toNat (0:Int) = 0 then n else m))) = catA n A B i])))))))))))))) (.need [i64In (1:Int)] (.need [(0:Int) ≤ 1 ∧ (1:Int) < (↑(2:Nat) : Int)] (.need [i64In ((0:Int) + (↑(if Int.toNat (0:Int) = 0 then n else m) : Int) + (↑(if Int.toNat (1:Int) = 0 then n else m) : Int))] (.ite (decide ((0:Int) + (↑(if Int.toNat (0:Int) = 0 then n else m) : Int) + (↑(if Int.toNat (1:Int) = 0 then n else m) : Int) < 0)) (.need [False, False] (.need [i64In (2:Int)] (.need [FnR prog 162 [.val (Value.slice none 0 (0:Nat)), (dI ((0:Int) + (↑(if Int.toNat (0:Int) = 0 then n else m) : Int) + (↑(if Int.toNat (1:Int) = 0 then n else m) : Int)))] (0:Nat) [fun x => (dI (0:Int))]] (.need [(0:Int) ≤ 0 ∧ (0:Int) < (↑(2:Nat) : Int)] (.need [(0:Nat) ≤ 0, ((0:Nat) + if Int.toNat (0:Int) = 0 then n else m) * (nat_lit 7 + 1) ≤ 140737488355328] (.need [i64In (1:Int)] (.need [(0:Int) ≤ 1 ∧ (1:Int) < (↑(2:Nat) : Int)] (.need [((0:Nat) + if Int.toNat (0:Int) = 0 then n else m) ≤ 0 + if Int.toNat (0:Int) = 0 then n else m, (((0:Nat) + if Int.toNat (0:Int) = 0 then n else m) + if Int.toNat (1:Int) = 0 then n else m) * (nat_lit 7 + 1) ≤ 140737488355328] (.need [i64In (2:Int)] (.done [(((0:Nat) + if Int.toNat (0:Int) = 0 then n else m) + if Int.toNat (1:Int) = 0 then n else m) = n + m ∧ (((0:Nat) + if Int.toNat (0:Int) = 0 then n else m) + if Int.toNat (1:Int) = 0 then n else m) ≤ ((0:Nat) + if Int.toNat (0:Int) = 0 then n else m) + if Int.toNat (1:Int) = 0 then n else m, ∀ i < n + m, (if (q_concat_c_0 i n m) = true then if decide (i < 0) = true then (0:Int) else if Int.toNat (0:Int) = 0 then A (i - 0) else B (i - 0) else if Int.toNat
     (1:Int) = 0 then A (i - ((0:Nat) + if Int.toNat (0:Int) = 0 then n else m)) else B (i - ((0:Nat) + if Int.toNat (0:Int) = 0 then n else m))) = catA n A B i])))))))))) (.need [i64In (2:Int)] (.need [FnR prog 162 [.val (Value.slice none 0 (0:Nat)), (dI ((0:Int) + (↑(if Int.toNat (0:Int) = 0 then n else m) : Int) + (↑(if Int.toNat (1:Int) = 0 then n else m) : Int)))] (0:Nat) [fun x => (dI (0:Int))]] (.need [(0:Int) ≤ 0 ∧ (0:Int) < (↑(2:Nat) : Int)] (.need [(0:Nat) ≤ 0, ((0:Nat) + if Int.toNat (0:Int) = 0 then n else m) * (nat_lit 7 + 1) ≤ 140737488355328] (.need [i64In (1:Int)] (.need [(0:Int) ≤ 1 ∧ (1:Int) < (↑(2:Nat) : Int)] (.need [((0:Nat) + if Int.toNat (0:Int) = 0 then n else m) ≤ 0 + if Int.toNat (0:Int) = 0 then n else m, (((0:Nat) + if Int.toNat (0:Int) = 0 then n else m) + if Int.toNat (1:Int) = 0 then n else m) * (nat_lit 7 + 1) ≤ 140737488355328] (.need [i64In (2:Int)] (.done [(((0:Nat) + if Int.toNat (0:Int) = 0 then n else m) + if Int.toNat (1:Int) = 0 then n else m) = n + m ∧ (((0:Nat) + if Int.toNat (0:Int) = 0 then n else m) + if Int.toNat (1:Int) = 0 then n else m) ≤ ((0:Nat) + if Int.toNat (0:Int) = 0 then n else m) + if Int.toNat (1:Int) = 0 then n else m, ∀ i < n + m, (if (q_concat_c_0 i n m) = true then if decide (i < 0) = true then (0:Int) else if Int.toNat (0:Int) = 0 then A (i - 0) else B (i - 0) else if Int.toNat (1:Int) = 0 then A (i - ((0:Nat) + if Int.toNat (0:Int) = 0 then n else m)) else B (i - ((0:Nat) + if Int.toNat (0:Int) = 0 then n else m))) = catA n A B i])))))))))))))))) (by kernel_rfl) ?_
  simp only [q_concat_c_0, VT.holds, AllT, Sq]
  have t1 : (Int.toNat 1 = 0) = False := eq_false (by decide)
  have n1 : ∀ x y : Nat, ((x : Int) + (y : Int) < 0) = False := fun x y => eq_false (by omega)
  have n2 : ∀ x : Nat, ((x : Int) < 0) = False := fun x => eq_false (by omega)
  simp only [if_true, t1, if_false, Nat.zero_add, Int.zero_add, n1, n2, false_implies, not_false_eq_true, true_implies, true_and]
  exact ⟨⟨by decide, by decide⟩, by unfold i64In; omega, by unfold i64In; omega, ⟨by decide, by decide⟩, by unfold i64In; omega, by unfold i64In; omega, grow_c _ (by omega) (by omega), ⟨by decide, by decide⟩, ⟨Nat.le_refl _, by omega⟩, by unfold i64In; omega, ⟨by decide, by decide⟩, ⟨Nat.le_refl _, by omega⟩, by unfold i64In; omega, Nat.le_refl _, fun i _ => by rw [catA, if_neg (Nat.not_lt_zero i), Nat.sub_zero]⟩
noncomputable def A142_fitO_c (c : Cat) (x o : Int) : Ann := { orc := [(1, [(3, .res fun q => dB (jnF c (aI q 1) (aI q 2)))])], loops := [], cuts := [] }
theorem fitO_c (c : Cat) (x o : Int) (hm : c.m ≤ 1000000) : FnC prog 142 [dI x, .cptr [prtsD c, prsD c], .cptr [dI o]] (dB (jnF c x o)) := by
  refine FnC_owed hmix (A142_fitO_c c x o) (V := .need [FnC prog 110 [.agg [.lst c.n [fun i => .val (.string (c.nm i)), fun i => (dI (c.K i)), fun i => (dI (c.Q i)), fun i => (dI (c.M i)), fun i => (dI (c.T i)), fun i => (dI (c.E0 i)), fun i => (dI (c.E1 i))], .lst c.m [fun i => (dI (c.P0 i)), fun i => (dI (c.P1 i))]], (dI x), (dI o)] ((dB (jnF c x o)))] (.done [jnF c x o = jnF c x o])) (by kernel_rfl) ?_
  simp only [VT.holds, AllT, Sq]
  exact joins_c c _ _ hm
noncomputable def A143_fitU_c (c : Cat) (x o : Int) : Ann := { orc := [(1, [(3, .res fun q => dB (jnF c (aI q 1) (aI q 2)))])], loops := [], cuts := [] }
theorem fitU_c (c : Cat) (x o : Int) (hm : c.m ≤ 1000000) : FnC prog 143 [dI x, .cptr [prtsD c, prsD c], .cptr [dI o]] (dB (!jnF c o x)) := by
  refine FnC_owed hmix (A143_fitU_c c x o) (V := .need [FnC prog 110 [.agg [.lst c.n [fun i => .val (.string (c.nm i)), fun i => (dI (c.K i)), fun i => (dI (c.Q i)), fun i => (dI (c.M i)), fun i => (dI (c.T i)), fun i => (dI (c.E0 i)), fun i => (dI (c.E1 i))], .lst c.m [fun i => (dI (c.P0 i)), fun i => (dI (c.P1 i))]], (dI o), (dI x)] ((dB (jnF c o x)))] (.done [(!jnF c o x) = !jnF c o x])) (by kernel_rfl) ?_
  simp only [VT.holds, AllT, Sq]
  exact joins_c c _ _ hm
end Go.Abs
end
section
set_option linter.unusedVariables false
set_option linter.unusedSimpArgs false
set_option maxRecDepth 100000
namespace Go.Abs
open Go
theorem ndO_no {c : Cat} {n : Nat} {A O : Nat → Int} {k : Nat} (h : ¬ 0 ≤ ixF (jnP c (O k) A) n) : ∀ {m : Nat}, k < m → ndO c n A O m = false
  | 0, hm => absurd hm (Nat.not_lt_zero k)
  | m + 1, hm => by
    rw [ndO]
    by_cases e : k = m
    · subst e; rw [decide_eq_false h, Bool.and_false]
    · rw [ndO_no h (by omega), Bool.false_and]
theorem ndU_no {c : Cat} {n : Nat} {A O : Nat → Int} {k : Nat} (h : 0 ≤ ixF (jnQ c (O k) A) n) : ∀ {m : Nat}, k < m → ndU c n A O m = false
  | 0, hm => absurd hm (Nat.not_lt_zero k)
  | m + 1, hm => by
    rw [ndU]
    by_cases e : k = m
    · subst e; rw [decide_eq_true h]; simp
    · rw [ndU_no h (by omega), Bool.false_and]
noncomputable def A134_indexO_c (c : Cat) (o : Int) (n : Nat) (A : Nat → Int) : Ann := { orc := [(4, [(5, .res fun q => dB (jnF c (aI q 0) o))])], loops := [(0, { ι := Nat, keep := [0, 1, 7], boxes := [], ts := fun _ i => [(8, dI (i : Int))], inv := fun _ i => i ≤ n ∧ ∀ j, j < i → jnP c o A j = false, mu := fun _ i => n - i, rd := fun _ σ => (iOf (σ.get 8)).toNat })], cuts := [] }
noncomputable abbrev indexO_cr0 (c : Cat) (o : Int) (n : Nat) (A : Nat → Int) (r : List Prop) : List Prop := (n = n) :: (∀ (i : Nat), i < n → A i = A i) :: (c.n = c.n) :: (∀ (i : Nat), i < c.n → c.nm i = c.nm i) :: (∀ (i : Nat), i < c.n → c.K i = c.K i) :: (∀ (i : Nat), i < c.n → c.Q i = c.Q i) :: (∀ (i : Nat), i < c.n → c.M i = c.M i) :: (∀ (i : Nat), i < c.n → c.T i = c.T i) :: (∀ (i : Nat), i < c.n → c.E0 i = c.E0 i) :: (∀ (i : Nat), i < c.n → c.E1 i = c.E1 i) :: (c.m = c.m) :: (∀ (i : Nat), i < c.m → c.P0 i = c.P0 i) :: (∀ (i : Nat), i < c.m → c.P1 i = c.P1 i) :: (o = o) :: ((n:Int) = (n:Int)) :: r
theorem indexO_c (c : Cat) (o : Int) (n : Nat) (A : Nat → Int) (hm : c.m ≤ 1000000) (hn : n ≤ 1000000) : FnC prog 134 [lsI n A, .clo 142 [.cptr [prtsD c, prsD c], .cptr [dI o]]] (dI (ixF (jnP c o A) n)) := by
  refine FnC_owed hmix (A134_indexO_c c o n A) (V := .loop Nat (fun a => a ≤ n ∧ ∀ (j : Nat), j < a → jnP c o A j = false) (0:Int).toNat (((0:Int) = (↑(0:Int).toNat : Int)) :: (indexO_cr0 c o n A [])) fun i => .ite (decide ((i:Int) < (n:Int))) (.need [(0:Int) ≤ (i:Int) ∧ (i:Int) < (n:Int), FnC prog (142 : FuncId) [(dI (A (i:Int).toNat)), .cptr [.lst c.n [fun i => .val (.string (c.nm i)), fun i => (dI (c.K i)), fun i => (dI (c.Q i)), fun i => (dI (c.M i)), fun i => (dI (c.T i)), fun i => (dI (c.E0 i)), fun i => (dI (c.E1 i))], .lst c.m [fun i => (dI (c.P0 i)), fun i => (dI (c.P1 i))]], .cptr [(dI o)]] ((dB (jnF c (A (i:Int).toNat) o)))] (.ite (jnF c (A (i:Int).toNat) o) (.done [(i:Int) = ixF (jnP c o A) n]) (.need [i64In ((i:Int) + 1)] (.done (((i:Int) + 1 = (↑((i:Int) + 1).toNat : Int)) :: (indexO_cr0 c o n A [Int.toNat ((i:Int) + 1) ≤ n ∧ ∀ (j : Nat), j < ((i:Int) + 1).toNat → jnP c o A j = false, n - ((i:Int) + 1).toNat < n - i])))))) (.done [(-1:Int) = ixF (jnP c o A) n])) (by kernel_rfl) ?_
  simp only [VT.holds, AllT, indexO_cr0, Sq]
  refine ⟨rfl, ⟨Nat.zero_le _, fun j hj => absurd hj (Nat.not_lt_zero j)⟩, fun i ⟨hi, hb'⟩ => ⟨fun hlt => ?_, fun hge => ?_⟩⟩
  · have hlt : i < n := by omega
    refine ⟨⟨⟨by omega, by omega⟩, fitO_c c _ _ hm⟩, fun h => (ixF_at hb' h hlt).symm, fun h => ⟨by unfold i64In; omega, by omega, ⟨by omega, fun j hj => ?_⟩, by omega⟩⟩
    rcases Nat.lt_or_ge j i with h9 | h9
    · exact hb' j h9
    · obtain rfl : j = i := by omega
      exact h
  · obtain rfl : i = n := by omega
    exact (ixF_none hb').symm
noncomputable def A134_indexU_c (c : Cat) (o : Int) (n : Nat) (A : Nat → Int) : Ann := { orc := [(4, [(5, .res fun q => dB (!jnF c o (aI q 0)))])], loops := [(0, { ι := Nat, keep := [0, 1, 7], boxes := [], ts := fun _ i => [(8, dI (i : Int))], inv := fun _ i => i ≤ n ∧ ∀ j, j < i → jnQ c o A j = false, mu := fun _ i => n - i, rd := fun _ σ => (iOf (σ.get 8)).toNat })], cuts := [] }
noncomputable abbrev indexU_cr0 (c : Cat) (o : Int) (n : Nat) (A : Nat → Int) (r : List Prop) : List Prop := (n = n) :: (∀ (i : Nat), i < n → A i = A i) :: (c.n = c.n) :: (∀ (i : Nat), i < c.n → c.nm i = c.nm i) :: (∀ (i : Nat), i < c.n → c.K i = c.K i) :: (∀ (i : Nat), i < c.n → c.Q i = c.Q i) :: (∀ (i : Nat), i < c.n → c.M i = c.M i) :: (∀ (i : Nat), i < c.n → c.T i = c.T i) :: (∀ (i : Nat), i < c.n → c.E0 i = c.E0 i) :: (∀ (i : Nat), i < c.n → c.E1 i = c.E1 i) :: (c.m = c.m) :: (∀ (i : Nat), i < c.m → c.P0 i = c.P0 i) :: (∀ (i : Nat), i < c.m → c.P1 i = c.P1 i) :: (o = o) :: ((n:Int) = (n:Int)) :: r
theorem indexU_c (c : Cat) (o : Int) (n : Nat) (A : Nat → Int) (hm : c.m ≤ 1000000) (hn : n ≤ 1000000) : FnC prog 134 [lsI n A, .clo 143 [.cptr [prtsD c, prsD c], .cptr [dI o]]] (dI (ixF (jnQ c o A) n)) := by
  refine FnC_owed hmix (A134_indexU_c c o n A) (V := .loop Nat (fun a => a ≤ n ∧ ∀ (j : Nat), j < a → jnQ c o A j = false) (0:Int).toNat (((0:Int) = (↑(0:Int).toNat : Int)) :: (indexU_cr0 c o n A [])) fun i => .ite (decide ((i:Int) < (n:Int))) (.need [(0:Int) ≤ (i:Int) ∧ (i:Int) < (n:Int), FnC prog (143 : FuncId) [(dI (A (i:Int).toNat)), .cptr [.lst c.n [fun i => .val (.string (c.nm i)), fun i => (dI (c.K i)), fun i => (dI (c.Q i)), fun i => (dI (c.M i)), fun i => (dI (c.T i)), fun i => (dI (c.E0 i)), fun i => (dI (c.E1 i))], .lst c.m [fun i => (dI (c.P0 i)), fun i => (dI (c.P1 i))]], .cptr [(dI o)]] ((dB !jnF c o (A (i:Int).toNat)))] (.ite (!jnF c o (A (i:Int).toNat)) (.done [(i:Int) = ixF (jnQ c o A) n]) (.need [i64In ((i:Int) + 1)] (.done (((i:Int) + 1 = (↑((i:Int) + 1).toNat : Int)) :: (indexU_cr0 c o n A [Int.toNat ((i:Int) + 1) ≤ n ∧ ∀ (j : Nat), j < ((i:Int) + 1).toNat → jnQ c o A j = false, n - ((i:Int) + 1).toNat < n - i])))))) (.done [(-1:Int) = ixF (jnQ c o A) n])) (by kernel_rfl) ?_
  simp only [VT.holds, AllT, indexU_cr0, Sq]
  refine ⟨rfl, ⟨Nat.zero_le _, fun j hj => absurd hj (Nat.not_lt_zero j)⟩, fun i ⟨hi, hb'⟩ => ⟨fun hlt => ?_, fun hge => ?_⟩⟩
  · have hlt : i < n := by omega
    refine ⟨⟨⟨by omega, by omega⟩, fitU_c c _ _ hm⟩, fun h => (ixF_at hb' (by rw [jnQ, h]; rfl) hlt).symm, fun h => ⟨by unfold i64In; omega, by omega, ⟨by omega, fun j hj => ?_⟩, by omega⟩⟩
    rcases Nat.lt_or_ge j i with h9 | h9
    · exact hb' j h9
    · obtain rfl : j = i := by omega
      rw [jnQ, h]; rfl
  · obtain rfl : i = n := by omega
    exact (ixF_none hb').symm
noncomputable def A89_containsO_c (c : Cat) (o : Int) (n : Nat) (A : Nat → Int) : Ann := { orc := [(1, [(2, .res fun q => dI (ixF (jnP c o A) n))])], loops := [], cuts := [] }
theorem containsO_c (c : Cat) (o : Int) (n : Nat) (A : Nat → Int) (hm : c.m ≤ 1000000) (hn : n ≤ 1000000) : FnC prog 89 [lsI n A, .clo 142 [.cptr [prtsD c, prsD c], .cptr [dI o]]] (dB (decide (0 ≤ ixF (jnP c o A) n))) := by
  refine FnC_owed hmix (A89_containsO_c c o n A) (V := .need [FnC prog 134 [.lst n [fun j => (dI (A j))], .clo (142 : FuncId) [.cptr [.lst c.n [fun i => .val (.string (c.nm i)), fun i => (dI (c.K i)), fun i => (dI (c.Q i)), fun i => (dI (c.M i)), fun i => (dI (c.T i)), fun i => (dI (c.E0 i)), fun i => (dI (c.E1 i))], .lst c.m [fun i => (dI (c.P0 i)), fun i => (dI (c.P1 i))]], .cptr [(dI o)]]] ((dI (ixF (jnP c o A) n)))] (.done [decide (ixF (jnP c o A) n ≥ 0) = decide ((0:Int) ≤ ixF (jnP c o A) n)])) (by kernel_rfl) ?_
  simp only [VT.holds, AllT, Sq]
  exact indexO_c c o n A hm hn
noncomputable def A89_containsU_c (c : Cat) (o : Int) (n : Nat) (A : Nat → Int) : Ann := { orc := [(1, [(2, .res fun q => dI (ixF (jnQ c o A) n))])], loops := [], cuts := [] }
theorem containsU_c (c : Cat) (o : Int) (n : Nat) (A : Nat → Int) (hm : c.m ≤ 1000000) (hn : n ≤ 1000000) : FnC prog 89 [lsI n A, .clo 143 [.cptr [prtsD c, prsD c], .cptr [dI o]]] (dB (decide (0 ≤ ixF (jnQ c o A) n))) := by
  refine FnC_owed hmix (A89_containsU_c c o n A) (V := .need [FnC prog 134 [.lst n [fun j => (dI (A j))], .clo (143 : FuncId) [.cptr [.lst c.n [fun i => .val (.string (c.nm i)), fun i => (dI (c.K i)), fun i => (dI (c.Q i)), fun i => (dI (c.M i)), fun i => (dI (c.T i)), fun i => (dI (c.E0 i)), fun i => (dI (c.E1 i))], .lst c.m [fun i => (dI (c.P0 i)), fun i => (dI (c.P1 i))]], .cptr [(dI o)]]] ((dI (ixF (jnQ c o A) n)))] (.done [decide (ixF (jnQ c o A) n ≥ 0) = decide ((0:Int) ≤ ixF (jnQ c o A) n)])) (by kernel_rfl) ?_
  simp only [VT.holds, AllT, Sq]
  exact indexU_c c o n A hm hn
noncomputable def A113_fits_n (c : Cat) (nl : Nat) (L : Nat → Int) (nu : Nat) (U : Nat → Int) (no : Nat) (O : Nat → Int) : Ann := { orc := [(1, [(5, .row fun _ => (nl + nu, [fun j => dI (catA nl L U j)]))]), (5, [(2, .res fun q => dB (decide (0 ≤ ixF (jnP c (capJ (arg q 1) 1 0) (fun j => colI 0 (arg q 0) j)) (lenOf (arg q 0)))))]), (11, [(3, .res fun q => dB (decide (0 ≤ ixF (jnQ c (capJ (arg q 1) 1 0) (fun j => colI 0 (arg q 0) j)) (lenOf (arg q 0)))))])], loops := [(0, { ι := Nat, keep := [2, 3, 5, 17, 18], boxes := [2, 3], ts := fun _ i => [(19, dI (i : Int))], mo := fun _ i => [(5, none, .row (nl + nu) [fun j => dI (catA nl L U j)])], inv := fun _ i => i ≤ no ∧ ndO c (nl + nu) (catA nl L U) O i = true, mu := fun _ i => no - i, rd := fun _ σ => (iOf (σ.get 19)).toNat }), (2, { ι := Nat, keep := [2, 3, 29, 30], boxes := [2, 3], ts := fun _ i => [(31, dI (i : Int))], inv := fun _ i => i ≤ nu ∧ ndU c nl L U i = true, mu := fun _ i => nu - i, rd := fun _ σ => (iOf (σ.get 31)).toNat })], cuts := [] }
noncomputable abbrev fits_nd0 (c : Cat) : DV := .cptr [.lst c.n [fun i => .val (.string (c.nm i)), fun i => (dI (c.K i)), fun i => (dI (c.Q i)), fun i => (dI (c.M i)), fun i => (dI (c.T i)), fun i => (dI (c.E0 i)), fun i => (dI (c.E1 i))], .lst c.m [fun i => (dI (c.P0 i)), fun i => (dI (c.P1 i))]]
noncomputable abbrev fits_nr0 (c : Cat) (nl : Nat) (L : Nat → Int) (nu : Nat) (U : Nat → Int) (no : Nat) (O : Nat → Int) (r : List Prop) : List Prop := (nl = nl) :: (∀ (i : Nat), i < nl → L i = L i) :: (nu = nu) :: (∀ (i : Nat), i < nu → U i = U i) :: (no = no) :: (∀ (i : Nat), i < no → O i = O i) :: (c.n = c.n) :: (∀ (i : Nat), i < c.n → c.nm i = c.nm i) :: (∀ (i : Nat), i < c.n → c.K i = c.K i) :: (∀ (i : Nat), i < c.n → c.Q i = c.Q i) :: (∀ (i : Nat), i < c.n → c.M i = c.M i) :: (∀ (i : Nat), i < c.n → c.T i = c.T i) :: (∀ (i : Nat), i < c.n → c.E0 i = c.E0 i) :: (∀ (i : Nat), i < c.n → c.E1 i = c.E1 i) :: (c.m = c.m) :: (∀ (i : Nat), i < c.m → c.P0 i = c.P0 i) :: (∀ (i : Nat), i < c.m → c.P1 i = c.P1 i) :: r
theorem fits_n (c : Cat) (nl : Nat) (L : Nat → Int) (nu : Nat) (U : Nat → Int) (no : Nat) (O : Nat → Int) (hm : c.m ≤ 1000000) (hl : nl ≤ 100000) (hu : nu ≤ 100000) (ho : no ≤ 100000) : FnC prog 113 [.agg [lsI nl L, lsI nu U, lsI no O], catD c] (dB (nfF c nl L nu U no O)) := by
  refine FnC_owed hmix (A113_fits_n c nl L nu U no O) (V := .need [(2:Nat) ≤ 2, FnR prog 141 [.lst (2:Nat) [fun i => .lst (if decide (i = 0) = true then nl else nu) [fun i_1 => (dI (if decide (i = 0) = true then L i_1 else U i_1))]]] (nl + nu) [fun j => (dI (catA nl L U j))]] (.loop Nat (fun a => a ≤ no ∧ ndO c (nl + nu) (catA nl L U) O a = true) (0:Int).toNat (((0:Int) = (↑(0:Int).toNat : Int)) :: (((0:Nat) = 0) :: ((nl + nu = nl + nu) :: ((no = no) :: ((∀ i < no, O i = O i) :: (((no:Int) = (no:Int)) :: ((nl + nu = nl + nu) :: ((∀ i < nl + nu, catA nl L U i = catA nl L U i) :: (fits_nr0 c nl L nu U no O []))))))))) fun i => .ite (decide ((i:Int) < (no:Int))) (.need [(0:Int) ≤ (i:Int) ∧ (i:Int) < (no:Int)] (.need [nl + nu ≤ nl + nu, FnC prog 89 [.lst (nl + nu) [fun i => (dI (catA nl L U i))], .clo (142:Nat) [(fits_nd0 c), .cptr [(dI (O (i:Int).toNat))]]] ((dB (decide ((0:Int) ≤ ixF (jnP c (O (i:Int).toNat) (catA nl L U)) (nl + nu)))))] (.ite (!decide ((0:Int) ≤ ixF (jnP c (O (i:Int).toNat) (catA nl L U)) (nl + nu))) (.done [false = nfF c nl L nu U no O]) (.need [i64In ((i:Int) + 1)] (.done (((i:Int) + 1 = (↑((i:Int) + 1).toNat : Int)) :: (((0:Nat) = 0) :: ((nl + nu = nl + nu) :: ((no = no) :: ((∀ i < no, O i = O i) :: (((no:Int) = (no:Int)) :: ((nl + nu = nl + nu) :: ((∀ i < nl + nu, catA nl L U i = catA nl L U i) :: (fits_nr0 c nl L nu U no O [Int.toNat ((i:Int) + 1) ≤ no ∧ ndO c (nl + nu) (catA nl L U) O ((i:Int) + 1).toNat = true, no - ((i:Int) + 1).toNat < no - i])))))))))))))) (.loop Nat (fun a => a ≤ nu ∧ ndU c nl L U a = true) (0:Int).toNat (((0:Int) = (↑(0:Int).toNat : Int)) :: ((nu = nu) :: ((∀ i < nu, U i = U i) :: (((nu:Int) = (nu:Int)) :: (fits_nr0 c nl L nu U no O []))))) fun i => .ite (decide ((i:Int) <
     (nu:Int))) (.need [(0:Int) ≤ (i:Int) ∧ (i:Int) < (nu:Int)] (.need [FnC prog 89 [.lst nl [fun j => (dI (L j))], .clo (143:Nat) [(fits_nd0 c), .cptr [(dI (U (i:Int).toNat))]]] ((dB (decide ((0:Int) ≤ ixF (jnQ c (U (i:Int).toNat) L) nl))))] (.ite (decide ((0:Int) ≤ ixF (jnQ c (U (i:Int).toNat) L) nl)) (.done [false = nfF c nl L nu U no O]) (.need [i64In ((i:Int) + 1)] (.done (((i:Int) + 1 = (↑((i:Int) + 1).toNat : Int)) :: ((nu = nu) :: ((∀ i < nu, U i = U i) :: (((nu:Int) = (nu:Int)) :: (fits_nr0 c nl L nu U no O [Int.toNat ((i:Int) + 1) ≤ nu ∧ ndU c nl L U ((i:Int) + 1).toNat = true, nu - ((i:Int) + 1).toNat < nu - i])))))))))) (.done [true = nfF c nl L nu U no O])))) (by kernel_rfl) ?_
  simp only [VT.holds, AllT, fits_nd0, fits_nr0, Sq]
  refine ⟨⟨Nat.le_refl _, concat_c nl L nu U hl hu⟩, rfl, ⟨Nat.zero_le _, rfl⟩, fun i ⟨hi, hg⟩ => ⟨fun hlt => ?_, fun hge => ⟨rfl, ⟨Nat.zero_le _, rfl⟩, fun k ⟨hk, hu'⟩ => ⟨fun hlt2 => ?_, fun hge2 => ?_⟩⟩⟩⟩
  · refine ⟨⟨by omega, by omega⟩, ⟨Nat.le_refl _, containsO_c c _ _ _ hm (by omega)⟩, fun h => ?_, fun h => ⟨by unfold i64In; omega, by omega, ⟨by omega, by rw [ndO, hg]; exact decide_eq_true h⟩, by omega⟩⟩
    rw [nfF, ndO_no h (by omega), Bool.false_and]
  · refine ⟨⟨by omega, by omega⟩, containsU_c c _ _ _ hm (by omega), fun h => ?_, fun h => ⟨by unfold i64In; omega, by omega, ⟨by omega, by rw [ndU, hu', decide_eq_false h]; rfl⟩, by omega⟩⟩
    rw [nfF, ndU_no h (by omega), Bool.and_false]
  · obtain rfl : i = no := by omega
    obtain rfl : k = nu := by omega
    rw [nfF, hg, hu']; rfl
end Go.Abs
end
end
section
set_option linter.unusedVariables false
set_option linter.unusedSimpArgs false
set_option maxRecDepth 100000
namespace Go.Abs
open Go
def cpE (c : Cat) (s : Scf) (l : Nat → Int) (i : Nat) : Int := if ¬ (0 ≤ l i ∧ l i < c.n) then 6 else if c.K (l i).toNat ≠ s.K i then 3 else 0
def jcE (c : Cat) (s : Scf) (n : Nat) (l : Nat → Int) : Int := if n ≠ s.nM then 11 else firstE (cpE c s l) s.nM
def jnE (c : Cat) (s : Scf) (n : Nat) (l : Nat → Int) : Int := if cbE c s ≠ 0 then cbE c s else jcE c s n l
/-- The nodes of a member. -/
def jmN (s : Scf) (m : Nat) : Nat := endN (s.K m) (s.A m) (s.B m)
def jmX (s : Scf) (m j : Nat) : Int := endX s (s.K m) (s.A m) (s.B m) j
/-- The ends of a member at a node. -/
def enD (c : Cat) (s : Scf) (l : Nat → Int) (m : Nat) (x : Int) : Int := if x = s.B m ∧ s.A m ≠ s.B m then c.E1 (l m).toNat else c.E0 (l m).toNat
/-- What ends at each node, by the first members: lower ends, upper ends, others. -/
def lwL (c : Cat) (s : Scf) (l : Nat → Int) : Nat → Nat → List Int
  | 0, _ => []
  | m + 1, i => if s.K m = 0 ∧ s.A m = i then lwL c s l m i ++ [c.E0 (l m).toNat] else lwL c s l m i
def upL (c : Cat) (s : Scf) (l : Nat → Int) : Nat → Nat → List Int
  | 0, _ => []
  | m + 1, i => if s.K m = 0 ∧ s.B m = i then upL c s l m i ++ [c.E1 (l m).toNat] else upL c s l m i
def otK (c : Cat) (s : Scf) (l : Nat → Int) (b : Nat → List Int) (m : Nat) : Nat → Nat → List Int
  | 0, i => b i
  | k + 1, i => if jmX s m k = i then otK c s l b m k i ++ [enD c s l m (jmX s m k)] else otK c s l b m k i
def otL (c : Cat) (s : Scf) (l : Nat → Int) : Nat → Nat → List Int
  | 0, _ => []
  | m + 1, i => if s.K m = 0 then otL c s l m i else otK c s l (otL c s l m) m (jmN s m) i
def otM (c : Cat) (s : Scf) (l : Nat → Int) (m k i : Nat) : List Int := otK c s l (otL c s l m) m k i
/-- What a node's ends are, as counts and columns. -/
def lwN (c : Cat) (s : Scf) (l : Nat → Int) (i : Nat) : Nat := (lwL c s l s.nM i).length
def lwX (c : Cat) (s : Scf) (l : Nat → Int) (i : Nat) (q : Nat) : Int := (lwL c s l s.nM i).getD q 0
def upN (c : Cat) (s : Scf) (l : Nat → Int) (i : Nat) : Nat := (upL c s l s.nM i).length
def upX (c : Cat) (s : Scf) (l : Nat → Int) (i : Nat) (q : Nat) : Int := (upL c s l s.nM i).getD q 0
def otN (c : Cat) (s : Scf) (l : Nat → Int) (i : Nat) : Nat := (otL c s l s.nM i).length
def otX (c : Cat) (s : Scf) (l : Nat → Int) (i : Nat) (q : Nat) : Int := (otL c s l s.nM i).getD q 0
def ndB (c : Cat) (s : Scf) (l : Nat → Int) (i : Nat) : Bool := !nfF c (lwN c s l i) (lwX c s l i) (upN c s l i) (upX c s l i) (otN c s l i) (otX c s l i)
def jtN (c : Cat) (s : Scf) (n : Nat) (l : Nat → Int) : Nat := if jnE c s n l = 0 then flN (ndB c s l) s.nN else 0
/-- Which of the ends one end may be joined with. -/
def jnR (c : Cat) (e : Int) (A : Nat → Int) (j : Nat) : Bool := jnF c e (A j)
def allA (c : Cat) (s : Scf) (l : Nat → Int) (i : Nat) (q : Nat) : Int := catA (upN c s l i) (upX c s l i) (lwX c s l i) q
def okU (c : Cat) (s : Scf) (l : Nat → Int) (i : Nat) : Prop := ∀ j, j < upN c s l i → ∀ q, q < lwN c s l i → jnF c (upX c s l i j) (lwX c s l i q) = true
def okM (c : Cat) (s : Scf) (l : Nat → Int) (i m : Nat) : Prop := s.K m ≠ 0 → (∃ k, k < jmN s m ∧ jmX s m k = i) → ∃ q, q < upN c s l i + lwN c s l i ∧ jnF c (enD c s l m i) (allA c s l i q) = true
theorem jnF_comm (c : Cat) (a b : Int) : jnF c a b = jnF c b a := by unfold jnF; rw [Bool.or_comm]
theorem mem_ot1 {c : Cat} {s : Scf} {l : Nat → Int} {b : Nat → List Int} {m : Nat} {i : Nat} {x : Int} : ∀ {k : Nat}, x ∈ otK c s l b m k i ↔ x ∈ b i ∨ ((∃ j, j < k ∧ jmX s m j = i) ∧ x = enD c s l m i)
  | 0 => by
    rw [otK]
    exact ⟨Or.inl, fun h => h.elim id fun ⟨⟨j, hj, _⟩, _⟩ => absurd hj (Nat.not_lt_zero j)⟩
  | k + 1 => by
    rw [otK]
    split
    · rename_i h
      rw [List.mem_append, mem_ot1, List.mem_singleton, h]
      constructor
      · rintro ((h1 | ⟨⟨j, hj, h1⟩, h2⟩) | h1)
        · exact Or.inl h1
        · exact Or.inr ⟨⟨j, by omega, h1⟩, h2⟩
        · exact Or.inr ⟨⟨k, by omega, h⟩, h1⟩
      · rintro (h1 | ⟨_, h2⟩)
        · exact Or.inl (Or.inl h1)
        · exact Or.inr h2
    · rename_i h
      rw [mem_ot1]
      constructor
      · rintro (h1 | ⟨⟨j, hj, h1⟩, h2⟩)
        · exact Or.inl h1
        · exact Or.inr ⟨⟨j, by omega, h1⟩, h2⟩
      · rintro (h1 | ⟨⟨j, hj, h1⟩, h2⟩)
        · exact Or.inl h1
        · refine Or.inr ⟨⟨j, ?_, h1⟩, h2⟩
          rcases Nat.lt_or_ge j k with h9 | h9
          · exact h9
          · obtain rfl : j = k := by omega
            exact absurd h1 h
theorem mem_ot {c : Cat} {s : Scf} {l : Nat → Int} {i : Nat} {x : Int} : ∀ {n : Nat}, x ∈ otL c s l n i ↔ ∃ m, m < n ∧ s.K m ≠ 0 ∧ (∃ k, k < jmN s m ∧ jmX s m k = i) ∧ x = enD c s l m i
  | 0 => by
    rw [otL]
    exact ⟨fun h => (by cases h), fun ⟨m, hm, _⟩ => absurd hm (Nat.not_lt_zero m)⟩
  | n + 1 => by
    rw [otL]
    split
    · rename_i h
      rw [mem_ot]
      constructor
      · rintro ⟨m, hm, h1⟩
        exact ⟨m, by omega, h1⟩
      · rintro ⟨m, hm, h1⟩
        refine ⟨m, ?_, h1⟩
        rcases Nat.lt_or_ge m n with h9 | h9
        · exact h9
        · obtain rfl : m = n := by omega
          exact absurd h h1.1
    · rename_i h
      rw [mem_ot1, mem_ot]
      constructor
      · rintro (⟨m, hm, h1⟩ | h1)
        · exact ⟨m, by omega, h1⟩
        · exact ⟨n, by omega, h, h1.1, h1.2⟩
      · rintro ⟨m, hm, h1, h2, h3⟩
        rcases Nat.lt_or_ge m n with h9 | h9
        · exact Or.inl ⟨m, h9, h1, h2, h3⟩
        · obtain rfl : m = n := by omega
          exact Or.inr ⟨h2, h3⟩
theorem getD_all {L : List Int} {P : Int → Prop} : (∀ j, j < L.length → P (L.getD j 0)) ↔ ∀ x, x ∈ L → P x := by
  constructor
  · intro h x hx
    obtain ⟨j, hj, rfl⟩ := List.getElem_of_mem hx
    have := h j hj
    rwa [List.getD_eq_getElem?_getD, List.getElem?_eq_getElem hj] at this
  · intro h j hj
    rw [List.getD_eq_getElem?_getD, List.getElem?_eq_getElem hj]
    exact h _ (List.getElem_mem hj)
theorem ix_ex {p : Nat → Bool} {n : Nat} : 0 ≤ ixF p n ↔ ∃ j, j < n ∧ p j = true := by
  rw [← anyN_iff, ← ixF_any', decide_eq_true_eq]
theorem ndO_iff {c : Cat} {n : Nat} {A O : Nat → Int} : ∀ {k : Nat}, ndO c n A O k = true ↔ ∀ j, j < k → ∃ q, q < n ∧ jnF c (A q) (O j) = true
  | 0 => ⟨fun _ j hj => absurd hj (Nat.not_lt_zero j), fun _ => rfl⟩
  | k + 1 => by
    rw [ndO, Bool.and_eq_true, ndO_iff, decide_eq_true_eq, ix_ex]
    constructor
    · rintro ⟨h1, h2⟩ j hj
      rcases Nat.lt_or_ge j k with h9 | h9
      · exact h1 j h9
      · obtain rfl : j = k := by omega
        exact h2
    · intro h
      exact ⟨fun j hj => h j (by omega), h k (by omega)⟩
theorem ndU_iff {c : Cat} {n : Nat} {A U : Nat → Int} : ∀ {k : Nat}, ndU c n A U k = true ↔ ∀ j, j < k → ∀ q, q < n → jnF c (U j) (A q) = true
  | 0 => ⟨fun _ j hj => absurd hj (Nat.not_lt_zero j), fun _ => rfl⟩
  | k + 1 => by
    have e : (!decide (0 ≤ ixF (jnQ c (U k) A) n)) = true ↔ ∀ q, q < n → jnF c (U k) (A q) = true := by
      rw [Bool.not_eq_true', decide_eq_false_iff_not, ix_ex]
      constructor
      · intro h q hq
        cases h1 : jnF c (U k) (A q) with
        | true => rfl
        | false => exact absurd ⟨q, hq, by rw [jnQ, h1]; rfl⟩ h
      · rintro h ⟨q, hq, h1⟩
        rw [jnQ, h q hq] at h1
        cases h1
    rw [ndU, Bool.and_eq_true, ndU_iff, e]
    constructor
    · rintro ⟨h1, h2⟩ j hj
      rcases Nat.lt_or_ge j k with h9 | h9
      · exact h1 j h9
      · obtain rfl : j = k := by omega
        exact h2
    · intro h
      exact ⟨fun j hj => h j (by omega), h k (by omega)⟩
theorem cat_ex {n m : Nat} {A B : Nat → Int} {P : Int → Prop} : (∃ q, q < n + m ∧ P (catA n A B q)) ↔ (∃ q, q < n ∧ P (A q)) ∨ ∃ q, q < m ∧ P (B q) := by
  constructor
  · rintro ⟨q, hq, h⟩
    unfold catA at h
    split at h
    · rename_i h1; exact Or.inl ⟨q, h1, h⟩
    · rename_i h1; exact Or.inr ⟨q - n, by omega, h⟩
  · rintro (⟨q, hq, h⟩ | ⟨q, hq, h⟩)
    · exact ⟨q, by omega, by rw [catA, if_pos hq]; exact h⟩
    · exact ⟨n + q, by omega, by rw [catA, if_neg (by omega), Nat.add_sub_cancel_left]; exact h⟩
/-- A node is as it should be if the reference's two loops find nothing. -/
theorem nd_iff {c : Cat} {s : Scf} {l : Nat → Int} {i : Nat} : ndB c s l i = false ↔ okU c s l i ∧ ∀ m, m < s.nM → okM c s l i m := by
  have hP : ∀ x : Int, (∃ q, q < lwN c s l i + upN c s l i ∧ jnF c (catA (lwN c s l i) (lwX c s l i) (upX c s l i) q) x = true) ↔ ∃ q, q < upN c s l i + lwN c s l i ∧ jnF c x (allA c s l i q) = true := fun x => by
    unfold allA
    rw [cat_ex (P := fun y => jnF c y x = true), cat_ex (P := fun y => jnF c x y = true)]
    simp only [jnF_comm c x]
    exact Or.comm
  have hO : (∀ j, j < otN c s l i → ∃ q, q < lwN c s l i + upN c s l i ∧ jnF c (catA (lwN c s l i) (lwX c s l i) (upX c s l i) q) (otX c s l i j) = true) ↔ ∀ m, m < s.nM → okM c s l i m := by
    simp only [hP]
    unfold otN otX
    rw [getD_all (P := fun x => ∃ q, q < upN c s l i + lwN c s l i ∧ jnF c x (allA c s l i q) = true)]
    constructor
    · intro h m hm hk hx
      exact h _ (mem_ot.2 ⟨m, hm, hk, hx, rfl⟩)
    · intro h x hx
      obtain ⟨m, hm, hk, hx2, rfl⟩ := mem_ot.1 hx
      exact h m hm hk hx2
  rw [ndB, Bool.not_eq_false', nfF, Bool.and_eq_true, ndO_iff, ndU_iff, hO, okU]
  exact And.comm
/-- How long a node's ends may be. -/
theorem lwL_len {c : Cat} {s : Scf} {l : Nat → Int} {i : Nat} : ∀ n, (lwL c s l n i).length ≤ n
  | 0 => Nat.le_refl _
  | n + 1 => by
    have := lwL_len (c := c) (s := s) (l := l) (i := i) n
    rw [lwL]
    split
    · rw [List.length_append, List.length_singleton]; omega
    · omega
theorem upL_len {c : Cat} {s : Scf} {l : Nat → Int} {i : Nat} : ∀ n, (upL c s l n i).length ≤ n
  | 0 => Nat.le_refl _
  | n + 1 => by
    have := upL_len (c := c) (s := s) (l := l) (i := i) n
    rw [upL]
    split
    · rw [List.length_append, List.length_singleton]; omega
    · omega
theorem otK_len {c : Cat} {s : Scf} {l : Nat → Int} {b : Nat → List Int} {m : Nat} {i : Nat} : ∀ k, (otK c s l b m k i).length ≤ (b i).length + k
  | 0 => Nat.le_refl _
  | k + 1 => by
    have := otK_len (c := c) (s := s) (l := l) (b := b) (m := m) (i := i) k
    rw [otK]
    split
    · rw [List.length_append, List.length_singleton]; omega
    · omega
theorem otL_len {c : Cat} {s : Scf} {l : Nat → Int} {i : Nat} : ∀ n, (otL c s l n i).length ≤ 4 * n
  | 0 => Nat.le_refl _
  | n + 1 => by
    have h := otL_len (c := c) (s := s) (l := l) (i := i) n
    rw [otL]
    split
    · omega
    · have h1 := otK_len (c := c) (s := s) (l := l) (b := otL c s l n) (m := n) (i := i) (jmN s n)
      have h2 : jmN s n ≤ 4 := by
        unfold jmN endN
        split
        · omega
        · split <;> omega
      omega
theorem getD_ap1 {L : List Int} {x : Int} {q : Nat} (h : q < (L ++ [x]).length) : (L ++ [x]).getD q 0 = if q < L.length then L.getD q 0 else x := by
  rw [List.length_append, List.length_singleton] at h
  rw [List.getD_eq_getElem?_getD, List.getD_eq_getElem?_getD]
  split
  · rename_i h1
    rw [List.getElem?_append_left h1]
  · rename_i h1
    rw [List.getElem?_append_right (by omega), show q - L.length = 0 by omega]
    rfl
end Go.Abs
end
