/- Contracts. Contracts. -/
import Derived.Test.YtbemjdppfiabgaaK18
section
set_option linter.unusedVariables false
set_option linter.unusedSimpArgs false
set_option maxRecDepth 100000
namespace Go.Abs
open Go
noncomputable def A45_copyInts_c (n : Nat) (A : Nat → Int) : Ann := { orc := [], loops := [], cuts := [] }
theorem copyInts_c (n : Nat) (A : Nat → Int) (hn : n ≤ 1000000) : FnC prog 45 [nums n A] (nums n A) := by
  refine FnC_owed hmix (A45_copyInts_c n A) (V := .need [(0:Nat) ≤ 0, ((0:Nat) + n) * (nat_lit 7 + 1) ≤ 140737488355328] (.done [(0:Nat) + n ≤ 0 + n, (0:Nat) + n = n, ∀ i < n, (if decide (i < 0) = true then (0:Int) else A (i - 0)) = A i])) (by kernel_rfl) ?_
  simp only [VT.holds, AllT, Sq]
  exact ⟨⟨Nat.le_refl _, by omega⟩, Nat.le_refl _, Nat.zero_add _, fun i _ => by rw [if_neg (Nat.not_lt_zero i)]; rfl⟩
end Go.Abs
end
section
set_option linter.unusedVariables false
set_option linter.unusedSimpArgs false
set_option maxRecDepth 100000
namespace Go.Abs
open Go
def ftB2 (k q k' q' : Int) : Bool := decide (k = k' ∧ q = q')
def ftP (c : Cat) (k q : Int) (j : Nat) : Bool := ftB2 (c.K j) (c.Q j) k q
def prP (c : Cat) (a b : Int) (j : Nat) : Bool := decide (a = c.P0 j ∧ b = c.P1 j)
theorem ixF_any' (p : Nat → Bool) : ∀ n, decide (0 ≤ ixF p n) = anyN p n
  | 0 => rfl
  | n + 1 => by
    have ih := ixF_any' p n
    rw [anyN, ← ih, ixF]
    by_cases h : 0 ≤ ixF p n
    · rw [if_pos h, decide_eq_true h, Bool.or_true]
    · rw [if_neg h, decide_eq_false h, Bool.or_false]
      cases e : p n with
      | true => rw [if_pos rfl, decide_eq_true (by omega)]
      | false => rw [if_neg (by decide)]; rfl
def jnF (c : Cat) (a b : Int) : Bool := decide (0 ≤ ixF (prP c a b) c.m) || decide (0 ≤ ixF (prP c b a) c.m)
def joP (c : Cat) (a b : Int) (j : Nat) : Bool := decide (c.P0 j = a ∧ c.P1 j = b ∨ c.P0 j = b ∧ c.P1 j = a)
theorem jn_any (c : Cat) (a b : Int) : jnF c a b = anyN (joP c a b) c.m := by
  unfold jnF
  rw [ixF_any', ixF_any']
  generalize c.m = n
  induction n with
  | zero => rfl
  | succ n ih =>
    rw [anyN, anyN, anyN, ← ih]
    have e : joP c a b n = (prP c a b n || prP c b a n) := by
      unfold joP prP
      rw [← Bool.decide_or]
      exact decide_eq_decide.2 (by omega)
    rw [e]
    cases prP c a b n <;> cases prP c b a n <;> cases anyN (prP c a b) n <;> cases anyN (prP c b a) n <;> rfl
theorem ct_n2 {c : Cat} (h : ctE c = 0) : c.n ≤ 60 := by
  rw [ctE] at h
  split at h
  · cases h
  · omega
theorem ct_m {c : Cat} (h : ctE c = 0) : c.m ≤ 1000000 := by
  rw [ctE] at h
  split at h
  · cases h
  · split at h
    · rename_i h1; exact absurd h h1
    · split at h
      · cases h
      · omega
noncomputable def A161_indexR_c (c : Cat) (a b : Int) : Ann := { orc := [], loops := [(0, { ι := Nat, keep := [0, 3, 7], boxes := [3], ts := fun _ i => [(8, dI (i : Int))], inv := fun _ i => i ≤ c.m ∧ ∀ j, j < i → prP c a b j = false, mu := fun _ i => c.m - i, rd := fun _ σ => (iOf (σ.get 8)).toNat })], cuts := [] }
theorem indexR_c (c : Cat) (a b : Int) (hn : c.m ≤ 1000000) : FnC prog 161 [prsD c, .val (.agg #[.int .i64 a, .int .i64 b])] (dI (ixF (prP c a b) c.m)) := by
  refine FnC_owed hmix (A161_indexR_c c a b) (V := .loop Nat (fun a_1 => a_1 ≤ c.m ∧ ∀ (j : Nat), j < a_1 → prP c a b j = false) (0:Int).toNat [(0:Int) = (↑(0:Int).toNat : Int), c.m = c.m, ∀ i < c.m, c.P0 i = c.P0 i, ∀ i < c.m, c.P1 i = c.P1 i, (c.m:Int) = (c.m:Int), a = a, b = b] fun i => .ite (decide ((i:Int) < (c.m:Int))) (.need [(0:Int) ≤ (i:Int) ∧ (i:Int) < (c.m:Int)] (.ite (a == c.P0 (i:Int).toNat && (b == c.P1 (i:Int).toNat && true)) (.done [(i:Int) = ixF (prP c a b) c.m]) (.need [i64In ((i:Int) + 1)] (.done [(i:Int) + 1 = (↑((i:Int) + 1).toNat : Int), c.m = c.m, ∀ i < c.m, c.P0 i = c.P0 i, ∀ i < c.m, c.P1 i = c.P1 i, (c.m:Int) = (c.m:Int), a = a, b = b, Int.toNat ((i:Int) + 1) ≤ c.m ∧ ∀ (j : Nat), j < ((i:Int) + 1).toNat → prP c a b j = false, c.m - ((i:Int) + 1).toNat < c.m - i])))) (.done [(-1:Int) = ixF (prP c a b) c.m])) (by kernel_rfl) ?_
  simp only [VT.holds, AllT, Sq]
  refine ⟨rfl, ⟨Nat.zero_le _, fun j hj => absurd hj (Nat.not_lt_zero j)⟩, fun i ⟨hi, hb'⟩ => ⟨fun hlt => ?_, fun hge => ?_⟩⟩
  · have hlt : i < c.m := by omega
    refine ⟨by omega, fun h => ?_, fun h => ⟨by unfold i64In; omega, by omega, ⟨by omega, fun j hj => ?_⟩, by omega⟩⟩
    · exact (ixF_at hb' (decide_eq_true h) hlt).symm
    · rcases Nat.lt_or_ge j i with h9 | h9
      · exact hb' j h9
      · obtain rfl : j = i := by omega
        exact decide_eq_false fun h' => absurd (h h'.1 h'.2) (by decide)
  · obtain rfl : i = c.m := by omega
    exact (ixF_none hb').symm
noncomputable def A140_containsR_c (c : Cat) (a b : Int) : Ann := { orc := [(1, [(2, .res fun q => dI (ixF (prP c (fI 0 (arg q 1)) (fI 1 (arg q 1))) c.m))])], loops := [], cuts := [] }
theorem containsR_c (c : Cat) (a b : Int) (hn : c.m ≤ 1000000) : FnC prog 140 [prsD c, .val (.agg #[.int .i64 a, .int .i64 b])] (dB (decide (0 ≤ ixF (prP c a b) c.m))) := by
  refine FnC_owed hmix (A140_containsR_c c a b) (V := .need [FnC prog 161 [.lst c.m [fun i => (dI (c.P0 i)), fun i => (dI (c.P1 i))], .val (.agg (Array.mk [.int .i64 a, .int .i64 b]))] ((dI (ixF (prP c a b) c.m)))] (.done [decide (ixF (prP c a b) c.m ≥ 0) = decide ((0:Int) ≤ ixF (prP c a b) c.m)])) (by kernel_rfl) ?_
  simp only [VT.holds, AllT, Sq]
  exact indexR_c c a b hn
noncomputable def A110_joins_c (c : Cat) (a b : Int) : Ann := { orc := [(1, [(5, .res fun q => dB (decide (0 ≤ ixF (prP c (fI 0 (arg q 1)) (fI 1 (arg q 1))) c.m))), (12, .res fun q => dB (decide (0 ≤ ixF (prP c (fI 0 (arg q 1)) (fI 1 (arg q 1))) c.m)))])], loops := [], cuts := [] }
noncomputable abbrev q_joins_c_0 (c : Cat) (a : Int) (b : Int) : Bool := decide ((0:Int) ≤ ixF (prP c a b) c.m)
theorem joins_c (c : Cat) (a b : Int) (hn : c.m ≤ 1000000) : FnC prog 110 [catD c, dI a, dI b] (dB (jnF c a b)) := by
  refine FnC_owed hmix (A110_joins_c c a b) (V := .need [FnC prog 140 [.lst c.m [fun i => (dI (c.P0 i)), fun i => (dI (c.P1 i))], .val (.agg (Array.mk [.int .i64 a, .int .i64 b]))] ((dB ((q_joins_c_0 c a b)))), ri ((!(q_joins_c_0 c a b)) = true), ri ((!(q_joins_c_0 c a b)) = true), ri ((!(q_joins_c_0 c a b)) = true), ri ((!(q_joins_c_0 c a b)) = true), ri ((!(q_joins_c_0 c a b)) = true), (!(q_joins_c_0 c a b)) = true → FnC prog 140 [.lst c.m [fun i => (dI (c.P0 i)), fun i => (dI (c.P1 i))], .val (.agg (Array.mk [.int .i64 b, .int .i64 a]))] ((dB (decide ((0:Int) ≤ ixF (prP c b a) c.m)))), (q_joins_c_0 c a b) = false → (!(q_joins_c_0 c a b)) = true] (.done [(if (q_joins_c_0 c a b) = true then true else decide ((0:Int) ≤ ixF (prP c b a) c.m)) = jnF c a b])) (by kernel_rfl) ?_
  simp only [q_joins_c_0, VT.holds, AllT, Sq]
  exact ⟨⟨containsR_c c a b hn, fun _ => containsR_c c b a hn⟩, rfl⟩
noncomputable def A52_fittingR_c (c : Cat) (k q : Int) : Ann := { orc := [], loops := [(0, { ι := Nat, keep := [1, 2, 3], boxes := [3], ts := fun _ i => [(8, dI (i : Int))], rw := fun _ i => [(7, 1, flN (ftP c k q) i, [fun j => dI (flI (ftP c k q) i j)])], inv := fun _ i => i ≤ c.n, mu := fun _ i => c.n - i, rd := fun _ σ => (iOf (σ.get 8)).toNat })], cuts := [] }
noncomputable abbrev fittingR_cr0 (c : Cat) (r : List Prop) : List Prop := (c.n = c.n) :: (∀ (i : Nat), i < c.n → c.nm i = c.nm i) :: (∀ (i : Nat), i < c.n → c.K i = c.K i) :: (∀ (i : Nat), i < c.n → c.Q i = c.Q i) :: (∀ (i : Nat), i < c.n → c.M i = c.M i) :: (∀ (i : Nat), i < c.n → c.T i = c.T i) :: (∀ (i : Nat), i < c.n → c.E0 i = c.E0 i) :: (∀ (i : Nat), i < c.n → c.E1 i = c.E1 i) :: (c.m = c.m) :: (∀ (i : Nat), i < c.m → c.P0 i = c.P0 i) :: (∀ (i : Nat), i < c.m → c.P1 i = c.P1 i) :: r
theorem fittingR_c (c : Cat) (k q : Int) (hn : c.n ≤ 1000000) : FnC prog 52 [catD c, dI k, dI q] (.lst (flN (ftP c k q) c.n) [fun j => dI (flI (ftP c k q) c.n j)]) := by
  refine FnC_owed hmix (A52_fittingR_c c k q) (V := .loop Nat (fun a => a ≤ c.n) (0:Int).toNat (((0:Int) = (↑(0:Int).toNat : Int)) :: (((0:Nat) = 0) :: ((flN (ftP c k q) (0:Int).toNat = 0) :: ((k = k) :: ((q = q) :: ((flN (ftP c k q) (0:Int).toNat = 0) :: (fittingR_cr0 c []))))))) fun i => .ite (decide ((i:Int) < (c.n:Int))) (.need [(0:Int) ≤ (i:Int) ∧ (i:Int) < (c.n:Int), ri ((c.K (i:Int).toNat == k) = true), ri ((c.K (i:Int).toNat == k) = true), ri ((c.K (i:Int).toNat == k) = true), (c.K (i:Int).toNat == k) = true → (0:Int) ≤ (i:Int) ∧ (i:Int) < (c.n:Int), ri ((c.K (i:Int).toNat == k) = true), ri ((c.K (i:Int).toNat == k) = true), ri ((c.K (i:Int).toNat == k) = true), ri ((c.K (i:Int).toNat == k) = true), ri ((c.K (i:Int).toNat == k) = true)] (.ite (if (c.K (i:Int).toNat == k) = true then c.Q (i:Int).toNat == q else false) (.need [flN (ftP c k q) i ≤ flN (ftP c k q) i, (flN (ftP c k q) i + 1) * (nat_lit 7 + 1) ≤ 140737488355328, (1:Nat) ≤ 1] (.need [i64In ((i:Int) + 1)] (.done (((i:Int) + 1 = (↑((i:Int) + 1).toNat : Int)) :: (((0:Nat) = 0) :: ((flN (ftP c k q) i + 1 = flN (ftP c k q) ((i:Int) + 1).toNat) :: ((k = k) :: ((q = q) :: ((flN (ftP c k q) i + 1 = flN (ftP c k q) ((i:Int) + 1).toNat) :: ((∀ i_1 < flN (ftP c k q) ((i:Int) + 1).toNat, (if decide (i_1 < flN (ftP c k q) i) = true then (↑(flI (ftP c k q) i i_1) : Int) else (i:Int)) = (↑(flI (ftP c k q) (Int.toNat
     ((i:Int) + 1)) i_1) : Int)) :: (fittingR_cr0 c [Int.toNat ((i:Int) + 1) ≤ c.n, c.n - ((i:Int) + 1).toNat < c.n - i]))))))))))) (.need [i64In ((i:Int) + 1)] (.done (((i:Int) + 1 = (↑((i:Int) + 1).toNat : Int)) :: (((0:Nat) = 0) :: ((flN (ftP c k q) i = flN (ftP c k q) ((i:Int) + 1).toNat) :: ((k = k) :: ((q = q) :: ((flN (ftP c k q) i = flN (ftP c k q) ((i:Int) + 1).toNat) :: ((∀ i_1 < flN (ftP c k q) ((i:Int) + 1).toNat, (↑(flI (ftP c k q) i i_1) : Int) = (↑(flI (ftP c k q) ((i:Int) + 1).toNat i_1) : Int)) :: (fittingR_cr0 c [Int.toNat ((i:Int) + 1) ≤ c.n, c.n - ((i:Int) + 1).toNat < c.n - i])))))))))))) (.done [flN (ftP c k q) i ≤ flN (ftP c k q) i, flN (ftP c k q) i = flN (ftP c k q) c.n, ∀ i_1 < flN (ftP c k q) c.n, (↑(flI (ftP c k q) i i_1) : Int) = (↑(flI (ftP c k q) c.n i_1) : Int)])) (by kernel_rfl) ?_
  simp only [VT.holds, AllT, fittingR_cr0, Sq]
  refine ⟨⟨rfl, rfl, rfl⟩, Nat.zero_le _, fun i hi => ⟨fun hlt => ⟨⟨by omega, fun _ => by omega⟩, fun h => ?_, fun h => ?_⟩, fun hge => ?_⟩⟩
  · have hp : (ftP c k q) i = true := decide_eq_true h
    have := flN_le (ftP c k q) i
    exact ⟨⟨Nat.le_refl _, by omega, Nat.le_refl _⟩, by unfold i64In; omega, by omega, (flN_yes hp).symm, (flN_yes hp).symm, fun q hq => flI_yes' hp (fun q : Nat => (q : Int)) hq, by omega, by omega⟩
  · have hp : ¬ (ftP c k q) i = true := (fun h' => by have h' := of_decide_eq_true h'; exact h h'.1 h'.2)
    exact ⟨by unfold i64In; omega, by omega, (flN_no hp).symm, (flN_no hp).symm, fun q _ => by rw [flI_no hp], by omega, by omega⟩
  · obtain rfl : i = c.n := by omega
    exact ⟨Nat.le_refl _, rfl, fun _ _ => rfl⟩
noncomputable def A55_joinsR_c (c : Cat) (a b : Int) : Ann := { orc := [], loops := [(0, { ι := Nat, keep := [1, 2, 3], boxes := [3], ts := fun _ i => [(7, dI (i : Int))], inv := fun _ i => i ≤ c.m ∧ ∀ j, j < i → joP c a b j = false, mu := fun _ i => c.m - i, rd := fun _ σ => (iOf (σ.get 7)).toNat })], cuts := [] }
noncomputable abbrev q_joinsR_c_0 (c : Cat) (i : Nat) (a : Int) (b : Int) : Bool := !if (c.P0 (Int.toNat (i:Int)) == a) = true then c.P1 (Int.toNat (i:Int)) == b else false
noncomputable abbrev joinsR_cr0 (c : Cat) (r : List Prop) : List Prop := (c.n = c.n) :: (∀ (i : Nat), i < c.n → c.nm i = c.nm i) :: (∀ (i : Nat), i < c.n → c.K i = c.K i) :: (∀ (i : Nat), i < c.n → c.Q i = c.Q i) :: (∀ (i : Nat), i < c.n → c.M i = c.M i) :: (∀ (i : Nat), i < c.n → c.T i = c.T i) :: (∀ (i : Nat), i < c.n → c.E0 i = c.E0 i) :: (∀ (i : Nat), i < c.n → c.E1 i = c.E1 i) :: (c.m = c.m) :: (∀ (i : Nat), i < c.m → c.P0 i = c.P0 i) :: (∀ (i : Nat), i < c.m → c.P1 i = c.P1 i) :: r
theorem joinsR_c (c : Cat) (a b : Int) (hn : c.m ≤ 1000000) : FnC prog 55 [catD c, dI a, dI b] (dB (anyN (joP c a b) c.m)) := by
  refine FnC_owed hmix (A55_joinsR_c c a b) (V := .loop Nat (fun a_1 => a_1 ≤ c.m ∧ ∀ (j : Nat), j < a_1 → joP c a b j = false) (0:Int).toNat (((0:Int) = (↑(0:Int).toNat : Int)) :: ((a = a) :: ((b = b) :: (joinsR_cr0 c [])))) fun i => .ite (decide ((i:Int) < (c.m:Int))) (.need [(0:Int) ≤ (i:Int) ∧ (i:Int) < (c.m:Int)] (.need [(0:Int) ≤ 0 ∧ (0:Int) < (↑(2:Nat) : Int), (c.P0 (i:Int).toNat == a) = true → (0:Int) ≤ 1 ∧ (1:Int) < (↑(2:Nat) : Int), ri ((c.P0 (i:Int).toNat == a) = true), ri ((c.P0 (i:Int).toNat == a) = true), ri ((c.P0 (i:Int).toNat == a) = true), ri ((c.P0 (i:Int).toNat == a) = true), (q_joinsR_c_0 c i a b) = true → (0:Int) ≤ 0 ∧ (0:Int) < (↑(2:Nat) : Int), ri ((q_joinsR_c_0 c i a b) = true), ri ((q_joinsR_c_0 c i a b) = true), ri ((q_joinsR_c_0 c i a b) = true), ri ((q_joinsR_c_0 c i a b) = true), ((q_joinsR_c_0 c i a b) && c.P0 (i:Int).toNat == b) = true → (0:Int) ≤ 1 ∧ (1:Int) < (↑(2:Nat) : Int), ri (((q_joinsR_c_0 c i a b) && c.P0 (i:Int).toNat == b) = true), ri (((q_joinsR_c_0 c i a b) && c.P0 (i:Int).toNat == b) = true), ri (((q_joinsR_c_0 c i a b) && c.P0 (i:Int).toNat == b) = true), ri ((q_joinsR_c_0 c i a b) = true), (q_joinsR_c_0 c i a b) = true → (c.P0 (i:Int).toNat == b) = true → ((q_joinsR_c_0 c i a b) && c.P0 (i:Int).toNat == b) = true, (if (c.P0 (i:Int).toNat == a) = true then c.P1 (i:Int).toNat == b else
     false) = false → (q_joinsR_c_0 c i a b) = true] (.ite (if (if (c.P0 (i:Int).toNat == a) = true then c.P1 (i:Int).toNat == b else false) = true then true else if (c.P0 (i:Int).toNat == b) = true then c.P1 (i:Int).toNat == a else false) (.done [true = anyN (joP c a b) c.m]) (.need [i64In ((i:Int) + 1)] (.done (((i:Int) + 1 = (↑((i:Int) + 1).toNat : Int)) :: ((a = a) :: ((b = b) :: (joinsR_cr0 c [Int.toNat ((i:Int) + 1) ≤ c.m ∧ ∀ (j : Nat), j < ((i:Int) + 1).toNat → joP c a b j = false, c.m - ((i:Int) + 1).toNat < c.m - i]))))))))) (.done [false = anyN (joP c a b) c.m])) (by kernel_rfl) ?_
  simp only [q_joinsR_c_0, VT.holds, AllT, Sq]
  refine ⟨rfl, ⟨Nat.zero_le _, fun j hj => absurd hj (Nat.not_lt_zero j)⟩, fun i ⟨hi, hb'⟩ => ⟨fun hlt => ?_, fun hge => ?_⟩⟩
  · have hlt : i < c.m := by omega
    refine ⟨by omega, ⟨⟨by decide, by decide⟩, fun _ => ⟨by decide, by decide⟩, fun _ => ⟨by decide, by decide⟩, fun _ => ⟨by decide, by decide⟩, fun h1 h2 => ⟨h1, h2⟩⟩, fun h => ?_, fun h => ⟨by unfold i64In; omega, by omega, ⟨by omega, fun j hj => ?_⟩, by omega⟩⟩
    · exact (anyN_iff.2 ⟨i, hlt, decide_eq_true h⟩).symm
    · rcases Nat.lt_or_ge j i with h9 | h9
      · exact hb' j h9
      · obtain rfl : j = i := by omega
        refine decide_eq_false fun h' => ?_
        rcases h' with h' | h'
        · exact h.1 h'
        · exact h.2 h'.1 h'.2
  · obtain rfl : i = c.m := by omega
    exact (anyN_none hb').symm
end Go.Abs
end
