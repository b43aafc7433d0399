/- Contracts. -/
import Derived.Test.YtdhnfeoigmeopaaDoorLa
set_option maxRecDepth 100000
namespace Go.Abs
open Go
abbrev dP (x y : Int) : DV := .val (.agg #[.int .i64 x, .int .i64 y])
abbrev aN (l : List DV) : Nat := lenOf (arg l 0)
abbrev aX (l : List DV) : Nat → Int := colI 0 (arg l 0)
abbrev aI (l : List DV) (j : Nat) : Int := iOf (arg l j)
theorem toNat_succ (i : Nat) : Int.toNat ((i : Int) + 1) = i + 1 := by omega
theorem toNat_add2 (i : Nat) : Int.toNat ((i : Int) + 2) = i + 2 := by omega
theorem toNat_zero' : Int.toNat (0:Int) = 0 := rfl
def IsFirst (p : Nat → Bool) (n : Nat) (r : Int) : Prop := (r = -1 ∧ ∀ j, j < n → p j = false) ∨ ∃ i : Nat, i < n ∧ r = i ∧ p i = true ∧ ∀ j, j < i → p j = false
theorem isFirst_exists (p : Nat → Bool) (n : Nat) : ∃ r, IsFirst p n r := by
  induction n with
  | zero => exact ⟨-1, .inl ⟨rfl, fun j h => by omega⟩⟩
  | succ n ih =>
    obtain ⟨r, ⟨h1, h2⟩ | ⟨i, h1, h2, h3, h4⟩⟩ := ih
    · cases hp : p n with
      | true => exact ⟨n, .inr ⟨n, by omega, rfl, hp, h2⟩⟩
      | false =>
        refine ⟨-1, .inl ⟨rfl, fun j h => ?_⟩⟩
        by_cases e : j = n
        · rw [e]; exact hp
        · exact h2 j (by omega)
    · exact ⟨r, .inr ⟨i, by omega, h2, h3, h4⟩⟩
def anyN (p : Nat → Bool) (n : Nat) : Bool := !decide (∀ k, k < n → p k = false)
theorem first_any {p : Nat → Bool} {n : Nat} {r : Int} (h : IsFirst p n r) : decide (r ≥ 0) = anyN p n := by
  unfold anyN
  rcases h with ⟨h1, h2⟩ | ⟨i, h1, h2, h3, h4⟩
  · rw [decide_eq_true h2, h1]; rfl
  · have hf : ¬ ∀ k, k < n → p k = false := fun h => by rw [h i h1] at h3; cases h3
    rw [decide_eq_false hf, h2]; simp
def inR (x lo hi : Int) : Bool := decide (lo ≤ x ∧ x ≤ hi)
def rIn : Orc := .res fun l => dB (inR (aI l 0) (aI l 1) (aI l 2))
def badL (x : Int) : Bool := !inR x 1 10000
theorem first_step {p : Nat → Bool} {n i : Nat} {r : Int} (h : IsFirst p n r) (hi : i < n) (hb : ∀ j, j < i → p j = false) (hp : p i = true) : r = i := by
  rcases h with ⟨h1, h2⟩ | ⟨k, h1, h2, h3, h4⟩
  · rw [h2 i hi] at hp; cases hp
  · rcases Nat.lt_trichotomy i k with hk | hk | hk
    · rw [h4 i hk] at hp; cases hp
    · rw [h2, hk]
    · rw [hb k hk] at h3; cases h3
theorem first_none {p : Nat → Bool} {n : Nat} {r : Int} (h : IsFirst p n r) (hb : ∀ j, j < n → p j = false) : r = -1 := by
  rcases h with ⟨h1, h2⟩ | ⟨k, h1, h2, h3, h4⟩
  · exact h1
  · rw [hb k h1] at h3; cases h3
noncomputable def A46_within_c (n lo hi : Int) : Ann := { orc := [], loops := [], cuts := [] }
theorem within_c (n lo hi : Int)  : FnC prog 46 [dI n, dI lo, dI hi] (dB (inR n lo hi)) := by
  refine FnC_owed hmix (A46_within_c n lo hi) (V := .need [ri (decide (n ≥ lo) = true), ri (decide (n ≥ lo) = true), ri (decide (n ≥ lo) = true)] (.done [(if decide (n ≥ lo) = true then decide (n ≤ hi) else false) = inR n lo hi])) (by kernel_rfl) ?_
  simp only [VT.holds, AllT, Sq]
  simp [inR]
noncomputable def A31_withinR_c (n lo hi : Int) : Ann := { orc := [], loops := [], cuts := [] }
theorem withinR_c (n lo hi : Int)  : FnC prog 31 [dI n, dI lo, dI hi] (dB (inR n lo hi)) := by
  refine FnC_owed hmix (A31_withinR_c n lo hi) (V := .need [ri (decide (n ≥ lo) = true), ri (decide (n ≥ lo) = true), ri (decide (n ≥ lo) = true)] (.done [(if decide (n ≥ lo) = true then decide (n ≤ hi) else false) = inR n lo hi])) (by kernel_rfl) ?_
  simp only [VT.holds, AllT, Sq]
  simp [inR]
noncomputable def A65_bad_c (n : Int) : Ann := { orc := [(1, [(1, rIn)])], loops := [], cuts := [] }
theorem bad_c (n : Int)  : FnC prog 65 [dI n] (dB (badL n)) := by
  refine FnC_owed hmix (A65_bad_c n) (V := .need [FnC prog 46 [(dI n), (dI (1:Int)), (dI (10000:Int))] ((dB (inR n (1:Int) (10000:Int))))] (.done [(!inR n (1:Int) (10000:Int)) = badL n])) (by kernel_rfl) ?_
  simp only [VT.holds, AllT, Sq]
  exact ⟨within_c _ _ _, rfl⟩
noncomputable def A70_index_c (g : Nat) (p : Int → Bool) (n : Nat) (A : Nat → Int) (r : Int) : Ann := { orc := [(4, [(5, .res fun l => dB (p (aI l 0)))])], loops := [(0, { ι := Nat, keep := [0, 1, 7], boxes := [], ts := fun _ i => [(8, dI (i : Int))], inv := fun _ i => i ≤ n ∧ ∀ j, j < i → p (A j) = false, mu := fun _ i => n - i, rd := fun _ σ => (iOf (σ.get 8)).toNat })], cuts := [] }
theorem index_c (g : Nat) (p : Int → Bool) (n : Nat) (A : Nat → Int) (r : Int) (hn2 : n ≤ 1000000) (hg : ∀ x, FnC prog g [dI x] (dB (p x))) (h : IsFirst (fun k => p (A k)) n r) : FnC prog 70 [nums n A, .val (.func (.func g) #[] #[])] (dI r) := by
  refine FnC_owed hmix (A70_index_c g p n A r) (V := .loop Nat (fun a => a ≤ n ∧ ∀ (j : Nat), j < a → p (A j) = false) (0:Int).toNat [(0:Int) = (↑(0:Int).toNat : Int), n = n, ∀ i < n, A i = A i, Value.func (Fn.func g) (Array.mk []) (Array.mk []) = Value.func (Fn.func g) (Array.mk []) (Array.mk []), (n:Int) = (n:Int)] fun i => .ite (decide ((i:Int) < (n:Int))) (.need [(0:Int) ≤ (i:Int) ∧ (i:Int) < (n:Int), FnC prog g [(dI (A (i:Int).toNat))] ((dB (p (A (i:Int).toNat))))] (.ite (p (A (i:Int).toNat)) (.done [(i:Int) = r]) (.need [i64In ((i:Int) + 1)] (.done [(i:Int) + 1 = (↑((i:Int) + 1).toNat : Int), n = n, ∀ i < n, A i = A i, Value.func (Fn.func g) (Array.mk []) (Array.mk []) = Value.func (Fn.func g) (Array.mk []) (Array.mk []), (n:Int) = (n:Int), Int.toNat ((i:Int) + 1) ≤ n ∧ ∀ (j : Nat), j < ((i:Int) + 1).toNat → p (A j) = false, n - ((i:Int) + 1).toNat < n - i])))) (.done [(-1:Int) = r])) (by kernel_rfl) ?_
  simp only [VT.holds, AllT, Sq]
  refine ⟨rfl, ⟨Nat.zero_le n, fun j hj => by omega⟩, fun i ⟨hi, hb⟩ => ⟨fun hlt => ⟨⟨by omega, hg _⟩, fun hbad => (first_step h (by omega) hb hbad).symm, fun hok => ⟨by unfold i64In; omega, rfl, ⟨by omega, fun j hj => ?_⟩, by omega⟩⟩, fun hge => (first_none h fun j hj => hb j (by omega)).symm⟩⟩
  by_cases e : j = i
  · rw [e]; exact hok
  · exact hb j (by omega)
noncomputable def A70_indexC_c (p : Int → Bool) (n : Nat) (A : Nat → Int) (m : Nat) (O : Nat → Int) (r : Int) : Ann := { orc := [(4, [(5, .res fun l => dB (p (aI l 0)))])], loops := [(0, { ι := Nat, keep := [0, 1, 7], boxes := [], ts := fun _ i => [(8, dI (i : Int))], inv := fun _ i => i ≤ n ∧ ∀ j, j < i → p (A j) = false, mu := fun _ i => n - i, rd := fun _ σ => (iOf (σ.get 8)).toNat })], cuts := [] }
theorem indexC_c (p : Int → Bool) (n : Nat) (A : Nat → Int) (m : Nat) (O : Nat → Int) (r : Int) (hn2 : n ≤ 1000000) (hg : ∀ x, FnC prog 55 [dI x, .cptr [nums m O]] (dB (p x))) (h : IsFirst (fun k => p (A k)) n r) : FnC prog 70 [nums n A, .clo 55 [.cptr [nums m O]]] (dI r) := by
  refine FnC_owed hmix (A70_indexC_c p n A m O r) (V := .loop Nat (fun a => a ≤ n ∧ ∀ (j : Nat), j < a → p (A j) = false) (0:Int).toNat [(0:Int) = (↑(0:Int).toNat : Int), n = n, ∀ i < n, A i = A i, m = m, ∀ i < m, O i = O i, (n:Int) = (n:Int)] fun i => .ite (decide ((i:Int) < (n:Int))) (.need [(0:Int) ≤ (i:Int) ∧ (i:Int) < (n:Int), FnC prog (55 : FuncId) [(dI (A (i:Int).toNat)), .cptr [.lst m [fun i => (dI (O i))]]] ((dB (p (A (i:Int).toNat))))] (.ite (p (A (i:Int).toNat)) (.done [(i:Int) = r]) (.need [i64In ((i:Int) + 1)] (.done [(i:Int) + 1 = (↑((i:Int) + 1).toNat : Int), n = n, ∀ i < n, A i = A i, m = m, ∀ i < m, O i = O i, (n:Int) = (n:Int), Int.toNat ((i:Int) + 1) ≤ n ∧ ∀ (j : Nat), j < ((i:Int) + 1).toNat → p (A j) = false, n - ((i:Int) + 1).toNat < n - i])))) (.done [(-1:Int) = r])) (by kernel_rfl) ?_
  simp only [VT.holds, AllT, Sq]
  refine ⟨rfl, ⟨Nat.zero_le n, fun j hj => by omega⟩, fun i ⟨hi, hb⟩ => ⟨fun hlt => ⟨⟨by omega, hg _⟩, fun hbad => (first_step h (by omega) hb hbad).symm, fun hok => ⟨by unfold i64In; omega, rfl, ⟨by omega, fun j hj => ?_⟩, by omega⟩⟩, fun hge => (first_none h fun j hj => hb j (by omega)).symm⟩⟩
  by_cases e : j = i
  · rw [e]; exact hok
  · exact hb j (by omega)
noncomputable def A54_contains_c (g : Nat) (p : Int → Bool) (n : Nat) (A : Nat → Int) (r : Int) : Ann := { orc := [(1, [(2, .res fun _ => dI r)])], loops := [], cuts := [] }
theorem contains_c (g : Nat) (p : Int → Bool) (n : Nat) (A : Nat → Int) (r : Int) (hn2 : n ≤ 1000000) (hg : ∀ x, FnC prog g [dI x] (dB (p x))) (h : IsFirst (fun k => p (A k)) n r) : FnC prog 54 [nums n A, .val (.func (.func g) #[] #[])] (dB (anyN (fun k => p (A k)) n)) := by
  refine FnC_owed hmix (A54_contains_c g p n A r) (V := .need [FnC prog 70 [.lst n [fun i => (dI (A i))], .val (Value.func (Fn.func g) (Array.mk []) (Array.mk []))] ((dI r))] (.done [decide (r ≥ 0) = anyN (fun k => p (A k)) n])) (by kernel_rfl) ?_
  simp only [VT.holds, AllT, Sq]
  exact ⟨index_c g p n A r hn2 hg h, first_any h⟩
noncomputable def A54_containsC_c (p : Int → Bool) (n : Nat) (A : Nat → Int) (m : Nat) (O : Nat → Int) (r : Int) : Ann := { orc := [(1, [(2, .res fun _ => dI r)])], loops := [], cuts := [] }
theorem containsC_c (p : Int → Bool) (n : Nat) (A : Nat → Int) (m : Nat) (O : Nat → Int) (r : Int) (hn2 : n ≤ 1000000) (hg : ∀ x, FnC prog 55 [dI x, .cptr [nums m O]] (dB (p x))) (h : IsFirst (fun k => p (A k)) n r) : FnC prog 54 [nums n A, .clo 55 [.cptr [nums m O]]] (dB (anyN (fun k => p (A k)) n)) := by
  refine FnC_owed hmix (A54_containsC_c p n A m O r) (V := .need [FnC prog 70 [.lst n [fun i => (dI (A i))], .clo (55 : FuncId) [.cptr [.lst m [fun i => (dI (O i))]]]] ((dI r))] (.done [decide (r ≥ 0) = anyN (fun k => p (A k)) n])) (by kernel_rfl) ?_
  simp only [VT.holds, AllT, Sq]
  exact ⟨indexC_c p n A m O r hn2 hg h, first_any h⟩
noncomputable def A71_indexV_c (n : Nat) (A : Nat → Int) (v : Int) (r : Int) : Ann := { orc := [], loops := [(0, { ι := Nat, keep := [0, 1, 7], boxes := [], ts := fun _ i => [(8, dI (i : Int))], inv := fun _ i => i ≤ n ∧ ∀ j, j < i → (A j == v) = false, mu := fun _ i => n - i, rd := fun _ σ => (iOf (σ.get 8)).toNat })], cuts := [] }
theorem indexV_c (n : Nat) (A : Nat → Int) (v : Int) (r : Int) (hn2 : n ≤ 1000000) (h : IsFirst (fun k => A k == v) n r) : FnC prog 71 [nums n A, dI v] (dI r) := by
  refine FnC_owed hmix (A71_indexV_c n A v r) (V := .loop Nat (fun a => a ≤ n ∧ ∀ (j : Nat), j < a → (A j == v) = false) (0:Int).toNat [(0:Int) = (↑(0:Int).toNat : Int), n = n, ∀ i < n, A i = A i, v = v, (n:Int) = (n:Int)] fun i => .ite (decide ((i:Int) < (n:Int))) (.need [(0:Int) ≤ (i:Int) ∧ (i:Int) < (n:Int)] (.ite (v == A (i:Int).toNat) (.done [(i:Int) = r]) (.need [i64In ((i:Int) + 1)] (.done [(i:Int) + 1 = (↑((i:Int) + 1).toNat : Int), n = n, ∀ i < n, A i = A i, v = v, (n:Int) = (n:Int), Int.toNat ((i:Int) + 1) ≤ n ∧ ∀ (j : Nat), j < ((i:Int) + 1).toNat → (A j == v) = false, n - ((i:Int) + 1).toNat < n - i])))) (.done [(-1:Int) = r])) (by kernel_rfl) ?_
  simp only [VT.holds, AllT, Sq]
  refine ⟨rfl, ⟨Nat.zero_le n, fun j hj => by omega⟩, fun i ⟨hi, hb⟩ => ⟨fun hlt => ⟨by omega, fun hbad => (first_step h (by omega) (fun j hj => by simpa using hb j hj) (by simp [hbad])).symm, fun hok => ⟨by unfold i64In; omega, rfl, ⟨by omega, fun j hj => ?_⟩, by omega⟩⟩, fun hge => (first_none h fun j hj => by simpa using hb j (by omega)).symm⟩⟩
  by_cases e : j = i
  · rw [e]; exact fun e => hok e.symm
  · exact hb j (by omega)
noncomputable def A56_containsV_c (n : Nat) (A : Nat → Int) (v : Int) (r : Int) : Ann := { orc := [(1, [(2, .res fun _ => dI r)])], loops := [], cuts := [] }
theorem containsV_c (n : Nat) (A : Nat → Int) (v : Int) (r : Int) (hn2 : n ≤ 1000000) (h : IsFirst (fun k => A k == v) n r) : FnC prog 56 [nums n A, dI v] (dB (anyN (fun k => A k == v) n)) := by
  refine FnC_owed hmix (A56_containsV_c n A v r) (V := .need [FnC prog 71 [.lst n [fun i => (dI (A i))], (dI v)] ((dI r))] (.done [decide (r ≥ 0) = anyN (fun k => A k == v) n])) (by kernel_rfl) ?_
  simp only [VT.holds, AllT, Sq]
  exact ⟨indexV_c n A v r hn2 h, first_any h⟩
noncomputable def A55_missing_c (x : Int) (m : Nat) (O : Nat → Int) : Ann := { orc := [(1, [(2, .res fun l => dB (anyN (fun k => aX l k == aI l 1) (aN l)))])], loops := [], cuts := [] }
theorem missing_c (x : Int) (m : Nat) (O : Nat → Int) (hm : m ≤ 1000000) : FnC prog 55 [dI x, .cptr [nums m O]] (dB (!(anyN (fun k => O k == x) m))) := by
  refine FnC_owed hmix (A55_missing_c x m O) (V := .need [FnC prog 56 [.lst m [fun i => (dI (O i))], (dI x)] ((dB (anyN (fun k => O k == x) m)))] (.done [(!anyN (fun k => O k == x) m) = !anyN (fun k => O k == x) m])) (by kernel_rfl) ?_
  simp only [VT.holds, AllT, Sq]
  obtain ⟨r, hr⟩ := isFirst_exists (fun k => O k == x) m
  exact containsV_c m O x r hm hr
noncomputable def A53_others_c (n : Nat) (A : Nat → Int) (m : Nat) (O : Nat → Int) : Ann := { orc := [(1, [(2, .res fun l => dB (anyN (fun k => !(anyN (fun j => O j == aX l k) m)) (aN l)))])], loops := [], cuts := [] }
theorem others_c (n : Nat) (A : Nat → Int) (m : Nat) (O : Nat → Int) (hn : n ≤ 1000000) (hm : m ≤ 1000000) : FnC prog 53 [nums n A, nums m O] (dB (anyN (fun k => !(anyN (fun j => O j == A k) m)) n)) := by
  refine FnC_owed hmix (A53_others_c n A m O) (V := .need [FnC prog 54 [.lst n [fun i => (dI (A i))], .clo (55:Nat) [.cptr [.lst m [fun i => (dI (O i))]]]] ((dB (anyN (fun k => !anyN (fun j => O j == A k) m) n)))] (.done [anyN (fun k => !anyN (fun j => O j == A k) m) n = anyN (fun k => !anyN (fun j => O j == A k) m) n])) (by kernel_rfl) ?_
  simp only [VT.holds, AllT, Sq]
  obtain ⟨r, hr⟩ := isFirst_exists (fun k => !(anyN (fun j => O j == A k) m)) n
  exact containsC_c (fun x => !(anyN (fun j => O j == x) m)) n A m O r hn (fun x => missing_c x m O hm) hr
noncomputable def A73_fall_c (a b : Int) : Ann := { orc := [], loops := [], cuts := [] }
theorem fall_c (a b : Int) (h1 : -1000000000 ≤ a ∧ a ≤ 1000000000) (h2 : -1000000000 ≤ b ∧ b ≤ 1000000000) : FnC prog 73 [dI a, dI b] (dI (b - a)) := by
  refine FnC_owed hmix (A73_fall_c a b) (V := .need [i64In (b - a)] (.done [b - a = b - a])) (by kernel_rfl) ?_
  simp only [VT.holds, AllT, Sq]
  unfold i64In; omega
end Go.Abs
