/- The program of the second seat; lists of numbers; what slices.Backward yields. Contracts. -/
import Derived.Test.YteennpofimiliaaGreatDoorK9
import Derived.Test.YteennpofimiliaaGreatDoorProg
import Derived.RangeFuncBox
import Derived.WalkKit
import Derived.OwnWalkIn
import Derived.TacticsInMore
import Derived.LoopNIn
import Derived.LoopIn
section
set_option linter.unusedVariables false
set_option maxRecDepth 100000
namespace Go.Abs.Lay
open Go Go.RowKit
attribute [local go_sem] Oper.semAt_some
abbrev nums (n : Nat) (A : Nat → Int) : DV := .lst n [fun i => .val (.int .i64 (A i))]
theorem box_nums {w : World} {n : Nat} {A : Nat → Int} {v : Value} (h : RelC (rdAll w) (.cptr [nums n A]) v) :
    ∃ a s c, v = .pointer (some a) ∧ w.cell? a = some (.slice s n c) ∧ n ≤ c ∧ ∀ k, k < n → ∃ b, s = some b ∧ w.cell? (b.add k) = some (.int .i64 (A k)) := by
  cases h with
  | cptr U ha h =>
    rename_i a
    have h0 := h 0 _ rfl
    have a0 := ha 0 _ rfl
    rw [Addr.add, if_pos rfl] at a0
    generalize e : U 0 = u at h0 a0
    cases h0 with
    | lst V hc hb hn ho hr =>
      rename_i s c
      refine ⟨a, s, c, rfl, a0, hc, fun k hk => ?_⟩
      obtain ⟨b, hb1, hb2⟩ := hb k 0 _ hk rfl
      refine ⟨b, hb1, ?_⟩
      have hv := hr k 0 _ hk rfl
      generalize e2 : V k 0 = x at hb2 hv
      cases hv
      simpa [rdAll] using hb2
set_option maxHeartbeats 2000000 in
theorem back_in (n : Nat) (hn : n ≤ 1000000) (A : Nat → Int) (m l : Nat) (lb : Array Value) (J Jx : List { x : Nat // x < n } → World → Prop) (W : World)
    (hlb : lb.size = 1) (hr : ∀ (j : Nat) (d : DV) (v : Value), [DV.cptr [nums n A]][j]? = some d → lb[j]? = some v → RelC (rdAll W) d v) (hg : GlobOK (rdAll W))
    (hY : ∀ pre x W1, J pre W1 → pre.length < n → YieldAt Fence.wide (m - 1) prog l #[.int .i64 ((n : Int) - 1 - (x.1 : Nat)), .int .i64 (A (n - 1 - x.1))] W1 fun e W' =>
      (e = .returned (.bool true) ∧ J (pre ++ [x]) W' ∧ KpC [.cptr [nums n A]] lb W1 W') ∨ (e = .returned (.bool false) ∧ Jx (pre ++ [x]) W'))
    (h0 : J [] W) :
    CallsIn Fence.wide m prog 177 (#[.func (.yield l) #[] #[]] ++ lb) W fun e W' => (∃ v, e = .returned v) ∧ ((∃ xs, xs.map (·.1) = List.range n ∧ J xs W') ∨ (∃ pre, True ∧ Jx pre W')) := by
  obtain ⟨v0, rfl⟩ : ∃ v0, lb = #[v0] := by
    match lb, hlb with
    | ⟨[v0]⟩, _ => exact ⟨v0, rfl⟩
  obtain ⟨a, s0, c0, rfl, hc0, hle0, hcell0⟩ := box_nums (hr 0 _ _ rfl rfl)
  refine callsIn_of_wp Go.Proofs.Tryz.func177 rfl trivial ?_ rfl
  simp only [Go.Proofs.Tryz.ntmps177, List.size_toArray, List.length_cons, List.length_nil, Nat.reduceAdd, Nat.reduceSub, Array.replicate_succ, Array.replicate_zero, List.push_toArray, List.append_toArray, List.nil_append, List.cons_append]
  gi_wp2
  gi_loopw [3] (fun i wr => ∃ (k : Nat) (pre : List { x : Nat // x < n }), k ≤ n ∧ pre.map (·.1) = List.range k ∧ i = .int .i64 ((n : Int) - 1 - (k : Nat)) ∧ J pre wr ∧ KpC [.cptr [nums n A]] #[.pointer (some a)] W wr)
    (fun i _ => (intOf i + 1).toNat)
  case atStart => exact ⟨0, [], Nat.zero_le _, rfl, by simp, h0, ⟨fun j d v hj hv h => h, fun h => h⟩⟩
  case round =>
    obtain ⟨k, pre, hk, hpre, rfl, hJ, hK⟩ := hrel
    by_cases hlt : k < n
    · have hlen : pre.length = k := by
        have := congrArg List.length hpre
        simpa using this
      obtain ⟨a', s, c, ea, hc, hle, hcell⟩ := box_nums (hK.1 0 _ _ rfl rfl (hr 0 _ _ rfl rfl))
      cases ea
      obtain ⟨b, rfl, hb⟩ := hcell (n - 1 - k) (by omega)
      obtain ⟨fn, tmps, assign, body, hy, hR⟩ := hY pre ⟨k, hlt⟩ wr hJ (by omega)
      dsimp only at hy hR
      rw [show (n : Int) - 1 - (k : Nat) = ((n - 1 - k : Nat) : Int) by omega] at hy ⊢
      generalize hq : n - 1 - k = q at hb hy ⊢
      gi_wp2
      refine ⟨fun h => absurd h (by decide), hR.mono ?_⟩
      rintro e W3 (⟨rfl, hJ3, hk3⟩ | ⟨rfl, hJx3⟩)
      · gi_wp2
        go_roundw
        case rel => exact ⟨k + 1, pre ++ [⟨k, hlt⟩], by omega, by simp [hpre, List.range_succ], by first | (congr 1; omega) | (simp; done) | (simp; omega), hJ3, ⟨fun j d v hj hv h => hk3.1 j d v hj hv (hK.1 j d v hj hv h), fun h => hk3.2 (hK.2 h)⟩⟩
        case measure => simp [intOf]
      · gi_wp2
        refine bodyPost_ret (results_none rfl _ _ _) rfl ?_
        exact ⟨⟨_, rfl⟩, .inr ⟨_, trivial, hJx3⟩⟩
    · obtain rfl : k = n := by omega
      gi_wp2
      go_end0
      exact ⟨⟨_, rfl⟩, .inl ⟨pre, hpre, hJ⟩⟩
theorem back_seq (n : Nat) (A : Nat → Int) (hn : n ≤ 1000000) : SeqC prog 177 [.cptr [nums n A]] n fun k => [.int .i64 ((n : Int) - 1 - (k : Nat)), .int .i64 (A (n - 1 - k))] := by
  refine ⟨?_, fun m lb w hlb hr hg l J Jx W hW _ _ hY h0 => ?_⟩
  · exact ⟨_, Go.Proofs.Tryz.func177, rfl, by kernel_rfl⟩
  · have hrW : ∀ (j : Nat) (d : DV) (v : Value), [DV.cptr [nums n A]][j]? = some d → lb[j]? = some v → RelC (rdAll W) d v := fun j d v hj hv =>
      (hr j d v hj hv).mono (fun a u h => (hW.cell (p := a) (cell_lt h)).trans h) (fun _ h => h) fun _ _ h => h.elim
    exact back_in n hn A m l lb J Jx W hlb hrW (hg.mono fun a u h => (hW.cell (p := a) (cell_lt h)).trans h) hY h0
end Go.Abs.Lay
end
section
set_option linter.unusedVariables false
set_option linter.unusedSimpArgs false
set_option maxRecDepth 100000
namespace Go.Abs.Lay
open Go
abbrev dP (x y : Int) : DV := .val (.agg #[.int .i64 x, .int .i64 y])
abbrev aN (l : List DV) : Nat := lenOf (arg l 0)
abbrev aX (l : List DV) : Nat → Int := colI 0 (arg l 0)
abbrev aI (l : List DV) (j : Nat) : Int := iOf (arg l j)
theorem toNat_succ (i : Nat) : Int.toNat ((i : Int) + 1) = i + 1 := by omega
theorem toNat_add2 (i : Nat) : Int.toNat ((i : Int) + 2) = i + 2 := by omega
theorem toNat_zero' : Int.toNat (0:Int) = 0 := rfl
def IsFirst (p : Nat → Bool) (n : Nat) (r : Int) : Prop := (r = -1 ∧ ∀ j, j < n → p j = false) ∨ ∃ i : Nat, i < n ∧ r = i ∧ p i = true ∧ ∀ j, j < i → p j = false
theorem isFirst_exists (p : Nat → Bool) (n : Nat) : ∃ r, IsFirst p n r := by
  induction n with
  | zero => exact ⟨-1, .inl ⟨rfl, fun j h => by omega⟩⟩
  | succ n ih =>
    obtain ⟨r, ⟨h1, h2⟩ | ⟨i, h1, h2, h3, h4⟩⟩ := ih
    · cases hp : p n with
      | true => exact ⟨n, .inr ⟨n, by omega, rfl, hp, h2⟩⟩
      | false =>
        refine ⟨-1, .inl ⟨rfl, fun j h => ?_⟩⟩
        by_cases e : j = n
        · rw [e]; exact hp
        · exact h2 j (by omega)
    · exact ⟨r, .inr ⟨i, by omega, h2, h3, h4⟩⟩
def anyN (p : Nat → Bool) (n : Nat) : Bool := !decide (∀ k, k < n → p k = false)
theorem first_any {p : Nat → Bool} {n : Nat} {r : Int} (h : IsFirst p n r) : decide (r ≥ 0) = anyN p n := by
  unfold anyN
  rcases h with ⟨h1, h2⟩ | ⟨i, h1, h2, h3, h4⟩
  · rw [decide_eq_true h2, h1]; rfl
  · have hf : ¬ ∀ k, k < n → p k = false := fun h => by rw [h i h1] at h3; cases h3
    rw [decide_eq_false hf, h2]; simp
def inR (x lo hi : Int) : Bool := decide (lo ≤ x ∧ x ≤ hi)
def rIn : Orc := .res fun l => dB (inR (aI l 0) (aI l 1) (aI l 2))
def badL (x : Int) : Bool := !inR x 1 10000
theorem first_step {p : Nat → Bool} {n i : Nat} {r : Int} (h : IsFirst p n r) (hi : i < n) (hb : ∀ j, j < i → p j = false) (hp : p i = true) : r = i := by
  rcases h with ⟨h1, h2⟩ | ⟨k, h1, h2, h3, h4⟩
  · rw [h2 i hi] at hp; cases hp
  · rcases Nat.lt_trichotomy i k with hk | hk | hk
    · rw [h4 i hk] at hp; cases hp
    · rw [h2, hk]
    · rw [hb k hk] at h3; cases h3
theorem first_none {p : Nat → Bool} {n : Nat} {r : Int} (h : IsFirst p n r) (hb : ∀ j, j < n → p j = false) : r = -1 := by
  rcases h with ⟨h1, h2⟩ | ⟨k, h1, h2, h3, h4⟩
  · exact h1
  · rw [hb k h1] at h3; cases h3
noncomputable def A113_within_c (n lo hi : Int) : Ann := { orc := [], loops := [], cuts := [] }
theorem within_c (n lo hi : Int)  : FnC prog 75 [dI n, dI lo, dI hi] (dB (inR n lo hi)) := by
  refine FnC_owed hmix (A113_within_c n lo hi) (V := .need [decide (n ≥ lo) = true → decide (n ≥ lo) = true, decide (n ≥ lo) = true → decide (n ≥ lo) = true, decide (n ≥ lo) = true → decide (n ≥ lo) = true] (.done [(if decide (n ≥ lo) = true then decide (n ≤ hi) else false) = inR n lo hi])) (by kernel_rfl) ?_
  simp only [VT.holds, AllT, Sq]
  simp [inR]
noncomputable def A42_withinR_c (n lo hi : Int) : Ann := { orc := [], loops := [], cuts := [] }
theorem withinR_c (n lo hi : Int)  : FnC prog 34 [dI n, dI lo, dI hi] (dB (inR n lo hi)) := by
  refine FnC_owed hmix (A42_withinR_c n lo hi) (V := .need [decide (n ≥ lo) = true → decide (n ≥ lo) = true, decide (n ≥ lo) = true → decide (n ≥ lo) = true, decide (n ≥ lo) = true → decide (n ≥ lo) = true] (.done [(if decide (n ≥ lo) = true then decide (n ≤ hi) else false) = inR n lo hi])) (by kernel_rfl) ?_
  simp only [VT.holds, AllT, Sq]
  simp [inR]
noncomputable def A131_bad_c (n : Int) : Ann := { orc := [(1, [(1, rIn)])], loops := [], cuts := [] }
theorem bad_c (n : Int)  : FnC prog 168 [dI n] (dB (badL n)) := by
  refine FnC_owed hmix (A131_bad_c n) (V := .need [FnC prog 75 [(dI n), (dI (1:Int)), (dI (10000:Int))] ((dB (inR n (1:Int) (10000:Int))))] (.done [(!inR n (1:Int) (10000:Int)) = badL n])) (by kernel_rfl) ?_
  simp only [VT.holds, AllT, Sq]
  exact ⟨within_c _ _ _, rfl⟩
noncomputable def A115_index_c (g : Nat) (p : Int → Bool) (n : Nat) (A : Nat → Int) (r : Int) : Ann := { orc := [(4, [(5, .res fun l => dB (p (aI l 0)))])], loops := [(0, { ι := Nat, keep := [0, 1, 7], boxes := [], ts := fun _ i => [(8, dI (i : Int))], inv := fun _ i => i ≤ n ∧ ∀ j, j < i → p (A j) = false, mu := fun _ i => n - i, rd := fun _ σ => (iOf (σ.get 8)).toNat })], cuts := [] }
theorem index_c (g : Nat) (p : Int → Bool) (n : Nat) (A : Nat → Int) (r : Int) (hn2 : n ≤ 1000000) (hg : ∀ x, FnC prog g [dI x] (dB (p x))) (h : IsFirst (fun k => p (A k)) n r) : FnC prog 113 [nums n A, .val (.func (.func g) #[] #[])] (dI r) := by
  refine FnC_owed hmix (A115_index_c g p n A r) (V := .loop Nat (fun a => a ≤ n ∧ ∀ (j : Nat), j < a → p (A j) = false) (0:Int).toNat [(0:Int) = (↑(0:Int).toNat : Int), n = n, ∀ i < n, A i = A i, Value.func (Fn.func g) ⟨[]⟩ ⟨[]⟩ = Value.func (Fn.func g) ⟨[]⟩ ⟨[]⟩, (n:Int) = (n:Int)] fun i => .ite (decide ((i:Int) < (n:Int))) (.need [(0:Int) ≤ (i:Int) ∧ (i:Int) < (n:Int), FnC prog g [(dI (A (i:Int).toNat))] ((dB (p (A (i:Int).toNat))))] (.ite (p (A (i:Int).toNat)) (.done [(i:Int) = r]) (.need [i64In ((i:Int) + (1:Int))] (.done [(i:Int) + (1:Int) = (↑((i:Int) + (1:Int)).toNat : Int), n = n, ∀ i < n, A i = A i, Value.func (Fn.func g) ⟨[]⟩ ⟨[]⟩ = Value.func (Fn.func g) ⟨[]⟩ ⟨[]⟩, (n:Int) = (n:Int), Int.toNat ((i:Int) + (1:Int)) ≤ n ∧ ∀ (j : Nat), j < ((i:Int) + (1:Int)).toNat → p (A j) = false, n - ((i:Int) + (1:Int)).toNat < n - i])))) (.done [(-1:Int) = r])) (by kernel_rfl) ?_
  simp only [VT.holds, AllT, Sq]
  refine ⟨rfl, ⟨Nat.zero_le n, fun j hj => by omega⟩, fun i ⟨hi, hb⟩ => ⟨fun hlt => ⟨⟨by omega, hg _⟩, fun hbad => (first_step h (by omega) hb hbad).symm, fun hok => ⟨by unfold i64In; omega, rfl, ⟨by omega, fun j hj => ?_⟩, by omega⟩⟩, fun hge => (first_none h fun j hj => hb j (by omega)).symm⟩⟩
  by_cases e : j = i
  · rw [e]; exact hok
  · exact hb j (by omega)
noncomputable def A115_indexC_c (p : Int → Bool) (n : Nat) (A : Nat → Int) (m : Nat) (O : Nat → Int) (r : Int) : Ann := { orc := [(4, [(5, .res fun l => dB (p (aI l 0)))])], loops := [(0, { ι := Nat, keep := [0, 1, 7], boxes := [], ts := fun _ i => [(8, dI (i : Int))], inv := fun _ i => i ≤ n ∧ ∀ j, j < i → p (A j) = false, mu := fun _ i => n - i, rd := fun _ σ => (iOf (σ.get 8)).toNat })], cuts := [] }
theorem indexC_c (p : Int → Bool) (n : Nat) (A : Nat → Int) (m : Nat) (O : Nat → Int) (r : Int) (hn2 : n ≤ 1000000) (hg : ∀ x, FnC prog 136 [dI x, .cptr [nums m O]] (dB (p x))) (h : IsFirst (fun k => p (A k)) n r) : FnC prog 113 [nums n A, .clo 136 [.cptr [nums m O]]] (dI r) := by
  refine FnC_owed hmix (A115_indexC_c p n A m O r) (V := .loop Nat (fun a => a ≤ n ∧ ∀ (j : Nat), j < a → p (A j) = false) (0:Int).toNat [(0:Int) = (↑(0:Int).toNat : Int), n = n, ∀ i < n, A i = A i, m = m, ∀ i < m, O i = O i, (n:Int) = (n:Int)] fun i => .ite (decide ((i:Int) < (n:Int))) (.need [(0:Int) ≤ (i:Int) ∧ (i:Int) < (n:Int), FnC prog (136 : FuncId) [(dI (A (i:Int).toNat)), .cptr [.lst m [fun i => (dI (O i))]]] ((dB (p (A (i:Int).toNat))))] (.ite (p (A (i:Int).toNat)) (.done [(i:Int) = r]) (.need [i64In ((i:Int) + (1:Int))] (.done [(i:Int) + (1:Int) = (↑((i:Int) + (1:Int)).toNat : Int), n = n, ∀ i < n, A i = A i, m = m, ∀ i < m, O i = O i, (n:Int) = (n:Int), Int.toNat ((i:Int) + (1:Int)) ≤ n ∧ ∀ (j : Nat), j < ((i:Int) + (1:Int)).toNat → p (A j) = false, n - ((i:Int) + (1:Int)).toNat < n - i])))) (.done [(-1:Int) = r])) (by kernel_rfl) ?_
  simp only [VT.holds, AllT, Sq]
  refine ⟨rfl, ⟨Nat.zero_le n, fun j hj => by omega⟩, fun i ⟨hi, hb⟩ => ⟨fun hlt => ⟨⟨by omega, hg _⟩, fun hbad => (first_step h (by omega) hb hbad).symm, fun hok => ⟨by unfold i64In; omega, rfl, ⟨by omega, fun j hj => ?_⟩, by omega⟩⟩, fun hge => (first_none h fun j hj => hb j (by omega)).symm⟩⟩
  by_cases e : j = i
  · rw [e]; exact hok
  · exact hb j (by omega)
noncomputable def A86_contains_c (g : Nat) (p : Int → Bool) (n : Nat) (A : Nat → Int) (r : Int) : Ann := { orc := [(1, [(2, .res fun _ => dI r)])], loops := [], cuts := [] }
theorem contains_c (g : Nat) (p : Int → Bool) (n : Nat) (A : Nat → Int) (r : Int) (hn2 : n ≤ 1000000) (hg : ∀ x, FnC prog g [dI x] (dB (p x))) (h : IsFirst (fun k => p (A k)) n r) : FnC prog 73 [nums n A, .val (.func (.func g) #[] #[])] (dB (anyN (fun k => p (A k)) n)) := by
  refine FnC_owed hmix (A86_contains_c g p n A r) (V := .need [FnC prog 113 [.lst n [fun i => (dI (A i))], .val (Value.func (Fn.func g) ⟨[]⟩ ⟨[]⟩)] ((dI r))] (.done [decide (r ≥ (0:Int)) = anyN (fun k => p (A k)) n])) (by kernel_rfl) ?_
  simp only [VT.holds, AllT, Sq]
  exact ⟨index_c g p n A r hn2 hg h, first_any h⟩
noncomputable def A86_containsC_c (p : Int → Bool) (n : Nat) (A : Nat → Int) (m : Nat) (O : Nat → Int) (r : Int) : Ann := { orc := [(1, [(2, .res fun _ => dI r)])], loops := [], cuts := [] }
theorem containsC_c (p : Int → Bool) (n : Nat) (A : Nat → Int) (m : Nat) (O : Nat → Int) (r : Int) (hn2 : n ≤ 1000000) (hg : ∀ x, FnC prog 136 [dI x, .cptr [nums m O]] (dB (p x))) (h : IsFirst (fun k => p (A k)) n r) : FnC prog 73 [nums n A, .clo 136 [.cptr [nums m O]]] (dB (anyN (fun k => p (A k)) n)) := by
  refine FnC_owed hmix (A86_containsC_c p n A m O r) (V := .need [FnC prog 113 [.lst n [fun i => (dI (A i))], .clo (136 : FuncId) [.cptr [.lst m [fun i => (dI (O i))]]]] ((dI r))] (.done [decide (r ≥ (0:Int)) = anyN (fun k => p (A k)) n])) (by kernel_rfl) ?_
  simp only [VT.holds, AllT, Sq]
  exact ⟨indexC_c p n A m O r hn2 hg h, first_any h⟩
noncomputable def A134_indexV_c (n : Nat) (A : Nat → Int) (v : Int) (r : Int) : Ann := { orc := [], loops := [(0, { ι := Nat, keep := [0, 1, 7], boxes := [], ts := fun _ i => [(8, dI (i : Int))], inv := fun _ i => i ≤ n ∧ ∀ j, j < i → (A j == v) = false, mu := fun _ i => n - i, rd := fun _ σ => (iOf (σ.get 8)).toNat })], cuts := [] }
theorem indexV_c (n : Nat) (A : Nat → Int) (v : Int) (r : Int) (hn2 : n ≤ 1000000) (h : IsFirst (fun k => A k == v) n r) : FnC prog 169 [nums n A, dI v] (dI r) := by
  refine FnC_owed hmix (A134_indexV_c n A v r) (V := .loop Nat (fun a => a ≤ n ∧ ∀ (j : Nat), j < a → (A j == v) = false) (0:Int).toNat [(0:Int) = (↑(0:Int).toNat : Int), n = n, ∀ i < n, A i = A i, v = v, (n:Int) = (n:Int)] fun i => .ite (decide ((i:Int) < (n:Int))) (.need [(0:Int) ≤ (i:Int) ∧ (i:Int) < (n:Int)] (.ite (v == A (i:Int).toNat) (.done [(i:Int) = r]) (.need [i64In ((i:Int) + (1:Int))] (.done [(i:Int) + (1:Int) = (↑((i:Int) + (1:Int)).toNat : Int), n = n, ∀ i < n, A i = A i, v = v, (n:Int) = (n:Int), Int.toNat ((i:Int) + (1:Int)) ≤ n ∧ ∀ (j : Nat), j < ((i:Int) + (1:Int)).toNat → (A j == v) = false, n - ((i:Int) + (1:Int)).toNat < n - i])))) (.done [(-1:Int) = r])) (by kernel_rfl) ?_
  simp only [VT.holds, AllT, Sq]
  refine ⟨rfl, ⟨Nat.zero_le n, fun j hj => by omega⟩, fun i ⟨hi, hb⟩ => ⟨fun hlt => ⟨by omega, fun hbad => (first_step h (by omega) (fun j hj => by simpa using hb j hj) (by simp [hbad])).symm, fun hok => ⟨by unfold i64In; omega, rfl, ⟨by omega, fun j hj => ?_⟩, by omega⟩⟩, fun hge => (first_none h fun j hj => by simpa using hb j (by omega)).symm⟩⟩
  by_cases e : j = i
  · rw [e]; exact fun e => hok e.symm
  · exact hb j (by omega)
noncomputable def A128_containsV_c (n : Nat) (A : Nat → Int) (v : Int) (r : Int) : Ann := { orc := [(1, [(2, .res fun _ => dI r)])], loops := [], cuts := [] }
theorem containsV_c (n : Nat) (A : Nat → Int) (v : Int) (r : Int) (hn2 : n ≤ 1000000) (h : IsFirst (fun k => A k == v) n r) : FnC prog 137 [nums n A, dI v] (dB (anyN (fun k => A k == v) n)) := by
  refine FnC_owed hmix (A128_containsV_c n A v r) (V := .need [FnC prog 169 [.lst n [fun i => (dI (A i))], (dI v)] ((dI r))] (.done [decide (r ≥ (0:Int)) = anyN (fun k => A k == v) n])) (by kernel_rfl) ?_
  simp only [VT.holds, AllT, Sq]
  exact ⟨indexV_c n A v r hn2 h, first_any h⟩
noncomputable def A127_missing_c (x : Int) (m : Nat) (O : Nat → Int) : Ann := { orc := [(1, [(2, .res fun l => dB (anyN (fun k => aX l k == aI l 1) (aN l)))])], loops := [], cuts := [] }
theorem missing_c (x : Int) (m : Nat) (O : Nat → Int) (hm : m ≤ 1000000) : FnC prog 136 [dI x, .cptr [nums m O]] (dB (!(anyN (fun k => O k == x) m))) := by
  refine FnC_owed hmix (A127_missing_c x m O) (V := .need [FnC prog 137 [.lst m [fun i => (dI (O i))], (dI x)] ((dB (anyN (fun k => O k == x) m)))] (.done [(!anyN (fun k => O k == x) m) = !anyN (fun k => O k == x) m])) (by kernel_rfl) ?_
  simp only [VT.holds, AllT, Sq]
  obtain ⟨r, hr⟩ := isFirst_exists (fun k => O k == x) m
  exact containsV_c m O x r hm hr
noncomputable def A126_others_c (n : Nat) (A : Nat → Int) (m : Nat) (O : Nat → Int) : Ann := { orc := [(1, [(2, .res fun l => dB (anyN (fun k => !(anyN (fun j => O j == aX l k) m)) (aN l)))])], loops := [], cuts := [] }
theorem others_c (n : Nat) (A : Nat → Int) (m : Nat) (O : Nat → Int) (hn : n ≤ 1000000) (hm : m ≤ 1000000) : FnC prog 135 [nums n A, nums m O] (dB (anyN (fun k => !(anyN (fun j => O j == A k) m)) n)) := by
  refine FnC_owed hmix (A126_others_c n A m O) (V := .need [FnC prog 73 [.lst n [fun i => (dI (A i))], .clo (136:Nat) [.cptr [.lst m [fun i => (dI (O i))]]]] ((dB (anyN (fun k => !anyN (fun j => O j == A k) m) n)))] (.done [anyN (fun k => !anyN (fun j => O j == A k) m) n = anyN (fun k => !anyN (fun j => O j == A k) m) n])) (by kernel_rfl) ?_
  simp only [VT.holds, AllT, Sq]
  obtain ⟨r, hr⟩ := isFirst_exists (fun k => !(anyN (fun j => O j == A k) m)) n
  exact containsC_c (fun x => !(anyN (fun j => O j == x) m)) n A m O r hn (fun x => missing_c x m O hm) hr
noncomputable def A136_fall_c (a b : Int) : Ann := { orc := [], loops := [], cuts := [] }
theorem fall_c (a b : Int) (h1 : -1000000000 ≤ a ∧ a ≤ 1000000000) (h2 : -1000000000 ≤ b ∧ b ≤ 1000000000) : FnC prog 171 [dI a, dI b] (dI (b - a)) := by
  refine FnC_owed hmix (A136_fall_c a b) (V := .need [i64In (b - a)] (.done [b - a = b - a])) (by kernel_rfl) ?_
  simp only [VT.holds, AllT, Sq]
  unfold i64In; omega
end Go.Abs.Lay
end
