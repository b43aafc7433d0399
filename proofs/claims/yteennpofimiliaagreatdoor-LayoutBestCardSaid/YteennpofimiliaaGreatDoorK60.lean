/- Contracts. Contracts. -/
import Derived.Test.YteennpofimiliaaGreatDoorK51
import Derived.Test.YteennpofimiliaaGreatDoorK53
section
set_option linter.unusedVariables false
set_option linter.unusedSimpArgs false
set_option maxRecDepth 100000
namespace Go.Abs
open Go
section
variable {b : Bld} {nB : Nat} {B : Nat → Int} {nO : Nat} {O : Nat → Int} {W G L : Int} {l : Lyt}
theorem laE_1 (h : arE b nB B nO O W G L ≠ 0) : laE b nB B nO O W G L l = arE b nB B nO O W G L := by rw [laE, if_pos h]
theorem laE_2 (h : arE b nB B nO O W G L = 0) : laE b nB B nO O W G L l = lyE b nB B nO O W G l := by rw [laE, if_neg (by rw [h]; simp)]
theorem laE_zero (h : laE b nB B nO O W G L l = 0) : arE b nB B nO O W G L = 0 ∧ lyE b nB B nO O W G l = 0 := by
  by_cases h1 : arE b nB B nO O W G L = 0
  · exact ⟨h1, by rw [← laE_2 h1]; exact h⟩
  · rw [laE_1 h1] at h; exact absurd h h1
theorem laidE_c (b : Bld) (nB : Nat) (B : Nat → Int) (nO : Nat) (O : Nat → Int) (W G L : Int) (l : Lyt) (hN : ∀ i, i < b.nS → b.N i ≤ 1000) (ht : tidOk l) :
    FnC prog 41 [bld b, Lay.sys nB B nO O W G L, lyt l] (.tup [.any, dI (laE b nB B nO O W G L l)]) := by
  by_cases h : arE b nB B nO O W G L = 0
  · rw [laE_2 h]; exact laidB_c b nB B nO O W G L l hN h ht
  · rw [laE_1 h]; exact laidA_c b nB B nO O W G L l hN h
def ttO (b : Bld) (nB : Nat) (B : Nat → Int) (nO : Nat) (O : Nat → Int) (W G L : Int) (l : Lyt) : Int := if laE b nB B nO O W G L l = 0 then totO nB B l l.nR else 0
def ttB (b : Bld) (nB : Nat) (B : Nat → Int) (nO : Nat) (O : Nat → Int) (W G L : Int) (l : Lyt) : Int := if laE b nB B nO O W G L l = 0 then totB l l.nR else 0
end
noncomputable def A26_checkLayout_c (b : Bld) (nB : Nat) (B : Nat → Int) (nO : Nat) (O : Nat → Int) (W G L : Int) (l : Lyt) : Ann := { orc := [(1, [(3, .res fun _ => .tup [.any, dI (laE b nB B nO O W G L l)])])], loops := [], cuts := [] }
theorem checkLayout_c (b : Bld) (nB : Nat) (B : Nat → Int) (nO : Nat) (O : Nat → Int) (W G L : Int) (l : Lyt) (hN : ∀ i, i < b.nS → b.N i ≤ 1000) (ht : tidOk l) : FnC prog 23 [bld b, Lay.sys nB B nO O W G L, lyt l] (dI (laE b nB B nO O W G L l)) := by
  refine FnC_owed hmix (A26_checkLayout_c b nB B nO O W G L l) (V := .need [FnC prog 41 [(bld b), .agg [.lst nB [fun i => (dI (B i))], .lst nO [fun i => (dI (O i))], (dI W), (dI G), (dI L)], .agg [.lst l.nC [fun i => (dI (l.C i))], .lst l.nR [fun i => (dI (l.F i)), fun i => (dI (l.SX i)), fun i => (dI (l.SY i)), fun i => (dI (l.Ln i)), fun i => .lst (l.nP i) [fun i_1 => (dI (l.P i i_1))], fun i => .lst (l.nQ i) [fun i_1 => (dI (l.Q i i_1))]]]] (.tup [.any, (dI (laE b nB B nO O W G L l))])] (.done [laE b nB B nO O W G L l = laE b nB B nO O W G L l])) (by kernel_rfl) ?_
  simp only [VT.holds, AllT, Sq]
  exact laidE_c b nB B nO O W G L l hN ht
noncomputable def A28_totalTop_c (b : Bld) (nB : Nat) (B : Nat → Int) (nO : Nat) (O : Nat → Int) (W G L : Int) (l : Lyt) : Ann := { orc := [(1, [(3, .res fun _ => dI (laE b nB B nO O W G L l))]), (4, [(2, .res fun _ => dP (totO nB B l l.nR) (totB l l.nR))])], loops := [], cuts := [] }
abbrev totalTop_cd0 (l : Lyt) : DV := .agg [.lst l.nC [fun i => (dI (l.C i))], .lst l.nR [fun i => (dI (l.F i)), fun i => (dI (l.SX i)), fun i => (dI (l.SY i)), fun i => (dI (l.Ln i)), fun i => .lst (l.nP i) [fun i_1 => (dI (l.P i i_1))], fun i => .lst (l.nQ i) [fun i_1 => (dI (l.Q i i_1))]]]
theorem totalTop_c (b : Bld) (nB : Nat) (B : Nat → Int) (nO : Nat) (O : Nat → Int) (W G L : Int) (l : Lyt) (hN : ∀ i, i < b.nS → b.N i ≤ 1000) (ht : tidOk l) : FnC prog 22 [bld b, Lay.sys nB B nO O W G L, lyt l] (.tup [dP (ttO b nB B nO O W G L l) (ttB b nB B nO O W G L l), dI (laE b nB B nO O W G L l)]) := by
  refine FnC_owed hmix (A28_totalTop_c b nB B nO O W G L l) (V := .need [FnC prog 23 [(bld b), .agg [.lst nB [fun i => (dI (B i))], .lst nO [fun i => (dI (O i))], (dI W), (dI G), (dI L)], (totalTop_cd0 l)] ((dI (laE b nB B nO O W G L l)))] (.ite (laE b nB B nO O W G L l != (0:Int)) (.done [(0:Int) = ttO b nB B nO O W G L l, (0:Int) = ttB b nB B nO O W G L l, laE b nB B nO O W G L l = laE b nB B nO O W G L l]) (.need [FnC prog 45 [.agg [.lst nB [fun i => (dI (B i))], .lst nO [fun i => (dI (O i))], (dI W), (dI G), (dI L)], (totalTop_cd0 l)] (.val (.agg (Array.mk [.int .i64 (totO nB B l l.nR), .int .i64 (totB l l.nR)])))] (.done [totO nB B l l.nR = ttO b nB B nO O W G L l, totB l l.nR = ttB b nB B nO O W G L l, (0:Int) = laE b nB B nO O W G L l])))) (by kernel_rfl) ?_
  simp only [VT.holds, AllT, totalTop_cd0, Sq]
  refine ⟨checkLayout_c b nB B nO O W G L l hN ht, fun h => ⟨by rw [ttO, if_neg h], by rw [ttB, if_neg h]⟩, fun h => ⟨total_c nB B nO O W G L l (ar_zero (laE_zero h).1).2.1 ht, by rw [ttO, if_pos h], by rw [ttB, if_pos h], h.symm⟩⟩
end Go.Abs
end
section
set_option linter.unusedVariables false
set_option linter.unusedSimpArgs false
set_option maxRecDepth 100000
namespace Go.Abs
open Go
/-- Proofs: a code that is reached; a table that is right; one of a pair; a ring that is right. -/
def ptb1 (u : Int) (X C T : Nat → Int) (k i : Nat) : Bool := decide (X i / u ≤ k → 0 ≤ T ((k : Int) - X i / u).toNat → 0 ≤ T k ∧ T k - T ((k : Int) - X i / u).toNat ≤ C i)
def ptb2 (u : Int) (n : Nat) (X C T : Nat → Int) (k : Nat) : Bool := decide (∀ i, i < n → ptb1 u X C T k i = true)
def ptbB (u : Int) (n : Nat) (X C : Nat → Int) (nT : Nat) (T : Nat → Int) : Bool := decide (nT ≠ 0 ∧ T 0 = 0) && (decide (∀ k, k < nT → -1 ≤ T k) && decide (∀ k, k < nT → ptb2 u n X C T k = true))
def minT (T : Nat → Int) : Nat → Int
  | 0 => T 0
  | k + 1 => min (minT T k) (T (k + 1))
theorem minT_le (T : Nat → Int) : ∀ k i, i ≤ k → minT T k ≤ T i
  | 0, i, h => by rw [show i = 0 by omega]; exact Int.le_refl _
  | k + 1, i, h => by
    rw [minT]
    by_cases e : i = k + 1
    · rw [e]; exact Int.min_le_right _ _
    · exact Int.le_trans (Int.min_le_left _ _) (minT_le T k i (by omega))
theorem minT_ge {T : Nat → Int} {c : Int} : ∀ k, (∀ i, i ≤ k → c ≤ T i) → c ≤ minT T k
  | 0, h => h 0 (Nat.le_refl _)
  | k + 1, h => by
    rw [minT]
    exact Int.le_min.2 ⟨minT_ge k fun i hi => h i (by omega), h _ (Nat.le_refl _)⟩
abbrev pr (x y : Int) (k : Nat) : Int := List.getD [x, y] k 0
def folB1 (u : Int) (R : Int → Int → Int → Int) (nT : Nat) (T L0 L1 : Nat → Int) (i c : Nat) : Bool :=
  decide (0 ≤ pr (L0 i) (L1 i) ((c : Int) / 2).toNat ∧ 0 ≤ R i ((c : Int) / 2) ((c : Int) % 2) ∧ R i ((c : Int) / 2) ((c : Int) % 2) % u = 0 →
    R i ((c : Int) / 2) ((c : Int) % 2) / u < nT ∧ (0 ≤ T (R i ((c : Int) / 2) ((c : Int) % 2) / u).toNat → 0 ≤ pr (L0 (i + 1)) (L1 (i + 1)) ((c : Int) % 2).toNat ∧ pr (L0 (i + 1)) (L1 (i + 1)) ((c : Int) % 2).toNat - pr (L0 i) (L1 i) ((c : Int) / 2).toNat ≤ T (R i ((c : Int) / 2) ((c : Int) % 2) / u).toNat))
def folB3 (u : Int) (R : Int → Int → Int → Int) (nT : Nat) (T L0 L1 : Nat → Int) (i m : Nat) : Bool := decide (∀ c, c < m → folB1 u R nT T L0 L1 i c = true)
def folB2 (u : Int) (R : Int → Int → Int → Int) (nT : Nat) (T L0 L1 : Nat → Int) (i : Nat) : Bool := folB3 u R nT T L0 L1 i 4
def folB (u : Int) (n : Nat) (R : Int → Int → Int → Int) (nT : Nat) (T L0 L1 : Nat → Int) (f : Nat) : Bool :=
  decide (∀ i, i < n + 1 → -1 ≤ L0 i ∧ -1 ≤ L1 i) && (decide (pr (L0 0) (L1 0) f = 0 ∧ pr (L0 0) (L1 0) (1 - f) = -1) && decide (∀ i, i < n → folB2 u R nT T L0 L1 i = true))
def i64T (n : Nat) (T : Nat → Int) : Prop := ∀ k, k < n → i64In (T k)
theorem pr_in {n : Nat} {A B : Nat → Int} (hA : i64T n A) (hB : i64T n B) {i : Nat} (hi : i < n) (k : Nat) : i64In (pr (A i) (B i) k) := by
  match k with
  | 0 => exact hA i hi
  | 1 => exact hB i hi
  | k + 2 => simp [pr, i64In]
def uRI (nB : Nat) (B : Nat → Int) (nO : Nat) (O : Nat → Int) : Int := (Lay.unitR nB B O (nB + nO) : Nat)
theorem u_bd {nB : Nat} {B : Nat → Int} {nO : Nat} {O : Nat → Int} {W G L : Int} (hs : Lay.sysE nB B nO O W G L = 0) : (Lay.catU nB B nO O W G L : Int) = uRI nB B nO O ∧ 1 ≤ uRI nB B nO O ∧ uRI nB B nO O ≤ 10000 := by
  obtain ⟨s1, s2, s3, sB, sO, _, _⟩ := Lay.sys_ok hs
  have hu := Lay.unitR_bd s1 sB sO
  refine ⟨?_, ?_⟩
  · rw [Lay.catU, if_pos hs, Lay.unit_eq]; rfl
  · unfold uRI; omega
theorem sig_sig {nB nO i : Nat} (h : i < nB + nO) : Lay.sig nB nO (Lay.sig nB nO i) = i ∧ Lay.sig nB nO i < nB + nO := by
  unfold Lay.sig
  by_cases h1 : i < nB
  · rw [if_pos h1, if_pos (by omega)]; omega
  · rw [if_neg h1, if_neg (by omega)]; omega
/-- The order of the parts does not matter. -/
theorem ptb_eq (u : Int) (nB : Nat) (B : Nat → Int) (nO : Nat) (O : Nat → Int) (nT : Nat) (T : Nat → Int) : ptbB u (nB + nO) (Lay.pLen nB B nO O) (Lay.pCode nB) nT T = ptbB u (nB + nO) (Lay.rLen nB B O) (Lay.rCode nB) nT T := by
  have e : ∀ k, ptb2 u (nB + nO) (Lay.pLen nB B nO O) (Lay.pCode nB) T k = ptb2 u (nB + nO) (Lay.rLen nB B O) (Lay.rCode nB) T k := fun k => by
    have e1 : ∀ i, i < nB + nO → ptb1 u (Lay.pLen nB B nO O) (Lay.pCode nB) T k i = ptb1 u (Lay.rLen nB B O) (Lay.rCode nB) T k (Lay.sig nB nO i) := fun i hi => by
      obtain ⟨h1, h2⟩ := Lay.sig_len B O hi
      unfold ptb1
      rw [h1, h2]
    unfold ptb2
    refine decide_eq_decide.2 ⟨fun h i hi => ?_, fun h i hi => ?_⟩
    · have := h _ (sig_sig hi).2
      rw [e1 _ (sig_sig hi).2, (sig_sig hi).1] at this
      exact this
    · rw [e1 i hi]; exact h _ (sig_sig hi).2
  unfold ptbB
  simp only [e]
theorem ptb_yes {u : Int} {n : Nat} {X C : Nat → Int} {nT : Nat} {T : Nat → Int} (h1 : nT ≠ 0) (h2 : T 0 = 0) (h3 : ∀ k, k < nT → -1 ≤ T k) (h4 : ∀ k, k < nT → ptb2 u n X C T k = true) : true = ptbB u n X C nT T := by
  rw [ptbB, decide_eq_true (show nT ≠ 0 ∧ T 0 = 0 from ⟨h1, h2⟩), decide_eq_true h3, decide_eq_true h4]; rfl
theorem ptb_no {u : Int} {n : Nat} {X C : Nat → Int} {nT : Nat} {T : Nat → Int} (h : ¬ (nT ≠ 0 ∧ T 0 = 0 ∧ (∀ k, k < nT → -1 ≤ T k) ∧ ∀ k, k < nT → ptb2 u n X C T k = true)) : false = ptbB u n X C nT T := by
  symm
  rw [← Bool.not_eq_true]
  intro hx
  apply h
  simpa [ptbB, and_assoc] using hx
theorem ptb1_no {u : Int} {n : Nat} {X C : Nat → Int} {nT : Nat} {T : Nat → Int} {k i : Nat} (hk : k < nT) (hi : i < n) (h : ¬ (X i / u ≤ k → 0 ≤ T ((k : Int) - X i / u).toNat → 0 ≤ T k ∧ T k - T ((k : Int) - X i / u).toNat ≤ C i)) : false = ptbB u n X C nT T :=
  ptb_no fun ⟨_, _, _, h4⟩ => by
    have h5 := h4 k hk
    rw [ptb2, decide_eq_true_eq] at h5
    have h6 := h5 i hi
    rw [ptb1, decide_eq_true_eq] at h6
    exact h h6
section
variable {u : Int} {n : Nat} {R : Int → Int → Int → Int} {nT : Nat} {T L0 L1 : Nat → Int} {f : Nat}
theorem fol_yes (h1 : ∀ i, i < n + 1 → -1 ≤ L0 i ∧ -1 ≤ L1 i) (h2 : pr (L0 0) (L1 0) f = 0) (h3 : pr (L0 0) (L1 0) (1 - f) = -1) (h4 : ∀ i, i < n → folB2 u R nT T L0 L1 i = true) : true = folB u n R nT T L0 L1 f := by
  rw [folB, decide_eq_true h1, decide_eq_true (And.intro h2 h3), decide_eq_true h4]; rfl
theorem fol_no (h : ¬ ((∀ i, i < n + 1 → -1 ≤ L0 i ∧ -1 ≤ L1 i) ∧ (pr (L0 0) (L1 0) f = 0 ∧ pr (L0 0) (L1 0) (1 - f) = -1) ∧ ∀ i, i < n → folB2 u R nT T L0 L1 i = true)) : false = folB u n R nT T L0 L1 f := by
  symm
  rw [← Bool.not_eq_true]
  intro hx
  apply h
  rw [folB, Bool.and_eq_true, Bool.and_eq_true, decide_eq_true_eq, decide_eq_true_eq, decide_eq_true_eq] at hx
  exact hx
theorem fol2_iff {i : Nat} : folB2 u R nT T L0 L1 i = true ↔ ∀ c, c < 4 → folB1 u R nT T L0 L1 i c = true := by rw [folB2, folB3, decide_eq_true_eq]
theorem fol1_iff {i c : Nat} : folB1 u R nT T L0 L1 i c = true ↔ (0 ≤ pr (L0 i) (L1 i) ((c : Int) / 2).toNat ∧ 0 ≤ R i ((c : Int) / 2) ((c : Int) % 2) ∧ R i ((c : Int) / 2) ((c : Int) % 2) % u = 0 →
    R i ((c : Int) / 2) ((c : Int) % 2) / u < nT ∧ (0 ≤ T (R i ((c : Int) / 2) ((c : Int) % 2) / u).toNat → 0 ≤ pr (L0 (i + 1)) (L1 (i + 1)) ((c : Int) % 2).toNat ∧ pr (L0 (i + 1)) (L1 (i + 1)) ((c : Int) % 2).toNat - pr (L0 i) (L1 i) ((c : Int) / 2).toNat ≤ T (R i ((c : Int) / 2) ((c : Int) % 2) / u).toNat)) := by rw [folB1, decide_eq_true_eq]
theorem fol1_no {i c : Nat} (hi : i < n) (hc : c < 4) (h : ¬ folB1 u R nT T L0 L1 i c = true) : false = folB u n R nT T L0 L1 f :=
  fol_no fun ⟨_, _, h4⟩ => h (fol2_iff.1 (h4 i hi) c hc)
end
abbrev lst2 (n : Nat) (A B : Nat → Int) : DV := .lst n [fun i => dI (A i), fun i => dI (B i)]
noncomputable def A78_reaches_c (c o s : Int) : Ann := { orc := [], loops := [], cuts := [] }
namespace w3z
noncomputable section
structure Z where
  c : Int
  o : Int
  s : Int
variable (z : Z)
abbrev x0 := decide (z.c ≥ (0:Int)) = true
abbrev xt : VT := VT.need [ri (x0 z), ri (x0 z), x0 z → i64In (z.c - z.o), ri (x0 z), ri (x0 z), ri (x0 z)] (VT.done [(if (decide (z.c ≥ (0:Int))) = true then (decide ((z.c - z.o) ≤ z.s)) else false) = decide ((0 ≤ z.c) ∧ (z.c - z.o ≤ z.s))])
end
end w3z
open w3z in
theorem reaches_c (c o s : Int) (h : 0 ≤ c → i64In (c - o)) : FnC prog 78 [dI c, dI o, dI s] (dB (decide (0 ≤ c ∧ c - o ≤ s))) := by
  refine FnC_owed hmix (A78_reaches_c c o s) (V := xt ⟨c, o, s⟩) (by kernel_rfl) ?_
  simp only [xt, x0, Rf, VT.holds, AllT, Sq]
  refine ⟨fun h0 => h h0, ?_⟩
  rw [← Bool.decide_and]
noncomputable def A77_minT_c (n : Nat) (T : Nat → Int) : Ann := { orc := [], loops := [(0, { ι := Nat, keep := [0], boxes := [], ts := fun _ i => [(4, dI (i : Int)), (3, dI (minT T (i - 1)))], inv := fun _ i => 1 ≤ i ∧ i ≤ n, mu := fun _ i => n - i, rd := fun _ σ => (iOf (σ.get 4)).toNat })], cuts := [] }
namespace w40
noncomputable section
structure Z where
  n : Nat
  T : Nat → Int
variable (z : Z) (i0 : Nat)
abbrev x0 := Int.toNat ((i0:Int) + 1)
abbrev x1 := VT.need [(0:Int) ≤ (0:Int) ∧ 0 < (z.n:Int)] (VT.loop Nat (fun i0 => 1 ≤ i0 ∧ i0 ≤ z.n) (Int.toNat 1) [1 = (↑(Int.toNat 1) : Int), (z.T (Int.toNat 0)) = minT z.T (Int.toNat 1 - 1), rf z.n, ∀ i0 < z.n, rf (z.T i0)] (fun i0 => VT.ite (decide ((i0:Int) < (z.n:Int))) (VT.need [0 ≤ (i0:Int) ∧ (i0:Int) < (z.n:Int)] (VT.need [i64In ((i0:Int) + 1)] (VT.done [(i0:Int) + 1 = (↑(x0 i0) : Int), mins (minT z.T (i0 - 1)) [z.T (Int.toNat (i0:Int))] = minT z.T (x0 i0 - 1), rf z.n, ∀ i0 < z.n, rf (z.T i0), 1 ≤ x0 i0 ∧ x0 i0 ≤ z.n, z.n - x0 i0 < z.n - i0]))) (VT.done [minT z.T (i0 - 1) = minT z.T (z.n - 1)])))
abbrev xt : VT := VT.ite (decide ((z.n:Int) < (1:Int))) (VT.need [False, False] (x1 z)) (x1 z)
end
end w40
open w40 in
theorem minT_c (n : Nat) (T : Nat → Int) (h1 : 1 ≤ n) (hn : n ≤ 1000000) : FnC prog 77 [Lay.nums n T] (dI (minT T (n - 1))) := by
  refine FnC_owed hmix (A77_minT_c n T) (V := xt ⟨n, T⟩) (by kernel_rfl) ?_
  simp only [xt, x0, x1, Rf, VT.holds, AllT, Sq]
  have key : ∀ i, 1 ≤ i → mins (minT T (i - 1)) [T i] = minT T (i + 1 - 1) := fun i h => by
    obtain ⟨k, rfl⟩ : ∃ k, i = k + 1 := ⟨i - 1, by omega⟩
    rw [mins1]; rfl
  exact ⟨fun h => absurd h (by omega), fun _ => ⟨by omega, ⟨rfl, rfl⟩, ⟨Nat.le_refl _, h1⟩, fun i ⟨h2, h3⟩ => ⟨fun hlt => ⟨by omega, by unfold i64In; omega, rfl, key i h2, by omega, by omega⟩, fun hge => by rw [show i = n by omega]⟩⟩⟩
noncomputable def A43_pcovers_c (u : Nat) (n : Nat) (X C : Nat → Int) (b : Nat → Bool) (nT : Nat) (T : Nat → Int) : Ann := { orc := [(1, [(11, .res fun _ => dI (minT T (nT - 1)))]), (9, [(4, .pos)]), (10, [(25, .res fun l => dB (decide (0 ≤ aI l 0 ∧ aI l 0 - aI l 1 ≤ aI l 2)))])], loops := [(0, { ι := Nat, keep := [1, 2, 24], boxes := [2], ts := fun _ k => [(25, dI (k : Int))], inv := fun _ k => k ≤ nT ∧ ∀ k', k' < k → ptb2 u n X C T k' = true, mu := fun _ k => nT - k, rd := fun _ σ => (iOf (σ.get 25)).toNat }), (2, { ι := Nat, keep := [1, 2, 24, 25, 5, 29, 30], boxes := [2], ts := fun σ i => [(31, dI (i : Int))], inv := fun σ i => i ≤ n ∧ ∀ i', i' < i → ptb1 u X C T (iOf (σ.get 25)).toNat i' = true, mu := fun _ i => n - i, rd := fun _ σ => (iOf (σ.get 31)).toNat })], cuts := [] }
namespace w41
noncomputable section
structure Z where
  u : Nat
  n : Nat
  X : Nat → Int
  C : Nat → Int
  b : Nat → Bool
  nT : Nat
  T : Nat → Int
variable (z : Z) (i0 i1 : Nat) (p : Prop) (P : List Prop) (a b : Int) (g : Bool)
abbrev x0 : Int := (i0:Int)
abbrev x1 : Int := (z.u:Int)
abbrev x2 := z.X (Int.toNat (i1:Int))
abbrev x3 := decide ((x2 z i1 / x1 z) ≤ (x0 i0))
abbrev x4 := x0 i0 - x2 z i1 / x1 z
abbrev x5 : List Prop := ri (g = true) :: P
abbrev x6 := z.T (Int.toNat (x4 z i0 i1))
abbrev x7 := if (x3 z i0 i1) = true then (decide ((x6 z i0 i1) ≥ (0:Int))) else false
abbrev x8 := (z.nT:Int) == 0
abbrev x9 := x5 (x5 P (x7 z i0 i1)) (x7 z i0 i1)
abbrev x10 := ∀ i0 < z.n, rf (z.b i0)
abbrev x11 : List Prop := rf a :: rf z.n :: (∀ i0 < z.n, rf (z.X i0)) :: (∀ i0 < z.n, rf (z.C i0)) :: P
abbrev x12 := if (x8 z) = true then true else ((z.T (Int.toNat 0)) != 0)
abbrev x13 := z.T (Int.toNat (x0 i0))
abbrev x14 := Int.toNat 0
abbrev x15 := Int.toNat (x0 i0 + 1)
abbrev x16 := Int.toNat ((i1:Int) + 1)
abbrev x17 := x5 (x5 P (x3 z i0 i1)) (x3 z i0 i1)
abbrev x18 := 0 ≤ a ∧ b < (z.nT:Int)
abbrev x19 : List Prop := (x7 z i0 i1 = true → p) :: x9 z i0 i1 P
abbrev x20 : List Prop := p :: rf z.nT :: (∀ i0 < z.nT, rf (z.T i0)) :: rf (z.nT:Int) :: P
abbrev x21 := z.C (Int.toNat (i1:Int))
abbrev x22 := VT.done [g = ptbB (x1 z) z.n z.X z.C z.nT z.T]
abbrev xt : VT := VT.need (x5 (((!(x8 z)) = true → x18 z (0:Int) (0:Int)) :: x5 (x5 ((x8 z = false → (!(x8 z)) = true) :: x5 (((!(x12 z)) = true → FnC prog 77 [DV.lst z.nT [fun i0 => dI (z.T i0)]] (dI (minT z.T (z.nT - 1)))) :: x5 [x12 z = false → (!(x12 z)) = true] (!(x12 z))) (!(x12 z))) (!(x8 z))) (!(x8 z))) (!(x8 z))) (VT.ite (if (x12 z) = true then true else (decide ((minT z.T (z.nT - 1)) < (-(1:Int))))) (x22 z false) (VT.loop Nat (fun i0 => i0 ≤ z.nT ∧ (∀ i1 < i0, ptb2 (x1 z) z.n z.X z.C z.T i1 = true)) x14 (x20 z (0 = (x14:Int)) (x11 z [x10 z] (x1 z))) (fun i0 => VT.ite (decide ((x0 i0) < (z.nT:Int))) (VT.loop Nat (fun i1 => i1 ≤ z.n ∧ (∀ i2 < i1, ptb1 (x1 z) z.X z.C z.T (Int.toNat (x0 i0)) i2 = true)) x14 (x20 z (0 = (x14:Int)) (rf (x0 i0) :: x11 z (x10 z :: rf (z.n:Int) :: x11 z [x10 z] (x1 z)) (x0 i0))) (fun i1 => VT.ite (decide ((i1:Int) < (z.n:Int))) (VT.need [0 ≤ (i1:Int) ∧ (i1:Int) < (z.n:Int)] (VT.need [0 ≤ x2 z i1 ∧ 0 < x1 z ∧ x2 z i1 ≤ 9223372036854775807] (VT.need (x17 z i0 i1 ((x3 z i0 i1 = true → i64In (x4 z i0 i1)) :: x17 z i0 i1 ((x3 z i0 i1 = true → x18 z (x4 z i0 i1) (x4 z i0 i1)) :: x17 z i0 i1 (x5 (x9 z i0 i1 (x19 z i0 i1 (x18 z (x0 i0) (x0 i0)) (x5 (x19 z i0 i1 (i64In (x4 z i0 i1)) (x19 z i0 i1 (x18 z (x4 z i0 i1) (x4 z i0 i1)) (x9 z i0 i1 (x5 (x19 z i0 i1 (FnC prog 78 [dI (x13 z i0), dI (x6 z i0 i1), dI (x21 z i1)] (dB (decide ((0 ≤ x13 z i0) ∧ (x13 z i0 - x6 z i0 i1 ≤ x21 z i1))))) []) (x7 z i0 i1))))) (x7 z i0 i1)))) (x3 z i0 i1))))) (VT.ite (if (x7 z i0 i1) = true then (!(decide ((0 ≤ x13 z i0) ∧ (x13 z i0 - x6 z i0 i1 ≤ x21 z i1)))) else false) (x22 z false) (VT.need [i64In ((i1:Int) + 1)] (VT.done (x20 z ((i1:Int) + 1 = (↑(x16 i1) : Int)) (rf (x0 i0) :: x11 z (x10 z :: rf (z.n:Int) :: x11 z [x10 z, x16 i1 ≤ z.n ∧ (∀ i2 < x16 i1, ptb1 (x1 z) z.X z.C z.T (Int.toNat (x0 i0)) i2 = true), z.n - x16 i1 < z.n - i1] (x1 z)) (x0 i0))))))))) (VT.need [i64In (x0 i0 + 1)] (VT.done (x20 z (x0 i0 + 1 = (↑(x15 i0) : Int)) (x11 z [x10 z, x15 i0 ≤ z.nT ∧ (∀ i1 < x15 i0, ptb2 (x1 z) z.n z.X z.C z.T i1 = true), z.nT - x15 i0 < z.nT - i0] (x1 z))))))) (x22 z true))))
end
end w41
open w41 in
theorem pcovers_c (u : Nat) (n : Nat) (X C : Nat → Int) (b : Nat → Bool) (nT : Nat) (T : Nat → Int) (hu : 1 ≤ u) (hX : ∀ i, i < n → 0 ≤ X i ∧ X i ≤ 1000000) (hT : i64T nT T) (hn : nT ≤ 1000000) (hn2 : n ≤ 1000) : FnC prog 43 [Lay.catD (u : Int) n X C b, Lay.nums nT T] (dB (ptbB u n X C nT T)) := by
  refine FnC_owed hmix (A43_pcovers_c u n X C b nT T) (V := xt ⟨u, n, X, C, b, nT, T⟩) (by kernel_rfl) ?_
  simp only [xt, x0, x1, x2, x3, x4, x5, x6, x7, x8, x9, x10, x11, x12, x13, x14, x15, x16, x17, x18, x19, x20, x21, x22, Rf, VT.holds, AllT, Sq]
  refine ⟨⟨fun h => by omega, fun h => minT_c nT T (by omega) hn⟩, fun h => ptb_no fun ⟨h1, h2, h3, _⟩ => ?_, fun ⟨h, hm⟩ => ?_⟩
  · rcases h with h | h
    · omega
    · have := minT_ge (T := T) (c := -1) (nT - 1) fun i hi => h3 i (by omega)
      omega
  · have n1 : nT ≠ 0 ∧ T 0 = 0 := by omega
    have hm2 : ∀ k, k < nT → -1 ≤ T k := fun k hk => by
      have := minT_le T (nT - 1) k (by omega)
      omega
    refine ⟨rfl, ⟨Nat.zero_le _, fun k hk => absurd hk (Nat.not_lt_zero k)⟩, fun k ⟨hk, hb⟩ => ⟨fun hlt => ⟨rfl, ⟨Nat.zero_le _, fun k hk => absurd hk (Nat.not_lt_zero k)⟩, fun i ⟨hi, hb2⟩ => ⟨fun hlt2 => ?_, fun hge2 => ⟨by unfold i64In; omega, rfl, ⟨by omega, fun j hj => ?_⟩, by omega⟩⟩⟩, fun hge => ptb_yes n1.1 n1.2 hm2 fun j hj => hb j (by omega)⟩⟩
    · have x1 := hX i (by omega)
      have q1 := Int.ediv_nonneg (a := X i) (b := (u : Int)) (by omega) (by omega)
      have tk := hT k (by omega)
      have to : (X i / (u : Int) ≤ k) → i64In (T ((k : Int) - X i / (u : Int)).toNat) := fun _ => hT _ (by omega)
      refine ⟨by omega, by omega, ⟨fun h1 => by unfold i64In; omega, fun h1 => by omega, fun _ => by omega, fun h1 => by unfold i64In; omega, fun h1 => by omega, fun h1 => reaches_c _ _ _ fun h2 => ?_⟩, fun h1 => ptb1_no (show k < nT by omega) (show i < n by omega) fun hx => h1.2 (hx h1.1.1 h1.1.2), fun h1 => ⟨by unfold i64In; omega, rfl, ⟨by omega, fun j hj => ?_⟩, by omega⟩⟩
      · have t2 := to h1.1
        unfold i64In at tk t2 ⊢; omega
      · by_cases e : j = i
        · rw [e, ptb1, decide_eq_true_eq]; exact fun a c => h1 ⟨a, c⟩
        · exact hb2 j (by omega)
    · by_cases e : j = k
      · rw [e, ptb2, decide_eq_true_eq]; exact fun i' hi' => hb2 i' (by omega)
      · exact hb j (by omega)
noncomputable def A38_tableRight_c (nB : Nat) (B : Nat → Int) (nO : Nat) (O : Nat → Int) (W G L : Int) (nT : Nat) (T : Nat → Int) : Ann := { orc := [(3, [(1, .res fun _ => dI (uRI nB B nO O))]), (4, [(1, .res fun _ => Lay.partsR nB B nO O)]), (13, [(6, .pos)])], loops := [(0, { ι := Nat, keep := [1, 5, 6], boxes := [], ts := fun _ k => [(7, dI (k : Int))], inv := fun _ k => k ≤ nT ∧ (∀ k', k' < k → -1 ≤ T k') ∧ ∀ k', k' < k → ptb2 (uRI nB B nO O) (nB + nO) (Lay.rLen nB B O) (Lay.rCode nB) T k' = true, mu := fun _ k => nT - k, rd := fun _ σ => (iOf (σ.get 7)).toNat }), (2, { ι := Nat, keep := [1, 5, 6, 7], boxes := [], ts := fun σ i => [(8, dI (i : Int))], inv := fun σ i => i ≤ nB + nO ∧ ∀ i', i' < i → ptb1 (uRI nB B nO O) (Lay.rLen nB B O) (Lay.rCode nB) T (iOf (σ.get 7)).toNat i' = true, mu := fun _ i => nB + nO - i, rd := fun _ σ => (iOf (σ.get 8)).toNat })], cuts := [] }
namespace w42
noncomputable section
structure Z where
  nB : Nat
  B : Nat → Int
  nO : Nat
  O : Nat → Int
  W : Int
  G : Int
  L : Int
  nT : Nat
  T : Nat → Int
variable (z : Z) (i0 i1 i2 : Nat) (p q : Prop) (P : List Prop) (a b : Int) (k : Nat) (g h : Bool) (A : DV) (U : VT) (j12a : Nat → Prop) (j13a : Nat → VT)
abbrev x0 : Int := (i0:Int)
abbrev x1 := uRI z.nB z.B z.nO z.O
abbrev x2 := z.nB + z.nO
abbrev x3 := decide ((z.T (Int.toNat (x0 i0))) < a)
abbrev x4 := x3 z i0 (0:Int)
abbrev x5 := Lay.rLen z.nB z.B z.O (Int.toNat (i1:Int))
abbrev x6 := ri ((!(x4 z i0)) = true)
abbrev x7 := decide ((x5 z i1 / x1 z) > (x0 i0))
abbrev x8 := Lay.rLen z.nB z.B z.O
abbrev x9 := Int.toNat ((i1:Int) + 1)
abbrev x10 := x0 i0 - x5 z i1 / x1 z
abbrev x11 := (z.nT:Int) == 0
abbrev x12 := ri ((!(x7 z i0 i1)) = true)
abbrev x13 := 0 ≤ a ∧ b < (z.nT:Int)
abbrev x14 := Int.toNat (x0 i0 + 1)
abbrev x15 := ∀ i0 < x2 z, rf (Lay.rCode z.nB i0)
abbrev x16 : List Prop := (a = (k:Int)) :: rf z.nT :: (∀ i0 < z.nT, rf (z.T i0)) :: rf (x1 z) :: rf (x2 z) :: (∀ i0 < x2 z, rf (Lay.rLen z.nB z.B z.O i0)) :: P
abbrev x17 := VT.need (p :: q :: P) U
abbrev x18 := VT.done [g = ptbB (x1 z) (x2 z) (x8 z) (Lay.rCode z.nB) z.nT z.T]
abbrev x19 := ri ((!(x11 z)) = true)
abbrev x20 : List Prop := x6 z i0 :: ((!(x4 z i0)) = true → p) :: x6 z i0 :: x6 z i0 :: P
abbrev x21 := x13 z (x0 i0) (x0 i0)
abbrev x22 := i2 < k → ptb1 (x1 z) (x8 z) (Lay.rCode z.nB) z.T (Int.toNat (x0 i0)) i2 = true
abbrev x23 := VT.ite (if g = true then true else h) (x18 z false) U
abbrev x24 := (z.T (Int.toNat (x0 i0))) - Lay.rCode z.nB (Int.toNat (i1:Int))
abbrev x25 := VT.loop Nat j12a (Int.toNat 0) (x16 z P (0:Int) (Int.toNat 0)) j13a
abbrev x26 := 0 ≤ (i1:Int) ∧ (i1:Int) < (↑(x2 z) : Int)
abbrev x27 := VT.need [FnC prog k [DV.agg [DV.lst z.nB [fun i0 => dI (z.B i0)], DV.lst z.nO [fun i0 => dI (z.O i0)], dI z.W, dI z.G, dI z.L]] A] U
abbrev x28 := VT.need [i64In ((i1:Int) + 1)] (VT.done (x16 z [x15 z, rf (x0 i0), x9 i1 ≤ x2 z ∧ (∀ (i2 : Nat), x22 z i0 i2 (x9 i1)), x2 z - x9 i1 < x2 z - i1] ((i1:Int) + 1) (x9 i1)))
abbrev x29 := i1 < k → ptb2 (x1 z) (x2 z) (x8 z) (Lay.rCode z.nB) z.T i1 = true
abbrev xt : VT := x17 (x19 z) ((!(x11 z)) = true → x13 z (0:Int) (0:Int)) [x19 z, x19 z, x11 z = false → (!(x11 z)) = true] (x23 z (x11 z) ((z.T (Int.toNat 0)) != 0) (x27 z (48:Nat) (dI (x1 z)) (x27 z (72:Nat) (DV.lst (x2 z) [fun i0 => dI (Lay.rLen z.nB z.B z.O i0), fun i0 => dI (Lay.rCode z.nB i0)]) (x25 z [x15 z] (fun i0 => i0 ≤ z.nT ∧ (∀ i1 < i0, (-(1:Int)) ≤ (z.T i1)) ∧ (∀ (i1 : Nat), x29 z i1 i0)) (fun i0 => VT.ite (decide ((x0 i0) < (z.nT:Int))) (VT.need [x21 z i0] (VT.ite (x3 z i0 (-(1:Int))) (x18 z false) (x25 z [x15 z, rf (x0 i0)] (fun i1 => i1 ≤ x2 z ∧ (∀ (i2 : Nat), x22 z i0 i2 i1)) (fun i1 => VT.ite (decide ((i1:Int) < (↑(x2 z) : Int))) (x17 (x26 z i1) (0 ≤ x5 z i1 ∧ 0 < x1 z ∧ x5 z i1 ≤ 9223372036854775807) [] (x17 (x12 z i0 i1) (x12 z i0 i1) [(!(x7 z i0 i1)) = true → i64In (x10 z i0 i1), x12 z i0 i1, x12 z i0 i1, (!(x7 z i0 i1)) = true → x13 z (x10 z i0 i1) (x10 z i0 i1), x12 z i0 i1, x12 z i0 i1, x7 z i0 i1 = false → (!(x7 z i0 i1)) = true] (VT.ite (if (x7 z i0 i1) = true then true else (decide ((z.T (Int.toNat (x10 z i0 i1))) < (0:Int)))) (x28 z i0 i1) (x17 (x21 z i0) (x6 z i0) (x20 z i0 (x21 z i0) (x20 z i0 (x26 z i1) (x6 z i0 :: x6 z i0 :: ((!(x4 z i0)) = true → i64In (x24 z i0 i1)) :: x6 z i0 :: x20 z i0 (i64In (x10 z i0 i1)) [(!(x4 z i0)) = true → x13 z (x10 z i0 i1) (x10 z i0 i1), x6 z i0, x6 z i0, x6 z i0, x4 z i0 = false → (!(x4 z i0)) = true]))) (x23 z (x4 z i0) (decide ((x24 z i0 i1) > (z.T (Int.toNat (x10 z i0 i1))))) (x28 z i0 i1)))))) (VT.need [i64In (x0 i0 + 1)] (VT.done (x16 z [x15 z, x14 i0 ≤ z.nT ∧ (∀ i1 < x14 i0, (-(1:Int)) ≤ (z.T i1)) ∧ (∀ (i1 : Nat), x29 z i1 (x14 i0)), z.nT - x14 i0 < z.nT - i0] (x0 i0 + 1) (x14 i0)))))))) (x18 z true))))))
end
end w42
open w42 in
theorem tableRight_c (nB : Nat) (B : Nat → Int) (nO : Nat) (O : Nat → Int) (W G L : Int) (nT : Nat) (T : Nat → Int) (hs : Lay.sysE nB B nO O W G L = 0) (hT : i64T nT T) (hn : nT ≤ 1000000) : FnC prog 38 [Lay.sys nB B nO O W G L, Lay.nums nT T] (dB (ptbB (uRI nB B nO O) (nB + nO) (Lay.rLen nB B O) (Lay.rCode nB) nT T)) := by
  refine FnC_owed hmix (A38_tableRight_c nB B nO O W G L nT T) (V := xt ⟨nB, B, nO, O, W, G, L, nT, T⟩) (by kernel_rfl) ?_
  simp only [xt, x0, x1, x2, x3, x4, x5, x6, x7, x8, x9, x10, x11, x12, x13, x14, x15, x16, x17, x18, x19, x20, x21, x22, x23, x24, x25, x26, x27, x28, x29, Rf, VT.holds, AllT, Sq]
  obtain ⟨s1, s2, s3, sB, sO, _, _⟩ := Lay.sys_ok hs
  obtain ⟨_, u1, u2⟩ := u_bd hs
  have hR : ∀ i, i < nB + nO → 1 ≤ Lay.rLen nB B O i ∧ Lay.rLen nB B O i ≤ 10000 := fun i hi => by
    unfold Lay.rLen
    split
    · exact sB i ‹_›
    · exact sO _ (by omega)
  have hC : ∀ i, 0 ≤ Lay.rCode nB i ∧ Lay.rCode nB i ≤ 10001 := fun i => by
    unfold Lay.rCode
    split
    · split <;> omega
    · omega
  refine ⟨fun h => by omega, fun h => ptb_no fun ⟨h1, h2, _, _⟩ => by omega, fun n1 => ⟨Lay.unitR_c nB B nO O W G L s2 s3 sB sO, Lay.partsR_c nB B nO O W G L s2 s3, rfl, ⟨Nat.zero_le _, fun k hk => absurd hk (Nat.not_lt_zero k), fun k hk => absurd hk (Nat.not_lt_zero k)⟩, fun k ⟨hk, hm, hb⟩ => ⟨fun hlt => ⟨by omega, fun h => ptb_no fun ⟨_, _, h3, _⟩ => ?_, fun h => ⟨rfl, ⟨Nat.zero_le _, fun k hk => absurd hk (Nat.not_lt_zero k)⟩, fun i ⟨hi, hb2⟩ => ⟨fun hlt2 => ?_, fun hge2 => ⟨by unfold i64In; omega, rfl, ⟨by omega, fun j hj => ?_, fun j hj => ?_⟩, by omega⟩⟩⟩⟩, fun hge => ptb_yes (by omega) n1.2 (fun j hj => hm j (by omega)) fun j hj => hb j (by omega)⟩⟩⟩
  · have := h3 k (by omega); omega
  · have x1 := hR i (by omega)
    have c1 := hC i
    have q1 := Int.ediv_nonneg (a := Lay.rLen nB B O i) (b := uRI nB B nO O) (by omega) (by omega)
    have tk := hT k (by omega)
    refine ⟨⟨by omega, by omega⟩, ⟨fun _ => by unfold i64In; omega, fun _ => by omega⟩, fun h1 => ⟨by unfold i64In; omega, rfl, ⟨by omega, fun j hj => ?_⟩, by omega⟩, fun h1 => ⟨⟨by omega, fun _ => by omega, fun _ => by omega, fun _ => ?_, fun _ => by unfold i64In; omega, fun _ => by omega⟩, fun h2 => ptb1_no (show k < nT by omega) (show i < nB + nO by omega) fun hx => ?_, fun h2 => ⟨by unfold i64In; omega, rfl, ⟨by omega, fun j hj => ?_⟩, by omega⟩⟩⟩
    · by_cases e : j = i
      · rw [e, ptb1, decide_eq_true_eq]; exact fun a c => by omega
      · exact hb2 j (by omega)
    · unfold i64In at tk ⊢; omega
    · have := hx (by omega) (by omega); omega
    · by_cases e : j = i
      · rw [e, ptb1, decide_eq_true_eq]; exact fun a c => by omega
      · exact hb2 j (by omega)
  · by_cases e : j = k
    · rw [e]; omega
    · exact hm j (by omega)
  · by_cases e : j = k
    · rw [e, ptb2, decide_eq_true_eq]; exact fun i' hi' => hb2 i' (by omega)
    · exact hb j (by omega)
noncomputable def A40_codeR_c (x y : Int) : Ann := { orc := [], loops := [], cuts := [] }
theorem codeR_c (x y : Int) (hx : 0 ≤ x ∧ x ≤ 100000000) (hy : 0 ≤ y ∧ y ≤ 100000000) : FnC prog 40 [dP x y] (dI (10000 * x + y)) := by
  refine FnC_owed hmix (A40_codeR_c x y) (V := .need [i64In ((10000:Int) * x), i64In ((10000:Int) * x + y)] (.done [(10000:Int) * x + y = (10000:Int) * x + y])) (by kernel_rfl) ?_
  simp only [VT.holds, AllT, Sq]
  unfold i64In
  omega
noncomputable def A44_follows_c (b : Bld) (nB : Nat) (B : Nat → Int) (nO : Nat) (O : Nat → Int) (W G L : Int) (nT : Nat) (T L0 L1 : Nat → Int) (f : Nat) : Ann := { orc := [(9, [(1, .res fun _ => dI (b.N 0 : Int))]), (15, [(1, .pos), (3, .pos)]), (16, [(4, .res fun l => dI (ruL (b.N 0) (b.X 0) (b.Y 0) G W (aI l 1) (aI l 2) (aI l 3)))]), (17, [(18, .pos)]), (18, [(6, .pos)]), (19, [(28, .res fun l => dB (decide (0 ≤ aI l 0 ∧ aI l 0 - aI l 1 ≤ aI l 2)))])], loops := [(0, { ι := Nat, keep := [0, 1, 2, 3, 17, 18], boxes := [], ts := fun _ k => [(19, dI (k : Int))], inv := fun _ k => k ≤ b.N 0 + 1 ∧ ∀ i, i < k → -1 ≤ L0 i ∧ -1 ≤ L1 i, mu := fun _ k => b.N 0 + 1 - k, rd := fun _ σ => (iOf (σ.get 19)).toNat }), (2, { ι := Nat, keep := [0, 1, 2, 46], boxes := [], ts := fun _ k => [(47, dI (k : Int))], inv := fun _ k => k ≤ b.N 0 ∧ ∀ i, i < k → folB2 (Lay.catU nB B nO O W G L : Nat) (fun i a e => ruL (b.N 0) (b.X 0) (b.Y 0) G W i a e) nT T L0 L1 i = true, mu := fun _ k => b.N 0 - k, rd := fun _ σ => (iOf (σ.get 47)).toNat }), (4, { ι := Nat, keep := [0, 1, 2, 46, 47, 11], boxes := [], ts := fun _ c => [(50, dI (c : Int))], inv := fun σ c => c ≤ 4 ∧ ∀ c', c' < c → folB1 (Lay.catU nB B nO O W G L : Nat) (fun i a e => ruL (b.N 0) (b.X 0) (b.Y 0) G W i a e) nT T L0 L1 (iOf (σ.get 47)).toNat c' = true, mu := fun _ c => 4 - c, rd := fun _ σ => (iOf (σ.get 50)).toNat })], cuts := [] }
namespace w44
noncomputable section
structure Z where
  b : Bld
  nB : Nat
  B : Nat → Int
  nO : Nat
  O : Nat → Int
  W : Int
  G : Int
  L : Int
  nT : Nat
  T : Nat → Int
  L0 : Nat → Int
  L1 : Nat → Int
  f : Nat
variable (z : Z) (i0 i1 i2 : Nat) (p : Prop) (P : List Prop) (a b c : Int) (k : Nat) (g h : Bool) (U V : VT) (j8a : Nat → Prop) (j9a : Nat → VT) (j11a : Nat → Int) (j17a : List (Nat → DV)) (j18a j18b : Nat → DV)
abbrev x0 : Int := (i0:Int)
abbrev x1 := (i1:Int) / 2
abbrev x2 := (i1:Int) % 2
abbrev x3 : Int := (↑(Lay.catU z.nB z.B z.nO z.O z.W z.G z.L) : Int)
abbrev x4 := ruL (z.b.N 0) (z.b.X 0) (z.b.Y 0) z.G z.W (x0 i0) (x1 i1) (x2 i1)
abbrev x5 := i0 < z.b.N 0 → rf a
abbrev x6 := i0 < z.b.nO → rf (z.b.O i0 k)
abbrev x7 := i0 < z.b.nB → rf (z.b.B i0 k)
abbrev x8 := z.b.N 0 + 1
abbrev x9 := i0 < k → rf (j11a i0)
abbrev x10 := decide ((x4 z i0 i1 / x3 z) ≥ (z.nT:Int))
abbrev x11 := List.getD [z.L0 (Int.toNat a), z.L1 (Int.toNat b)] (Int.toNat c) 0
abbrev x12 := z.T (Int.toNat (x4 z i0 i1 / x3 z))
abbrev x13 := Lay.catN z.nB z.B z.nO z.O z.W z.G z.L
abbrev x14 := decide ((x12 z i0 i1) ≥ (0:Int))
abbrev x15 := (!(x10 z i0 i1)) && (x14 z i0 i1)
abbrev x16 := ix (z.b.N 0) (x0 i0 + 1)
abbrev x17 := x11 z (x0 i0) (x0 i0) (x1 i1)
abbrev x18 := decide ((x17 z i0 i1) < (0:Int))
abbrev x19 := if g = true then true else h
abbrev x20 := DV.lst k (j18a :: j18b :: j17a)
abbrev x21 : List Prop := ri (g = true) :: ri (h = true) :: P
abbrev x22 := x11 z (0:Int) (0:Int) (z.f:Int) != 0
abbrev x23 := x19 (x18 z i0 i1) (decide ((x4 z i0 i1) < (0:Int)))
abbrev x24 : List Prop := p :: rf (x8 z) :: (∀ (i0 : Nat), x9 i0 (x8 z) z.L0) :: (∀ (i0 : Nat), x9 i0 (x8 z) z.L1) :: P
abbrev x25 := lenW (z.b.N 0) (z.b.X 0) (z.b.Y 0) (x0 i0)
abbrev x26 := dD (z.b.N 0) (z.b.X 0) (z.b.Y 0) (x0 i0)
abbrev x27 := cor (z.b.N 0) (z.b.X 0) (z.b.Y 0) i0
abbrev x28 := ruL (z.b.N 0) (z.b.X 0) (z.b.Y 0) z.G z.W
abbrev x29 := Int.toNat (x0 i0 + 1)
abbrev x30 := Int.toNat ((i1:Int) + 1)
abbrev x31 : Int := (↑(z.b.N 0) : Int)
abbrev x32 := 0 ≤ a ∧ b < (↑(2:Nat) : Int)
abbrev x33 : List Prop := (a = (k:Int)) :: rf z.b.name :: rf z.b.nS :: (∀ i0 < z.b.nS, rf (z.b.fl i0)) :: (∀ i0 < z.b.nS, rf (z.b.N i0) ∧ (∀ i1 < z.b.N i0, rf (z.b.X i0 i1)) ∧ (∀ i1 < z.b.N i0, rf (z.b.Y i0 i1))) :: rf z.b.roof :: rf z.b.nO :: (∀ (i0 : Nat), x6 z i0 (0:Nat)) :: (∀ (i0 : Nat), x6 z i0 (1:Nat)) :: (∀ (i0 : Nat), x6 z i0 (2:Nat)) :: (∀ (i0 : Nat), x6 z i0 (3:Nat)) :: (∀ (i0 : Nat), x6 z i0 (4:Nat)) :: (∀ (i0 : Nat), x6 z i0 (5:Nat)) :: rf z.b.nB :: (∀ (i0 : Nat), x7 z i0 (0:Nat)) :: (∀ (i0 : Nat), x7 z i0 (1:Nat)) :: (∀ (i0 : Nat), x7 z i0 (2:Nat)) :: (∀ (i0 : Nat), x7 z i0 (3:Nat)) :: (∀ (i0 : Nat), x7 z i0 (4:Nat)) :: (∀ (i0 : Nat), x7 z i0 (5:Nat)) :: rf z.nB :: (∀ (i0 : Nat), x9 i0 z.nB z.B) :: rf z.nO :: (∀ (i0 : Nat), x9 i0 z.nO z.O) :: rf z.W :: rf z.G :: rf z.L :: rf (x3 z) :: rf (x13 z) :: (∀ i0 < x13 z, rf (Lay.pLen z.nB z.B z.nO z.O i0)) :: (∀ i0 < x13 z, rf (Lay.pCode z.nB i0)) :: (∀ i0 < x13 z, rf (decide (z.nB ≤ i0))) :: rf (z.b.N 0) :: (∀ (i0 : Nat), x5 z i0 (z.b.X 0 i0)) :: (∀ (i0 : Nat), x5 z i0 (z.b.Y 0 i0)) :: (∀ (i0 : Nat), x5 z i0 (z.b.X 0 (x16 z i0))) :: (∀ (i0 : Nat), x5 z i0 (z.b.Y 0 (x16 z i0))) :: (∀ (i0 : Nat), x5 z i0 (x25 z i0)) :: (∀ (i0 : Nat), x5 z i0 (x26 z i0)) :: rf (z.b.N 0) :: (∀ (i0 : Nat), x5 z i0 (x27 z i0)) :: rf z.nT :: x24 z (∀ (i0 : Nat), x9 i0 z.nT z.T) P
abbrev x34 := 0 ≤ a ∧ b < (↑(x8 z) : Int)
abbrev x35 : List Prop := (g = true → p) :: ri (h = true) :: P
abbrev x36 := VT.ite g U (VT.need [p] V)
abbrev x37 := x11 z (x0 i0 + 1) (x0 i0 + 1) (x2 i1)
abbrev x38 := 1 - (z.f:Int)
abbrev x39 : List Prop := ri (x15 z i0 i1 = true) :: (x15 z i0 i1 = true → p) :: P
abbrev x40 := g = false → h = true
abbrev x41 := VT.done [g = folB (x3 z) (z.b.N 0) (x28 z) z.nT z.T z.L0 z.L1 z.f]
abbrev x42 := x21 P (!(x23 z i0 i1)) (!(x23 z i0 i1))
abbrev x43 := x34 z (x0 i0) (x0 i0)
abbrev x44 := x21 (x35 p P (x15 z i0 i1) (x15 z i0 i1)) (x15 z i0 i1) (x15 z i0 i1)
abbrev x45 := VT.loop Nat j8a (Int.toNat 0) (x33 z P (0:Int) (Int.toNat 0)) j9a
abbrev x46 := i2 < k → folB1 (x3 z) (x28 z) z.nT z.T z.L0 z.L1 (Int.toNat (x0 i0)) i2 = true
abbrev x47 := x21 (x39 z i0 i1 p P) (x15 z i0 i1) (x15 z i0 i1)
abbrev x48 : List Prop := ri ((!(x22 z)) = true) :: ((!(x22 z)) = true → p) :: P
abbrev x49 := VT.done (x33 z P (x0 i0 + 1) (x29 i0))
abbrev x50 := (-(1:Int)) ≤ (z.L0 i1) ∧ (-(1:Int)) ≤ (z.L1 i1)
abbrev x51 := 0 ≤ a ∧ 0 < b ∧ c ≤ 9223372036854775807
abbrev x52 := 0 ≤ x4 z i0 i1 / x3 z ∧ x4 z i0 i1 / x3 z < (z.nT:Int)
abbrev x53 := decide ((0 ≤ x37 z i0 i1) ∧ (x37 z i0 i1 - x17 z i0 i1 ≤ x12 z i0 i1))
abbrev x54 := VT.done (x33 z [rf (x31 z), rf (x0 i0), rf (x0 i0), x30 i1 ≤ 4 ∧ (∀ (i2 : Nat), x46 z i0 i2 (x30 i1)), 4 - x30 i1 < 4 - i1] ((i1:Int) + 1) (x30 i1))
abbrev x55 := folB2 (x3 z) (x28 z) z.nT z.T z.L0 z.L1 i1 = true
abbrev x56 := DV.cptr [DV.val (Value.string z.b.name), x20 z.b.nS [] (fun i0 => dI (z.b.fl i0)) (fun i0 => x20 (z.b.N i0) [] (fun i1 => dI (z.b.X i0 i1)) (fun i1 => dI (z.b.Y i0 i1))), dI z.b.roof, x20 z.b.nO [fun i0 => dI (z.b.O i0 2), fun i0 => dI (z.b.O i0 3), fun i0 => dI (z.b.O i0 4), fun i0 => dI (z.b.O i0 5)] (fun i0 => dI (z.b.O i0 0)) (fun i0 => dI (z.b.O i0 1)), x20 z.b.nB [fun i0 => dI (z.b.B i0 2), fun i0 => dI (z.b.B i0 3), fun i0 => dI (z.b.B i0 4), fun i0 => dI (z.b.B i0 5)] (fun i0 => dI (z.b.B i0 0)) (fun i0 => dI (z.b.B i0 1)), DV.lst z.nB [fun i0 => dI (z.B i0)], DV.lst z.nO [fun i0 => dI (z.O i0)], dI z.W, dI z.G, dI z.L, dI (x3 z), x20 (x13 z) [fun i0 => dB (decide (z.nB ≤ i0))] (fun i0 => dI (Lay.pLen z.nB z.B z.nO z.O i0)) (fun i0 => dI (Lay.pCode z.nB i0)), x20 (z.b.N 0) [fun i0 => dI (z.b.X 0 (x16 z i0)), fun i0 => dI (z.b.Y 0 (x16 z i0)), fun i0 => dI (x25 z i0), fun i0 => dI (x26 z i0)] (fun i0 => dI (z.b.X 0 i0)) (fun i0 => dI (z.b.Y 0 i0)), DV.lst (z.b.N 0) [fun i0 => dI (x27 z i0)]]
abbrev xt : VT := x45 z (x24 z (rf (z.f:Int)) [rf (↑(x8 z) : Int)]) (fun i0 => i0 ≤ x8 z ∧ (∀ i1 < i0, x50 z i1)) (fun i0 => VT.ite (decide ((x0 i0) < (↑(x8 z) : Int))) (VT.need [x43 z i0] (VT.need [x32 (0:Int) (0:Int), x32 (1:Int) (1:Int)] (x36 (i64In (x0 i0 + 1)) (decide ((mins (z.L0 (Int.toNat (x0 i0))) [z.L1 (Int.toNat (x0 i0))]) < (-(1:Int)))) (x41 z false) (x49 z i0 (x24 z (rf (z.f:Int)) [rf (↑(x8 z) : Int), x29 i0 ≤ x8 z ∧ (∀ i1 < x29 i0, x50 z i1), x8 z - x29 i0 < x8 z - i0]))))) (VT.need (x34 z (0:Int) (0:Int) :: x32 (z.f:Int) (z.f:Int) :: x48 z (i64In (x38 z)) (x48 z (x34 z (0:Int) (0:Int)) (x21 (x35 (x32 (x38 z) (x38 z)) [ri ((!(x22 z)) = true), x40 (x22 z) (!(x22 z))] (!(x22 z)) (!(x22 z))) (!(x22 z)) (!(x22 z))))) (x36 (FnC prog 42 [x56 z] (dI (x31 z))) (x19 (x22 z) (x11 z (0:Int) (0:Int) (x38 z) != (-(1:Int)))) (x41 z false) (x45 z [rf (x31 z)] (fun i0 => i0 ≤ z.b.N 0 ∧ (∀ i1 < i0, x55 z i1)) (fun i0 => VT.ite (decide ((x0 i0) < (x31 z))) (x45 z [rf (x31 z), rf (x0 i0), rf (x0 i0)] (fun i1 => i1 ≤ 4 ∧ (∀ (i2 : Nat), x46 z i0 i2 i1)) (fun i1 => x36 (i64In (x0 i0 + 1)) (decide ((i1:Int) < (4:Int))) (VT.need [x51 (i1:Int) (2:Int) (i1:Int), 0 ≤ (i1:Int) ∧ (0:Int) < (2:Int)] (VT.need [FnC prog 54 [x56 z, dI (x0 i0), dI (x1 i1), dI (x2 i1)] (dI (x4 z i0 i1))] (VT.need (x43 z i0 :: x32 (x1 i1) (x1 i1) :: ri ((!(x18 z i0 i1)) = true) :: x40 (x18 z i0 i1) (!(x18 z i0 i1)) :: x42 z i0 i1 (x42 z i0 i1 (x42 z i0 i1 (x35 (0 ≤ x4 z i0 i1 ∧ 0 < x3 z) [x40 (x23 z i0 i1) (!(x23 z i0 i1))] (!(x23 z i0 i1)) (!(x23 z i0 i1)))))) (x36 (x51 (x4 z i0 i1) (x3 z) (x4 z i0 i1)) (x19 (x23 z i0 i1) (x4 z i0 i1 % x3 z != 0)) (VT.need [i64In ((i1:Int) + 1)] (x54 z i0 i1)) (VT.need (x21 (x35 (x52 z i0 i1) (x21 (x39 z i0 i1 (i64In (x0 i0 + 1)) (x44 z i0 i1 (x34 z (x0 i0 + 1) (x0 i0 + 1)) (x39 z i0 i1 (x32 (x2 i1) (x2 i1)) (x47 z i0 i1 (x43 z i0) (x44 z i0 i1 (x32 (x1 i1) (x1 i1)) (x44 z i0 i1 (x52 z i0 i1) (x47 z i0 i1 (FnC prog 78 [dI (x37 z i0 i1), dI (x17 z i0 i1), dI (x12 z i0 i1)] (dB (x53 z i0 i1))) (x21 [(!(x10 z i0 i1)) = true → x14 z i0 i1 = true → x15 z i0 i1 = true, x40 (x10 z i0 i1) (!(x10 z i0 i1))] (x15 z i0 i1) (!(x10 z i0 i1)))))))))) (!(x10 z i0 i1)) (!(x10 z i0 i1))) (!(x10 z i0 i1)) (!(x10 z i0 i1))) (!(x10 z i0 i1)) (!(x10 z i0 i1))) (x36 (i64In ((i1:Int) + 1)) (x19 (x10 z i0 i1) (if (x14 z i0 i1) = true then (!(x53 z i0 i1)) else false)) (x41 z false) (x54 z i0 i1))))))) (x49 z i0 [rf (x31 z), x29 i0 ≤ z.b.N 0 ∧ (∀ i1 < x29 i0, x55 z i1), z.b.N 0 - x29 i0 < z.b.N 0 - i0]))) (x41 z true))))))
end
end w44
open w44 in
theorem follows_c (b : Bld) (nB : Nat) (B : Nat → Int) (nO : Nat) (O : Nat → Int) (W G L : Int) (nT : Nat) (T L0 L1 : Nat → Int) (f : Nat) (h0 : arE b nB B nO O W G L = 0) (hT : i64T nT T) (hn : nT ≤ 1000000) (hL0 : i64T (b.N 0 + 1) L0) (hL1 : i64T (b.N 0 + 1) L1) (hf : f ≤ 1) : FnC prog 44 [ringD b nB B nO O W G L, Lay.nums nT T, lst2 (b.N 0 + 1) L0 L1, dI (f : Int)] (dB (folB (Lay.catU nB B nO O W G L : Nat) (b.N 0) (fun i a e => ruL (b.N 0) (b.X 0) (b.Y 0) G W i a e) nT T L0 L1 f)) := by
  refine FnC_owed hmix (A44_follows_c b nB B nO O W G L nT T L0 L1 f) (V := xt ⟨b, nB, B, nO, O, W, G, L, nT, T, L0, L1, f⟩) (by kernel_rfl) ?_
  simp only [xt, x0, x1, x2, x3, x4, x5, x6, x7, x8, x9, x10, x11, x12, x13, x14, x15, x16, x17, x18, x19, x20, x21, x22, x23, x24, x25, x26, x27, x28, x29, x30, x31, x32, x33, x34, x35, x36, x37, x38, x39, x40, x41, x42, x43, x44, x45, x46, x47, x48, x49, x50, x51, x52, x53, x54, x55, x56, Rf, VT.holds, AllT, Sq]
  obtain ⟨hc, hs, _, _, _, _, _⟩ := ar_zero h0
  obtain ⟨b1, b2, b3, b4, b5⟩ := b0_ok hc
  have hn4 := chk_n b2
  obtain ⟨hX, hY⟩ := chk_inB b2
  have g1 := (sys_wgl hs).1
  obtain ⟨ue, u1, u2⟩ := u_bd hs
  have ef : (1 - (f : Int)).toNat = 1 - f := by omega
  rw [ef, ue]
  refine ⟨rfl, ⟨Nat.zero_le _, fun k hk => absurd hk (Nat.not_lt_zero k)⟩, fun k ⟨hk, hm⟩ => ⟨fun hlt => ⟨by omega, by omega, fun h => fol_no fun ⟨h1, _⟩ => ?_, fun h => ⟨by unfold i64In; omega, rfl, ⟨by omega, fun j hj => ?_⟩, by omega⟩⟩, fun hge => ?_⟩⟩
  · have := h1 k (by omega)
    rw [mins1, Int.min_def] at h
    split at h <;> omega
  · by_cases e : j = k
    · rw [mins1, Int.min_def] at h
      rw [e]
      split at h <;> omega
    · exact hm j (by omega)
  refine ⟨⟨by omega, by omega, fun _ => by unfold i64In; omega, fun _ => by omega, fun _ => by omega⟩, fun h => fol_no fun ⟨_, ⟨h2, h3⟩, _⟩ => ?_, fun ⟨h2, h3⟩ => ⟨n_c _ _ _ _ _ _ _ _ _ _ _ _ _ _ _, rfl, ⟨Nat.zero_le _, fun k hk => absurd hk (Nat.not_lt_zero k)⟩, fun i ⟨hi, hb⟩ => ⟨fun hlt => ⟨rfl, ⟨Nat.zero_le _, fun k hk => absurd hk (Nat.not_lt_zero k)⟩, fun c ⟨hc4, hb2⟩ => ⟨fun hlt2 => ?_, fun hge2 => ⟨by unfold i64In; omega, rfl, ⟨by omega, fun j hj => ?_⟩, by omega⟩⟩⟩, fun hge2 => fol_yes (fun i hi => hm i (by omega)) (Decidable.not_not.1 h2) h3 fun j hj => hb j (by omega)⟩⟩⟩
  · rcases h with h | h
    · exact h h2
    · exact h h3
  · skip
    have a1 : 0 ≤ (c : Int) / 2 ∧ (c : Int) / 2 ≤ 1 := by omega
    have a2 : 0 ≤ (c : Int) % 2 ∧ (c : Int) % 2 ≤ 1 := by omega
    have bf := bef_bd (n := b.N 0) (X := b.X 0) (Y := b.Y 0) (i : Int) g1 a1
    have bh := beh_bd (n := b.N 0) (X := b.X 0) (Y := b.Y 0) (i : Int) (by omega) hX hY g1 a2
    have hR : ruL (b.N 0) (b.X 0) (b.Y 0) G W i ((c : Int) / 2) ((c : Int) % 2) ≤ 10000000 := by unfold ruL; omega
    have hrl := runLen_c (.val (.string b.name)) (.lst b.nS (stoC b)) b.roof (.lst b.nO (opeC b)) (.lst b.nB (boxC b)) (Lay.nums nB B) (Lay.nums nO O) W G L (dI (Lay.catU nB B nO O W G L)) (.lst (Lay.catN nB B nO O W G L) (Lay.part3 (Lay.pLen nB B nO O) (Lay.pCode nB) (fun i => decide (nB ≤ i)))) (b.N 0) (b.X 0) (b.Y 0) i _ _ (by omega) (by omega) hX hY g1 a1 a2
    rw [ue] at hrl
    have px := pr_in hL0 hL1 (show i < b.N 0 + 1 by omega) ((c : Int) / 2).toNat
    have py := pr_in hL0 hL1 (show i + 1 < b.N 0 + 1 by omega) ((c : Int) % 2).toNat
    have key := fol1_iff (u := uRI nB B nO O) (R := ruL (b.N 0) (b.X 0) (b.Y 0) G W) (nT := nT) (T := T) (L0 := L0) (L1 := L1) (i := i) (c := c)
    have kno := fol1_no (u := uRI nB B nO O) (R := ruL (b.N 0) (b.X 0) (b.Y 0) G W) (nT := nT) (T := T) (L0 := L0) (L1 := L1) (f := f) (show i < b.N 0 by omega) (show c < 4 by omega)
    simp only [pr] at px py key
    generalize [L0 i, L1 i].getD ((c : Int) / 2).toNat 0 = x at *
    generalize [L0 (i + 1), L1 (i + 1)].getD ((c : Int) % 2).toNat 0 = y at *
    generalize ruL (b.N 0) (b.X 0) (b.Y 0) G W i ((c : Int) / 2) ((c : Int) % 2) = r at *
    have q0 : 0 ≤ r → 0 ≤ r / uRI nB B nO O := fun h => Int.ediv_nonneg h (by omega)
    have ht : 0 ≤ r → r / uRI nB B nO O < nT → i64In (T (r / uRI nB B nO O).toNat) := fun h1 h2 => hT _ (by have := q0 h1; omega)
    generalize r / uRI nB B nO O = q at *
    generalize T q.toNat = t at *
    have hnext : folB1 (uRI nB B nO O) (ruL (b.N 0) (b.X 0) (b.Y 0) G W) nT T L0 L1 i c = true → ∀ c', c' < c + 1 → folB1 (uRI nB B nO O) (ruL (b.N 0) (b.X 0) (b.Y 0) G W) nT T L0 L1 i c' = true := fun h c' hc' => by
      by_cases e : c' = c
      · rw [e]; exact h
      · exact hb2 c' (by omega)
    unfold i64In at px py
    refine ⟨⟨by omega, by omega⟩, hrl, ⟨by omega, by omega, fun h => by omega⟩, fun h => ⟨by unfold i64In; omega, rfl, ⟨by omega, hnext (key.2 fun hx => by omega)⟩, by omega⟩, fun h => ?_⟩
    have r0 : 0 ≤ r := by omega
    have q0' := q0 r0
    refine ⟨by omega, ⟨fun _ => by omega, fun _ => by unfold i64In; omega, fun _ => by omega, fun _ => by omega, fun _ => by omega, fun _ => by omega, fun _ => by omega, fun _ => reaches_c _ _ _ fun _ => by unfold i64In; omega, fun h1 h2 => ⟨h1, h2⟩⟩, fun h1 => kno fun hx => ?_, fun h1 => ⟨by unfold i64In; omega, rfl, ⟨by omega, hnext (key.2 fun _ => ⟨by omega, h1.2⟩)⟩, by omega⟩⟩
    have h2 := key.1 hx ⟨by omega, r0, h.2⟩
    rcases h1 with h1 | h1
    · omega
    · exact h1.2 (h2.2 h1.1)
  · by_cases e : j = i
    · rw [e]; exact fol2_iff.2 fun c' hc' => hb2 c' (by omega)
    · exact hb j (by omega)
noncomputable def A39_ringRight_c (b : Bld) (nB : Nat) (B : Nat → Int) (nO : Nat) (O : Nat → Int) (W G L : Int) (nT : Nat) (T L0 L1 : Nat → Int) (f : Nat) : Ann := { orc := [(1, [(1, rFst b)]), (15, [(3, .pos), (11, .pos)]), (17, [(4, .pos), (6, .pos), (7, .res fun l => dI (ruL (b.N 0) (b.X 0) (b.Y 0) G W (aI l 2) (aI l 3) (aI l 4)))]), (18, [(5, .res fun _ => dI (uRI nB B nO O)), (6, .pos)]), (19, [(2, .res fun _ => dI (uRI nB B nO O)), (3, .pos)]), (21, [(3, .res fun _ => dI (uRI nB B nO O)), (4, .pos)])], loops := [(0, { ι := Nat, keep := [2, 3, 4, 5, 6, 11], boxes := [5, 6], ts := fun _ k => [(12, dI (k : Int))], inv := fun _ k => k ≤ b.N 0 + 1 ∧ ∀ i, i < k → -1 ≤ L0 i ∧ -1 ≤ L1 i, mu := fun _ k => b.N 0 + 1 - k, rd := fun _ σ => (iOf (σ.get 12)).toNat }), (2, { ι := Nat, keep := [2, 3, 5, 6, 11], boxes := [5, 6], ts := fun _ k => [(13, dI (k : Int))], inv := fun _ k => k ≤ b.N 0 ∧ ∀ i, i < k → folB2 (uRI nB B nO O) (fun i a e => ruL (b.N 0) (b.X 0) (b.Y 0) G W i a e) nT T L0 L1 i = true, mu := fun _ k => b.N 0 - k, rd := fun _ σ => (iOf (σ.get 13)).toNat }), (4, { ι := Nat, keep := [2, 3, 5, 6, 11, 13], boxes := [5, 6], ts := fun _ c => [(14, dI (c : Int))], inv := fun σ c => c ≤ 4 ∧ ∀ c', c' < c → folB1 (uRI nB B nO O) (fun i a e => ruL (b.N 0) (b.X 0) (b.Y 0) G W i a e) nT T L0 L1 (iOf (σ.get 13)).toNat c' = true, mu := fun _ c => 4 - c, rd := fun _ σ => (iOf (σ.get 14)).toNat })], cuts := [] }
namespace w45
noncomputable section
structure Z where
  b : Bld
  nB : Nat
  B : Nat → Int
  nO : Nat
  O : Nat → Int
  W : Int
  G : Int
  L : Int
  nT : Nat
  T : Nat → Int
  L0 : Nat → Int
  L1 : Nat → Int
  f : Nat
variable (z : Z) (i0 i1 i2 : Nat) (p : Prop) (P : List Prop) (a b : Int) (k : Nat) (g h : Bool) (E : List DV) (U : VT) (j12a : List Int) (j13a : Nat → Int) (j15a : Nat → Prop) (j16a : Nat → VT)
abbrev x0 : Int := (i0:Int)
abbrev x1 := i0 < z.b.nO → rf (z.b.O i0 k)
abbrev x2 := i0 < z.b.nB → rf (z.b.B i0 k)
abbrev x3 := (i1:Int) % 2
abbrev x4 := i0 < k → rf (j13a i0)
abbrev x5 := (i1:Int) / 2
abbrev x6 := x0 i0 + 1
abbrev x7 := uRI z.nB z.B z.nO z.O
abbrev x8 := z.b.N 0 + 1
abbrev x9 := ruL (z.b.N 0) (z.b.X 0) (z.b.Y 0) z.G z.W (x0 i0) (x5 i1) (x3 i1)
abbrev x10 := List.getD j12a (Int.toNat a) 0
abbrev x11 : List Int := [z.L0 (Int.toNat a), z.L1 (Int.toNat b)]
abbrev x12 : Int := (z.f:Int)
abbrev x13 := decide (a < (0:Int))
abbrev x14 := z.T (Int.toNat (x9 z i0 i1 / x7 z))
abbrev x15 := x10 a (x11 z (0:Int) (0:Int))
abbrev x16 := Int.toNat ((i1:Int) + 1)
abbrev x17 := decide ((x14 z i0 i1) ≥ (0:Int))
abbrev x18 := x15 z (x12 z) != 0
abbrev x19 := ruL (z.b.N 0) (z.b.X 0) (z.b.Y 0) z.G z.W
abbrev x20 := decide ((z.L0 (Int.toNat (x0 i0))) < (-(1:Int)))
abbrev x21 := x10 (x3 i1) (x11 z (x6 i0) (x6 i0))
abbrev x22 := Int.toNat (x6 i0)
abbrev x23 : List Prop := rf (↑(z.b.N 0) : Int) :: P
abbrev x24 : List Prop := p :: rf z.nT :: (∀ (i0 : Nat), x4 i0 z.nT z.T) :: rf (x8 z) :: (∀ (i0 : Nat), x4 i0 (x8 z) z.L0) :: (∀ (i0 : Nat), x4 i0 (x8 z) z.L1) :: P
abbrev x25 : List Prop := rf z.b.name :: rf z.b.nS :: (∀ i0 < z.b.nS, rf (z.b.fl i0)) :: (∀ i0 < z.b.nS, rf (z.b.N i0) ∧ (∀ i1 < z.b.N i0, rf (z.b.X i0 i1)) ∧ (∀ i1 < z.b.N i0, rf (z.b.Y i0 i1))) :: rf z.b.roof :: rf z.b.nO :: (∀ (i0 : Nat), x1 z i0 (0:Nat)) :: (∀ (i0 : Nat), x1 z i0 (1:Nat)) :: (∀ (i0 : Nat), x1 z i0 (2:Nat)) :: (∀ (i0 : Nat), x1 z i0 (3:Nat)) :: (∀ (i0 : Nat), x1 z i0 (4:Nat)) :: (∀ (i0 : Nat), x1 z i0 (5:Nat)) :: rf z.b.nB :: (∀ (i0 : Nat), x2 z i0 (0:Nat)) :: (∀ (i0 : Nat), x2 z i0 (1:Nat)) :: (∀ (i0 : Nat), x2 z i0 (2:Nat)) :: (∀ (i0 : Nat), x2 z i0 (3:Nat)) :: (∀ (i0 : Nat), x2 z i0 (4:Nat)) :: (∀ (i0 : Nat), x2 z i0 (5:Nat)) :: rf z.nB :: (∀ (i0 : Nat), x4 i0 z.nB z.B) :: rf z.nO :: (∀ (i0 : Nat), x4 i0 z.nO z.O) :: rf z.W :: rf z.G :: rf z.L :: P
abbrev x26 := (!g) = true → p
abbrev x27 : List Prop := ri ((!(x18 z)) = true) :: P
abbrev x28 := 0 ≤ a ∧ b < (↑(2:Nat) : Int)
abbrev x29 := 0 ≤ a ∧ b < (↑(x8 z) : Int)
abbrev x30 := (x17 z i0 i1) && (!(x13 (x21 z i0 i1)))
abbrev x31 := VT.need [i64In a] (VT.done P)
abbrev x32 := VT.done [g = folB (x7 z) (z.b.N 0) (x19 z) z.nT z.T z.L0 z.L1 z.f]
abbrev x33 : List Prop := ri ((!(x13 (x9 z i0 i1))) = true) :: P
abbrev x34 : List Prop := ri (x30 z i0 i1 = true) :: P
abbrev x35 := if g = true then true else h
abbrev x36 := 0 < a ∧ b ≤ 9223372036854775807
abbrev x37 := (-(1:Int)) ≤ (j13a i1)
abbrev x38 := VT.ite g (x32 z false) U
abbrev x39 : List DV := DV.agg [DV.lst z.nB [fun i0 => dI (z.B i0)], DV.lst z.nO [fun i0 => dI (z.O i0)], dI z.W, dI z.G, dI z.L] :: E
abbrev x40 := i2 < k → folB1 (x7 z) (x19 z) z.nT z.T z.L0 z.L1 (Int.toNat (x0 i0)) i2 = true
abbrev x41 : List Prop := p :: ri ((!(x20 z i0)) = true) :: P
abbrev x42 := VT.loop Nat j15a (Int.toNat 0) P j16a
abbrev x43 := 0 = (↑(Int.toNat 0) : Int)
abbrev x44 := x29 z (x0 i0) (x0 i0)
abbrev x45 := FnC prog 48 (x39 z []) (dI (x7 z))
abbrev x46 := x31 (x24 z ((i1:Int) + 1 = (↑(x16 i1) : Int)) (x23 z (rf (x0 i0) :: x25 z [x16 i1 ≤ 4 ∧ (∀ (i2 : Nat), x40 z i0 i2 (x16 i1)), 4 - x16 i1 < 4 - i1]))) ((i1:Int) + 1)
abbrev xt : VT := VT.need [FnC prog 33 [bld z.b] (DV.lst (z.b.N 0) [fun i0 => dI (z.b.X 0 i0), fun i0 => dI (z.b.Y 0 i0)])] (VT.need (x29 z (0:Int) (0:Int) :: x28 (x12 z) (x12 z) :: x27 z (x26 (i64In (1 - x12 z)) (x18 z) :: x27 z (x26 (x29 z (0:Int) (0:Int)) (x18 z) :: x27 z (x27 z (x26 (x28 (1 - x12 z) (1 - x12 z)) (x18 z) :: x27 z (x27 z [x18 z = false → (!(x18 z)) = true])))))) (x38 z (x35 (x18 z) (x15 z (1 - x12 z) != (-(1:Int)))) (x42 (x24 z x43 (rf (x12 z) :: x23 z (x25 z []))) (fun i0 => i0 ≤ x8 z ∧ (∀ i1 < i0, x37 i1 z.L0 ∧ x37 i1 z.L1)) (fun i0 => VT.ite (decide ((x0 i0) ≤ (↑(z.b.N 0) : Int))) (VT.need (x44 z i0 :: x41 z i0 (x28 (0:Int) (0:Int)) (ri ((!(x20 z i0)) = true) :: x41 z i0 (x26 (x44 z i0) (x20 z i0)) (x41 z i0 (x26 (x28 (1:Int) (1:Int)) (x20 z i0)) [ri ((!(x20 z i0)) = true), x20 z i0 = false → (!(x20 z i0)) = true]))) (x38 z (x35 (x20 z i0) (decide ((z.L1 (Int.toNat (x0 i0))) < (-(1:Int))))) (x31 (x24 z (x6 i0 = (↑(x22 i0) : Int)) (rf (x12 z) :: x23 z (x25 z [x22 i0 ≤ x8 z ∧ (∀ i1 < x22 i0, x37 i1 z.L0 ∧ x37 i1 z.L1), x8 z - x22 i0 < x8 z - i0]))) (x6 i0)))) (x42 (x24 z x43 (x23 z (x25 z []))) (fun i0 => i0 ≤ z.b.N 0 ∧ (∀ i1 < i0, folB2 (x7 z) (x19 z) z.nT z.T z.L0 z.L1 i1 = true)) (fun i0 => VT.ite (decide ((x0 i0) < (↑(z.b.N 0) : Int))) (x42 (x24 z x43 (x23 z (rf (x0 i0) :: x25 z []))) (fun i1 => i1 ≤ 4 ∧ (∀ (i2 : Nat), x40 z i0 i2 i1)) (fun i1 => VT.ite (decide ((i1:Int) < (4:Int))) (VT.need [0 ≤ (i1:Int) ∧ x36 (2:Int) (i1:Int), x44 z i0, x28 (x5 i1) (x5 i1), i64In (x6 i0), 0 ≤ (i1:Int) ∧ (0:Int) < (2:Int), x29 z (x6 i0) (x6 i0), x28 (x3 i1) (x3 i1)] (VT.ite (x13 (x10 (x5 i1) (x11 z (x0 i0) (x0 i0)))) (x46 z i0 i1) (VT.need [0 ≤ (i1:Int) ∧ x36 (2:Int) (i1:Int), 0 ≤ (i1:Int) ∧ (0:Int) < (2:Int), FnC prog 36 (bld z.b :: x39 z [dI (x0 i0), dI (x5 i1), dI (x3 i1)]) (dI (x9 z i0 i1))] (VT.need (x33 z i0 i1 (x26 (x45 z) (x13 (x9 z i0 i1)) :: x33 z i0 i1 (x33 z i0 i1 (x26 (0 ≤ x9 z i0 i1 ∧ 0 < x7 z) (x13 (x9 z i0 i1)) :: x33 z i0 i1 [x13 (x9 z i0 i1) = false → (!(x13 (x9 z i0 i1))) = true])))) (VT.ite (x35 (x13 (x9 z i0 i1)) (x9 z i0 i1 % x7 z != 0)) (x46 z i0 i1) (VT.need [x45 z, 0 ≤ x9 z i0 i1 ∧ x36 (x7 z) (x9 z i0 i1)] (x38 z (decide ((x9 z i0 i1 / x7 z) ≥ (z.nT:Int))) (VT.need [x45 z, 0 ≤ x9 z i0 i1 ∧ x36 (x7 z) (x9 z i0 i1), 0 ≤ x9 z i0 i1 / x7 z ∧ x9 z i0 i1 / x7 z < (z.nT:Int)] (VT.need (ri (x17 z i0 i1 = true) :: ri (x17 z i0 i1 = true) :: x34 z i0 i1 (x34 z i0 i1 ((x30 z i0 i1 = true → i64In (x21 z i0 i1 - x14 z i0 i1)) :: x34 z i0 i1 (x34 z i0 i1 [ri (x17 z i0 i1 = true), x17 z i0 i1 = true → x13 (x21 z i0 i1) = false → x30 z i0 i1 = true, ri (x17 z i0 i1 = true)])))) (x38 z (if (x17 z i0 i1) = true then (x35 (x13 (x21 z i0 i1)) (decide ((x21 z i0 i1 - x14 z i0 i1) > (x10 (x5 i1) (x11 z (x0 i0) (x0 i0)))))) else false) (x46 z i0 i1))))))))))) (x31 (x24 z (x6 i0 = (↑(x22 i0) : Int)) (x23 z (x25 z [x22 i0 ≤ z.b.N 0 ∧ (∀ i1 < x22 i0, folB2 (x7 z) (x19 z) z.nT z.T z.L0 z.L1 i1 = true), z.b.N 0 - x22 i0 < z.b.N 0 - i0]))) (x6 i0)))) (x32 z true)))))))
end
end w45
open w45 in
theorem ringRight_c (b : Bld) (nB : Nat) (B : Nat → Int) (nO : Nat) (O : Nat → Int) (W G L : Int) (nT : Nat) (T L0 L1 : Nat → Int) (f : Nat) (h0 : arE b nB B nO O W G L = 0) (hT : i64T nT T) (hn : nT ≤ 1000000) (hL0 : i64T (b.N 0 + 1) L0) (hL1 : i64T (b.N 0 + 1) L1) (hf : f ≤ 1) : FnC prog 39 [bld b, Lay.sys nB B nO O W G L, Lay.nums nT T, lst2 (b.N 0 + 1) L0 L1, dI (f : Int)] (dB (folB (uRI nB B nO O) (b.N 0) (fun i a e => ruL (b.N 0) (b.X 0) (b.Y 0) G W i a e) nT T L0 L1 f)) := by
  refine FnC_owed hmix (A39_ringRight_c b nB B nO O W G L nT T L0 L1 f) (V := xt ⟨b, nB, B, nO, O, W, G, L, nT, T, L0, L1, f⟩) (by kernel_rfl) ?_
  simp only [xt, x0, x1, x2, x3, x4, x5, x6, x7, x8, x9, x10, x11, x12, x13, x14, x15, x16, x17, x18, x19, x20, x21, x22, x23, x24, x25, x26, x27, x28, x29, x30, x31, x32, x33, x34, x35, x36, x37, x38, x39, x40, x41, x42, x43, x44, x45, x46, Rf, VT.holds, AllT, Sq]
  obtain ⟨hc, hs, _, _, _, _, _⟩ := ar_zero h0
  obtain ⟨b1, b2, b3, b4, b5⟩ := b0_ok hc
  have hn4 := chk_n b2
  obtain ⟨hX, hY⟩ := chk_inB b2
  have g1 := (sys_wgl hs).1
  obtain ⟨ue, u1, u2⟩ := u_bd hs
  obtain ⟨s1, s2, s3, sB, sO, _, _⟩ := Lay.sys_ok hs
  have ef : (1 - (f : Int)).toNat = 1 - f := by omega
  rw [ef]
  refine ⟨first_c b b1, ⟨by omega, by omega, fun _ => by unfold i64In; omega, fun _ => by omega, fun _ => by omega⟩, fun h => fol_no fun ⟨_, ⟨h2, h3⟩, _⟩ => ?_, fun ⟨h2, h3⟩ => ⟨rfl, ⟨Nat.zero_le _, fun k hk => absurd hk (Nat.not_lt_zero k)⟩, fun k ⟨hk, hm⟩ => ⟨fun hlt => ⟨⟨by omega, by omega, fun _ => by omega, fun _ => by omega⟩, fun h => fol_no fun ⟨h1, _⟩ => ?_, fun h => ⟨by unfold i64In; omega, rfl, ⟨by omega, fun j hj => ?_⟩, by omega⟩⟩, fun hge => ⟨rfl, ⟨Nat.zero_le _, fun k hk => absurd hk (Nat.not_lt_zero k)⟩, fun i ⟨hi, hb⟩ => ⟨fun hlt => ⟨rfl, ⟨Nat.zero_le _, fun k hk => absurd hk (Nat.not_lt_zero k)⟩, fun c ⟨hc4, hb2⟩ => ⟨fun hlt2 => ?_, fun hge2 => ⟨by unfold i64In; omega, rfl, ⟨by omega, fun j hj => ?_⟩, by omega⟩⟩⟩, fun hge2 => fol_yes (fun i hi => hm i (by omega)) (Decidable.not_not.1 h2) h3 fun j hj => hb j (by omega)⟩⟩⟩⟩⟩
  · rcases h with h | h
    · exact h h2
    · exact h h3
  · have := h1 k (by omega); omega
  · by_cases e : j = k
    · rw [e]; omega
    · exact hm j (by omega)
  · skip
    have a1 : 0 ≤ (c : Int) / 2 ∧ (c : Int) / 2 ≤ 1 := by omega
    have a2 : 0 ≤ (c : Int) % 2 ∧ (c : Int) % 2 ≤ 1 := by omega
    have bf := bef_bd (n := b.N 0) (X := b.X 0) (Y := b.Y 0) (i : Int) g1 a1
    have bh := beh_bd (n := b.N 0) (X := b.X 0) (Y := b.Y 0) (i : Int) (by omega) hX hY g1 a2
    have hR : ruL (b.N 0) (b.X 0) (b.Y 0) G W i ((c : Int) / 2) ((c : Int) % 2) ≤ 10000000 := by unfold ruL; omega
    have hrl := runLenR_c b nB B nO O W G L i _ _ b1 b2 g1 (by omega) a1 a2
    have hun : FnC prog 48 [Lay.sys nB B nO O W G L] (dI (uRI nB B nO O)) := Lay.unitR_c nB B nO O W G L s2 s3 sB sO
    have px := pr_in hL0 hL1 (show i < b.N 0 + 1 by omega) ((c : Int) / 2).toNat
    have py := pr_in hL0 hL1 (show i + 1 < b.N 0 + 1 by omega) ((c : Int) % 2).toNat
    have key := fol1_iff (u := uRI nB B nO O) (R := ruL (b.N 0) (b.X 0) (b.Y 0) G W) (nT := nT) (T := T) (L0 := L0) (L1 := L1) (i := i) (c := c)
    have kno := fol1_no (u := uRI nB B nO O) (R := ruL (b.N 0) (b.X 0) (b.Y 0) G W) (nT := nT) (T := T) (L0 := L0) (L1 := L1) (f := f) (show i < b.N 0 by omega) (show c < 4 by omega)
    simp only [pr] at px py key
    generalize [L0 i, L1 i].getD ((c : Int) / 2).toNat 0 = x at *
    generalize [L0 (i + 1), L1 (i + 1)].getD ((c : Int) % 2).toNat 0 = y at *
    generalize ruL (b.N 0) (b.X 0) (b.Y 0) G W i ((c : Int) / 2) ((c : Int) % 2) = r at *
    have q0 : 0 ≤ r → 0 ≤ r / uRI nB B nO O := fun h => Int.ediv_nonneg h (by omega)
    have ht : 0 ≤ r → r / uRI nB B nO O < nT → i64In (T (r / uRI nB B nO O).toNat) := fun h1 h2 => hT _ (by have := q0 h1; omega)
    generalize r / uRI nB B nO O = q at *
    generalize T q.toNat = t at *
    have hnext : folB1 (uRI nB B nO O) (ruL (b.N 0) (b.X 0) (b.Y 0) G W) nT T L0 L1 i c = true → ∀ c', c' < c + 1 → folB1 (uRI nB B nO O) (ruL (b.N 0) (b.X 0) (b.Y 0) G W) nT T L0 L1 i c' = true := fun h c' hc' => by
      by_cases e : c' = c
      · rw [e]; exact h
      · exact hb2 c' (by omega)
    unfold i64In at px py
    refine ⟨⟨by omega, by omega, by omega, by unfold i64In; omega, by omega, by omega, by omega⟩, fun h => ⟨by unfold i64In; omega, rfl, ⟨by omega, hnext (key.2 fun hx => by omega)⟩, by omega⟩, fun hx0 => ⟨⟨by omega, by omega, hrl⟩, ⟨fun _ => hun, fun _ => by omega⟩, fun h => ⟨by unfold i64In; omega, rfl, ⟨by omega, hnext (key.2 fun hx => by omega)⟩, by omega⟩, fun h => ?_⟩⟩
    have r0 : 0 ≤ r := by omega
    have q0' := q0 r0
    refine ⟨⟨hun, by omega, by omega, by omega⟩, fun h1 => kno fun hx => ?_, fun h1 => ⟨⟨hun, by omega, by omega⟩, ⟨fun h2 => ?_, fun h2 h3 => ⟨h2, h3⟩⟩, fun h2 => kno fun hx => ?_, fun h2 => ⟨by unfold i64In; omega, rfl, ⟨by omega, hnext (key.2 fun _ => ⟨by omega, fun h3 => ?_⟩)⟩, by omega⟩⟩⟩
    · have h2 := key.1 hx ⟨by omega, r0, h.2⟩
      omega
    · have t2 := ht r0 (by omega)
      unfold i64In at t2 ⊢; omega
    · have h3 := (key.1 hx ⟨by omega, r0, h.2⟩).2 h2.1
      omega
    · have := h2 h3; omega
  · by_cases e : j = i
    · rw [e]; exact fol2_iff.2 fun c' hc' => hb2 c' (by omega)
    · exact hb j (by omega)
end Go.Abs
end
