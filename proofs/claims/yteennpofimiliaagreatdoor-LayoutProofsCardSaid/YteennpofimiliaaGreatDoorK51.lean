/- Contracts. Contracts. -/
import Derived.Test.YteennpofimiliaaGreatDoorK44
import Derived.Test.YteennpofimiliaaGreatDoorL10
section
set_option linter.unusedVariables false
set_option linter.unusedSimpArgs false
set_option maxRecDepth 100000
namespace Go.Abs
open Go
theorem bad01_sp {x : Int} : bad01 x = false ↔ 0 ≤ x ∧ x ≤ 1 := by
  unfold bad01 Lay.inR
  simp
structure Lyt where
  nC : Nat
  C : Nat → Int
  nR : Nat
  F : Nat → Int
  SX : Nat → Int
  SY : Nat → Int
  Ln : Nat → Int
  nP : Nat → Nat
  P : Nat → Nat → Int
  nQ : Nat → Nat
  Q : Nat → Nat → Int
abbrev runC (l : Lyt) : List (Nat → DV) := [fun i => dI (l.F i), fun i => dI (l.SX i), fun i => dI (l.SY i), fun i => dI (l.Ln i), fun i => Lay.nums (l.nP i) (l.P i), fun i => Lay.nums (l.nQ i) (l.Q i)]
abbrev lyt (l : Lyt) : DV := .agg [Lay.nums l.nC l.C, .lst l.nR (runC l)]
def tidF (l : Lyt) : Bool := decide (l.nC ≤ 20 ∧ l.nR ≤ 20 ∧ ∀ i, i < l.nR → l.nP i ≤ 100 ∧ l.nQ i ≤ 100)
def rSho : Orc := .res fun l => dB (decide (lenOf (fD 0 (arg l 0)) ≤ 100 ∧ lenOf (fD 1 (arg l 0)) ≤ 100))
def rClg : Orc := .res fun l => .agg [Lay.nums (lenOf (fD 0 (arg l 0))) (colI 0 (fD 0 (arg l 0))), Lay.nums (lenOf (fD 1 (arg l 0))) (colI 0 (fD 1 (arg l 0)))]
def odC (nB : Nat) (B : Nat → Int) (l : Lyt) (i : Nat) : Int := (l.nQ i : Int) + Lay.cntN (l.P i) (B (nB - 1)) (l.nP i)
def totO (nB : Nat) (B : Nat → Int) (l : Lyt) : Nat → Int
  | 0 => 0
  | k + 1 => totO nB B l k + odC nB B l k
def totB (l : Lyt) : Nat → Int
  | 0 => 0
  | k + 1 => totB l k + (l.nP k : Int)
def tidOk (l : Lyt) : Prop := l.nC ≤ 20 ∧ l.nR ≤ 20 ∧ ∀ i, i < l.nR → l.nP i ≤ 100 ∧ l.nQ i ≤ 100
def cloE (nB : Nat) (B : Nat → Int) (nO : Nat) (O : Nat → Int) (l : Lyt) (i : Nat) : Int := Lay.closesE nB B nO O (l.nP i) (l.P i) (l.nQ i) (l.Q i) (l.Ln i)
def ruX (b : Bld) (G W : Int) (i : Nat) (a : Int) : Int := atX (b.N 0) (b.X 0) (b.Y 0) i (befF (b.N 0) (b.X 0) (b.Y 0) G W i a) G
def ruY (b : Bld) (G W : Int) (i : Nat) (a : Int) : Int := atY (b.N 0) (b.X 0) (b.Y 0) i (befF (b.N 0) (b.X 0) (b.Y 0) G W i a) G
def nxC (b : Bld) (l : Lyt) (i : Nat) : Int := l.C (((i : Int) + 1) % (b.N 0 : Int)).toNat
def ruE (b : Bld) (nB : Nat) (B : Nat → Int) (nO : Nat) (O : Nat → Int) (W G : Int) (l : Lyt) (i : Nat) : Int :=
  if l.F i ≠ i then 10 else if ¬ (l.SX i = ruX b G W i (l.C i) ∧ l.SY i = ruY b G W i (l.C i) ∧ l.Ln i = ruL (b.N 0) (b.X 0) (b.Y 0) G W i (l.C i) (nxC b l i)) then 3 else cloE nB B nO O l i
def lyE (b : Bld) (nB : Nat) (B : Nat → Int) (nO : Nat) (O : Nat → Int) (W G : Int) (l : Lyt) : Int :=
  if l.nC ≠ b.N 0 ∨ l.nR ≠ b.N 0 then 11 else if Lay.anyN (fun k => bad01 (l.C k)) l.nC = true then 2 else firstE (ruE b nB B nO O W G l) (b.N 0)
def laE (b : Bld) (nB : Nat) (B : Nat → Int) (nO : Nat) (O : Nat → Int) (W G L : Int) (l : Lyt) : Int := if arE b nB B nO O W G L ≠ 0 then arE b nB B nO O W G L else lyE b nB B nO O W G l
theorem odC_bd {nB : Nat} {B : Nat → Int} {l : Lyt} (h : tidOk l) {i : Nat} (hi : i < l.nR) : 0 ≤ odC nB B l i ∧ odC nB B l i ≤ 200 := by
  have := h.2.2 i hi
  have hc := Lay.cntN_bd (l.P i) (B (nB - 1)) (l.nP i)
  unfold odC
  omega
theorem totO_bd {nB : Nat} {B : Nat → Int} {l : Lyt} (h : tidOk l) : ∀ k, k ≤ l.nR → 0 ≤ totO nB B l k ∧ totO nB B l k ≤ 200 * k
  | 0, _ => by rw [totO]; omega
  | k + 1, hk => by
    have := totO_bd (nB := nB) (B := B) h k (by omega)
    have := odC_bd (nB := nB) (B := B) h (i := k) (by omega)
    rw [totO]
    omega
theorem totB_bd {l : Lyt} (h : tidOk l) : ∀ k, k ≤ l.nR → 0 ≤ totB l k ∧ totB l k ≤ 100 * k
  | 0, _ => by rw [totB]; omega
  | k + 1, hk => by
    have := totB_bd h k (by omega)
    have := h.2.2 k (by omega)
    rw [totB]
    omega
theorem tid_ok {l : Lyt} (h : tidF l = true) : tidOk l := by
  unfold tidF at h
  rw [decide_eq_true_eq] at h
  exact h
noncomputable def A25_tidy_c (l : Lyt) : Ann := { orc := [(4, [(6, rSho)])], loops := [(0, { ι := Nat, keep := [1], boxes := [1], ts := fun _ i => [(3, dI (i : Int))], inv := fun _ i => i ≤ l.nR ∧ ∀ k, k < i → l.nP k ≤ 100 ∧ l.nQ k ≤ 100, mu := fun _ i => l.nR - i, rd := fun _ σ => (iOf (σ.get 3)).toNat })], cuts := [] }
abbrev q_tidy_c_0 (i : Nat) (l : Lyt) : Bool := decide ((i:Int) < (l.nR:Int))
abbrev q_tidy_c_1 (l : Lyt) : Bool := decide ((l.nC:Int) ≤ (20:Int))
abbrev tidy_cr0 (l : Lyt) (r : List Prop) : List Prop := (l.nC = l.nC) :: (∀ i < l.nC, l.C i = l.C i) :: (l.nR = l.nR) :: (∀ i < l.nR, l.F i = l.F i) :: (∀ i < l.nR, l.SX i = l.SX i) :: (∀ i < l.nR, l.SY i = l.SY i) :: (∀ i < l.nR, l.Ln i = l.Ln i) :: (∀ i < l.nR, l.nP i = l.nP i ∧ ∀ i_1 < l.nP i, l.P i i_1 = l.P i i_1) :: (∀ i < l.nR, l.nQ i = l.nQ i ∧ ∀ i_1 < l.nQ i, l.Q i i_1 = l.Q i i_1) :: r
theorem tidy_c (l : Lyt)  : FnC prog 7 [lyt l] (dB (tidF l)) := by
  refine FnC_owed hmix (A25_tidy_c l) (V := .loop Nat (fun a => a ≤ l.nR ∧ ∀ (k : Nat), k < a → l.nP k ≤ (100:Nat) ∧ l.nQ k ≤ (100:Nat)) (0:Int).toNat (((0:Int) = (↑(0:Int).toNat : Int)) :: (tidy_cr0 l [])) fun i => .need [(q_tidy_c_0 i l) = true → (q_tidy_c_0 i l) = true, (q_tidy_c_0 i l) = true → (q_tidy_c_0 i l) = true, (q_tidy_c_0 i l) = true → (q_tidy_c_0 i l) = true, (q_tidy_c_0 i l) = true → (q_tidy_c_0 i l) = true] (.ite (if (q_tidy_c_0 i l) = true then decide ((l.nR:Int) ≤ (20:Int)) else false) (.need [(0:Int) ≤ (i:Int) ∧ (i:Int) < (l.nR:Int), FnC prog 31 [.agg [.lst (l.nP (i:Int).toNat) [fun i_1 => (dI (l.P (i:Int).toNat i_1))], .lst (l.nQ (i:Int).toNat) [fun i_1 => (dI (l.Q (i:Int).toNat i_1))]]] ((dB (decide (l.nP (i:Int).toNat ≤ (100:Nat) ∧ l.nQ (i:Int).toNat ≤ (100:Nat)))))] (.ite (!decide (l.nP (i:Int).toNat ≤ (100:Nat) ∧ l.nQ (i:Int).toNat ≤ (100:Nat))) (.done [false = tidF l]) (.need [i64In ((i:Int) + (1:Int))] (.done (((i:Int) + (1:Int) = (↑((i:Int) + (1:Int)).toNat : Int)) :: (tidy_cr0 l [Int.toNat ((i:Int) + (1:Int)) ≤ l.nR ∧ ∀ (k : Nat), k < ((i:Int) + (1:Int)).toNat → l.nP k ≤ (100:Nat) ∧ l.nQ k ≤ (100:Nat), l.nR - ((i:Int) + (1:Int)).toNat < l.nR - i])))))) (.need [(q_tidy_c_1 l) = true → (q_tidy_c_1 l) = true, (q_tidy_c_1 l) = true → (q_tidy_c_1 l) = true, (q_tidy_c_1 l) = true → (q_tidy_c_1 l) = true, (q_tidy_c_1 l) = true → (q_tidy_c_1 l) = true] (.done [(if (q_tidy_c_1 l) = true then decide ((l.nR:Int) ≤ (20:Int)) else false) = tidF l])))) (by kernel_rfl) ?_
  simp only [q_tidy_c_0, q_tidy_c_1, VT.holds, AllT, Sq]
  refine ⟨rfl, ⟨Nat.zero_le _, fun k hk => absurd hk (Nat.not_lt_zero k)⟩, fun i ⟨hi, hb⟩ => ⟨fun ⟨h1, h2⟩ => ⟨⟨by omega, Lay.short_c _ _ _ _⟩, fun h => ?_, fun h => ⟨by unfold i64In; omega, rfl, ⟨by omega, fun k hk => ?_⟩, by omega⟩⟩, fun h => ?_⟩⟩
  · rw [tidF, eq_comm, decide_eq_false_iff_not]
    exact fun hx => h (hx.2.2 i (by omega))
  · by_cases e : k = i
    · rw [e]; exact h
    · exact hb k (by omega)
  · rw [tidF, ← Bool.decide_and, decide_eq_decide]
    refine ⟨fun ⟨h1, h2⟩ => ⟨by omega, by omega, fun k hk => hb k ?_⟩, fun ⟨h1, h2, _⟩ => by omega⟩
    by_cases e : i < l.nR
    · have := h (by omega); omega
    · omega
noncomputable def A27_laidCopy_c (l : Lyt) : Ann := { orc := [(1, [(2, .res fun _ => Lay.nums l.nC l.C)]), (6, [(2, rClg)])], loops := [(0, { ι := Nat, keep := [1, 2, 3], boxes := [1, 2], ts := fun _ i => [(4, dI (i : Int))], bx := fun σ i => [(3, [Lay.nums l.nC l.C, .row 6 (σ.nx + 50) 0 i])], rb := fun _ i => [(3, 1, 6, i, runC l)], inv := fun _ i => i ≤ l.nR, mu := fun _ i => l.nR - i, rd := fun _ σ => (iOf (σ.get 4)).toNat })], cuts := [] }
abbrev laidCopy_cr0 (l : Lyt) (r : List Prop) : List Prop := (∀ i < l.nR, l.F i = l.F i) :: (∀ i < l.nR, l.SX i = l.SX i) :: (∀ i < l.nR, l.SY i = l.SY i) :: (∀ i < l.nR, l.Ln i = l.Ln i) :: (∀ i < l.nR, l.nP i = l.nP i ∧ ∀ i_1 < l.nP i, l.P i i_1 = l.P i i_1) :: (∀ i < l.nR, l.nQ i = l.nQ i ∧ ∀ i_1 < l.nQ i, l.Q i i_1 = l.Q i i_1) :: r
theorem laidCopy_c (l : Lyt) (h : tidOk l) : FnC prog 15 [lyt l] (lyt l) := by
  refine FnC_owed hmix (A27_laidCopy_c l) (V := .need [FnC prog 11 [.lst l.nC [fun i => (dI (l.C i))]] (.lst l.nC [fun i => (dI (l.C i))])] (.loop Nat (fun a => a ≤ l.nR) (0:Int).toNat (((0:Int) = (↑(0:Int).toNat : Int)) :: ((Int.toNat (0:Int) = (0:Nat)) :: ((l.nC = l.nC) :: ((∀ i < l.nC, l.C i = l.C i) :: (((0:Nat) = (0:Nat)) :: ((Int.toNat (0:Int) = (0:Nat)) :: ((l.nC = l.nC) :: ((∀ i < l.nC, l.C i = l.C i) :: ((l.nR = l.nR) :: (laidCopy_cr0 l [Value.slice none (0:Nat) (0:Nat) = Value.slice none (0:Nat) (0:Nat), Value.slice none (0:Nat) (0:Nat) = Value.slice none (0:Nat) (0:Nat)])))))))))) fun i => .ite (decide ((i:Int) < (l.nR:Int))) (.need [(0:Int) ≤ (i:Int) ∧ (i:Int) < (l.nR:Int)] (.need [FnC prog 47 [.agg [.lst (l.nP (i:Int).toNat) [fun i_1 => (dI (l.P (i:Int).toNat i_1))], .lst (l.nQ (i:Int).toNat) [fun i_1 => (dI (l.Q (i:Int).toNat i_1))]]] (.agg [.lst (l.nP (i:Int).toNat) [fun i_1 => (dI (l.P (i:Int).toNat i_1))], .lst (l.nQ (i:Int).toNat) [fun i_1 => (dI (l.Q (i:Int).toNat i_1))]])] (.need [i ≤ i, (i + (1:Nat)) * (nat_lit 79 + (1:Nat)) ≤ (140737488355328:Nat), (1:Nat) ≤ (1:Nat)] (.need [i64In ((i:Int) + (1:Int))] (.done (((i:Int) + (1:Int) = (↑((i:Int) + (1:Int)).toNat : Int)) :: ((i + (1:Nat) = ((i:Int) + (1:Int)).toNat) :: ((∀ i_1 < ((i:Int) + (1:Int)).toNat, (if decide (i_1 < i) = true then l.F i_1 else l.F (i:Int).toNat) = l.F i_1) :: ((∀ i_1 < ((i:Int) + (1:Int)).toNat, (if decide (i_1 < i) = true then l.SX i_1 else l.SX (i:Int).toNat) = l.SX i_1) :: ((∀ i_1 < ((i:Int) + (1:Int)).toNat, (if decide (i_1 < i) = true then l.SY i_1 else l.SY (i:Int).toNat) = l.SY i_1) :: ((∀ i_1 < ((i:Int) + (1:Int)).toNat, (if decide (i_1 < i) = true then l.Ln i_1 else l.Ln (↑i
     : Int).toNat) = l.Ln i_1) :: ((∀ i_1 < ((i:Int) + (1:Int)).toNat, (if decide (i_1 < i) = true then l.nP i_1 else l.nP (i:Int).toNat) = l.nP i_1 ∧ ∀ i_2 < l.nP i_1, (if decide (i_1 < i) = true then l.P i_1 i_2 else l.P (i:Int).toNat i_2) = l.P i_1 i_2) :: ((∀ i_1 < ((i:Int) + (1:Int)).toNat, (if decide (i_1 < i) = true then l.nQ i_1 else l.nQ (i:Int).toNat) = l.nQ i_1 ∧ ∀ i_2 < l.nQ i_1, (if decide (i_1 < i) = true then l.Q i_1 i_2 else l.Q (i:Int).toNat i_2) = l.Q i_1 i_2) :: ((l.nC = l.nC) :: ((∀ i < l.nC, l.C i = l.C i) :: (((0:Nat) = (0:Nat)) :: ((i + (1:Nat) = ((i:Int) + (1:Int)).toNat) :: ((l.nC = l.nC) :: ((∀ i < l.nC, l.C i = l.C i) :: ((l.nR = l.nR) :: (laidCopy_cr0 l [Value.slice none (0:Nat) (0:Nat) = Value.slice none (0:Nat) (0:Nat), Value.slice none (0:Nat) (0:Nat) = Value.slice none (0:Nat) (0:Nat), Int.toNat ((i:Int) + (1:Int)) ≤ l.nR, l.nR - ((i:Int) + (1:Int)).toNat < l.nR - i]))))))))))))))))))))) (.done ((i ≤ i) :: ((l.nC = l.nC) :: ((∀ i < l.nC, l.C i = l.C i) :: ((i = l.nR) :: (laidCopy_cr0 l [])))))))) (by kernel_rfl) ?_
  simp only [VT.holds, AllT, laidCopy_cr0, Sq]
  obtain ⟨t1, t2, t3⟩ := h
  refine ⟨Lay.copy_c l.nC l.C (by omega), rfl, Nat.zero_le _, fun i hi => ⟨fun hlt => ?_, fun hge => ⟨Nat.le_refl _, by omega⟩⟩⟩
  have t4 := t3 i (by omega)
  refine ⟨by omega, Lay.closing_c _ _ _ _ (by omega) (by omega), ⟨Nat.le_refl _, by omega, Nat.le_refl _⟩, by unfold i64In; omega, rfl, last_if (f := l.F) rfl, last_if (f := l.SX) rfl, last_if (f := l.SY) rfl, last_if (f := l.Ln) rfl, fun j hj => ?_, fun j hj => ?_, by omega, by omega⟩
  all_goals
    by_cases e : j < i
    · rw [if_pos e]
      exact ⟨rfl, fun k hk => by rw [if_pos e]⟩
    · obtain rfl : j = i := by omega
      rw [if_neg e]
      exact ⟨rfl, fun k hk => by rw [if_neg e]⟩
noncomputable def A97_laid1_c (x : Int) : Ann := { orc := [(1, [(1, .res fun _ => dB (Lay.inR x 0 1))])], loops := [], cuts := [] }
theorem laid1_c (x : Int)  : FnC prog 74 [dI x] (dB (bad01 x)) := by
  refine FnC_owed hmix (A97_laid1_c x) (V := .need [FnC prog 75 [(dI x), (dI (0:Int)), (dI (1:Int))] ((dB (Lay.inR x (0:Int) (1:Int))))] (.done [(!Lay.inR x (0:Int) (1:Int)) = bad01 x])) (by kernel_rfl) ?_
  simp only [VT.holds, AllT, Sq]
  exact ⟨Lay.within_c x 0 1, rfl⟩
noncomputable def A63_total_c (nB : Nat) (B : Nat → Int) (nO : Nat) (O : Nat → Int) (W G L : Int) (l : Lyt) : Ann := { orc := [(5, [(3, .res fun q => dP ((lenOf (fD 1 (arg q 1)) : Int) + Lay.cntN (colI 0 (fD 0 (arg q 1))) (B (nB - 1)) (lenOf (fD 0 (arg q 1)))) (lenOf (fD 0 (arg q 1))))])], loops := [(0, { ι := Nat, keep := [2, 3, 4, 10, 11, 5], boxes := [2, 3, 4], ts := fun _ i => [(12, dI (i : Int))], bx := fun _ i => [(5, [dI (totO nB B l i), dI (totB l i)])], inv := fun _ i => i ≤ l.nR, mu := fun _ i => l.nR - i, rd := fun _ σ => (iOf (σ.get 12)).toNat })], cuts := [] }
abbrev total_cr0 (l : Lyt) (r : List Prop) : List Prop := (l.nR = l.nR) :: (∀ i < l.nR, l.F i = l.F i) :: (∀ i < l.nR, l.SX i = l.SX i) :: (∀ i < l.nR, l.SY i = l.SY i) :: (∀ i < l.nR, l.Ln i = l.Ln i) :: (∀ i < l.nR, l.nP i = l.nP i ∧ ∀ i_1 < l.nP i, l.P i i_1 = l.P i i_1) :: (∀ i < l.nR, l.nQ i = l.nQ i ∧ ∀ i_1 < l.nQ i, l.Q i i_1 = l.Q i i_1) :: r
theorem total_c (nB : Nat) (B : Nat → Int) (nO : Nat) (O : Nat → Int) (W G L : Int) (l : Lyt) (hs : Lay.sysE nB B nO O W G L = 0) (h : tidOk l) : FnC prog 45 [Lay.sys nB B nO O W G L, lyt l] (dP (totO nB B l l.nR) (totB l l.nR)) := by
  refine FnC_owed hmix (A63_total_c nB B nO O W G L l) (V := .loop Nat (fun a => a ≤ l.nR) (0:Int).toNat (((0:Int) = (↑(0:Int).toNat : Int)) :: (total_cr0 l (((l.nR:Int) = (l.nR:Int)) :: (((0:Int) = totO nB B l (0:Int).toNat) :: (((0:Int) = totB l (0:Int).toNat) :: ((nB = nB) :: ((∀ i < nB, B i = B i) :: ((nO = nO) :: ((∀ i < nO, O i = O i) :: ((W = W) :: ((G = G) :: ((L = L) :: ((l.nC = l.nC) :: ((∀ i < l.nC, l.C i = l.C i) :: (total_cr0 l [(0:Int) = (0:Int), (0:Int) = (0:Int)]))))))))))))))) fun i => .ite (decide ((i:Int) < (l.nR:Int))) (.need [(0:Int) ≤ (i:Int) ∧ (i:Int) < (l.nR:Int)] (.need [FnC prog 61 [.agg [.lst nB [fun i => (dI (B i))], .lst nO [fun i => (dI (O i))], (dI W), (dI G), (dI L)], .agg [.lst (l.nP (i:Int).toNat) [fun i_1 => (dI (l.P (i:Int).toNat i_1))], .lst (l.nQ (i:Int).toNat) [fun i_1 => (dI (l.Q (i:Int).toNat i_1))]]] (.val (.agg (Array.mk [.int .i64 ((↑(l.nQ (i:Int).toNat) : Int) + Lay.cntN (l.P (i:Int).toNat) (B (nB - (1:Nat))) (l.nP (i:Int).toNat)), .int .i64 (↑(l.nP (i:Int).toNat) : Int)])))] (.need [i64In (totO nB B l i + ((↑(l.nQ (i:Int).toNat) : Int) + Lay.cntN (l.P (i:Int).toNat) (B (nB - (1:Nat))) (l.nP (i:Int).toNat)))] (.need [i64In (totB l i + (↑(l.nP (i:Int).toNat) : Int))] (.need [i64In ((i:Int) + (1:Int))] (.done (((i:Int) + (1:Int) = (↑((i:Int) + (1:Int)).toNat : Int)) :: (total_cr0 l (((l.nR:Int) = (l.nR:Int)) :: ((totO nB B l i + ((↑(l.nQ (i:Int).toNat) : Int) + Lay.cntN (l.P (i:Int).toNat) (B (nB - (1:Nat))) (l.nP (i:Int).toNat)) = totO nB B l ((i:Int) + (1:Int)).toNat) :: ((totB l i + (↑(l.nP (i:Int).toNat) : Int) = totB l ((i:Int) + (1:Int)).toNat) :: ((nB = nB) :: ((∀ i < nB, B i = B i) :: ((nO = nO) :: ((∀ i < nO, O i = O i) :: ((W = W) :: ((G = G) ::
     ((L = L) :: ((l.nC = l.nC) :: ((∀ i < l.nC, l.C i = l.C i) :: (total_cr0 l [(0:Int) = (0:Int), (0:Int) = (0:Int), Int.toNat ((i:Int) + (1:Int)) ≤ l.nR, l.nR - ((i:Int) + (1:Int)).toNat < l.nR - i]))))))))))))))))))))) (.done [totO nB B l i = totO nB B l l.nR, totB l i = totB l l.nR])) (by kernel_rfl) ?_
  simp only [VT.holds, AllT, total_cr0, Sq]
  obtain ⟨s1, s2, s3, sB, sO, sr, _⟩ := Lay.sys_ok hs
  obtain ⟨t1, t2, t3⟩ := h
  refine ⟨⟨rfl, rfl, rfl⟩, Nat.zero_le _, fun i hi => ⟨fun hlt => ?_, fun hge => by rw [show i = l.nR by omega]; exact ⟨rfl, rfl⟩⟩⟩
  have t4 := t3 i (by omega)
  have a1 := totO_bd (nB := nB) (B := B) ⟨t1, t2, t3⟩ i hi
  have a2 := totB_bd ⟨t1, t2, t3⟩ i hi
  have a3 := odC_bd (nB := nB) (B := B) ⟨t1, t2, t3⟩ (i := i) (by omega)
  unfold odC at a3
  exact ⟨by omega, Lay.costOf_c nB B nO O W G L _ _ _ _ s1 (by omega) sr (by omega) (by omega), by unfold i64In; omega, by unfold i64In; omega, by unfold i64In; omega, rfl, rfl, rfl, by omega, by omega⟩
noncomputable def A30_totalR_c (nB : Nat) (B : Nat → Int) (nO : Nat) (O : Nat → Int) (W G L : Int) (l : Lyt) : Ann := { orc := [(5, [(7, .res fun q => dP ((lenOf (fD 1 (arg q 1)) : Int) + Lay.cntN (colI 0 (fD 0 (arg q 1))) (B (nB - 1)) (lenOf (fD 0 (arg q 1)))) (lenOf (fD 0 (arg q 1))))])], loops := [(0, { ι := Nat, keep := [2, 3, 4, 5], boxes := [2, 3, 4], ts := fun _ i => [(6, dI (i : Int))], bx := fun _ i => [(5, [dI (totO nB B l i), dI (totB l i)])], inv := fun _ i => i ≤ l.nR, mu := fun _ i => l.nR - i, rd := fun _ σ => (iOf (σ.get 6)).toNat })], cuts := [] }
abbrev totalR_cr0 (l : Lyt) (r : List Prop) : List Prop := (l.nC = l.nC) :: (∀ i < l.nC, l.C i = l.C i) :: (l.nR = l.nR) :: (∀ i < l.nR, l.F i = l.F i) :: (∀ i < l.nR, l.SX i = l.SX i) :: (∀ i < l.nR, l.SY i = l.SY i) :: (∀ i < l.nR, l.Ln i = l.Ln i) :: (∀ i < l.nR, l.nP i = l.nP i ∧ ∀ i_1 < l.nP i, l.P i i_1 = l.P i i_1) :: (∀ i < l.nR, l.nQ i = l.nQ i ∧ ∀ i_1 < l.nQ i, l.Q i i_1 = l.Q i i_1) :: ((0:Int) = (0:Int)) :: ((0:Int) = (0:Int)) :: r
theorem totalR_c (nB : Nat) (B : Nat → Int) (nO : Nat) (O : Nat → Int) (W G L : Int) (l : Lyt) (hs : Lay.sysE nB B nO O W G L = 0) (h : tidOk l) : FnC prog 21 [Lay.sys nB B nO O W G L, lyt l] (dP (totO nB B l l.nR) (totB l l.nR)) := by
  refine FnC_owed hmix (A30_totalR_c nB B nO O W G L l) (V := .loop Nat (fun a => a ≤ l.nR) (0:Int).toNat (((0:Int) = (↑(0:Int).toNat : Int)) :: (((0:Int) = totO nB B l (0:Int).toNat) :: (((0:Int) = totB l (0:Int).toNat) :: ((nB = nB) :: ((∀ i < nB, B i = B i) :: ((nO = nO) :: ((∀ i < nO, O i = O i) :: ((W = W) :: ((G = G) :: ((L = L) :: (totalR_cr0 l []))))))))))) fun i => .ite (decide ((i:Int) < (l.nR:Int))) (.need [(0:Int) ≤ (i:Int) ∧ (i:Int) < (l.nR:Int), FnC prog 57 [.agg [.lst nB [fun i => (dI (B i))], .lst nO [fun i => (dI (O i))], (dI W), (dI G), (dI L)], .agg [.lst (l.nP (i:Int).toNat) [fun i_1 => (dI (l.P (i:Int).toNat i_1))], .lst (l.nQ (i:Int).toNat) [fun i_1 => (dI (l.Q (i:Int).toNat i_1))]]] (.val (.agg (Array.mk [.int .i64 ((↑(l.nQ (i:Int).toNat) : Int) + Lay.cntN (l.P (i:Int).toNat) (B (nB - (1:Nat))) (l.nP (i:Int).toNat)), .int .i64 (↑(l.nP (i:Int).toNat) : Int)])))] (.need [i64In (totO nB B l i + ((↑(l.nQ (i:Int).toNat) : Int) + Lay.cntN (l.P (i:Int).toNat) (B (nB - (1:Nat))) (l.nP (i:Int).toNat))), i64In (totB l i + (↑(l.nP (i:Int).toNat) : Int))] (.need [i64In ((i:Int) + (1:Int))] (.done (((i:Int) + (1:Int) = (↑((i:Int) + (1:Int)).toNat : Int)) :: ((totO nB B l i + ((↑(l.nQ (i:Int).toNat) : Int) + Lay.cntN (l.P (i:Int).toNat) (B (nB - (1:Nat))) (l.nP (i:Int).toNat)) = totO nB B l ((i:Int) + (1:Int)).toNat) :: ((totB l i + (↑(l.nP (i:Int).toNat) : Int) = totB l ((i:Int) + (1:Int)).toNat) :: ((nB = nB) :: ((∀ i < nB, B i = B i) :: ((nO = nO) :: ((∀ i < nO, O i = O i) :: ((W = W) :: ((G = G) :: ((L = L) :: (totalR_cr0 l [Int.toNat ((i:Int) + (1:Int)) ≤ l.nR, l.nR - ((i:Int) + (1:Int)).toNat < l.nR - i]))))))))))))))) (.done [totO nB B l i = totO nB B l l.nR, totB l i = totB l l.nR])) (by kernel_rfl) ?_
  simp only [VT.holds, AllT, totalR_cr0, Sq]
  obtain ⟨s1, s2, s3, sB, sO, sr, _⟩ := Lay.sys_ok hs
  obtain ⟨t1, t2, t3⟩ := h
  refine ⟨⟨rfl, rfl, rfl⟩, Nat.zero_le _, fun i hi => ⟨fun hlt => ?_, fun hge => by rw [show i = l.nR by omega]; exact ⟨rfl, rfl⟩⟩⟩
  have t4 := t3 i (by omega)
  have a1 := totO_bd (nB := nB) (B := B) ⟨t1, t2, t3⟩ i hi
  have a2 := totB_bd ⟨t1, t2, t3⟩ i hi
  have a3 := odC_bd (nB := nB) (B := B) ⟨t1, t2, t3⟩ (i := i) (by omega)
  unfold odC at a3
  exact ⟨⟨by omega, Lay.costR_c nB B nO O W G L _ _ _ _ s1 (by omega) (by omega) (by omega)⟩, ⟨by unfold i64In; omega, by unfold i64In; omega⟩, by unfold i64In; omega, rfl, rfl, rfl, by omega, by omega⟩
end Go.Abs
end
section
set_option linter.unusedVariables false
set_option linter.unusedSimpArgs false
set_option maxRecDepth 100000
namespace Go.Abs
open Go
def rClo (nB : Nat) (B : Nat → Int) (nO : Nat) (O : Nat → Int) : Orc := .res fun q => dI (Lay.closesE nB B nO O (lenOf (fD 0 (arg q 2))) (colI 0 (fD 0 (arg q 2))) (lenOf (fD 1 (arg q 2))) (colI 0 (fD 1 (arg q 2))) (aI q 1))
theorem anyN_no {p : Nat → Bool} {n : Nat} : Lay.anyN p n = false ↔ ∀ k, k < n → p k = false := by
  unfold Lay.anyN
  rw [Bool.not_eq_false', decide_eq_true_eq]
section
variable {b : Bld} {nB : Nat} {B : Nat → Int} {nO : Nat} {O : Nat → Int} {W G L : Int} {l : Lyt}
theorem ly_1 (h : ¬ (l.nC : Int) = b.N 0 ∨ ¬ (l.nR : Int) = b.N 0) : lyE b nB B nO O W G l = 11 := by rw [lyE, if_pos (by omega)]
theorem ly_2 (h : l.nC = b.N 0 ∧ l.nR = b.N 0) (h2 : Lay.anyN (fun k => bad01 (l.C k)) l.nC = true) : lyE b nB B nO O W G l = 2 := by rw [lyE, if_neg (by omega), if_pos h2]
theorem ly_3 (h : l.nC = b.N 0 ∧ l.nR = b.N 0) (h2 : Lay.anyN (fun k => bad01 (l.C k)) l.nC = false) : lyE b nB B nO O W G l = firstE (ruE b nB B nO O W G l) (b.N 0) := by rw [lyE, if_neg (by omega), if_neg (by rw [h2]; simp)]
theorem ly_at (h : l.nC = b.N 0 ∧ l.nR = b.N 0) (h2 : Lay.anyN (fun k => bad01 (l.C k)) l.nC = false) {i : Nat} (hi : i < b.N 0) (hb : ∀ k, k < i → ruE b nB B nO O W G l k = 0) {e : Int} (he : ruE b nB B nO O W G l i = e) (h0 : e ≠ 0) : e = lyE b nB B nO O W G l := by
  rw [ly_3 h h2, firstE_at hb (by rw [he]; exact h0) hi, he]
theorem ly_no (h : l.nC = b.N 0 ∧ l.nR = b.N 0) (h2 : Lay.anyN (fun k => bad01 (l.C k)) l.nC = false) (hb : ∀ k, k < b.N 0 → ruE b nB B nO O W G l k = 0) : 0 = lyE b nB B nO O W G l := by
  rw [ly_3 h h2, firstE_none hb]
theorem ru_1 {i : Nat} (h : ¬ l.F i = (i : Int)) : ruE b nB B nO O W G l i = 10 := by rw [ruE, if_pos h]
theorem ru_2 {i : Nat} (h : l.F i = (i : Int)) (h2 : ¬ (l.SX i = ruX b G W i (l.C i) ∧ l.SY i = ruY b G W i (l.C i) ∧ l.Ln i = ruL (b.N 0) (b.X 0) (b.Y 0) G W i (l.C i) (nxC b l i))) : ruE b nB B nO O W G l i = 3 := by rw [ruE, if_neg (fun hx => hx h), if_pos h2]
theorem ru_3 {i : Nat} (h : l.F i = (i : Int)) (h2 : l.SX i = ruX b G W i (l.C i) ∧ l.SY i = ruY b G W i (l.C i) ∧ l.Ln i = ruL (b.N 0) (b.X 0) (b.Y 0) G W i (l.C i) (nxC b l i)) : ruE b nB B nO O W G l i = cloE nB B nO O l i := by rw [ruE, if_neg (fun hx => hx h), if_neg (fun hx => hx h2)]
end
theorem choicesL_c (m : Nat) (C : Nat → Int) (hm : m ≤ 1000000) : FnC prog 73 [Lay.nums m C, .val (.func (.func 74) #[] #[])] (dB (Lay.anyN (fun k => bad01 (C k)) m)) := by
  obtain ⟨r, hr⟩ := Lay.isFirst_exists (fun k => bad01 (C k)) m
  exact Lay.contains_c 74 bad01 m C r hm laid1_c hr
noncomputable def A61_laidA_c (b : Bld) (nB : Nat) (B : Nat → Int) (nO : Nat) (O : Nat → Int) (W G L : Int) (l : Lyt) : Ann := { orc := [(1, [(2, rArE b nB B nO O W G L)]), (4, [(1, .res fun _ => dI 0)]), (7, [(2, .res fun _ => dB true)])], loops := [(0, { ι := Nat, keep := [], boxes := [], ts := fun _ _ => [], inv := fun _ _ => True, mu := fun _ i => i, rd := fun _ _ => 0 })], cuts := [] }
theorem laidA_c (b : Bld) (nB : Nat) (B : Nat → Int) (nO : Nat) (O : Nat → Int) (W G L : Int) (l : Lyt) (hN : ∀ i, i < b.nS → b.N i ≤ 1000) (h0 : arE b nB B nO O W G L ≠ 0) : FnC prog 41 [bld b, Lay.sys nB B nO O W G L, lyt l] (.tup [.any, dI (arE b nB B nO O W G L)]) := by
  refine FnC_owed hmix (A61_laidA_c b nB B nO O W G L l) (V := .need [FnC prog 49 [(bld b), .agg [.lst nB [fun i => (dI (B i))], .lst nO [fun i => (dI (O i))], (dI W), (dI G), (dI L)]] (.tup [.any, (dI (arE b nB B nO O W G L))])] (.ite (arE b nB B nO O W G L != (0:Int)) (.done [arE b nB B nO O W G L = arE b nB B nO O W G L]) (.need [FnC prog 42 [.any] ((dI (0:Int)))] (.need [(!(l.nC:Int) != (0:Int)) = true → (!(l.nC:Int) != (0:Int)) = true, (!(l.nC:Int) != (0:Int)) = true → (!(l.nC:Int) != (0:Int)) = true, (!(l.nC:Int) != (0:Int)) = true → (!(l.nC:Int) != (0:Int)) = true, (!(l.nC:Int) != (0:Int)) = true → (!(l.nC:Int) != (0:Int)) = true, ((l.nC:Int) != (0:Int)) = false → (!(l.nC:Int) != (0:Int)) = true] (.ite (if ((l.nC:Int) != (0:Int)) = true then true else (l.nR:Int) != (0:Int)) (.done [(11:Int) = arE b nB B nO O W G L]) (.need [FnC prog 73 [.lst l.nC [fun i => (dI (l.C i))], .val (Value.func (Fn.func (74:Nat)) (Array.mk []) (Array.mk []))] ((dB true))] (.ite true (.done [(2:Int) = arE b nB B nO O W G L]) (.loop Nat (fun a => True) (0:Nat) [] fun i => .need [False] (.done [False]))))))))) (by kernel_rfl) ?_
  simp only [VT.holds, AllT, Sq]
  exact ⟨aroundE_c b nB B nO O W G L hN, fun h => absurd h h0⟩
noncomputable def A61_laidB_c (b : Bld) (nB : Nat) (B : Nat → Int) (nO : Nat) (O : Nat → Int) (W G L : Int) (l : Lyt) : Ann := { orc := [(1, [(2, rArO b nB B nO O W G L)]), (4, [(1, .res fun _ => dI (b.N 0 : Int))]), (7, [(2, .res fun _ => dB (Lay.anyN (fun k => bad01 (l.C k)) l.nC))]), (12, [(10, .pos)]), (15, [(7, .res fun q => dI (befF (b.N 0) (b.X 0) (b.Y 0) G W (aI q 1) (aI q 2))), (10, .res fun q => dP (atX (b.N 0) (b.X 0) (b.Y 0) (aI q 1) (aI q 2) (aI q 3)) (atY (b.N 0) (b.X 0) (b.Y 0) (aI q 1) (aI q 2) (aI q 3))), (19, .res fun q => dI (ruL (b.N 0) (b.X 0) (b.Y 0) G W (aI q 1) (aI q 2) (aI q 3)))]), (17, [(5, rClo nB B nO O)])], loops := [(0, { ι := Nat, keep := [3, 4, 5, 8, 10, 43, 44], boxes := [3, 4, 5], ts := fun _ i => [(45, dI (i : Int))], inv := fun _ i => i ≤ b.N 0 ∧ ∀ k, k < i → ruE b nB B nO O W G l k = 0, mu := fun _ i => b.N 0 - i, rd := fun _ σ => (iOf (σ.get 45)).toNat })], cuts := [] }
abbrev q_laidB_c_0 (l : Lyt) (b : Bld) : Bool := !(l.nC:Int) != (↑(b.N 0) : Int)
abbrev q_laidB_c_1 (l : Lyt) (i : Nat) (b : Bld) (G : Int) (W : Int) : Bool := !!(l.SX (Int.toNat (i:Int)) == atX (b.N 0) (b.X 0) (b.Y 0) (i:Int) (befF (b.N 0) (b.X 0) (b.Y 0) G W (i:Int) (l.C (Int.toNat (i:Int)))) G && (l.SY (Int.toNat (i:Int)) == atY (b.N 0) (b.X 0) (b.Y 0) (i:Int) (befF (b.N 0) (b.X 0) (b.Y 0) G W (i:Int) (l.C (Int.toNat (i:Int)))) G && true))
abbrev laidB_cd0 (b : Bld) (nB : Nat) (B : Nat → Int) (nO : Nat) (O : Nat → Int) (W : Int) (G : Int) (L : Int) : DV := .cptr [.val (.string b.name), .lst b.nS [fun i => (dI (b.fl i)), fun i => .lst (b.N i) [fun i_1 => (dI (b.X i i_1)), fun i_1 => (dI (b.Y i i_1))]], (dI b.roof), .lst b.nO [fun i => (dI (b.O i (0:Nat))), fun i => (dI (b.O i (1:Nat))), fun i => (dI (b.O i (2:Nat))), fun i => (dI (b.O i (3:Nat))), fun i => (dI (b.O i (4:Nat))), fun i => (dI (b.O i (5:Nat)))], .lst b.nB [fun i => (dI (b.B i (0:Nat))), fun i => (dI (b.B i (1:Nat))), fun i => (dI (b.B i (2:Nat))), fun i => (dI (b.B i (3:Nat))), fun i => (dI (b.B i (4:Nat))), fun i => (dI (b.B i (5:Nat)))], .lst nB [fun i => (dI (B i))], .lst nO [fun i => (dI (O i))], (dI W), (dI G), (dI L), (dI (↑(Lay.catU nB B nO O W G L) : Int)), .lst (Lay.catN nB B nO O W G L) [fun i => (dI (Lay.pLen nB B nO O i)), fun i => (dI (Lay.pCode nB i)), fun i => (dB (decide (nB ≤ i)))], .lst (b.N 0) [fun i => (dI (b.X 0 i)), fun i => (dI (b.Y 0 i)), fun i => (dI (b.X 0 (ix (b.N 0) ((i:Int) + (1:Int))))), fun i => (dI (b.Y 0 (ix (b.N 0) ((i:Int) + (1:Int))))), fun i => (dI (lenW (b.N 0) (b.X 0) (b.Y 0) (i:Int))), fun i => (dI (dD (b.N 0) (b.X 0) (b.Y 0) (i:Int)))], .lst (b.N 0) [fun k => (dI (cor (b.N 0) (b.X 0) (b.Y 0) k))]]
abbrev laidB_cr0 (b : Bld) (nB : Nat) (B : Nat → Int) (nO : Nat) (O : Nat → Int) (W : Int) (G : Int) (L : Int) (l : Lyt) (r : List Prop) : List Prop := (∀ i < b.nS, b.fl i = b.fl i) :: (∀ i < b.nS, b.N i = b.N i ∧ (∀ i_1 < b.N i, b.X i i_1 = b.X i i_1) ∧ ∀ i_1 < b.N i, b.Y i i_1 = b.Y i i_1) :: (b.roof = b.roof) :: (b.nO = b.nO) :: (∀ i < b.nO, b.O i (0:Nat) = b.O i (0:Nat)) :: (∀ i < b.nO, b.O i (1:Nat) = b.O i (1:Nat)) :: (∀ i < b.nO, b.O i (2:Nat) = b.O i (2:Nat)) :: (∀ i < b.nO, b.O i (3:Nat) = b.O i (3:Nat)) :: (∀ i < b.nO, b.O i (4:Nat) = b.O i (4:Nat)) :: (∀ i < b.nO, b.O i (5:Nat) = b.O i (5:Nat)) :: (b.nB = b.nB) :: (∀ i < b.nB, b.B i (0:Nat) = b.B i (0:Nat)) :: (∀ i < b.nB, b.B i (1:Nat) = b.B i (1:Nat)) :: (∀ i < b.nB, b.B i (2:Nat) = b.B i (2:Nat)) :: (∀ i < b.nB, b.B i (3:Nat) = b.B i (3:Nat)) :: (∀ i < b.nB, b.B i (4:Nat) = b.B i (4:Nat)) :: (∀ i < b.nB, b.B i (5:Nat) = b.B i (5:Nat)) :: (nB = nB) :: (∀ i < nB, B i = B i) :: (nO = nO) :: (∀ i < nO, O i = O i) :: (W = W) :: (G = G) :: (L = L) :: ((↑(Lay.catU nB B nO O W G L) : Int) = (↑(Lay.catU nB B nO O W G L) : Int)) :: (Lay.catN nB B nO O W G L = Lay.catN nB B nO O W G L) :: (∀ i < Lay.catN nB B nO O W G L, Lay.pLen nB B nO O i = Lay.pLen nB B nO O i) :: (∀ i < Lay.catN nB B nO O W G L, Lay.pCode nB i = Lay.pCode nB i) :: (∀ i < Lay.catN nB B nO O W G L, decide (nB ≤ i) = decide (nB ≤ i)) :: (b.N 0 = b.N 0) :: (∀ i < b.N 0, b.X 0 i = b.X 0 i) :: (∀ i < b.N 0, b.Y 0 i = b.Y 0 i) :: (∀ i < b.N 0, b.X 0 (ix (b.N 0) ((i:Int) + (1:Int))) = b.X 0 (ix (b.N 0) ((↑i :
     Int) + (1:Int)))) :: (∀ i < b.N 0, b.Y 0 (ix (b.N 0) ((i:Int) + (1:Int))) = b.Y 0 (ix (b.N 0) ((i:Int) + (1:Int)))) :: (∀ i < b.N 0, lenW (b.N 0) (b.X 0) (b.Y 0) (i:Int) = lenW (b.N 0) (b.X 0) (b.Y 0) (i:Int)) :: (∀ i < b.N 0, dD (b.N 0) (b.X 0) (b.Y 0) (i:Int) = dD (b.N 0) (b.X 0) (b.Y 0) (i:Int)) :: (b.N 0 = b.N 0) :: (∀ i < b.N 0, cor (b.N 0) (b.X 0) (b.Y 0) i = cor (b.N 0) (b.X 0) (b.Y 0) i) :: ((↑(b.N 0) : Int) = (↑(b.N 0) : Int)) :: (l.nR = l.nR) :: (∀ i < l.nR, l.F i = l.F i) :: (∀ i < l.nR, l.SX i = l.SX i) :: (∀ i < l.nR, l.SY i = l.SY i) :: (∀ i < l.nR, l.Ln i = l.Ln i) :: (∀ i < l.nR, l.nP i = l.nP i ∧ ∀ i_1 < l.nP i, l.P i i_1 = l.P i i_1) :: (∀ i < l.nR, l.nQ i = l.nQ i ∧ ∀ i_1 < l.nQ i, l.Q i i_1 = l.Q i i_1) :: ((l.nR:Int) = (l.nR:Int)) :: (b.name = b.name) :: (b.nS = b.nS) :: (∀ i < b.nS, b.fl i = b.fl i) :: (∀ i < b.nS, b.N i = b.N i ∧ (∀ i_1 < b.N i, b.X i i_1 = b.X i i_1) ∧ ∀ i_1 < b.N i, b.Y i i_1 = b.Y i i_1) :: (b.roof = b.roof) :: (b.nO = b.nO) :: (∀ i < b.nO, b.O i (0:Nat) = b.O i (0:Nat)) :: (∀ i < b.nO, b.O i (1:Nat) = b.O i (1:Nat)) :: (∀ i < b.nO, b.O i (2:Nat) = b.O i (2:Nat)) :: (∀ i < b.nO, b.O i (3:Nat) = b.O i (3:Nat)) :: (∀ i < b.nO, b.O i (4:Nat) = b.O i (4:Nat)) :: (∀ i < b.nO, b.O i (5:Nat) = b.O i (5:Nat)) :: (b.nB = b.nB) :: (∀ i < b.nB, b.B i (0:Nat) = b.B i (0:Nat)) :: (∀ i < b.nB, b.B i (1:Nat) = b.B i (1:Nat)) :: (∀ i < b.nB
    , b.B i (2:Nat) = b.B i (2:Nat)) :: (∀ i < b.nB, b.B i (3:Nat) = b.B i (3:Nat)) :: (∀ i < b.nB, b.B i (4:Nat) = b.B i (4:Nat)) :: (∀ i < b.nB, b.B i (5:Nat) = b.B i (5:Nat)) :: (nB = nB) :: (∀ i < nB, B i = B i) :: (nO = nO) :: (∀ i < nO, O i = O i) :: r
abbrev laidB_cr1 (l : Lyt) (r : List Prop) : List Prop := (l.nC = l.nC) :: (∀ i < l.nC, l.C i = l.C i) :: (l.nR = l.nR) :: (∀ i < l.nR, l.F i = l.F i) :: (∀ i < l.nR, l.SX i = l.SX i) :: (∀ i < l.nR, l.SY i = l.SY i) :: (∀ i < l.nR, l.Ln i = l.Ln i) :: (∀ i < l.nR, l.nP i = l.nP i ∧ ∀ i_1 < l.nP i, l.P i i_1 = l.P i i_1) :: (∀ i < l.nR, l.nQ i = l.nQ i ∧ ∀ i_1 < l.nQ i, l.Q i i_1 = l.Q i i_1) :: r
theorem laidB_c (b : Bld) (nB : Nat) (B : Nat → Int) (nO : Nat) (O : Nat → Int) (W G L : Int) (l : Lyt) (hN : ∀ i, i < b.nS → b.N i ≤ 1000) (h0 : arE b nB B nO O W G L = 0) (ht : tidOk l) : FnC prog 41 [bld b, Lay.sys nB B nO O W G L, lyt l] (.tup [.any, dI (lyE b nB B nO O W G l)]) := by
  refine FnC_owed hmix (A61_laidB_c b nB B nO O W G L l) (V := .need [FnC prog 49 [(bld b), .agg [.lst nB [fun i => (dI (B i))], .lst nO [fun i => (dI (O i))], (dI W), (dI G), (dI L)]] (.tup [(laidB_cd0 b nB B nO O W G L), (dI (0:Int))])] (.ite ((0:Int) != (0:Int)) (.done [(0:Int) = lyE b nB B nO O W G l]) (.need [FnC prog 42 [(laidB_cd0 b nB B nO O W G L)] ((dI (↑(b.N 0) : Int)))] (.need [(q_laidB_c_0 l b) = true → (q_laidB_c_0 l b) = true, (q_laidB_c_0 l b) = true → (q_laidB_c_0 l b) = true, (q_laidB_c_0 l b) = true → (q_laidB_c_0 l b) = true, (q_laidB_c_0 l b) = true → (q_laidB_c_0 l b) = true, ((l.nC:Int) != (↑(b.N 0) : Int)) = false → (q_laidB_c_0 l b) = true] (.ite (if ((l.nC:Int) != (↑(b.N 0) : Int)) = true then true else (l.nR:Int) != (↑(b.N 0) : Int)) (.done [(11:Int) = lyE b nB B nO O W G l]) (.need [FnC prog 73 [.lst l.nC [fun i => (dI (l.C i))], .val (Value.func (Fn.func (74:Nat)) (Array.mk []) (Array.mk []))] ((dB (Lay.anyN (fun k => bad01 (l.C k)) l.nC)))] (.ite (Lay.anyN (fun k => bad01 (l.C k)) l.nC) (.done [(2:Int) = lyE b nB B nO O W G l]) (.loop Nat (fun a => a ≤ b.N 0 ∧ ∀ (k : Nat), k < a → ruE b nB B nO O W G l k = (0:Int)) (0:Int).toNat (((0:Int) = (↑(0:Int).toNat : Int)) :: ((b.name = b.name) :: ((b.nS = b.nS) :: (laidB_cr0 b nB B nO O W G L l ((W = W) :: ((G = G) :: ((L = L) :: (laidB_cr1 l [])))))))) fun i => .ite (decide ((i:Int) < (l.nR:Int))) (.need [(0:Int) ≤ (i:Int) ∧ (i:Int) < (l.nR:Int)] (.need [(0:Int) ≤ (i:Int) ∧ (i:Int) < (l.nC:Int), i64In ((i:Int) + (1:Int)), (0:Int) ≤ (i:Int) + (1:Int) ∧ (0:Int) < (↑(b.N 0) : Int), (0:Int) ≤ ((i:Int) + (1:Int)) % (↑(b.N 0) : Int) ∧ ((i:Int) + (1:Int)) % (↑(b.N 0) : Int) < (l.nC:Int)] (.ite (l.F (i:Int).toNat != (i:Int)) (.done [(10:Int) = lyE b nB B nO O W G l]) (.need [FnC prog 53 [(laidB_cd0 b nB B nO O W G L), (dI (i:Int)), (dI (l.C (↑i
     : Int).toNat))] ((dI (befF (b.N 0) (b.X 0) (b.Y 0) G W (i:Int) (l.C (i:Int).toNat)))), FnC prog 52 [(laidB_cd0 b nB B nO O W G L), (dI (i:Int)), (dI (befF (b.N 0) (b.X 0) (b.Y 0) G W (i:Int) (l.C (i:Int).toNat))), (dI G)] (.val (.agg (Array.mk [.int .i64 (atX (b.N 0) (b.X 0) (b.Y 0) (i:Int) (befF (b.N 0) (b.X 0) (b.Y 0) G W (i:Int) (l.C (i:Int).toNat)) G), .int .i64 (atY (b.N 0) (b.X 0) (b.Y 0) (i:Int) (befF (b.N 0) (b.X 0) (b.Y 0) G W (i:Int) (l.C (i:Int).toNat)) G)]))), (q_laidB_c_1 l i b G W) = true → (q_laidB_c_1 l i b G W) = true, (q_laidB_c_1 l i b G W) = true → (q_laidB_c_1 l i b G W) = true, (q_laidB_c_1 l i b G W) = true → (q_laidB_c_1 l i b G W) = true, (q_laidB_c_1 l i b G W) = true → (q_laidB_c_1 l i b G W) = true, (q_laidB_c_1 l i b G W) = true → (q_laidB_c_1 l i b G W) = true, (q_laidB_c_1 l i b G W) = true → FnC prog 54 [(laidB_cd0 b nB B nO O W G L), (dI (i:Int)), (dI (l.C (i:Int).toNat)), (dI (l.C (((i:Int) + (1:Int)) % (↑(b.N 0) : Int)).toNat))] ((dI (ruL (b.N 0) (b.X 0) (b.Y 0) G W (i:Int) (l.C (i:Int).toNat) (l.C (((i:Int) + (1:Int)) % (↑(b.N 0) : Int)).toNat)))), (q_laidB_c_1 l i b G W) = true → (q_laidB_c_1 l i b G W) = true, (q_laidB_c_1 l i b G W) = true → (q_laidB_c_1 l i b G W) = true, (!(l.SX (i:Int).toNat == atX (b.N 0) (b.X 0) (b.Y 0) (i:Int) (befF (b.N 0) (b.X 0) (b.Y 0) G W (i:Int) (l.C (i:Int).toNat)) G && (l.SY (i:Int).toNat == atY (b.N 0) (b.X 0) (b.Y 0) (i:Int) (befF (b.N 0) (b.X 0) (b.Y 0) G W (i:Int) (l.C (i:Int).toNat)) G && true))) = false → (q_laidB_c_1 l i b G W) = true] (.ite (if (!(l.SX
     (i:Int).toNat == atX (b.N 0) (b.X 0) (b.Y 0) (i:Int) (befF (b.N 0) (b.X 0) (b.Y 0) G W (i:Int) (l.C (i:Int).toNat)) G && (l.SY (i:Int).toNat == atY (b.N 0) (b.X 0) (b.Y 0) (i:Int) (befF (b.N 0) (b.X 0) (b.Y 0) G W (i:Int) (l.C (i:Int).toNat)) G && true))) = true then true else l.Ln (i:Int).toNat != ruL (b.N 0) (b.X 0) (b.Y 0) G W (i:Int) (l.C (i:Int).toNat) (l.C (((i:Int) + (1:Int)) % (↑(b.N 0) : Int)).toNat)) (.done [(3:Int) = lyE b nB B nO O W G l]) (.need [FnC prog 76 [.agg [.lst nB [fun i => (dI (B i))], .lst nO [fun i => (dI (O i))], (dI W), (dI G), (dI L)], (dI (l.Ln (i:Int).toNat)), .agg [.lst (l.nP (i:Int).toNat) [fun i_1 => (dI (l.P (i:Int).toNat i_1))], .lst (l.nQ (i:Int).toNat) [fun i_1 => (dI (l.Q (i:Int).toNat i_1))]]] ((dI (Lay.closesE nB B nO O (l.nP (i:Int).toNat) (l.P (i:Int).toNat) (l.nQ (i:Int).toNat) (l.Q (i:Int).toNat) (l.Ln (i:Int).toNat))))] (.ite (Lay.closesE nB B nO O (l.nP (i:Int).toNat) (l.P (i:Int).toNat) (l.nQ (i:Int).toNat) (l.Q (i:Int).toNat) (l.Ln (i:Int).toNat) != (0:Int)) (.done [Lay.closesE nB B nO O (l.nP (i:Int).toNat) (l.P (i:Int).toNat) (l.nQ (i:Int).toNat) (l.Q (i:Int).toNat) (l.Ln (i:Int).toNat) = lyE b nB B nO O W G l]) (.need [i64In ((i:Int) + (1:Int))] (.done (((i:Int) + (1:Int) = (↑((i:Int) + (1:Int)).toNat : Int)) :: ((b.name = b.name) :: ((b.nS = b.nS) :: (laidB_cr0 b nB B nO O W G L l ((W = W) :: ((G = G) :: ((L = L) :: (laidB_cr1 l [Int.toNat ((i:Int) + (1:Int)) ≤ b.N 0 ∧ ∀ (k : Nat), k < ((i:Int) + (1:Int)).toNat → ruE b nB B nO O W G l k = (0:Int), b.N 0 - ((↑i
     : Int) + (1:Int)).toNat < b.N 0 - i]))))))))))))))))) (.done [(0:Int) = lyE b nB B nO O W G l]))))))))) (by kernel_rfl) ?_
  simp only [q_laidB_c_0, q_laidB_c_1, VT.holds, AllT, Sq]
  obtain ⟨hc, hs, _, _, _, _, _⟩ := ar_zero h0
  obtain ⟨b1, b2, b3, b4, b5⟩ := b0_ok hc
  have hn := chk_n b2
  obtain ⟨hX, hY⟩ := chk_inB b2
  have g1 := (sys_wgl hs).1
  have g2 := g1
  unfold gwOk at g2
  obtain ⟨t1, t2, t3⟩ := ht
  refine ⟨aroundO_c b nB B nO O W G L hN h0, fun h => absurd trivial h, fun _ => ⟨n_c _ _ _ _ _ _ _ _ _ _ _ _ _ _ _, fun h => (ly_1 h).symm, fun h => ?_⟩⟩
  have hN2 : l.nC = b.N 0 ∧ l.nR = b.N 0 := by omega
  refine ⟨choicesL_c l.nC l.C (by omega), fun h2 => (ly_2 hN2 h2).symm, fun h2 => ⟨rfl, ⟨Nat.zero_le _, fun k hk => absurd hk (Nat.not_lt_zero k)⟩, fun i ⟨hi, hb⟩ => ⟨fun hlt => ?_, fun hge => ly_no hN2 h2 fun k hk => hb k (by omega)⟩⟩⟩
  have hch : ∀ k, k < b.N 0 → 0 ≤ l.C k ∧ l.C k ≤ 1 := fun k hk => bad01_sp.1 (anyN_no.1 h2 k (by omega))
  have q1 := Int.emod_nonneg ((i : Int) + 1) (show (b.N 0 : Int) ≠ 0 by omega)
  have q2 := Int.emod_lt_of_pos ((i : Int) + 1) (show (0:Int) < b.N 0 by omega)
  have ha := hch i (by omega)
  have hb2 := hch (((i : Int) + 1) % (b.N 0 : Int)).toNat (by omega)
  have bb := bef_bd (n := b.N 0) (X := b.X 0) (Y := b.Y 0) (i : Int) g1 ha
  have t4 := t3 i (by omega)
  refine ⟨by omega, ⟨by omega, by unfold i64In; omega, by omega, q1, by omega⟩, fun h3 => ly_at hN2 h2 (by omega) hb (ru_1 h3) (by decide), fun h3 => ⟨⟨before_c _ _ _ _ _ _ _ _ _ _ _ _ _ _ _ _ _ (by omega) g1 ha, ringAt_c _ _ _ _ _ _ _ _ _ _ _ _ _ _ _ _ _ _ (by omega) hX hY (by omega) (by omega), fun _ => runLen_c _ _ _ _ _ _ _ _ _ _ _ _ _ _ _ _ _ _ (by omega) (by omega) hX hY g1 ha hb2⟩, fun h4 => ly_at hN2 h2 (by omega) hb (ru_2 h3 fun hx => ?_) (by decide), fun h4 => ?_⟩⟩
  · rcases h4 with h4 | h4
    · exact absurd (h4 hx.1 hx.2.1) (by simp)
    · exact h4 hx.2.2
  · have h5 : l.SX i = ruX b G W i (l.C i) ∧ l.SY i = ruY b G W i (l.C i) ∧ l.Ln i = ruL (b.N 0) (b.X 0) (b.Y 0) G W i (l.C i) (nxC b l i) := by
      by_cases e1 : l.SX i = ruX b G W i (l.C i)
      · by_cases e2 : l.SY i = ruY b G W i (l.C i)
        · exact ⟨e1, e2, h4.2⟩
        · exact absurd (fun _ hx => absurd hx e2) h4.1
      · exact absurd (fun hx => absurd hx e1) h4.1
    refine ⟨Lay.closes_c nB B nO O W G L _ _ _ _ _ hs (by omega) (by omega), fun h6 => ly_at hN2 h2 (by omega) hb (ru_3 h3 h5) h6, fun h6 => ⟨by unfold i64In; omega, rfl, ⟨by omega, fun k hk => ?_⟩, by omega⟩⟩
    by_cases e : k = i
    · rw [e, ru_3 h3 h5]; exact h6
    · exact hb k (by omega)
noncomputable def A29_checkLayoutR_c (b : Bld) (nB : Nat) (B : Nat → Int) (nO : Nat) (O : Nat → Int) (W G L : Int) (l : Lyt) : Ann := { orc := [(1, [(1, rFst b)]), (7, [(5, rWi)]), (15, [(10, .res fun q => dP (atX (b.N 0) (b.X 0) (b.Y 0) (aI q 2) (befF (b.N 0) (b.X 0) (b.Y 0) G W (aI q 2) (aI q 3)) G) (atY (b.N 0) (b.X 0) (b.Y 0) (aI q 2) (befF (b.N 0) (b.X 0) (b.Y 0) G W (aI q 2) (aI q 3)) G)), (28, .pos), (31, .res fun q => dI (ruL (b.N 0) (b.X 0) (b.Y 0) G W (aI q 2) (aI q 3) (aI q 4)))]), (17, [(5, rClo nB B nO O)])], loops := [(0, { ι := Nat, keep := [3, 4, 5, 7], boxes := [3, 4, 5], ts := fun _ i => [(8, dI (i : Int))], inv := fun _ i => i ≤ b.N 0 ∧ ∀ k, k < i → bad01 (l.C k) = false, mu := fun _ i => b.N 0 - i, rd := fun _ σ => (iOf (σ.get 8)).toNat }), (2, { ι := Nat, keep := [3, 4, 5, 7], boxes := [3, 4, 5], ts := fun _ i => [(9, dI (i : Int))], inv := fun _ i => i ≤ b.N 0 ∧ ∀ k, k < i → ruE b nB B nO O W G l k = 0, mu := fun _ i => b.N 0 - i, rd := fun _ σ => (iOf (σ.get 9)).toNat })], cuts := [] }
abbrev q_checkLayoutR_c_0 (l : Lyt) (b : Bld) : Bool := !(l.nC:Int) != (↑(b.N 0) : Int)
abbrev q_checkLayoutR_c_1 (l : Lyt) (i : Nat) (b : Bld) (G : Int) (W : Int) : Bool := !!(l.SX (Int.toNat (i:Int)) == atX (b.N 0) (b.X 0) (b.Y 0) (i:Int) (befF (b.N 0) (b.X 0) (b.Y 0) G W (i:Int) (l.C (Int.toNat (i:Int)))) G && (l.SY (Int.toNat (i:Int)) == atY (b.N 0) (b.X 0) (b.Y 0) (i:Int) (befF (b.N 0) (b.X 0) (b.Y 0) G W (i:Int) (l.C (Int.toNat (i:Int)))) G && true))
abbrev checkLayoutR_cr0 (b : Bld) (nB : Nat) (B : Nat → Int) (nO : Nat) (O : Nat → Int) (W : Int) (G : Int) (L : Int) (l : Lyt) (r : List Prop) : List Prop := ((↑(b.N 0) : Int) = (↑(b.N 0) : Int)) :: (b.name = b.name) :: (b.nS = b.nS) :: (∀ i < b.nS, b.fl i = b.fl i) :: (∀ i < b.nS, b.N i = b.N i ∧ (∀ i_1 < b.N i, b.X i i_1 = b.X i i_1) ∧ ∀ i_1 < b.N i, b.Y i i_1 = b.Y i i_1) :: (b.roof = b.roof) :: (b.nO = b.nO) :: (∀ i < b.nO, b.O i (0:Nat) = b.O i (0:Nat)) :: (∀ i < b.nO, b.O i (1:Nat) = b.O i (1:Nat)) :: (∀ i < b.nO, b.O i (2:Nat) = b.O i (2:Nat)) :: (∀ i < b.nO, b.O i (3:Nat) = b.O i (3:Nat)) :: (∀ i < b.nO, b.O i (4:Nat) = b.O i (4:Nat)) :: (∀ i < b.nO, b.O i (5:Nat) = b.O i (5:Nat)) :: (b.nB = b.nB) :: (∀ i < b.nB, b.B i (0:Nat) = b.B i (0:Nat)) :: (∀ i < b.nB, b.B i (1:Nat) = b.B i (1:Nat)) :: (∀ i < b.nB, b.B i (2:Nat) = b.B i (2:Nat)) :: (∀ i < b.nB, b.B i (3:Nat) = b.B i (3:Nat)) :: (∀ i < b.nB, b.B i (4:Nat) = b.B i (4:Nat)) :: (∀ i < b.nB, b.B i (5:Nat) = b.B i (5:Nat)) :: (nB = nB) :: (∀ i < nB, B i = B i) :: (nO = nO) :: (∀ i < nO, O i = O i) :: (W = W) :: (G = G) :: (L = L) :: (l.nC = l.nC) :: (∀ i < l.nC, l.C i = l.C i) :: (l.nR = l.nR) :: (∀ i < l.nR, l.F i = l.F i) :: (∀ i < l.nR, l.SX i = l.SX i) :: (∀ i < l.nR, l.SY i = l.SY i) :: (∀ i < l.nR, l.Ln i = l.Ln i) :: (∀ i < l.nR, l.nP i = l.nP i ∧ ∀ i_1 < l.nP i, l.P i i_1 = l.P i i_1) :: (∀ i < l.nR, l.nQ i = l.nQ i ∧ ∀ i_1 < l.nQ i, l.Q i i_1 = l.Q i i_1) :: r
theorem checkLayoutR_c (b : Bld) (nB : Nat) (B : Nat → Int) (nO : Nat) (O : Nat → Int) (W G L : Int) (l : Lyt) (h0 : arE b nB B nO O W G L = 0) (ht : tidOk l) : FnC prog 9 [bld b, Lay.sys nB B nO O W G L, lyt l] (dI (lyE b nB B nO O W G l)) := by
  refine FnC_owed hmix (A29_checkLayoutR_c b nB B nO O W G L l) (V := .need [FnC prog 33 [(bld b)] (.lst (b.N 0) [fun i => (dI (b.X 0 i)), fun i => (dI (b.Y 0 i))])] (.need [(q_checkLayoutR_c_0 l b) = true → (q_checkLayoutR_c_0 l b) = true, (q_checkLayoutR_c_0 l b) = true → (q_checkLayoutR_c_0 l b) = true, (q_checkLayoutR_c_0 l b) = true → (q_checkLayoutR_c_0 l b) = true, (q_checkLayoutR_c_0 l b) = true → (q_checkLayoutR_c_0 l b) = true, ((l.nC:Int) != (↑(b.N 0) : Int)) = false → (q_checkLayoutR_c_0 l b) = true] (.ite (if ((l.nC:Int) != (↑(b.N 0) : Int)) = true then true else (l.nR:Int) != (↑(b.N 0) : Int)) (.done [(11:Int) = lyE b nB B nO O W G l]) (.loop Nat (fun a => a ≤ b.N 0 ∧ ∀ (k : Nat), k < a → bad01 (l.C k) = false) (0:Int).toNat (((0:Int) = (↑(0:Int).toNat : Int)) :: (checkLayoutR_cr0 b nB B nO O W G L l [])) fun i => .ite (decide ((i:Int) < (↑(b.N 0) : Int))) (.need [(0:Int) ≤ (i:Int) ∧ (i:Int) < (l.nC:Int), FnC prog 34 [(dI (l.C (i:Int).toNat)), (dI (0:Int)), (dI (1:Int))] ((dB (decide ((0:Int) ≤ l.C (i:Int).toNat ∧ l.C (i:Int).toNat ≤ (1:Int)))))] (.ite (!decide ((0:Int) ≤ l.C (i:Int).toNat ∧ l.C (i:Int).toNat ≤ (1:Int))) (.done [(2:Int) = lyE b nB B nO O W G l]) (.need [i64In ((i:Int) + (1:Int))] (.done (((i:Int) + (1:Int) = (↑((i:Int) + (1:Int)).toNat : Int)) :: (checkLayoutR_cr0 b nB B nO O W G L l [Int.toNat ((i:Int) + (1:Int)) ≤ b.N 0 ∧ ∀ (k : Nat), k < ((i:Int) + (1:Int)).toNat → bad01 (l.C k) = false, b.N 0 - ((i:Int) + (1:Int)).toNat < b.N 0 - i])))))) (.loop Nat (fun a => a ≤ b.N 0 ∧ ∀ (k : Nat), k < a → ruE b nB B nO O W G l k = (0:Int)) (0:Int).toNat (((0:Int) = (↑(0:Int).toNat : Int)) :: (checkLayoutR_cr0 b nB B nO O W G L l [])) fun i => .ite (decide ((i:Int) < (↑(b.N 0) : Int))) (.need [(0:Int) ≤ (i:Int) ∧ (i:Int) <
     (l.nR:Int)] (.ite (l.F (i:Int).toNat != (i:Int)) (.done [(10:Int) = lyE b nB B nO O W G l]) (.need [(0:Int) ≤ (i:Int) ∧ (i:Int) < (l.nC:Int), FnC prog 35 [(bld b), .agg [.lst nB [fun i => (dI (B i))], .lst nO [fun i => (dI (O i))], (dI W), (dI G), (dI L)], (dI (i:Int)), (dI (l.C (i:Int).toNat))] (.val (.agg (Array.mk [.int .i64 (atX (b.N 0) (b.X 0) (b.Y 0) (i:Int) (befF (b.N 0) (b.X 0) (b.Y 0) G W (i:Int) (l.C (i:Int).toNat)) G), .int .i64 (atY (b.N 0) (b.X 0) (b.Y 0) (i:Int) (befF (b.N 0) (b.X 0) (b.Y 0) G W (i:Int) (l.C (i:Int).toNat)) G)]))), (q_checkLayoutR_c_1 l i b G W) = true → (q_checkLayoutR_c_1 l i b G W) = true, (q_checkLayoutR_c_1 l i b G W) = true → (q_checkLayoutR_c_1 l i b G W) = true, (q_checkLayoutR_c_1 l i b G W) = true → (q_checkLayoutR_c_1 l i b G W) = true, (q_checkLayoutR_c_1 l i b G W) = true → (q_checkLayoutR_c_1 l i b G W) = true, (q_checkLayoutR_c_1 l i b G W) = true → (0:Int) ≤ (i:Int) ∧ (i:Int) < (l.nC:Int), (q_checkLayoutR_c_1 l i b G W) = true → (q_checkLayoutR_c_1 l i b G W) = true, (q_checkLayoutR_c_1 l i b G W) = true → (q_checkLayoutR_c_1 l i b G W) = true, (q_checkLayoutR_c_1 l i b G W) = true → (q_checkLayoutR_c_1 l i b G W) = true, (q_checkLayoutR_c_1 l i b G W) = true → i64In ((i:Int) + (1:Int)), (q_checkLayoutR_c_1 l i b G W) = true → (q_checkLayoutR_c_1 l i b G W) = true, (q_checkLayoutR_c_1 l i b G W) = true → (q_checkLayoutR_c_1 l i b G W) = true, (q_checkLayoutR_c_1 l i b G W) = true → (0:Int) ≤ (i:Int) + (1:Int) ∧ (0:Int) < (↑(b.N 0) : Int), (q_checkLayoutR_c_1 l i b G W) = true → (q_checkLayoutR_c_1 l i b G W) = true, (q_checkLayoutR_c_1 l i b G W) = true → (q_checkLayoutR_c_1 l i b G W) = true, (q_checkLayoutR_c_1 l i b G W) = true → (0:Int) ≤ ((i:Int) + (1:Int)) % (↑(b.N 0) : Int) ∧ ((i:Int) + (1 :
     Int)) % (↑(b.N 0) : Int) < (l.nC:Int), (q_checkLayoutR_c_1 l i b G W) = true → (q_checkLayoutR_c_1 l i b G W) = true, (q_checkLayoutR_c_1 l i b G W) = true → (q_checkLayoutR_c_1 l i b G W) = true, (q_checkLayoutR_c_1 l i b G W) = true → (q_checkLayoutR_c_1 l i b G W) = true, (q_checkLayoutR_c_1 l i b G W) = true → (q_checkLayoutR_c_1 l i b G W) = true, (q_checkLayoutR_c_1 l i b G W) = true → (q_checkLayoutR_c_1 l i b G W) = true, (q_checkLayoutR_c_1 l i b G W) = true → (q_checkLayoutR_c_1 l i b G W) = true, (q_checkLayoutR_c_1 l i b G W) = true → FnC prog 36 [(bld b), .agg [.lst nB [fun i => (dI (B i))], .lst nO [fun i => (dI (O i))], (dI W), (dI G), (dI L)], (dI (i:Int)), (dI (l.C (i:Int).toNat)), (dI (l.C (((i:Int) + (1:Int)) % (↑(b.N 0) : Int)).toNat))] ((dI (ruL (b.N 0) (b.X 0) (b.Y 0) G W (i:Int) (l.C (i:Int).toNat) (l.C (((i:Int) + (1:Int)) % (↑(b.N 0) : Int)).toNat)))), (q_checkLayoutR_c_1 l i b G W) = true → (q_checkLayoutR_c_1 l i b G W) = true, (q_checkLayoutR_c_1 l i b G W) = true → (q_checkLayoutR_c_1 l i b G W) = true, (!(l.SX (i:Int).toNat == atX (b.N 0) (b.X 0) (b.Y 0) (i:Int) (befF (b.N 0) (b.X 0) (b.Y 0) G W (i:Int) (l.C (i:Int).toNat)) G && (l.SY (i:Int).toNat == atY (b.N 0) (b.X 0) (b.Y 0) (i:Int) (befF (b.N 0) (b.X 0) (b.Y 0) G W (i:Int) (l.C (i:Int).toNat)) G && true))) = false → (q_checkLayoutR_c_1 l i b G W) = true] (.ite (if (!(l.SX (i:Int).toNat == atX (b.N 0) (b.X 0) (b.Y 0) (i:Int) (befF (b.N 0) (b.X 0) (b.Y 0) G W (i:Int) (l.C (i:Int).toNat)) G && (l.SY (i:Int).toNat == atY (b.N 0) (b.X 0) (b.Y 0) (i:Int) (befF (b.N 0) (b.X 0) (b.Y 0) G W (i:Int) (l.C
     (i:Int).toNat)) G && true))) = true then true else l.Ln (i:Int).toNat != ruL (b.N 0) (b.X 0) (b.Y 0) G W (i:Int) (l.C (i:Int).toNat) (l.C (((i:Int) + (1:Int)) % (↑(b.N 0) : Int)).toNat)) (.done [(3:Int) = lyE b nB B nO O W G l]) (.need [FnC prog 37 [.agg [.lst nB [fun i => (dI (B i))], .lst nO [fun i => (dI (O i))], (dI W), (dI G), (dI L)], (dI (l.Ln (i:Int).toNat)), .agg [.lst (l.nP (i:Int).toNat) [fun i_1 => (dI (l.P (i:Int).toNat i_1))], .lst (l.nQ (i:Int).toNat) [fun i_1 => (dI (l.Q (i:Int).toNat i_1))]]] ((dI (Lay.closesE nB B nO O (l.nP (i:Int).toNat) (l.P (i:Int).toNat) (l.nQ (i:Int).toNat) (l.Q (i:Int).toNat) (l.Ln (i:Int).toNat))))] (.ite (Lay.closesE nB B nO O (l.nP (i:Int).toNat) (l.P (i:Int).toNat) (l.nQ (i:Int).toNat) (l.Q (i:Int).toNat) (l.Ln (i:Int).toNat) != (0:Int)) (.done [Lay.closesE nB B nO O (l.nP (i:Int).toNat) (l.P (i:Int).toNat) (l.nQ (i:Int).toNat) (l.Q (i:Int).toNat) (l.Ln (i:Int).toNat) = lyE b nB B nO O W G l]) (.need [i64In ((i:Int) + (1:Int))] (.done (((i:Int) + (1:Int) = (↑((i:Int) + (1:Int)).toNat : Int)) :: (checkLayoutR_cr0 b nB B nO O W G L l [Int.toNat ((i:Int) + (1:Int)) ≤ b.N 0 ∧ ∀ (k : Nat), k < ((i:Int) + (1:Int)).toNat → ruE b nB B nO O W G l k = (0:Int), b.N 0 - ((i:Int) + (1:Int)).toNat < b.N 0 - i])))))))))) (.done [(0:Int) = lyE b nB B nO O W G l])))))) (by kernel_rfl) ?_
  simp only [q_checkLayoutR_c_0, q_checkLayoutR_c_1, VT.holds, AllT, Sq]
  obtain ⟨hc, hs, _, _, _, _, _⟩ := ar_zero h0
  obtain ⟨b1, b2, b3, b4, b5⟩ := b0_ok hc
  have hn := chk_n b2
  obtain ⟨hX, hY⟩ := chk_inB b2
  have g1 := (sys_wgl hs).1
  have g2 := g1
  unfold gwOk at g2
  obtain ⟨t1, t2, t3⟩ := ht
  refine ⟨first_c b b1, fun h => (ly_1 h).symm, fun h => ?_⟩
  have hN2 : l.nC = b.N 0 ∧ l.nR = b.N 0 := by omega
  refine ⟨rfl, ⟨Nat.zero_le _, fun k hk => absurd hk (Nat.not_lt_zero k)⟩, fun i ⟨hi, hb⟩ => ⟨fun hlt => ⟨⟨by omega, within_c _ _ _⟩, fun h2 => ?_, fun h2 => ⟨by unfold i64In; omega, rfl, ⟨by omega, fun k hk => ?_⟩, by omega⟩⟩, fun hge => ?_⟩⟩
  · refine (ly_2 hN2 ?_).symm
    rw [← Bool.not_eq_false, anyN_no]
    exact fun hx => h2 (bad01_sp.1 (hx i (by omega)))
  · by_cases e : k = i
    · rw [e]; exact bad01_sp.2 h2
    · exact hb k (by omega)
  obtain rfl : i = b.N 0 := by omega
  have h2 : Lay.anyN (fun k => bad01 (l.C k)) l.nC = false := anyN_no.2 fun k hk => hb k (by omega)
  have hch : ∀ k, k < b.N 0 → 0 ≤ l.C k ∧ l.C k ≤ 1 := fun k hk => bad01_sp.1 (hb k hk)
  clear hb
  refine ⟨rfl, ⟨Nat.zero_le _, fun k hk => absurd hk (Nat.not_lt_zero k)⟩, fun i ⟨hi, hb⟩ => ⟨fun hlt => ?_, fun hge => ly_no hN2 h2 fun k hk => hb k (by omega)⟩⟩
  have q1 := Int.emod_nonneg ((i : Int) + 1) (show (b.N 0 : Int) ≠ 0 by omega)
  have q2 := Int.emod_lt_of_pos ((i : Int) + 1) (show (0:Int) < b.N 0 by omega)
  have ha := hch i (by omega)
  have hb2 := hch (((i : Int) + 1) % (b.N 0 : Int)).toNat (by omega)
  have t4 := t3 i (by omega)
  refine ⟨by omega, fun h3 => ly_at hN2 h2 (by omega) hb (ru_1 h3) (by decide), fun h3 => ⟨⟨by omega, runStartR_c b nB B nO O W G L i _ b1 b2 g1 (by omega) ha, fun _ => by omega, fun _ => by unfold i64In; omega, fun _ => by omega, fun _ => ⟨q1, by omega⟩, fun _ => runLenR_c b nB B nO O W G L i _ _ b1 b2 g1 (by omega) ha hb2⟩, fun h4 => ly_at hN2 h2 (by omega) hb (ru_2 h3 fun hx => ?_) (by decide), fun h4 => ?_⟩⟩
  · rcases h4 with h4 | h4
    · exact absurd (h4 hx.1 hx.2.1) (by simp)
    · exact h4 hx.2.2
  · have h5 : l.SX i = ruX b G W i (l.C i) ∧ l.SY i = ruY b G W i (l.C i) ∧ l.Ln i = ruL (b.N 0) (b.X 0) (b.Y 0) G W i (l.C i) (nxC b l i) := by
      by_cases e1 : l.SX i = ruX b G W i (l.C i)
      · by_cases e2 : l.SY i = ruY b G W i (l.C i)
        · exact ⟨e1, e2, h4.2⟩
        · exact absurd (fun _ hx => absurd hx e2) h4.1
      · exact absurd (fun hx => absurd hx e1) h4.1
    refine ⟨Lay.checkR_c nB B nO O W G L _ _ _ _ _ hs (by omega) (by omega), fun h6 => ly_at hN2 h2 (by omega) hb (ru_3 h3 h5) h6, fun h6 => ⟨by unfold i64In; omega, rfl, ⟨by omega, fun k hk => ?_⟩, by omega⟩⟩
    by_cases e : k = i
    · rw [e, ru_3 h3 h5]; exact h6
    · exact hb k (by omega)
end Go.Abs
end
