/- Contracts. -/
import Derived.Test.YtomkiggacimmaaaGreatK17
set_option linter.unusedVariables false
set_option linter.unusedSimpArgs false
set_option maxRecDepth 100000
namespace Go.Abs
open Go
/-- The first error of n. -/
def firstE (e : Nat → Int) : Nat → Int
  | 0 => 0
  | k + 1 => if firstE e k ≠ 0 then firstE e k else e k
theorem firstE_none {e : Nat → Int} : ∀ {n : Nat}, (∀ j, j < n → e j = 0) → firstE e n = 0
  | 0, _ => rfl
  | n + 1, h => by
    rw [firstE, firstE_none (fun j hj => h j (by omega)), if_neg (by simp), h n (by omega)]
theorem firstE_at {e : Nat → Int} {i : Nat} (h : ∀ j, j < i → e j = 0) (hi : e i ≠ 0) : ∀ {n : Nat}, i < n → firstE e n = e i
  | n + 1, hn => by
    rcases Nat.lt_or_ge i n with h1 | h1
    · have := firstE_at h hi h1
      rw [firstE, this, if_pos hi]
    · have : i = n := by omega
      subst this
      rw [firstE, firstE_none h, if_neg (by simp)]
theorem firstE_zero {e : Nat → Int} : ∀ {n : Nat}, firstE e n = 0 → ∀ j, j < n → e j = 0
  | n + 1, h, j, hj => by
    rw [firstE] at h
    by_cases h0 : firstE e n = 0
    · rw [if_neg (by rw [h0]; simp)] at h
      rcases Nat.lt_or_ge j n with h1 | h1
      · exact firstE_zero h0 j h1
      · rw [show j = n by omega]; exact h
    · rw [if_pos h0] at h
      exact absurd h h0
def ordB (b : Bld) (i : Nat) : Bool := decide ((i = 0 ∧ b.fl i ≠ 0) ∨ (0 < i ∧ b.fl i ≤ b.fl (i - 1)) ∨ b.fl i > 1000000)
def stE (b : Bld) (i : Nat) : Int := if chk (b.N i) (b.X i) (b.Y i) ≠ 0 then chk (b.N i) (b.X i) (b.Y i) else if ordB b i = true then 10 else if 0 < i ∧ covF (b.N (i - 1)) (b.X (i - 1)) (b.Y (i - 1)) (b.N i) (b.X i) (b.Y i) = false then 12 else 0
theorem stE_zero {b : Bld} {i : Nat} (h : stE b i = 0) : chk (b.N i) (b.X i) (b.Y i) = 0 ∧ ordB b i = false := by
  unfold stE at h
  split at h
  · rename_i h1; exact absurd h h1
  · rename_i h1
    split at h
    · cases h
    · rename_i h2
      exact ⟨Decidable.not_not.1 h1, by simpa using h2⟩
/-- What right storeys give. -/
theorem st_ok {b : Bld} (h : ∀ i, i < b.nS → stE b i = 0) : outsOk b ∧ (∀ i, i < b.nS → 0 ≤ b.fl i ∧ b.fl i ≤ 1000000) ∧ (∀ i, i + 1 < b.nS → b.fl i < b.fl (i + 1)) := by
  have ho : ∀ i, i < b.nS → ((i ≠ 0 ∨ b.fl i = 0) ∧ (i = 0 ∨ b.fl (i - 1) < b.fl i) ∧ b.fl i ≤ 1000000) := fun i hi => by
    have := (stE_zero (h i hi)).2
    rw [ordB, decide_eq_false_iff_not] at this
    refine ⟨?_, ?_, ?_⟩
    · rcases Nat.eq_zero_or_pos i with h0 | h0
      · right
        by_cases hf : b.fl i = 0
        · exact hf
        · exact absurd (.inl ⟨h0, hf⟩) this
      · left; omega
    · rcases Nat.eq_zero_or_pos i with h0 | h0
      · left; exact h0
      · right; omega
    · omega
  have hnn : ∀ i, i < b.nS → 0 ≤ b.fl i := fun i => by
    induction i with
    | zero => intro hi; have := (ho 0 hi).1; rcases this with h | h <;> omega
    | succ i ih =>
      intro hi
      have h1 := ih (by omega)
      have h2 := (ho (i + 1) hi).2.1
      simp only [Nat.add_sub_cancel] at h2
      omega
  refine ⟨fun i hi => (stE_zero (h i hi)).1, fun i hi => ⟨hnn i hi, (ho i hi).2.2⟩, fun i hi => ?_⟩
  have h2 := (ho (i + 1) hi).2.1
  simp only [Nat.add_sub_cancel] at h2
  omega
noncomputable def A84_checkStoreys_c (b : Bld) : Ann := { orc := [(4, [(2, rChk)]), (11, [(11, rCov)])], loops := [(0, { ι := Nat, keep := [0, 6, 7], boxes := [], ts := fun _ i => [(8, dI (i : Int))], inv := fun _ i => i ≤ b.nS ∧ ∀ j, j < i → stE b j = 0, mu := fun _ i => b.nS - i, rd := fun _ σ => (iOf (σ.get 8)).toNat })], cuts := [] }
theorem checkStoreys_c (b : Bld) (hS : b.nS ≤ 1000) (hN : ∀ i, i < b.nS → b.N i ≤ 1000) : FnC prog 46 [.lst b.nS (stoC b)] (dI (firstE (stE b) b.nS)) := by
  refine FnC_owed hmix (A84_checkStoreys_c b) (V := VT.loop Nat (fun (a : Nat) => a ≤ b.nS ∧ ∀ (j : Nat), j < a → stE b j = 0) (0:Int).toNat [(0:Int) = (↑(0:Int).toNat : Int), b.nS = b.nS, ∀ i < b.nS, b.fl i = b.fl i, ∀ i < b.nS, b.N i = b.N i ∧ (∀ i_1 < b.N i, b.X i i_1 = b.X i i_1) ∧ ∀ i_1 < b.N i, b.Y i i_1 = b.Y i i_1, b.nS = b.nS, ∀ i < b.nS, b.fl i = b.fl i, ∀ i < b.nS, b.N i = b.N i ∧ (∀ i_1 < b.N i, b.X i i_1 = b.X i i_1) ∧ ∀ i_1 < b.N i, b.Y i i_1 = b.Y i i_1, (b.nS:Int) = (b.nS:Int)] fun (i : Nat) => VT.ite (decide ((i:Int) < (b.nS:Int))) (VT.need [(0:Int) ≤ (i:Int) ∧ (i:Int) < (b.nS:Int)] (VT.need [FnC prog 39 [DV.lst (b.N (i:Int).toNat) [fun (i_1 : Nat) => DV.val (Value.int IntKind.i64 (b.X (i:Int).toNat i_1)), fun (i_1 : Nat) => DV.val (Value.int IntKind.i64 (b.Y (i:Int).toNat i_1))]] (DV.val (Value.int IntKind.i64 (chk (b.N (i:Int).toNat) (b.X (i:Int).toNat) (b.Y (i:Int).toNat))))] (VT.ite (chk (b.N (i:Int).toNat) (b.X (i:Int).toNat) (b.Y (i:Int).toNat) != 0) (VT.done [chk (b.N (i:Int).toNat) (b.X (i:Int).toNat) (b.Y (i:Int).toNat) = firstE (stE b) b.nS]) (VT.need [ri (((i:Int) == 0) = true), ri (((i:Int) == 0) = true), ri (((i:Int) == 0) = true)] (VT.ite (if ((i:Int) == 0) = true then b.fl (i:Int).toNat != 0 else false) (VT.ite (if ((i:Int) == 0) = true then b.fl (i:Int).toNat != 0 else false) (VT.done [(10:Int) = firstE (stE b) b.nS]) (VT.need [ri (decide ((i:Int) > 0) = true), decide ((i:Int) > 0) = true → i64In ((i:Int) - 1), decide ((i:Int) > 0) = true → decide ((↑i
     : Int) > 0) = true, ri (decide ((i:Int) > 0) = true), decide ((i:Int) > 0) = true → (0:Int) ≤ (i:Int) - 1 ∧ (i:Int) - 1 < (b.nS:Int), ri (decide ((i:Int) > 0) = true), ri (decide ((i:Int) > 0) = true), ri (decide ((i:Int) > 0) = true), ri (decide ((i:Int) > 0) = true), ri (decide ((i:Int) > 0) = true), decide ((i:Int) > 0) = true → FnC prog 66 [DV.lst (b.N ((i:Int) - 1).toNat) [fun (i_1 : Nat) => DV.val (Value.int IntKind.i64 (b.X ((i:Int) - 1).toNat i_1)), fun (i_1 : Nat) => DV.val (Value.int IntKind.i64 (b.Y ((i:Int) - 1).toNat i_1))], DV.lst (b.N (i:Int).toNat) [fun (i_1 : Nat) => DV.val (Value.int IntKind.i64 (b.X (i:Int).toNat i_1)), fun (i_1 : Nat) => DV.val (Value.int IntKind.i64 (b.Y (i:Int).toNat i_1))]] (DV.val (Value.bool (covF (b.N ((i:Int) - 1).toNat) (b.X ((i:Int) - 1).toNat) (b.Y ((i:Int) - 1).toNat) (b.N (i:Int).toNat) (b.X (i:Int).toNat) (b.Y (i:Int).toNat)))), ri (decide ((i:Int) > 0) = true), ri (decide ((i:Int) > 0) = true)] (VT.ite (if decide ((i:Int) > 0) = true then !covF (b.N ((i:Int) - 1).toNat) (b.X ((i:Int) - 1).toNat) (b.Y ((i:Int) - 1).toNat) (b.N (i:Int).toNat) (b.X (i:Int).toNat) (b.Y (i:Int).toNat) else false) (VT.done [(12:Int) = firstE (stE b) b.nS]) (VT.need [i64In ((i:Int) + 1)] (VT.done [(i:Int) + 1 = (↑((i:Int) + (1 :
     Int)).toNat : Int), b.nS = b.nS, ∀ i < b.nS, b.fl i = b.fl i, ∀ i < b.nS, b.N i = b.N i ∧ (∀ i_1 < b.N i, b.X i i_1 = b.X i i_1) ∧ ∀ i_1 < b.N i, b.Y i i_1 = b.Y i i_1, b.nS = b.nS, ∀ i < b.nS, b.fl i = b.fl i, ∀ i < b.nS, b.N i = b.N i ∧ (∀ i_1 < b.N i, b.X i i_1 = b.X i i_1) ∧ ∀ i_1 < b.N i, b.Y i i_1 = b.Y i i_1, (b.nS:Int) = (b.nS:Int), Int.toNat ((i:Int) + 1) ≤ b.nS ∧ ∀ (j : Nat), j < ((i:Int) + 1).toNat → stE b j = 0, b.nS - ((i:Int) + 1).toNat < b.nS - i]))))) (VT.need [ri (decide ((i:Int) > 0) = true), ri (decide ((i:Int) > 0) = true), decide ((i:Int) > 0) = true → i64In ((i:Int) - 1), ri (decide ((i:Int) > 0) = true), ri (decide ((i:Int) > 0) = true), decide ((i:Int) > 0) = true → (0:Int) ≤ (i:Int) - 1 ∧ (i:Int) - 1 < (b.nS:Int), ri (decide ((i:Int) > 0) = true), ri (decide ((i:Int) > 0) = true), ri (decide ((i:Int) > 0) = true), ri (decide ((i:Int) > 0) = true), ri (decide ((i:Int) > 0) = true)] (VT.ite (if decide ((i:Int) > 0) = true then decide (b.fl (i:Int).toNat ≤ b.fl ((i:Int) - 1).toNat) else false) (VT.ite (if decide ((i:Int) > 0) = true then decide (b.fl (i:Int).toNat ≤ b.fl ((i:Int) - 1).toNat) else false) (VT.done [(10:Int) = firstE (stE b) b.nS]) (VT.need [ri (decide ((i:Int) > 0) = true), decide
     ((i:Int) > 0) = true → i64In ((i:Int) - 1), ri (decide ((i:Int) > 0) = true), ri (decide ((i:Int) > 0) = true), decide ((i:Int) > 0) = true → (0:Int) ≤ (i:Int) - 1 ∧ (i:Int) - 1 < (b.nS:Int), ri (decide ((i:Int) > 0) = true), ri (decide ((i:Int) > 0) = true), ri (decide ((i:Int) > 0) = true), ri (decide ((i:Int) > 0) = true), ri (decide ((i:Int) > 0) = true), decide ((i:Int) > 0) = true → FnC prog 66 [DV.lst (b.N ((i:Int) - 1).toNat) [fun (i_1 : Nat) => DV.val (Value.int IntKind.i64 (b.X ((i:Int) - 1).toNat i_1)), fun (i_1 : Nat) => DV.val (Value.int IntKind.i64 (b.Y ((i:Int) - 1).toNat i_1))], DV.lst (b.N (i:Int).toNat) [fun (i_1 : Nat) => DV.val (Value.int IntKind.i64 (b.X (i:Int).toNat i_1)), fun (i_1 : Nat) => DV.val (Value.int IntKind.i64 (b.Y (i:Int).toNat i_1))]] (DV.val (Value.bool (covF (b.N ((i:Int) - 1).toNat) (b.X ((i:Int) - 1).toNat) (b.Y ((i:Int) - 1).toNat) (b.N (i:Int).toNat) (b.X (i:Int).toNat) (b.Y (i:Int).toNat)))), ri (decide ((i:Int) > 0) = true), ri (decide ((i:Int) > 0) = true)] (VT.ite (if decide ((i:Int) > 0) = true then !covF (b.N ((i:Int) - 1).toNat) (b.X ((i:Int) - 1).toNat) (b.Y ((i:Int) - 1).toNat) (b.N (i:Int).toNat) (b.X (i:Int).toNat) (b.Y (i:Int).toNat) else false) (VT.done [(12:Int) = firstE (stE
     b) b.nS]) (VT.need [i64In ((i:Int) + 1)] (VT.done [(i:Int) + 1 = (↑((i:Int) + 1).toNat : Int), b.nS = b.nS, ∀ i < b.nS, b.fl i = b.fl i, ∀ i < b.nS, b.N i = b.N i ∧ (∀ i_1 < b.N i, b.X i i_1 = b.X i i_1) ∧ ∀ i_1 < b.N i, b.Y i i_1 = b.Y i i_1, b.nS = b.nS, ∀ i < b.nS, b.fl i = b.fl i, ∀ i < b.nS, b.N i = b.N i ∧ (∀ i_1 < b.N i, b.X i i_1 = b.X i i_1) ∧ ∀ i_1 < b.N i, b.Y i i_1 = b.Y i i_1, (b.nS:Int) = (b.nS:Int), Int.toNat ((i:Int) + 1) ≤ b.nS ∧ ∀ (j : Nat), j < ((i:Int) + 1).toNat → stE b j = 0, b.nS - ((i:Int) + 1).toNat < b.nS - i]))))) (VT.ite (decide (b.fl (i:Int).toNat > 1000000)) (VT.done [(10:Int) = firstE (stE b) b.nS]) (VT.need [ri (decide ((i:Int) > 0) = true), decide ((i:Int) > 0) = true → i64In ((i:Int) - 1), ri (decide ((i:Int) > 0) = true), ri (decide ((i:Int) > 0) = true), decide ((i:Int) > 0) = true → (0:Int) ≤ (i:Int) - 1 ∧ (i:Int) - 1 < (b.nS:Int), ri (decide ((i:Int) > 0) = true), ri (decide ((i:Int) > 0) = true), ri (decide ((i:Int) > 0) = true), ri (decide ((i:Int) > 0) = true), ri (decide ((i:Int) > 0) = true), decide ((i:Int) > 0) = true → FnC prog 66 [DV.lst (b.N ((i:Int) - 1).toNat) [fun (i_1 : Nat) => DV.val (Value.int IntKind.i64 (b.X ((i:Int) - 1).toNat i_1)), fun (i_1 : Nat) => DV.val (Value.int IntKind.i64 (b.Y ((i:Int) - (1 :
     Int)).toNat i_1))], DV.lst (b.N (i:Int).toNat) [fun (i_1 : Nat) => DV.val (Value.int IntKind.i64 (b.X (i:Int).toNat i_1)), fun (i_1 : Nat) => DV.val (Value.int IntKind.i64 (b.Y (i:Int).toNat i_1))]] (DV.val (Value.bool (covF (b.N ((i:Int) - 1).toNat) (b.X ((i:Int) - 1).toNat) (b.Y ((i:Int) - 1).toNat) (b.N (i:Int).toNat) (b.X (i:Int).toNat) (b.Y (i:Int).toNat)))), ri (decide ((i:Int) > 0) = true), ri (decide ((i:Int) > 0) = true)] (VT.ite (if decide ((i:Int) > 0) = true then !covF (b.N ((i:Int) - 1).toNat) (b.X ((i:Int) - 1).toNat) (b.Y ((i:Int) - 1).toNat) (b.N (i:Int).toNat) (b.X (i:Int).toNat) (b.Y (i:Int).toNat) else false) (VT.done [(12:Int) = firstE (stE b) b.nS]) (VT.need [i64In ((i:Int) + 1)] (VT.done [(i:Int) + 1 = (↑((i:Int) + 1).toNat : Int), b.nS = b.nS, ∀ i < b.nS, b.fl i = b.fl i, ∀ i < b.nS, b.N i = b.N i ∧ (∀ i_1 < b.N i, b.X i i_1 = b.X i i_1) ∧ ∀ i_1 < b.N i, b.Y i i_1 = b.Y i i_1, b.nS = b.nS, ∀ i < b.nS, b.fl i = b.fl i, ∀ i < b.nS, b.N i = b.N i ∧ (∀ i_1 < b.N i, b.X i i_1 = b.X i i_1) ∧ ∀ i_1 < b.N i, b.Y i i_1 = b.Y i i_1, (b.nS:Int) = (b.nS:Int), Int.toNat ((i:Int) + 1) ≤ b.nS ∧ ∀ (j : Nat), j < ((i:Int) + 1).toNat → stE b j = 0, b.nS - ((i:Int) + 1).toNat < b.nS - i])))))))))))) (VT.done [(0:Int) = firstE (stE b) b.nS])) (by kernel_rfl) ?_
  simp only [VT.holds, AllT, Sq]
  refine ⟨rfl, ⟨Nat.zero_le _, fun j hj => absurd hj (Nat.not_lt_zero j)⟩, fun i ⟨hi, hb⟩ => ⟨fun hlt => ?_, fun hge => by rw [firstE_none (fun j hj => hb j (by omega))]⟩⟩
  have hp : ((i : Int) - 1).toNat = i - 1 := by omega
  simp only [hp]
  have hNi := hN i (by omega)
  have hst : stE b i = if chk (b.N i) (b.X i) (b.Y i) ≠ 0 then chk (b.N i) (b.X i) (b.Y i) else if ordB b i = true then 10 else if 0 < i ∧ covF (b.N (i - 1)) (b.X (i - 1)) (b.Y (i - 1)) (b.N i) (b.X i) (b.Y i) = false then 12 else 0 := rfl
  have q1 : (i : Int) > 0 → i64In ((i : Int) - 1) := fun _ => by unfold i64In; omega
  have q2 : (i : Int) > 0 → 0 ≤ (i : Int) - 1 ∧ (i : Int) - 1 < (b.nS : Int) := fun _ => by omega
  refine ⟨⟨by omega, hlt⟩, checkOutline_c _ _ _ (by omega), fun h => ?_, fun hc => ?_⟩
  · have e : stE b i = chk (b.N i) (b.X i) (b.Y i) := by rw [hst, if_pos h]
    rw [firstE_at hb (by rw [e]; exact h) (by omega), e]
  · have hord : ordB b i = true → 10 = firstE (stE b) b.nS := fun h => by
      have e : stE b i = 10 := by rw [hst, if_neg (by rw [hc]; simp), if_pos h]
      rw [firstE_at hb (by rw [e]; simp) (by omega), e]
    have hcov : (i : Int) > 0 → FnC prog 66 [pts (b.N (i - 1)) (b.X (i - 1)) (b.Y (i - 1)), pts (b.N i) (b.X i) (b.Y i)] (dB (covF (b.N (i - 1)) (b.X (i - 1)) (b.Y (i - 1)) (b.N i) (b.X i) (b.Y i))) := fun h => by
      have hc' := (stE_zero (hb (i - 1) (by omega))).1
      have n1 := chk_n hc
      have n2 := chk_n hc'
      exact covers_c _ _ _ _ _ _ (by omega) (by omega) (chk_inB hc').1 (chk_inB hc').2 (by omega) (by omega) (chk_inB hc).1 (chk_inB hc).2
    have h12 : ordB b i = false → (i : Int) > 0 ∧ covF (b.N (i - 1)) (b.X (i - 1)) (b.Y (i - 1)) (b.N i) (b.X i) (b.Y i) = false → 12 = firstE (stE b) b.nS := fun h h2 => by
      have e : stE b i = 12 := by rw [hst, if_neg (by rw [hc]; simp), if_neg (by rw [h]; simp), if_pos ⟨by omega, h2.2⟩]
      rw [firstE_at hb (by rw [e]; simp) (by omega), e]
    have hnext : ordB b i = false → ((i : Int) > 0 → covF (b.N (i - 1)) (b.X (i - 1)) (b.Y (i - 1)) (b.N i) (b.X i) (b.Y i) = true) → ∀ j, j < i + 1 → stE b j = 0 := fun h h2 j hj => by
      rcases Nat.lt_or_ge j i with h3 | h3
      · exact hb j h3
      · rw [show j = i by omega, hst, if_neg (by rw [hc]; simp), if_neg (by rw [h]; simp), if_neg]
        rintro ⟨h4, h5⟩
        rw [h2 (by omega)] at h5
        cases h5
    refine ⟨fun h1 => ⟨fun _ => hord (decide_eq_true (.inl ⟨by omega, h1.2⟩)), fun hx => absurd (hx h1.1) h1.2⟩, fun h1 => ⟨⟨q1, q2⟩, fun h2 => ⟨fun _ => hord (decide_eq_true (.inr (.inl ⟨by omega, h2.2⟩))), fun hx => absurd h2.2 (hx h2.1)⟩, fun h2 => ⟨fun h3 => hord (decide_eq_true (.inr (.inr h3))), fun h3 => ?_⟩⟩⟩
    have ho : ordB b i = false := by
      rw [ordB, decide_eq_false_iff_not]
      rintro (h | h | h)
      · exact h.2 (h1 (by omega))
      · exact h2 (by omega) h.2
      · exact h3 h
    exact ⟨⟨q1, q2, hcov⟩, h12 ho, fun h4 => ⟨by unfold i64In; omega, by omega, ⟨by omega, hnext ho h4⟩, by omega⟩⟩
end Go.Abs
