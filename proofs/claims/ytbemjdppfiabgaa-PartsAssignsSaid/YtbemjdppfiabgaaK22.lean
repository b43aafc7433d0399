/- Contracts. -/
import Derived.Test.YtbemjdppfiabgaaK17
import Derived.Test.YtbemjdppfiabgaaK16
import Derived.Test.YtbemjdppfiabgaaAbsU
set_option linter.unusedVariables false
set_option linter.unusedSimpArgs false
set_option maxRecDepth 100000
namespace Go.Abs
open Go
section
variable {s t : Scf} {g : Nat → Nat}
theorem nAt_nodes (hX : t.X = s.X) (hY : t.Y = s.Y) (hZ : t.Z = s.Z) (x y z : Int) : ∀ n, nAt t n x y z = nAt s n x y z
  | 0 => rfl
  | n + 1 => by
    have ih := nAt_nodes hX hY hZ x y z n
    rw [nAt, nAt, ih, hX, hY, hZ]
/-- A scaffold of some of another one's members. -/
structure SubS (s t : Scf) (g : Nat → Nat) : Prop where
  nN : t.nN = s.nN
  X : t.X = s.X
  Y : t.Y = s.Y
  Z : t.Z = s.Z
  lt : ∀ j, j < t.nM → g j < s.nM
  K : ∀ j, j < t.nM → t.K j = s.K (g j)
  A : ∀ j, j < t.nM → t.A j = s.A (g j)
  B : ∀ j, j < t.nM → t.B j = s.B (g j)
  mono : ∀ i j, j < i → i < t.nM → g j < g i
theorem SubS.nAt (h : SubS s t g) (x y z : Int) (n : Nat) : nAt t n x y z = nAt s n x y z := nAt_nodes h.X h.Y h.Z x y z n
theorem SubS.atL (h : SubS s t g) (n : Nat) (l : List Int) : atL t n l = atL s n l := by
  by_cases h3 : ∃ x y z, l = [x, y, z]
  · obtain ⟨x, y, z, rfl⟩ := h3
    exact h.nAt x y z n
  · have hn : ∀ x y z, l ≠ [x, y, z] := fun x y z e => h3 ⟨x, y, z, e⟩
    rw [atL_none t n hn, atL_none s n hn]
theorem SubS.atH (h : SubS s t g) (n : Nat) (l : List Int) : atH t n l = atH s n l := by
  unfold Abs.atH; rw [h.atL]
theorem SubS.crn (h : SubS s t g) (a b : Int) (j : Nat) : crn t a b j = crn s a b j := by
  unfold Abs.crn; rw [h.atL, h.atL, h.nN, h.X, h.Y, h.Z]
theorem SubS.endX (h : SubS s t g) (k a b : Int) (j : Nat) : endX t k a b j = endX s k a b j := by
  unfold Abs.endX; rw [h.crn]
theorem SubS.rgt (h : SubS s t g) (n : Nat) (k a b : Int) : rgtF t n k a b = rgtF s n k a b := by
  unfold rgtF; rw [h.atH, h.atH, h.X, h.Y, h.Z]
theorem SubS.ok (h : SubS s t g) (hc : ScfOK s) (hm : t.nM ≤ 4000) : ScfOK t where
  nN := by rw [h.nN]; exact hc.nN
  nM := hm
  node := fun i hi => by rw [h.nN] at hi; rw [h.X, h.Y, h.Z, h.nAt]; exact hc.node i hi
  kind := fun i hi => by rw [h.K i hi]; exact hc.kind _ (h.lt i hi)
  ends := fun i hi => by rw [h.A i hi, h.B i hi, h.nN]; exact hc.ends _ (h.lt i hi)
  right := fun i hi => by rw [h.rgt, h.nN, h.K i hi, h.A i hi, h.B i hi]; exact hc.right _ (h.lt i hi)
  seen := fun i hi => seen_iff.2 fun j hj => by
    rw [h.K i hi, h.A i hi, h.B i hi, h.K j (by omega), h.A j (by omega), h.B j (by omega)]
    exact seen_iff.1 (hc.seen _ (h.lt i hi)) (g j) (h.mono i j hj hi)
theorem ftB_iff {n : Nat} : ∀ {k : Nat}, ftB s k n = true ↔ ∃ j, j < k ∧ s.K j = 9 ∧ s.A j = n
  | 0 => ⟨fun h => (by cases h), fun ⟨j, hj, _⟩ => absurd hj (Nat.not_lt_zero j)⟩
  | k + 1 => by
    rw [ftB, Bool.or_eq_true, ftB_iff, Bool.and_eq_true, decide_eq_true_eq, decide_eq_true_eq]
    constructor
    · rintro (h | ⟨j, hj, h⟩)
      · exact ⟨k, Nat.lt_succ_self k, h⟩
      · exact ⟨j, by omega, h⟩
    · rintro ⟨j, hj, h⟩
      rcases Nat.lt_or_ge j k with h1 | h1
      · exact .inr ⟨j, h1, h⟩
      · obtain rfl : j = k := by omega
        exact .inl h
theorem ftU_iff {n : Nat} : ∀ {k : Nat}, ftU s k n = true ↔ ∃ j, j < k ∧ s.K j = 0 ∧ s.B j = n
  | 0 => ⟨fun h => (by cases h), fun ⟨j, hj, _⟩ => absurd hj (Nat.not_lt_zero j)⟩
  | k + 1 => by
    rw [ftU, Bool.or_eq_true, ftU_iff, Bool.and_eq_true, decide_eq_true_eq, decide_eq_true_eq]
    constructor
    · rintro (h | ⟨j, hj, h⟩)
      · exact ⟨k, Nat.lt_succ_self k, h⟩
      · exact ⟨j, by omega, h⟩
    · rintro ⟨j, hj, h⟩
      rcases Nat.lt_or_ge j k with h1 | h1
      · exact .inr ⟨j, h1, h⟩
      · obtain rfl : j = k := by omega
        exact .inl h
theorem ftA_iff {n : Nat} : ∀ {k : Nat}, ftA s k n = true ↔ ∃ j, j < k ∧ s.K j = 0 ∧ (s.A j = n ∨ s.B j = n)
  | 0 => ⟨fun h => (by cases h), fun ⟨j, hj, _⟩ => absurd hj (Nat.not_lt_zero j)⟩
  | k + 1 => by
    rw [ftA, Bool.or_eq_true, ftA_iff, Bool.and_eq_true, Bool.or_eq_true, decide_eq_true_eq, decide_eq_true_eq, decide_eq_true_eq]
    constructor
    · rintro (h | ⟨j, hj, h⟩)
      · exact ⟨k, Nat.lt_succ_self k, h⟩
      · exact ⟨j, by omega, h⟩
    · rintro ⟨j, hj, h⟩
      rcases Nat.lt_or_ge j k with h1 | h1
      · exact .inr ⟨j, h1, h⟩
      · obtain rfl : j = k := by omega
        exact .inl h
theorem SubS.ftB (h : SubS s t g) {n : Nat} (e : ftB t t.nM n = true) : ftB s s.nM n = true := by
  obtain ⟨j, hj, a, b⟩ := ftB_iff.1 e
  exact ftB_iff.2 ⟨g j, h.lt j hj, by rw [← h.K j hj]; exact a, by rw [← h.A j hj]; exact b⟩
theorem SubS.ftU (h : SubS s t g) {n : Nat} (e : ftU t t.nM n = true) : ftU s s.nM n = true := by
  obtain ⟨j, hj, a, b⟩ := ftU_iff.1 e
  exact ftU_iff.2 ⟨g j, h.lt j hj, by rw [← h.K j hj]; exact a, by rw [← h.B j hj]; exact b⟩
theorem SubS.ftA (h : SubS s t g) {n : Nat} (e : ftA t t.nM n = true) : ftA s s.nM n = true := by
  obtain ⟨j, hj, a, b⟩ := ftA_iff.1 e
  exact ftA_iff.2 ⟨g j, h.lt j hj, by rw [← h.K j hj]; exact a, by rw [← h.A j hj, ← h.B j hj]; exact b⟩
theorem SubS.crnD (h : SubS s t fun j => j) {d : Nat} (hd : d < t.nM) (k : Nat) : crnD t d k = crnD s d k := by
  unfold Abs.crnD; rw [h.crn, Int.toNat_natCast, h.A d hd, h.B d hd]
theorem SubS.stpB (h : SubS s t fun j => j) {f x : Int} (e : stpB t f x = true) : stpB s f x = true := by
  obtain ⟨j, hj, hl, h2⟩ := stp_iff.1 e
  refine stp_iff.2 ⟨j, h.lt j hj, ?_, ?_⟩
  · unfold ladP at hl ⊢
    rw [← h.K j hj, ← h.A j hj, ← h.B j hj, ← h.Z]; exact hl
  · rw [← h.A j hj, ← h.B j hj]; exact h2
theorem SubS.frG (h : SubS s t fun j => j) {d : Nat} (hd : d < t.nM) (e : frG t d = true) : frG s d = true := by
  unfold Abs.frG at e ⊢
  obtain ⟨i, hi, e⟩ := anyN_iff.1 e
  obtain ⟨k, hk, e⟩ := anyN_iff.1 e
  rw [h.nN] at hi
  refine anyN_iff.2 ⟨i, hi, anyN_iff.2 ⟨k, hk, ?_⟩⟩
  unfold gr1 at e ⊢
  rw [h.crnD hd, h.Z, Bool.and_eq_true, Bool.and_eq_true] at e
  rw [Bool.and_eq_true, Bool.and_eq_true]
  exact ⟨h.ftB e.1, e.2.1, h.stpB e.2.2⟩
theorem SubS.ldB (h : SubS s t fun j => j) {d i : Nat} (hd : d < t.nM) (hi : i < t.nM) (e : ldB t d i = true) : ldB s d i = true := by
  unfold Abs.ldB at e ⊢
  obtain ⟨x, hx, e⟩ := anyN_iff.1 e
  obtain ⟨y, hy, e⟩ := anyN_iff.1 e
  refine anyN_iff.2 ⟨x, hx, anyN_iff.2 ⟨y, hy, ?_⟩⟩
  unfold ld1 at e ⊢
  rw [h.crnD hd, h.crnD hi, h.crnD hd, h.crnD hi, Bool.or_eq_true] at e
  rw [Bool.or_eq_true]
  exact e.imp h.stpB id
end
end Go.Abs
