/- Contracts. -/
import Derived.Test.YtbemjdppfiabgaaK17
import Derived.Test.YtbemjdppfiabgaaK16
import Derived.Test.YtbemjdppfiabgaaAbsTA
set_option linter.unusedVariables false
set_option linter.unusedSimpArgs false
set_option maxRecDepth 100000
namespace Go.Abs
open Go
/-- A scaffold without one member; with one more. -/
def lesS (s : Scf) (p : Int) : Scf where
  nN := s.nN
  X := s.X
  Y := s.Y
  Z := s.Z
  nM := p.toNat + (s.nM - (p + 1).toNat)
  K := fun i => if i < p.toNat then s.K i else s.K (i - p.toNat + (p + 1).toNat)
  A := fun i => if i < p.toNat then s.A i else s.A (i - p.toNat + (p + 1).toNat)
  B := fun i => if i < p.toNat then s.B i else s.B (i - p.toNat + (p + 1).toNat)
def morS (s : Scf) (k a b : Int) : Scf where
  nN := s.nN
  X := s.X
  Y := s.Y
  Z := s.Z
  nM := s.nM + 1
  K := fun i => if i < s.nM then s.K i else k
  A := fun i => if i < s.nM then s.A i else a
  B := fun i => if i < s.nM then s.B i else b
abbrev oCpy (s : Scf) : Orc := .rowA fun _ => ([nodesD s], s.nM, [fun i => dI (s.K i), fun i => dI (s.A i), fun i => dI (s.B i)])
abbrev oHas : Orc := .res fun q => dB (hasN (fun j => colI 0 (arg q 0) j) (aI q 1) (lenOf (arg q 0)))
abbrev frD (s : Scf) : DV := .tup [.lst (frN s) [fun j => dI (flI (frP s) s.nM j)], dI (chkE s)]
noncomputable abbrev rcD (s : Scf) : DV := .tup [.lst (rchN s) [fun j => dI (rchI s j)], dI (chkE s)]
section
variable {s t : Scf} {g : Nat → Nat}
theorem nAt_nodes (hX : t.X = s.X) (hY : t.Y = s.Y) (hZ : t.Z = s.Z) (x y z : Int) : ∀ n, nAt t n x y z = nAt s n x y z
  | 0 => rfl
  | n + 1 => by
    have ih := nAt_nodes hX hY hZ x y z n
    rw [nAt, nAt, ih, hX, hY, hZ]
/-- A scaffold of some of another one's members. -/
structure SubS (s t : Scf) (g : Nat → Nat) : Prop where
  nN : t.nN = s.nN
  X : t.X = s.X
  Y : t.Y = s.Y
  Z : t.Z = s.Z
  lt : ∀ j, j < t.nM → g j < s.nM
  K : ∀ j, j < t.nM → t.K j = s.K (g j)
  A : ∀ j, j < t.nM → t.A j = s.A (g j)
  B : ∀ j, j < t.nM → t.B j = s.B (g j)
  mono : ∀ i j, j < i → i < t.nM → g j < g i
theorem SubS.nAt (h : SubS s t g) (x y z : Int) (n : Nat) : nAt t n x y z = nAt s n x y z := nAt_nodes h.X h.Y h.Z x y z n
theorem SubS.atL (h : SubS s t g) (n : Nat) (l : List Int) : atL t n l = atL s n l := by
  by_cases h3 : ∃ x y z, l = [x, y, z]
  · obtain ⟨x, y, z, rfl⟩ := h3
    exact h.nAt x y z n
  · have hn : ∀ x y z, l ≠ [x, y, z] := fun x y z e => h3 ⟨x, y, z, e⟩
    rw [atL_none t n hn, atL_none s n hn]
theorem SubS.atH (h : SubS s t g) (n : Nat) (l : List Int) : atH t n l = atH s n l := by
  unfold Abs.atH; rw [h.atL]
theorem SubS.crn (h : SubS s t g) (a b : Int) (j : Nat) : crn t a b j = crn s a b j := by
  unfold Abs.crn; rw [h.atL, h.atL, h.nN, h.X, h.Y, h.Z]
theorem SubS.endX (h : SubS s t g) (k a b : Int) (j : Nat) : endX t k a b j = endX s k a b j := by
  unfold Abs.endX; rw [h.crn]
theorem SubS.rgt (h : SubS s t g) (n : Nat) (k a b : Int) : rgtF t n k a b = rgtF s n k a b := by
  unfold rgtF; rw [h.atH, h.atH, h.X, h.Y, h.Z]
theorem SubS.ok (h : SubS s t g) (hc : ScfOK s) (hm : t.nM ≤ 4000) : ScfOK t where
  nN := by rw [h.nN]; exact hc.nN
  nM := hm
  node := fun i hi => by rw [h.nN] at hi; rw [h.X, h.Y, h.Z, h.nAt]; exact hc.node i hi
  kind := fun i hi => by rw [h.K i hi]; exact hc.kind _ (h.lt i hi)
  ends := fun i hi => by rw [h.A i hi, h.B i hi, h.nN]; exact hc.ends _ (h.lt i hi)
  right := fun i hi => by rw [h.rgt, h.nN, h.K i hi, h.A i hi, h.B i hi]; exact hc.right _ (h.lt i hi)
  seen := fun i hi => seen_iff.2 fun j hj => by
    rw [h.K i hi, h.A i hi, h.B i hi, h.K j (by omega), h.A j (by omega), h.B j (by omega)]
    exact seen_iff.1 (hc.seen _ (h.lt i hi)) (g j) (h.mono i j hj hi)
theorem chk_of (hc : ScfOK s) : chkE s = 0 := by
  refine (chk_ok ⟨by have := hc.nN; omega, by have := hc.nM; omega⟩ (fun k hk => ?_) fun k hk => ?_).symm
  · obtain ⟨⟨a, b, c⟩, d⟩ := hc.node k hk
    rw [nodE, a, b, c, if_neg (by decide), if_neg d]
  · have h1 := hc.kind k hk
    have h2 := hc.ends k hk
    rw [memE, if_neg (fun h => h h1), if_neg (by omega), hc.right k hk, if_neg (by decide), hc.seen k hk, if_neg (by decide)]
theorem ftB_iff {n : Nat} : ∀ {k : Nat}, ftB s k n = true ↔ ∃ j, j < k ∧ s.K j = 9 ∧ s.A j = n
  | 0 => ⟨fun h => (by cases h), fun ⟨j, hj, _⟩ => absurd hj (Nat.not_lt_zero j)⟩
  | k + 1 => by
    rw [ftB, Bool.or_eq_true, ftB_iff, Bool.and_eq_true, decide_eq_true_eq, decide_eq_true_eq]
    constructor
    · rintro (h | ⟨j, hj, h⟩)
      · exact ⟨k, Nat.lt_succ_self k, h⟩
      · exact ⟨j, by omega, h⟩
    · rintro ⟨j, hj, h⟩
      rcases Nat.lt_or_ge j k with h1 | h1
      · exact .inr ⟨j, h1, h⟩
      · obtain rfl : j = k := by omega
        exact .inl h
theorem ftU_iff {n : Nat} : ∀ {k : Nat}, ftU s k n = true ↔ ∃ j, j < k ∧ s.K j = 0 ∧ s.B j = n
  | 0 => ⟨fun h => (by cases h), fun ⟨j, hj, _⟩ => absurd hj (Nat.not_lt_zero j)⟩
  | k + 1 => by
    rw [ftU, Bool.or_eq_true, ftU_iff, Bool.and_eq_true, decide_eq_true_eq, decide_eq_true_eq]
    constructor
    · rintro (h | ⟨j, hj, h⟩)
      · exact ⟨k, Nat.lt_succ_self k, h⟩
      · exact ⟨j, by omega, h⟩
    · rintro ⟨j, hj, h⟩
      rcases Nat.lt_or_ge j k with h1 | h1
      · exact .inr ⟨j, h1, h⟩
      · obtain rfl : j = k := by omega
        exact .inl h
theorem ftA_iff {n : Nat} : ∀ {k : Nat}, ftA s k n = true ↔ ∃ j, j < k ∧ s.K j = 0 ∧ (s.A j = n ∨ s.B j = n)
  | 0 => ⟨fun h => (by cases h), fun ⟨j, hj, _⟩ => absurd hj (Nat.not_lt_zero j)⟩
  | k + 1 => by
    rw [ftA, Bool.or_eq_true, ftA_iff, Bool.and_eq_true, Bool.or_eq_true, decide_eq_true_eq, decide_eq_true_eq, decide_eq_true_eq]
    constructor
    · rintro (h | ⟨j, hj, h⟩)
      · exact ⟨k, Nat.lt_succ_self k, h⟩
      · exact ⟨j, by omega, h⟩
    · rintro ⟨j, hj, h⟩
      rcases Nat.lt_or_ge j k with h1 | h1
      · exact .inr ⟨j, h1, h⟩
      · obtain rfl : j = k := by omega
        exact .inl h
theorem b_anti {x y : Bool} (h : x = true → y = true) (hy : y = false) : x = false := by
  cases x with
  | false => rfl
  | true => rw [h rfl] at hy; cases hy
theorem SubS.ftB (h : SubS s t g) {n : Nat} (e : ftB t t.nM n = true) : ftB s s.nM n = true := by
  obtain ⟨j, hj, a, b⟩ := ftB_iff.1 e
  exact ftB_iff.2 ⟨g j, h.lt j hj, by rw [← h.K j hj]; exact a, by rw [← h.A j hj]; exact b⟩
theorem SubS.ftU (h : SubS s t g) {n : Nat} (e : ftU t t.nM n = true) : ftU s s.nM n = true := by
  obtain ⟨j, hj, a, b⟩ := ftU_iff.1 e
  exact ftU_iff.2 ⟨g j, h.lt j hj, by rw [← h.K j hj]; exact a, by rw [← h.B j hj]; exact b⟩
theorem SubS.ftA (h : SubS s t g) {n : Nat} (e : ftA t t.nM n = true) : ftA s s.nM n = true := by
  obtain ⟨j, hj, a, b⟩ := ftA_iff.1 e
  exact ftA_iff.2 ⟨g j, h.lt j hj, by rw [← h.K j hj]; exact a, by rw [← h.A j hj, ← h.B j hj]; exact b⟩
theorem SubS.frP (h : SubS s t g) {i : Nat} (hi : i < t.nM) (hf : frP s (g i) = true) : frP t i = true := by
  unfold Abs.frP at hf ⊢
  rw [h.K i hi, h.A i hi, h.B i hi]
  by_cases h0 : s.K (g i) = 0
  · rw [if_pos h0] at hf ⊢
    rw [Bool.and_eq_true, Bool.not_eq_true', Bool.not_eq_true'] at hf ⊢
    exact ⟨b_anti h.ftB hf.1, b_anti h.ftU hf.2⟩
  · rw [if_neg h0] at hf ⊢
    rw [ixF_any] at hf ⊢
    obtain ⟨j, hj, hp⟩ := anyN_iff.1 hf
    refine anyN_iff.2 ⟨j, hj, ?_⟩
    unfold noA at hp ⊢
    dsimp only at hp ⊢
    rw [h.endX]
    rw [Bool.not_eq_true'] at hp ⊢
    exact b_anti h.ftA hp
theorem les_sub {p : Int} (hp : 0 ≤ p ∧ p < s.nM) : SubS s (lesS s p) fun j => if j < p.toNat then j else j + 1 where
  nN := rfl
  X := rfl
  Y := rfl
  Z := rfl
  lt := fun j hj => by
    have hj : j < p.toNat + (s.nM - (p + 1).toNat) := hj
    split <;> omega
  K := fun j _ => by
    show (if j < p.toNat then s.K j else _) = s.K (if j < p.toNat then j else j + 1)
    split
    · rfl
    · congr 1; omega
  A := fun j _ => by
    show (if j < p.toNat then s.A j else _) = s.A (if j < p.toNat then j else j + 1)
    split
    · rfl
    · congr 1; omega
  B := fun j _ => by
    show (if j < p.toNat then s.B j else _) = s.B (if j < p.toNat then j else j + 1)
    split
    · rfl
    · congr 1; omega
  mono := fun i j hj _ => by
    split <;> split <;> omega
theorem les_ok {p : Int} (hc : ScfOK s) (hp : 0 ≤ p ∧ p < s.nM) : ScfOK (lesS s p) := (les_sub hp).ok hc (by
  have := hc.nM
  show p.toNat + (s.nM - (p + 1).toNat) ≤ 4000
  omega)
theorem les_has {p : Int} (hc : ScfOK s) (hp : 0 ≤ p ∧ p < s.nM) {i : Nat} (hi : i < s.nM) (hf : frP s i = true) {k : Nat} (hk : if k < p.toNat then k = i else k + 1 = i) :
    hasN (fun j => ((flI (frP (lesS s p)) (lesS s p).nM j : Nat) : Int)) k (frN (lesS s p)) = true := by
  have hkm : k < (lesS s p).nM := by
    show k < p.toNat + (s.nM - (p + 1).toNat)
    split at hk <;> omega
  have e : (if k < p.toNat then k else k + 1) = i := by
    by_cases h : k < p.toNat
    · rw [if_pos h] at hk ⊢; exact hk
    · rw [if_neg h] at hk ⊢; exact hk
  have h1 := (les_sub hp).frP (i := k) hkm (by rw [e]; exact hf)
  obtain ⟨h2, h3⟩ := flI_at h1 hkm
  exact hasN_iff.2 ⟨flN (frP (lesS s p)) k, by rw [frN, if_pos (chk_of (les_ok hc hp))]; exact h2, by rw [h3]⟩
theorem SubS.crnD (h : SubS s t fun j => j) {d : Nat} (hd : d < t.nM) (k : Nat) : crnD t d k = crnD s d k := by
  unfold Abs.crnD; rw [h.crn, Int.toNat_natCast, h.A d hd, h.B d hd]
theorem SubS.stpB (h : SubS s t fun j => j) {f x : Int} (e : stpB t f x = true) : stpB s f x = true := by
  obtain ⟨j, hj, hl, h2⟩ := stp_iff.1 e
  refine stp_iff.2 ⟨j, h.lt j hj, ?_, ?_⟩
  · unfold ladP at hl ⊢
    rw [← h.K j hj, ← h.A j hj, ← h.B j hj, ← h.Z]; exact hl
  · rw [← h.A j hj, ← h.B j hj]; exact h2
theorem SubS.frG (h : SubS s t fun j => j) {d : Nat} (hd : d < t.nM) (e : frG t d = true) : frG s d = true := by
  unfold Abs.frG at e ⊢
  obtain ⟨i, hi, e⟩ := anyN_iff.1 e
  obtain ⟨k, hk, e⟩ := anyN_iff.1 e
  rw [h.nN] at hi
  refine anyN_iff.2 ⟨i, hi, anyN_iff.2 ⟨k, hk, ?_⟩⟩
  unfold gr1 at e ⊢
  rw [h.crnD hd, h.Z, Bool.and_eq_true, Bool.and_eq_true] at e
  rw [Bool.and_eq_true, Bool.and_eq_true]
  exact ⟨h.ftB e.1, e.2.1, h.stpB e.2.2⟩
theorem SubS.ldB (h : SubS s t fun j => j) {d i : Nat} (hd : d < t.nM) (hi : i < t.nM) (e : ldB t d i = true) : ldB s d i = true := by
  unfold Abs.ldB at e ⊢
  obtain ⟨x, hx, e⟩ := anyN_iff.1 e
  obtain ⟨y, hy, e⟩ := anyN_iff.1 e
  refine anyN_iff.2 ⟨x, hx, anyN_iff.2 ⟨y, hy, ?_⟩⟩
  unfold ld1 at e ⊢
  rw [h.crnD hd, h.crnD hi, h.crnD hd, h.crnD hi, Bool.or_eq_true] at e
  rw [Bool.or_eq_true]
  exact e.imp h.stpB id
theorem rchR_lt {i : Nat} (h : RchR s i) : i < s.nM := by
  cases h with
  | ground h _ => exact h
  | step _ h _ _ => exact h
theorem SubS.rch (h : SubS s t fun j => j) {i : Nat} (hr : RchR t i) : RchR s i := by
  induction hr with
  | ground hi h2 =>
    unfold p0 at h2
    rw [Bool.and_eq_true, decide_eq_true_eq] at h2
    refine .ground (h.lt _ hi) ?_
    rw [p0, Bool.and_eq_true, decide_eq_true_eq]
    exact ⟨by rw [← h.K _ hi]; exact h2.1, h.frG hi h2.2⟩
  | step h1 h2 h3 h4 ih => exact .step ih (h.lt _ h2) (by rw [← h.K _ h2]; exact h3) (h.ldB (rchR_lt h1) h2 h4)
theorem mor_sub (s : Scf) (k a b : Int) : SubS (morS s k a b) s fun j => j where
  nN := rfl
  X := rfl
  Y := rfl
  Z := rfl
  lt := fun j hj => Nat.lt_succ_of_lt hj
  K := fun j hj => (if_pos hj).symm
  A := fun j hj => (if_pos hj).symm
  B := fun j hj => (if_pos hj).symm
  mono := fun _ _ h _ => h
theorem mor_has {k a b : Int} (h1 : chkE s = 0) (h2 : chkE (morS s k a b) = 0) {i : Nat} (hi : i < rchN s) : hasN (fun j => (rchI (morS s k a b) j : Int)) (rchI s i) (rchN (morS s k a b)) = true := by
  have e1 : rchP s = rchR s := rch_eq (chk_facts h1)
  have e2 : rchP (morS s k a b) = rchR (morS s k a b) := rch_eq (chk_facts h2)
  rw [rchN, if_pos h1, e1] at hi
  obtain ⟨h3, h4⟩ := flI_in hi
  have h5 : RchR s (flI (rchR s) s.nM i) := @of_decide_eq_true _ (Classical.propDecidable _) h4
  have h6 := (mor_sub s k a b).rch h5
  have h7 : rchR (morS s k a b) (flI (rchR s) s.nM i) = true := @decide_eq_true _ (Classical.propDecidable _) h6
  obtain ⟨h8, h9⟩ := flI_at h7 (rchR_lt h6)
  exact hasN_iff.2 ⟨_, by rw [rchN, if_pos h2, e2]; exact h8, by show ((rchI _ _ : Nat) : Int) = _; rw [rchI, rchI, e1, e2, h9]⟩
end
noncomputable def A25_copyS_c (s : Scf) : Ann := { orc := [], loops := [], cuts := [] }
theorem copyS_c (s : Scf) (h1 : s.nN ≤ 1000) (h2 : s.nM ≤ 4000) : FnA prog 25 [scfD s] [nodesD s] s.nM [fun i => dI (s.K i), fun i => dI (s.A i), fun i => dI (s.B i)] := by
  refine FnA_owed hmix (A25_copyS_c s) (V := VT.need
        [(0 : Nat) ≤ (0 : Nat), ((0 : Nat) + s.nN) * (nat_lit 23 + (1 : Nat)) ≤ (140737488355328 : Nat),
          (0 : Nat) ≤ (0 : Nat), ((0 : Nat) + s.nM) * (nat_lit 23 + (1 : Nat)) ≤ (140737488355328 : Nat)]
        (VT.done
          [(0 : Nat) + s.nN ≤ (0 : Nat) + s.nN, (0 : Nat) + s.nM = s.nM ∧ (0 : Nat) + s.nM ≤ (0 : Nat) + s.nM,
            ∀ (i : Nat), i < s.nM → (if decide (i < (0 : Nat)) = true then (0 : Int) else s.K (i - (0 : Nat))) = s.K i,
            ∀ (i : Nat), i < s.nM → (if decide (i < (0 : Nat)) = true then (0 : Int) else s.A (i - (0 : Nat))) = s.A i,
            ∀ (i : Nat), i < s.nM → (if decide (i < (0 : Nat)) = true then (0 : Int) else s.B (i - (0 : Nat))) = s.B i,
            (0 : Nat) + s.nN = s.nN,
            ∀ (i : Nat), i < s.nN → (if decide (i < (0 : Nat)) = true then (0 : Int) else s.X (i - (0 : Nat))) = s.X i,
            ∀ (i : Nat), i < s.nN → (if decide (i < (0 : Nat)) = true then (0 : Int) else s.Y (i - (0 : Nat))) = s.Y i,
            ∀ (i : Nat), i < s.nN → (if decide (i < (0 : Nat)) = true then (0 : Int) else s.Z (i - (0 : Nat))) = s.Z i])) (by kernel_rfl) ?_
  simp only [VT.holds, AllT, imp_self, implies_true, and_true, true_and, toNat_succ, toNat_add2, toNat_zero', Int.toNat_natCast, Bool.if_true_left, Bool.if_false_right, Bool.decide_eq_true, Bool.or_eq_true, Bool.or_eq_false_iff, Bool.and_eq_true, Bool.and_eq_false_imp, Bool.not_eq_true', Bool.not_eq_false', Bool.not_not, bne_iff_ne, bne_eq_false_iff_eq, beq_iff_eq, beq_eq_false_iff_ne, decide_eq_true_eq, decide_eq_false_iff_not, ne_eq]
  simp only [Nat.not_lt_zero, if_false, Nat.sub_zero, Nat.zero_add]
  exact ⟨⟨Nat.le_refl _, by omega, Nat.le_refl _, by omega⟩, Nat.le_refl _, ⟨trivial, Nat.le_refl _⟩, fun _ _ => trivial, fun _ _ => trivial, fun _ _ => trivial, trivial, fun _ _ => trivial, fun _ _ => trivial, fun _ _ => trivial⟩
noncomputable def A4_monotone_c (s : Scf) (p k a b : Int) : Ann := { orc := [(1, [(0, .res fun _ => dB true)]), (3, [(1, .res fun _ => dB (fewF s)), (5, .res fun _ => dI (chkE s)), (14, .res fun q => dB (decide (aI q 1 ≤ aI q 0 ∧ aI q 0 ≤ aI q 2)))]), (5, [(1, oCpy s)]), (7, [(1, .res fun _ => frD s)]), (8, [(1, .res fun _ => frD (lesS s p))]), (17, [(9, oHas)]), (19, [(1, oCpy s)]), (21, [(1, .res fun _ => dI (chkE (morS s k a b)))]), (23, [(1, .res fun _ => rcD s)]), (24, [(1, .res fun _ => rcD (morS s k a b))]), (30, [(5, oHas)])], loops := [(0, { ι := Nat, keep := [1, 3, 5, 8, 10], boxes := [3, 5], ts := fun _ i => [(12, dI (i : Int))], inv := fun _ i => i ≤ frN s, mu := fun _ i => frN s - i, rd := fun _ σ => (iOf (σ.get 12)).toNat }), (2, { ι := Nat, keep := [15, 17], boxes := [], ts := fun _ i => [(19, dI (i : Int))], inv := fun _ i => i ≤ rchN s, mu := fun _ i => rchN s - i, rd := fun _ σ => (iOf (σ.get 19)).toNat })], cuts := [] }
noncomputable abbrev q_monotone_c_0 (s : Scf) : Bool := decide (s.nN ≤ (40 : Nat) ∧ s.nM ≤ (120 : Nat))
noncomputable abbrev q_monotone_c_1 (p : Int) (s : Scf) : Bool := decide ((0 : Int) ≤ p ∧ p ≤ (↑s.nM : Int) - (1 : Int))
noncomputable abbrev q_monotone_c_2 (i : Nat) (p : Int) : Bool := decide (i < (0 : Nat) + (Int.toNat p - Int.toNat (0 : Int)))
noncomputable abbrev q_monotone_c_3 (s : Scf) : Bool := if (!(q_monotone_c_0 s)) = true then true else chkE s != (0 : Int)
noncomputable abbrev q_monotone_c_4 (s : Scf) (p : Int) : Bool := !if (q_monotone_c_3 s) = true then true else !(q_monotone_c_1 p s)
noncomputable abbrev q_monotone_c_5 (s : Scf) : Bool := !if (!(q_monotone_c_0 s)) = true then true else chkE s != (0 : Int)
noncomputable abbrev monotone_cd0 (s : Scf) : DV := .agg [.lst s.nN [fun i => (dI (s.X i)), fun i => (dI (s.Y i)), fun i => (dI (s.Z i))], .lst s.nM [fun i => (dI (s.K i)), fun i => (dI (s.A i)), fun i => (dI (s.B i))]]
noncomputable abbrev monotone_cd1 (s : Scf) : DV := .lst s.nN [fun i => (dI (s.X i)), fun i => (dI (s.Y i)), fun i => (dI (s.Z i))]
noncomputable abbrev monotone_cr0 (s : Scf) (p : Int) (r : List Prop) : List Prop := (p = p) :: (frN s = frN s) :: (∀ (i : Nat), i < frN s → (↑(flI (frP s) s.nM i) : Int) = (↑(flI (frP s) s.nM i) : Int)) :: (frN (lesS s p) = frN (lesS s p)) :: (∀ (i : Nat), i < frN (lesS s p) → (↑(flI (frP (lesS s p)) (lesS s p).5 i) : Int) = (↑(flI (frP (lesS s p)) (lesS s p).5 i) : Int)) :: (s.nN = s.nN) :: (∀ (i : Nat), i < s.nN → s.X i = s.X i) :: (∀ (i : Nat), i < s.nN → s.Y i = s.Y i) :: (∀ (i : Nat), i < s.nN → s.Z i = s.Z i) :: (s.nM = s.nM) :: (∀ (i : Nat), i < s.nM → s.K i = s.K i) :: (∀ (i : Nat), i < s.nM → s.A i = s.A i) :: (∀ (i : Nat), i < s.nM → s.B i = s.B i) :: r
theorem monotone_c (s : Scf) (p k a b : Int)  : FnC prog 4 [scfD s, dI p, dM k a b] (dB true) := by
  refine FnC_owed hmix (A4_monotone_c s p k a b) (V := .need [FnC prog (15 : Nat) [] ((dB true))] (.ite (!true) (.done [false = true]) (.need [FnC prog (16 : Nat) [(monotone_cd0 s)] ((dB ((q_monotone_c_0 s)))), (!!(q_monotone_c_0 s)) = true → (!!(q_monotone_c_0 s)) = true, (!!(q_monotone_c_0 s)) = true → FnC prog (19 : Nat) [(monotone_cd0 s)] ((dI (chkE s))), (!!(q_monotone_c_0 s)) = true → (!!(q_monotone_c_0 s)) = true, (!(q_monotone_c_0 s)) = false → (!!(q_monotone_c_0 s)) = true, (q_monotone_c_5 s) = true → (q_monotone_c_5 s) = true, (q_monotone_c_5 s) = true → (q_monotone_c_5 s) = true, (q_monotone_c_5 s) = true → (q_monotone_c_5 s) = true, (q_monotone_c_5 s) = true → i64In ((↑s.nM : Int) - (1 : Int)), (q_monotone_c_5 s) = true → (q_monotone_c_5 s) = true, (q_monotone_c_5 s) = true → (q_monotone_c_5 s) = true, (q_monotone_c_5 s) = true → FnC prog (24 : Nat) [(dI p), (dI (0 : Int)), (dI ((↑s.nM : Int) - (1 : Int)))] ((dB ((q_monotone_c_1 p s)))), (q_monotone_c_5 s) = true → (q_monotone_c_5 s) = true, (q_monotone_c_3 s) = false → (q_monotone_c_5 s) = true, (q_monotone_c_4 s p) = true → (q_monotone_c_4 s p) = true, (q_monotone_c_4 s p) = true → (q_monotone_c_4 s p) = true, (q_monotone_c_4 s p) = true → (q_monotone_c_4 s p) = true, (q_monotone_c_4 s p) = true → (0 : Int) ≤ p ∧ p < (↑s.nM : Int), (q_monotone_c_4 s p) = true → (q_monotone_c_4 s p) = true, (q_monotone_c_4 s p) = true → (q_monotone_c_4 s p) = true, (q_monotone_c_4 s p) = true → (q_monotone_c_4 s p) = true, (if (q_monotone_c_3 s) = true then true else !(q_monotone_c_1 p s)) = false → (q_monotone_c_4 s p) = true] (.ite (if (if (q_monotone_c_3 s) = true then true else !(q_monotone_c_1 p s)) = true then true else s.K (Int.toNat p) != (0 : Int)) (.done [true = true]) (.need [FnA prog (25 : Nat) [(monotone_cd0 s)] [(monotone_cd1 s)] s.nM [fun i => (dI (s.K i)), fun i => (dI (s.A i)), fun i => (dI (s.B i))]] (.need [(0 : Int) ≤ (0 : Int) ∧ (0 : Int) ≤ p ∧ p ≤ (↑s.nM : Int), (0 : Nat) ≤ (0 : Nat), ((0 : Nat) + (Int.toNat p - Int.toNat (0 : Int))) * (nat_lit 23 + (1
     : Nat)) ≤ (140737488355328 : Nat), i64In (p + (1 : Int)), (0 : Int) ≤ p + (1 : Int) ∧ p + (1 : Int) ≤ (↑s.nM : Int) ∧ (↑s.nM : Int) ≤ (↑s.nM : Int), (0 : Nat) + (Int.toNat p - Int.toNat (0 : Int)) ≤ (0 : Nat) + (Int.toNat p - Int.toNat (0 : Int)), ((0 : Nat) + (Int.toNat p - Int.toNat (0 : Int)) + (Int.toNat (↑s.nM : Int) - Int.toNat (p + (1 : Int)))) * (nat_lit 23 + (1 : Nat)) ≤ (140737488355328 : Nat)] (.need [FnC prog (26 : Nat) [(monotone_cd0 s)] (.tup [.lst (frN s) [fun j => (dI (↑(flI (frP s) s.nM j) : Int))], (dI (chkE s))])] (.need [(0 : Nat) + (Int.toNat p - Int.toNat (0 : Int)) + (Int.toNat (↑s.nM : Int) - Int.toNat (p + (1 : Int))) ≤ (0 : Nat) + (Int.toNat p - Int.toNat (0 : Int)) + (Int.toNat (↑s.nM : Int) - Int.toNat (p + (1 : Int))), FnC prog (26 : Nat) [.agg [(monotone_cd1 s), .lst ((0 : Nat) + (Int.toNat p - Int.toNat (0 : Int)) + (Int.toNat (↑s.nM : Int) - Int.toNat (p + (1 : Int)))) [fun i => (dI (if (q_monotone_c_2 i p) = true then if decide (i < (0 : Nat)) = true then (0 : Int) else s.K (i - (0 : Nat) + Int.toNat (0 : Int)) else s.K (i - ((0 : Nat) + (Int.toNat p - Int.toNat (0 : Int))) + Int.toNat (p + (1 : Int))))), fun i => (dI (if (q_monotone_c_2 i p) = true then if decide (i < (0 : Nat)) = true then (0 : Int) else s.A (i - (0 : Nat) + Int.toNat (0 : Int)) else s.A (i - ((0 : Nat) + (Int.toNat p - Int.toNat (0 : Int))) + Int.toNat (p + (1 : Int))))), fun i => (dI (if (q_monotone_c_2 i p) = true then if decide (i < (0 : Nat)) = true then (0 : Int) else s.B (i - (0 : Nat) + Int.toNat (0 : Int)) else s.B (i - ((0 : Nat) + (Int.toNat p - Int.toNat (0 : Int))) + Int.toNat (p + (1 : Int)))))]]] (.tup [.lst (frN (lesS s p)) [fun j => (dI (↑(flI (frP (lesS s p)) (lesS s p).5 j) : Int))], (dI (chkE (lesS s p)))])] (.need [(!chkE s != (0 : Int)) = true → (!chkE s != (0 : Int)) = true, (chkE s != (0 : Int)) = false → (!chkE s != (0 : Int)) = true] (.ite (if (chkE s != (0 : Int)) = true then true else chkE (lesS s p) != (0 : Int)) (.done [false = true])
     (.loop Nat (fun a => a ≤ frN s) (Int.toNat (0 : Int)) (((0 : Int) = (↑(Int.toNat (0 : Int)) : Int)) :: (monotone_cr0 s p [k = k, a = a, b = b])) fun i => .ite (decide ((↑i : Int) < (↑(frN s) : Int))) (.need [(0 : Int) ≤ (↑i : Int) ∧ (↑i : Int) < (↑(frN s) : Int)] (.ite (decide ((↑(flI (frP s) s.nM (Int.toNat (↑i : Int))) : Int) > p)) (.need [i64In ((↑(flI (frP s) s.nM (Int.toNat (↑i : Int))) : Int) - (1 : Int))] (.need [(0 : Int) ≤ (↑i : Int) ∧ (↑i : Int) < (↑(frN s) : Int), ((↑(flI (frP s) s.nM (Int.toNat (↑i : Int))) : Int) != p) = true → ((↑(flI (frP s) s.nM (Int.toNat (↑i : Int))) : Int) != p) = true, ((↑(flI (frP s) s.nM (Int.toNat (↑i : Int))) : Int) != p) = true → ((↑(flI (frP s) s.nM (Int.toNat (↑i : Int))) : Int) != p) = true, ((↑(flI (frP s) s.nM (Int.toNat (↑i : Int))) : Int) != p) = true → FnC prog (27 : Nat) [.lst (frN (lesS s p)) [fun j => (dI (↑(flI (frP (lesS s p)) (lesS s p).5 j) : Int))], (dI ((↑(flI (frP s) s.nM (Int.toNat (↑i : Int))) : Int) - (1 : Int)))] ((dB (hasN (fun j => (↑(flI (frP (lesS s p)) (lesS s p).5 j) : Int)) ((↑(flI (frP s) s.nM (Int.toNat (↑i : Int))) : Int) - (1 : Int)) (frN (lesS s p))))), ((↑(flI (frP s) s.nM (Int.toNat (↑i : Int))) : Int) != p) = true → ((↑(flI (frP s) s.nM (Int.toNat (↑i : Int))) : Int) != p) = true, ((↑(flI (frP s) s.nM (Int.toNat (↑i : Int))) : Int) != p) = true → ((↑(flI (frP s) s.nM (Int.toNat (↑i : Int))) : Int) != p) = true] (.ite (if ((↑(flI (frP s) s.nM (Int.toNat (↑i : Int))) : Int) != p) = true then !hasN (fun j => (↑(flI (frP (lesS s p)) (lesS s p).5 j) : Int)) ((↑(flI (frP s) s.nM (Int.toNat (↑i : Int))) : Int) - (1 : Int)) (frN (lesS s p)) else false) (.done [false = true]) (.need [i64In ((↑i : Int) + (1 : Int))] (.done (((↑i : Int) + (1 : Int) = (↑(Int.toNat ((↑i : Int) + (1 : Int))) : Int)) :: (monotone_cr0 s p [k = k, a = a, b = b, Int.toNat ((↑i : Int) + (1 : Int)) ≤ frN s, frN s - Int.toNat ((↑i : Int) + (1 : Int)) < frN s - i]))))))) (.need [(0 : Int) ≤ (↑i : Int) ∧ (↑i : Int) < (↑(frN s)
     : Int), ((↑(flI (frP s) s.nM (Int.toNat (↑i : Int))) : Int) != p) = true → ((↑(flI (frP s) s.nM (Int.toNat (↑i : Int))) : Int) != p) = true, ((↑(flI (frP s) s.nM (Int.toNat (↑i : Int))) : Int) != p) = true → ((↑(flI (frP s) s.nM (Int.toNat (↑i : Int))) : Int) != p) = true, ((↑(flI (frP s) s.nM (Int.toNat (↑i : Int))) : Int) != p) = true → FnC prog (27 : Nat) [.lst (frN (lesS s p)) [fun j => (dI (↑(flI (frP (lesS s p)) (lesS s p).5 j) : Int))], (dI (↑(flI (frP s) s.nM (Int.toNat (↑i : Int))) : Int))] ((dB (hasN (fun j => (↑(flI (frP (lesS s p)) (lesS s p).5 j) : Int)) (↑(flI (frP s) s.nM (Int.toNat (↑i : Int))) : Int) (frN (lesS s p))))), ((↑(flI (frP s) s.nM (Int.toNat (↑i : Int))) : Int) != p) = true → ((↑(flI (frP s) s.nM (Int.toNat (↑i : Int))) : Int) != p) = true, ((↑(flI (frP s) s.nM (Int.toNat (↑i : Int))) : Int) != p) = true → ((↑(flI (frP s) s.nM (Int.toNat (↑i : Int))) : Int) != p) = true] (.ite (if ((↑(flI (frP s) s.nM (Int.toNat (↑i : Int))) : Int) != p) = true then !hasN (fun j => (↑(flI (frP (lesS s p)) (lesS s p).5 j) : Int)) (↑(flI (frP s) s.nM (Int.toNat (↑i : Int))) : Int) (frN (lesS s p)) else false) (.done [false = true]) (.need [i64In ((↑i : Int) + (1 : Int))] (.done (((↑i : Int) + (1 : Int) = (↑(Int.toNat ((↑i : Int) + (1 : Int))) : Int)) :: (monotone_cr0 s p [k = k, a = a, b = b, Int.toNat ((↑i : Int) + (1 : Int)) ≤ frN s, frN s - Int.toNat ((↑i : Int) + (1 : Int)) < frN s - i])))))))) (.need [FnA prog (25 : Nat) [(monotone_cd0 s)] [(monotone_cd1 s)] s.nM [fun i => (dI (s.K i)), fun i => (dI (s.A i)), fun i => (dI (s.B i))]] (.need [s.nM ≤ s.nM, (s.nM + (1 : Nat)) * (nat_lit 23 + (1 : Nat)) ≤ (140737488355328 : Nat), (1 : Nat) ≤ (1 : Nat)] (.need [s.nM + (1 : Nat) ≤ s.nM + (1 : Nat), FnC prog (19 : Nat) [.agg [(monotone_cd1 s), .lst (s.nM + (1 : Nat)) [fun i => (dI (if decide (i < s.nM) = true then s.K i else k)), fun i => (dI (if decide (i < s.nM) = true then s.A i else a)), fun i => (dI (if decide (i < s.nM) = true then s.B i else b))]]]
     ((dI (chkE (morS s k a b))))] (.ite (chkE (morS s k a b) != (0 : Int)) (.done [true = true]) (.need [FnC prog (17 : Nat) [(monotone_cd0 s)] (.tup [.lst (rchN s) [fun j => (dI (↑(rchI s j) : Int))], (dI (chkE s))])] (.need [s.nM + (1 : Nat) ≤ s.nM + (1 : Nat), FnC prog (17 : Nat) [.agg [(monotone_cd1 s), .lst (s.nM + (1 : Nat)) [fun i => (dI (if decide (i < s.nM) = true then s.K i else k)), fun i => (dI (if decide (i < s.nM) = true then s.A i else a)), fun i => (dI (if decide (i < s.nM) = true then s.B i else b))]]] (.tup [.lst (rchN (morS s k a b)) [fun j => (dI (↑(rchI (morS s k a b) j) : Int))], (dI (chkE (morS s k a b)))])] (.need [(!chkE s != (0 : Int)) = true → (!chkE s != (0 : Int)) = true, (chkE s != (0 : Int)) = false → (!chkE s != (0 : Int)) = true] (.ite (if (chkE s != (0 : Int)) = true then true else chkE (morS s k a b) != (0 : Int)) (.done [false = true]) (.loop Nat (fun a => a ≤ rchN s) (Int.toNat (0 : Int)) [(0 : Int) = (↑(Int.toNat (0 : Int)) : Int), rchN s = rchN s, ∀ (i : Nat), i < rchN s → (↑(rchI s i) : Int) = (↑(rchI s i) : Int), rchN (morS s k a b) = rchN (morS s k a b), ∀ (i : Nat), i < rchN (morS s k a b) → (↑(rchI (morS s k a b) i) : Int) = (↑(rchI (morS s k a b) i) : Int)] fun i => .ite (decide ((↑i : Int) < (↑(rchN s) : Int))) (.need [(0 : Int) ≤ (↑i : Int) ∧ (↑i : Int) < (↑(rchN s) : Int), FnC prog (27 : Nat) [.lst (rchN (morS s k a b)) [fun j => (dI (↑(rchI (morS s k a b) j) : Int))], (dI (↑(rchI s (Int.toNat (↑i : Int))) : Int))] ((dB (hasN (fun j => (↑(rchI (morS s k a b) j) : Int)) (↑(rchI s (Int.toNat (↑i : Int))) : Int) (rchN (morS s k a b)))))] (.ite (!hasN (fun j => (↑(rchI (morS s k a b) j) : Int)) (↑(rchI s (Int.toNat (↑i : Int))) : Int) (rchN (morS s k a b))) (.done [false = true]) (.need [i64In ((↑i : Int) + (1 : Int))] (.done [(↑i : Int) + (1 : Int) = (↑(Int.toNat ((↑i : Int) + (1 : Int))) : Int), rchN s = rchN s, ∀ (i : Nat), i < rchN s → (↑(rchI s i) : Int) = (↑(rchI s i) : Int), rchN (morS s k a b) = rchN (morS s k a b), ∀
     (i : Nat), i < rchN (morS s k a b) → (↑(rchI (morS s k a b) i) : Int) = (↑(rchI (morS s k a b) i) : Int), Int.toNat ((↑i : Int) + (1 : Int)) ≤ rchN s, rchN s - Int.toNat ((↑i : Int) + (1 : Int)) < rchN s - i])))) (.done [true = true]))))))))))))))))))))) (by kernel_rfl) ?_
  simp only [q_monotone_c_0, q_monotone_c_1, q_monotone_c_2, q_monotone_c_3, q_monotone_c_4, q_monotone_c_5, VT.holds, AllT, imp_self, implies_true, and_true, true_and, toNat_succ, toNat_add2, toNat_zero', Int.toNat_natCast, Bool.if_true_left, Bool.if_false_right, Bool.decide_eq_true, Bool.or_eq_true, Bool.or_eq_false_iff, Bool.and_eq_true, Bool.and_eq_false_imp, Bool.not_eq_true', Bool.not_eq_false', Bool.not_not, bne_iff_ne, bne_eq_false_iff_eq, beq_iff_eq, beq_eq_false_iff_ne, decide_eq_true_eq, decide_eq_false_iff_not, ne_eq]
  refine ⟨awake_c, fun h => (by cases h), fun _ => ⟨⟨few_c s, fun _ => check_c s, fun h => by unfold i64In; omega, fun _ => within3_c _ _ _, fun h => by omega⟩, fun ⟨h, hk⟩ => ?_⟩⟩
  have h0 : chkE s = 0 := by
    cases e : decide (chkE s = 0) with
    | true => exact of_decide_eq_true e
    | false => exact absurd (.inl (.inr (of_decide_eq_false e))) h
  have hp : 0 ≤ p ∧ p < s.nM := by omega
  have hc := chk_facts h0
  have hm := hc.nM
  have hl := les_ok hc hp
  have hl0 := chk_of hl
  have eL : ([DV.agg [nodesD s, DV.lst (0 + (p.toNat - 0) + (s.nM - (p + 1).toNat)) [fun i => dI (if i < 0 + (p.toNat - 0) then if i < 0 then 0 else s.K (i - 0 + 0) else s.K (i - (0 + (p.toNat - 0)) + (p + 1).toNat)), fun i => dI (if i < 0 + (p.toNat - 0) then if i < 0 then 0 else s.A (i - 0 + 0) else s.A (i - (0 + (p.toNat - 0)) + (p + 1).toNat)), fun i => dI (if i < 0 + (p.toNat - 0) then if i < 0 then 0 else s.B (i - 0 + 0) else s.B (i - (0 + (p.toNat - 0)) + (p + 1).toNat))]]] : List DV) = [scfD (lesS s p)] := by
    simp only [Nat.not_lt_zero, if_false, Nat.sub_zero, Nat.zero_add, Nat.add_zero]
    rfl
  have hcp := copyS_c s hc.nN hm
  refine ⟨hcp, ⟨by omega, by omega, by omega, by unfold i64In; omega, by omega, by omega, by omega⟩, Free_c s, ⟨Nat.le_refl _, by rw [eL]; exact Free_c (lesS s p)⟩, fun h => ?_, fun _ => ⟨rfl, Nat.zero_le _, fun i hi => ⟨fun hlt => ?_, fun hge => ?_⟩⟩⟩
  · rcases h with h | h
    · exact absurd h0 h
    · exact absurd hl0 h
  · have hlt : i < frN s := by omega
    have e1 : frN s = flN (frP s) s.nM := by rw [frN, if_pos h0]
    obtain ⟨f1, f2⟩ := flI_in (p := frP s) (n := s.nM) (j := i) (by omega)
    have hle := flN_le (frP (lesS s p)) (lesS s p).nM
    have e2 : frN (lesS s p) = flN (frP (lesS s p)) (lesS s p).nM := by rw [frN, if_pos hl0]
    have hln := hl.nM
    generalize hg : flI (frP s) s.nM i = q at f1 f2
    have hfi := flN_le (frP s) s.nM
    refine ⟨by omega, fun hgt => ⟨by unfold i64In; omega, ⟨by omega, fun _ => has_i _ _ _ (by omega)⟩, fun ⟨_, h⟩ => ?_, fun _ => ⟨by unfold i64In; omega, by omega, by omega, by omega⟩⟩, fun hngt => ⟨⟨by omega, fun _ => has_i _ _ _ (by omega)⟩, fun ⟨hne, h⟩ => ?_, fun _ => ⟨by unfold i64In; omega, by omega, by omega, by omega⟩⟩⟩
    · have := les_has hc hp f1 f2 (k := q - 1) (by rw [if_neg (by omega)]; omega)
      rw [show ((q - 1 : Nat) : Int) = (q : Int) - 1 by omega, h] at this
      exact this
    · have := les_has hc hp f1 f2 (k := q) (by rw [if_pos (by omega)])
      rw [h] at this
      exact this
  · refine ⟨hcp, ⟨Nat.le_refl _, by omega, Nat.le_refl _⟩, ⟨Nat.le_refl _, check_c (morS s k a b)⟩, fun hm0 => ⟨Reached_c s, ⟨Nat.le_refl _, Reached_c (morS s k a b)⟩, fun h => ?_, fun _ => ⟨rfl, Nat.zero_le _, fun i hi hlt => ?_⟩⟩⟩
    · rcases h with h | h
      · exact absurd h0 h
      · exact absurd hm0 h
    · have hlt : i < rchN s := by omega
      have := mor_has (k := k) (a := a) (b := b) h0 hm0 hlt
      have e1 : rchN s ≤ s.nM := by rw [rchN, if_pos h0]; exact flN_le _ _
      have e2 : rchN (morS s k a b) ≤ s.nM + 1 := by rw [rchN, if_pos hm0]; exact flN_le _ _
      refine ⟨⟨by omega, has_i _ _ _ (by omega)⟩, fun h => ?_, fun _ => ⟨by unfold i64In; omega, by omega, by omega, by omega⟩⟩
      rw [h] at this; exact this
end Go.Abs
