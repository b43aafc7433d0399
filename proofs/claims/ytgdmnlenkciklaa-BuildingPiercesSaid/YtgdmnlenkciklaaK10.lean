/- Contracts. -/
import Derived.Test.YtgdmnlenkciklaaK9
set_option linter.unusedVariables false
set_option linter.unusedSimpArgs false
set_option maxRecDepth 100000
namespace Go.Abs
open Go
/-- The parts of the way between which a number is in a range, for one axis: numerators and a denominator. -/
def sD (a b : Int) : Int := if a = b then 1 else if b < a then a - b else b - a
def sL (a b l h : Int) : Int := if a = b then -1 else if b < a then a - h else l - a
def sU (a b l h : Int) : Int := if a = b then 2 else if b < a then a - l else h - a
def sOk (a b l h : Int) : Bool := decide (a ≠ b ∨ (l < a ∧ a < h))
def prs (P Q R S T U D : Int) : Bool := decide (P < Q ∧ P < S ∧ P < U ∧ R < Q ∧ R < S ∧ R < U ∧ T < Q ∧ T < S ∧ T < U ∧ P < D ∧ R < D ∧ T < D ∧ 0 < Q ∧ 0 < S ∧ 0 < U)
/-- The line from a to b has a point inside of a box. -/
def pier (u1 u2 u3 v1 v2 v3 a1 a2 a3 b1 b2 b3 : Int) : Bool := sOk a1 b1 u1 v1 && sOk a2 b2 u2 v2 && sOk a3 b3 u3 v3 &&
  prs (sL a1 b1 u1 v1 * (sD a2 b2 * sD a3 b3)) (sU a1 b1 u1 v1 * (sD a2 b2 * sD a3 b3)) (sL a2 b2 u2 v2 * (sD a1 b1 * sD a3 b3)) (sU a2 b2 u2 v2 * (sD a1 b1 * sD a3 b3)) (sL a3 b3 u3 v3 * (sD a1 b1 * sD a2 b2)) (sU a3 b3 u3 v3 * (sD a1 b1 * sD a2 b2)) (sD a1 b1 * (sD a2 b2 * sD a3 b3))
theorem sD_pos (a b : Int) : 0 < sD a b := by unfold sD; grind
theorem lt_sc {n d c n' d' c' K : Int} (hd : d * c = K) (hd' : d' * c' = K) (hc : 0 < c) (hc' : 0 < c') (hK : 0 < K) : n * d' < n' * d ↔ n * c < n' * c' := by
  have h0 : 0 < c * c' := Int.mul_pos hc hc'
  have e1 : n * d' * (c * c') = n * c * K := by rw [← hd']; simp only [Int.mul_comm, Int.mul_left_comm, Int.mul_assoc]
  have e2 : n' * d * (c * c') = n' * c' * K := by rw [← hd]; simp only [Int.mul_comm, Int.mul_left_comm, Int.mul_assoc]
  constructor
  · intro h
    have := Int.mul_lt_mul_of_pos_right h h0
    rw [e1, e2] at this
    exact Int.lt_of_mul_lt_mul_right this (Int.le_of_lt hK)
  · intro h
    have := Int.mul_lt_mul_of_pos_right h hK
    rw [← e1, ← e2] at this
    exact Int.lt_of_mul_lt_mul_right this (Int.le_of_lt h0)
theorem sD_swap (a b : Int) : sD b a = sD a b := by unfold sD; grind
theorem sL_swap (a b l h : Int) : sL b a l h = sD a b - sU a b l h := by unfold sL sU sD; grind
theorem sU_swap (a b l h : Int) : sU b a l h = sD a b - sL a b l h := by unfold sL sU sD; grind
theorem sOk_swap (a b l h : Int) : sOk b a l h = sOk a b l h := by unfold sOk; grind
theorem prs_swap (P Q R S T U D : Int) : prs (D - Q) (D - P) (D - S) (D - R) (D - U) (D - T) D = prs P Q R S T U D := by
  unfold prs
  rw [decide_eq_decide]
  omega
theorem pier_swap (u1 u2 u3 v1 v2 v3 a1 a2 a3 b1 b2 b3 : Int) : pier u1 u2 u3 v1 v2 v3 b1 b2 b3 a1 a2 a3 = pier u1 u2 u3 v1 v2 v3 a1 a2 a3 b1 b2 b3 := by
  unfold pier
  rw [sD_swap a1 b1, sD_swap a2 b2, sD_swap a3 b3, sL_swap a1, sL_swap a2, sL_swap a3, sU_swap a1, sU_swap a2, sU_swap a3, sOk_swap a1, sOk_swap a2, sOk_swap a3]
  have e2 : sD a1 b1 * (sD a2 b2 * sD a3 b3) = sD a2 b2 * (sD a1 b1 * sD a3 b3) := by simp only [Int.mul_comm, Int.mul_left_comm, Int.mul_assoc]
  have e3 : sD a1 b1 * (sD a2 b2 * sD a3 b3) = sD a3 b3 * (sD a1 b1 * sD a2 b2) := by simp only [Int.mul_comm, Int.mul_left_comm, Int.mul_assoc]
  rw [Int.sub_mul, Int.sub_mul, Int.sub_mul, Int.sub_mul, Int.sub_mul, Int.sub_mul, ← e2, ← e3, prs_swap]
/-- The greatest begin and the least end of the parts for the first axes. -/
def lw (A B L H : Nat → Int) : Nat → Int × Int
  | 0 => (0, 1)
  | i + 1 => if A i = B i then lw A B L H i else if (lw A B L H i).1 * sD (A i) (B i) < sL (A i) (B i) (L i) (H i) * (lw A B L H i).2 then (sL (A i) (B i) (L i) (H i), sD (A i) (B i)) else lw A B L H i
def hg (A B L H : Nat → Int) : Nat → Int × Int
  | 0 => (1, 1)
  | i + 1 => if A i = B i then hg A B L H i else if sU (A i) (B i) (L i) (H i) * (hg A B L H i).2 < (hg A B L H i).1 * sD (A i) (B i) then (sU (A i) (B i) (L i) (H i), sD (A i) (B i)) else hg A B L H i
def Rep (K : Int) (q : Int × Int) (v : Int) : Prop := ∃ c, 0 < c ∧ q.2 * c = K ∧ q.1 * c = v
theorem Rep.lt {K : Int} (hK : 0 < K) {q r : Int × Int} {v w : Int} (h : Rep K q v) (h' : Rep K r w) : q.1 * r.2 < r.1 * q.2 ↔ v < w := by
  obtain ⟨c, hc, h1, rfl⟩ := h
  obtain ⟨c', hc', h1', rfl⟩ := h'
  exact lt_sc h1 h1' hc hc' hK
theorem Rep.maxR {K : Int} (hK : 0 < K) {q r : Int × Int} {v w : Int} (h : Rep K q v) (h' : Rep K r w) (hl : q.1 * r.2 < r.1 * q.2) : Rep K r (max v w) := by
  have := (Rep.lt hK h h').1 hl
  rw [show max v w = w by omega]; exact h'
theorem Rep.maxL {K : Int} (hK : 0 < K) {q r : Int × Int} {v w : Int} (h : Rep K q v) (h' : Rep K r w) (hl : ¬ q.1 * r.2 < r.1 * q.2) : Rep K q (max v w) := by
  have : ¬ v < w := fun hx => hl ((Rep.lt hK h h').2 hx)
  rw [show max v w = v by omega]; exact h
theorem Rep.minR {K : Int} (hK : 0 < K) {q r : Int × Int} {v w : Int} (h : Rep K q v) (h' : Rep K r w) (hl : r.1 * q.2 < q.1 * r.2) : Rep K r (min v w) := by
  have := (Rep.lt hK h' h).1 hl
  rw [show min v w = w by omega]; exact h'
theorem Rep.minL {K : Int} (hK : 0 < K) {q r : Int × Int} {v w : Int} (h : Rep K q v) (h' : Rep K r w) (hl : ¬ r.1 * q.2 < q.1 * r.2) : Rep K q (min v w) := by
  have : ¬ w < v := fun hx => hl ((Rep.lt hK h' h).2 hx)
  rw [show min v w = v by omega]; exact h
theorem lw_rep {A B L H : Nat → Int} {K : Int} (hK : 0 < K) {i : Nat} {v w : Int} (h : Rep K (lw A B L H i) v) (hi : Rep K (sL (A i) (B i) (L i) (H i), sD (A i) (B i)) w) : Rep K (lw A B L H (i + 1)) (if A i = B i then v else max v w) := by
  simp only [lw]
  by_cases e : A i = B i
  · rw [if_pos e, if_pos e]; exact h
  · rw [if_neg e, if_neg e]
    have := Rep.lt hK h hi
    simp only at this
    split
    · rw [show max v w = w by omega]; exact hi
    · rw [show max v w = v by omega]; exact h
theorem hg_rep {A B L H : Nat → Int} {K : Int} (hK : 0 < K) {i : Nat} {v w : Int} (h : Rep K (hg A B L H i) v) (hi : Rep K (sU (A i) (B i) (L i) (H i), sD (A i) (B i)) w) : Rep K (hg A B L H (i + 1)) (if A i = B i then v else min v w) := by
  simp only [hg]
  by_cases e : A i = B i
  · rw [if_pos e, if_pos e]; exact h
  · rw [if_neg e, if_neg e]
    have := Rep.lt hK hi h
    simp only at this
    split
    · rw [show min v w = w by omega]; exact hi
    · rw [show min v w = v by omega]; exact h
/-- The way of the program says the same. -/
theorem pier_walk (A B L H : Nat → Int) : (sOk (A 0) (B 0) (L 0) (H 0) && sOk (A 1) (B 1) (L 1) (H 1) && sOk (A 2) (B 2) (L 2) (H 2) && decide ((lw A B L H 3).1 * (hg A B L H 3).2 < (hg A B L H 3).1 * (lw A B L H 3).2)) =
    pier (L 0) (L 1) (L 2) (H 0) (H 1) (H 2) (A 0) (A 1) (A 2) (B 0) (B 1) (B 2) := by
  have p0 := sD_pos (A 0) (B 0)
  have p1 := sD_pos (A 1) (B 1)
  have p2 := sD_pos (A 2) (B 2)
  have c0 : 0 < sD (A 1) (B 1) * sD (A 2) (B 2) := Int.mul_pos p1 p2
  have c1 : 0 < sD (A 0) (B 0) * sD (A 2) (B 2) := Int.mul_pos p0 p2
  have c2 : 0 < sD (A 0) (B 0) * sD (A 1) (B 1) := Int.mul_pos p0 p1
  have hK : 0 < sD (A 0) (B 0) * (sD (A 1) (B 1) * sD (A 2) (B 2)) := Int.mul_pos p0 c0
  have e1 : sD (A 1) (B 1) * (sD (A 0) (B 0) * sD (A 2) (B 2)) = sD (A 0) (B 0) * (sD (A 1) (B 1) * sD (A 2) (B 2)) := by simp only [Int.mul_comm, Int.mul_left_comm, Int.mul_assoc]
  have e2 : sD (A 2) (B 2) * (sD (A 0) (B 0) * sD (A 1) (B 1)) = sD (A 0) (B 0) * (sD (A 1) (B 1) * sD (A 2) (B 2)) := by simp only [Int.mul_comm, Int.mul_left_comm, Int.mul_assoc]
  have l0 := lw_rep (L := L) (H := H) hK (i := 0) (⟨_, hK, by simp [lw], by simp [lw]⟩ : Rep _ (lw A B L H 0) 0) ⟨_, c0, rfl, rfl⟩
  have l1 := lw_rep hK l0 ⟨_, c1, e1, rfl⟩
  have l2 := lw_rep hK l1 ⟨_, c2, e2, rfl⟩
  have h0 := hg_rep (L := L) (H := H) hK (i := 0) (⟨_, hK, by simp [hg], by simp [hg]; rfl⟩ : Rep _ (hg A B L H 0) _) ⟨_, c0, rfl, rfl⟩
  have h1 := hg_rep hK h0 ⟨_, c1, e1, rfl⟩
  have h2 := hg_rep hK h1 ⟨_, c2, e2, rfl⟩
  have key := Rep.lt hK l2 h2
  have d0 : A 0 = B 0 → sL (A 0) (B 0) (L 0) (H 0) = -1 ∧ sU (A 0) (B 0) (L 0) (H 0) = 2 ∧ sD (A 0) (B 0) = 1 := fun h => by simp [sL, sU, sD, h]
  have d1 : A 1 = B 1 → sL (A 1) (B 1) (L 1) (H 1) = -1 ∧ sU (A 1) (B 1) (L 1) (H 1) = 2 ∧ sD (A 1) (B 1) = 1 := fun h => by simp [sL, sU, sD, h]
  have d2 : A 2 = B 2 → sL (A 2) (B 2) (L 2) (H 2) = -1 ∧ sU (A 2) (B 2) (L 2) (H 2) = 2 ∧ sD (A 2) (B 2) = 1 := fun h => by simp [sL, sU, sD, h]
  have q0 : A 0 = B 0 → sL (A 0) (B 0) (L 0) (H 0) * (sD (A 1) (B 1) * sD (A 2) (B 2)) = - (sD (A 0) (B 0) * (sD (A 1) (B 1) * sD (A 2) (B 2))) ∧ sU (A 0) (B 0) (L 0) (H 0) * (sD (A 1) (B 1) * sD (A 2) (B 2)) = 2 * (sD (A 0) (B 0) * (sD (A 1) (B 1) * sD (A 2) (B 2))) := fun h => by
    rw [(d0 h).1, (d0 h).2.1, (d0 h).2.2]; omega
  have q1 : A 1 = B 1 → sL (A 1) (B 1) (L 1) (H 1) * (sD (A 0) (B 0) * sD (A 2) (B 2)) = - (sD (A 0) (B 0) * (sD (A 1) (B 1) * sD (A 2) (B 2))) ∧ sU (A 1) (B 1) (L 1) (H 1) * (sD (A 0) (B 0) * sD (A 2) (B 2)) = 2 * (sD (A 0) (B 0) * (sD (A 1) (B 1) * sD (A 2) (B 2))) := fun h => by
    rw [← e1, (d1 h).1, (d1 h).2.1, (d1 h).2.2]; omega
  have q2 : A 2 = B 2 → sL (A 2) (B 2) (L 2) (H 2) * (sD (A 0) (B 0) * sD (A 1) (B 1)) = - (sD (A 0) (B 0) * (sD (A 1) (B 1) * sD (A 2) (B 2))) ∧ sU (A 2) (B 2) (L 2) (H 2) * (sD (A 0) (B 0) * sD (A 1) (B 1)) = 2 * (sD (A 0) (B 0) * (sD (A 1) (B 1) * sD (A 2) (B 2))) := fun h => by
    rw [← e2, (d2 h).1, (d2 h).2.1, (d2 h).2.2]; omega
  unfold pier
  congr 1
  unfold prs
  rw [decide_eq_decide, key]
  generalize sL (A 0) (B 0) (L 0) (H 0) * (sD (A 1) (B 1) * sD (A 2) (B 2)) = P at *
  generalize sU (A 0) (B 0) (L 0) (H 0) * (sD (A 1) (B 1) * sD (A 2) (B 2)) = Q at *
  generalize sL (A 1) (B 1) (L 1) (H 1) * (sD (A 0) (B 0) * sD (A 2) (B 2)) = R at *
  generalize sU (A 1) (B 1) (L 1) (H 1) * (sD (A 0) (B 0) * sD (A 2) (B 2)) = S at *
  generalize sL (A 2) (B 2) (L 2) (H 2) * (sD (A 0) (B 0) * sD (A 1) (B 1)) = T at *
  generalize sU (A 2) (B 2) (L 2) (H 2) * (sD (A 0) (B 0) * sD (A 1) (B 1)) = U at *
  generalize sD (A 0) (B 0) * (sD (A 1) (B 1) * sD (A 2) (B 2)) = K at *
  clear l0 l1 l2 h0 h1 h2 key d0 d1 d2 c0 c1 c2 p0 p1 p2
  by_cases z0 : A 0 = B 0 <;> by_cases z1 : A 1 = B 1 <;> by_cases z2 : A 2 = B 2 <;> simp only [z0, z1, z2, if_true, if_false, true_implies, false_implies] at q0 q1 q2 ⊢ <;> omega
abbrev nd (x y z : Int) : DV := .val (.agg #[.int .i64 x, .int .i64 y, .int .i64 z])
def nE (x y z : Int) : Int := if inF x = true ∧ inF y = true ∧ inF z = true then 0 else 2
def three (a b c : Int) (j : Nat) : Int := [a, b, c].getD j 0
def erP (u1 u2 u3 v1 v2 v3 a1 a2 a3 b1 b2 b3 : Int) : Int := if ckB u1 u2 u3 v1 v2 v3 ≠ 0 then ckB u1 u2 u3 v1 v2 v3 else if nE a1 a2 a3 ≠ 0 then nE a1 a2 a3 else nE b1 b2 b3
def isP (u1 u2 u3 v1 v2 v3 a1 a2 a3 b1 b2 b3 : Int) : Bool := decide (erP u1 u2 u3 v1 v2 v3 a1 a2 a3 b1 b2 b3 = 0) && pier u1 u2 u3 v1 v2 v3 a1 a2 a3 b1 b2 b3
def rLess : Orc := .res fun l => dB (decide (fI 0 (arg l 0) * fI 1 (arg l 1) < fI 0 (arg l 1) * fI 1 (arg l 0)))
def rRat : Orc := .res fun l => dP (if aI l 1 < 0 then -(aI l 0) else aI l 0) (if aI l 1 < 0 then -(aI l 1) else aI l 1)
def rNdE : Orc := .res fun l => dI (nE (fI 0 (arg l 0)) (fI 1 (arg l 0)) (fI 2 (arg l 0)))
def rSlab : Orc := .res fun l => .tup [dP (sL (aI l 0) (aI l 1) (aI l 2) (aI l 3)) (sD (aI l 0) (aI l 1)), dP (sU (aI l 0) (aI l 1) (aI l 2) (aI l 3)) (sD (aI l 0) (aI l 1)), dB (sOk (aI l 0) (aI l 1) (aI l 2) (aI l 3))]
def rPi : Orc := .res fun l => .tup [dB (isP (fI 0 (arg l 0)) (fI 1 (arg l 0)) (fI 2 (arg l 0)) (fI 3 (arg l 0)) (fI 4 (arg l 0)) (fI 5 (arg l 0)) (fI 0 (arg l 1)) (fI 1 (arg l 1)) (fI 2 (arg l 1)) (fI 0 (arg l 2)) (fI 1 (arg l 2)) (fI 2 (arg l 2))), dI (erP (fI 0 (arg l 0)) (fI 1 (arg l 0)) (fI 2 (arg l 0)) (fI 3 (arg l 0)) (fI 4 (arg l 0)) (fI 5 (arg l 0)) (fI 0 (arg l 1)) (fI 1 (arg l 1)) (fI 2 (arg l 1)) (fI 0 (arg l 2)) (fI 1 (arg l 2)) (fI 2 (arg l 2)))]
def rPiR : Orc := .res fun l => dB (pier (fI 0 (arg l 0)) (fI 1 (arg l 0)) (fI 2 (arg l 0)) (fI 3 (arg l 0)) (fI 4 (arg l 0)) (fI 5 (arg l 0)) (fI 0 (arg l 1)) (fI 1 (arg l 1)) (fI 2 (arg l 1)) (fI 0 (arg l 2)) (fI 1 (arg l 2)) (fI 2 (arg l 2)))
abbrev bxI (σ : St) (t j : Nat) : Int := match σ.obj (pid (σ.get t)) with
  | some (.box cs) => iOf (cs.getD j .any)
  | _ => 0
abbrev jI (σ : St) : Nat := (iOf (σ.get 66)).toNat
def mB (x : Int) : Prop := -1000000 ≤ x ∧ x ≤ 1000000
theorem inF_mB {x : Int} (h : inF x = true) : mB x := by unfold inF at h; unfold mB; simpa using h
theorem ckB_mB {a b c d e f : Int} (h : ckB a b c d e f = 0) : mB a ∧ mB b ∧ mB c ∧ mB d ∧ mB e ∧ mB f := by
  unfold ckB at h
  split at h
  · cases h
  · rename_i hx
    have := Decidable.not_not.1 hx
    exact ⟨inF_mB this.1, inF_mB this.2.1, inF_mB this.2.2.1, inF_mB this.2.2.2.1, inF_mB this.2.2.2.2.1, inF_mB this.2.2.2.2.2⟩
theorem nE_mB {x y z : Int} (h : nE x y z = 0) : mB x ∧ mB y ∧ mB z := by
  unfold nE at h
  split at h
  · rename_i hx; exact ⟨inF_mB hx.1, inF_mB hx.2.1, inF_mB hx.2.2⟩
  · cases h
theorem nE_cases (x y z : Int) : nE x y z = 0 ∨ nE x y z = 2 := by unfold nE; split <;> simp
theorem pier_no {u1 u2 u3 v1 v2 v3 a1 a2 a3 b1 b2 b3 : Int} {i : Nat} (hi : i < 3) (h : sOk (three a1 a2 a3 i) (three b1 b2 b3 i) (three u1 u2 u3 i) (three v1 v2 v3 i) = false) : pier u1 u2 u3 v1 v2 v3 a1 a2 a3 b1 b2 b3 = false := by
  unfold pier
  match i, hi, h with
  | 0, _, h => rw [show sOk a1 b1 u1 v1 = false from h]; simp
  | 1, _, h => rw [show sOk a2 b2 u2 v2 = false from h]; simp
  | 2, _, h => rw [show sOk a3 b3 u3 v3 = false from h]; simp
def nB (x : Int) : Prop := x.natAbs ≤ 2000000
theorem sD_bd {a b : Int} (ha : mB a) (hb : mB b) : nB (sD a b) := by unfold mB at ha hb; unfold nB sD; grind
theorem sL_bd {a b l h : Int} (ha : mB a) (hl : mB l) (hh : mB h) : nB (sL a b l h) := by unfold mB at ha hl hh; unfold nB sL; grind
theorem sU_bd {a b l h : Int} (ha : mB a) (hl : mB l) (hh : mB h) : nB (sU a b l h) := by unfold mB at ha hl hh; unfold nB sU; grind
theorem lw_bd {A B L H : Nat → Int} (hA : ∀ j, mB (A j)) (hB : ∀ j, mB (B j)) (hL : ∀ j, mB (L j)) (hH : ∀ j, mB (H j)) : ∀ i, nB (lw A B L H i).1 ∧ nB (lw A B L H i).2
  | 0 => by simp [lw, nB]
  | i + 1 => by
    have ih := lw_bd hA hB hL hH i
    simp only [lw]
    split
    · exact ih
    · split
      · exact ⟨sL_bd (hA i) (hL i) (hH i), sD_bd (hA i) (hB i)⟩
      · exact ih
theorem hg_bd {A B L H : Nat → Int} (hA : ∀ j, mB (A j)) (hB : ∀ j, mB (B j)) (hL : ∀ j, mB (L j)) (hH : ∀ j, mB (H j)) : ∀ i, nB (hg A B L H i).1 ∧ nB (hg A B L H i).2
  | 0 => by simp [hg, nB]
  | i + 1 => by
    have ih := hg_bd hA hB hL hH i
    simp only [hg]
    split
    · exact ih
    · split
      · exact ⟨sU_bd (hA i) (hL i) (hH i), sD_bd (hA i) (hB i)⟩
      · exact ih
theorem three_bd {a b c : Int} (ha : mB a) (hb : mB b) (hc : mB c) : ∀ j, mB (three a b c j)
  | 0 => ha
  | 1 => hb
  | 2 => hc
  | j + 3 => by show mB 0; unfold mB; omega
noncomputable def A74_less_c (a b c d : Int) : Ann := { orc := [], loops := [], cuts := [] }
theorem less_c (a b c d : Int) (ha : nB a) (hb : nB b) (hc : nB c) (hd : nB d) : FnC prog 74 [dP a b, dP c d] (dB (decide (a * d < c * b))) := by
  refine FnC_owed hmix (A74_less_c a b c d) (V := VT.need [i64In (a * d), i64In (c * b)] (VT.done [decide (a * d < c * b) = decide (a * d < c * b)])) (by kernel_rfl) ?_
  simp only [VT.holds, AllT, imp_self, implies_true, and_true, true_and, toNat_succ, toNat_add2, toNat_zero', Int.toNat_natCast, Bool.if_true_left, Bool.if_false_right, Bool.decide_eq_true, Bool.or_eq_true, Bool.or_eq_false_iff, Bool.and_eq_true, Bool.and_eq_false_imp, Bool.not_eq_true', Bool.not_eq_false', Bool.not_not, bne_iff_ne, bne_eq_false_iff_eq, beq_iff_eq, beq_eq_false_iff_ne, decide_eq_true_eq, decide_eq_false_iff_not, ne_eq]
  have h1 := mul_bd ha hd
  have h2 := mul_bd hc hb
  exact ⟨by unfold i64In; omega, by unfold i64In; omega⟩
noncomputable def A76_lessR_c (a b c d : Int) : Ann := { orc := [], loops := [], cuts := [] }
theorem lessR_c (a b c d : Int) (ha : nB a) (hb : nB b) (hc : nB c) (hd : nB d) : FnC prog 76 [dP a b, dP c d] (dB (decide (a * d < c * b))) := by
  refine FnC_owed hmix (A76_lessR_c a b c d) (V := VT.need [i64In (a * d), i64In (c * b)] (VT.done [decide (a * d < c * b) = decide (a * d < c * b)])) (by kernel_rfl) ?_
  simp only [VT.holds, AllT, imp_self, implies_true, and_true, true_and, toNat_succ, toNat_add2, toNat_zero', Int.toNat_natCast, Bool.if_true_left, Bool.if_false_right, Bool.decide_eq_true, Bool.or_eq_true, Bool.or_eq_false_iff, Bool.and_eq_true, Bool.and_eq_false_imp, Bool.not_eq_true', Bool.not_eq_false', Bool.not_not, bne_iff_ne, bne_eq_false_iff_eq, beq_iff_eq, beq_eq_false_iff_ne, decide_eq_true_eq, decide_eq_false_iff_not, ne_eq]
  have h1 := mul_bd ha hd
  have h2 := mul_bd hc hb
  exact ⟨by unfold i64In; omega, by unfold i64In; omega⟩
noncomputable def A73_ratioOf_c (a b : Int) : Ann := { orc := [], loops := [], cuts := [] }
theorem ratioOf_c (a b : Int) (ha : nB a) (hb : nB b) : FnC prog 73 [dI a, dI b] (dP (if b < 0 then -a else a) (if b < 0 then -b else b)) := by
  refine FnC_owed hmix (A73_ratioOf_c a b) (V := VT.ite (decide (b < (0 : Int)))
        (VT.need [i64In (-a), i64In (-b)]
          (VT.done [-a = if b < (0 : Int) then -a else a, -b = if b < (0 : Int) then -b else b]))
        (VT.done [a = if b < (0 : Int) then -a else a, b = if b < (0 : Int) then -b else b])) (by kernel_rfl) ?_
  simp only [VT.holds, AllT, imp_self, implies_true, and_true, true_and, toNat_succ, toNat_add2, toNat_zero', Int.toNat_natCast, Bool.if_true_left, Bool.if_false_right, Bool.decide_eq_true, Bool.or_eq_true, Bool.or_eq_false_iff, Bool.and_eq_true, Bool.and_eq_false_imp, Bool.not_eq_true', Bool.not_eq_false', Bool.not_not, bne_iff_ne, bne_eq_false_iff_eq, beq_iff_eq, beq_eq_false_iff_ne, decide_eq_true_eq, decide_eq_false_iff_not, ne_eq]
  unfold nB at ha hb
  refine ⟨fun h => ⟨⟨by unfold i64In; omega, by unfold i64In; omega⟩, by rw [if_pos h], by rw [if_pos h]⟩, fun h => ⟨by rw [if_neg h], by rw [if_neg h]⟩⟩
noncomputable def A72_checkNode_c (x y z : Int) : Ann := { orc := [(1, [(2, rIn), (7, rIn), (13, rIn)])], loops := [], cuts := [] }
theorem checkNode_c (x y z : Int)  : FnC prog 72 [nd x y z] (dI (nE x y z)) := by
  refine FnC_owed hmix (A72_checkNode_c x y z) (V := VT.need
        [FnC prog (71 : Nat) [DV.val (Value.int IntKind.i64 x)] (DV.val (Value.bool (inF x))),
          (!!inF x) = true → (!!inF x) = true, (!!inF x) = true → (!!inF x) = true,
          (!!inF x) = true → FnC prog (71 : Nat) [DV.val (Value.int IntKind.i64 y)] (DV.val (Value.bool (inF y))),
          (!!inF x) = true → (!!inF x) = true, (!inF x) = false → (!!inF x) = true,
          (!if (!inF x) = true then true else !inF y) = true → (!if (!inF x) = true then true else !inF y) = true,
          (!if (!inF x) = true then true else !inF y) = true → (!if (!inF x) = true then true else !inF y) = true,
          (!if (!inF x) = true then true else !inF y) = true →
            FnC prog (71 : Nat) [DV.val (Value.int IntKind.i64 z)] (DV.val (Value.bool (inF z))),
          (!if (!inF x) = true then true else !inF y) = true → (!if (!inF x) = true then true else !inF y) = true,
          (if (!inF x) = true then true else !inF y) = false → (!if (!inF x) = true then true else !inF y) = true]
        (VT.ite (if (if (!inF x) = true then true else !inF y) = true then true else !inF z)
          (VT.done [(2 : Int) = nE x y z]) (VT.done [(0 : Int) = nE x y z]))) (by kernel_rfl) ?_
  simp only [VT.holds, AllT, imp_self, implies_true, and_true, true_and, toNat_succ, toNat_add2, toNat_zero', Int.toNat_natCast, Bool.if_true_left, Bool.if_false_right, Bool.decide_eq_true, Bool.or_eq_true, Bool.or_eq_false_iff, Bool.and_eq_true, Bool.and_eq_false_imp, Bool.not_eq_true', Bool.not_eq_false', Bool.not_not, bne_iff_ne, bne_eq_false_iff_eq, beq_iff_eq, beq_eq_false_iff_ne, decide_eq_true_eq, decide_eq_false_iff_not, ne_eq]
  have := inside_c x
  have := inside_c y
  have := inside_c z
  unfold nE
  grind
noncomputable def A75_slab_c (a b l h : Int) : Ann := { orc := [], loops := [], cuts := [] }
theorem slab_c (a b l h : Int) (ha : mB a) (hb : mB b) (hl : mB l) (hh : mB h) : FnC prog 75 [dI a, dI b, dI l, dI h] (.tup [dP (sL a b l h) (sD a b), dP (sU a b l h) (sD a b), dB (sOk a b l h)]) := by
  refine FnC_owed hmix (A75_slab_c a b l h) (V := VT.ite (a == b)
        (VT.need
          [decide (a > l) = true → decide (a > l) = true, decide (a > l) = true → decide (a > l) = true,
            decide (a > l) = true → decide (a > l) = true]
          (VT.done
            [(-1 : Int) = sL a b l h, (1 : Int) = sD a b, (2 : Int) = sU a b l h, (1 : Int) = sD a b,
              (if decide (a > l) = true then decide (a < h) else false) = sOk a b l h]))
        (VT.need [i64In (l - a), i64In (b - a), i64In (h - a), i64In (b - a)]
          (VT.ite (decide (b < a))
            (VT.need [i64In (a - h), i64In (a - b), i64In (a - l), i64In (a - b)]
              (VT.done [a - h = sL a b l h, a - b = sD a b, a - l = sU a b l h, a - b = sD a b, true = sOk a b l h]))
            (VT.done [l - a = sL a b l h, b - a = sD a b, h - a = sU a b l h, b - a = sD a b, true = sOk a b l h])))) (by kernel_rfl) ?_
  simp only [VT.holds, AllT, imp_self, implies_true, and_true, true_and, toNat_succ, toNat_add2, toNat_zero', Int.toNat_natCast, Bool.if_true_left, Bool.if_false_right, Bool.decide_eq_true, Bool.or_eq_true, Bool.or_eq_false_iff, Bool.and_eq_true, Bool.and_eq_false_imp, Bool.not_eq_true', Bool.not_eq_false', Bool.not_not, bne_iff_ne, bne_eq_false_iff_eq, beq_iff_eq, beq_eq_false_iff_ne, decide_eq_true_eq, decide_eq_false_iff_not, ne_eq]
  unfold mB at *
  unfold sL sU sD sOk i64In
  grind
noncomputable def A34_piercesR_c (u1 u2 u3 v1 v2 v3 a1 a2 a3 b1 b2 b3 : Int) : Ann := { orc := [(1, [(8, rSlab)]), (2, [(8, rSlab)]), (3, [(8, rSlab)]), (7, [(2, rLess)]), (9, [(2, rLess)]), (11, [(2, rLess)]), (13, [(2, rLess)]), (15, [(2, rLess), (6, rLess), (11, rLess)])], loops := [], cuts := [(9, { ι := Int × Int, keep := [11, 13, 14, 16, 17], boxes := [11, 13, 14, 17], ts := fun _ _ => [], bx := fun _ q => [(16, [dI q.1, dI q.2])], inv := fun _ q => nB q.1 ∧ nB q.2 ∧ Rep (sD a1 b1 * (sD a2 b2 * sD a3 b3)) q (max (sL a1 b1 u1 v1 * (sD a2 b2 * sD a3 b3)) (sL a2 b2 u2 v2 * (sD a1 b1 * sD a3 b3))), mu := fun _ _ => 0, rd := fun _ σ => (bxI σ 16 0, bxI σ 16 1) }),
  (13, { ι := Int × Int, keep := [14, 16, 17], boxes := [14, 16], ts := fun _ _ => [], bx := fun _ r => [(17, [dI r.1, dI r.2])], inv := fun _ r => nB r.1 ∧ nB r.2 ∧ Rep (sD a1 b1 * (sD a2 b2 * sD a3 b3)) r (min (sU a1 b1 u1 v1 * (sD a2 b2 * sD a3 b3)) (sU a2 b2 u2 v2 * (sD a1 b1 * sD a3 b3))), mu := fun _ _ => 0, rd := fun _ σ => (bxI σ 17 0, bxI σ 17 1) }),
  (11, { ι := Int × Int, keep := [11, 14, 16, 17], boxes := [11, 14, 17], ts := fun _ _ => [], bx := fun _ q => [(16, [dI q.1, dI q.2])], inv := fun _ q => nB q.1 ∧ nB q.2 ∧ Rep (sD a1 b1 * (sD a2 b2 * sD a3 b3)) q (max (max (sL a1 b1 u1 v1 * (sD a2 b2 * sD a3 b3)) (sL a2 b2 u2 v2 * (sD a1 b1 * sD a3 b3))) (sL a3 b3 u3 v3 * (sD a1 b1 * sD a2 b2))), mu := fun _ _ => 0, rd := fun _ σ => (bxI σ 16 0, bxI σ 16 1) }),
  (15, { ι := Int × Int, keep := [16, 17], boxes := [16], ts := fun _ _ => [], bx := fun _ r => [(17, [dI r.1, dI r.2])], inv := fun _ r => nB r.1 ∧ nB r.2 ∧ Rep (sD a1 b1 * (sD a2 b2 * sD a3 b3)) r (min (min (sU a1 b1 u1 v1 * (sD a2 b2 * sD a3 b3)) (sU a2 b2 u2 v2 * (sD a1 b1 * sD a3 b3))) (sU a3 b3 u3 v3 * (sD a1 b1 * sD a2 b2))), mu := fun _ _ => 0, rd := fun _ σ => (bxI σ 17 0, bxI σ 17 1) })] }
theorem piercesR_c (u1 u2 u3 v1 v2 v3 a1 a2 a3 b1 b2 b3 : Int) (hu1 : mB u1) (hu2 : mB u2) (hu3 : mB u3) (hv1 : mB v1) (hv2 : mB v2) (hv3 : mB v3) (ha1 : mB a1) (ha2 : mB a2) (ha3 : mB a3) (hb1 : mB b1) (hb2 : mB b2) (hb3 : mB b3) : FnC prog 34 [bx u1 u2 u3 v1 v2 v3, nd a1 a2 a3, nd b1 b2 b3] (dB (pier u1 u2 u3 v1 v2 v3 a1 a2 a3 b1 b2 b3)) := by
  refine FnC_owed hmix (A34_piercesR_c u1 u2 u3 v1 v2 v3 a1 a2 a3 b1 b2 b3) (V := VT.need
        [FnC prog (75 : Nat)
            [DV.val (Value.int IntKind.i64 a1), DV.val (Value.int IntKind.i64 b1), DV.val (Value.int IntKind.i64 u1),
              DV.val (Value.int IntKind.i64 v1)]
            (DV.tup
              [DV.val (Value.agg { toList := [Value.int IntKind.i64 (sL a1 b1 u1 v1), Value.int IntKind.i64 (sD a1 b1)] }),
                DV.val (Value.agg { toList := [Value.int IntKind.i64 (sU a1 b1 u1 v1), Value.int IntKind.i64 (sD a1 b1)] }),
                DV.val (Value.bool (sOk a1 b1 u1 v1))])]
        (VT.need
          [FnC prog (75 : Nat)
              [DV.val (Value.int IntKind.i64 a2), DV.val (Value.int IntKind.i64 b2), DV.val (Value.int IntKind.i64 u2),
                DV.val (Value.int IntKind.i64 v2)]
              (DV.tup
                [DV.val
                    (Value.agg { toList := [Value.int IntKind.i64 (sL a2 b2 u2 v2), Value.int IntKind.i64 (sD a2 b2)] }),
                  DV.val
                    (Value.agg { toList := [Value.int IntKind.i64 (sU a2 b2 u2 v2), Value.int IntKind.i64 (sD a2 b2)] }),
                  DV.val (Value.bool (sOk a2 b2 u2 v2))])]
          (VT.need
            [FnC prog (75 : Nat)
                [DV.val (Value.int IntKind.i64 a3), DV.val (Value.int IntKind.i64 b3), DV.val (Value.int IntKind.i64 u3),
                  DV.val (Value.int IntKind.i64 v3)]
                (DV.tup
                  [DV.val
                      (Value.agg { toList := [Value.int IntKind.i64 (sL a3 b3 u3 v3), Value.int IntKind.i64 (sD a3 b3)] }),
                    DV.val
                      (Value.agg { toList := [Value.int IntKind.i64 (sU a3 b3 u3 v3), Value.int IntKind.i64 (sD a3 b3)] }),
                    DV.val (Value.bool (sOk a3 b3 u3 v3))])]
            (VT.need
              [(!!sOk a1 b1 u1 v1) = true → (!!sOk a1 b1 u1 v1) = true,
                (!sOk a1 b1 u1 v1) = false → (!!sOk a1 b1 u1 v1) = true,
                (!if (!sOk a1 b1 u1 v1) = true then true else !sOk a2 b2 u2 v2) = true →
                  (!if (!sOk a1 b1 u1 v1) = true then true else !sOk a2 b2 u2 v2) = true,
                (if (!sOk a1 b1 u1 v1) = true then true else !sOk a2 b2 u2 v2) = false →
                  (!if (!sOk a1 b1 u1 v1) = true then true else !sOk a2 b2 u2 v2) = true]
              (VT.ite
                (if (if (!sOk a1 b1 u1 v1) = true then true else !sOk a2 b2 u2 v2) = true then true else !sOk a3 b3 u3 v3)
                (VT.done [false = pier u1 u2 u3 v1 v2 v3 a1 a2 a3 b1 b2 b3])
                (VT.cut (Int × Int)
                  (fun (a : Int × Int) =>
                    nB a.fst ∧
                      nB a.snd ∧
                        Rep (sD a1 b1 * (sD a2 b2 * sD a3 b3)) a
                          (max (sL a1 b1 u1 v1 * (sD a2 b2 * sD a3 b3)) (sL a2 b2 u2 v2 * (sD a1 b1 * sD a3 b3))))
                  (VT.need
                    [FnC prog (76 : Nat)
                        [DV.val
                            (Value.agg
                              { toList := [Value.int IntKind.i64 (sL a1 b1 u1 v1), Value.int IntKind.i64 (sD a1 b1)] }),
                          DV.val
                            (Value.agg
                              { toList := [Value.int IntKind.i64 (sL a2 b2 u2 v2), Value.int IntKind.i64 (sD a2 b2)] })]
                        (DV.val (Value.bool (decide (sL a1 b1 u1 v1 * sD a2 b2 < sL a2 b2 u2 v2 * sD a1 b1))))]
                    (VT.ite (decide (sL a1 b1 u1 v1 * sD a2 b2 < sL a2 b2 u2 v2 * sD a1 b1))
                      (VT.done
                        [sL a2 b2 u2 v2 = sL a2 b2 u2 v2, sD a2 b2 = sD a2 b2, sU a2 b2 u2 v2 = sU a2 b2 u2 v2,
                          sD a2 b2 = sD a2 b2, sL a3 b3 u3 v3 = sL a3 b3 u3 v3, sD a3 b3 = sD a3 b3,
                          sU a3 b3 u3 v3 = sU a3 b3 u3 v3, sD a3 b3 = sD a3 b3, sU a1 b1 u1 v1 = sU a1 b1 u1 v1,
                          sD a1 b1 = sD a1 b1,
                          nB (sL a2 b2 u2 v2, sD a2 b2).fst ∧
                            nB (sL a2 b2 u2 v2, sD a2 b2).snd ∧
                              Rep (sD a1 b1 * (sD a2 b2 * sD a3 b3)) (sL a2 b2 u2 v2, sD a2 b2)
                                (max (sL a1 b1 u1 v1 * (sD a2 b2 * sD a3 b3)) (sL a2 b2 u2 v2 * (sD a1 b1 * sD a3 b3)))])
                      (VT.done
                        [sL a1 b1 u1 v1 = sL a1 b1 u1 v1, sD a1 b1 = sD a1 b1, sU a2 b2 u2 v2 = sU a2 b2 u2 v2,
                          sD a2 b2 = sD a2 b2, sL a3 b3 u3 v3 = sL a3 b3 u3 v3, sD a3 b3 = sD a3 b3,
                          sU a3 b3 u3 v3 = sU a3 b3 u3 v3, sD a3 b3 = sD a3 b3, sU a1 b1 u1 v1 = sU a1 b1 u1 v1,
                          sD a1 b1 = sD a1 b1,
                          nB (sL a1 b1 u1 v1, sD a1 b1).fst ∧
                            nB (sL a1 b1 u1 v1, sD a1 b1).snd ∧
                              Rep (sD a1 b1 * (sD a2 b2 * sD a3 b3)) (sL a1 b1 u1 v1, sD a1 b1)
                                (max (sL a1 b1 u1 v1 * (sD a2 b2 * sD a3 b3)) (sL a2 b2 u2 v2 * (sD a1 b1 * sD a3 b3)))])))
                  fun (i : Int × Int) =>
                  VT.cut (Int × Int)
                    (fun (a : Int × Int) =>
                      nB a.fst ∧
                        nB a.snd ∧
                          Rep (sD a1 b1 * (sD a2 b2 * sD a3 b3)) a
                            (max (max (sL a1 b1 u1 v1 * (sD a2 b2 * sD a3 b3)) (sL a2 b2 u2 v2 * (sD a1 b1 * sD a3 b3)))
                              (sL a3 b3 u3 v3 * (sD a1 b1 * sD a2 b2))))
                    (VT.need
                      [FnC prog (76 : Nat)
                          [DV.val (Value.agg { toList := [Value.int IntKind.i64 i.fst, Value.int IntKind.i64 i.snd] }),
                            DV.val
                              (Value.agg
                                { toList := [Value.int IntKind.i64 (sL a3 b3 u3 v3), Value.int IntKind.i64 (sD a3 b3)] })]
                          (DV.val (Value.bool (decide (i.fst * sD a3 b3 < sL a3 b3 u3 v3 * i.snd))))]
                      (VT.ite (decide (i.fst * sD a3 b3 < sL a3 b3 u3 v3 * i.snd))
                        (VT.done
                          [sL a3 b3 u3 v3 = sL a3 b3 u3 v3, sD a3 b3 = sD a3 b3, sU a2 b2 u2 v2 = sU a2 b2 u2 v2,
                            sD a2 b2 = sD a2 b2, sU a3 b3 u3 v3 = sU a3 b3 u3 v3, sD a3 b3 = sD a3 b3,
                            sU a1 b1 u1 v1 = sU a1 b1 u1 v1, sD a1 b1 = sD a1 b1,
                            nB (sL a3 b3 u3 v3, sD a3 b3).fst ∧
                              nB (sL a3 b3 u3 v3, sD a3 b3).snd ∧
                                Rep (sD a1 b1 * (sD a2 b2 * sD a3 b3)) (sL a3 b3 u3 v3, sD a3 b3)
                                  (max
                                    (max (sL a1 b1 u1 v1 * (sD a2 b2 * sD a3 b3)) (sL a2 b2 u2 v2 * (sD a1 b1 * sD a3 b3)))
                                    (sL a3 b3 u3 v3 * (sD a1 b1 * sD a2 b2)))])
                        (VT.done
                          [i.fst = i.fst, i.snd = i.snd, sU a2 b2 u2 v2 = sU a2 b2 u2 v2, sD a2 b2 = sD a2 b2,
                            sU a3 b3 u3 v3 = sU a3 b3 u3 v3, sD a3 b3 = sD a3 b3, sU a1 b1 u1 v1 = sU a1 b1 u1 v1,
                            sD a1 b1 = sD a1 b1,
                            nB (i.fst, i.snd).fst ∧
                              nB (i.fst, i.snd).snd ∧
                                Rep (sD a1 b1 * (sD a2 b2 * sD a3 b3)) (i.fst, i.snd)
                                  (max
                                    (max (sL a1 b1 u1 v1 * (sD a2 b2 * sD a3 b3)) (sL a2 b2 u2 v2 * (sD a1 b1 * sD a3 b3)))
                                    (sL a3 b3 u3 v3 * (sD a1 b1 * sD a2 b2)))])))
                    fun (i : Int × Int) =>
                    VT.cut (Int × Int)
                      (fun (a : Int × Int) =>
                        nB a.fst ∧
                          nB a.snd ∧
                            Rep (sD a1 b1 * (sD a2 b2 * sD a3 b3)) a
                              (min (sU a1 b1 u1 v1 * (sD a2 b2 * sD a3 b3)) (sU a2 b2 u2 v2 * (sD a1 b1 * sD a3 b3))))
                      (VT.need
                        [FnC prog (76 : Nat)
                            [DV.val
                                (Value.agg
                                  { toList := [Value.int IntKind.i64 (sU a2 b2 u2 v2), Value.int IntKind.i64 (sD a2 b2)] }),
                              DV.val
                                (Value.agg
                                  { toList := [Value.int IntKind.i64 (sU a1 b1 u1 v1), Value.int IntKind.i64 (sD a1 b1)] })]
                            (DV.val (Value.bool (decide (sU a2 b2 u2 v2 * sD a1 b1 < sU a1 b1 u1 v1 * sD a2 b2))))]
                        (VT.ite (decide (sU a2 b2 u2 v2 * sD a1 b1 < sU a1 b1 u1 v1 * sD a2 b2))
                          (VT.done
                            [sU a2 b2 u2 v2 = sU a2 b2 u2 v2, sD a2 b2 = sD a2 b2, sU a3 b3 u3 v3 = sU a3 b3 u3 v3,
                              sD a3 b3 = sD a3 b3, i.fst = i.fst, i.snd = i.snd,
                              nB (sU a2 b2 u2 v2, sD a2 b2).fst ∧
                                nB (sU a2 b2 u2 v2, sD a2 b2).snd ∧
                                  Rep (sD a1 b1 * (sD a2 b2 * sD a3 b3)) (sU a2 b2 u2 v2, sD a2 b2)
                                    (min (sU a1 b1 u1 v1 * (sD a2 b2 * sD a3 b3))
                                      (sU a2 b2 u2 v2 * (sD a1 b1 * sD a3 b3)))])
                          (VT.done
                            [sU a1 b1 u1 v1 = sU a1 b1 u1 v1, sD a1 b1 = sD a1 b1, sU a3 b3 u3 v3 = sU a3 b3 u3 v3,
                              sD a3 b3 = sD a3 b3, i.fst = i.fst, i.snd = i.snd,
                              nB (sU a1 b1 u1 v1, sD a1 b1).fst ∧
                                nB (sU a1 b1 u1 v1, sD a1 b1).snd ∧
                                  Rep (sD a1 b1 * (sD a2 b2 * sD a3 b3)) (sU a1 b1 u1 v1, sD a1 b1)
                                    (min (sU a1 b1 u1 v1 * (sD a2 b2 * sD a3 b3))
                                      (sU a2 b2 u2 v2 * (sD a1 b1 * sD a3 b3)))])))
                      fun (i_1 : Int × Int) =>
                      VT.cut (Int × Int)
                        (fun (a : Int × Int) =>
                          nB a.fst ∧
                            nB a.snd ∧
                              Rep (sD a1 b1 * (sD a2 b2 * sD a3 b3)) a
                                (min (min (sU a1 b1 u1 v1 * (sD a2 b2 * sD a3 b3)) (sU a2 b2 u2 v2 * (sD a1 b1 * sD a3 b3)))
                                  (sU a3 b3 u3 v3 * (sD a1 b1 * sD a2 b2))))
                        (VT.need
                          [FnC prog (76 : Nat)
                              [DV.val
                                  (Value.agg
                                    {
                                      toList :=
                                        [Value.int IntKind.i64 (sU a3 b3 u3 v3), Value.int IntKind.i64 (sD a3 b3)] }),
                                DV.val
                                  (Value.agg { toList := [Value.int IntKind.i64 i_1.fst, Value.int IntKind.i64 i_1.snd] })]
                              (DV.val (Value.bool (decide (sU a3 b3 u3 v3 * i_1.snd < i_1.fst * sD a3 b3))))]
                          (VT.ite (decide (sU a3 b3 u3 v3 * i_1.snd < i_1.fst * sD a3 b3))
                            (VT.done
                              [sU a3 b3 u3 v3 = sU a3 b3 u3 v3, sD a3 b3 = sD a3 b3, i.fst = i.fst, i.snd = i.snd,
                                nB (sU a3 b3 u3 v3, sD a3 b3).fst ∧
                                  nB (sU a3 b3 u3 v3, sD a3 b3).snd ∧
                                    Rep (sD a1 b1 * (sD a2 b2 * sD a3 b3)) (sU a3 b3 u3 v3, sD a3 b3)
                                      (min
                                        (min (sU a1 b1 u1 v1 * (sD a2 b2 * sD a3 b3))
                                          (sU a2 b2 u2 v2 * (sD a1 b1 * sD a3 b3)))
                                        (sU a3 b3 u3 v3 * (sD a1 b1 * sD a2 b2)))])
                            (VT.done
                              [i_1.fst = i_1.fst, i_1.snd = i_1.snd, i.fst = i.fst, i.snd = i.snd,
                                nB (i_1.fst, i_1.snd).fst ∧
                                  nB (i_1.fst, i_1.snd).snd ∧
                                    Rep (sD a1 b1 * (sD a2 b2 * sD a3 b3)) (i_1.fst, i_1.snd)
                                      (min
                                        (min (sU a1 b1 u1 v1 * (sD a2 b2 * sD a3 b3))
                                          (sU a2 b2 u2 v2 * (sD a1 b1 * sD a3 b3)))
                                        (sU a3 b3 u3 v3 * (sD a1 b1 * sD a2 b2)))])))
                        fun (i_2 : Int × Int) =>
                        VT.need
                          [FnC prog (76 : Nat)
                              [DV.val (Value.agg { toList := [Value.int IntKind.i64 i.fst, Value.int IntKind.i64 i.snd] }),
                                DV.val
                                  (Value.agg { toList := [Value.int IntKind.i64 i_2.fst, Value.int IntKind.i64 i_2.snd] })]
                              (DV.val (Value.bool (decide (i.fst * i_2.snd < i_2.fst * i.snd)))),
                            decide (i.fst * i_2.snd < i_2.fst * i.snd) = true →
                              decide (i.fst * i_2.snd < i_2.fst * i.snd) = true,
                            decide (i.fst * i_2.snd < i_2.fst * i.snd) = true →
                              decide (i.fst * i_2.snd < i_2.fst * i.snd) = true,
                            decide (i.fst * i_2.snd < i_2.fst * i.snd) = true →
                              FnC prog (76 : Nat)
                                [DV.val
                                    (Value.agg { toList := [Value.int IntKind.i64 i.fst, Value.int IntKind.i64 i.snd] }),
                                  DV.val
                                    (Value.agg
                                      { toList := [Value.int IntKind.i64 (1 : Int), Value.int IntKind.i64 (1 : Int)] })]
                                (DV.val (Value.bool (decide (i.fst * (1 : Int) < (1 : Int) * i.snd)))),
                            decide (i.fst * i_2.snd < i_2.fst * i.snd) = true →
                              decide (i.fst * i_2.snd < i_2.fst * i.snd) = true,
                            (if decide (i.fst * i_2.snd < i_2.fst * i.snd) = true then
                                  decide (i.fst * (1 : Int) < (1 : Int) * i.snd)
                                else false) =
                                true →
                              (if decide (i.fst * i_2.snd < i_2.fst * i.snd) = true then
                                  decide (i.fst * (1 : Int) < (1 : Int) * i.snd)
                                else false) =
                                true,
                            (if decide (i.fst * i_2.snd < i_2.fst * i.snd) = true then
                                  decide (i.fst * (1 : Int) < (1 : Int) * i.snd)
                                else false) =
                                true →
                              (if decide (i.fst * i_2.snd < i_2.fst * i.snd) = true then
                                  decide (i.fst * (1 : Int) < (1 : Int) * i.snd)
                                else false) =
                                true,
                            (if decide (i.fst * i_2.snd < i_2.fst * i.snd) = true then
                                  decide (i.fst * (1 : Int) < (1 : Int) * i.snd)
                                else false) =
                                true →
                              FnC prog (76 : Nat)
                                [DV.val
                                    (Value.agg
                                      { toList := [Value.int IntKind.i64 (0 : Int), Value.int IntKind.i64 (1 : Int)] }),
                                  DV.val
                                    (Value.agg
                                      { toList := [Value.int IntKind.i64 i_2.fst, Value.int IntKind.i64 i_2.snd] })]
                                (DV.val (Value.bool (decide ((0 : Int) * i_2.snd < i_2.fst * (1 : Int))))),
                            (if decide (i.fst * i_2.snd < i_2.fst * i.snd) = true then
                                  decide (i.fst * (1 : Int) < (1 : Int) * i.snd)
                                else false) =
                                true →
                              (if decide (i.fst * i_2.snd < i_2.fst * i.snd) = true then
                                  decide (i.fst * (1 : Int) < (1 : Int) * i.snd)
                                else false) =
                                true]
                          (VT.done
                            [(if
                                    (if decide (i.fst * i_2.snd < i_2.fst * i.snd) = true then
                                        decide (i.fst * (1 : Int) < (1 : Int) * i.snd)
                                      else false) =
                                      true then
                                  decide ((0 : Int) * i_2.snd < i_2.fst * (1 : Int))
                                else false) =
                                pier u1 u2 u3 v1 v2 v3 a1 a2 a3 b1 b2 b3]))))))) (by kernel_rfl) ?_
  simp only [VT.holds, AllT, imp_self, implies_true, and_true, true_and, toNat_succ, toNat_add2, toNat_zero', Int.toNat_natCast, Bool.if_true_left, Bool.if_false_right, Bool.decide_eq_true, Bool.or_eq_true, Bool.or_eq_false_iff, Bool.and_eq_true, Bool.and_eq_false_imp, Bool.not_eq_true', Bool.not_eq_false', Bool.not_not, bne_iff_ne, bne_eq_false_iff_eq, beq_iff_eq, beq_eq_false_iff_ne, decide_eq_true_eq, decide_eq_false_iff_not, ne_eq]
  have p1 := sD_pos a1 b1
  have p2 := sD_pos a2 b2
  have p3 := sD_pos a3 b3
  have c1 : 0 < sD a2 b2 * sD a3 b3 := Int.mul_pos p2 p3
  have c2 : 0 < sD a1 b1 * sD a3 b3 := Int.mul_pos p1 p3
  have c3 : 0 < sD a1 b1 * sD a2 b2 := Int.mul_pos p1 p2
  have hK : 0 < sD a1 b1 * (sD a2 b2 * sD a3 b3) := Int.mul_pos p1 c1
  have e2 : sD a2 b2 * (sD a1 b1 * sD a3 b3) = sD a1 b1 * (sD a2 b2 * sD a3 b3) := by simp only [Int.mul_comm, Int.mul_left_comm, Int.mul_assoc]
  have e3 : sD a3 b3 * (sD a1 b1 * sD a2 b2) = sD a1 b1 * (sD a2 b2 * sD a3 b3) := by simp only [Int.mul_comm, Int.mul_left_comm, Int.mul_assoc]
  have rp : Rep (sD a1 b1 * (sD a2 b2 * sD a3 b3)) (sL a1 b1 u1 v1, sD a1 b1) (sL a1 b1 u1 v1 * (sD a2 b2 * sD a3 b3)) := ⟨_, c1, rfl, rfl⟩
  have rq : Rep (sD a1 b1 * (sD a2 b2 * sD a3 b3)) (sU a1 b1 u1 v1, sD a1 b1) (sU a1 b1 u1 v1 * (sD a2 b2 * sD a3 b3)) := ⟨_, c1, rfl, rfl⟩
  have rr : Rep (sD a1 b1 * (sD a2 b2 * sD a3 b3)) (sL a2 b2 u2 v2, sD a2 b2) (sL a2 b2 u2 v2 * (sD a1 b1 * sD a3 b3)) := ⟨_, c2, e2, rfl⟩
  have rs : Rep (sD a1 b1 * (sD a2 b2 * sD a3 b3)) (sU a2 b2 u2 v2, sD a2 b2) (sU a2 b2 u2 v2 * (sD a1 b1 * sD a3 b3)) := ⟨_, c2, e2, rfl⟩
  have rt : Rep (sD a1 b1 * (sD a2 b2 * sD a3 b3)) (sL a3 b3 u3 v3, sD a3 b3) (sL a3 b3 u3 v3 * (sD a1 b1 * sD a2 b2)) := ⟨_, c3, e3, rfl⟩
  have ru : Rep (sD a1 b1 * (sD a2 b2 * sD a3 b3)) (sU a3 b3 u3 v3, sD a3 b3) (sU a3 b3 u3 v3 * (sD a1 b1 * sD a2 b2)) := ⟨_, c3, e3, rfl⟩
  have r0 : Rep (sD a1 b1 * (sD a2 b2 * sD a3 b3)) (0, 1) 0 := ⟨_, hK, by simp, by simp⟩
  have r1 : Rep (sD a1 b1 * (sD a2 b2 * sD a3 b3)) (1, 1) (sD a1 b1 * (sD a2 b2 * sD a3 b3)) := ⟨_, hK, by simp, by simp⟩
  have bp := sL_bd (b := b1) ha1 hu1 hv1
  have bq := sU_bd (b := b1) ha1 hu1 hv1
  have br := sL_bd (b := b2) ha2 hu2 hv2
  have bs := sU_bd (b := b2) ha2 hu2 hv2
  have bt := sL_bd (b := b3) ha3 hu3 hv3
  have bu := sU_bd (b := b3) ha3 hu3 hv3
  have d1 := sD_bd ha1 hb1
  have d2 := sD_bd ha2 hb2
  have d3 := sD_bd ha3 hb3
  refine ⟨slab_c _ _ _ _ ha1 hb1 hu1 hv1, slab_c _ _ _ _ ha2 hb2 hu2 hv2, slab_c _ _ _ _ ha3 hb3 hu3 hv3, fun hno => ?_, fun hok => ⟨⟨lessR_c _ _ _ _ bp d1 br d2, fun h => ⟨br, d2, Rep.maxR hK rp rr h⟩, fun h => ⟨bp, d1, Rep.maxL hK rp rr h⟩⟩, fun q ⟨q1, q2, hq⟩ => ⟨⟨lessR_c _ _ _ _ q1 q2 bt d3, fun h => ⟨bt, d3, Rep.maxR hK hq rt h⟩, fun h => ⟨q1, q2, Rep.maxL hK hq rt h⟩⟩, fun q' ⟨q1', q2', hq'⟩ => ⟨⟨lessR_c _ _ _ _ bs d2 bq d1, fun h => ⟨bs, d2, Rep.minR hK rq rs h⟩, fun h => ⟨bq, d1, Rep.minL hK rq rs h⟩⟩, fun r ⟨s1, s2, hr⟩ => ⟨⟨lessR_c _ _ _ _ bu d3 s1 s2, fun h => ⟨bu, d3, Rep.minR hK hr ru h⟩, fun h => ⟨s1, s2, Rep.minL hK hr ru h⟩⟩, fun r' ⟨s1', s2', hr'⟩ => ⟨⟨lessR_c _ _ _ _ q1' q2' s1' s2', fun _ => lessR_c _ _ _ _ q1' q2' (by unfold nB; omega) (by unfold nB; omega), fun _ => lessR_c _ _ _ _ (by unfold nB; omega) (by unfold nB; omega) s1' s2'⟩, ?_⟩⟩⟩⟩⟩⟩
  · unfold pier
    rcases hno with (h | h) | h <;> simp [h]
  · have o1 : sOk a1 b1 u1 v1 = true := by simpa using fun h => hok.1 (.inl h)
    have o2 : sOk a2 b2 u2 v2 = true := by simpa using fun h => hok.1 (.inr h)
    have k1 : q'.1 * r'.2 < r'.1 * q'.2 ↔ _ := Rep.lt hK hq' hr'
    have k2 : q'.1 * 1 < 1 * q'.2 ↔ _ := Rep.lt hK hq' r1
    have k3 : 0 * r'.2 < r'.1 * 1 ↔ _ := Rep.lt hK r0 hr'
    unfold pier prs
    rw [o1, o2, hok.2, Bool.eq_iff_iff]
    simp only [Bool.and_eq_true, decide_eq_true_eq, Bool.true_and]
    rw [k1, k2, k3]
    omega
end Go.Abs
