/- Contracts. Contracts. Contracts. Contracts. Contracts. -/
import Derived.Test.YtbemjdppfiabgaaK11
section
section
section
section
set_option linter.unusedVariables false
set_option linter.unusedSimpArgs false
set_option maxRecDepth 100000
namespace Go.Abs
open Go
def ckE (l : Bxs) : Int := if l.n > 50 then 8 else firstE (bxOK l) l.n
/-- A part of a line. -/
structure Prt where
  f : Int
  t : Int
  d : Int
def Prt.ok (p : Prt) : Prop := bd7 p.f ∧ bd7 p.t ∧ bd7 p.d
noncomputable def A22_checkBoxes_c (l : Bxs) : Ann := { orc := [(7, [(2, .res fun q => dB (inC (aI q 0))), (7, .res fun q => dB (inC (aI q 0))), (13, .res fun q => dB (inC (aI q 0))), (19, .res fun q => dB (inC (aI q 0))), (25, .res fun q => dB (inC (aI q 0))), (31, .res fun q => dB (inC (aI q 0)))])], loops := [(0, { ι := Nat, keep := [0], boxes := [], ts := fun _ i => [(3, dI (i : Int))], inv := fun _ i => i ≤ l.n ∧ ∀ j, j < i → bxOK l j = 0, mu := fun _ i => l.n - i, rd := fun _ σ => (iOf (σ.get 3)).toNat })], cuts := [] }
noncomputable abbrev q_checkBoxes_c_0 (l : Bxs) (i : Nat) : Bool := !inC (l.x1 (Int.toNat (↑i : Int)))
noncomputable abbrev q_checkBoxes_c_1 (l : Bxs) (i : Nat) : Bool := !!inC (l.x1 (Int.toNat (↑i : Int)))
noncomputable abbrev q_checkBoxes_c_2 (l : Bxs) (i : Nat) : Bool := decide (l.x1 (Int.toNat (↑i : Int)) ≥ l.x2 (Int.toNat (↑i : Int)))
noncomputable abbrev q_checkBoxes_c_3 (l : Bxs) (i : Nat) : Bool := decide (l.y1 (Int.toNat (↑i : Int)) ≥ l.y2 (Int.toNat (↑i : Int)))
noncomputable abbrev q_checkBoxes_c_4 (l : Bxs) (i : Nat) : Bool := !if (q_checkBoxes_c_2 l i) = true then true else (q_checkBoxes_c_3 l i)
noncomputable abbrev q_checkBoxes_c_5 (l : Bxs) (i : Nat) : Bool := if (q_checkBoxes_c_0 l i) = true then true else !inC (l.y1 (Int.toNat (↑i : Int)))
noncomputable abbrev q_checkBoxes_c_6 (l : Bxs) (i : Nat) : Bool := if (q_checkBoxes_c_5 l i) = true then true else !inC (l.z1 (Int.toNat (↑i : Int)))
noncomputable abbrev q_checkBoxes_c_7 (l : Bxs) (i : Nat) : Bool := if (q_checkBoxes_c_6 l i) = true then true else !inC (l.x2 (Int.toNat (↑i : Int)))
noncomputable abbrev q_checkBoxes_c_8 (l : Bxs) (i : Nat) : Bool := !if (q_checkBoxes_c_0 l i) = true then true else !inC (l.y1 (Int.toNat (↑i : Int)))
noncomputable abbrev q_checkBoxes_c_9 (l : Bxs) (i : Nat) : Bool := !if (q_checkBoxes_c_5 l i) = true then true else !inC (l.z1 (Int.toNat (↑i : Int)))
noncomputable abbrev q_checkBoxes_c_10 (l : Bxs) (i : Nat) : Bool := !if (q_checkBoxes_c_6 l i) = true then true else !inC (l.x2 (Int.toNat (↑i : Int)))
noncomputable abbrev q_checkBoxes_c_11 (l : Bxs) (i : Nat) : Bool := !if (q_checkBoxes_c_7 l i) = true then true else !inC (l.y2 (Int.toNat (↑i : Int)))
theorem checkBoxes_c (l : Bxs)  : FnC prog 22 [bxsD l] (dI (ckE l)) := by
  refine FnC_owed hmix (A22_checkBoxes_c l) (V := .ite (decide ((↑l.n : Int) > (50 : Int))) (.done [(8 : Int) = ckE l]) (.loop Nat (fun a => a ≤ l.n ∧ ∀ (j : Nat), j < a → bxOK l j = (0 : Int)) (Int.toNat (0 : Int)) [(0 : Int) = (↑(Int.toNat (0 : Int)) : Int), l.n = l.n, ∀ (i : Nat), i < l.n → l.x1 i = l.x1 i, ∀ (i : Nat), i < l.n → l.y1 i = l.y1 i, ∀ (i : Nat), i < l.n → l.z1 i = l.z1 i, ∀ (i : Nat), i < l.n → l.x2 i = l.x2 i, ∀ (i : Nat), i < l.n → l.y2 i = l.y2 i, ∀ (i : Nat), i < l.n → l.z2 i = l.z2 i] fun i => .ite (decide ((↑i : Int) < (↑l.n : Int))) (.need [(0 : Int) ≤ (↑i : Int) ∧ (↑i : Int) < (↑l.n : Int)] (.need [FnC prog (83 : Nat) [(dI (l.x1 (Int.toNat (↑i : Int))))] ((dB (inC (l.x1 (Int.toNat (↑i : Int)))))), (q_checkBoxes_c_1 l i) = true → (q_checkBoxes_c_1 l i) = true, (q_checkBoxes_c_1 l i) = true → (q_checkBoxes_c_1 l i) = true, (q_checkBoxes_c_1 l i) = true → FnC prog (83 : Nat) [(dI (l.y1 (Int.toNat (↑i : Int))))] ((dB (inC (l.y1 (Int.toNat (↑i : Int)))))), (q_checkBoxes_c_1 l i) = true → (q_checkBoxes_c_1 l i) = true, (q_checkBoxes_c_0 l i) = false → (q_checkBoxes_c_1 l i) = true, (q_checkBoxes_c_8 l i) = true → (q_checkBoxes_c_8 l i) = true, (q_checkBoxes_c_8 l i) = true → (q_checkBoxes_c_8 l i) = true, (q_checkBoxes_c_8 l i) = true → FnC prog (83 : Nat) [(dI (l.z1 (Int.toNat (↑i : Int))))] ((dB (inC (l.z1 (Int.toNat (↑i : Int)))))), (q_checkBoxes_c_8 l i) = true → (q_checkBoxes_c_8 l i) = true, (q_checkBoxes_c_5 l i) = false → (q_checkBoxes_c_8 l i) = true, (q_checkBoxes_c_9 l i) = true → (q_checkBoxes_c_9 l i) = true, (q_checkBoxes_c_9 l i) = true → (q_checkBoxes_c_9 l i) = true, (q_checkBoxes_c_9 l i) = true → FnC prog (83 : Nat) [(dI (l.x2 (Int.toNat (↑i : Int))))] ((dB (inC (l.x2 (Int.toNat (↑i : Int)))))), (q_checkBoxes_c_9 l i) = true → (q_checkBoxes_c_9 l i) = true, (q_checkBoxes_c_6 l i) = false → (q_checkBoxes_c_9 l i) = true, (q_checkBoxes_c_10 l i) = true → (q_checkBoxes_c_10 l i) = true, (q_checkBoxes_c_10 l i) = true → (q_checkBoxes_c_10 l i) = true, (q_checkBoxes_c_10 l i) = true
     → FnC prog (83 : Nat) [(dI (l.y2 (Int.toNat (↑i : Int))))] ((dB (inC (l.y2 (Int.toNat (↑i : Int)))))), (q_checkBoxes_c_10 l i) = true → (q_checkBoxes_c_10 l i) = true, (q_checkBoxes_c_7 l i) = false → (q_checkBoxes_c_10 l i) = true, (q_checkBoxes_c_11 l i) = true → (q_checkBoxes_c_11 l i) = true, (q_checkBoxes_c_11 l i) = true → (q_checkBoxes_c_11 l i) = true, (q_checkBoxes_c_11 l i) = true → FnC prog (83 : Nat) [(dI (l.z2 (Int.toNat (↑i : Int))))] ((dB (inC (l.z2 (Int.toNat (↑i : Int)))))), (q_checkBoxes_c_11 l i) = true → (q_checkBoxes_c_11 l i) = true, (if (q_checkBoxes_c_7 l i) = true then true else !inC (l.y2 (Int.toNat (↑i : Int)))) = false → (q_checkBoxes_c_11 l i) = true] (.ite (if (if (q_checkBoxes_c_7 l i) = true then true else !inC (l.y2 (Int.toNat (↑i : Int)))) = true then true else !inC (l.z2 (Int.toNat (↑i : Int)))) (.done [(2 : Int) = ckE l]) (.need [(!(q_checkBoxes_c_2 l i)) = true → (!(q_checkBoxes_c_2 l i)) = true, (!(q_checkBoxes_c_2 l i)) = true → (!(q_checkBoxes_c_2 l i)) = true, (!(q_checkBoxes_c_2 l i)) = true → (!(q_checkBoxes_c_2 l i)) = true, (!(q_checkBoxes_c_2 l i)) = true → (!(q_checkBoxes_c_2 l i)) = true, (q_checkBoxes_c_2 l i) = false → (!(q_checkBoxes_c_2 l i)) = true, (q_checkBoxes_c_4 l i) = true → (q_checkBoxes_c_4 l i) = true, (q_checkBoxes_c_4 l i) = true → (q_checkBoxes_c_4 l i) = true, (q_checkBoxes_c_4 l i) = true → (q_checkBoxes_c_4 l i) = true, (q_checkBoxes_c_4 l i) = true → (q_checkBoxes_c_4 l i) = true, (if (q_checkBoxes_c_2 l i) = true then true else (q_checkBoxes_c_3 l i)) = false → (q_checkBoxes_c_4 l i) = true] (.ite (if (if (q_checkBoxes_c_2 l i) = true then true else (q_checkBoxes_c_3 l i)) = true then true else decide (l.z1 (Int.toNat (↑i : Int)) ≥ l.z2 (Int.toNat (↑i : Int)))) (.done [(3 : Int) = ckE l]) (.need [i64In ((↑i : Int) + (1 : Int))] (.done [(↑i : Int) + (1 : Int) = (↑(Int.toNat ((↑i : Int) + (1 : Int))) : Int), l.n = l.n, ∀ (i : Nat), i < l.n → l.x1 i = l.x1 i, ∀ (i : Nat), i < l.n → l.y1 i = l.y1 i,
     ∀ (i : Nat), i < l.n → l.z1 i = l.z1 i, ∀ (i : Nat), i < l.n → l.x2 i = l.x2 i, ∀ (i : Nat), i < l.n → l.y2 i = l.y2 i, ∀ (i : Nat), i < l.n → l.z2 i = l.z2 i, Int.toNat ((↑i : Int) + (1 : Int)) ≤ l.n ∧ ∀ (j : Nat), j < Int.toNat ((↑i : Int) + (1 : Int)) → bxOK l j = (0 : Int), l.n - Int.toNat ((↑i : Int) + (1 : Int)) < l.n - i]))))))) (.done [(0 : Int) = ckE l]))) (by kernel_rfl) ?_
  simp only [q_checkBoxes_c_0, q_checkBoxes_c_1, q_checkBoxes_c_2, q_checkBoxes_c_3, q_checkBoxes_c_4, q_checkBoxes_c_5, q_checkBoxes_c_6, q_checkBoxes_c_7, q_checkBoxes_c_8, q_checkBoxes_c_9, q_checkBoxes_c_10, q_checkBoxes_c_11, VT.holds, AllT, imp_self, implies_true, and_true, true_and, toNat_succ, toNat_add2, toNat_zero', Int.toNat_natCast, Bool.if_true_left, Bool.if_false_right, Bool.decide_eq_true, Bool.or_eq_true, Bool.or_eq_false_iff, Bool.and_eq_true, Bool.and_eq_false_imp, Bool.not_eq_true', Bool.not_eq_false', Bool.not_not, bne_iff_ne, bne_eq_false_iff_eq, beq_iff_eq, beq_eq_false_iff_ne, decide_eq_true_eq, decide_eq_false_iff_not, ne_eq]
  refine ⟨fun h => by rw [ckE, if_pos (by omega)], fun h => ⟨rfl, ⟨Nat.zero_le _, fun j hj => absurd hj (Nat.not_lt_zero j)⟩, fun i ⟨hi, hb⟩ => ⟨fun hlt => ?_, fun hge => ?_⟩⟩⟩
  · have e0 : ckE l = firstE (bxOK l) l.n := by rw [ckE, if_neg (by omega)]
    refine ⟨by omega, ⟨coord_c _, fun _ => coord_c _, fun _ => coord_c _, fun _ => coord_c _, fun _ => coord_c _, fun _ => coord_c _⟩, fun h => ?_, fun ⟨h0, h6⟩ => ?_⟩
    · have e1 : bxOK l i = 2 := by
        rw [bxOK, bxE, if_pos]
        cases e1 : inC (l.x1 i) <;> cases e2 : inC (l.y1 i) <;> cases e3 : inC (l.z1 i) <;> cases e4 : inC (l.x2 i) <;> cases e5 : inC (l.y2 i) <;> cases e6 : inC (l.z2 i) <;> simp_all
      rw [e0, firstE_at hb (by rw [e1]; decide) (by omega), e1]
    · have hn : ¬ ((inC (l.x1 i) && (inC (l.y1 i) && inC (l.z1 i))) = false ∨ (inC (l.x2 i) && (inC (l.y2 i) && inC (l.z2 i))) = false) := by
        cases e1 : inC (l.x1 i) <;> cases e2 : inC (l.y1 i) <;> cases e3 : inC (l.z1 i) <;> cases e4 : inC (l.x2 i) <;> cases e5 : inC (l.y2 i) <;> simp_all
      refine ⟨fun h => ?_, fun ⟨h1, h2⟩ => ⟨by unfold i64In; omega, by omega, ⟨by omega, fun j hj => ?_⟩, by omega⟩⟩
      · have e1 : bxOK l i = 3 := by rw [bxOK, bxE, if_neg hn, if_pos (by omega)]
        rw [e0, firstE_at hb (by rw [e1]; decide) (by omega), e1]
      · rcases Nat.lt_or_ge j i with h9 | h9
        · exact hb j h9
        · obtain rfl : j = i := by omega
          rw [bxOK, bxE, if_neg hn, if_neg (by omega)]
  · obtain rfl : i = l.n := by omega
    rw [ckE, if_neg (by omega), firstE_none hb]
end Go.Abs
end
section
set_option linter.unusedVariables false
set_option linter.unusedSimpArgs false
set_option maxRecDepth 100000
namespace Go.Abs
open Go
def stp (s : Scf) (f t : Int) (i : Nat) : Bool := ladP s i && ((decide (s.A i = f) && decide (s.B i = t)) || (decide (s.A i = t) && decide (s.B i = f)))
def stpB (s : Scf) (f t : Int) : Bool := anyN (stp s f t) s.nM
def gr1 (s : Scf) (d : Int) (i k : Nat) : Bool := ftB s s.nM i && (decide (s.Z i < s.Z (crnD s d k).toNat) && stpB s i (crnD s d k))
def frG (s : Scf) (d : Int) : Bool := anyN (fun i => anyN (gr1 s d i) 4) s.nN
def smP (a b c d : Int) : Bool := (decide (a = c) && decide (b = d)) || (decide (a = d) && decide (b = c))
def ld1 (s : Scf) (f t : Int) (i k : Nat) : Bool := stpB s (crnD s f i) (crnD s t k) || smP (crnD s f i) (crnD s f ((i + 1) % 4)) (crnD s t k) (crnD s t ((k + 1) % 4))
def ldB (s : Scf) (f t : Int) : Bool := anyN (fun i => anyN (ld1 s f t i) 4) 4
theorem crn_bd {s : Scf} (hc : ScfOK s) {d : Nat} (hd : d < s.nM) (h6 : s.K d = 6) (k : Nat) : 0 ≤ crnD s d k ∧ crnD s d k < s.nN := by
  obtain ⟨hA, hB⟩ := hc.ends d hd
  have hr := hc.right d hd
  rw [h6] at hr
  obtain ⟨_, h1, h2⟩ := rgt6 hr
  rw [atH, decide_eq_true_eq] at h1 h2
  have e : (d : Int).toNat = d := rfl
  unfold crnD crn
  rw [e]
  have g1 := nAt_bd (s := s) h1
  have g2 := nAt_bd (s := s) h2
  split
  · exact hA
  · split
    · exact ⟨h1, g1⟩
    · split
      · exact hB
      · exact ⟨h2, g2⟩
end Go.Abs
end
end
section
set_option linter.unusedVariables false
set_option linter.unusedSimpArgs false
set_option maxRecDepth 100000
namespace Go.Abs
open Go
def p0 (s : Scf) (i : Nat) : Bool := decide (s.K i = 6) && frG s i
inductive RchR (s : Scf) : Nat → Prop
  | ground {i : Nat} (h : i < s.nM) (h2 : p0 s i = true) : RchR s i
  | step {d i : Nat} (h : RchR s d) (h2 : i < s.nM) (h3 : s.K i = 6) (h4 : ldB s d i = true) : RchR s i
open Classical in
noncomputable def rchR (s : Scf) (i : Nat) : Bool := decide (RchR s i)
structure QInv (s : Scf) (k n : Nat) (c : Nat → Int) : Prop where
  kn : k ≤ n
  q : ∀ j, j < n → ∃ d : Nat, c j = d ∧ d < s.nM ∧ s.K d = 6 ∧ RchR s d
  g : ∀ i : Nat, i < s.nM → p0 s i = true → hasN c i n = true
  a : ∀ j, j < k → ∀ i : Nat, i < s.nM → s.K i = 6 → ldB s (c j) i = true → hasN c i n = true
  b : n + flN (fun i : Nat => !hasN c i n) s.nM ≤ s.nM
structure QIn (s : Scf) (k i n : Nat) (c : Nat → Int) : Prop where
  hi : i ≤ s.nM
  hk : k < n
  h : QInv s k n c
  ha : ∀ m : Nat, m < i → s.K m = 6 → ldB s (c k) m = true → hasN c m n = true
theorem flI_in {p : Nat → Bool} : ∀ {n j : Nat}, j < flN p n → flI p n j < n ∧ p (flI p n j) = true
  | 0, j, h => absurd h (Nat.not_lt_zero j)
  | n + 1, j, h => by
    rw [flN] at h
    rw [flI]
    split
    · rename_i h1; exact ⟨Nat.lt_succ_self n, h1.1⟩
    · rename_i h1
      have : j < flN p n := by
        by_cases e : p n = true
        · rw [if_pos e] at h
          have : flN p n ≠ j := fun h2 => h1 ⟨e, h2⟩
          omega
        · rw [if_neg e] at h; omega
      have := flI_in this
      exact ⟨by omega, this.2⟩
theorem flN_eq {p q : Nat → Bool} : ∀ {n : Nat}, (∀ i, i < n → p i = q i) → flN p n = flN q n
  | 0, _ => rfl
  | n + 1, h => by rw [flN, flN, flN_eq fun i hi => h i (by omega), h n (by omega)]
end Go.Abs
end
end
section
set_option linter.unusedVariables false
set_option linter.unusedSimpArgs false
set_option maxRecDepth 100000
namespace Go.Abs
open Go
structure WI (w : Way) : Prop where
  f2 : 0 < w.f2
  t2 : 0 < w.t2
  lo : ∀ m e : Int, 0 < e → w.f1 * e < m * w.f2 → -1 * e < m * 1
  hi : ∀ m e : Int, 0 < e → m * w.t2 < w.t1 * e → m * 1 < 2 * e
theorem ixF_any (p : Nat → Bool) : ∀ n, decide (0 ≤ ixF p n) = anyN p n
  | 0 => rfl
  | n + 1 => by
    have ih := ixF_any p n
    rw [anyN, ← ih, ixF]
    by_cases h : 0 ≤ ixF p n
    · rw [if_pos h, decide_eq_true h, Bool.or_true]
    · rw [if_neg h, decide_eq_false h, Bool.or_false]
      cases e : p n with
      | true => rw [if_pos rfl, decide_eq_true (by omega)]
      | false => rw [if_neg (by decide)]; rfl
theorem anyN_eq {p q : Nat → Bool} (h : ∀ i, p i = q i) (n : Nat) : anyN p n = anyN q n := by rw [show p = q from funext h]
end Go.Abs
end
end
section
set_option linter.unusedVariables false
set_option linter.unusedSimpArgs false
set_option maxRecDepth 100000
namespace Go.Abs
open Go
section
variable {s : Scf}
theorem mem_crn {l : List Int} {e : Int} : ∀ {x : Nat}, e ∈ crnL s x l ↔ ∃ y, y < x ∧ l = [sdA s y] ∧ sdD s y = e
  | 0 => ⟨fun h => (by cases h), fun ⟨y, h, _⟩ => absurd h (Nat.not_lt_zero y)⟩
  | x + 1 => by
    have ih := mem_crn (l := l) (e := e) (x := x)
    rw [crnL]
    constructor
    · intro h
      split at h
      · rename_i h1
        rcases List.mem_append.1 h with h | h
        · obtain ⟨y, hy, h2⟩ := ih.1 h; exact ⟨y, by omega, h2⟩
        · exact ⟨x, by omega, h1, (List.mem_singleton.1 h).symm⟩
      · obtain ⟨y, hy, h2⟩ := ih.1 h; exact ⟨y, by omega, h2⟩
    · rintro ⟨y, hy, h1, h2⟩
      rcases Nat.lt_or_ge y x with h3 | h3
      · have := ih.2 ⟨y, h3, h1, h2⟩
        split
        · exact List.mem_append.2 (.inl this)
        · exact this
      · obtain rfl : y = x := by omega
        rw [if_pos h1]
        exact List.mem_append.2 (.inr (by simpa using h2.symm))
theorem mem_sid {l : List Int} {e : Int} : ∀ {x : Nat}, e ∈ sidL s x l ↔ ∃ y, y < x ∧ l = keyS s y ∧ sdD s y = e
  | 0 => ⟨fun h => (by cases h), fun ⟨y, h, _⟩ => absurd h (Nat.not_lt_zero y)⟩
  | x + 1 => by
    have ih := mem_sid (l := l) (e := e) (x := x)
    rw [sidL]
    constructor
    · intro h
      split at h
      · rename_i h1
        rcases List.mem_append.1 h with h | h
        · obtain ⟨y, hy, h2⟩ := ih.1 h; exact ⟨y, by omega, h2⟩
        · exact ⟨x, by omega, h1, (List.mem_singleton.1 h).symm⟩
      · obtain ⟨y, hy, h2⟩ := ih.1 h; exact ⟨y, by omega, h2⟩
    · rintro ⟨y, hy, h1, h2⟩
      rcases Nat.lt_or_ge y x with h3 | h3
      · have := ih.2 ⟨y, h3, h1, h2⟩
        split
        · exact List.mem_append.2 (.inl this)
        · exact this
      · obtain rfl : y = x := by omega
        rw [if_pos h1]
        exact List.mem_append.2 (.inr (by simpa using h2.symm))
theorem mem_up {f : List Int → List Int} {k v l : List Int} {e : Int} : e ∈ up1 f k v l ↔ e ∈ f l ∨ (l = k ∧ e ∈ v) := by
  unfold up1
  split
  · rename_i h; subst h
    rw [List.mem_append]
    exact ⟨fun h => h.elim .inl fun h => .inr ⟨rfl, h⟩, fun h => h.elim .inl fun h => .inr h.2⟩
  · rename_i h
    exact ⟨.inl, fun h' => h'.elim id fun h2 => absurd h2.1 h⟩
theorem mem_nxt {l : List Int} {e : Int} : ∀ {i : Nat}, e ∈ nxtL s i l ↔ ∃ j, j < i ∧ ladP s j = true ∧ ((l = [s.A j] ∧ e ∈ crnL s (nSd s) [s.B j]) ∨ (l = [s.B j] ∧ e ∈ crnL s (nSd s) [s.A j]))
  | 0 => ⟨fun h => (by cases h), fun ⟨y, h, _⟩ => absurd h (Nat.not_lt_zero y)⟩
  | i + 1 => by
    have ih := mem_nxt (l := l) (e := e) (i := i)
    by_cases hl : ladP s i = true
    · rw [nxt_yes hl, mem_up, mem_up, ih]
      constructor
      · rintro ((⟨j, hj, h⟩ | h) | h)
        · exact ⟨j, by omega, h⟩
        · exact ⟨i, by omega, hl, .inl h⟩
        · exact ⟨i, by omega, hl, .inr h⟩
      · rintro ⟨j, hj, h1, h2⟩
        rcases Nat.lt_or_ge j i with h3 | h3
        · exact .inl (.inl ⟨j, h3, h1, h2⟩)
        · obtain rfl : j = i := by omega
          exact h2.elim (fun h => .inl (.inr h)) .inr
    · rw [nxt_no hl, ih]
      constructor
      · rintro ⟨j, hj, h⟩; exact ⟨j, by omega, h⟩
      · rintro ⟨j, hj, h1, h2⟩
        rcases Nat.lt_or_ge j i with h3 | h3
        · exact ⟨j, h3, h1, h2⟩
        · obtain rfl : j = i := by omega
          exact absurd h1 hl
theorem mem_que {e : Int} : ∀ {i : Nat}, e ∈ queL s i ↔ ∃ j, j < i ∧ ladP s j = true ∧ ftB s s.nM (s.A j).toNat = true ∧ e ∈ crnL s (nSd s) [s.B j]
  | 0 => ⟨fun h => (by cases h), fun ⟨y, h, _⟩ => absurd h (Nat.not_lt_zero y)⟩
  | i + 1 => by
    have ih := mem_que (e := e) (i := i)
    by_cases hl : ladP s i = true ∧ ftB s s.nM (s.A i).toNat = true
    · rw [que_yes hl.1 hl.2, List.mem_append, ih]
      constructor
      · rintro (⟨j, hj, h⟩ | h)
        · exact ⟨j, by omega, h⟩
        · exact ⟨i, by omega, hl.1, hl.2, h⟩
      · rintro ⟨j, hj, h1, h2, h4⟩
        rcases Nat.lt_or_ge j i with h3 | h3
        · exact .inl ⟨j, h3, h1, h2, h4⟩
        · obtain rfl : j = i := by omega
          exact .inr h4
    · rw [que_no hl, ih]
      constructor
      · rintro ⟨j, hj, h⟩; exact ⟨j, by omega, h⟩
      · rintro ⟨j, hj, h1, h2, h4⟩
        rcases Nat.lt_or_ge j i with h3 | h3
        · exact ⟨j, h3, h1, h2, h4⟩
        · obtain rfl : j = i := by omega
          exact absurd ⟨h1, h2⟩ hl
theorem mem_adj {d e : Int} : ∀ {k : Nat}, e ∈ adjK s d k ↔ ∃ j, j < k ∧ (e ∈ nxtL s s.nM [crnD s d j] ∨ e ∈ sidL s (nSd s) [mn (crnD s d j) (crnD s d ((j + 1) % 4)), mx (crnD s d j) (crnD s d ((j + 1) % 4))])
  | 0 => ⟨fun h => (by cases h), fun ⟨y, h, _⟩ => absurd h (Nat.not_lt_zero y)⟩
  | k + 1 => by
    have ih := mem_adj (d := d) (e := e) (k := k)
    rw [adjK, List.mem_append, List.mem_append, ih]
    constructor
    · rintro (⟨j, hj, h⟩ | h)
      · exact ⟨j, by omega, h⟩
      · exact ⟨k, by omega, h⟩
    · rintro ⟨j, hj, h⟩
      rcases Nat.lt_or_ge j k with h3 | h3
      · exact .inl ⟨j, h3, h⟩
      · obtain rfl : j = k := by omega
        exact .inr h
/-- The sides of decks, by decks and corners. -/
theorem sd_crn (y : Nat) : sdA s y = crnD s (sdD s y) (y % 4) ∧ sdB s y = crnD s (sdD s y) ((y % 4 + 1) % 4) := by
  have e : (y % 4 + 1) % 4 = (y + 1) % 4 := by omega
  rw [e]
  exact ⟨rfl, rfl⟩
theorem crn_at {d : Nat} (h6 : s.K d = 6) (hd : d < s.nM) {k : Nat} (hk : k < 4) : 4 * dkN s d + k < nSd s ∧ sdD s (4 * dkN s d + k) = d ∧ sdA s (4 * dkN s d + k) = crnD s d k ∧ sdB s (4 * dkN s d + k) = crnD s d ((k + 1) % 4) := by
  have hlt : dkN s d < dkN s s.nM := by
    have mono : ∀ {a b : Nat}, a ≤ b → dkN s a ≤ dkN s b := fun {a b} hab => by
      induction hab with
      | refl => exact Nat.le_refl _
      | step _ ih => exact Nat.le_trans ih (Nat.le_add_right _ _)
    have h3 : dkN s (d + 1) = dkN s d + 1 := by rw [dkN, if_pos h6]
    have := mono (show d + 1 ≤ s.nM by omega)
    omega
  obtain ⟨a, b, c⟩ := sd_at h6 hd hk
  refine ⟨by show _ < 4 * dkN s s.nM; omega, a, ?_, ?_⟩
  · rw [b]; rfl
  · rw [c]; rfl
theorem crn_iff {c e : Int} : e ∈ crnL s (nSd s) [c] ↔ ∃ d : Nat, e = d ∧ d < s.nM ∧ s.K d = 6 ∧ ∃ k, k < 4 ∧ crnD s d k = c := by
  rw [mem_crn]
  constructor
  · rintro ⟨y, hy, h1, h2⟩
    obtain ⟨d, hd, hdm, h6⟩ := sd_deck hy
    have := (sd_crn (s := s) y).1
    rw [hd] at this
    exact ⟨d, by rw [← h2, hd], hdm, h6, y % 4, by omega, by rw [← this]; simpa using h1.symm⟩
  · rintro ⟨d, rfl, hd, h6, k, hk, h⟩
    obtain ⟨h1, h2, h3, _⟩ := crn_at h6 hd hk
    exact ⟨_, h1, by rw [h3, h], h2⟩
theorem pair_eq {a b c d : Int} : [mn a b, mx a b] = [mn c d, mx c d] ↔ smP a b c d = true := by
  unfold smP mn mx
  rw [Bool.or_eq_true, Bool.and_eq_true, Bool.and_eq_true, decide_eq_true_eq, decide_eq_true_eq, decide_eq_true_eq, decide_eq_true_eq]
  constructor
  · intro h
    injection h with h1 h2
    injection h2 with h2 _
    omega
  · intro h
    have h1 : min a b = min c d := by omega
    have h2 : max a b = max c d := by omega
    rw [h1, h2]
theorem sid_iff {a b e : Int} : e ∈ sidL s (nSd s) [mn a b, mx a b] ↔ ∃ d : Nat, e = d ∧ d < s.nM ∧ s.K d = 6 ∧ ∃ k, k < 4 ∧ smP a b (crnD s d k) (crnD s d ((k + 1) % 4)) = true := by
  rw [mem_sid]
  constructor
  · rintro ⟨y, hy, h1, h2⟩
    obtain ⟨d, hd, hdm, h6⟩ := sd_deck hy
    have := sd_crn (s := s) y
    rw [hd] at this
    refine ⟨d, by rw [← h2, hd], hdm, h6, y % 4, by omega, ?_⟩
    rw [keyS, this.1, this.2] at h1
    exact pair_eq.1 h1
  · rintro ⟨d, rfl, hd, h6, k, hk, h⟩
    obtain ⟨h1, h2, h3, h4⟩ := crn_at h6 hd hk
    refine ⟨_, h1, ?_, h2⟩
    rw [keyS, h3, h4]
    exact pair_eq.2 h
theorem stp_iff {f t : Int} : stpB s f t = true ↔ ∃ j, j < s.nM ∧ ladP s j = true ∧ ((s.A j = f ∧ s.B j = t) ∨ (s.A j = t ∧ s.B j = f)) := by
  rw [stpB, anyN_iff]
  constructor
  · rintro ⟨j, hj, h⟩
    rw [stp, Bool.and_eq_true, Bool.or_eq_true, Bool.and_eq_true, Bool.and_eq_true, decide_eq_true_eq, decide_eq_true_eq, decide_eq_true_eq, decide_eq_true_eq] at h
    exact ⟨j, hj, h⟩
  · rintro ⟨j, hj, h⟩
    refine ⟨j, hj, ?_⟩
    rw [stp, Bool.and_eq_true, Bool.or_eq_true, Bool.and_eq_true, Bool.and_eq_true, decide_eq_true_eq, decide_eq_true_eq, decide_eq_true_eq, decide_eq_true_eq]
    exact h
theorem lad_up (hc : ScfOK s) {j : Nat} (hj : j < s.nM) (h : ladP s j = true) : s.Z (s.A j).toNat < s.Z (s.B j).toNat := by
  rw [ladP, Bool.and_eq_true, decide_eq_true_eq] at h
  have hr := hc.right j hj
  rw [h.1] at hr
  unfold rgtF geoF at hr
  rw [if_pos (by decide), decide_eq_true_eq] at hr
  exact hr.2.2
theorem fr_iff (hc : ScfOK s) {d : Nat} (hd : d < s.nM) (h6 : s.K d = 6) : frG s d = true ↔ (d : Int) ∈ queL s s.nM := by
  rw [mem_que, frG, anyN_iff]
  constructor
  · rintro ⟨i, hi, h⟩
    obtain ⟨k, hk, h⟩ := (anyN_iff (p := gr1 s d i) (n := 4)).1 h
    rw [gr1, Bool.and_eq_true, Bool.and_eq_true, decide_eq_true_eq] at h
    obtain ⟨h1, h2, h3⟩ := h
    obtain ⟨j, hj, hl, h4⟩ := stp_iff.1 h3
    have hz := lad_up hc hj hl
    rcases h4 with ⟨hA, hB⟩ | ⟨hA, hB⟩
    · refine ⟨j, hj, hl, by rw [hA]; exact h1, ?_⟩
      rw [hB]
      exact crn_iff.2 ⟨d, rfl, hd, h6, k, hk, rfl⟩
    · rw [hA, hB] at hz
      have : ((i : Nat) : Int).toNat = i := rfl
      rw [this] at hz
      omega
  · rintro ⟨j, hj, hl, hf, hm⟩
    obtain ⟨d', hd', _, _, k, hk, hkc⟩ := crn_iff.1 hm
    obtain rfl : d = d' := by exact_mod_cast hd'
    have hz := lad_up hc hj hl
    obtain ⟨hA, hB⟩ := hc.ends j hj
    have eA : (((s.A j).toNat : Nat) : Int) = s.A j := by omega
    refine ⟨(s.A j).toNat, by omega, (anyN_iff (p := gr1 s d (s.A j).toNat) (n := 4)).2 ⟨k, hk, ?_⟩⟩
    rw [gr1, Bool.and_eq_true, Bool.and_eq_true, decide_eq_true_eq, hkc, eA]
    exact ⟨hf, hz, stp_iff.2 ⟨j, hj, hl, .inl ⟨rfl, rfl⟩⟩⟩
theorem ld_iff {d e : Nat} (he : e < s.nM) (h6 : s.K e = 6) : ldB s d e = true ↔ (e : Int) ∈ adjK s d 4 := by
  rw [mem_adj, ldB, anyN_iff]
  constructor
  · rintro ⟨i, hi, h⟩
    obtain ⟨k, hk, h⟩ := (anyN_iff (p := ld1 s d e i) (n := 4)).1 h
    rw [ld1, Bool.or_eq_true] at h
    refine ⟨i, hi, ?_⟩
    rcases h with h | h
    · left
      obtain ⟨j, hj, hl, h4⟩ := stp_iff.1 h
      refine mem_nxt.2 ⟨j, hj, hl, ?_⟩
      rcases h4 with ⟨hA, hB⟩ | ⟨hA, hB⟩
      · exact .inl ⟨by rw [hA], by rw [hB]; exact crn_iff.2 ⟨e, rfl, he, h6, k, hk, rfl⟩⟩
      · exact .inr ⟨by rw [hB], by rw [hA]; exact crn_iff.2 ⟨e, rfl, he, h6, k, hk, rfl⟩⟩
    · right
      exact sid_iff.2 ⟨e, rfl, he, h6, k, hk, h⟩
  · rintro ⟨i, hi, h⟩
    refine ⟨i, hi, ?_⟩
    rcases h with h | h
    · obtain ⟨j, hj, hl, h4⟩ := mem_nxt.1 h
      rcases h4 with ⟨h1, h2⟩ | ⟨h1, h2⟩
      · obtain ⟨e', he', _, _, k, hk, hkc⟩ := crn_iff.1 h2
        obtain rfl : e = e' := by exact_mod_cast he'
        have h1 : crnD s d i = s.A j := by simpa using h1
        refine (anyN_iff (p := ld1 s d e i) (n := 4)).2 ⟨k, hk, ?_⟩
        rw [ld1, Bool.or_eq_true]
        exact .inl (stp_iff.2 ⟨j, hj, hl, .inl ⟨h1.symm, hkc.symm⟩⟩)
      · obtain ⟨e', he', _, _, k, hk, hkc⟩ := crn_iff.1 h2
        obtain rfl : e = e' := by exact_mod_cast he'
        have h1 : crnD s d i = s.B j := by simpa using h1
        refine (anyN_iff (p := ld1 s d e i) (n := 4)).2 ⟨k, hk, ?_⟩
        rw [ld1, Bool.or_eq_true]
        exact .inl (stp_iff.2 ⟨j, hj, hl, .inr ⟨hkc.symm, h1.symm⟩⟩)
    · obtain ⟨e', he', _, _, k, hk, hkc⟩ := sid_iff.1 h
      obtain rfl : e = e' := by exact_mod_cast he'
      refine (anyN_iff (p := ld1 s d e i) (n := 4)).2 ⟨k, hk, ?_⟩
      rw [ld1, Bool.or_eq_true]
      exact .inr hkc
theorem rch_to (hc : ScfOK s) {d : Int} (h : Rch s d) : ∃ i : Nat, d = i ∧ i < s.nM ∧ s.K i = 6 ∧ RchR s i := by
  induction h with
  | ground h =>
    obtain ⟨i, hi, him, h6⟩ := (que_el _ _ h).deck
    rw [hi] at h
    exact ⟨i, hi, him, h6, .ground him (by rw [p0, decide_eq_true h6, (fr_iff hc him h6).2 h]; rfl)⟩
  | step _ h2 ih =>
    obtain ⟨j, hj, hjm, hj6, hr⟩ := ih
    obtain ⟨i, hi, him, h6⟩ := (adj_el _ _ _ h2).deck
    rw [hj, hi] at h2
    exact ⟨i, hi, him, h6, .step hr him h6 ((ld_iff him h6).2 h2)⟩
theorem rch_of (hc : ScfOK s) {i : Nat} (h : RchR s i) : Rch s i := by
  induction h with
  | ground h h2 =>
    rw [p0, Bool.and_eq_true, decide_eq_true_eq] at h2
    exact .ground ((fr_iff hc h h2.1).1 h2.2)
  | step _ h2 h3 h4 ih => exact .step ih ((ld_iff h2 h3).1 h4)
theorem rch_eq (hc : ScfOK s) : rchP s = rchR s := by
  funext i
  have e : Rch s i ↔ RchR s i := ⟨fun h => by
    obtain ⟨j, hj, _, _, h⟩ := rch_to hc h
    obtain rfl : i = j := by exact_mod_cast hj
    exact h, rch_of hc⟩
  by_cases h : RchR s i
  · rw [show rchR s i = true from @decide_eq_true _ (Classical.propDecidable _) h, show rchP s i = true from @decide_eq_true _ (Classical.propDecidable _) (e.2 h)]
  · rw [show rchR s i = false from @decide_eq_false _ (Classical.propDecidable _) h, show rchP s i = false from @decide_eq_false _ (Classical.propDecidable _) (fun h' => h (e.1 h'))]
end
end Go.Abs
end
