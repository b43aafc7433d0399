/- Contracts. Contracts. -/
import Derived.Test.YtbemjdppfiabgaaK1
import Derived.Test.YtbemjdppfiabgaaAbsY
section
set_option linter.unusedVariables false
set_option linter.unusedSimpArgs false
set_option maxRecDepth 100000
namespace Go.Abs
open Go
/-- Comparing. -/
def cmpI (x y : Int) : Int := if x < y then -1 else if x > y then 1 else 0
def or3 (x y z : Int) : Int := if x ≠ 0 then x else if y ≠ 0 then y else z
def cmpN (ax ay az bx by_ bz : Int) : Int := or3 (cmpI ax bx) (cmpI ay by_) (cmpI az bz)
def cmpP (k ax ay az bx by_ bz k' cx cy cz dx dy dz : Int) : Int := or3 (cmpI k k') (cmpN ax ay az cx cy cz) (cmpN bx by_ bz dx dy dz)
def lsI (d : DV) (i : Nat) : Int := match d with
  | .lst _ [f] => iOf (f i)
  | _ => 0
abbrev dP (k ax ay az bx by_ bz : Int) : DV := .val (.agg #[.int .i64 k, .int .i64 ax, .int .i64 ay, .int .i64 az, .int .i64 bx, .int .i64 by_, .int .i64 bz])
abbrev rCmp (q : List DV) : DV := dI (cmpI (aI q 0) (aI q 1))
abbrev rOr (q : List DV) : DV := dI (or3 (lsI (arg q 0) 0) (lsI (arg q 0) 1) (lsI (arg q 0) 2))
abbrev rCmpN (q : List DV) : DV := dI (cmpN (fI 0 (arg q 0)) (fI 1 (arg q 0)) (fI 2 (arg q 0)) (fI 0 (arg q 1)) (fI 1 (arg q 1)) (fI 2 (arg q 1)))
noncomputable def A175_isNaN_c (x : Int) : Ann := { orc := [], loops := [], cuts := [] }
theorem isNaN_c (x : Int)  : FnC prog 175 [dI x] (dB false) := by
  refine FnC_owed hmix (A175_isNaN_c x) (V := .done [(x != x) = false]) (by kernel_rfl) ?_
  simp only [VT.holds, AllT, Sq]
noncomputable def A153_compare_c (x y : Int) : Ann := { orc := [(1, [(1, .res fun _ => dB false)]), (2, [(1, .res fun _ => dB false)])], loops := [], cuts := [] }
theorem compare_c (x y : Int)  : FnC prog 153 [dI x, dI y] (dI (cmpI x y)) := by
  refine FnC_owed hmix (A153_compare_c x y) (V := .need [FnC prog 175 [(dI x)] ((dB false))] (.need [FnC prog 175 [(dI y)] ((dB false))] (.ite false (.ite false (.done [(0:Int) = cmpI x y]) (.done [(-1:Int) = cmpI x y])) (.ite false (.done [(1:Int) = cmpI x y]) (.ite (decide (x < y)) (.done [(-1:Int) = cmpI x y]) (.ite (decide (x > y)) (.done [(1:Int) = cmpI x y]) (.done [(0:Int) = cmpI x y]))))))) (by kernel_rfl) ?_
  simp only [VT.holds, AllT, Sq]
  exact ⟨isNaN_c _, isNaN_c _, fun h => (by cases h), fun _ => ⟨fun h => (by cases h), fun _ => ⟨fun h => by rw [cmpI, if_pos h], fun h => ⟨fun h2 => by rw [cmpI, if_neg h, if_pos h2], fun h2 => by rw [cmpI, if_neg h, if_neg h2]⟩⟩⟩⟩
noncomputable def A152_or_c (f : Nat → Int) : Ann := { orc := [], loops := [], cuts := [], unroll := [(0, 4)] }
theorem or_c (f : Nat → Int)  : FnC prog 152 [.lst 3 [fun j => dI (f j)]] (dI (or3 (f 0) (f 1) (f 2))) := by
  refine FnC_owed hmix (A152_or_c f) (V := .ite (decide ((0:Int) < (↑(3:Nat) : Int))) (.need [(0:Int) ≤ 0 ∧ (0:Int) < (↑(3:Nat) : Int)] (.ite (f (0:Int).toNat != 0) (.done [f (0:Int).toNat = or3 (f 0) (f 1) (f 2)]) (.need [i64In (1:Int)] (.ite (decide ((1:Int) < (↑(3:Nat) : Int))) (.need [(0:Int) ≤ 1 ∧ (1:Int) < (↑(3:Nat) : Int)] (.ite (f (1:Int).toNat != 0) (.done [f (1:Int).toNat = or3 (f 0) (f 1) (f 2)]) (.need [i64In (2:Int)] (.ite (decide ((2:Int) < (↑(3:Nat) : Int))) (.need [(0:Int) ≤ 2 ∧ (2:Int) < (↑(3:Nat) : Int)] (.ite (f (2:Int).toNat != 0) (.done [f (2:Int).toNat = or3 (f 0) (f 1) (f 2)]) (.need [i64In (3:Int)] (.ite (decide ((3:Int) < (↑(3:Nat) : Int))) (.need [(0:Int) ≤ 3 ∧ (3:Int) < (↑(3:Nat) : Int)] (.ite (f (3:Int).toNat != 0) (.done [f (3:Int).toNat = or3 (f 0) (f 1) (f 2)]) (.need [i64In (4:Int)] (.done [False])))) (.done [(0:Int) = or3 (f 0) (f 1) (f 2)]))))) (.done [(0:Int) = or3 (f 0) (f 1) (f 2)]))))) (.done [(0:Int) = or3 (f 0) (f 1) (f 2)]))))) (.done [(0:Int) = or3 (f 0) (f 1) (f 2)])) (by kernel_rfl) ?_
  simp only [VT.holds, AllT, Sq]
  have e1 : Int.toNat 1 = 1 := rfl
  have e2 : Int.toNat 2 = 2 := rfl
  rw [e1, e2]
  refine ⟨fun _ => ⟨by decide, fun h => by rw [or3, if_pos h], fun h => ⟨by unfold i64In; omega, fun _ => ⟨by decide, fun h1 => by rw [or3, if_neg (by omega), if_pos h1], fun h1 => ⟨by unfold i64In; omega, fun _ => ⟨by decide, fun h2 => by rw [or3, if_neg (by omega), if_neg (by omega)], fun h2 => ⟨by unfold i64In; omega, fun h3 => by omega, fun _ => by rw [or3, if_neg (by omega), if_neg (by omega), h2]⟩⟩, fun h2 => by omega⟩⟩, fun h2 => by omega⟩⟩, fun h => by omega⟩
noncomputable def A147_compareNodes_c (ax ay az bx by_ bz : Int) : Ann := { orc := [(1, [(4, .res rCmp), (9, .res rCmp), (14, .res rCmp), (16, .res rOr)])], loops := [], cuts := [] }
noncomputable abbrev compareNodes_cd0 (ax : Int) (ay : Int) (az : Int) (bx : Int) (by_ : Int) (bz : Int) : DV := .lst (3:Nat) [fun i => (dI (List.getD [cmpI ax bx, cmpI ay by_, cmpI az bz] i (0:Int)))]
theorem compareNodes_c (ax ay az bx by_ bz : Int)  : FnC prog 147 [dN ax ay az, dN bx by_ bz] (dI (cmpN ax ay az bx by_ bz)) := by
  refine FnC_owed hmix (A147_compareNodes_c ax ay az bx by_ bz) (V := .need [FnC prog 153 [(dI ax), (dI bx)] ((dI (cmpI ax bx))), FnC prog 153 [(dI ay), (dI by_)] ((dI (cmpI ay by_))), FnC prog 153 [(dI az), (dI bz)] ((dI (cmpI az bz))), (3:Nat) ≤ 3, FnC prog 152 [(compareNodes_cd0 ax ay az bx by_ bz)] ((dI (or3 (lsI ((compareNodes_cd0 ax ay az bx by_ bz)) (0:Nat)) (lsI ((compareNodes_cd0 ax ay az bx by_ bz)) (1:Nat)) (lsI ((compareNodes_cd0 ax ay az bx by_ bz)) (2:Nat)))))] (.done [or3 (lsI ((compareNodes_cd0 ax ay az bx by_ bz)) (0:Nat)) (lsI ((compareNodes_cd0 ax ay az bx by_ bz)) (1:Nat)) (lsI ((compareNodes_cd0 ax ay az bx by_ bz)) (2:Nat)) = cmpN ax ay az bx by_ bz])) (by kernel_rfl) ?_
  simp only [VT.holds, AllT, compareNodes_cd0, Sq]
  exact ⟨⟨compare_c _ _, compare_c _ _, compare_c _ _, Nat.le_refl _, or_c fun i => [cmpI ax bx, cmpI ay by_, cmpI az bz].getD i 0⟩, rfl⟩
noncomputable def A121_comparePlaces_c (k ax ay az bx by_ bz k' cx cy cz dx dy dz : Int) : Ann := { orc := [(1, [(4, .res rCmp), (9, .res rCmpN), (14, .res rCmpN), (16, .res rOr)])], loops := [], cuts := [] }
theorem comparePlaces_c (k ax ay az bx by_ bz k' cx cy cz dx dy dz : Int)  : FnC prog 121 [dP k ax ay az bx by_ bz, dP k' cx cy cz dx dy dz] (dI (cmpP k ax ay az bx by_ bz k' cx cy cz dx dy dz)) := by
  refine FnC_owed hmix (A121_comparePlaces_c k ax ay az bx by_ bz k' cx cy cz dx dy dz) (V := .need [FnC prog 153 [(dI k), (dI k')] ((dI (cmpI k k'))), FnC prog 147 [.val (.agg (Array.mk [.int .i64 ax, .int .i64 ay, .int .i64 az])), .val (.agg (Array.mk [.int .i64 cx, .int .i64 cy, .int .i64 cz]))] ((dI (cmpN ax ay az cx cy cz))), FnC prog 147 [.val (.agg (Array.mk [.int .i64 bx, .int .i64 by_, .int .i64 bz])), .val (.agg (Array.mk [.int .i64 dx, .int .i64 dy, .int .i64 dz]))] ((dI (cmpN bx by_ bz dx dy dz))), (3:Nat) ≤ 3, FnC prog 152 [.lst (3:Nat) [fun i => (dI (List.getD [cmpI k k', cmpN ax ay az cx cy cz, cmpN bx by_ bz dx dy dz] i (0:Int)))]] ((dI (or3 (lsI (.lst (3:Nat) [fun i => (dI (List.getD [cmpI k k', cmpN ax ay az cx cy cz, cmpN bx by_ bz dx dy dz] i (0:Int)))]) (0:Nat)) (lsI (.lst (3:Nat) [fun i => (dI (List.getD [cmpI k k', cmpN ax ay az cx cy cz, cmpN bx by_ bz dx dy dz] i (0:Int)))]) (1:Nat)) (lsI (.lst (3:Nat) [fun i => (dI (List.getD [cmpI k k', cmpN ax ay az cx cy cz, cmpN bx by_ bz dx dy dz] i (0:Int)))]) (2:Nat)))))] (.done [or3 (lsI (.lst (3:Nat) [fun i => (dI (List.getD [cmpI k k', cmpN ax ay az cx cy cz, cmpN bx by_ bz dx dy dz] i (0:Int)))]) (0:Nat)) (lsI (.lst (3:Nat) [fun i => (dI (List.getD [cmpI k k', cmpN ax ay az cx cy cz, cmpN bx by_ bz dx dy dz] i (0:Int)))]) (1:Nat)) (lsI (.lst (3:Nat) [fun i => (dI (List.getD [cmpI k k', cmpN ax ay az cx cy cz, cmpN bx by_ bz dx dy dz] i (0:Int)))]) (2:Nat)) = cmpP k ax ay az bx by_ bz k' cx cy cz dx dy dz])) (by kernel_rfl) ?_
  simp only [VT.holds, AllT, Sq]
  exact ⟨⟨compare_c _ _, compareNodes_c _ _ _ _ _ _, compareNodes_c _ _ _ _ _ _, Nat.le_refl _, or_c fun i => [cmpI k k', cmpN ax ay az cx cy cz, cmpN bx by_ bz dx dy dz].getD i 0⟩, rfl⟩
end Go.Abs
end
section
set_option linter.unusedVariables false
set_option linter.unusedSimpArgs false
set_option maxRecDepth 100000
namespace Go.Abs
open Go
/-- Lists of numbers in their order; sorted lists. -/
def lexB : List Int → List Int → Bool
  | [], [] => false
  | [], _ :: _ => true
  | _ :: _, [] => false
  | x :: r, y :: q => decide (x < y) || (decide (x = y) && lexB r q)
theorem lexB_irr : ∀ l, lexB l l = false
  | [] => rfl
  | x :: r => by simp [lexB, lexB_irr r]
theorem lexB_trans : ∀ {a b c : List Int}, lexB a b = true → lexB b c = true → lexB a c = true
  | [], [], _, h, _ => by cases h
  | [], _ :: _, [], _, h => by cases h
  | [], _ :: _, _ :: _, _, _ => rfl
  | _ :: _, [], _, h, _ => by cases h
  | _ :: _, _ :: _, [], _, h => by cases h
  | x :: r, y :: q, z :: p, h1, h2 => by
    simp only [lexB, Bool.or_eq_true, Bool.and_eq_true, decide_eq_true_eq] at *
    rcases h1 with h1 | ⟨h1, h3⟩
    · rcases h2 with h2 | ⟨h2, _⟩
      · left; omega
      · left; omega
    · rcases h2 with h2 | ⟨h2, h4⟩
      · left; omega
      · right; exact ⟨by omega, lexB_trans h3 h4⟩
theorem lexB_tot : ∀ {a b : List Int}, lexB a b = false → lexB b a = false → a = b
  | [], [], _, _ => rfl
  | [], _ :: _, h, _ => by cases h
  | _ :: _, [], _, h => by cases h
  | x :: r, y :: q, h1, h2 => by
    simp only [lexB, Bool.or_eq_false_iff, Bool.and_eq_false_iff, decide_eq_false_iff_not] at *
    have : x = y := by omega
    subst this
    have h3 : lexB r q = false := h1.2.elim (fun h => absurd rfl h) id
    have h4 : lexB q r = false := h2.2.elim (fun h => absurd rfl h) id
    rw [lexB_tot h3 h4]
theorem lexB_asym {a b : List Int} (h : lexB a b = true) : lexB b a = false := by
  cases e : lexB b a with
  | false => rfl
  | true => have := lexB_trans h e; rw [lexB_irr] at this; cases this
/-- Not behind. -/
def leB (a b : List Int) : Bool := !lexB b a
theorem leB_trans (a b c : List Int) (h1 : leB a b = true) (h2 : leB b c = true) : leB a c = true := by
  unfold leB at *
  cases e : lexB c a with
  | false => rfl
  | true =>
    cases e1 : lexB b a with
    | true => rw [e1] at h1; cases h1
    | false =>
      cases e2 : lexB a b with
      | true => have := lexB_trans e e2; rw [this] at h2; cases h2
      | false => have := lexB_tot e1 e2; subst this; rw [e] at h2; cases h2
theorem leB_total (a b : List Int) : (leB a b || leB b a) = true := by
  unfold leB
  cases e : lexB b a with
  | false => rfl
  | true => rw [lexB_asym e]; rfl
theorem leB_anti {a b : List Int} (h1 : leB a b = true) (h2 : leB b a = true) : a = b := by
  unfold leB at *
  exact lexB_tot (by simpa using h2) (by simpa using h1)
def srt (l : List (List Int)) : List (List Int) := l.mergeSort leB
theorem srt_perm (l : List (List Int)) : (srt l).Perm l := List.mergeSort_perm l leB
theorem srt_len (l : List (List Int)) : (srt l).length = l.length := (srt_perm l).length_eq
theorem srt_sorted (l : List (List Int)) : (srt l).Pairwise fun a b => leB a b = true := List.pairwise_mergeSort leB_trans leB_total l
theorem srt_is {l m : List (List Int)} (h : m.Perm l) (hs : m.Pairwise fun a b => leB a b = true) : m = srt l :=
  List.Perm.eq_of_pairwise (le := fun a b => leB a b = true) (fun _ _ _ _ => leB_anti) hs (srt_sorted l) (h.trans (srt_perm l).symm)
theorem srt_idem (l : List (List Int)) : srt (srt l) = srt l := (srt_is (List.Perm.refl _) (srt_sorted l)).symm
theorem srt_congr {l m : List (List Int)} (h : l.Perm m) : srt l = srt m := srt_is ((srt_perm l).trans h) (srt_sorted l)
theorem mem_srt {l : List (List Int)} {a : List Int} : a ∈ srt l ↔ a ∈ l := (srt_perm l).mem_iff
/-- A list by its first elements. -/
def lsOf (n : Nat) (A : Nat → List Int) : List (List Int) := (List.range n).map A
@[simp] theorem lsOf_len (n : Nat) (A : Nat → List Int) : (lsOf n A).length = n := by simp [lsOf]
theorem lsOf_get {n j : Nat} {A : Nat → List Int} (h : j < n) : (lsOf n A).getD j [] = A j := by simp [lsOf, h]
theorem lsOf_succ (n : Nat) (A : Nat → List Int) : lsOf (n + 1) A = lsOf n A ++ [A n] := by simp [lsOf, List.range_succ]
theorem lsOf_congr {n : Nat} {A B : Nat → List Int} (h : ∀ j, j < n → A j = B j) : lsOf n A = lsOf n B := List.map_congr_left fun j hj => h j (List.mem_range.1 hj)
theorem mem_lsOf {n : Nat} {A : Nat → List Int} {a : List Int} : a ∈ lsOf n A ↔ ∃ j, j < n ∧ A j = a := by simp [lsOf]
/-- The columns of a list. -/
def col (l : List (List Int)) (c j : Nat) : Int := (l.getD j []).getD c 0
abbrev cols3 (l : List (List Int)) : List (Nat → DV) := [fun j => dI (col l 0 j), fun j => dI (col l 1 j), fun j => dI (col l 2 j)]
abbrev cols7 (l : List (List Int)) : List (Nat → DV) := [fun j => dI (col l 0 j), fun j => dI (col l 1 j), fun j => dI (col l 2 j), fun j => dI (col l 3 j), fun j => dI (col l 4 j), fun j => dI (col l 5 j), fun j => dI (col l 6 j)]
theorem cmpI_neg (x y : Int) : (cmpI x y < 0) = (x < y) := by
  unfold cmpI
  by_cases h : x < y
  · simp [h]
  · by_cases h2 : x > y <;> simp [h, h2]
theorem cmpI_zero (x y : Int) : (cmpI x y = 0) = (x = y) := by
  unfold cmpI
  by_cases h : x < y
  · simp [h]; omega
  · by_cases h2 : x > y
    · simp [h, h2]; omega
    · simp [h, h2]; omega
theorem or3_neg (x y z : Int) : (or3 x y z < 0) ↔ (x < 0 ∨ (x = 0 ∧ (y < 0 ∨ (y = 0 ∧ z < 0)))) := by
  unfold or3
  by_cases h : x = 0
  · by_cases h2 : y = 0
    · simp [h, h2]
    · simp [h, h2]
  · simp [h]
theorem or3_zero (x y z : Int) : (or3 x y z = 0) ↔ (x = 0 ∧ y = 0 ∧ z = 0) := by
  unfold or3
  by_cases h : x = 0
  · by_cases h2 : y = 0
    · simp [h, h2]
    · simp [h, h2]
  · simp [h]
theorem cmpN_lex (a b c d e f : Int) : decide (cmpN a b c d e f < 0) = lexB [a, b, c] [d, e, f] := by
  rw [Bool.eq_iff_iff, decide_eq_true_iff, cmpN, or3_neg]
  simp [lexB, cmpI_neg, cmpI_zero]
theorem cmpN_zero (a b c d e f : Int) : cmpN a b c d e f = 0 ↔ a = d ∧ b = e ∧ c = f := by
  unfold cmpN
  rw [or3_zero]
  simp only [cmpI_zero]
theorem cmpP_lex (k a b c d e f k' a' b' c' d' e' f' : Int) : decide (cmpP k a b c d e f k' a' b' c' d' e' f' < 0) = lexB [k, a, b, c, d, e, f] [k', a', b', c', d', e', f'] := by
  have h1 := cmpN_lex a b c a' b' c'
  have h2 := cmpN_lex d e f d' e' f'
  rw [Bool.eq_iff_iff, decide_eq_true_iff] at h1 h2
  rw [Bool.eq_iff_iff, decide_eq_true_iff, cmpP, or3_neg, h1, h2, cmpN_zero, cmpI_neg, cmpI_zero]
  simp only [lexB, Bool.or_eq_true, Bool.and_eq_true, decide_eq_true_eq, Bool.and_false, Bool.or_false, Bool.false_eq_true, and_false, or_false]
  omega
end Go.Abs
end
