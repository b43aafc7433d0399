/- Contracts. -/
import Derived.Test.YtmcgfoacmalbjaaGreatDoorK10
set_option maxRecDepth 100000
namespace Go.Abs
open Go
theorem nAt_none {s : Scf} {x y z : Int} : ∀ {n : Nat}, (∀ j, j < n → ¬ (s.X j = x ∧ s.Y j = y ∧ s.Z j = z)) → nAt s n x y z = -1
  | 0, _ => rfl
  | n + 1, h => by rw [nAt, nAt_none (fun j hj => h j (by omega)), if_neg (by decide), if_neg (h n (by omega))]
theorem nAt_at {s : Scf} {x y z : Int} {i : Nat} (h : ∀ j, j < i → ¬ (s.X j = x ∧ s.Y j = y ∧ s.Z j = z)) (hi : s.X i = x ∧ s.Y i = y ∧ s.Z i = z) : ∀ {n : Nat}, i < n → nAt s n x y z = i
  | n + 1, hn => by
    rcases Nat.lt_or_ge i n with h1 | h1
    · rw [nAt, nAt_at h hi h1, if_pos (by omega)]
    · obtain rfl : i = n := by omega
      rw [nAt, nAt_none h, if_neg (by decide), if_pos hi]
theorem nAt_no {s : Scf} {x y z : Int} : ∀ {n : Nat}, ¬ 0 ≤ nAt s n x y z → ∀ j, j < n → ¬ (s.X j = x ∧ s.Y j = y ∧ s.Z j = z)
  | n + 1, h, j, hj => by
    rw [nAt] at h
    split at h
    · exact absurd (by assumption) h
    · rename_i h0
      split at h
      · exact absurd (Int.natCast_nonneg n) h
      · rename_i h1
        rcases Nat.lt_or_ge j n with h2 | h2
        · exact nAt_no h0 j h2
        · obtain rfl : j = n := by omega
          exact h1
theorem nAt_bd {s : Scf} {x y z : Int} : ∀ {n : Nat}, 0 ≤ nAt s n x y z → nAt s n x y z < n
  | 0, h => absurd h (by show ¬ (0:Int) ≤ -1; decide)
  | n + 1, h => by
    rw [nAt] at h ⊢
    split
    · rename_i h0; have := nAt_bd h0; omega
    · split
      · omega
      · rename_i h1 h2; rw [if_neg h1, if_neg h2] at h; exact absurd h (by decide)
theorem nAt_keep {s : Scf} {x y z : Int} {i : Nat} (h : 0 ≤ nAt s i x y z) : ∀ {n : Nat}, i ≤ n → nAt s n x y z = nAt s i x y z := by
  intro n hn
  induction hn with
  | refl => rfl
  | step _ ih => rw [nAt, ih, if_pos h]
theorem nAt_self {s : Scf} {i : Nat} (hi : i < s.nN) : nAt s s.nN (s.X i) (s.Y i) (s.Z i) = i ↔ ¬ 0 ≤ nAt s i (s.X i) (s.Y i) (s.Z i) := by
  constructor
  · intro h h0
    have := nAt_bd h0
    rw [nAt_keep h0 (by omega)] at h
    omega
  · intro h
    exact nAt_at (nAt_no h) ⟨rfl, rfl, rfl⟩ hi
theorem seen_iff {s : Scf} {l : List Int} : ∀ {n : Nat}, seenH s n l = false ↔ ∀ j, j < n → l ≠ [s.K j, s.A j, s.B j]
  | 0 => ⟨fun _ j hj => absurd hj (Nat.not_lt_zero j), fun _ => rfl⟩
  | n + 1 => by
    have ih := seen_iff (s := s) (l := l) (n := n)
    rw [seenH, Bool.or_eq_false_iff, ih, sameM, decide_eq_false_iff_not]
    constructor
    · rintro ⟨h1, h2⟩ j hj
      rcases Nat.lt_or_ge j n with h3 | h3
      · exact h2 j h3
      · obtain rfl : j = n := by omega
        exact h1
    · intro h
      exact ⟨h n (by omega), fun j hj => h j (by omega)⟩
abbrev fewF (s : Scf) : Bool := decide (s.nN ≤ 40 ∧ s.nM ≤ 120)
abbrev crnV (s : Scf) (a b : Int) : DV := .val (.agg #[.int .i64 a, .int .i64 (nAt s s.nN (s.X b.toNat) (s.Y a.toNat) (s.Z a.toNat)), .int .i64 b, .int .i64 (nAt s s.nN (s.X a.toNat) (s.Y b.toNat) (s.Z a.toNat))])
noncomputable def A24_within3_c (n lo hi : Int) : Ann := { orc := [], loops := [], cuts := [] }
theorem within3_c (n lo hi : Int)  : FnC prog 24 [dI n, dI lo, dI hi] (dB (decide (lo ≤ n ∧ n ≤ hi))) := by
  refine FnC_owed hmix (A24_within3_c n lo hi) (V := .need [ri (decide (n ≥ lo) = true), ri (decide (n ≥ lo) = true), ri (decide (n ≥ lo) = true)] (.done [(if decide (n ≥ lo) = true then decide (n ≤ hi) else false) = decide (lo ≤ n ∧ n ≤ hi)])) (by kernel_rfl) ?_
  simp only [VT.holds, AllT, Sq]
  rw [← Bool.decide_and]
noncomputable def A22_coord_c (n : Int) : Ann := { orc := [(1, [(1, .res fun q => dB (decide (aI q 1 ≤ aI q 0 ∧ aI q 0 ≤ aI q 2)))])], loops := [], cuts := [] }
theorem coord_c (n : Int)  : FnC prog 22 [dI n] (dB (inC n)) := by
  refine FnC_owed hmix (A22_coord_c n) (V := .need [FnC prog 24 [(dI n), (dI (-1000000:Int)), (dI (1000000:Int))] ((dB (decide ((-1000000:Int) ≤ n ∧ n ≤ 1000000))))] (.done [decide ((-1000000:Int) ≤ n ∧ n ≤ 1000000) = inC n])) (by kernel_rfl) ?_
  simp only [VT.holds, AllT, Sq]
  exact ⟨within3_c _ _ _, rfl⟩
noncomputable def A23_nodeAt_c (s : Scf) (x y z : Int) : Ann := { orc := [], loops := [(0, { ι := Nat, keep := [2, 3, 4], boxes := [2, 3], ts := fun _ i => [(5, dI (i : Int))], inv := fun _ i => i ≤ s.nN ∧ ∀ j, j < i → ¬ (s.X j = x ∧ s.Y j = y ∧ s.Z j = z), mu := fun _ i => s.nN - i, rd := fun _ σ => (iOf (σ.get 5)).toNat })], cuts := [] }
noncomputable abbrev nodeAt_cr0 (s : Scf) (r : List Prop) : List Prop := ((0:Int) = (0:Int)) :: (s.nN = s.nN) :: (∀ (i : Nat), i < s.nN → s.X i = s.X i) :: (∀ (i : Nat), i < s.nN → s.Y i = s.Y i) :: (∀ (i : Nat), i < s.nN → s.Z i = s.Z i) :: (s.nM = s.nM) :: (∀ (i : Nat), i < s.nM → s.K i = s.K i) :: (∀ (i : Nat), i < s.nM → s.A i = s.A i) :: (∀ (i : Nat), i < s.nM → s.B i = s.B i) :: r
theorem nodeAt_c (s : Scf) (x y z : Int) (hn : s.nN ≤ 1000000) : FnC prog 23 [scfD s, dN x y z] (dI (nAt s s.nN x y z)) := by
  refine FnC_owed hmix (A23_nodeAt_c s x y z) (V := .loop Nat (fun a => a ≤ s.nN ∧ ∀ (j : Nat), j < a → ¬(s.X j = x ∧ s.Y j = y ∧ s.Z j = z)) (0:Int).toNat (((0:Int) = (↑(0:Int).toNat : Int)) :: (nodeAt_cr0 s [x = x, y = y, z = z])) fun i => .ite (decide ((i:Int) < (s.nN:Int))) (.need [(0:Int) ≤ (i:Int) ∧ (i:Int) < (s.nN:Int)] (.ite (s.X (i:Int).toNat == x && (s.Y (i:Int).toNat == y && (s.Z (i:Int).toNat == z && true))) (.done [(i:Int) = nAt s s.nN x y z]) (.need [i64In ((i:Int) + 1)] (.done (((i:Int) + 1 = (↑((i:Int) + 1).toNat : Int)) :: (nodeAt_cr0 s [x = x, y = y, z = z, Int.toNat ((i:Int) + 1) ≤ s.nN ∧ ∀ (j : Nat), j < ((i:Int) + 1).toNat → ¬(s.X j = x ∧ s.Y j = y ∧ s.Z j = z), s.nN - ((i:Int) + 1).toNat < s.nN - i])))))) (.done [(-1:Int) = nAt s s.nN x y z])) (by kernel_rfl) ?_
  simp only [VT.holds, AllT, nodeAt_cr0, Sq]
  refine ⟨rfl, ⟨Nat.zero_le _, fun j hj => absurd hj (Nat.not_lt_zero j)⟩, fun i ⟨hi, hb⟩ => ⟨fun hlt => ⟨by omega, fun h => (nAt_at hb h (by omega)).symm, fun h => ⟨by unfold i64In; omega, by omega, ⟨by omega, fun j hj => ?_⟩, by omega⟩⟩, fun hge => ?_⟩⟩
  · rcases Nat.lt_or_ge j i with h9 | h9
    · exact hb j h9
    · obtain rfl : j = i := by omega
      exact fun ⟨a, b, c⟩ => absurd (h a b c) (by decide)
  · obtain rfl : i = s.nN := by omega
    exact (nAt_none hb).symm
noncomputable def A5_few_c (s : Scf) : Ann := { orc := [], loops := [], cuts := [] }
noncomputable abbrev qmb (s : Scf) : Bool := decide ((s.nN:Int) ≤ (40:Int))
theorem few_c (s : Scf)  : FnC prog 5 [scfD s] (dB (fewF s)) := by
  refine FnC_owed hmix (A5_few_c s) (V := .need [ri ((qmb s) = true), ri ((qmb s) = true), ri ((qmb s) = true), ri ((qmb s) = true)] (.done [(if (qmb s) = true then decide ((s.nM:Int) ≤ 120) else false) = decide (s.nN ≤ 40 ∧ s.nM ≤ 120)])) (by kernel_rfl) ?_
  simp only [qmb, VT.holds, AllT, Sq]
  rw [← Bool.decide_and]
  exact decide_eq_decide.2 (by omega)
noncomputable def A46_corners_c (s : Scf) (k a b : Int) : Ann := { orc := [(2, [(10, .res fun q => dI (nAt s s.nN (fI 0 (arg q 1)) (fI 1 (arg q 1)) (fI 2 (arg q 1)))), (21, .res fun q => dI (nAt s s.nN (fI 0 (arg q 1)) (fI 1 (arg q 1)) (fI 2 (arg q 1))))])], loops := [], cuts := [] }
theorem corners_c (s : Scf) (k a b : Int) (hn : s.nN ≤ 1000000) (ha : 0 ≤ a ∧ a < s.nN) (hb : 0 ≤ b ∧ b < s.nN) : FnC prog 46 [scfD s, dM k a b] (crnV s a b) := by
  refine FnC_owed hmix (A46_corners_c s k a b) (V := .need [(0:Int) ≤ a ∧ a < (s.nN:Int), (0:Int) ≤ b ∧ b < (s.nN:Int)] (.need [FnC prog 23 [scfD s, .val (.agg (Array.mk [.int .i64 (s.X b.toNat), .int .i64 (s.Y a.toNat), .int .i64 (s.Z a.toNat)]))] ((dI (nAt s s.nN (s.X b.toNat) (s.Y a.toNat) (s.Z a.toNat)))), FnC prog 23 [scfD s, .val (.agg (Array.mk [.int .i64 (s.X a.toNat), .int .i64 (s.Y b.toNat), .int .i64 (s.Z a.toNat)]))] ((dI (nAt s s.nN (s.X a.toNat) (s.Y b.toNat) (s.Z a.toNat))))] (.done [a = a, nAt s s.nN (s.X b.toNat) (s.Y a.toNat) (s.Z a.toNat) = nAt s s.nN (s.X b.toNat) (s.Y a.toNat) (s.Z a.toNat), b = b, nAt s s.nN (s.X a.toNat) (s.Y b.toNat) (s.Z a.toNat) = nAt s s.nN (s.X a.toNat) (s.Y b.toNat) (s.Z a.toNat)]))) (by kernel_rfl) ?_
  simp only [VT.holds, AllT, Sq]
  exact ⟨⟨ha, hb⟩, nodeAt_c s _ _ _ hn, nodeAt_c s _ _ _ hn⟩
noncomputable def A25_geometry_c (s : Scf) (k a b : Int) : Ann := { orc := [(10, [(2, .res fun q => crnV s (fI 1 (arg q 1)) (fI 2 (arg q 1)))])], loops := [], cuts := [] }
noncomputable abbrev ql (s : Scf) (a : Int) (b : Int) : Bool := decide (s.Z (Int.toNat a) < s.Z (Int.toNat b))
noncomputable abbrev qc (s : Scf) (a : Int) (b : Int) : Bool := decide (s.X (Int.toNat a) < s.X (Int.toNat b))
noncomputable abbrev qjc (s : Scf) (a : Int) (b : Int) : Bool := decide (s.Y (Int.toNat a) < s.Y (Int.toNat b))
noncomputable abbrev qjb (s : Scf) (a : Int) (b : Int) : Bool := if (qc s a b) = true then s.Y (Int.toNat a) == s.Y (Int.toNat b) else false
noncomputable abbrev qk (s : Scf) (a : Int) (b : Int) : Bool := if (s.Z (Int.toNat a) == s.Z (Int.toNat b)) = true then (qc s a b) else false
noncomputable abbrev qu (s : Scf) (a : Int) (b : Int) : Bool := if (qk s a b) = true then (qjc s a b) else false
noncomputable abbrev qnc (s : Scf) (b : Int) (a : Int) : Bool := decide (nAt s s.nN (s.X (Int.toNat b)) (s.Y (Int.toNat a)) (s.Z (Int.toNat a)) ≥ (0:Int))
noncomputable abbrev qo (s : Scf) (a : Int) (b : Int) : Bool := if (qu s a b) = true then (qnc s b a) else false
noncomputable abbrev qv (s : Scf) (a : Int) (b : Int) : Bool := if (s.X (Int.toNat a) == s.X (Int.toNat b)) = true then s.Y (Int.toNat a) == s.Y (Int.toNat b) else false
noncomputable abbrev q1b (s : Scf) (a : Int) (b : Int) : Bool := if (s.Z (Int.toNat a) == s.Z (Int.toNat b)) = true then if (qjb s a b) = true then true else if (s.X (Int.toNat a) == s.X (Int.toNat b)) = true then (qjc s a b) else false else false
theorem geometry_c (s : Scf) (k a b : Int) (hn : s.nN ≤ 1000000) (hk : 0 ≤ k ∧ k ≤ 9) (ha : 0 ≤ a ∧ a < s.nN) (hb : 0 ≤ b ∧ b < s.nN) : FnC prog 25 [scfD s, dM k a b] (dB (rgtF s s.nN k a b)) := by
  refine FnC_owed hmix (A25_geometry_c s k a b) (V := .need [(0:Int) ≤ a ∧ a < (s.nN:Int), (0:Int) ≤ b ∧ b < (s.nN:Int)] (.need [ri ((s.X a.toNat == s.X b.toNat) = true), ri ((s.X a.toNat == s.X b.toNat) = true), ri ((s.X a.toNat == s.X b.toNat) = true), ri ((s.X a.toNat == s.X b.toNat) = true), ri ((s.X a.toNat == s.X b.toNat) = true), ri ((qv s a b) = true), ri ((qv s a b) = true), ri ((qv s a b) = true), ri ((qv s a b) = true), ri ((qv s a b) = true)] (.ite (k == 0) (.ite (k == 0) (.done [(if (qv s a b) = true then (ql s a b) else false) = rgtF s s.nN k a b]) (.ite (k == 3) (.need [ri ((ql s a b) = true), ri ((ql s a b) = true)] (.done [(if (ql s a b) = true then !if (qv s a b) = true then (ql s a b) else false else false) = rgtF s s.nN k a b])) (.ite (k == 6) (.need [FnC prog 46 [scfD s, .val (.agg (Array.mk [.int .i64 k, .int .i64 a, .int .i64 b]))] (.val (.agg (Array.mk [.int .i64 a, .int .i64 (nAt s s.nN (s.X b.toNat) (s.Y a.toNat) (s.Z a.toNat)), .int .i64 b, .int .i64 (nAt s s.nN (s.X a.toNat) (s.Y b.toNat) (s.Z a.toNat))])))] (.need [ri ((s.Z a.toNat == s.Z b.toNat) = true), ri ((s.Z a.toNat == s.Z b.toNat) = true), ri ((s.Z a.toNat == s.Z b.toNat) = true), ri ((s.Z a.toNat == s.Z b.toNat) = true), ri ((s.Z a.toNat == s.Z b.toNat) = true), ri ((qk s a b) = true), ri ((qk s a b) = true), ri ((qk s a b) = true), ri ((qk s a b) = true), ri ((qk s a b) = true), (qu s a b) = true → (0:Int) ≤ 1 ∧ (1:Int) < (↑(4:Nat) : Int), ri ((qu s a b) = true), ri ((qu s a b) = true), ri ((qu s a b) = true), (qo s a b) = true → (0:Int) ≤ 3 ∧ (3:Int) < (↑(4:Nat) : Int), ri ((qo s a b) = true), ri ((qo s a b) = true), ri ((qo s a b) = true)] (.done [(if (qo s a b) = true then decide (nAt s s.nN (s.X a.toNat) (s.Y b.toNat) (s.Z a.toNat) ≥ 0) else false) = rgtF s s.nN k a b]))) (.ite (k == 8) (.ite (k == 8) (.done [(a == b) = rgtF s s.nN k a b]) (.need [ri ((s.Z a.toNat == s.Z b.toNat) = true), ri ((s.Z a.toNat == s.Z b.toNat) = true), ri ((s.Z a.toNat == s.Z b.toNat) = true), ri ((s.Z a.toNat == s.Z b.toNat) = true), ri ((s.Z a.toNat == s.Z b.toNat) = true), ri ((s.Z a.toNat == s.Z b.toNat && (qc s a b)) = true), ri ((s.Z a.toNat == s.Z b.toNat && (qc s a b)) = true), ri ((s.Z a.toNat == s.Z b.toNat && (qc s a b)) = true), ri ((s.Z a.toNat == s.Z b.toNat && (qc s a b)) = true), ri ((s.Z a.toNat == s.Z b.toNat) = true), (s.Z a.toNat == s.Z b.toNat) = true → (qc s a b) = true → (s.Z a.toNat == s.Z b.toNat && (qc s a b)) = true, ri ((s.Z a.toNat == s.Z b.toNat) = true), ri ((s.Z a.toNat == s.Z b.toNat && !if (qc s a b) = true then s.Y a.toNat == s.Y b.toNat else false) = true), ri ((s.Z a.toNat == s.Z b.toNat && !if (qc s a b) = true then s.Y a.toNat == s.Y b.toNat else false) = true), ri ((s.Z a.toNat == s.Z b.toNat && !if (qc s a b) = true then s.Y a.toNat == s.Y b.toNat else false) = true), ri ((s.Z a.toNat == s.Z b.toNat && !if (qc s a b) = true then s.Y a.toNat == s.Y b.toNat else false) = true), ri ((s.Z a.toNat == s.Z b.toNat && !if (qc s a b) = true then s.Y a.toNat == s.Y b.toNat else false) = true), ri (((s.Z a.toNat == s.Z b.toNat && !if (qc s a b) = true then s.Y a.toNat == s.Y b.toNat else false) && s.X a.toNat == s.X b.toNat) = true), ri (((s.Z a.toNat == s.Z b.toNat && !if (qc s a b) = true then s.Y a.toNat == s.Y b.toNat else false) && s.X a.toNat == s.X b.toNat) = true), ri (((s.Z a.toNat == s.Z b.toNat && !if (qc s a b) = true then s.Y a.toNat == s.Y b.toNat else false) && s.X a.toNat == s.X b.toNat) = true), ri (((s.Z a.toNat == s.Z b.toNat && !if (qc s a b) = true then s.Y a.toNat == s.Y b.toNat else false) && s.X a.toNat == s.X b.toNat) = true), ri ((s.Z a.toNat == s.Z b.toNat && !if (qc s a b) = true then s.Y a.toNat == s.Y b.toNat else false) = true), (s.Z a.toNat == s.Z b.toNat && !if (qc s a b) = true then s.Y a.toNat == s.Y b.toNat else false) = true → (s.X a.toNat == s.X b.toNat) = true → ((s.Z a.toNat == s.Z b.toNat && !if (qc s a b) = true then s.Y a.toNat == s.Y b.toNat else false) && s.X a.toNat == s.X b.toNat) = true, ri ((s.Z a.toNat == s.Z b.toNat) = true), (s.Z a.toNat == s.Z b.toNat) = true → (qjb s a b) = false → (s.Z a.toNat == s.Z b.toNat && !if (qc s a b) = true then s.Y a.toNat == s.Y b.toNat else false) = true, ri ((s.Z a.toNat == s.Z b.toNat) = true)] (.done [(q1b s a b) = rgtF s s.nN k a b]))) (.ite (k == 9) (.done [(a == b) = rgtF s s.nN k a b]) (.need [ri ((s.Z a.toNat == s.Z b.toNat) = true), ri ((s.Z a.toNat == s.Z b.toNat) = true), ri ((s.Z a.toNat == s.Z b.toNat) = true), ri ((s.Z a.toNat == s.Z b.toNat) = true), ri ((s.Z a.toNat == s.Z b.toNat) = true), ri ((s.Z a.toNat == s.Z b.toNat && (qc s a b)) = true), ri ((s.Z a.toNat == s.Z b.toNat && (qc s a b)) = true), ri ((s.Z a.toNat == s.Z b.toNat && (qc s a b)) = true), ri ((s.Z a.toNat == s.Z b.toNat && (qc s a b)) = true), ri ((s.Z a.toNat == s.Z b.toNat) = true), (s.Z a.toNat == s.Z b.toNat) = true → (qc s a b) = true → (s.Z a.toNat == s.Z b.toNat && (qc s a b)) = true, ri ((s.Z a.toNat == s.Z b.toNat) = true), ri ((s.Z a.toNat == s.Z b.toNat && !if (qc s a b) = true then s.Y a.toNat == s.Y b.toNat else false) = true), ri ((s.Z a.toNat == s.Z b.toNat && !if (qc s a b) = true then s.Y a.toNat == s.Y b.toNat else false) = true), ri ((s.Z a.toNat == s.Z b.toNat && !if (qc s a b) = true then s.Y a.toNat == s.Y b.toNat else false) = true), ri ((s.Z a.toNat == s.Z b.toNat && !if (qc s a b) = true then s.Y a.toNat == s.Y b.toNat else false) = true), ri ((s.Z a.toNat == s.Z b.toNat && !if (qc s a b) = true then s.Y a.toNat == s.Y b.toNat else false) = true), ri (((s.Z a.toNat == s.Z b.toNat && !if (qc s a b) = true then s.Y a.toNat == s.Y b.toNat else false) && s.X a.toNat == s.X b.toNat) = true), ri (((s.Z a.toNat == s.Z b.toNat && !if (qc s a b) = true then s.Y a.toNat == s.Y b.toNat else false) && s.X a.toNat == s.X b.toNat) = true), ri (((s.Z a.toNat == s.Z b.toNat && !if (qc s a b) = true then s.Y a.toNat == s.Y b.toNat else false) && s.X a.toNat == s.X b.toNat) = true), ri (((s.Z a.toNat == s.Z b.toNat && !if (qc s a b) = true then s.Y a.toNat == s.Y b.toNat else false) && s.X a.toNat == s.X b.toNat) = true), ri ((s.Z a.toNat == s.Z b.toNat && !if (qc s a b) = true then s.Y a.toNat == s.Y b.toNat else false) = true), (s.Z a.toNat == s.Z b.toNat && !if (qc s a b) = true then s.Y a.toNat == s.Y b.toNat else false) = true → (s.X a.toNat == s.X b.toNat) = true → ((s.Z a.toNat == s.Z b.toNat && !if (qc s a b) = true then
     s.Y a.toNat == s.Y b.toNat else false) && s.X a.toNat == s.X b.toNat) = true, ri ((s.Z a.toNat == s.Z b.toNat) = true), (s.Z a.toNat == s.Z b.toNat) = true → (qjb s a b) = false → (s.Z a.toNat == s.Z b.toNat && !if (qc s a b) = true then s.Y a.toNat == s.Y b.toNat else false) = true, ri ((s.Z a.toNat == s.Z b.toNat) = true)] (.done [(q1b s a b) = rgtF s s.nN k a b]))))))) (.ite (k == 7) (.done [(if (qv s a b) = true then (ql s a b) else false) = rgtF s s.nN k a b]) (.ite (k == 3) (.need [ri ((ql s a b) = true), ri ((ql s a b) = true)] (.done [(if (ql s a b) = true then !if (qv s a b) = true then (ql s a b) else false else false) = rgtF s s.nN k a b])) (.ite (k == 6) (.need [FnC prog 46 [scfD s, .val (.agg (Array.mk [.int .i64 k, .int .i64 a, .int .i64 b]))] (.val (.agg (Array.mk [.int .i64 a, .int .i64 (nAt s s.nN (s.X b.toNat) (s.Y a.toNat) (s.Z a.toNat)), .int .i64 b, .int .i64 (nAt s s.nN (s.X a.toNat) (s.Y b.toNat) (s.Z a.toNat))])))] (.need [ri ((s.Z a.toNat == s.Z b.toNat) = true), ri ((s.Z a.toNat == s.Z b.toNat) = true), ri ((s.Z a.toNat == s.Z b.toNat) = true), ri ((s.Z a.toNat == s.Z b.toNat) = true), ri ((s.Z a.toNat == s.Z b.toNat) = true), ri ((qk s a b) = true), ri ((qk s a b) = true), ri ((qk s a b) = true), ri ((qk s a b) = true), ri ((qk s a b) = true), (qu s a b) = true → (0:Int) ≤ 1 ∧ (1:Int) < (↑(4:Nat) : Int), ri ((qu s a b) = true), ri ((qu s a b) = true), ri ((qu s a b) = true), (qo s a b) = true → (0:Int) ≤ 3 ∧ (3:Int) < (↑(4:Nat) : Int), ri ((qo s a b) = true), ri ((qo s a b) = true), ri ((qo s a b) = true)] (.done [(if (qo s a b) = true then decide (nAt s s.nN (s.X a.toNat) (s.Y b.toNat) (s.Z a.toNat) ≥ 0) else false) = rgtF s s.nN k a b]))) (.ite (k == 8) (.ite (k == 8) (.done [(a == b) = rgtF s s.nN k a b]) (.need [ri ((s.Z a.toNat == s.Z b.toNat) = true), ri ((s.Z a.toNat == s.Z b.toNat) = true), ri ((s.Z a.toNat == s.Z b.toNat) = true), ri ((s.Z a.toNat == s.Z b.toNat) = true), ri ((s.Z a.toNat == s.Z b.toNat) = true), ri ((s.Z a.toNat == s.Z b.toNat && (qc s a b)) = true), ri ((s.Z a.toNat == s.Z b.toNat && (qc s a b)) = true), ri ((s.Z a.toNat == s.Z b.toNat && (qc s a b)) = true), ri ((s.Z a.toNat == s.Z b.toNat && (qc s a b)) = true), ri ((s.Z a.toNat == s.Z b.toNat) = true), (s.Z a.toNat == s.Z b.toNat) = true → (qc s a b) = true → (s.Z a.toNat == s.Z b.toNat && (qc s a b)) = true, ri ((s.Z a.toNat == s.Z b.toNat) = true), ri ((s.Z a.toNat == s.Z b.toNat && !if (qc s a b) = true then s.Y a.toNat == s.Y b.toNat else false) = true), ri ((s.Z a.toNat == s.Z b.toNat && !if (qc s a b) = true then s.Y a.toNat == s.Y b.toNat else false) = true), ri ((s.Z a.toNat == s.Z b.toNat && !if (qc s a b) = true then s.Y a.toNat == s.Y b.toNat else false) = true), ri ((s.Z a.toNat == s.Z b.toNat && !if (qc s a b) = true then s.Y a.toNat == s.Y b.toNat else false) = true), ri ((s.Z a.toNat == s.Z b.toNat && !if (qc s a b) = true then s.Y a.toNat == s.Y b.toNat else false) = true), ri (((s.Z a.toNat == s.Z b.toNat && !if (qc s a b) = true then s.Y a.toNat == s.Y b.toNat else false) && s.X a.toNat == s.X b.toNat) = true), ri (((s.Z a.toNat == s.Z b.toNat && !if (qc s a b) = true then s.Y a.toNat == s.Y b.toNat else false) && s.X a.toNat == s.X b.toNat) = true), ri (((s.Z a.toNat == s.Z b.toNat && !if (qc s a b) = true then s.Y a.toNat == s.Y b.toNat else false) && s.X a.toNat == s.X b.toNat) = true), ri (((s.Z a.toNat == s.Z b.toNat && !if (qc s a b) = true then s.Y a.toNat == s.Y b.toNat else false) && s.X a.toNat == s.X b.toNat) = true), ri ((s.Z a.toNat == s.Z b.toNat && !if (qc s a b) = true then s.Y a.toNat == s.Y b.toNat else false) = true), (s.Z a.toNat == s.Z b.toNat && !if (qc s a b) = true then s.Y a.toNat == s.Y b.toNat else false) = true → (s.X a.toNat == s.X
     b.toNat) = true → ((s.Z a.toNat == s.Z b.toNat && !if (qc s a b) = true then s.Y a.toNat == s.Y b.toNat else false) && s.X a.toNat == s.X b.toNat) = true, ri ((s.Z a.toNat == s.Z b.toNat) = true), (s.Z a.toNat == s.Z b.toNat) = true → (qjb s a b) = false → (s.Z a.toNat == s.Z b.toNat && !if (qc s a b) = true then s.Y a.toNat == s.Y b.toNat else false) = true, ri ((s.Z a.toNat == s.Z b.toNat) = true)] (.done [(q1b s a b) = rgtF s s.nN k a b]))) (.ite (k == 9) (.done [(a == b) = rgtF s s.nN k a b]) (.need [ri ((s.Z a.toNat == s.Z b.toNat) = true), ri ((s.Z a.toNat == s.Z b.toNat) = true), ri ((s.Z a.toNat == s.Z b.toNat) = true), ri ((s.Z a.toNat == s.Z b.toNat) = true), ri ((s.Z a.toNat == s.Z b.toNat) = true), ri ((s.Z a.toNat == s.Z b.toNat && (qc s a b)) = true), ri ((s.Z a.toNat == s.Z b.toNat && (qc s a b)) = true), ri ((s.Z a.toNat == s.Z b.toNat && (qc s a b)) = true), ri ((s.Z a.toNat == s.Z b.toNat && (qc s a b)) = true), ri ((s.Z a.toNat == s.Z b.toNat) = true), (s.Z a.toNat == s.Z b.toNat) =
     true → (qc s a b) = true → (s.Z a.toNat == s.Z b.toNat && (qc s a b)) = true, ri ((s.Z a.toNat == s.Z b.toNat) = true), ri ((s.Z a.toNat == s.Z b.toNat && !if (qc s a b) = true then s.Y a.toNat == s.Y b.toNat else false) = true), ri ((s.Z a.toNat == s.Z b.toNat && !if (qc s a b) = true then s.Y a.toNat == s.Y b.toNat else false) = true), ri ((s.Z a.toNat == s.Z b.toNat && !if (qc s a b) = true then s.Y a.toNat == s.Y b.toNat else false) = true), ri ((s.Z a.toNat == s.Z b.toNat && !if (qc s a b) = true then s.Y a.toNat == s.Y b.toNat else false) = true), ri ((s.Z a.toNat == s.Z b.toNat && !if (qc s a b) = true then s.Y a.toNat == s.Y b.toNat else false) = true), ri (((s.Z a.toNat == s.Z b.toNat && !if (qc s a b) = true then s.Y a.toNat == s.Y b.toNat else false) && s.X a.toNat == s.X b.toNat) = true), ri (((s.Z a.toNat == s.Z b.toNat && !if (qc s a b) = true then s.Y a.toNat == s.Y b.toNat else false) && s.X a.toNat == s.X b.toNat) = true), ri (((s.Z a.toNat == s.Z b.toNat && !if (qc s a b) = true then s.Y a.toNat == s.Y b.toNat else false) && s.X a.toNat == s.X b.toNat) = true), ri (((s.Z a.toNat == s.Z b.toNat && !if (qc s a b) = true then s.Y a.toNat == s.Y b.toNat else false) && s.X a.toNat == s.X b.toNat) = true), ri ((s.Z a.toNat == s.Z b.toNat && !if (qc s a b) = true then s.Y a.toNat == s.Y b.toNat else false) = true), (s.Z a.toNat == s.Z b.toNat && !if (qc s a b) = true then s.Y a.toNat == s.Y b.toNat else false) = true → (s.X a.toNat == s.X b.toNat) = true → ((s.Z a.toNat == s.Z b.toNat && !if (qc s a b) = true then s.Y a.toNat == s.Y b.toNat else false) && s.X a.toNat == s.X b.toNat) = true, ri ((s.Z a.toNat == s.Z b.toNat) = true), (s.Z a.toNat == s.Z b.toNat) = true → (qjb s a b) = false → (s.Z a.toNat == s.Z b.toNat &&
     !if (qc s a b) = true then s.Y a.toNat == s.Y b.toNat else false) = true, ri ((s.Z a.toNat == s.Z b.toNat) = true)] (.done [(q1b s a b) = rgtF s s.nN k a b])))))))))) (by kernel_rfl) ?_
  simp only [ql, qc, qjc, qjb, qk, qu, qnc, qo, qv, q1b, VT.holds, AllT, Sq]
  have hcr : FnC prog 46 [scfD s, dM k a b] (.val (.agg #[.int .i64 a, .int .i64 (nAt s s.nN (s.X b.toNat) (s.Y a.toNat) (s.Z a.toNat)), .int .i64 b, .int .i64 (nAt s s.nN (s.X a.toNat) (s.Y b.toNat) (s.Z a.toNat))])) := corners_c s k a b hn ha hb
  refine ⟨⟨ha, hb⟩, ?_⟩
  have e1 : atH s s.nN [s.X b.toNat, s.Y a.toNat, s.Z a.toNat] = decide (0 ≤ nAt s s.nN (s.X b.toNat) (s.Y a.toNat) (s.Z a.toNat)) := rfl
  have e2 : atH s s.nN [s.X a.toNat, s.Y b.toNat, s.Z a.toNat] = decide (0 ≤ nAt s s.nN (s.X a.toNat) (s.Y b.toNat) (s.Z a.toNat)) := rfl
  unfold rgtF
  rw [e1, e2]
  generalize nAt s s.nN (s.X b.toNat) (s.Y a.toNat) (s.Z a.toNat) = c1 at *
  generalize nAt s s.nN (s.X a.toNat) (s.Y b.toNat) (s.Z a.toNat) = c3 at *
  generalize s.X a.toNat = ax
  generalize s.Y a.toNat = ay
  generalize s.Z a.toNat = az
  generalize s.X b.toNat = bx
  generalize s.Y b.toNat = by_
  generalize s.Z b.toNat = bz
  have hk' : k = 0 ∨ k = 1 ∨ k = 2 ∨ k = 3 ∨ k = 4 ∨ k = 5 ∨ k = 6 ∨ k = 7 ∨ k = 8 ∨ k = 9 := by omega
  clear hk ha hb e1 e2
  rcases hk' with rfl | rfl | rfl | rfl | rfl | rfl | rfl | rfl | rfl | rfl
  · unfold geoF; simp; grind
  · unfold geoF; simp; grind
  · unfold geoF; simp; grind
  · unfold geoF; simp; grind
  · unfold geoF; simp; grind
  · unfold geoF; simp; grind
  · unfold geoF; simp; exact ⟨hcr, by grind⟩
  · unfold geoF; simp; grind
  · unfold geoF; simp; try grind
  · unfold geoF; simp; try grind
noncomputable def A7_check_c (s : Scf) : Ann := { orc := [(7, [(2, .res fun q => dB (inC (aI q 0))), (7, .res fun q => dB (inC (aI q 0))), (13, .res fun q => dB (inC (aI q 0)))]), (9, [(2, .res fun q => dI (nAt s s.nN (fI 0 (arg q 1)) (fI 1 (arg q 1)) (fI 2 (arg q 1))))]), (15, [(2, .res fun q => dB (decide (aI q 1 ≤ aI q 0 ∧ aI q 0 ≤ aI q 2)))]), (17, [(6, .res fun q => dB (decide (aI q 1 ≤ aI q 0 ∧ aI q 0 ≤ aI q 2))), (15, .res fun q => dB (decide (aI q 1 ≤ aI q 0 ∧ aI q 0 ≤ aI q 2)))]), (19, [(2, .res fun q => dB (rgtF s s.nN (fI 0 (arg q 1)) (fI 1 (arg q 1)) (fI 2 (arg q 1))))])], loops := [(0, { ι := Nat, keep := [1], boxes := [1], ts := fun _ i => [(3, dI (i : Int))], inv := fun _ i => i ≤ s.nN ∧ ∀ k, k < i → nodE s k = 0, mu := fun _ i => s.nN - i, rd := fun _ σ => (iOf (σ.get 3)).toNat }), (2, { ι := Nat, keep := [1], boxes := [1], ts := fun _ i => [(5, dI (i : Int))], inv := fun _ i => i ≤ s.nM ∧ ∀ k, k < i → memE s k = 0, mu := fun _ i => s.nM - i, rd := fun _ σ => (iOf (σ.get 5)).toNat }), (4, { ι := Nat, keep := [1, 5, 6], boxes := [1, 6], ts := fun _ i => [(7, dI (i : Int))], inv := fun σ i => (i : Int) ≤ iOf (σ.get 5) ∧ ∀ j, j < i → ¬ (s.K j = s.K (iOf (σ.get 5)).toNat ∧ s.A j = s.A (iOf (σ.get 5)).toNat ∧ s.B j = s.B (iOf (σ.get 5)).toNat), mu := fun σ i => (iOf (σ.get 5)).toNat - i, rd := fun _ σ => (iOf (σ.get 7)).toNat })], cuts := [] }
noncomputable abbrev q0b (s : Scf) (i : Nat) : Bool := !inC (s.X (Int.toNat (i:Int)))
noncomputable abbrev qrb (s : Scf) (i : Nat) : Bool := !!inC (s.X (Int.toNat (i:Int)))
noncomputable abbrev qcb (s : Scf) : Bool := decide ((s.nN:Int) > (1000:Int))
noncomputable abbrev qib (s : Scf) (i : Nat) : Bool := !if (q0b s i) = true then true else !inC (s.Y (Int.toNat (i:Int)))
noncomputable abbrev qf (s : Scf) (i : Nat) : Bool := decide ((0:Int) ≤ s.A (Int.toNat (i:Int)) ∧ s.A (Int.toNat (i:Int)) ≤ (s.nN:Int) - (1:Int))
noncomputable abbrev check_cr0 (s : Scf) (r : List Prop) : List Prop := (s.nN = s.nN) :: (∀ (i : Nat), i < s.nN → s.X i = s.X i) :: (∀ (i : Nat), i < s.nN → s.Y i = s.Y i) :: (∀ (i : Nat), i < s.nN → s.Z i = s.Z i) :: (s.nM = s.nM) :: (∀ (i : Nat), i < s.nM → s.K i = s.K i) :: (∀ (i : Nat), i < s.nM → s.A i = s.A i) :: (∀ (i : Nat), i < s.nM → s.B i = s.B i) :: r
theorem check_c (s : Scf)  : FnC prog 7 [scfD s] (dI (chkE s)) := by
  refine FnC_owed hmix (A7_check_c s) (V := .need [ri ((!(qcb s)) = true), ri ((!(qcb s)) = true), ri ((!(qcb s)) = true), (qcb s) = false → (!(qcb s)) = true] (.ite (if (qcb s) = true then true else decide ((s.nM:Int) > 4000)) (.done [(8:Int) = chkE s]) (.loop Nat (fun a => a ≤ s.nN ∧ ∀ (k : Nat), k < a → nodE s k = 0) (0:Int).toNat (((0:Int) = (↑(0:Int).toNat : Int)) :: (check_cr0 s [])) fun i => .ite (decide ((i:Int) < (s.nN:Int))) (.need [(0:Int) ≤ (i:Int) ∧ (i:Int) < (s.nN:Int)] (.need [FnC prog 22 [(dI (s.X (i:Int).toNat))] ((dB (inC (s.X (i:Int).toNat)))), ri ((qrb s i) = true), ri ((qrb s i) = true), (qrb s i) = true → FnC prog 22 [(dI (s.Y (i:Int).toNat))] ((dB (inC (s.Y (i:Int).toNat)))), ri ((qrb s i) = true), (q0b s i) = false → (qrb s i) = true, ri ((qib s i) = true), ri ((qib s i) = true), (qib s i) = true → FnC prog 22 [(dI (s.Z (i:Int).toNat))] ((dB (inC (s.Z (i:Int).toNat)))), ri ((qib s i) = true), (if (q0b s i) = true then true else !inC (s.Y (i:Int).toNat)) = false → (qib s i) = true] (.ite (if (if (q0b s i) = true then true else !inC (s.Y (i:Int).toNat)) = true then true else !inC (s.Z (i:Int).toNat)) (.done [(2:Int) = chkE s]) (.need [FnC prog 23 [scfD s, .val (.agg (Array.mk [.int .i64 (s.X (i:Int).toNat), .int .i64 (s.Y (i:Int).toNat), .int .i64 (s.Z (i:Int).toNat)]))] ((dI (nAt s s.nN
     (s.X (i:Int).toNat) (s.Y (i:Int).toNat) (s.Z (i:Int).toNat))))] (.ite (nAt s s.nN (s.X (i:Int).toNat) (s.Y (i:Int).toNat) (s.Z (i:Int).toNat) != (i:Int)) (.done [(5:Int) = chkE s]) (.need [i64In ((i:Int) + 1)] (.done (((i:Int) + 1 = (↑((i:Int) + 1).toNat : Int)) :: (check_cr0 s [Int.toNat ((i:Int) + 1) ≤ s.nN ∧ ∀ (k : Nat), k < ((i:Int) + 1).toNat → nodE s k = 0, s.nN - ((i:Int) + 1).toNat < s.nN - i]))))))))) (.loop Nat (fun a => a ≤ s.nM ∧ ∀ (k : Nat), k < a → memE s k = 0) (0:Int).toNat (((0:Int) = (↑(0:Int).toNat : Int)) :: (check_cr0 s [])) fun i => .ite (decide ((i:Int) < (s.nM:Int))) (.need [(0:Int) ≤ (i:Int) ∧ (i:Int) < (s.nM:Int)] (.need [FnC prog 24 [(dI (s.K (i:Int).toNat)), (dI (0:Int)), (dI (9:Int))] ((dB (decide ((0:Int) ≤ s.K (i:Int).toNat ∧ s.K (i:Int).toNat ≤ 9))))] (.ite (!decide ((0:Int) ≤ s.K (i:Int).toNat ∧ s.K (i:Int).toNat ≤ 9)) (.done [(2:Int) = chkE s]) (.need [i64In ((s.nN:Int) - 1), FnC prog 24 [(dI (s.A (i:Int).toNat)), (dI (0:Int)), (dI ((s.nN:Int) - 1))] ((dB ((qf s i)))), ri ((!!(qf s i)) = true), ri ((!!(qf s i)) = true), ri ((!!(qf s i)) = true), ri ((!!(qf s i)) = true), (!!(qf s i)) = true → i64In ((s.nN:Int) - 1), ri ((!!(qf s i)) = true), ri ((!!(qf s i)) = true), (!!(qf s i)) = true → FnC prog 24 [(dI (s.B (i:Int).toNat)), (dI (0:Int)), (dI ((s.nN:Int) - 1))] ((dB (decide ((0:Int) ≤ s.B (i:Int).toNat ∧ s.B (i:Int).toNat ≤ (↑s.nN :
     Int) - 1)))), ri ((!!(qf s i)) = true), (!(qf s i)) = false → (!!(qf s i)) = true] (.ite (if (!(qf s i)) = true then true else !decide ((0:Int) ≤ s.B (i:Int).toNat ∧ s.B (i:Int).toNat ≤ (s.nN:Int) - 1)) (.done [(6:Int) = chkE s]) (.need [FnC prog 25 [scfD s, .val (.agg (Array.mk [.int .i64 (s.K (i:Int).toNat), .int .i64 (s.A (i:Int).toNat), .int .i64 (s.B (i:Int).toNat)]))] ((dB (rgtF s s.nN (s.K (i:Int).toNat) (s.A (i:Int).toNat) (s.B (i:Int).toNat))))] (.ite (!rgtF s s.nN (s.K (i:Int).toNat) (s.A (i:Int).toNat) (s.B (i:Int).toNat)) (.done [(3:Int) = chkE s]) (.loop Nat (fun a => (a:Int) ≤ (i:Int) ∧ ∀ (j : Nat), j < a → ¬(s.K j = s.K (i:Int).toNat ∧ s.A j = s.A (i:Int).toNat ∧ s.B j = s.B (i:Int).toNat)) (0:Int).toNat (((0:Int) = (↑(0:Int).toNat : Int)) :: (((i:Int) = (i:Int)) :: (check_cr0 s [s.K (i:Int).toNat = s.K (i:Int).toNat, s.A (i:Int).toNat = s.A (i:Int).toNat, s.B (i:Int).toNat = s.B (i:Int).toNat]))) fun i_1 => .ite (decide ((i_1:Int) < (i:Int))) (.need [(0:Int) ≤ (i_1:Int) ∧ (i_1:Int) < (s.nM:Int)] (.ite (s.K (i_1:Int).toNat == s.K (i:Int).toNat && (s.A (i_1:Int).toNat == s.A (i:Int).toNat && (s.B (i_1:Int).toNat == s.B (i:Int).toNat && true))) (.done [(5:Int) = chkE s]) (.need [i64In ((i_1:Int) + 1)] (.done (((i_1:Int) + 1 = (↑((i_1:Int) + 1).toNat : Int)) :: (((i:Int) = (i:Int)) :: (check_cr0 s [s.K (i:Int).toNat = s.K (i:Int).toNat, s.A (i:Int).toNat
     = s.A (i:Int).toNat, s.B (i:Int).toNat = s.B (i:Int).toNat, (↑((i_1:Int) + 1).toNat : Int) ≤ (i:Int) ∧ ∀ (j : Nat), j < ((i_1:Int) + 1).toNat → ¬(s.K j = s.K (i:Int).toNat ∧ s.A j = s.A (i:Int).toNat ∧ s.B j = s.B (i:Int).toNat), Int.toNat (i:Int) - ((i_1:Int) + 1).toNat < (i:Int).toNat - i_1]))))))) (.need [i64In ((i:Int) + 1)] (.done (((i:Int) + 1 = (↑((i:Int) + 1).toNat : Int)) :: (check_cr0 s [Int.toNat ((i:Int) + 1) ≤ s.nM ∧ ∀ (k : Nat), k < ((i:Int) + 1).toNat → memE s k = 0, s.nM - ((i:Int) + 1).toNat < s.nM - i])))))))))))) (.done [(0:Int) = chkE s]))))) (by kernel_rfl) ?_
  simp only [q0b, qrb, qcb, qib, qf, VT.holds, AllT, Sq]
  refine ⟨fun h => by rw [chkE, if_pos (by omega)], fun h0 => ⟨rfl, ⟨Nat.zero_le _, fun k hk => absurd hk (Nat.not_lt_zero k)⟩, fun i ⟨hi, hb⟩ => ⟨fun hlt => ?_, fun hge => ?_⟩⟩⟩
  · have hlt : i < s.nN := by omega
    refine ⟨by omega, ⟨coord_c _, fun _ => coord_c _, fun _ => coord_c _⟩, fun h => chk_node h0 hlt hb (e := 2) ?_ (by decide), fun ⟨h12, h3⟩ => ?_⟩
    · rw [nodE, if_pos]
      rcases h with (h | h) | h <;> simp [h]
    · have hc3 : ¬ (inC (s.X i) && (inC (s.Y i) && inC (s.Z i))) = false := by
        cases e1 : inC (s.X i) with
        | false => exact absurd (.inl e1) h12
        | true =>
          cases e2 : inC (s.Y i) with
          | false => exact absurd (.inr e2) h12
          | true => rw [h3]; decide
      refine ⟨nodeAt_c s _ _ _ (by omega), fun h => chk_node h0 hlt hb (e := 5) ?_ (by decide), fun h => ⟨by unfold i64In; omega, by omega, ⟨by omega, fun k hk => ?_⟩, by omega⟩⟩
      · rw [nodE, if_neg hc3, if_pos]
        exact Decidable.not_not.1 fun hn => h ((nAt_self hlt).2 hn)
      · rcases Nat.lt_or_ge k i with h9 | h9
        · exact hb k h9
        · obtain rfl : k = i := by omega
          rw [nodE, if_neg hc3, if_neg ((nAt_self hlt).1 h)]
  · obtain rfl : i = s.nN := by omega
    refine ⟨rfl, ⟨Nat.zero_le _, fun k hk => absurd hk (Nat.not_lt_zero k)⟩, fun i ⟨hi, hm⟩ => ⟨fun hlt => ?_, fun hge => ?_⟩⟩
    · have hlt : i < s.nM := by omega
      have n1 : i64In ((s.nN : Int) - 1) := by unfold i64In; omega
      refine ⟨by omega, within3_c _ _ _, fun h => chk_memb h0 hb hlt hm (e := 2) ?_ (by decide), fun hK => ⟨⟨n1, within3_c _ _ _, fun _ => n1, fun _ => within3_c _ _ _⟩, fun h => chk_memb h0 hb hlt hm (e := 6) ?_ (by decide), fun ⟨hA', hB'⟩ => ?_⟩⟩
      · rw [memE, if_pos h]
      · rw [memE, if_neg (by simpa using hK), if_pos (by omega)]
      · have hA : 0 ≤ s.A i ∧ s.A i < s.nN := by have := Decidable.not_not.1 hA'; omega
        have hB : 0 ≤ s.B i ∧ s.B i < s.nN := by omega
        refine ⟨geometry_c s _ _ _ (by omega) hK hA hB, fun h => chk_memb h0 hb hlt hm (e := 3) ?_ (by decide), fun hr => ⟨rfl, ⟨by omega, fun j hj => absurd hj (Nat.not_lt_zero j)⟩, fun j ⟨hj, hbj⟩ => ⟨fun hji => ⟨by omega, fun h => chk_memb h0 hb hlt hm (e := 5) ?_ (by decide), fun h => ⟨by unfold i64In; omega, by omega, ⟨by omega, fun q hq => ?_⟩, by omega⟩⟩, fun hji => ⟨by unfold i64In; omega, by omega, ⟨by omega, fun k hk => ?_⟩, by omega⟩⟩⟩⟩
        · rw [memE, if_neg (by simpa using hK), if_neg (by omega), if_pos h]
        · rw [memE, if_neg (by simpa using hK), if_neg (by omega), if_neg (by simp [hr]), if_pos]
          cases e : seenH s i [s.K i, s.A i, s.B i] with
          | true => rfl
          | false =>
            have := seen_iff.1 e j (by omega)
            exact absurd (by rw [h.1, h.2.1, h.2.2]) this
        · rcases Nat.lt_or_ge q j with h9 | h9
          · exact hbj q h9
          · obtain rfl : q = j := by omega
            exact fun ⟨a, b, c⟩ => absurd (h a b c) (by decide)
        · rcases Nat.lt_or_ge k i with h9 | h9
          · exact hm k h9
          · obtain rfl : k = i := by omega
            have hs : seenH s k [s.K k, s.A k, s.B k] = false := seen_iff.2 fun q hq he => by
              simp only [List.cons.injEq, and_true] at he
              exact hbj q (by omega) ⟨he.1.symm, he.2.1.symm, he.2.2.symm⟩
            rw [memE, if_neg (by simpa using hK), if_neg (by omega), if_neg (by simp [hr]), if_neg (by rw [hs]; decide)]
    · obtain rfl : i = s.nM := by omega
      exact chk_ok h0 hb hm
end Go.Abs
