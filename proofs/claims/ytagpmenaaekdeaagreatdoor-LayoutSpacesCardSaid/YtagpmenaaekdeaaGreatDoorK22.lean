/- Contracts. Contracts. -/
import Derived.Test.YtagpmenaaekdeaaGreatDoorK20
section
set_option linter.unusedVariables false
set_option linter.unusedSimpArgs false
set_option maxRecDepth 100000
namespace Go.Abs
open Go
section
variable {b : Bld} {s : Int}
theorem shp_no (h : shpB b = false) : ¬ (b.nS < 1 ∨ b.nS > 20 ∨ b.nO > 100 ∨ b.nB > 50) := fun h1 => by rw [shpB_spec.2 h1] at h; cases h
theorem small_ok (h : smallF b = true) : b.nS ≤ 25 ∧ b.nO ≤ 105 ∧ b.nB ≤ 55 ∧ ∀ i, i < b.nS → b.N i ≤ 45 := by
  unfold smallF at h
  rw [decide_eq_true_eq] at h
  refine ⟨by omega, by omega, by omega, fun i hi => ?_⟩
  have := h.2 i hi
  rw [manyC, decide_eq_false_iff_not] at this
  omega
end
end Go.Abs
end
section
set_option linter.unusedVariables false
set_option linter.unusedSimpArgs false
set_option maxRecDepth 100000
namespace Go.Abs
open Go
def firstI (p : Nat → Bool) : Nat → Int
  | 0 => -1
  | k + 1 => if 0 ≤ firstI p k then firstI p k else if p k = true then (k : Int) else -1
theorem firstI_none {p : Nat → Bool} : ∀ {n : Nat}, (∀ j, j < n → p j = false) → firstI p n = -1
  | 0, _ => rfl
  | n + 1, h => by
    rw [firstI, firstI_none (fun j hj => h j (by omega)), if_neg (by omega), if_neg (by rw [h n (by omega)]; simp)]
theorem firstI_at {p : Nat → Bool} {i : Nat} (h : ∀ j, j < i → p j = false) (hi : p i = true) : ∀ {n : Nat}, i < n → firstI p n = i
  | n + 1, hn => by
    rcases Nat.lt_or_ge i n with h1 | h1
    · have := firstI_at h hi h1
      rw [firstI, this, if_pos (by omega)]
    · have : i = n := by omega
      subst this
      rw [firstI, firstI_none h, if_neg (by omega), if_pos hi]
def okI (b : Bld) (x1 y1 z1 x2 y2 z2 : Int) (i : Nat) : Bool := okC x1 y1 z1 x2 y2 z2 (b.B i 0) (b.B i 1) (b.B i 2) (b.B i 3) (b.B i 4) (b.B i 5)
theorem okC_comm (a1 b1 c1 d1 e1 f1 a2 b2 c2 d2 e2 f2 : Int) : okC a1 b1 c1 d1 e1 f1 a2 b2 c2 d2 e2 f2 = okC a2 b2 c2 d2 e2 f2 a1 b1 c1 d1 e1 f1 := by
  unfold okC
  rw [decide_eq_decide]; omega
section
variable {b : Bld} {x1 y1 z1 x2 y2 z2 : Int}
end
noncomputable def A49_forbR_c (b : Bld) (x1 y1 z1 x2 y2 z2 : Int) : Ann := { orc := [(4, [(6, rCmR)])], loops := [(0, { ι := Nat, keep := [2, 3], boxes := [2, 3], ts := fun _ i => [(5, dI (i : Int))], inv := fun _ i => i ≤ b.nB ∧ ∀ j, j < i → okI b x1 y1 z1 x2 y2 z2 j = false, mu := fun _ i => b.nB - i, rd := fun _ σ => (iOf (σ.get 5)).toNat })], cuts := [] }
abbrev forbR_cr0 (b : Bld) (r : List Prop) : List Prop := (b.name = b.name) :: (b.nS = b.nS) :: (∀ (i : Nat), i < b.nS → b.fl i = b.fl i) :: (∀ (i : Nat), i < b.nS → b.N i = b.N i ∧ (∀ (i_1 : Nat), i_1 < b.N i → b.X i i_1 = b.X i i_1) ∧ ∀ (i_1 : Nat), i_1 < b.N i → b.Y i i_1 = b.Y i i_1) :: (b.roof = b.roof) :: (b.nO = b.nO) :: (∀ (i : Nat), i < b.nO → b.O i (0 : Nat) = b.O i (0 : Nat)) :: (∀ (i : Nat), i < b.nO → b.O i (1 : Nat) = b.O i (1 : Nat)) :: (∀ (i : Nat), i < b.nO → b.O i (2 : Nat) = b.O i (2 : Nat)) :: (∀ (i : Nat), i < b.nO → b.O i (3 : Nat) = b.O i (3 : Nat)) :: (∀ (i : Nat), i < b.nO → b.O i (4 : Nat) = b.O i (4 : Nat)) :: (∀ (i : Nat), i < b.nO → b.O i (5 : Nat) = b.O i (5 : Nat)) :: (b.nB = b.nB) :: (∀ (i : Nat), i < b.nB → b.B i (0 : Nat) = b.B i (0 : Nat)) :: (∀ (i : Nat), i < b.nB → b.B i (1 : Nat) = b.B i (1 : Nat)) :: (∀ (i : Nat), i < b.nB → b.B i (2 : Nat) = b.B i (2 : Nat)) :: (∀ (i : Nat), i < b.nB → b.B i (3 : Nat) = b.B i (3 : Nat)) :: (∀ (i : Nat), i < b.nB → b.B i (4 : Nat) = b.B i (4 : Nat)) :: (∀ (i : Nat), i < b.nB → b.B i (5 : Nat) = b.B i (5 : Nat)) :: r
theorem forbR_c (b : Bld) (x1 y1 z1 x2 y2 z2 : Int) (hB : b.nB ≤ 1000) : FnC prog 84 [bld b, bx x1 y1 z1 x2 y2 z2] (dI (firstI (okI b x1 y1 z1 x2 y2 z2) b.nB)) := by
  refine FnC_owed hmix (A49_forbR_c b x1 y1 z1 x2 y2 z2) (V := .loop Nat (fun a => a ≤ b.nB ∧ ∀ (j : Nat), j < a → okI b x1 y1 z1 x2 y2 z2 j = false) (Int.toNat (0 : Int)) (((0 : Int) = (↑(Int.toNat (0 : Int)) : Int)) :: (forbR_cr0 b [x1 = x1, y1 = y1, z1 = z1, x2 = x2, y2 = y2, z2 = z2])) fun i => .ite (decide ((↑i : Int) < (↑b.nB : Int))) (.need [(0 : Int) ≤ (↑i : Int) ∧ (↑i : Int) < (↑b.nB : Int), FnC prog 130 [.val (.agg (Array.mk [.int .i64 (b.B (Int.toNat (↑i : Int)) (0 : Nat)), .int .i64 (b.B (Int.toNat (↑i : Int)) (1 : Nat)), .int .i64 (b.B (Int.toNat (↑i : Int)) (2 : Nat)), .int .i64 (b.B (Int.toNat (↑i : Int)) (3 : Nat)), .int .i64 (b.B (Int.toNat (↑i : Int)) (4 : Nat)), .int .i64 (b.B (Int.toNat (↑i : Int)) (5 : Nat))])), .val (.agg (Array.mk [.int .i64 x1, .int .i64 y1, .int .i64 z1, .int .i64 x2, .int .i64 y2, .int .i64 z2]))] (.tup [.val (.agg (Array.mk [.int .i64 (cmR (okC (b.B (Int.toNat (↑i : Int)) (0 : Nat)) (b.B (Int.toNat (↑i : Int)) (1 : Nat)) (b.B (Int.toNat (↑i : Int)) (2 : Nat)) (b.B (Int.toNat (↑i : Int)) (3 : Nat)) (b.B (Int.toNat (↑i : Int)) (4 : Nat)) (b.B (Int.toNat (↑i : Int)) (5 : Nat)) x1 y1 z1 x2 y2 z2) (max (b.B (Int.toNat (↑i : Int)) (0 : Nat)) x1)), .int .i64 (cmR (okC (b.B (Int.toNat (↑i : Int)) (0 : Nat)) (b.B (Int.toNat (↑i : Int)) (1 : Nat)) (b.B (Int.toNat (↑i : Int)) (2 : Nat)) (b.B (Int.toNat (↑i : Int)) (3 : Nat)) (b.B (Int.toNat (↑i : Int)) (4 : Nat)) (b.B (Int.toNat (↑i : Int)) (5 : Nat)) x1 y1 z1 x2 y2 z2) (max (b.B (Int.toNat (↑i : Int)) (1 : Nat)) y1)), .int .i64 (cmR (okC (b.B (Int.toNat (↑i : Int)) (0 : Nat)) (b.B (Int.toNat (↑i : Int)) (1 : Nat)) (b.B (Int.toNat (↑i : Int)) (2 : Nat)) (b.B (Int.toNat (↑i : Int)) (3 : Nat)) (b.B (Int.toNat (↑i : Int)) (4 : Nat)) (b.B (Int.toNat (↑i : Int)) (5 : Nat)) x1 y1 z1 x2 y2 z2) (max (b.B (Int.toNat (↑i : Int)) (2 : Nat)) z1)), .int .i64 (cmR (okC (b.B (Int.toNat (↑i : Int)) (0 : Nat)) (b.B (Int.toNat (↑i : Int)) (1 : Nat)) (b.B (Int.toNat (↑i : Int)) (2 : Nat)) (b.B (Int.toNat (↑i : Int)) (3 : Nat)) (b.B (Int.toNat (↑i : Int)) (4
     : Nat)) (b.B (Int.toNat (↑i : Int)) (5 : Nat)) x1 y1 z1 x2 y2 z2) (min (b.B (Int.toNat (↑i : Int)) (3 : Nat)) x2)), .int .i64 (cmR (okC (b.B (Int.toNat (↑i : Int)) (0 : Nat)) (b.B (Int.toNat (↑i : Int)) (1 : Nat)) (b.B (Int.toNat (↑i : Int)) (2 : Nat)) (b.B (Int.toNat (↑i : Int)) (3 : Nat)) (b.B (Int.toNat (↑i : Int)) (4 : Nat)) (b.B (Int.toNat (↑i : Int)) (5 : Nat)) x1 y1 z1 x2 y2 z2) (min (b.B (Int.toNat (↑i : Int)) (4 : Nat)) y2)), .int .i64 (cmR (okC (b.B (Int.toNat (↑i : Int)) (0 : Nat)) (b.B (Int.toNat (↑i : Int)) (1 : Nat)) (b.B (Int.toNat (↑i : Int)) (2 : Nat)) (b.B (Int.toNat (↑i : Int)) (3 : Nat)) (b.B (Int.toNat (↑i : Int)) (4 : Nat)) (b.B (Int.toNat (↑i : Int)) (5 : Nat)) x1 y1 z1 x2 y2 z2) (min (b.B (Int.toNat (↑i : Int)) (5 : Nat)) z2))])), (dB (okC (b.B (Int.toNat (↑i : Int)) (0 : Nat)) (b.B (Int.toNat (↑i : Int)) (1 : Nat)) (b.B (Int.toNat (↑i : Int)) (2 : Nat)) (b.B (Int.toNat (↑i : Int)) (3 : Nat)) (b.B (Int.toNat (↑i : Int)) (4 : Nat)) (b.B (Int.toNat (↑i : Int)) (5 : Nat)) x1 y1 z1 x2 y2 z2))])] (.ite (okC (b.B (Int.toNat (↑i : Int)) (0 : Nat)) (b.B (Int.toNat (↑i : Int)) (1 : Nat)) (b.B (Int.toNat (↑i : Int)) (2 : Nat)) (b.B (Int.toNat (↑i : Int)) (3 : Nat)) (b.B (Int.toNat (↑i : Int)) (4 : Nat)) (b.B (Int.toNat (↑i : Int)) (5 : Nat)) x1 y1 z1 x2 y2 z2) (.done [(↑i : Int) = firstI (okI b x1 y1 z1 x2 y2 z2) b.nB]) (.need [i64In ((↑i : Int) + (1 : Int))] (.done (((↑i : Int) + (1 : Int) = (↑(Int.toNat ((↑i : Int) + (1 : Int))) : Int)) :: (forbR_cr0 b [x1 = x1, y1 = y1, z1 = z1, x2 = x2, y2 = y2, z2 = z2, Int.toNat ((↑i : Int) + (1 : Int)) ≤ b.nB ∧ ∀ (j : Nat), j < Int.toNat ((↑i : Int) + (1 : Int)) → okI b x1 y1 z1 x2 y2 z2 j = false, b.nB - Int.toNat ((↑i : Int) + (1 : Int)) < b.nB - i])))))) (.done [(-1 : Int) = firstI (okI b x1 y1 z1 x2 y2 z2) b.nB])) (by kernel_rfl) ?_
  simp only [VT.holds, AllT, forbR_cr0, imp_self, implies_true, and_true, true_and, toNat_succ, toNat_add2, toNat_zero', Sq, ne_eq]
  refine ⟨rfl, ⟨Nat.zero_le _, fun j hj => absurd hj (Nat.not_lt_zero j)⟩, fun i ⟨hi, hb⟩ => ⟨fun hlt => ⟨⟨⟨by omega, hlt⟩, commonR_c _ _ _ _ _ _ _ _ _ _ _ _⟩, fun h => ?_, fun h => ⟨by unfold i64In; omega, by omega, ⟨by omega, upto hb ?_⟩, by omega⟩⟩, fun hge => by rw [firstI_none (fun j hj => hb j (by omega))]⟩⟩
  · rw [okC_comm] at h
    exact (firstI_at hb h (by omega)).symm
  · rw [okC_comm] at h
    exact h
end Go.Abs
end
