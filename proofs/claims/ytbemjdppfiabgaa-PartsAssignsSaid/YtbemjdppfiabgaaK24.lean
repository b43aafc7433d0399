/- Contracts. -/
import Derived.Test.YtbemjdppfiabgaaK23
import Derived.Test.YtbemjdppfiabgaaK22
set_option linter.unusedVariables false
set_option linter.unusedSimpArgs false
set_option maxRecDepth 100000
namespace Go.Abs
open Go
noncomputable def A135_endsR_c (s : Scf) (k a b : Int) : Ann := { orc := [(2, [(2, .res fun _ => crnV s a b)])], loops := [], cuts := [] }
theorem endsR_c (s : Scf) (k a b : Int) (hn : s.nN ≤ 1000000) (ha : 0 ≤ a ∧ a < s.nN) (hb : 0 ≤ b ∧ b < s.nN) : FnC prog 135 [scfD s, dM k a b] (.lst (endN k a b) [fun j => dI (endX s k a b j)]) := by
  refine FnC_owed hmix (A135_endsR_c s k a b) (V := .ite (k == 6) (.need [FnC prog 130 [.agg [.lst s.nN [fun i => (dI (s.X i)), fun i => (dI (s.Y i)), fun i => (dI (s.Z i))], .lst s.nM [fun i => (dI (s.K i)), fun i => (dI (s.A i)), fun i => (dI (s.B i))]], .val (.agg (Array.mk [.int .i64 k, .int .i64 a, .int .i64 b]))] (.val (.agg (Array.mk [.int .i64 a, .int .i64 (nAt s s.nN (s.X b.toNat) (s.Y a.toNat) (s.Z a.toNat)), .int .i64 b, .int .i64 (nAt s s.nN (s.X a.toNat) (s.Y b.toNat) (s.Z a.toNat))])))] (.need [(0:Int) ≤ 0 ∧ (0:Int) < (↑(4:Nat) : Int), (0:Int) ≤ 1 ∧ (1:Int) < (↑(4:Nat) : Int), (0:Int) ≤ 2 ∧ (2:Int) < (↑(4:Nat) : Int), (0:Int) ≤ 3 ∧ (3:Int) < (↑(4:Nat) : Int)] (.done [(4:Nat) ≤ 4, (4:Nat) = endN k a b, ∀ i < endN k a b, List.getD [a, nAt s s.nN (s.X b.toNat) (s.Y a.toNat) (s.Z a.toNat), b, nAt s s.nN (s.X a.toNat) (s.Y b.toNat) (s.Z a.toNat)] i (0:Int) = endX s k a b i]))) (.ite (a == b) (.done [(1:Nat) ≤ 1, (1:Nat) = endN k a b, ∀ i < endN k a b, a = endX s k a b i]) (.done [(2:Nat) ≤ 2, (2:Nat) = endN k a b, ∀ i < endN k a b, List.getD [a, b] i (0:Int) = endX s k a b i]))) (by kernel_rfl) ?_
  simp only [VT.holds, AllT, Sq]
  refine ⟨fun h => ⟨corners_c s k a b hn ha hb, by omega, Nat.le_refl _, by rw [endN, if_pos h], fun i hi => ?_⟩, fun h => ⟨fun e => ⟨by omega, by rw [endN, if_neg h, if_pos e], fun i hi => ?_⟩, fun e => ⟨by omega, by rw [endN, if_neg h, if_neg e], fun i hi => ?_⟩⟩⟩
  · rw [endN, if_pos h] at hi
    rw [endX, if_pos h]
    match i, hi with
    | 0, _ => rfl
    | 1, _ => rfl
    | 2, _ => rfl
    | 3, _ => rfl
  · rw [endN, if_neg h, if_pos e] at hi
    rw [endX, if_neg h, if_pos (by omega)]
  · rw [endN, if_neg h, if_neg e] at hi
    rw [endX, if_neg h]
    match i, hi with
    | 0, _ => rfl
    | 1, _ => rfl
end Go.Abs
