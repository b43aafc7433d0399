/- Contracts. -/
import Derived.Test.YtmcgfoacmalbjaaGreatDoorAbsV
import Derived.Test.YtmcgfoacmalbjaaGreatDoorProg
set_option maxRecDepth 100000
namespace Go.Abs
open Go
noncomputable abbrev prog : Program := Go.Proofs.Tryz.prog
theorem hmix : prog.follows .mixedOrders = true := by kernel_rfl
abbrev dN (x y z : Int) : DV := .val (.agg #[.int .i64 x, .int .i64 y, .int .i64 z])
abbrev aI (l : List DV) (j : Nat) : Int := iOf (arg l j)
theorem toNat_succ (i : Nat) : Int.toNat ((i : Int) + 1) = i + 1 := by omega
theorem toNat_add2 (i : Nat) : Int.toNat ((i : Int) + 2) = i + 2 := by omega
theorem toNat_zero' : Int.toNat 0 = 0 := rfl
def inC (x : Int) : Bool := decide (-1000000 ≤ x ∧ x ≤ 1000000)
noncomputable def A57_within_c (n m : Int) : Ann := { orc := [], loops := [], cuts := [] }
theorem within_c (n m : Int)  : FnC prog 57 [dI n, dI m] (dB (decide (0 ≤ n ∧ n ≤ m))) := by
  refine FnC_owed hmix (A57_within_c n m) (V := .need [ri (decide (n ≥ 0) = true), ri (decide (n ≥ 0) = true), ri (decide (n ≥ 0) = true)] (.done [(if decide (n ≥ 0) = true then decide (n ≤ m) else false) = decide ((0:Int) ≤ n ∧ n ≤ m)])) (by kernel_rfl) ?_
  simp only [VT.holds, AllT, Sq]
  exact (Bool.decide_and _ _).symm
noncomputable def A37_pairOf_c (a b : Int) : Ann := { orc := [], loops := [], cuts := [] }
theorem pairOf_c (a b : Int)  : FnC prog 37 [dI a, dI b] (.val (.agg #[.int .i64 (min a b), .int .i64 (max a b)])) := by
  refine FnC_owed hmix (A37_pairOf_c a b) (V := .done [mins a [b] = min a b, maxs a [b] = max a b]) (by kernel_rfl) ?_
  simp only [VT.holds, AllT, Sq]
  refine ⟨?_, ?_⟩
  · show (if b < a then b else a) = min a b
    split <;> omega
  · show (if b > a then b else a) = max a b
    split <;> omega
noncomputable def A55_inSpace_c (x y z : Int) : Ann := { orc := [], loops := [], cuts := [], unroll := [(0, 4)] }
noncomputable abbrev qyb : Bool := decide ((0:Int) < (-1000000:Int))
theorem inSpace_c (x y z : Int)  : FnC prog 55 [dN x y z] (dB (inC x && (inC y && inC z))) := by
  refine FnC_owed hmix (A55_inSpace_c x y z) (V := .ite (decide ((0:Int) < 3)) (.need [(0:Int) ≤ 0 ∧ (0:Int) < (↑(3:Nat) : Int)] (.need [ri ((!decide (x < (-1000000:Int))) = true), decide (x < (-1000000:Int)) = false → (!decide (x < (-1000000:Int))) = true] (.ite (if decide (x < (-1000000:Int)) = true then true else decide (x > 1000000)) (.done [false = (inC x && (inC y && inC z))]) (.need [i64In (1:Int)] (.ite (decide ((1:Int) < 3)) (.need [(0:Int) ≤ 1 ∧ (1:Int) < (↑(3:Nat) : Int)] (.need [ri ((!decide (y < (-1000000:Int))) = true), decide (y < (-1000000:Int)) = false → (!decide (y < (-1000000:Int))) = true] (.ite (if decide (y < (-1000000:Int)) = true then true else decide (y > 1000000)) (.done [false = (inC x && (inC y && inC z))]) (.need [i64In (2:Int)] (.ite (decide ((2:Int) < 3)) (.need [(0:Int) ≤ 2 ∧ (2:Int) < (↑(3:Nat) : Int)] (.need [ri ((!decide (z < (-1000000:Int))) = true), decide (z < (-1000000:Int)) = false → (!decide (z < (-1000000:Int))) = true] (.ite (if decide (z < (-1000000:Int)) = true then true else decide (z > 1000000)) (.done [false = (inC x && (inC y && inC z))]) (.need [i64In (3:Int)] (.ite (decide ((3:Int) < 3)) (.need [(0:Int) ≤ 3 ∧ (3:Int) < (↑(3:Nat) : Int)] (.need [ri ((!(qyb)) = true), (qyb) = false → (!(qyb)) = true] (.ite (if (qyb) = true then true else decide ((0:Int) > 1000000)) (.done [false = (inC x && (inC y && inC z))]) (.need [i64In (4:Int)] (.done [False]))))) (.done [true = (inC x && (inC y && inC z))])))))) (.done [true = (inC x && (inC y && inC z))])))))) (.done [true = (inC x && (inC y && inC z))])))))) (.done [true = (inC x && (inC y && inC z))])) (by kernel_rfl) ?_
  simp only [qyb, VT.holds, AllT, Sq]
  simp only [inC]
  refine ⟨fun _ => ⟨by decide, fun h => by simp; omega, fun h => ⟨by unfold i64In; omega, fun _ => ⟨by decide, fun h2 => by simp; omega, fun h2 => ⟨by unfold i64In; omega, fun _ => ⟨by decide, fun h3 => by simp; omega, fun h3 => ⟨by unfold i64In; omega, fun h4 => by omega, fun _ => by simp; omega⟩⟩, fun h4 => by omega⟩⟩, fun h4 => by omega⟩⟩, fun h4 => by omega⟩
end Go.Abs
