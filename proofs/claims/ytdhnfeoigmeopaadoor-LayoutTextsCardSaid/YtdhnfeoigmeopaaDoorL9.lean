/- Contracts. Contracts. -/
import Derived.Test.YtdhnfeoigmeopaaDoorL7
section
set_option maxRecDepth 100000
namespace Go.Abs
open Go
end Go.Abs
end
section
set_option maxRecDepth 100000
namespace Go.Abs
open Go
abbrev plB (i : Nat) : Int := [1000, 2500].getD i 0
abbrev plO (_ : Nat) : Int := 500
abbrev plain : DV := sys 2 plB 1 plO 700 300 2000
def plT (k : Nat) : Int := [0, 10000, 10001, 20001, 20002, 1, 10001].getD k 0
def rPlain : Orc := .res fun _ => plain
theorem plain_sys : sysE 2 plB 1 plO 700 300 2000 = 0 := by decide +kernel
theorem plain_unit : unitP 2 plB 1 plO 3 = 500 := by decide +kernel
theorem plain_meas (len : Int) (h : 0 ≤ len) (h2 : len ≤ 2000000) : measE 2 plB 1 plO 700 300 2000 len = 0 := by
  rw [measE, if_pos plain_sys, plain_unit, if_neg (by omega), if_neg (by omega)]
theorem plain_ways : waysS 2 plB 1 plO 2000 = 3 := by decide +kernel
theorem plain_tab : ∀ k, k < 7 → tabS 2 plB 1 plO k = plT k := by decide +kernel
noncomputable def A4_awake_c  : Ann := { orc := [(1, [(0, rPlain), (1, .res fun _ => .tup [nums 7 (tabS 2 plB 1 plO), dI 0])]), (2, [(0, rPlain), (1, .res fun _ => .tup [dI 3, dI 0])]), (3, [(0, rPlain), (4, .res fun _ => .tup [dP 2 2, dI 0])]), (4, [(5, .res fun _ => dB true)])], loops := [], cuts := [] }
noncomputable abbrev qbb : Bool := if ((0:Int) == (0:Int)) = true then true else false
noncomputable abbrev qz : Bool := if (qbb) = true then (0:Int) == (0:Int) else false
noncomputable abbrev qib : Bool := if (qz) = true then (3:Int) == (3:Int) else false
noncomputable abbrev qy : Bool := if (qib) = true then (0:Int) == (0:Int) else false
noncomputable abbrev awake_cd0 : DV := .agg [.lst (2:Nat) [fun i => (dI (List.getD [(1000:Int), (2500:Int)] i (0:Int)))], .lst (1:Nat) [fun i => (dI (500:Int))], (dI (700:Int)), (dI (300:Int)), (dI (2000:Int))]
theorem awake_c   : FnC prog 4 [] (dB true) := by
  refine FnC_owed hmix (A4_awake_c ) (V := .need [FnC prog 9 [] ((awake_cd0)), FnC prog 8 [(awake_cd0), (dI (3000:Int))] (.tup [.lst (7:Nat) [fun i => (dI (tabS 2 (fun i => List.getD [(1000:Int), (2500:Int)] i (0:Int)) (1:Nat) (fun x => (500:Int)) i))], (dI (0:Int))])] (.need [FnC prog 9 [] ((awake_cd0)), FnC prog 10 [(awake_cd0), (dI (2000:Int))] (.tup [(dI (3:Int)), (dI (0:Int))])] (.need [FnC prog 9 [] ((awake_cd0)), (2:Nat) ≤ 2, (1:Nat) ≤ 1, FnC prog 11 [(awake_cd0), .agg [.lst (2:Nat) [fun i => (dI (List.getD [(2500:Int), (1000:Int)] i (0:Int)))], .lst (1:Nat) [fun i => (dI (500:Int))]]] (.tup [.val (.agg (Array.mk [.int .i64 (2:Int), .int .i64 (2:Int)])), (dI (0:Int))])] (.need [((0:Int) == 0) = true, ri (((0:Int) == 0) = true), ri (((0:Int) == 0) = true), ((0:Int) == 0) = true → (7:Nat) ≤ 7, ((0:Int) == 0) = true → FnC prog 12 [.lst (7:Nat) [fun i => (dI (tabS 2 (fun i => List.getD [(1000:Int), (2500:Int)] i (0:Int)) (1:Nat) (fun x => (500:Int)) i))], .lst (7:Nat) [fun i => (dI (List.getD [(0:Int), (10000:Int), (10001:Int), (20001:Int), (20002:Int), (1:Int), (10001:Int)] i (0:Int)))]] ((dB true)), ri (((0:Int) == 0) = true), ri ((qbb) = true), ri ((qbb) = true), ri ((qz) = true), ri ((qz) = true), ri ((qib) = true), ri ((qib) = true), ri ((qy) = true), ri ((qy) = true), ri ((qy) = true)] (.done [(if (qy) = true then (2:Int) == 2 && ((2:Int) == 2 && true) else false) = true]))))) (by kernel_rfl) ?_
  simp only [qbb, qz, qib, qy, VT.holds, AllT, Sq]
  have p := plain_c
  have t := tableTop_c 2 plB 1 plO 700 300 2000 3000
  have w := waysTop_c 2 plB 1 plO 700 300 2000 2000
  have c := costTop_c 2 plB 1 plO 700 300 2000 2 (fun a => [2500, 1000].getD a 0) 1 (fun _ => 500) (by omega) (by omega)
  rw [show tabN 2 plB 1 plO 700 300 2000 3000 = 7 by rw [tabN, if_pos (plain_meas _ (by omega) (by omega)), plain_unit]; rfl, plain_meas _ (by omega) (by omega)] at t
  rw [show waysE 2 plB 1 plO 700 300 2000 2000 = 0 by rw [waysE, if_pos (plain_meas _ (by omega) (by omega)), plain_unit, if_pos (by decide), plain_ways]; rfl,
    show waysV 2 plB 1 plO 700 300 2000 2000 = 3 by rw [waysV, if_pos (plain_meas _ (by omega) (by omega)), plain_unit, if_pos (by decide), plain_ways]; rfl] at w
  have hb : bothE 2 plB 1 plO 700 300 2000 2 (fun a => [2500, 1000].getD a 0) 1 (fun _ => 500) = 0 := by decide +kernel
  rw [hb, if_pos rfl, if_pos rfl] at c
  have hi := ints_c 7 (tabS 2 plB 1 plO) 7 plT (by omega)
  rw [show sameN 7 (tabS 2 plB 1 plO) 7 plT = true from decide_eq_true ⟨rfl, plain_tab⟩] at hi
  exact ⟨⟨p, t⟩, ⟨p, w⟩, ⟨p, Nat.le_refl _, Nat.le_refl _, c⟩, fun _ => Nat.le_refl _, fun _ => hi⟩
end Go.Abs
end
