/- Contracts. -/
import Derived.Test.YteennpofimiliaaGreatDoorK42
set_option linter.unusedVariables false
set_option linter.unusedSimpArgs false
set_option maxRecDepth 100000
namespace Go.Abs
open Go
abbrev plB (i : Nat) : Int := [1000, 2500].getD i 0
abbrev plO (_ : Nat) : Int := 500
abbrev plain : DV := Lay.sys 2 plB 1 plO 700 300 2000
def plT (k : Nat) : Int := [0, 10000, 10001, 20001, 20002, 1, 10001].getD k 0
def rPlain : Orc := .res fun _ => plain
theorem plain_sys : Lay.sysE 2 plB 1 plO 700 300 2000 = 0 := by decide +kernel
theorem plain_unit : Lay.unitP 2 plB 1 plO 3 = 500 := by decide +kernel
theorem plain_meas (len : Int) (h : 0 ≤ len) (h2 : len ≤ 2000000) : Lay.measE 2 plB 1 plO 700 300 2000 len = 0 := by
  rw [Lay.measE, if_pos plain_sys, plain_unit, if_neg (by omega), if_neg (by omega)]
theorem plain_ways : Lay.waysS 2 plB 1 plO 2000 = 3 := by decide +kernel
theorem plain_tab : ∀ k, k < 7 → Lay.tabS 2 plB 1 plO k = plT k := by decide +kernel
abbrev jobD (b : Bld) (nB : Nat) (B : Nat → Int) (nO : Nat) (O : Nat → Int) (W G L : Int) : DV := .agg [.val (.string b.name), .lst b.nS (stoC b), dI b.roof, .lst b.nO (opeC b), .lst b.nB (boxC b), Lay.nums nB B, Lay.nums nO O, dI W, dI G, dI L]
def jobS (b : Bld) (nB nO : Nat) : Bool := smallF b && decide (nB ≤ 12 ∧ nO ≤ 12)
theorem jobS_ok {b : Bld} {nB nO : Nat} (h : jobS b nB nO = true) : (b.nS ≤ 25 ∧ b.nO ≤ 105 ∧ b.nB ≤ 55 ∧ ∀ i, i < b.nS → b.N i ≤ 45) ∧ nB ≤ 12 ∧ nO ≤ 12 := by
  unfold jobS at h
  rw [Bool.and_eq_true, decide_eq_true_eq] at h
  exact ⟨small_ok h.1, h.2⟩
noncomputable def A8_awakeJ_c  : Ann := { orc := [(1, [(0, rPlain), (1, .res fun _ => .tup [Lay.nums 7 (Lay.tabS 2 plB 1 plO), dI 0])]), (2, [(0, rPlain), (1, .res fun _ => .tup [dI 3, dI 0])]), (3, [(0, rPlain), (4, .res fun _ => .tup [dP 2 2, dI 0])]), (4, [(5, .res fun _ => dB true)])], loops := [], cuts := [] }
abbrev q_awakeJ_c_0 : Bool := if ((0:Int) == (0:Int)) = true then true else false
abbrev q_awakeJ_c_1 : Bool := if (q_awakeJ_c_0) = true then (0:Int) == (0:Int) else false
abbrev q_awakeJ_c_2 : Bool := if (q_awakeJ_c_1) = true then (3:Int) == (3:Int) else false
abbrev q_awakeJ_c_3 : Bool := if (q_awakeJ_c_2) = true then (0:Int) == (0:Int) else false
abbrev awakeJ_cd0 : DV := .agg [.lst (2:Nat) [fun i => (dI (List.getD [(1000:Int), (2500:Int)] i (0:Int)))], .lst (1:Nat) [fun i => (dI (500:Int))], (dI (700:Int)), (dI (300:Int)), (dI (2000:Int))]
theorem awakeJ_c   : FnC prog 5 [] (dB true) := by
  refine FnC_owed hmix (A8_awakeJ_c ) (V := .need [FnC prog 25 [] ((awakeJ_cd0)), FnC prog 24 [(awakeJ_cd0), (dI (3000:Int))] (.tup [.lst (7:Nat) [fun i => (dI (Lay.tabS (2:Nat) (fun i => List.getD [(1000:Int), (2500:Int)] i (0:Int)) (1:Nat) (fun x => (500:Int)) i))], (dI (0:Int))])] (.need [FnC prog 25 [] ((awakeJ_cd0)), FnC prog 26 [(awakeJ_cd0), (dI (2000:Int))] (.tup [(dI (3:Int)), (dI (0:Int))])] (.need [FnC prog 25 [] ((awakeJ_cd0)), (2:Nat) ≤ (2:Nat), (1:Nat) ≤ (1:Nat), FnC prog 27 [(awakeJ_cd0), .agg [.lst (2:Nat) [fun i => (dI (List.getD [(2500:Int), (1000:Int)] i (0:Int)))], .lst (1:Nat) [fun i => (dI (500:Int))]]] (.tup [.val (.agg (Array.mk [.int .i64 (2:Int), .int .i64 (2:Int)])), (dI (0:Int))])] (.need [((0:Int) == (0:Int)) = true, ((0:Int) == (0:Int)) = true → ((0:Int) == (0:Int)) = true, ((0:Int) == (0:Int)) = true → ((0:Int) == (0:Int)) = true, ((0:Int) == (0:Int)) = true → (7:Nat) ≤ (7:Nat), ((0:Int) == (0:Int)) = true → FnC prog 28 [.lst (7:Nat) [fun i => (dI (Lay.tabS (2:Nat) (fun i => List.getD [(1000:Int), (2500:Int)] i (0:Int)) (1:Nat) (fun x => (500:Int)) i))], .lst (7:Nat) [fun i => (dI (List.getD [(0:Int), (10000:Int), (10001:Int), (20001:Int), (20002:Int), (1:Int), (10001:Int)] i (0:Int)))]] ((dB true)), ((0:Int) == (0:Int)) = true → ((0:Int) == (0:Int)) = true, (q_awakeJ_c_0) = true → (q_awakeJ_c_0) = true, (q_awakeJ_c_0) = true → (q_awakeJ_c_0) = true, (q_awakeJ_c_1) = true → (q_awakeJ_c_1) = true, (q_awakeJ_c_1) = true → (q_awakeJ_c_1) = true, (q_awakeJ_c_2) = true → (q_awakeJ_c_2) = true, (q_awakeJ_c_2) = true → (q_awakeJ_c_2) = true, (q_awakeJ_c_3) = true → (q_awakeJ_c_3) = true, (q_awakeJ_c_3) = true → (q_awakeJ_c_3) = true, (q_awakeJ_c_3) = true → (q_awakeJ_c_3) = true] (.done [(if (q_awakeJ_c_3) = true then (2:Int) == (2:Int) && ((2:Int) == (2:Int) && true) else false) = true]))))) (by kernel_rfl) ?_
  simp only [q_awakeJ_c_0, q_awakeJ_c_1, q_awakeJ_c_2, q_awakeJ_c_3, VT.holds, AllT, Sq]
  have p := Lay.plain_c
  have t := Lay.tableTop_c 2 plB 1 plO 700 300 2000 3000
  have w := Lay.waysTop_c 2 plB 1 plO 700 300 2000 2000
  have c := Lay.costTop_c 2 plB 1 plO 700 300 2000 2 (fun a => [2500, 1000].getD a 0) 1 (fun _ => 500) (by omega) (by omega)
  rw [show Lay.tabN 2 plB 1 plO 700 300 2000 3000 = 7 by rw [Lay.tabN, if_pos (plain_meas _ (by omega) (by omega)), plain_unit]; rfl, plain_meas _ (by omega) (by omega)] at t
  rw [show Lay.waysE 2 plB 1 plO 700 300 2000 2000 = 0 by rw [Lay.waysE, if_pos (plain_meas _ (by omega) (by omega)), plain_unit, if_pos (by decide), plain_ways]; rfl,
    show Lay.waysV 2 plB 1 plO 700 300 2000 2000 = 3 by rw [Lay.waysV, if_pos (plain_meas _ (by omega) (by omega)), plain_unit, if_pos (by decide), plain_ways]; rfl] at w
  have hb : Lay.bothE 2 plB 1 plO 700 300 2000 2 (fun a => [2500, 1000].getD a 0) 1 (fun _ => 500) = 0 := by decide +kernel
  rw [hb, if_pos rfl, if_pos rfl] at c
  have hi := Lay.ints_c 7 (Lay.tabS 2 plB 1 plO) 7 plT (by omega)
  rw [show Lay.sameN 7 (Lay.tabS 2 plB 1 plO) 7 plT = true from decide_eq_true ⟨rfl, plain_tab⟩] at hi
  exact ⟨⟨p, t⟩, ⟨p, w⟩, ⟨p, Nat.le_refl _, Nat.le_refl _, c⟩, fun _ => Nat.le_refl _, fun _ => hi⟩
noncomputable def A9_jobSmall_c (b : Bld) (nB : Nat) (B : Nat → Int) (nO : Nat) (O : Nat → Int) (W G L : Int) : Ann := { orc := [(1, [(2, .res fun _ => dB (smallF b)), (6, .res fun _ => dB (decide (nB ≤ 12 ∧ nO ≤ 12)))])], loops := [], cuts := [] }
theorem jobSmall_c (b : Bld) (nB : Nat) (B : Nat → Int) (nO : Nat) (O : Nat → Int) (W G L : Int)  : FnC prog 6 [jobD b nB B nO O W G L] (dB (jobS b nB nO)) := by
  refine FnC_owed hmix (A9_jobSmall_c b nB B nO O W G L) (V := .need [FnC prog 29 [(bld b)] ((dB (smallF b))), smallF b = true → smallF b = true, smallF b = true → smallF b = true, smallF b = true → FnC prog 30 [.agg [.lst nB [fun i => (dI (B i))], .lst nO [fun i => (dI (O i))], (dI W), (dI G), (dI L)]] ((dB (decide (nB ≤ (12:Nat) ∧ nO ≤ (12:Nat))))), smallF b = true → smallF b = true] (.done [(if smallF b = true then decide (nB ≤ (12:Nat) ∧ nO ≤ (12:Nat)) else false) = jobS b nB nO])) (by kernel_rfl) ?_
  simp only [VT.holds, AllT, Sq]
  exact ⟨⟨small_c b, fun _ => Lay.few_c nB B nO O W G L⟩, rfl⟩
noncomputable def A13_jobRing_c (b : Bld) (nB : Nat) (B : Nat → Int) (nO : Nat) (O : Nat → Int) (W G L : Int) : Ann := { orc := [(1, [(4, .res fun _ => dI (arE b nB B nO O W G L))])], loops := [], cuts := [] }
theorem jobRing_c (b : Bld) (nB : Nat) (B : Nat → Int) (nO : Nat) (O : Nat → Int) (W G L : Int) (hN : ∀ i, i < b.nS → b.N i ≤ 1000) : FnC prog 8 [jobD b nB B nO O W G L] (dI (arE b nB B nO O W G L)) := by
  refine FnC_owed hmix (A13_jobRing_c b nB B nO O W G L) (V := .need [FnC prog 32 [(bld b), .agg [.lst nB [fun i => (dI (B i))], .lst nO [fun i => (dI (O i))], (dI W), (dI G), (dI L)]] ((dI (arE b nB B nO O W G L)))] (.done [arE b nB B nO O W G L = arE b nB B nO O W G L])) (by kernel_rfl) ?_
  simp only [VT.holds, AllT, Sq]
  exact checkRingR_c b nB B nO O W G L hN
end Go.Abs
