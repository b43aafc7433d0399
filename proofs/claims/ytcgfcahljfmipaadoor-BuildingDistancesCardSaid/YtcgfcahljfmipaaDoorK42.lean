/- Contracts. -/
import Derived.Test.YtcgfcahljfmipaaDoorK41
import Derived.Test.YtcgfcahljfmipaaDoorG13
set_option linter.unusedVariables false
set_option linter.unusedSimpArgs false
set_option maxRecDepth 100000
namespace Go.Abs
open Go
theorem whE_ok {n : Nat} {X Y : Nat → Int} {p q : Int} (h : chk n X Y = 0) (hp : -1000000 ≤ p ∧ p ≤ 1000000) (hq : -1000000 ≤ q ∧ q ≤ 1000000) : whE n X Y p q = 0 := by
  unfold whE inF
  rw [if_neg (fun h' => h' h), if_pos ⟨decide_eq_true hp, decide_eq_true hq⟩]
theorem dsq_top {n : Nat} {X Y : Nat → Int} {p q : Int} (h : chk n X Y = 0) (hp : -1000000 ≤ p ∧ p ≤ 1000000) (hq : -1000000 ≤ q ∧ q ≤ 1000000) : Geo.dsq n X Y p q ≤ 8000000000000 := by
  have hn := chk_n h
  obtain ⟨hX, hY⟩ := chk_inB h
  have h1 := (Geo.bst_min (n := n) (X := X) (Y := Y) p q n (by omega)).2 0 (by omega)
  have a := (ap_bd hp (lo_bd (by omega) hX (0:Nat)) (hi_bd (by omega) hX (0:Nat))).2
  have b := (ap_bd hq (lo_bd (by omega) hY (0:Nat)) (hi_bd (by omega) hY (0:Nat))).2
  unfold dst at h1
  unfold Geo.dsq
  split
  · decide
  · omega
theorem eqv {a b : Int} (h : a = 0 ↔ 0 ≤ b) : (if True then !(a == 0) == decide (b ≥ 0) else (a == 0) == decide (b ≥ 0)) = false := by
  rw [if_pos trivial]
  by_cases e : 0 ≤ b
  · rw [h.2 e, decide_eq_true e]; rfl
  · rw [decide_eq_false e, show (a == 0) = false from by simpa using fun h' => e (h.1 h')]; rfl
noncomputable def A4_distances_c (n : Nat) (X Y : Nat → Int) (p q d : Int) : Ann := { orc := [(1, [(0, .res fun _ => dB true)]), (3, [(5, rChk), (10, rChkP)]), (5, [(2, rDi)]), (6, [(2, rWh)]), (10, [(7, rDi)]), (13, [(3, rAbs)]), (16, [(1, rWi)]), (18, [(2, rOff n X Y d)]), (24, [(5, rDi)])], loops := [(0, { ι := Nat, keep := [0, 2, 14], boxes := [], ts := fun _ i => [(16, dI (i : Int))], inv := fun _ i => i ≤ ofM n X Y d, mu := fun _ i => ofM n X Y d - i, rd := fun _ σ => (iOf (σ.get 16)).toNat })], cuts := [] }
noncomputable abbrev q_distances_c_0 (n : Nat) (X : Nat → Int) (Y : Nat → Int) (p : Int) (q : Int) : Bool := decide (whR n X Y p q ≥ (0:Int))
noncomputable abbrev q_distances_c_1 (n : Nat) : Bool := !decide ((n:Int) > (14:Int))
noncomputable abbrev q_distances_c_2 (d : Int) : Bool := decide ((1:Int) ≤ d ∧ d ≤ (100000:Int))
noncomputable abbrev q_distances_c_3 (n : Nat) (X : Nat → Int) (Y : Nat → Int) (p : Int) (q : Int) : Bool := if (whE n X Y p q != (0:Int)) = true then true else whE n X Y p q != (0:Int)
noncomputable abbrev q_distances_c_4 (n : Nat) (X : Nat → Int) (Y : Nat → Int) : Bool := !if decide ((n:Int) > (14:Int)) = true then true else chk n X Y != (0:Int)
noncomputable abbrev q_distances_c_5 (n : Nat) (X : Nat → Int) (Y : Nat → Int) (p : Int) (q : Int) : Bool := !if (whE n X Y p q != (0:Int)) = true then true else whE n X Y p q != (0:Int)
noncomputable abbrev q_distances_c_6 (n : Nat) (X : Nat → Int) (Y : Nat → Int) (p : Int) (q : Int) : Bool := decide ((↑(Int.natAbs (diR n X Y (p + (1:Int)) q - diR n X Y p q)) : Int) > (0:Int))
noncomputable abbrev q_distances_c_7 (n : Nat) (X : Nat → Int) (Y : Nat → Int) (d : Int) (i : Nat) : Bool := !whE n X Y (ofX n X Y d (Int.toNat (i:Int))) (ofY n X Y d (Int.toNat (i:Int))) != (0:Int)
noncomputable abbrev q_distances_c_8 (n : Nat) (X : Nat → Int) (Y : Nat → Int) (d : Int) (i : Nat) : Bool := decide (diR n X Y (ofX n X Y d (Int.toNat (i:Int))) (ofY n X Y d (Int.toNat (i:Int))) < (1:Int))
noncomputable abbrev q_distances_c_9 (n : Nat) (X : Nat → Int) (Y : Nat → Int) (d : Int) (i : Nat) : Bool := if (whE n X Y (ofX n X Y d (Int.toNat (i:Int))) (ofY n X Y d (Int.toNat (i:Int))) != (0:Int)) = true then true else (q_distances_c_8 n X Y d i)
noncomputable abbrev q_distances_c_10 (n : Nat) (X : Nat → Int) (Y : Nat → Int) (d : Int) (i : Nat) : Bool := !if (whE n X Y (ofX n X Y d (Int.toNat (i:Int))) (ofY n X Y d (Int.toNat (i:Int))) != (0:Int)) = true then true else (q_distances_c_8 n X Y d i)
noncomputable abbrev q_distances_c_11 (n : Nat) (X : Nat → Int) (Y : Nat → Int) (p : Int) (q : Int) : Bool := !if (q_distances_c_3 n X Y p q) = true then true else if true = true then !(diR n X Y p q == (0:Int)) == (q_distances_c_0 n X Y p q) else (diR n X Y p q == (0:Int)) == (q_distances_c_0 n X Y p q)
noncomputable abbrev distances_cr0 (n : Nat) (X : Nat → Int) (Y : Nat → Int) (d : Int) (r : List Prop) : List Prop := (n = n) :: (∀ (i : Nat), i < n → X i = X i) :: (∀ (i : Nat), i < n → Y i = Y i) :: (d = d) :: (ofM n X Y d = ofM n X Y d) :: (∀ (i : Nat), i < ofM n X Y d → ofX n X Y d i = ofX n X Y d i) :: (∀ (i : Nat), i < ofM n X Y d → ofY n X Y d i = ofY n X Y d i) :: r
theorem distances_c (n : Nat) (X Y : Nat → Int) (p q d : Int)  : FnC prog 4 [pts n X Y, dP p q, dI d] (dB true) := by
  refine FnC_owed hmix (A4_distances_c n X Y p q d) (V := .need [FnC prog 5 [] ((dB true))] (.ite (!true) (.done [false = true]) (.need [ri ((q_distances_c_1 n) = true), (q_distances_c_1 n) = true → FnC prog 9 [.lst n [fun i => (dI (X i)), fun i => (dI (Y i))]] ((dI (chk n X Y))), ri ((q_distances_c_1 n) = true), decide ((n:Int) > 14) = false → (q_distances_c_1 n) = true, ri ((q_distances_c_4 n X Y) = true), (q_distances_c_4 n X Y) = true → FnC prog 15 [.val (.agg (Array.mk [.int .i64 p, .int .i64 q]))] ((dI (if inF p = true ∧ inF q = true then (0:Int) else (2:Int)))), ri ((q_distances_c_4 n X Y) = true), (if decide ((n:Int) > 14) = true then true else chk n X Y != 0) = false → (q_distances_c_4 n X Y) = true] (.ite (if (if decide ((n:Int) > 14) = true then true else chk n X Y != 0) = true then true else (if inF p = true ∧ inF q = true then (0:Int) else (2:Int)) != 0) (.done [true = true]) (.need [FnC prog 16 [.lst n [fun i => (dI (X i)), fun i => (dI (Y i))], .val (.agg (Array.mk [.int .i64 p, .int .i64 q]))] (.tup [(dI (diR n X Y p q)), (dI (whE n X Y p q))])] (.need [FnC prog 17 [.lst n [fun i => (dI (X i)), fun i => (dI (Y i))], .val (.agg (Array.mk [.int .i64 p, .int .i64 q]))] (.tup [(dI (whR n X Y p q)), (dI (whE n X Y p q))])] (.need [ri ((!whE n X Y p q != 0) = true), (whE n X Y p q != 0) = false → (!whE n X Y p q != 0) = true, ri ((q_distances_c_5 n X Y p q) = true), ri ((q_distances_c_5 n X Y p q) = true), ri ((q_distances_c_5 n X Y p q) = true), ri ((q_distances_c_5 n X Y p q) = true), (q_distances_c_3 n X Y p q) = false → (q_distances_c_5 n X Y p q) = true, ri ((q_distances_c_11 n X Y p q) = true), (if (q_distances_c_3 n X Y p q) = true then true else if true = true then !(diR n X Y p q == 0) == (q_distances_c_0 n X Y p q) else (diR n X Y p q == 0) == (q_distances_c_0 n X Y p q)) = false → (q_distances_c_11 n X Y p q) = true] (.ite (if (if (q_distances_c_3 n X Y p q) = true then true else if true = true then !(diR n X Y p q == 0) == (q_distances_c_0 n X Y p q) else (diR n X Y p q == 0) == (q_distances_c_0 n X Y p q)) = true then true else decide (diR n X Y p q < 0)) (.done [false = true]) (.ite (decide (p < 1000000)) (.need [i64In (p + 1), FnC prog 16 [.lst n [fun i => (dI (X i)), fun i => (dI (Y i))], .val (.agg (Array.mk [.int .i64 (p + 1), .int .i64 q]))] (.tup [(dI (diR n X Y (p + 1) q)), (dI (whE n X Y (p + 1) q))])] (.ite (whE n X Y (p + 1) q != 0) (.done [false = true]) (.need [i64In (diR n X Y (p + 1) q - diR n X Y p q), FnC prog 18 [(dI (diR n X Y (p + 1) q - diR n X Y p q))] ((dI (↑(Int.natAbs (diR n X Y (p + 1) q - diR n X Y p q)) : Int)))] (.need [ri ((q_distances_c_6 n X Y p q) = true), (q_distances_c_6 n X Y p q) = true → i64In ((↑(Int.natAbs (diR n X Y (p + 1) q - diR n X Y p q)) : Int) - 1), ri ((q_distances_c_6 n X Y p q) = true), (q_distances_c_6 n X Y p q) = true → i64In ((↑(Int.natAbs (diR n X Y (p + 1) q - diR n X Y p q)) : Int) - 1), ri ((q_distances_c_6 n X Y p q) = true), ri ((q_distances_c_6 n X Y p q) = true), (q_distances_c_6 n X Y p q) = true → i64In (((↑(Int.natAbs (diR n X Y (p + 1) q - diR n X Y p q)) : Int) - 1) * ((↑(Int.natAbs (diR n X Y (p + 1) q - diR n X Y p q)) : Int) - 1)), ri ((q_distances_c_6 n X Y p q) = true), ri ((q_distances_c_6 n X Y p q) = true), ri ((q_distances_c_6 n X Y p q) = true), (q_distances_c_6 n X Y p q) = true → i64In ((4:Int) * maxs (diR n X Y (p + 1) q) [diR n X Y p q]), ri ((q_distances_c_6 n X Y p q) = true), ri ((q_distances_c_6 n X Y p q) = true), ri ((q_distances_c_6 n X Y p q) = true)] (.ite (if (q_distances_c_6 n X Y p q) = true then decide (((↑(Int.natAbs (diR n X Y (p + 1) q - diR n X Y p q)) : Int) - 1) * ((↑(Int.natAbs (diR n X Y (p + 1) q - diR n X Y p q)) : Int) - 1) > 4 * maxs (diR n X Y (p + 1) q) [diR n X Y p q]) else false) (.done [false = true]) (.need [FnC prog 19 [(dI d), (dI (1:Int)), (dI (100000:Int))] ((dB ((q_distances_c_2 d))))] (.ite (!(q_distances_c_2 d)) (.done [true = true]) (.need [FnC prog 7 [.lst n [fun i => (dI (X i)), fun i => (dI (Y i))], (dI d)] (.tup [.lst (ofM n X Y d) [fun k => (dI (ofX n X Y d k)), fun k => (dI (ofY n X Y d k))], (dI (ofG n X Y d))])] (.ite (ofG n X Y d != 0) (.done [((↑(ofM n X Y d) : Int) == 0) = true]) (.loop Nat (fun a => a ≤ ofM n X Y d) (0:Int).toNat (((0:Int) = (↑(0:Int).toNat : Int)) :: (distances_cr0 n X Y d [])) fun i => .ite (decide ((i:Int) < (↑(ofM n X Y d) : Int))) (.need [(0:Int) ≤ (i:Int) ∧ (i:Int) < (↑(ofM n X Y d) : Int), FnC prog 16 [.lst n [fun i => (dI (X i)), fun i => (dI (Y i))], .val (.agg (Array.mk [.int .i64 (ofX n X Y d (i:Int).toNat), .int .i64 (ofY n X Y d (i:Int).toNat)]))] (.tup [(dI (diR n X Y (ofX n X Y d (i:Int).toNat) (ofY n X Y d (i:Int).toNat))), (dI (whE n X Y (ofX n X Y d (i:Int).toNat) (ofY n X Y d (i:Int).toNat)))])] (.need [ri ((q_distances_c_7 n X Y d i) = true), (whE n X Y (ofX n X Y d (i:Int).toNat) (ofY n X Y d
     (i:Int).toNat) != 0) = false → (q_distances_c_7 n X Y d i) = true, ri ((q_distances_c_10 n X Y d i) = true), (q_distances_c_10 n X Y d i) = true → i64In ((2:Int) * d), ri ((q_distances_c_10 n X Y d i) = true), ri ((q_distances_c_10 n X Y d i) = true), (q_distances_c_10 n X Y d i) = true → i64In ((2:Int) * d * d), ri ((q_distances_c_10 n X Y d i) = true), ri ((q_distances_c_10 n X Y d i) = true), (q_distances_c_9 n X Y d i) = false → (q_distances_c_10 n X Y d i) = true] (.ite (if (q_distances_c_9 n X Y d i) = true then true else decide (diR n X Y (ofX n X Y d (i:Int).toNat) (ofY n X Y d (i:Int).toNat) > 2 * d * d)) (.done [false = true]) (.need [i64In ((i:Int) + 1)] (.done (((i:Int) + 1 = (↑((i:Int) + 1).toNat : Int)) :: (distances_cr0 n X Y d [Int.toNat ((i:Int) + 1) ≤ ofM n X Y d, ofM n X Y d - ((i:Int) + 1).toNat < ofM n X Y d - i]))))))) (.done [true = true]))))))))))) (.need [FnC prog 19 [(dI d), (dI (1:Int)), (dI (100000:Int))] ((dB ((q_distances_c_2 d))))] (.ite (!(q_distances_c_2 d)) (.done [true = true]) (.need [FnC prog 7 [.lst n [fun i => (dI (X i)), fun i => (dI (Y i))], (dI d)] (.tup [.lst (ofM n X Y d) [fun k => (dI (ofX n X Y d k)), fun k => (dI (ofY n X Y d k))], (dI (ofG n X Y d))])] (.ite (ofG n X Y d != 0) (.done [((↑(ofM n X Y d) : Int) == 0) = true]) (.loop Nat (fun a => a ≤ ofM n X Y d) (0:Int).toNat (((0:Int) = (↑(0:Int).toNat : Int)) :: (distances_cr0 n X Y d [])) fun i => .ite (decide ((i:Int) < (↑(ofM n X Y d) : Int))) (.need [(0:Int) ≤ (i:Int) ∧ (i:Int) < (↑(ofM n X Y d) : Int), FnC prog 16 [.lst n [fun i => (dI (X i)), fun i => (dI (Y i))], .val (.agg (Array.mk [.int .i64 (ofX n X Y d (Int.toNat
     (i:Int))), .int .i64 (ofY n X Y d (i:Int).toNat)]))] (.tup [(dI (diR n X Y (ofX n X Y d (i:Int).toNat) (ofY n X Y d (i:Int).toNat))), (dI (whE n X Y (ofX n X Y d (i:Int).toNat) (ofY n X Y d (i:Int).toNat)))])] (.need [ri ((q_distances_c_7 n X Y d i) = true), (whE n X Y (ofX n X Y d (i:Int).toNat) (ofY n X Y d (i:Int).toNat) != 0) = false → (q_distances_c_7 n X Y d i) = true, ri ((q_distances_c_10 n X Y d i) = true), (q_distances_c_10 n X Y d i) = true → i64In ((2:Int) * d), ri ((q_distances_c_10 n X Y d i) = true), ri ((q_distances_c_10 n X Y d i) = true), (q_distances_c_10 n X Y d i) = true → i64In ((2:Int) * d * d), ri ((q_distances_c_10 n X Y d i) = true), ri ((q_distances_c_10 n X Y d i) = true), (q_distances_c_9 n X Y d i) = false → (q_distances_c_10 n X Y d i) = true] (.ite (if (q_distances_c_9 n X Y d i) = true then true else decide (diR n X Y (ofX n X Y d (i:Int).toNat) (ofY n X Y d (i:Int).toNat) > 2 * d * d)) (.done [false = true]) (.need [i64In ((i:Int) + 1)] (.done (((i:Int) + 1 = (↑((i:Int) + 1).toNat : Int)) :: (distances_cr0 n X Y d [Int.toNat ((i:Int) + 1) ≤ ofM n X Y d, ofM n X Y d - ((i:Int) + 1).toNat < ofM n X Y d - i]))))))) (.done [true = true]))))))))))))))) (by kernel_rfl) ?_
  simp only [q_distances_c_0, q_distances_c_1, q_distances_c_2, q_distances_c_3, q_distances_c_4, q_distances_c_5, q_distances_c_6, q_distances_c_7, q_distances_c_8, q_distances_c_9, q_distances_c_10, q_distances_c_11, VT.holds, AllT, Sq]
  refine ⟨awake_c, fun h => (by cases h), fun _ => ⟨⟨fun _ => checkR_c n X Y (by omega), fun _ => pointErr_c p q⟩, fun ⟨h1, h2⟩ => ?_⟩⟩
  have hn : n ≤ 14 := by omega
  have hc : chk n X Y = 0 := Classical.byContradiction fun h => h1 (Or.inr h)
  have hpq : inF p = true ∧ inF q = true := Classical.byContradiction fun h => by rw [if_neg h] at h2; cases h2
  have hp : -1000000 ≤ p ∧ p ≤ 1000000 := of_decide_eq_true hpq.1
  have hq : -1000000 ≤ q ∧ q ≤ 1000000 := of_decide_eq_true hpq.2
  have hE := whE_ok hc hp hq
  have hn4 := chk_n hc
  obtain ⟨e1, e2⟩ := Geo.diR_dsq hE
  have D := Geo.dsq_is (n := n) (X := X) (Y := Y) (by omega) p q
  have T := dsq_top hc hp hq
  have c1 := dist_c n X Y p q (by omega)
  have c2 := whereTop_c n X Y p q (by omega)
  rw [hE, e1] at c1
  rw [hE, e2] at c2
  rw [hE, e1, e2, eqv D.2]
  refine ⟨c1, c2, fun h => ?_, fun _ => ⟨fun hlt => ?_, fun hge => ?_⟩⟩
  · exfalso
    rcases h with ((h | h) | h) | h
    · exact h rfl
    · exact h rfl
    · cases h
    · omega
  · have w2 := whE_ok hc (p := p + 1) (by omega) hq
    obtain ⟨f1, f2⟩ := Geo.diR_dsq w2
    have D' := Geo.dsq_is (n := n) (X := X) (Y := Y) (by omega) (p + 1) q
    have T' := dsq_top hc (p := p + 1) (by omega) hq
    have c3 := dist_c n X Y (p + 1) q (by omega)
    rw [w2, f1] at c3
    obtain ⟨l1, l2⟩ := Geo.dsq_lip (n := n) (X := X) (Y := Y) (by omega) p q
    rw [w2, f1]
    generalize Geo.dsq n X Y (p + 1) q = M at *
    generalize Geo.dsq n X Y p q = N at *
    have lp : ((M - N).natAbs : Int) > 0 → (((M - N).natAbs : Int) - 1) * (((M - N).natAbs : Int) - 1) ≤ 4 * maxs M [N] ∧ 0 ≤ (((M - N).natAbs : Int) - 1) * (((M - N).natAbs : Int) - 1) ∧ 0 ≤ maxs M [N] ∧ maxs M [N] ≤ 8000000000000 := fun h0 => by
      have mx : (N ≤ M ∧ maxs M [N] = M) ∨ (M < N ∧ maxs M [N] = N) := by simp only [maxs]; split <;> omega
      refine ⟨?_, Geo.sq_nn _, by omega, by omega⟩
      rcases Int.lt_trichotomy N M with h | h | h
      · rw [show ((M - N).natAbs : Int) = M - N by omega]
        have := l1 h
        omega
      · omega
      · rw [show ((M - N).natAbs : Int) = N - M by omega]
        have := l2 h
        omega
    refine ⟨⟨by unfold i64In; omega, c3⟩, fun h => absurd rfl h, fun _ => ⟨⟨by unfold i64In; omega, absR_c _ (by omega)⟩, ⟨fun _ => by unfold i64In; omega, fun _ => by unfold i64In; omega, fun h => ?_, fun h => ?_⟩, fun h => ?_, fun _ => ?_⟩⟩
    · have := lp h
      unfold i64In; omega
    · have := lp h
      unfold i64In; omega
    · have := lp h.1
      omega
    refine ⟨within_c _ _ _, fun hd => ⟨offset_c n X Y d (by omega), fun h => (by rw [ofM, if_neg h]; rfl), fun h0 => ⟨rfl, Nat.zero_le _, fun i hi hlt2 => ?_⟩⟩⟩
    have hM : ofM n X Y d = n := by rw [ofM, if_pos h0]
    rw [hM] at hi hlt2 ⊢
    have hE2 : ofE n X Y d = 0 := by rw [← ofG_in hc (by omega)]; exact h0
    obtain ⟨_, hO⟩ := of_zero hE2
    obtain ⟨oX, oY⟩ := chk_inB hO
    have w3 := whE_ok hc (oX i (by omega)) (oY i (by omega))
    obtain ⟨g1, g2⟩ := Geo.diR_dsq w3
    obtain ⟨r1, r2⟩ := Geo.dsq_off hc hE2 hd.1 (i := i) (by omega)
    rw [w3, g1]
    have dd : 0 ≤ 2 * d * d ∧ 2 * d * d ≤ (2 * 100000) * 100000 := ⟨Int.mul_nonneg (by omega) (by omega), Int.mul_le_mul (by omega) hd.2 (by omega) (by decide)⟩
    refine ⟨⟨by omega, ?_⟩, ⟨fun _ => by unfold i64In; omega, fun _ => by unfold i64In; omega⟩, fun h => by omega, fun _ => ⟨by unfold i64In; omega, by omega, by omega, by omega⟩⟩
    have := dist_c n X Y (ofX n X Y d i) (ofY n X Y d i) (by omega)
    rw [w3, g1] at this
    exact this
  · refine ⟨within_c _ _ _, fun hd => ⟨offset_c n X Y d (by omega), fun h => (by rw [ofM, if_neg h]; rfl), fun h0 => ⟨rfl, Nat.zero_le _, fun i hi hlt2 => ?_⟩⟩⟩
    have hM : ofM n X Y d = n := by rw [ofM, if_pos h0]
    rw [hM] at hi hlt2 ⊢
    have hE2 : ofE n X Y d = 0 := by rw [← ofG_in hc (by omega)]; exact h0
    obtain ⟨_, hO⟩ := of_zero hE2
    obtain ⟨oX, oY⟩ := chk_inB hO
    have w3 := whE_ok hc (oX i (by omega)) (oY i (by omega))
    obtain ⟨g1, g2⟩ := Geo.diR_dsq w3
    obtain ⟨r1, r2⟩ := Geo.dsq_off hc hE2 hd.1 (i := i) (by omega)
    rw [w3, g1]
    have dd : 0 ≤ 2 * d * d ∧ 2 * d * d ≤ (2 * 100000) * 100000 := ⟨Int.mul_nonneg (by omega) (by omega), Int.mul_le_mul (by omega) hd.2 (by omega) (by decide)⟩
    refine ⟨⟨by omega, ?_⟩, ⟨fun _ => by unfold i64In; omega, fun _ => by unfold i64In; omega⟩, fun h => by omega, fun _ => ⟨by unfold i64In; omega, by omega, by omega, by omega⟩⟩
    have := dist_c n X Y (ofX n X Y d i) (ofY n X Y d i) (by omega)
    rw [w3, g1] at this
    exact this
end Go.Abs
