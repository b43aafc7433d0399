/- Contracts. -/
import Derived.Test.YtpllaeomcjplnaaL24
set_option linter.unusedVariables false
set_option linter.unusedSimpArgs false
set_option maxRecDepth 100000
namespace Go.Abs
open Go
def rLess : Orc := .res fun l => dB (lessC (fI 0 (arg l 0)) (fI 1 (arg l 0)) (fI 0 (arg l 1)) (fI 1 (arg l 1)))
def oddC (nB : Nat) (B : Nat → Int) (nO : Nat) (O : Nat → Int) (W G L len : Int) : Int := (closS nB B nO O W G L len true).length + oddZ (B (nB - 1)) (closS nB B nO O W G L len false)
def bayC (nB : Nat) (B : Nat → Int) (nO : Nat) (O : Nat → Int) (W G L len : Int) : Int := (closS nB B nO O W G L len false).length
/-- The number of closings is 0 just where the table says -1. -/
theorem ways_ok {nB : Nat} {B : Nat → Int} {nO : Nat} {O : Nat → Int} {len : Int} : 1 ≤ waysS nB B nO O len ↔ 0 ≤ tabS nB B nO O (len / (unitP nB B nO O (nB + nO) : Int)).toNat := ways_tab _ _
theorem ways_err {nB : Nat} {B : Nat → Int} {nO : Nat} {O : Nat → Int} {W G L len : Int} (h : measE nB B nO O W G L len = 0) :
    (waysE nB B nO O W G L len = 0 ∧ (waysV nB B nO O W G L len = 0 ↔ closErr nB B nO O W G L len = 13)) ∨ (waysE nB B nO O W G L len = 8 ∧ closErr nB B nO O W G L len = 0) := by
  have hw := ways_ok (nB := nB) (B := B) (nO := nO) (O := O) (len := len)
  rw [waysE, waysV, closErr, if_pos h, if_pos h, if_pos h]
  by_cases hr : len % (unitP nB B nO O (nB + nO) : Int) = 0
  · rw [if_pos hr, if_pos hr]
    by_cases hT : 0 ≤ tabS nB B nO O (len / (unitP nB B nO O (nB + nO) : Int)).toNat
    · have hok : okC (unitP nB B nO O (nB + nO)) (tabS nB B nO O) len = true := by rw [okC, decide_eq_true_eq]; exact ⟨hr, hT⟩
      have := hw.2 hT
      rw [if_pos hok]
      by_cases hl : (waysS nB B nO O len : Int) ≤ 1000000
      · rw [if_pos hl, if_pos hl]; left; omega
      · rw [if_neg hl, if_neg hl]; right; exact ⟨rfl, rfl⟩
    · have hok : ¬ okC (unitP nB B nO O (nB + nO)) (tabS nB B nO O) len = true := by rw [okC, decide_eq_true_eq]; exact fun x => hT x.2
      have : ¬ 1 ≤ waysS nB B nO O len := fun x => hT (hw.1 x)
      rw [if_neg hok, if_pos (by omega), if_pos (by omega)]; left; omega
  · have hok : ¬ okC (unitP nB B nO O (nB + nO)) (tabS nB B nO O) len = true := by rw [okC, decide_eq_true_eq]; exact fun x => hr x.1
    rw [if_neg hr, if_neg hr, if_neg hok]; left; omega
theorem clos_err {nB : Nat} {B : Nat → Int} {nO : Nat} {O : Nat → Int} {W G L len : Int} (h : measE nB B nO O W G L len = 0) : (closErr nB B nO O W G L len = 0 ∧ okC (unitP nB B nO O (nB + nO)) (tabS nB B nO O) len = true) ∨ closErr nB B nO O W G L len = 13 := by
  rw [closErr, if_pos h]
  split
  · exact .inl ⟨rfl, ‹_›⟩
  · exact .inr rfl
theorem ok_add {nB : Nat} {B : Nat → Int} {nO : Nat} {O : Nat → Int} {u : Nat} (hu : 1 ≤ u) {a b : Int} (ha : 0 ≤ a) (hb : 0 ≤ b) (h : unitP nB B nO O (nB + nO) = u) (h1 : okC u (tabS nB B nO O) a = true) (h2 : okC u (tabS nB B nO O) b = true) :
    okC u (tabS nB B nO O) (a + b) = true ∧ tabS nB B nO O ((a + b) / (u : Int)).toNat ≤ tabS nB B nO O (a / (u : Int)).toNat + tabS nB B nO O (b / (u : Int)).toNat := by
  have hc : ∀ p ∈ listP (unitP nB B nO O (nB + nO)) nB B nO O (nB + nO), 0 ≤ p.2 ∧ p.2 ≤ 10001 := fun p hp => by
    obtain ⟨i, _, rfl⟩ := List.mem_map.1 hp
    exact pCode_bd nB i
  rw [okC, decide_eq_true_eq] at *
  obtain ⟨a1, a2⟩ := h1
  obtain ⟨b1, b2⟩ := h2
  have e : (a + b) / (u : Int) = a / (u : Int) + b / (u : Int) := Int.add_ediv_of_dvd_left (Int.dvd_of_emod_eq_zero a1)
  have qa := Int.ediv_nonneg (a := a) (b := (u : Int)) ha (by omega)
  have qb := Int.ediv_nonneg (a := b) (b := (u : Int)) hb (by omega)
  have e2 : ((a + b) / (u : Int)).toNat = (a / (u : Int)).toNat + (b / (u : Int)).toNat := by omega
  have := tab_add hc b2 _ a2
  rw [e2]
  refine ⟨⟨?_, this.1⟩, this.2⟩
  rw [Int.add_emod, a1, b1]; simp
noncomputable def A4_layoutSums_c (nB : Nat) (B : Nat → Int) (nO : Nat) (O : Nat → Int) (W G L a b : Int) : Ann := { orc := [(1, [(0, .res fun _ => dB true)]), (3, [(1, rFew), (5, rSys), (10, rIn), (15, rIn), (23, rLenR)]), (5, [(2, rCloseTop)]), (6, [(2, rCloseTop)]), (7, [(4, rCloseTop)]), (8, [(4, rWaysTop)]), (15, [(2, .res fun _ => .tup [dP (oddC nB B nO O W G L a) (bayC nB B nO O W G L a), dI 0])]), (16, [(2, .res fun _ => .tup [dP (oddC nB B nO O W G L b) (bayC nB B nO O W G L b), dI 0])]), (17, [(2, .res fun _ => .tup [dP (oddC nB B nO O W G L (a + b)) (bayC nB B nO O W G L (a + b)), dI 0])]), (18, [(23, rLess)])], loops := [], cuts := [] }
theorem layoutSums_c (nB : Nat) (B : Nat → Int) (nO : Nat) (O : Nat → Int) (W G L a b : Int)  : FnC prog 4 [sys nB B nO O W G L, dI a, dI b] (dB true) := by
  refine FnC_owed hmix (A4_layoutSums_c nB B nO O W G L a b) (V := VT.need [FnC prog (5 : Nat) [] (DV.val (Value.bool true))]
        (VT.ite (!true) (VT.done [false = true])
          (VT.need
            [FnC prog (6 : Nat)
                [DV.agg
                    [DV.lst nB [fun (i : Nat) => DV.val (Value.int IntKind.i64 (B i))],
                      DV.lst nO [fun (i : Nat) => DV.val (Value.int IntKind.i64 (O i))], DV.val (Value.int IntKind.i64 W),
                      DV.val (Value.int IntKind.i64 G), DV.val (Value.int IntKind.i64 L)]]
                (DV.val (Value.bool (decide (nB ≤ (12 : Nat) ∧ nO ≤ (12 : Nat))))),
              (!!decide (nB ≤ (12 : Nat) ∧ nO ≤ (12 : Nat))) = true → (!!decide (nB ≤ (12 : Nat) ∧ nO ≤ (12 : Nat))) = true,
              (!!decide (nB ≤ (12 : Nat) ∧ nO ≤ (12 : Nat))) = true →
                FnC prog (9 : Nat)
                  [DV.agg
                      [DV.lst nB [fun (i : Nat) => DV.val (Value.int IntKind.i64 (B i))],
                        DV.lst nO [fun (i : Nat) => DV.val (Value.int IntKind.i64 (O i))], DV.val (Value.int IntKind.i64 W),
                        DV.val (Value.int IntKind.i64 G), DV.val (Value.int IntKind.i64 L)]]
                  (DV.val (Value.int IntKind.i64 (sysE nB B nO O W G L))),
              (!!decide (nB ≤ (12 : Nat) ∧ nO ≤ (12 : Nat))) = true → (!!decide (nB ≤ (12 : Nat) ∧ nO ≤ (12 : Nat))) = true,
              (!decide (nB ≤ (12 : Nat) ∧ nO ≤ (12 : Nat))) = false → (!!decide (nB ≤ (12 : Nat) ∧ nO ≤ (12 : Nat))) = true,
              (!if (!decide (nB ≤ (12 : Nat) ∧ nO ≤ (12 : Nat))) = true then true else sysE nB B nO O W G L != (0 : Int)) =
                  true →
                (!if (!decide (nB ≤ (12 : Nat) ∧ nO ≤ (12 : Nat))) = true then true
                    else sysE nB B nO O W G L != (0 : Int)) =
                  true,
              (!if (!decide (nB ≤ (12 : Nat) ∧ nO ≤ (12 : Nat))) = true then true else sysE nB B nO O W G L != (0 : Int)) =
                  true →
                FnC prog (15 : Nat)
                  [DV.val (Value.int IntKind.i64 a), DV.val (Value.int IntKind.i64 (0 : Int)),
                    DV.val (Value.int IntKind.i64 (100000000 : Int))]
                  (DV.val (Value.bool (inR a (0 : Int) (100000000 : Int)))),
              (!if (!decide (nB ≤ (12 : Nat) ∧ nO ≤ (12 : Nat))) = true then true else sysE nB B nO O W G L != (0 : Int)) =
                  true →
                (!if (!decide (nB ≤ (12 : Nat) ∧ nO ≤ (12 : Nat))) = true then true
                    else sysE nB B nO O W G L != (0 : Int)) =
                  true,
              (if (!decide (nB ≤ (12 : Nat) ∧ nO ≤ (12 : Nat))) = true then true else sysE nB B nO O W G L != (0 : Int)) =
                  false →
                (!if (!decide (nB ≤ (12 : Nat) ∧ nO ≤ (12 : Nat))) = true then true
                    else sysE nB B nO O W G L != (0 : Int)) =
                  true,
              (!if
                        (if (!decide (nB ≤ (12 : Nat) ∧ nO ≤ (12 : Nat))) = true then true
                          else sysE nB B nO O W G L != (0 : Int)) =
                          true then
                      true
                    else !inR a (0 : Int) (100000000 : Int)) =
                  true →
                (!if
                        (if (!decide (nB ≤ (12 : Nat) ∧ nO ≤ (12 : Nat))) = true then true
                          else sysE nB B nO O W G L != (0 : Int)) =
                          true then
                      true
                    else !inR a (0 : Int) (100000000 : Int)) =
                  true,
              (!if
                        (if (!decide (nB ≤ (12 : Nat) ∧ nO ≤ (12 : Nat))) = true then true
                          else sysE nB B nO O W G L != (0 : Int)) =
                          true then
                      true
                    else !inR a (0 : Int) (100000000 : Int)) =
                  true →
                FnC prog (15 : Nat)
                  [DV.val (Value.int IntKind.i64 b), DV.val (Value.int IntKind.i64 (0 : Int)),
                    DV.val (Value.int IntKind.i64 (100000000 : Int))]
                  (DV.val (Value.bool (inR b (0 : Int) (100000000 : Int)))),
              (!if
                        (if (!decide (nB ≤ (12 : Nat) ∧ nO ≤ (12 : Nat))) = true then true
                          else sysE nB B nO O W G L != (0 : Int)) =
                          true then
                      true
                    else !inR a (0 : Int) (100000000 : Int)) =
                  true →
                (!if
                        (if (!decide (nB ≤ (12 : Nat) ∧ nO ≤ (12 : Nat))) = true then true
                          else sysE nB B nO O W G L != (0 : Int)) =
                          true then
                      true
                    else !inR a (0 : Int) (100000000 : Int)) =
                  true,
              (if
                      (if (!decide (nB ≤ (12 : Nat) ∧ nO ≤ (12 : Nat))) = true then true
                        else sysE nB B nO O W G L != (0 : Int)) =
                        true then
                    true
                  else !inR a (0 : Int) (100000000 : Int)) =
                  false →
                (!if
                        (if (!decide (nB ≤ (12 : Nat) ∧ nO ≤ (12 : Nat))) = true then true
                          else sysE nB B nO O W G L != (0 : Int)) =
                          true then
                      true
                    else !inR a (0 : Int) (100000000 : Int)) =
                  true,
              (!if
                        (if
                              (if (!decide (nB ≤ (12 : Nat) ∧ nO ≤ (12 : Nat))) = true then true
                                else sysE nB B nO O W G L != (0 : Int)) =
                                true then
                            true
                          else !inR a (0 : Int) (100000000 : Int)) =
                          true then
                      true
                    else !inR b (0 : Int) (100000000 : Int)) =
                  true →
                (!if
                        (if
                              (if (!decide (nB ≤ (12 : Nat) ∧ nO ≤ (12 : Nat))) = true then true
                                else sysE nB B nO O W G L != (0 : Int)) =
                                true then
                            true
                          else !inR a (0 : Int) (100000000 : Int)) =
                          true then
                      true
                    else !inR b (0 : Int) (100000000 : Int)) =
                  true,
              (!if
                        (if
                              (if (!decide (nB ≤ (12 : Nat) ∧ nO ≤ (12 : Nat))) = true then true
                                else sysE nB B nO O W G L != (0 : Int)) =
                                true then
                            true
                          else !inR a (0 : Int) (100000000 : Int)) =
                          true then
                      true
                    else !inR b (0 : Int) (100000000 : Int)) =
                  true →
                (!if
                        (if
                              (if (!decide (nB ≤ (12 : Nat) ∧ nO ≤ (12 : Nat))) = true then true
                                else sysE nB B nO O W G L != (0 : Int)) =
                                true then
                            true
                          else !inR a (0 : Int) (100000000 : Int)) =
                          true then
                      true
                    else !inR b (0 : Int) (100000000 : Int)) =
                  true,
              (!if
                        (if
                              (if (!decide (nB ≤ (12 : Nat) ∧ nO ≤ (12 : Nat))) = true then true
                                else sysE nB B nO O W G L != (0 : Int)) =
                                true then
                            true
                          else !inR a (0 : Int) (100000000 : Int)) =
                          true then
                      true
                    else !inR b (0 : Int) (100000000 : Int)) =
                  true →
                i64In (a + b),
              (!if
                        (if
                              (if (!decide (nB ≤ (12 : Nat) ∧ nO ≤ (12 : Nat))) = true then true
                                else sysE nB B nO O W G L != (0 : Int)) =
                                true then
                            true
                          else !inR a (0 : Int) (100000000 : Int)) =
                          true then
                      true
                    else !inR b (0 : Int) (100000000 : Int)) =
                  true →
                (!if
                        (if
                              (if (!decide (nB ≤ (12 : Nat) ∧ nO ≤ (12 : Nat))) = true then true
                                else sysE nB B nO O W G L != (0 : Int)) =
                                true then
                            true
                          else !inR a (0 : Int) (100000000 : Int)) =
                          true then
                      true
                    else !inR b (0 : Int) (100000000 : Int)) =
                  true,
              (!if
                        (if
                              (if (!decide (nB ≤ (12 : Nat) ∧ nO ≤ (12 : Nat))) = true then true
                                else sysE nB B nO O W G L != (0 : Int)) =
                                true then
                            true
                          else !inR a (0 : Int) (100000000 : Int)) =
                          true then
                      true
                    else !inR b (0 : Int) (100000000 : Int)) =
                  true →
                (!if
                        (if
                              (if (!decide (nB ≤ (12 : Nat) ∧ nO ≤ (12 : Nat))) = true then true
                                else sysE nB B nO O W G L != (0 : Int)) =
                                true then
                            true
                          else !inR a (0 : Int) (100000000 : Int)) =
                          true then
                      true
                    else !inR b (0 : Int) (100000000 : Int)) =
                  true,
              (!if
                        (if
                              (if (!decide (nB ≤ (12 : Nat) ∧ nO ≤ (12 : Nat))) = true then true
                                else sysE nB B nO O W G L != (0 : Int)) =
                                true then
                            true
                          else !inR a (0 : Int) (100000000 : Int)) =
                          true then
                      true
                    else !inR b (0 : Int) (100000000 : Int)) =
                  true →
                FnC prog (10 : Nat)
                  [DV.agg
                      [DV.lst nB [fun (i : Nat) => DV.val (Value.int IntKind.i64 (B i))],
                        DV.lst nO [fun (i : Nat) => DV.val (Value.int IntKind.i64 (O i))], DV.val (Value.int IntKind.i64 W),
                        DV.val (Value.int IntKind.i64 G), DV.val (Value.int IntKind.i64 L)],
                    DV.val (Value.int IntKind.i64 (a + b))]
                  (DV.val (Value.int IntKind.i64 (lenR nB B nO O (a + b)))),
              (!if
                        (if
                              (if (!decide (nB ≤ (12 : Nat) ∧ nO ≤ (12 : Nat))) = true then true
                                else sysE nB B nO O W G L != (0 : Int)) =
                                true then
                            true
                          else !inR a (0 : Int) (100000000 : Int)) =
                          true then
                      true
                    else !inR b (0 : Int) (100000000 : Int)) =
                  true →
                (!if
                        (if
                              (if (!decide (nB ≤ (12 : Nat) ∧ nO ≤ (12 : Nat))) = true then true
                                else sysE nB B nO O W G L != (0 : Int)) =
                                true then
                            true
                          else !inR a (0 : Int) (100000000 : Int)) =
                          true then
                      true
                    else !inR b (0 : Int) (100000000 : Int)) =
                  true,
              (if
                      (if
                            (if (!decide (nB ≤ (12 : Nat) ∧ nO ≤ (12 : Nat))) = true then true
                              else sysE nB B nO O W G L != (0 : Int)) =
                              true then
                          true
                        else !inR a (0 : Int) (100000000 : Int)) =
                        true then
                    true
                  else !inR b (0 : Int) (100000000 : Int)) =
                  false →
                (!if
                        (if
                              (if (!decide (nB ≤ (12 : Nat) ∧ nO ≤ (12 : Nat))) = true then true
                                else sysE nB B nO O W G L != (0 : Int)) =
                                true then
                            true
                          else !inR a (0 : Int) (100000000 : Int)) =
                          true then
                      true
                    else !inR b (0 : Int) (100000000 : Int)) =
                  true]
            (VT.ite
              (if
                  (if
                        (if
                              (if (!decide (nB ≤ (12 : Nat) ∧ nO ≤ (12 : Nat))) = true then true
                                else sysE nB B nO O W G L != (0 : Int)) =
                                true then
                            true
                          else !inR a (0 : Int) (100000000 : Int)) =
                          true then
                      true
                    else !inR b (0 : Int) (100000000 : Int)) =
                    true then
                true
              else lenR nB B nO O (a + b) != (0 : Int))
              (VT.done [true = true])
              (VT.need
                [FnC prog (7 : Nat)
                    [DV.agg
                        [DV.lst nB [fun (i : Nat) => DV.val (Value.int IntKind.i64 (B i))],
                          DV.lst nO [fun (i : Nat) => DV.val (Value.int IntKind.i64 (O i))],
                          DV.val (Value.int IntKind.i64 W), DV.val (Value.int IntKind.i64 G),
                          DV.val (Value.int IntKind.i64 L)],
                      DV.val (Value.int IntKind.i64 a)]
                    (DV.tup
                      [DV.agg
                          [DV.lst (List.length (closS nB B nO O W G L a false))
                              [fun (i : Nat) =>
                                DV.val (Value.int IntKind.i64 (List.getD (closS nB B nO O W G L a false) i (0 : Int)))],
                            DV.lst (List.length (closS nB B nO O W G L a true))
                              [fun (i : Nat) =>
                                DV.val (Value.int IntKind.i64 (List.getD (closS nB B nO O W G L a true) i (0 : Int)))]],
                        DV.val (Value.int IntKind.i64 (closErr nB B nO O W G L a))])]
                (VT.need
                  [FnC prog (7 : Nat)
                      [DV.agg
                          [DV.lst nB [fun (i : Nat) => DV.val (Value.int IntKind.i64 (B i))],
                            DV.lst nO [fun (i : Nat) => DV.val (Value.int IntKind.i64 (O i))],
                            DV.val (Value.int IntKind.i64 W), DV.val (Value.int IntKind.i64 G),
                            DV.val (Value.int IntKind.i64 L)],
                        DV.val (Value.int IntKind.i64 b)]
                      (DV.tup
                        [DV.agg
                            [DV.lst (List.length (closS nB B nO O W G L b false))
                                [fun (i : Nat) =>
                                  DV.val (Value.int IntKind.i64 (List.getD (closS nB B nO O W G L b false) i (0 : Int)))],
                              DV.lst (List.length (closS nB B nO O W G L b true))
                                [fun (i : Nat) =>
                                  DV.val (Value.int IntKind.i64 (List.getD (closS nB B nO O W G L b true) i (0 : Int)))]],
                          DV.val (Value.int IntKind.i64 (closErr nB B nO O W G L b))])]
                  (VT.need
                    [i64In (a + b),
                      FnC prog (7 : Nat)
                        [DV.agg
                            [DV.lst nB [fun (i : Nat) => DV.val (Value.int IntKind.i64 (B i))],
                              DV.lst nO [fun (i : Nat) => DV.val (Value.int IntKind.i64 (O i))],
                              DV.val (Value.int IntKind.i64 W), DV.val (Value.int IntKind.i64 G),
                              DV.val (Value.int IntKind.i64 L)],
                          DV.val (Value.int IntKind.i64 (a + b))]
                        (DV.tup
                          [DV.agg
                              [DV.lst (List.length (closS nB B nO O W G L (a + b) false))
                                  [fun (i : Nat) =>
                                    DV.val
                                      (Value.int IntKind.i64
                                        (List.getD (closS nB B nO O W G L (a + b) false) i (0 : Int)))],
                                DV.lst (List.length (closS nB B nO O W G L (a + b) true))
                                  [fun (i : Nat) =>
                                    DV.val
                                      (Value.int IntKind.i64
                                        (List.getD (closS nB B nO O W G L (a + b) true) i (0 : Int)))]],
                            DV.val (Value.int IntKind.i64 (closErr nB B nO O W G L (a + b)))])]
                    (VT.need
                      [i64In (a + b),
                        FnC prog (16 : Nat)
                          [DV.agg
                              [DV.lst nB [fun (i : Nat) => DV.val (Value.int IntKind.i64 (B i))],
                                DV.lst nO [fun (i : Nat) => DV.val (Value.int IntKind.i64 (O i))],
                                DV.val (Value.int IntKind.i64 W), DV.val (Value.int IntKind.i64 G),
                                DV.val (Value.int IntKind.i64 L)],
                            DV.val (Value.int IntKind.i64 (a + b))]
                          (DV.tup
                            [DV.val (Value.int IntKind.i64 (waysV nB B nO O W G L (a + b))),
                              DV.val (Value.int IntKind.i64 (waysE nB B nO O W G L (a + b)))])]
                      (VT.need
                        [(waysE nB B nO O W G L (a + b) != (0 : Int)) = true →
                            (waysE nB B nO O W G L (a + b) != (0 : Int)) = true,
                          (waysE nB B nO O W G L (a + b) != (0 : Int)) = true →
                            (waysE nB B nO O W G L (a + b) != (0 : Int)) = true,
                          (!if (waysE nB B nO O W G L (a + b) != (0 : Int)) = true then
                                  waysE nB B nO O W G L (a + b) != (8 : Int)
                                else false) =
                              true →
                            (!if (waysE nB B nO O W G L (a + b) != (0 : Int)) = true then
                                  waysE nB B nO O W G L (a + b) != (8 : Int)
                                else false) =
                              true,
                          (!if (waysE nB B nO O W G L (a + b) != (0 : Int)) = true then
                                  waysE nB B nO O W G L (a + b) != (8 : Int)
                                else false) =
                              true →
                            (!if (waysE nB B nO O W G L (a + b) != (0 : Int)) = true then
                                  waysE nB B nO O W G L (a + b) != (8 : Int)
                                else false) =
                              true,
                          ((!if (waysE nB B nO O W G L (a + b) != (0 : Int)) = true then
                                    waysE nB B nO O W G L (a + b) != (8 : Int)
                                  else false) &&
                                waysE nB B nO O W G L (a + b) == (0 : Int)) =
                              true →
                            ((!if (waysE nB B nO O W G L (a + b) != (0 : Int)) = true then
                                    waysE nB B nO O W G L (a + b) != (8 : Int)
                                  else false) &&
                                waysE nB B nO O W G L (a + b) == (0 : Int)) =
                              true,
                          ((!if (waysE nB B nO O W G L (a + b) != (0 : Int)) = true then
                                    waysE nB B nO O W G L (a + b) != (8 : Int)
                                  else false) &&
                                waysE nB B nO O W G L (a + b) == (0 : Int)) =
                              true →
                            ((!if (waysE nB B nO O W G L (a + b) != (0 : Int)) = true then
                                    waysE nB B nO O W G L (a + b) != (8 : Int)
                                  else false) &&
                                waysE nB B nO O W G L (a + b) == (0 : Int)) =
                              true,
                          ((!if (waysE nB B nO O W G L (a + b) != (0 : Int)) = true then
                                    waysE nB B nO O W G L (a + b) != (8 : Int)
                                  else false) &&
                                waysE nB B nO O W G L (a + b) == (0 : Int)) =
                              true →
                            ((!if (waysE nB B nO O W G L (a + b) != (0 : Int)) = true then
                                    waysE nB B nO O W G L (a + b) != (8 : Int)
                                  else false) &&
                                waysE nB B nO O W G L (a + b) == (0 : Int)) =
                              true,
                          ((!if (waysE nB B nO O W G L (a + b) != (0 : Int)) = true then
                                    waysE nB B nO O W G L (a + b) != (8 : Int)
                                  else false) &&
                                waysE nB B nO O W G L (a + b) == (0 : Int)) =
                              true →
                            ((!if (waysE nB B nO O W G L (a + b) != (0 : Int)) = true then
                                    waysE nB B nO O W G L (a + b) != (8 : Int)
                                  else false) &&
                                waysE nB B nO O W G L (a + b) == (0 : Int)) =
                              true,
                          (!if (waysE nB B nO O W G L (a + b) != (0 : Int)) = true then
                                  waysE nB B nO O W G L (a + b) != (8 : Int)
                                else false) =
                              true →
                            (!if (waysE nB B nO O W G L (a + b) != (0 : Int)) = true then
                                  waysE nB B nO O W G L (a + b) != (8 : Int)
                                else false) =
                              true,
                          (!if (waysE nB B nO O W G L (a + b) != (0 : Int)) = true then
                                  waysE nB B nO O W G L (a + b) != (8 : Int)
                                else false) =
                              true →
                            (waysE nB B nO O W G L (a + b) == (0 : Int)) = true →
                              ((!if (waysE nB B nO O W G L (a + b) != (0 : Int)) = true then
                                      waysE nB B nO O W G L (a + b) != (8 : Int)
                                    else false) &&
                                  waysE nB B nO O W G L (a + b) == (0 : Int)) =
                                true,
                          (if (waysE nB B nO O W G L (a + b) != (0 : Int)) = true then
                                waysE nB B nO O W G L (a + b) != (8 : Int)
                              else false) =
                              false →
                            (!if (waysE nB B nO O W G L (a + b) != (0 : Int)) = true then
                                  waysE nB B nO O W G L (a + b) != (8 : Int)
                                else false) =
                              true,
                          (!if
                                    (if (waysE nB B nO O W G L (a + b) != (0 : Int)) = true then
                                        waysE nB B nO O W G L (a + b) != (8 : Int)
                                      else false) =
                                      true then
                                  true
                                else
                                  if (waysE nB B nO O W G L (a + b) == (0 : Int)) = true then
                                    if true = true then
                                      !(waysV nB B nO O W G L (a + b) == (0 : Int)) ==
                                          (closErr nB B nO O W G L (a + b) == (13 : Int))
                                    else
                                      (waysV nB B nO O W G L (a + b) == (0 : Int)) ==
                                        (closErr nB B nO O W G L (a + b) == (13 : Int))
                                  else false) =
                              true →
                            (!if
                                    (if (waysE nB B nO O W G L (a + b) != (0 : Int)) = true then
                                        waysE nB B nO O W G L (a + b) != (8 : Int)
                                      else false) =
                                      true then
                                  true
                                else
                                  if (waysE nB B nO O W G L (a + b) == (0 : Int)) = true then
                                    if true = true then
                                      !(waysV nB B nO O W G L (a + b) == (0 : Int)) ==
                                          (closErr nB B nO O W G L (a + b) == (13 : Int))
                                    else
                                      (waysV nB B nO O W G L (a + b) == (0 : Int)) ==
                                        (closErr nB B nO O W G L (a + b) == (13 : Int))
                                  else false) =
                              true,
                          (!if
                                    (if (waysE nB B nO O W G L (a + b) != (0 : Int)) = true then
                                        waysE nB B nO O W G L (a + b) != (8 : Int)
                                      else false) =
                                      true then
                                  true
                                else
                                  if (waysE nB B nO O W G L (a + b) == (0 : Int)) = true then
                                    if true = true then
                                      !(waysV nB B nO O W G L (a + b) == (0 : Int)) ==
                                          (closErr nB B nO O W G L (a + b) == (13 : Int))
                                    else
                                      (waysV nB B nO O W G L (a + b) == (0 : Int)) ==
                                        (closErr nB B nO O W G L (a + b) == (13 : Int))
                                  else false) =
                              true →
                            (!if
                                    (if (waysE nB B nO O W G L (a + b) != (0 : Int)) = true then
                                        waysE nB B nO O W G L (a + b) != (8 : Int)
                                      else false) =
                                      true then
                                  true
                                else
                                  if (waysE nB B nO O W G L (a + b) == (0 : Int)) = true then
                                    if true = true then
                                      !(waysV nB B nO O W G L (a + b) == (0 : Int)) ==
                                          (closErr nB B nO O W G L (a + b) == (13 : Int))
                                    else
                                      (waysV nB B nO O W G L (a + b) == (0 : Int)) ==
                                        (closErr nB B nO O W G L (a + b) == (13 : Int))
                                  else false) =
                              true,
                          ((!if
                                      (if (waysE nB B nO O W G L (a + b) != (0 : Int)) = true then
                                          waysE nB B nO O W G L (a + b) != (8 : Int)
                                        else false) =
                                        true then
                                    true
                                  else
                                    if (waysE nB B nO O W G L (a + b) == (0 : Int)) = true then
                                      if true = true then
                                        !(waysV nB B nO O W G L (a + b) == (0 : Int)) ==
                                            (closErr nB B nO O W G L (a + b) == (13 : Int))
                                      else
                                        (waysV nB B nO O W G L (a + b) == (0 : Int)) ==
                                          (closErr nB B nO O W G L (a + b) == (13 : Int))
                                    else false) &&
                                waysE nB B nO O W G L (a + b) == (8 : Int)) =
                              true →
                            ((!if
                                      (if (waysE nB B nO O W G L (a + b) != (0 : Int)) = true then
                                          waysE nB B nO O W G L (a + b) != (8 : Int)
                                        else false) =
                                        true then
                                    true
                                  else
                                    if (waysE nB B nO O W G L (a + b) == (0 : Int)) = true then
                                      if true = true then
                                        !(waysV nB B nO O W G L (a + b) == (0 : Int)) ==
                                            (closErr nB B nO O W G L (a + b) == (13 : Int))
                                      else
                                        (waysV nB B nO O W G L (a + b) == (0 : Int)) ==
                                          (closErr nB B nO O W G L (a + b) == (13 : Int))
                                    else false) &&
                                waysE nB B nO O W G L (a + b) == (8 : Int)) =
                              true,
                          (!if
                                    (if (waysE nB B nO O W G L (a + b) != (0 : Int)) = true then
                                        waysE nB B nO O W G L (a + b) != (8 : Int)
                                      else false) =
                                      true then
                                  true
                                else
                                  if (waysE nB B nO O W G L (a + b) == (0 : Int)) = true then
                                    if true = true then
                                      !(waysV nB B nO O W G L (a + b) == (0 : Int)) ==
                                          (closErr nB B nO O W G L (a + b) == (13 : Int))
                                    else
                                      (waysV nB B nO O W G L (a + b) == (0 : Int)) ==
                                        (closErr nB B nO O W G L (a + b) == (13 : Int))
                                  else false) =
                              true →
                            (!if
                                    (if (waysE nB B nO O W G L (a + b) != (0 : Int)) = true then
                                        waysE nB B nO O W G L (a + b) != (8 : Int)
                                      else false) =
                                      true then
                                  true
                                else
                                  if (waysE nB B nO O W G L (a + b) == (0 : Int)) = true then
                                    if true = true then
                                      !(waysV nB B nO O W G L (a + b) == (0 : Int)) ==
                                          (closErr nB B nO O W G L (a + b) == (13 : Int))
                                    else
                                      (waysV nB B nO O W G L (a + b) == (0 : Int)) ==
                                        (closErr nB B nO O W G L (a + b) == (13 : Int))
                                  else false) =
                              true,
                          (!if
                                    (if (waysE nB B nO O W G L (a + b) != (0 : Int)) = true then
                                        waysE nB B nO O W G L (a + b) != (8 : Int)
                                      else false) =
                                      true then
                                  true
                                else
                                  if (waysE nB B nO O W G L (a + b) == (0 : Int)) = true then
                                    if true = true then
                                      !(waysV nB B nO O W G L (a + b) == (0 : Int)) ==
                                          (closErr nB B nO O W G L (a + b) == (13 : Int))
                                    else
                                      (waysV nB B nO O W G L (a + b) == (0 : Int)) ==
                                        (closErr nB B nO O W G L (a + b) == (13 : Int))
                                  else false) =
                              true →
                            (waysE nB B nO O W G L (a + b) == (8 : Int)) = true →
                              ((!if
                                        (if (waysE nB B nO O W G L (a + b) != (0 : Int)) = true then
                                            waysE nB B nO O W G L (a + b) != (8 : Int)
                                          else false) =
                                          true then
                                      true
                                    else
                                      if (waysE nB B nO O W G L (a + b) == (0 : Int)) = true then
                                        if true = true then
                                          !(waysV nB B nO O W G L (a + b) == (0 : Int)) ==
                                              (closErr nB B nO O W G L (a + b) == (13 : Int))
                                        else
                                          (waysV nB B nO O W G L (a + b) == (0 : Int)) ==
                                            (closErr nB B nO O W G L (a + b) == (13 : Int))
                                      else false) &&
                                  waysE nB B nO O W G L (a + b) == (8 : Int)) =
                                true,
                          (if
                                  (if (waysE nB B nO O W G L (a + b) != (0 : Int)) = true then
                                      waysE nB B nO O W G L (a + b) != (8 : Int)
                                    else false) =
                                    true then
                                true
                              else
                                if (waysE nB B nO O W G L (a + b) == (0 : Int)) = true then
                                  if true = true then
                                    !(waysV nB B nO O W G L (a + b) == (0 : Int)) ==
                                        (closErr nB B nO O W G L (a + b) == (13 : Int))
                                  else
                                    (waysV nB B nO O W G L (a + b) == (0 : Int)) ==
                                      (closErr nB B nO O W G L (a + b) == (13 : Int))
                                else false) =
                              false →
                            (!if
                                    (if (waysE nB B nO O W G L (a + b) != (0 : Int)) = true then
                                        waysE nB B nO O W G L (a + b) != (8 : Int)
                                      else false) =
                                      true then
                                  true
                                else
                                  if (waysE nB B nO O W G L (a + b) == (0 : Int)) = true then
                                    if true = true then
                                      !(waysV nB B nO O W G L (a + b) == (0 : Int)) ==
                                          (closErr nB B nO O W G L (a + b) == (13 : Int))
                                    else
                                      (waysV nB B nO O W G L (a + b) == (0 : Int)) ==
                                        (closErr nB B nO O W G L (a + b) == (13 : Int))
                                  else false) =
                              true]
                        (VT.ite
                          (if
                              (if
                                    (if (waysE nB B nO O W G L (a + b) != (0 : Int)) = true then
                                        waysE nB B nO O W G L (a + b) != (8 : Int)
                                      else false) =
                                      true then
                                  true
                                else
                                  if (waysE nB B nO O W G L (a + b) == (0 : Int)) = true then
                                    if true = true then
                                      !(waysV nB B nO O W G L (a + b) == (0 : Int)) ==
                                          (closErr nB B nO O W G L (a + b) == (13 : Int))
                                    else
                                      (waysV nB B nO O W G L (a + b) == (0 : Int)) ==
                                        (closErr nB B nO O W G L (a + b) == (13 : Int))
                                  else false) =
                                true then
                            true
                          else
                            if (waysE nB B nO O W G L (a + b) == (8 : Int)) = true then
                              closErr nB B nO O W G L (a + b) != (0 : Int)
                            else false)
                          (VT.done [false = true])
                          (VT.need
                            [(!closErr nB B nO O W G L a != (0 : Int)) = true →
                                (!closErr nB B nO O W G L a != (0 : Int)) = true,
                              (closErr nB B nO O W G L a != (0 : Int)) = false →
                                (!closErr nB B nO O W G L a != (0 : Int)) = true]
                            (VT.ite
                              (if (closErr nB B nO O W G L a != (0 : Int)) = true then true
                              else closErr nB B nO O W G L b != (0 : Int))
                              (VT.need
                                [(!closErr nB B nO O W G L a == (0 : Int)) = true →
                                    (!closErr nB B nO O W G L a == (0 : Int)) = true,
                                  (closErr nB B nO O W G L a == (0 : Int)) = false →
                                    (!closErr nB B nO O W G L a == (0 : Int)) = true,
                                  (if (closErr nB B nO O W G L a == (0 : Int)) = true then true
                                      else closErr nB B nO O W G L a == (13 : Int)) =
                                      true →
                                    (if (closErr nB B nO O W G L a == (0 : Int)) = true then true
                                      else closErr nB B nO O W G L a == (13 : Int)) =
                                      true,
                                  (if (closErr nB B nO O W G L a == (0 : Int)) = true then true
                                      else closErr nB B nO O W G L a == (13 : Int)) =
                                      true →
                                    (if (closErr nB B nO O W G L a == (0 : Int)) = true then true
                                      else closErr nB B nO O W G L a == (13 : Int)) =
                                      true,
                                  ((if (closErr nB B nO O W G L a == (0 : Int)) = true then true
                                        else closErr nB B nO O W G L a == (13 : Int)) &&
                                        !closErr nB B nO O W G L b == (0 : Int)) =
                                      true →
                                    ((if (closErr nB B nO O W G L a == (0 : Int)) = true then true
                                        else closErr nB B nO O W G L a == (13 : Int)) &&
                                        !closErr nB B nO O W G L b == (0 : Int)) =
                                      true,
                                  (if (closErr nB B nO O W G L a == (0 : Int)) = true then true
                                      else closErr nB B nO O W G L a == (13 : Int)) =
                                      true →
                                    (if (closErr nB B nO O W G L a == (0 : Int)) = true then true
                                      else closErr nB B nO O W G L a == (13 : Int)) =
                                      true,
                                  (if (closErr nB B nO O W G L a == (0 : Int)) = true then true
                                      else closErr nB B nO O W G L a == (13 : Int)) =
                                      true →
                                    (closErr nB B nO O W G L b == (0 : Int)) = false →
                                      ((if (closErr nB B nO O W G L a == (0 : Int)) = true then true
                                          else closErr nB B nO O W G L a == (13 : Int)) &&
                                          !closErr nB B nO O W G L b == (0 : Int)) =
                                        true,
                                  (if (closErr nB B nO O W G L a == (0 : Int)) = true then true
                                      else closErr nB B nO O W G L a == (13 : Int)) =
                                      true →
                                    (if (closErr nB B nO O W G L a == (0 : Int)) = true then true
                                      else closErr nB B nO O W G L a == (13 : Int)) =
                                      true]
                                (VT.done
                                  [(if
                                          (if (closErr nB B nO O W G L a == (0 : Int)) = true then true
                                            else closErr nB B nO O W G L a == (13 : Int)) =
                                            true then
                                        if (closErr nB B nO O W G L b == (0 : Int)) = true then true
                                        else closErr nB B nO O W G L b == (13 : Int)
                                      else false) =
                                      true]))
                              (VT.ite (closErr nB B nO O W G L (a + b) != (0 : Int)) (VT.done [false = true])
                                (VT.need
                                  [FnC prog (17 : Nat)
                                      [DV.agg
                                          [DV.lst nB [fun (i : Nat) => DV.val (Value.int IntKind.i64 (B i))],
                                            DV.lst nO [fun (i : Nat) => DV.val (Value.int IntKind.i64 (O i))],
                                            DV.val (Value.int IntKind.i64 W), DV.val (Value.int IntKind.i64 G),
                                            DV.val (Value.int IntKind.i64 L)],
                                        DV.agg
                                          [DV.lst (List.length (closS nB B nO O W G L a false))
                                              [fun (i : Nat) =>
                                                DV.val
                                                  (Value.int IntKind.i64
                                                    (List.getD (closS nB B nO O W G L a false) i (0 : Int)))],
                                            DV.lst (List.length (closS nB B nO O W G L a true))
                                              [fun (i : Nat) =>
                                                DV.val
                                                  (Value.int IntKind.i64
                                                    (List.getD (closS nB B nO O W G L a true) i (0 : Int)))]]]
                                      (DV.tup
                                        [DV.val
                                            (Value.agg
                                              {
                                                toList :=
                                                  [Value.int IntKind.i64 (oddC nB B nO O W G L a),
                                                    Value.int IntKind.i64 (bayC nB B nO O W G L a)] }),
                                          DV.val (Value.int IntKind.i64 (0 : Int))])]
                                  (VT.need
                                    [FnC prog (17 : Nat)
                                        [DV.agg
                                            [DV.lst nB [fun (i : Nat) => DV.val (Value.int IntKind.i64 (B i))],
                                              DV.lst nO [fun (i : Nat) => DV.val (Value.int IntKind.i64 (O i))],
                                              DV.val (Value.int IntKind.i64 W), DV.val (Value.int IntKind.i64 G),
                                              DV.val (Value.int IntKind.i64 L)],
                                          DV.agg
                                            [DV.lst (List.length (closS nB B nO O W G L b false))
                                                [fun (i : Nat) =>
                                                  DV.val
                                                    (Value.int IntKind.i64
                                                      (List.getD (closS nB B nO O W G L b false) i (0 : Int)))],
                                              DV.lst (List.length (closS nB B nO O W G L b true))
                                                [fun (i : Nat) =>
                                                  DV.val
                                                    (Value.int IntKind.i64
                                                      (List.getD (closS nB B nO O W G L b true) i (0 : Int)))]]]
                                        (DV.tup
                                          [DV.val
                                              (Value.agg
                                                {
                                                  toList :=
                                                    [Value.int IntKind.i64 (oddC nB B nO O W G L b),
                                                      Value.int IntKind.i64 (bayC nB B nO O W G L b)] }),
                                            DV.val (Value.int IntKind.i64 (0 : Int))])]
                                    (VT.need
                                      [FnC prog (17 : Nat)
                                          [DV.agg
                                              [DV.lst nB [fun (i : Nat) => DV.val (Value.int IntKind.i64 (B i))],
                                                DV.lst nO [fun (i : Nat) => DV.val (Value.int IntKind.i64 (O i))],
                                                DV.val (Value.int IntKind.i64 W), DV.val (Value.int IntKind.i64 G),
                                                DV.val (Value.int IntKind.i64 L)],
                                            DV.agg
                                              [DV.lst (List.length (closS nB B nO O W G L (a + b) false))
                                                  [fun (i : Nat) =>
                                                    DV.val
                                                      (Value.int IntKind.i64
                                                        (List.getD (closS nB B nO O W G L (a + b) false) i (0 : Int)))],
                                                DV.lst (List.length (closS nB B nO O W G L (a + b) true))
                                                  [fun (i : Nat) =>
                                                    DV.val
                                                      (Value.int IntKind.i64
                                                        (List.getD (closS nB B nO O W G L (a + b) true) i (0 : Int)))]]]
                                          (DV.tup
                                            [DV.val
                                                (Value.agg
                                                  {
                                                    toList :=
                                                      [Value.int IntKind.i64 (oddC nB B nO O W G L (a + b)),
                                                        Value.int IntKind.i64 (bayC nB B nO O W G L (a + b))] }),
                                              DV.val (Value.int IntKind.i64 (0 : Int))])]
                                      (VT.need
                                        [((0 : Int) == (0 : Int)) = true → ((0 : Int) == (0 : Int)) = true,
                                          ((0 : Int) == (0 : Int)) = true → ((0 : Int) == (0 : Int)) = true,
                                          (if ((0 : Int) == (0 : Int)) = true then (0 : Int) == (0 : Int) else false) =
                                              true →
                                            (if ((0 : Int) == (0 : Int)) = true then (0 : Int) == (0 : Int) else false) =
                                              true,
                                          (if ((0 : Int) == (0 : Int)) = true then (0 : Int) == (0 : Int) else false) =
                                              true →
                                            (if ((0 : Int) == (0 : Int)) = true then (0 : Int) == (0 : Int) else false) =
                                              true,
                                          (if
                                                  (if ((0 : Int) == (0 : Int)) = true then (0 : Int) == (0 : Int)
                                                    else false) =
                                                    true then
                                                (0 : Int) == (0 : Int)
                                              else false) =
                                              true →
                                            (if
                                                  (if ((0 : Int) == (0 : Int)) = true then (0 : Int) == (0 : Int)
                                                    else false) =
                                                    true then
                                                (0 : Int) == (0 : Int)
                                              else false) =
                                              true,
                                          (if
                                                  (if ((0 : Int) == (0 : Int)) = true then (0 : Int) == (0 : Int)
                                                    else false) =
                                                    true then
                                                (0 : Int) == (0 : Int)
                                              else false) =
                                              true →
                                            (if
                                                  (if ((0 : Int) == (0 : Int)) = true then (0 : Int) == (0 : Int)
                                                    else false) =
                                                    true then
                                                (0 : Int) == (0 : Int)
                                              else false) =
                                              true,
                                          (if
                                                  (if ((0 : Int) == (0 : Int)) = true then (0 : Int) == (0 : Int)
                                                    else false) =
                                                    true then
                                                (0 : Int) == (0 : Int)
                                              else false) =
                                              true →
                                            (if
                                                  (if ((0 : Int) == (0 : Int)) = true then (0 : Int) == (0 : Int)
                                                    else false) =
                                                    true then
                                                (0 : Int) == (0 : Int)
                                              else false) =
                                              true,
                                          (if
                                                  (if ((0 : Int) == (0 : Int)) = true then (0 : Int) == (0 : Int)
                                                    else false) =
                                                    true then
                                                (0 : Int) == (0 : Int)
                                              else false) =
                                              true →
                                            (if
                                                  (if ((0 : Int) == (0 : Int)) = true then (0 : Int) == (0 : Int)
                                                    else false) =
                                                    true then
                                                (0 : Int) == (0 : Int)
                                              else false) =
                                              true,
                                          (if
                                                  (if ((0 : Int) == (0 : Int)) = true then (0 : Int) == (0 : Int)
                                                    else false) =
                                                    true then
                                                (0 : Int) == (0 : Int)
                                              else false) =
                                              true →
                                            i64In (oddC nB B nO O W G L a + oddC nB B nO O W G L b),
                                          (if
                                                  (if ((0 : Int) == (0 : Int)) = true then (0 : Int) == (0 : Int)
                                                    else false) =
                                                    true then
                                                (0 : Int) == (0 : Int)
                                              else false) =
                                              true →
                                            (if
                                                  (if ((0 : Int) == (0 : Int)) = true then (0 : Int) == (0 : Int)
                                                    else false) =
                                                    true then
                                                (0 : Int) == (0 : Int)
                                              else false) =
                                              true,
                                          (if
                                                  (if ((0 : Int) == (0 : Int)) = true then (0 : Int) == (0 : Int)
                                                    else false) =
                                                    true then
                                                (0 : Int) == (0 : Int)
                                              else false) =
                                              true →
                                            (if
                                                  (if ((0 : Int) == (0 : Int)) = true then (0 : Int) == (0 : Int)
                                                    else false) =
                                                    true then
                                                (0 : Int) == (0 : Int)
                                              else false) =
                                              true,
                                          (if
                                                  (if ((0 : Int) == (0 : Int)) = true then (0 : Int) == (0 : Int)
                                                    else false) =
                                                    true then
                                                (0 : Int) == (0 : Int)
                                              else false) =
                                              true →
                                            (if
                                                  (if ((0 : Int) == (0 : Int)) = true then (0 : Int) == (0 : Int)
                                                    else false) =
                                                    true then
                                                (0 : Int) == (0 : Int)
                                              else false) =
                                              true,
                                          (if
                                                  (if ((0 : Int) == (0 : Int)) = true then (0 : Int) == (0 : Int)
                                                    else false) =
                                                    true then
                                                (0 : Int) == (0 : Int)
                                              else false) =
                                              true →
                                            (if
                                                  (if ((0 : Int) == (0 : Int)) = true then (0 : Int) == (0 : Int)
                                                    else false) =
                                                    true then
                                                (0 : Int) == (0 : Int)
                                              else false) =
                                              true,
                                          (if
                                                  (if ((0 : Int) == (0 : Int)) = true then (0 : Int) == (0 : Int)
                                                    else false) =
                                                    true then
                                                (0 : Int) == (0 : Int)
                                              else false) =
                                              true →
                                            i64In (bayC nB B nO O W G L a + bayC nB B nO O W G L b),
                                          (if
                                                  (if ((0 : Int) == (0 : Int)) = true then (0 : Int) == (0 : Int)
                                                    else false) =
                                                    true then
                                                (0 : Int) == (0 : Int)
                                              else false) =
                                              true →
                                            (if
                                                  (if ((0 : Int) == (0 : Int)) = true then (0 : Int) == (0 : Int)
                                                    else false) =
                                                    true then
                                                (0 : Int) == (0 : Int)
                                              else false) =
                                              true,
                                          (if
                                                  (if ((0 : Int) == (0 : Int)) = true then (0 : Int) == (0 : Int)
                                                    else false) =
                                                    true then
                                                (0 : Int) == (0 : Int)
                                              else false) =
                                              true →
                                            (if
                                                  (if ((0 : Int) == (0 : Int)) = true then (0 : Int) == (0 : Int)
                                                    else false) =
                                                    true then
                                                (0 : Int) == (0 : Int)
                                              else false) =
                                              true,
                                          (if
                                                  (if ((0 : Int) == (0 : Int)) = true then (0 : Int) == (0 : Int)
                                                    else false) =
                                                    true then
                                                (0 : Int) == (0 : Int)
                                              else false) =
                                              true →
                                            (if
                                                  (if ((0 : Int) == (0 : Int)) = true then (0 : Int) == (0 : Int)
                                                    else false) =
                                                    true then
                                                (0 : Int) == (0 : Int)
                                              else false) =
                                              true,
                                          (if
                                                  (if ((0 : Int) == (0 : Int)) = true then (0 : Int) == (0 : Int)
                                                    else false) =
                                                    true then
                                                (0 : Int) == (0 : Int)
                                              else false) =
                                              true →
                                            (if
                                                  (if ((0 : Int) == (0 : Int)) = true then (0 : Int) == (0 : Int)
                                                    else false) =
                                                    true then
                                                (0 : Int) == (0 : Int)
                                              else false) =
                                              true,
                                          (if
                                                  (if ((0 : Int) == (0 : Int)) = true then (0 : Int) == (0 : Int)
                                                    else false) =
                                                    true then
                                                (0 : Int) == (0 : Int)
                                              else false) =
                                              true →
                                            FnC prog (18 : Nat)
                                              [DV.val
                                                  (Value.agg
                                                    {
                                                      toList :=
                                                        [Value.int IntKind.i64
                                                            (oddC nB B nO O W G L a + oddC nB B nO O W G L b),
                                                          Value.int IntKind.i64
                                                            (bayC nB B nO O W G L a + bayC nB B nO O W G L b)] }),
                                                DV.val
                                                  (Value.agg
                                                    {
                                                      toList :=
                                                        [Value.int IntKind.i64 (oddC nB B nO O W G L (a + b)),
                                                          Value.int IntKind.i64 (bayC nB B nO O W G L (a + b))] })]
                                              (DV.val
                                                (Value.bool
                                                  (lessC (oddC nB B nO O W G L a + oddC nB B nO O W G L b)
                                                    (bayC nB B nO O W G L a + bayC nB B nO O W G L b)
                                                    (oddC nB B nO O W G L (a + b)) (bayC nB B nO O W G L (a + b))))),
                                          (if
                                                  (if ((0 : Int) == (0 : Int)) = true then (0 : Int) == (0 : Int)
                                                    else false) =
                                                    true then
                                                (0 : Int) == (0 : Int)
                                              else false) =
                                              true →
                                            (if
                                                  (if ((0 : Int) == (0 : Int)) = true then (0 : Int) == (0 : Int)
                                                    else false) =
                                                    true then
                                                (0 : Int) == (0 : Int)
                                              else false) =
                                              true,
                                          (if
                                                  (if ((0 : Int) == (0 : Int)) = true then (0 : Int) == (0 : Int)
                                                    else false) =
                                                    true then
                                                (0 : Int) == (0 : Int)
                                              else false) =
                                              true →
                                            (if
                                                  (if ((0 : Int) == (0 : Int)) = true then (0 : Int) == (0 : Int)
                                                    else false) =
                                                    true then
                                                (0 : Int) == (0 : Int)
                                              else false) =
                                              true]
                                        (VT.done
                                          [(if
                                                  (if
                                                        (if ((0 : Int) == (0 : Int)) = true then (0 : Int) == (0 : Int)
                                                          else false) =
                                                          true then
                                                      (0 : Int) == (0 : Int)
                                                    else false) =
                                                    true then
                                                !lessC (oddC nB B nO O W G L a + oddC nB B nO O W G L b)
                                                    (bayC nB B nO O W G L a + bayC nB B nO O W G L b)
                                                    (oddC nB B nO O W G L (a + b)) (bayC nB B nO O W G L (a + b))
                                              else false) =
                                              true])))))))))))))))))) (by kernel_rfl) ?_
  simp only [VT.holds, AllT, imp_self, implies_true, and_true, true_and, toNat_succ, toNat_add2, toNat_zero', Int.toNat_natCast, Bool.if_true_left, Bool.if_false_right, Bool.decide_eq_true, Bool.or_eq_true, Bool.or_eq_false_iff, Bool.and_eq_true, Bool.and_eq_false_imp, Bool.not_eq_true', Bool.not_eq_false', Bool.not_not, bne_iff_ne, bne_eq_false_iff_eq, beq_iff_eq, beq_eq_false_iff_ne, decide_eq_true_eq, decide_eq_false_iff_not, ne_eq, if_true]
  refine ⟨awake_c, fun h => (by cases h), fun _ => ⟨⟨few_c nB B nO O W G L, fun _ => systemR_c nB B nO O W G L, fun _ => withinR_c _ _ _, fun _ => withinR_c _ _ _, fun hx => ?_, fun hx => lengthErr_c nB B nO O W G L (a + b) (by
    apply Classical.byContradiction
    intro h
    exact hx.1 (.inl (.inr h)))⟩, fun ⟨hx, hl⟩ => ?_⟩⟩
  · have ha : inR a 0 100000000 = true := by
      cases h : inR a 0 100000000 with
      | true => rfl
      | false => exact absurd (.inr h) hx.1
    have hb := hx.2
    rw [inR, decide_eq_true_eq] at ha hb
    unfold i64In; omega
  have hs : sysE nB B nO O W G L = 0 := by
    apply Classical.byContradiction
    intro h
    exact hx (.inl (.inl (.inr h)))
  have ha : inR a 0 100000000 = true := by
    cases h : inR a 0 100000000 with
    | true => rfl
    | false => exact absurd (.inl (.inr h)) hx
  have hb : inR b 0 100000000 = true := by
    cases h : inR b 0 100000000 with
    | true => rfl
    | false => exact absurd (.inr h) hx
  rw [inR, decide_eq_true_eq] at ha hb
  obtain ⟨s1, s2, s3, sB, sO, _, _⟩ := sys_ok hs
  have hu := unitP_bd s1 sB sO
  have hall : a + b ≤ 4000 * (unitP nB B nO O (nB + nO) : Int) := by
    rw [unit_eq]
    unfold lenR at hl
    split at hl
    · cases hl
    · split at hl
      · cases hl
      · omega
  have hme : ∀ x, 0 ≤ x → x ≤ a + b → measE nB B nO O W G L x = 0 := fun x h0 h1 => by
    rw [measE, if_pos hs, if_neg (by omega), if_neg (by omega)]
  have mA := hme a ha.1 (by omega)
  have mB := hme b hb.1 (by omega)
  have mC := hme (a + b) (by omega) (Int.le_refl _)
  have wE := ways_err mC
  have cost : ∀ x, 0 ≤ x → x ≤ a + b → okC (unitP nB B nO O (nB + nO)) (tabS nB B nO O) x = true → FnC prog 17 [sys nB B nO O W G L, clg (closS nB B nO O W G L x false).length (fun i => (closS nB B nO O W G L x false).getD i 0) (closS nB B nO O W G L x true).length (fun i => (closS nB B nO O W G L x true).getD i 0)]
      (.tup [dP (oddC nB B nO O W G L x) (bayC nB B nO O W G L x), dI 0]) := fun x h0 h1 hok => by
    obtain ⟨c1, c2, _⟩ := clos_facts (hme x h0 h1) hok
    have hb : bothE nB B nO O W G L (closS nB B nO O W G L x false).length (fun i => (closS nB B nO O W G L x false).getD i 0) (closS nB B nO O W G L x true).length (fun i => (closS nB B nO O W G L x true).getD i 0) = 0 := by
      rw [bothE, if_pos hs, clos_ck (hme x h0 h1) hok]
    have := costTop_c nB B nO O W G L (closS nB B nO O W G L x false).length (fun i => (closS nB B nO O W G L x false).getD i 0) (closS nB B nO O W G L x true).length (fun i => (closS nB B nO O W G L x true).getD i 0) (by omega) (by omega)
    rw [hb, if_pos rfl, if_pos rfl, cntN_list] at this
    exact this
  refine ⟨closeTop_c nB B nO O W G L a, closeTop_c nB B nO O W G L b, ⟨by unfold i64In; omega, closeTop_c nB B nO O W G L (a + b)⟩, ⟨by unfold i64In; omega, waysTop_c nB B nO O W G L (a + b)⟩, ⟨fun h1 h2 => ⟨h1, h2⟩, fun h1 h2 => ⟨h1, h2⟩⟩, fun hbad => ?_, fun _ => ⟨fun _ => ⟨fun h1 h2 => ⟨h1, h2⟩, ?_, ?_⟩, fun ⟨e1, e2⟩ => ?_⟩⟩
  · exfalso
    rcases hbad with (⟨h1, h2⟩ | ⟨h1, h2⟩) | ⟨h1, h2⟩
    · rcases wE with w | w
      · exact h1 w.1
      · exact h2 w.1
    · rcases wE with w | w
      · apply h2
        rw [Bool.eq_iff_iff, beq_iff_eq, beq_iff_eq]
        exact w.2
      · omega
    · rcases wE with w | w
      · omega
      · exact h2 w.2
  · rcases clos_err mA with h | h
    · exact .inl h.1
    · exact .inr h
  · rcases clos_err mB with h | h
    · exact .inl h.1
    · exact .inr h
  · have e1 := Classical.not_not.1 e1
    have oA : okC (unitP nB B nO O (nB + nO)) (tabS nB B nO O) a = true := by
      rcases clos_err mA with h | h
      · exact h.2
      · rw [e1] at h; cases h
    have oB : okC (unitP nB B nO O (nB + nO)) (tabS nB B nO O) b = true := by
      rcases clos_err mB with h | h
      · exact h.2
      · rw [e2] at h; cases h
    obtain ⟨oC, hT⟩ := ok_add hu.1 ha.1 hb.1 rfl oA oB
    have eC : closErr nB B nO O W G L (a + b) = 0 := by rw [closErr, if_pos mC, if_pos oC]
    refine ⟨fun h => absurd eC h, fun _ => ⟨cost a ha.1 (by omega) oA, cost b hb.1 (by omega) oB, cost (a + b) (by omega) (Int.le_refl _) oC, ?_⟩⟩
    obtain ⟨a1, a2, _, _, _, _, _, a8⟩ := clos_facts mA oA
    obtain ⟨b1, b2, _, _, _, _, _, b8⟩ := clos_facts mB oB
    obtain ⟨c1, c2, _, _, _, _, _, c8⟩ := clos_facts mC oC
    have oa := oddZ_nonneg (B (nB - 1)) (closS nB B nO O W G L a false)
    have ob := oddZ_nonneg (B (nB - 1)) (closS nB B nO O W G L b false)
    have oc := oddZ_nonneg (B (nB - 1)) (closS nB B nO O W G L (a + b) false)
    have ua : oddC nB B nO O W G L a = (closS nB B nO O W G L a true).length + oddZ (B (nB - 1)) (closS nB B nO O W G L a false) := rfl
    have ub : oddC nB B nO O W G L b = (closS nB B nO O W G L b true).length + oddZ (B (nB - 1)) (closS nB B nO O W G L b false) := rfl
    have uc : oddC nB B nO O W G L (a + b) = (closS nB B nO O W G L (a + b) true).length + oddZ (B (nB - 1)) (closS nB B nO O W G L (a + b) false) := rfl
    have va : bayC nB B nO O W G L a = (closS nB B nO O W G L a false).length := rfl
    have vb : bayC nB B nO O W G L b = (closS nB B nO O W G L b false).length := rfl
    have vc : bayC nB B nO O W G L (a + b) = (closS nB B nO O W G L (a + b) false).length := rfl
    refine ⟨⟨fun _ => by unfold i64In; omega, fun _ => by unfold i64In; omega, fun _ => less_c _ _ _ _⟩, ?_⟩
    rw [lessC, decide_eq_false_iff_not]
    omega
end Go.Abs
