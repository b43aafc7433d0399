/- Contracts. -/
import Derived.Test.YtpllaeomcjplnaaL22
set_option linter.unusedVariables false
set_option linter.unusedSimpArgs false
set_option maxRecDepth 100000
namespace Go.Abs
open Go
def rCloseTop : Orc := .res fun l => .tup [.agg [lstD (closS (gB l) (gBf l) (gO l) (gOf l) (gW l) (gG l) (gL l) (aI l 1) false), lstD (closS (gB l) (gBf l) (gO l) (gOf l) (gW l) (gG l) (gL l) (aI l 1) true)], dI (closErr (gB l) (gBf l) (gO l) (gOf l) (gW l) (gG l) (gL l) (aI l 1))]
def rLeast : Orc := .res fun l => dI (leastR (gB l) (gBf l) (gO l) (gOf l) (aI l 1))
def rClosesR : Orc := .res fun l => dI (closesE (gB l) (gBf l) (gO l) (gOf l) (kC l) (kCf l) (kD l) (kDf l) (aI l 1))
def rCostR : Orc := .res fun l => dP ((hD l : Int) + cntN (hCf l) (gBf l (gB l - 1)) (hC l)) (hC l)
def rCodeF : Orc := .res fun l => dI (10000 * fI 0 (arg l 0) + fI 1 (arg l 0))
theorem units_mul {u : Nat} {x : Int} (hu : 1 ≤ u) (hd : (u : Int) ∣ x) (hx : 0 ≤ x) : x = (unitsOf u x : Int) * u := by
  have h0 := Int.ediv_nonneg (a := x) (b := (u : Int)) hx (by omega)
  unfold unitsOf
  rw [Int.toNat_of_nonneg h0, Int.ediv_mul_cancel hd]
/-- What is closed: the parts are of the system, descend, have the length in sum and the least code. -/
theorem clos_facts {nB : Nat} {B : Nat → Int} {nO : Nat} {O : Nat → Int} {W G L len : Int} (h : measE nB B nO O W G L len = 0) (hok : okC (unitP nB B nO O (nB + nO)) (tabS nB B nO O) len = true) :
    (closS nB B nO O W G L len false).length ≤ 4000 ∧ (closS nB B nO O W G L len true).length ≤ 4000 ∧
    (∀ x, x ∈ closS nB B nO O W G L len false → ∃ j, j < nB ∧ B j = x) ∧ (∀ x, x ∈ closS nB B nO O W G L len true → ∃ j, j < nO ∧ O j = x) ∧
    fallR (closS nB B nO O W G L len false).length (fun i => (closS nB B nO O W G L len false).getD i 0) = true ∧ fallR (closS nB B nO O W G L len true).length (fun i => (closS nB B nO O W G L len true).getD i 0) = true ∧
    sumZ (closS nB B nO O W G L len false) + sumZ (closS nB B nO O W G L len true) = len ∧
    ((closS nB B nO O W G L len false).length : Int) + 10000 * (oddZ (B (nB - 1)) (closS nB B nO O W G L len false) + (closS nB B nO O W G L len true).length) = tabS nB B nO O (len / (unitP nB B nO O (nB + nO) : Int)).toNat := by
  obtain ⟨h1, h2, h3⟩ := meas_ok h
  obtain ⟨s1, s2, s3, sB, sO, sr, _⟩ := sys_ok h1
  have hu := unitP_bd s1 sB sO
  obtain ⟨q0, q1⟩ := quo_bd hu.1 h2 h3
  have ht := tab_sys sB sO
  have hok' := hok
  rw [okC, decide_eq_true_eq] at hok'
  obtain ⟨hr, hK⟩ := hok'
  have hdv : ∀ i, i < nB + nO → pLen nB B nO O i = (unitsOf (unitP nB B nO O (nB + nO)) (pLen nB B nO O i) : Int) * (unitP nB B nO O (nB + nO) : Nat) := fun i hi =>
    units_mul hu.1 (gcdL_dvd (mem_range_map hi)) (by have := pLen_bd sB sO hi; omega)
  have hlen : len = ((len / (unitP nB B nO O (nB + nO) : Int)).toNat : Int) * (unitP nB B nO O (nB + nO) : Nat) := by
    rw [Int.toNat_of_nonneg q0, Int.ediv_mul_cancel (Int.dvd_of_emod_eq_zero hr)]
  have e : ∀ s, closS nB B nO O W G L len s = sortD (takeL (unitP nB B nO O (nB + nO)) (nB + nO) (pLen nB B nO O) (pCode nB) (tabS nB B nO O) (fun i => decide (nB ≤ i)) s (len / (unitP nB B nO O (nB + nO) : Int)).toNat (len / (unitP nB B nO O (nB + nO) : Int)).toNat) := fun s => by
    rw [closS, if_pos h, closL, hok, if_pos rfl]
  have hrise : ∀ k, k < nB → 0 < k → B (k - 1) < B k := by rw [rise, decide_eq_true_eq] at sr; exact sr
  have hless : ∀ i, i < nB - 1 → B i < B (nB - 1) := by
    intro i hi
    have : ∀ d, i + d + 1 < nB → B i < B (i + d + 1) := by
      intro d
      induction d with
      | zero => intro hd; exact hrise (i + 1) hd (by omega)
      | succ d ih =>
        intro hd
        have h5 := ih (by omega)
        have h6 := hrise (i + (d + 1) + 1) hd (by omega)
        rw [show i + (d + 1) + 1 - 1 = i + d + 1 by omega] at h6
        omega
    have h7 := this (nB - 2 - i) (by omega)
    rw [show i + (nB - 2 - i) + 1 = nB - 1 by omega] at h7
    exact h7
  have hu1 := hu.1
  have hKb : (len / (unitP nB B nO O (nB + nO) : Int)).toNat ≤ 4000 := by omega
  generalize unitP nB B nO O (nB + nO) = u at *
  generalize (len / (u : Int)).toNat = K at *
  have hend := kAt_end ht hK
  have hsum := take_sum (b := fun i => decide (nB ≤ i)) ht hK hdv K
  have hcost := take_cost (b := fun i => decide (nB ≤ i)) (M := B (nB - 1)) ht hK (fun i hi hb => by
    have hb' : i < nB := by rw [decide_eq_false_iff_not] at hb; omega
    rw [pCode, if_pos hb', pLen, if_pos hb']
    by_cases h0 : i = 0
    · rw [if_pos h0, h0, Nat.sub_zero, if_pos rfl]; rfl
    · have := hless (nB - 1 - i) (by omega)
      rw [if_neg h0, if_neg (by omega)]; rfl) (fun i hi hb => by
    rw [decide_eq_true_eq] at hb
    rw [pCode, if_neg (by omega)]) K
  have hle : ∀ i, i ≤ K → (∀ j, j < i → kAt u (nB + nO) (pLen nB B nO O) (pCode nB) (tabS nB B nO O) K j ≠ 0) ∨ ∃ j, j < i ∧ kAt u (nB + nO) (pLen nB B nO O) (pCode nB) (tabS nB B nO O) K j = 0 := fun i _ => by
    by_cases hx : ∃ j, j < i ∧ kAt u (nB + nO) (pLen nB B nO O) (pCode nB) (tabS nB B nO O) K j = 0
    · exact .inr hx
    · exact .inl fun j hj h0 => hx ⟨j, hj, h0⟩
  have hlens : ∀ m, (takeL u (nB + nO) (pLen nB B nO O) (pCode nB) (tabS nB B nO O) (fun i => decide (nB ≤ i)) false K m).length + (takeL u (nB + nO) (pLen nB B nO O) (pCode nB) (tabS nB B nO O) (fun i => decide (nB ≤ i)) true K m).length ≤ m := by
    intro m
    induction m with
    | zero => simp [takeL]
    | succ m ih =>
      simp only [takeL]
      split <;> split <;> (try simp only [List.length_append, List.length_singleton]) <;> rename_i a b
      · rw [a.2] at b; cases b.2
      all_goals omega
  have hl := hlens K
  simp only [e]
  rw [sortD_len, sortD_len, sumZ_perm (sortD_perm _), sumZ_perm (sortD_perm _), oddZ_perm (sortD_perm _)]
  have f1 := sortD_fall (takeL u (nB + nO) (pLen nB B nO O) (pCode nB) (tabS nB B nO O) (fun i => decide (nB ≤ i)) false K K)
  have f2 := sortD_fall (takeL u (nB + nO) (pLen nB B nO O) (pCode nB) (tabS nB B nO O) (fun i => decide (nB ≤ i)) true K K)
  rw [sortD_len] at f1 f2
  rw [hend] at hsum hcost
  rw [ht.zero] at hcost
  refine ⟨by omega, by omega, fun x hx => ?_, fun x hx => ?_, f1, f2, ?_, ?_⟩
  · obtain ⟨i, hi, rfl, hb⟩ := take_mem ht hK ((sortD_perm _).mem_iff.1 hx)
    have hb' : i < nB := by rw [decide_eq_false_iff_not] at hb; omega
    exact ⟨nB - 1 - i, by omega, by rw [pLen, if_pos hb']⟩
  · obtain ⟨i, hi, rfl, hb⟩ := take_mem ht hK ((sortD_perm _).mem_iff.1 hx)
    have hb' : nB ≤ i := by rwa [decide_eq_true_eq] at hb
    exact ⟨nO - 1 - (i - nB), by omega, by rw [pLen, if_neg (by omega)]⟩
  · rw [hlen]; simpa using hsum
  · omega
theorem clos_none {nB : Nat} {B : Nat → Int} {nO : Nat} {O : Nat → Int} {W G L len : Int} (h : ¬ (measE nB B nO O W G L len = 0 ∧ okC (unitP nB B nO O (nB + nO)) (tabS nB B nO O) len = true)) (s : Bool) : closS nB B nO O W G L len s = [] := by
  rw [closS]
  split
  · rename_i h1
    rw [closL, if_neg (fun h2 => h ⟨h1, h2⟩)]
  · rfl
theorem least_ok {nB : Nat} {B : Nat → Int} {nO : Nat} {O : Nat → Int} {len : Int} : okC (unitP nB B nO O (nB + nO)) (tabS nB B nO O) len = true ↔ 0 ≤ leastR nB B nO O len := by
  rw [okC, decide_eq_true_eq, leastR, unit_eq, tabS_eq]
  by_cases h : len % (unitR nB B O (nB + nO) : Int) = 0
  · rw [if_pos h]; exact ⟨fun x => x.2, fun x => ⟨h, x⟩⟩
  · rw [if_neg h]; exact ⟨fun x => absurd x.1 h, fun x => absurd x (by omega)⟩
theorem getD_mem {l : List Int} {k : Nat} (h : k < l.length) : l.getD k 0 ∈ l := by
  rw [List.getD_eq_getElem?_getD, List.getElem?_eq_getElem h]; exact List.getElem_mem h
theorem clos_ck {nB : Nat} {B : Nat → Int} {nO : Nat} {O : Nat → Int} {W G L len : Int} (h : measE nB B nO O W G L len = 0) (hok : okC (unitP nB B nO O (nB + nO)) (tabS nB B nO O) len = true) :
    ckE nB B nO O (closS nB B nO O W G L len false).length (fun i => (closS nB B nO O W G L len false).getD i 0) (closS nB B nO O W G L len true).length (fun i => (closS nB B nO O W G L len true).getD i 0) = 0 := by
  obtain ⟨c1, c2, c3, c4, c5, c6, c7, c8⟩ := clos_facts h hok
  have g : ∀ {l : List Int} {m : Nat} {V : Nat → Int}, (∀ x, x ∈ l → ∃ j, j < m ∧ V j = x) → others l.length (fun i => l.getD i 0) m V = false := fun h => anyN_false.2 fun k hk => by
    obtain ⟨j, hj, e⟩ := h _ (getD_mem hk)
    rw [Bool.not_eq_false']
    exact anyN_true.2 ⟨j, hj, by simpa using e⟩
  rw [ckE, if_neg (by omega), if_neg (by rw [g c3, g c4]; simp), if_neg (by rw [c5, c6]; simp)]
theorem clos_closes {nB : Nat} {B : Nat → Int} {nO : Nat} {O : Nat → Int} {W G L len : Int} (h : measE nB B nO O W G L len = 0) (hok : okC (unitP nB B nO O (nB + nO)) (tabS nB B nO O) len = true) :
    closesE nB B nO O (closS nB B nO O W G L len false).length (fun i => (closS nB B nO O W G L len false).getD i 0) (closS nB B nO O W G L len true).length (fun i => (closS nB B nO O W G L len true).getD i 0) len = 0 := by
  obtain ⟨c1, c2, c3, c4, c5, c6, c7, c8⟩ := clos_facts h hok
  rw [closesE, if_pos (clos_ck h hok), sumI_list, sumI_list, if_pos c7]
noncomputable def A3_layoutCloses_c (nB : Nat) (B : Nat → Int) (nO : Nat) (O : Nat → Int) (W G L len : Int) : Ann := { orc := [(1, [(0, .res fun _ => dB true)]), (3, [(1, rFew)]), (5, [(1, rCopied), (3, rCloseTop)]), (6, [(1, rSys)]), (8, [(2, rLenR)]), (11, [(2, rLeast)]), (16, [(6, rClosesR), (12, rCostR), (13, rCodeF)])], loops := [], cuts := [] }
theorem layoutCloses_c (nB : Nat) (B : Nat → Int) (nO : Nat) (O : Nat → Int) (W G L len : Int)  : FnC prog 3 [sys nB B nO O W G L, dI len] (dB true) := by
  refine FnC_owed hmix (A3_layoutCloses_c nB B nO O W G L len) (V := VT.need [FnC prog (5 : Nat) [] (DV.val (Value.bool true))]
        (VT.ite (!true) (VT.done [false = true])
          (VT.need
            [FnC prog (6 : Nat)
                [DV.agg
                    [DV.lst nB [fun (i : Nat) => DV.val (Value.int IntKind.i64 (B i))],
                      DV.lst nO [fun (i : Nat) => DV.val (Value.int IntKind.i64 (O i))], DV.val (Value.int IntKind.i64 W),
                      DV.val (Value.int IntKind.i64 G), DV.val (Value.int IntKind.i64 L)]]
                (DV.val (Value.bool (decide (nB ≤ (12 : Nat) ∧ nO ≤ (12 : Nat)))))]
            (VT.ite (!decide (nB ≤ (12 : Nat) ∧ nO ≤ (12 : Nat))) (VT.done [true = true])
              (VT.need
                [FnC prog (8 : Nat)
                    [DV.agg
                        [DV.lst nB [fun (i : Nat) => DV.val (Value.int IntKind.i64 (B i))],
                          DV.lst nO [fun (i : Nat) => DV.val (Value.int IntKind.i64 (O i))],
                          DV.val (Value.int IntKind.i64 W), DV.val (Value.int IntKind.i64 G),
                          DV.val (Value.int IntKind.i64 L)]]
                    (DV.agg
                      [DV.lst nB [fun (i : Nat) => DV.val (Value.int IntKind.i64 (B i))],
                        DV.lst nO [fun (i : Nat) => DV.val (Value.int IntKind.i64 (O i))], DV.val (Value.int IntKind.i64 W),
                        DV.val (Value.int IntKind.i64 G), DV.val (Value.int IntKind.i64 L)]),
                  FnC prog (7 : Nat)
                    [DV.agg
                        [DV.lst nB [fun (i : Nat) => DV.val (Value.int IntKind.i64 (B i))],
                          DV.lst nO [fun (i : Nat) => DV.val (Value.int IntKind.i64 (O i))],
                          DV.val (Value.int IntKind.i64 W), DV.val (Value.int IntKind.i64 G),
                          DV.val (Value.int IntKind.i64 L)],
                      DV.val (Value.int IntKind.i64 len)]
                    (DV.tup
                      [DV.agg
                          [DV.lst (List.length (closS nB B nO O W G L len false))
                              [fun (i : Nat) =>
                                DV.val (Value.int IntKind.i64 (List.getD (closS nB B nO O W G L len false) i (0 : Int)))],
                            DV.lst (List.length (closS nB B nO O W G L len true))
                              [fun (i : Nat) =>
                                DV.val (Value.int IntKind.i64 (List.getD (closS nB B nO O W G L len true) i (0 : Int)))]],
                        DV.val (Value.int IntKind.i64 (closErr nB B nO O W G L len))])]
                (VT.need
                  [FnC prog (9 : Nat)
                      [DV.agg
                          [DV.lst nB [fun (i : Nat) => DV.val (Value.int IntKind.i64 (B i))],
                            DV.lst nO [fun (i : Nat) => DV.val (Value.int IntKind.i64 (O i))],
                            DV.val (Value.int IntKind.i64 W), DV.val (Value.int IntKind.i64 G),
                            DV.val (Value.int IntKind.i64 L)]]
                      (DV.val (Value.int IntKind.i64 (sysE nB B nO O W G L)))]
                  (VT.ite (sysE nB B nO O W G L == (0 : Int))
                    (VT.need
                      [FnC prog (10 : Nat)
                          [DV.agg
                              [DV.lst nB [fun (i : Nat) => DV.val (Value.int IntKind.i64 (B i))],
                                DV.lst nO [fun (i : Nat) => DV.val (Value.int IntKind.i64 (O i))],
                                DV.val (Value.int IntKind.i64 W), DV.val (Value.int IntKind.i64 G),
                                DV.val (Value.int IntKind.i64 L)],
                            DV.val (Value.int IntKind.i64 len)]
                          (DV.val (Value.int IntKind.i64 (lenR nB B nO O len)))]
                      (VT.ite (lenR nB B nO O len == (0 : Int))
                        (VT.need
                          [FnC prog (11 : Nat)
                              [DV.agg
                                  [DV.lst nB [fun (i : Nat) => DV.val (Value.int IntKind.i64 (B i))],
                                    DV.lst nO [fun (i : Nat) => DV.val (Value.int IntKind.i64 (O i))],
                                    DV.val (Value.int IntKind.i64 W), DV.val (Value.int IntKind.i64 G),
                                    DV.val (Value.int IntKind.i64 L)],
                                DV.val (Value.int IntKind.i64 len)]
                              (DV.val (Value.int IntKind.i64 (leastR nB B nO O len)))]
                          (VT.ite (decide (leastR nB B nO O len < (0 : Int)))
                            (VT.ite ((13 : Int) != (0 : Int))
                              (VT.need
                                [(closErr nB B nO O W G L len == (13 : Int)) = true →
                                    (closErr nB B nO O W G L len == (13 : Int)) = true,
                                  (closErr nB B nO O W G L len == (13 : Int)) = true →
                                    (closErr nB B nO O W G L len == (13 : Int)) = true,
                                  (closErr nB B nO O W G L len == (13 : Int)) = true →
                                    (closErr nB B nO O W G L len == (13 : Int)) = true,
                                  (closErr nB B nO O W G L len == (13 : Int)) = true →
                                    (closErr nB B nO O W G L len == (13 : Int)) = true,
                                  (closErr nB B nO O W G L len == (13 : Int)) = true →
                                    (closErr nB B nO O W G L len == (13 : Int)) = true,
                                  (closErr nB B nO O W G L len == (13 : Int)) = true →
                                    (closErr nB B nO O W G L len == (13 : Int)) = true,
                                  (closErr nB B nO O W G L len == (13 : Int)) = true →
                                    i64In
                                      ((↑(List.length (closS nB B nO O W G L len false)) : Int) +
                                        (↑(List.length (closS nB B nO O W G L len true)) : Int)),
                                  (closErr nB B nO O W G L len == (13 : Int)) = true →
                                    (closErr nB B nO O W G L len == (13 : Int)) = true,
                                  (closErr nB B nO O W G L len == (13 : Int)) = true →
                                    (closErr nB B nO O W G L len == (13 : Int)) = true]
                                (VT.done
                                  [(if (closErr nB B nO O W G L len == (13 : Int)) = true then
                                        (↑(List.length (closS nB B nO O W G L len false)) : Int) +
                                            (↑(List.length (closS nB B nO O W G L len true)) : Int) ==
                                          (0 : Int)
                                      else false) =
                                      true]))
                              (VT.need
                                [(closErr nB B nO O W G L len == (0 : Int)) = true →
                                    (closErr nB B nO O W G L len == (0 : Int)) = true,
                                  (closErr nB B nO O W G L len == (0 : Int)) = true →
                                    (closErr nB B nO O W G L len == (0 : Int)) = true,
                                  (closErr nB B nO O W G L len == (0 : Int)) = true →
                                    (closErr nB B nO O W G L len == (0 : Int)) = true,
                                  (closErr nB B nO O W G L len == (0 : Int)) = true →
                                    FnC prog (12 : Nat)
                                      [DV.agg
                                          [DV.lst nB [fun (i : Nat) => DV.val (Value.int IntKind.i64 (B i))],
                                            DV.lst nO [fun (i : Nat) => DV.val (Value.int IntKind.i64 (O i))],
                                            DV.val (Value.int IntKind.i64 W), DV.val (Value.int IntKind.i64 G),
                                            DV.val (Value.int IntKind.i64 L)],
                                        DV.val (Value.int IntKind.i64 len),
                                        DV.agg
                                          [DV.lst (List.length (closS nB B nO O W G L len false))
                                              [fun (i : Nat) =>
                                                DV.val
                                                  (Value.int IntKind.i64
                                                    (List.getD (closS nB B nO O W G L len false) i (0 : Int)))],
                                            DV.lst (List.length (closS nB B nO O W G L len true))
                                              [fun (i : Nat) =>
                                                DV.val
                                                  (Value.int IntKind.i64
                                                    (List.getD (closS nB B nO O W G L len true) i (0 : Int)))]]]
                                      (DV.val
                                        (Value.int IntKind.i64
                                          (closesE nB B nO O (List.length (closS nB B nO O W G L len false))
                                            (fun (a : Nat) => List.getD (closS nB B nO O W G L len false) a (0 : Int))
                                            (List.length (closS nB B nO O W G L len true))
                                            (fun (a : Nat) => List.getD (closS nB B nO O W G L len true) a (0 : Int))
                                            len))),
                                  (closErr nB B nO O W G L len == (0 : Int)) = true →
                                    (closErr nB B nO O W G L len == (0 : Int)) = true,
                                  (closErr nB B nO O W G L len == (0 : Int)) = true →
                                    (closErr nB B nO O W G L len == (0 : Int)) = true,
                                  (if (closErr nB B nO O W G L len == (0 : Int)) = true then
                                        closesE nB B nO O (List.length (closS nB B nO O W G L len false))
                                            (fun (a : Nat) => List.getD (closS nB B nO O W G L len false) a (0 : Int))
                                            (List.length (closS nB B nO O W G L len true))
                                            (fun (a : Nat) => List.getD (closS nB B nO O W G L len true) a (0 : Int)) len ==
                                          (0 : Int)
                                      else false) =
                                      true →
                                    (if (closErr nB B nO O W G L len == (0 : Int)) = true then
                                        closesE nB B nO O (List.length (closS nB B nO O W G L len false))
                                            (fun (a : Nat) => List.getD (closS nB B nO O W G L len false) a (0 : Int))
                                            (List.length (closS nB B nO O W G L len true))
                                            (fun (a : Nat) => List.getD (closS nB B nO O W G L len true) a (0 : Int)) len ==
                                          (0 : Int)
                                      else false) =
                                      true,
                                  (if (closErr nB B nO O W G L len == (0 : Int)) = true then
                                        closesE nB B nO O (List.length (closS nB B nO O W G L len false))
                                            (fun (a : Nat) => List.getD (closS nB B nO O W G L len false) a (0 : Int))
                                            (List.length (closS nB B nO O W G L len true))
                                            (fun (a : Nat) => List.getD (closS nB B nO O W G L len true) a (0 : Int)) len ==
                                          (0 : Int)
                                      else false) =
                                      true →
                                    (if (closErr nB B nO O W G L len == (0 : Int)) = true then
                                        closesE nB B nO O (List.length (closS nB B nO O W G L len false))
                                            (fun (a : Nat) => List.getD (closS nB B nO O W G L len false) a (0 : Int))
                                            (List.length (closS nB B nO O W G L len true))
                                            (fun (a : Nat) => List.getD (closS nB B nO O W G L len true) a (0 : Int)) len ==
                                          (0 : Int)
                                      else false) =
                                      true,
                                  (if (closErr nB B nO O W G L len == (0 : Int)) = true then
                                        closesE nB B nO O (List.length (closS nB B nO O W G L len false))
                                            (fun (a : Nat) => List.getD (closS nB B nO O W G L len false) a (0 : Int))
                                            (List.length (closS nB B nO O W G L len true))
                                            (fun (a : Nat) => List.getD (closS nB B nO O W G L len true) a (0 : Int)) len ==
                                          (0 : Int)
                                      else false) =
                                      true →
                                    FnC prog (14 : Nat)
                                      [DV.agg
                                          [DV.lst nB [fun (i : Nat) => DV.val (Value.int IntKind.i64 (B i))],
                                            DV.lst nO [fun (i : Nat) => DV.val (Value.int IntKind.i64 (O i))],
                                            DV.val (Value.int IntKind.i64 W), DV.val (Value.int IntKind.i64 G),
                                            DV.val (Value.int IntKind.i64 L)],
                                        DV.agg
                                          [DV.lst (List.length (closS nB B nO O W G L len false))
                                              [fun (i : Nat) =>
                                                DV.val
                                                  (Value.int IntKind.i64
                                                    (List.getD (closS nB B nO O W G L len false) i (0 : Int)))],
                                            DV.lst (List.length (closS nB B nO O W G L len true))
                                              [fun (i : Nat) =>
                                                DV.val
                                                  (Value.int IntKind.i64
                                                    (List.getD (closS nB B nO O W G L len true) i (0 : Int)))]]]
                                      (DV.val
                                        (Value.agg
                                          {
                                            toList :=
                                              [Value.int IntKind.i64
                                                  ((↑(List.length (closS nB B nO O W G L len true)) : Int) +
                                                    cntN
                                                      (fun (a : Nat) =>
                                                        List.getD (closS nB B nO O W G L len false) a (0 : Int))
                                                      (B (nB - (1 : Nat))) (List.length (closS nB B nO O W G L len false))),
                                                Value.int IntKind.i64
                                                  (↑(List.length (closS nB B nO O W G L len false)) : Int)] })),
                                  (if (closErr nB B nO O W G L len == (0 : Int)) = true then
                                        closesE nB B nO O (List.length (closS nB B nO O W G L len false))
                                            (fun (a : Nat) => List.getD (closS nB B nO O W G L len false) a (0 : Int))
                                            (List.length (closS nB B nO O W G L len true))
                                            (fun (a : Nat) => List.getD (closS nB B nO O W G L len true) a (0 : Int)) len ==
                                          (0 : Int)
                                      else false) =
                                      true →
                                    (if (closErr nB B nO O W G L len == (0 : Int)) = true then
                                        closesE nB B nO O (List.length (closS nB B nO O W G L len false))
                                            (fun (a : Nat) => List.getD (closS nB B nO O W G L len false) a (0 : Int))
                                            (List.length (closS nB B nO O W G L len true))
                                            (fun (a : Nat) => List.getD (closS nB B nO O W G L len true) a (0 : Int)) len ==
                                          (0 : Int)
                                      else false) =
                                      true,
                                  (if (closErr nB B nO O W G L len == (0 : Int)) = true then
                                        closesE nB B nO O (List.length (closS nB B nO O W G L len false))
                                            (fun (a : Nat) => List.getD (closS nB B nO O W G L len false) a (0 : Int))
                                            (List.length (closS nB B nO O W G L len true))
                                            (fun (a : Nat) => List.getD (closS nB B nO O W G L len true) a (0 : Int)) len ==
                                          (0 : Int)
                                      else false) =
                                      true →
                                    FnC prog (13 : Nat)
                                      [DV.val
                                          (Value.agg
                                            {
                                              toList :=
                                                [Value.int IntKind.i64
                                                    ((↑(List.length (closS nB B nO O W G L len true)) : Int) +
                                                      cntN
                                                        (fun (a : Nat) =>
                                                          List.getD (closS nB B nO O W G L len false) a (0 : Int))
                                                        (B (nB - (1 : Nat)))
                                                        (List.length (closS nB B nO O W G L len false))),
                                                  Value.int IntKind.i64
                                                    (↑(List.length (closS nB B nO O W G L len false)) : Int)] })]
                                      (DV.val
                                        (Value.int IntKind.i64
                                          ((10000 : Int) *
                                              ((↑(List.length (closS nB B nO O W G L len true)) : Int) +
                                                cntN
                                                  (fun (a : Nat) => List.getD (closS nB B nO O W G L len false) a (0 : Int))
                                                  (B (nB - (1 : Nat))) (List.length (closS nB B nO O W G L len false))) +
                                            (↑(List.length (closS nB B nO O W G L len false)) : Int)))),
                                  (if (closErr nB B nO O W G L len == (0 : Int)) = true then
                                        closesE nB B nO O (List.length (closS nB B nO O W G L len false))
                                            (fun (a : Nat) => List.getD (closS nB B nO O W G L len false) a (0 : Int))
                                            (List.length (closS nB B nO O W G L len true))
                                            (fun (a : Nat) => List.getD (closS nB B nO O W G L len true) a (0 : Int)) len ==
                                          (0 : Int)
                                      else false) =
                                      true →
                                    (if (closErr nB B nO O W G L len == (0 : Int)) = true then
                                        closesE nB B nO O (List.length (closS nB B nO O W G L len false))
                                            (fun (a : Nat) => List.getD (closS nB B nO O W G L len false) a (0 : Int))
                                            (List.length (closS nB B nO O W G L len true))
                                            (fun (a : Nat) => List.getD (closS nB B nO O W G L len true) a (0 : Int)) len ==
                                          (0 : Int)
                                      else false) =
                                      true,
                                  (if (closErr nB B nO O W G L len == (0 : Int)) = true then
                                        closesE nB B nO O (List.length (closS nB B nO O W G L len false))
                                            (fun (a : Nat) => List.getD (closS nB B nO O W G L len false) a (0 : Int))
                                            (List.length (closS nB B nO O W G L len true))
                                            (fun (a : Nat) => List.getD (closS nB B nO O W G L len true) a (0 : Int)) len ==
                                          (0 : Int)
                                      else false) =
                                      true →
                                    (if (closErr nB B nO O W G L len == (0 : Int)) = true then
                                        closesE nB B nO O (List.length (closS nB B nO O W G L len false))
                                            (fun (a : Nat) => List.getD (closS nB B nO O W G L len false) a (0 : Int))
                                            (List.length (closS nB B nO O W G L len true))
                                            (fun (a : Nat) => List.getD (closS nB B nO O W G L len true) a (0 : Int)) len ==
                                          (0 : Int)
                                      else false) =
                                      true,
                                  (if (closErr nB B nO O W G L len == (0 : Int)) = true then
                                        closesE nB B nO O (List.length (closS nB B nO O W G L len false))
                                            (fun (a : Nat) => List.getD (closS nB B nO O W G L len false) a (0 : Int))
                                            (List.length (closS nB B nO O W G L len true))
                                            (fun (a : Nat) => List.getD (closS nB B nO O W G L len true) a (0 : Int)) len ==
                                          (0 : Int)
                                      else false) =
                                      true →
                                    (if (closErr nB B nO O W G L len == (0 : Int)) = true then
                                        closesE nB B nO O (List.length (closS nB B nO O W G L len false))
                                            (fun (a : Nat) => List.getD (closS nB B nO O W G L len false) a (0 : Int))
                                            (List.length (closS nB B nO O W G L len true))
                                            (fun (a : Nat) => List.getD (closS nB B nO O W G L len true) a (0 : Int)) len ==
                                          (0 : Int)
                                      else false) =
                                      true]
                                (VT.done
                                  [(if
                                          (if (closErr nB B nO O W G L len == (0 : Int)) = true then
                                              closesE nB B nO O (List.length (closS nB B nO O W G L len false))
                                                  (fun (a : Nat) => List.getD (closS nB B nO O W G L len false) a (0 : Int))
                                                  (List.length (closS nB B nO O W G L len true))
                                                  (fun (a : Nat) => List.getD (closS nB B nO O W G L len true) a (0 : Int))
                                                  len ==
                                                (0 : Int)
                                            else false) =
                                            true then
                                        (10000 : Int) *
                                              ((↑(List.length (closS nB B nO O W G L len true)) : Int) +
                                                cntN
                                                  (fun (a : Nat) => List.getD (closS nB B nO O W G L len false) a (0 : Int))
                                                  (B (nB - (1 : Nat))) (List.length (closS nB B nO O W G L len false))) +
                                            (↑(List.length (closS nB B nO O W G L len false)) : Int) ==
                                          leastR nB B nO O len
                                      else false) =
                                      true])))
                            (VT.ite (lenR nB B nO O len != (0 : Int))
                              (VT.need
                                [(closErr nB B nO O W G L len == lenR nB B nO O len) = true →
                                    (closErr nB B nO O W G L len == lenR nB B nO O len) = true,
                                  (closErr nB B nO O W G L len == lenR nB B nO O len) = true →
                                    (closErr nB B nO O W G L len == lenR nB B nO O len) = true,
                                  (closErr nB B nO O W G L len == lenR nB B nO O len) = true →
                                    (closErr nB B nO O W G L len == lenR nB B nO O len) = true,
                                  (closErr nB B nO O W G L len == lenR nB B nO O len) = true →
                                    (closErr nB B nO O W G L len == lenR nB B nO O len) = true,
                                  (closErr nB B nO O W G L len == lenR nB B nO O len) = true →
                                    (closErr nB B nO O W G L len == lenR nB B nO O len) = true,
                                  (closErr nB B nO O W G L len == lenR nB B nO O len) = true →
                                    (closErr nB B nO O W G L len == lenR nB B nO O len) = true,
                                  (closErr nB B nO O W G L len == lenR nB B nO O len) = true →
                                    i64In
                                      ((↑(List.length (closS nB B nO O W G L len false)) : Int) +
                                        (↑(List.length (closS nB B nO O W G L len true)) : Int)),
                                  (closErr nB B nO O W G L len == lenR nB B nO O len) = true →
                                    (closErr nB B nO O W G L len == lenR nB B nO O len) = true,
                                  (closErr nB B nO O W G L len == lenR nB B nO O len) = true →
                                    (closErr nB B nO O W G L len == lenR nB B nO O len) = true]
                                (VT.done
                                  [(if (closErr nB B nO O W G L len == lenR nB B nO O len) = true then
                                        (↑(List.length (closS nB B nO O W G L len false)) : Int) +
                                            (↑(List.length (closS nB B nO O W G L len true)) : Int) ==
                                          (0 : Int)
                                      else false) =
                                      true]))
                              (VT.need
                                [(closErr nB B nO O W G L len == (0 : Int)) = true →
                                    (closErr nB B nO O W G L len == (0 : Int)) = true,
                                  (closErr nB B nO O W G L len == (0 : Int)) = true →
                                    (closErr nB B nO O W G L len == (0 : Int)) = true,
                                  (closErr nB B nO O W G L len == (0 : Int)) = true →
                                    (closErr nB B nO O W G L len == (0 : Int)) = true,
                                  (closErr nB B nO O W G L len == (0 : Int)) = true →
                                    FnC prog (12 : Nat)
                                      [DV.agg
                                          [DV.lst nB [fun (i : Nat) => DV.val (Value.int IntKind.i64 (B i))],
                                            DV.lst nO [fun (i : Nat) => DV.val (Value.int IntKind.i64 (O i))],
                                            DV.val (Value.int IntKind.i64 W), DV.val (Value.int IntKind.i64 G),
                                            DV.val (Value.int IntKind.i64 L)],
                                        DV.val (Value.int IntKind.i64 len),
                                        DV.agg
                                          [DV.lst (List.length (closS nB B nO O W G L len false))
                                              [fun (i : Nat) =>
                                                DV.val
                                                  (Value.int IntKind.i64
                                                    (List.getD (closS nB B nO O W G L len false) i (0 : Int)))],
                                            DV.lst (List.length (closS nB B nO O W G L len true))
                                              [fun (i : Nat) =>
                                                DV.val
                                                  (Value.int IntKind.i64
                                                    (List.getD (closS nB B nO O W G L len true) i (0 : Int)))]]]
                                      (DV.val
                                        (Value.int IntKind.i64
                                          (closesE nB B nO O (List.length (closS nB B nO O W G L len false))
                                            (fun (a : Nat) => List.getD (closS nB B nO O W G L len false) a (0 : Int))
                                            (List.length (closS nB B nO O W G L len true))
                                            (fun (a : Nat) => List.getD (closS nB B nO O W G L len true) a (0 : Int))
                                            len))),
                                  (closErr nB B nO O W G L len == (0 : Int)) = true →
                                    (closErr nB B nO O W G L len == (0 : Int)) = true,
                                  (closErr nB B nO O W G L len == (0 : Int)) = true →
                                    (closErr nB B nO O W G L len == (0 : Int)) = true,
                                  (if (closErr nB B nO O W G L len == (0 : Int)) = true then
                                        closesE nB B nO O (List.length (closS nB B nO O W G L len false))
                                            (fun (a : Nat) => List.getD (closS nB B nO O W G L len false) a (0 : Int))
                                            (List.length (closS nB B nO O W G L len true))
                                            (fun (a : Nat) => List.getD (closS nB B nO O W G L len true) a (0 : Int)) len ==
                                          (0 : Int)
                                      else false) =
                                      true →
                                    (if (closErr nB B nO O W G L len == (0 : Int)) = true then
                                        closesE nB B nO O (List.length (closS nB B nO O W G L len false))
                                            (fun (a : Nat) => List.getD (closS nB B nO O W G L len false) a (0 : Int))
                                            (List.length (closS nB B nO O W G L len true))
                                            (fun (a : Nat) => List.getD (closS nB B nO O W G L len true) a (0 : Int)) len ==
                                          (0 : Int)
                                      else false) =
                                      true,
                                  (if (closErr nB B nO O W G L len == (0 : Int)) = true then
                                        closesE nB B nO O (List.length (closS nB B nO O W G L len false))
                                            (fun (a : Nat) => List.getD (closS nB B nO O W G L len false) a (0 : Int))
                                            (List.length (closS nB B nO O W G L len true))
                                            (fun (a : Nat) => List.getD (closS nB B nO O W G L len true) a (0 : Int)) len ==
                                          (0 : Int)
                                      else false) =
                                      true →
                                    (if (closErr nB B nO O W G L len == (0 : Int)) = true then
                                        closesE nB B nO O (List.length (closS nB B nO O W G L len false))
                                            (fun (a : Nat) => List.getD (closS nB B nO O W G L len false) a (0 : Int))
                                            (List.length (closS nB B nO O W G L len true))
                                            (fun (a : Nat) => List.getD (closS nB B nO O W G L len true) a (0 : Int)) len ==
                                          (0 : Int)
                                      else false) =
                                      true,
                                  (if (closErr nB B nO O W G L len == (0 : Int)) = true then
                                        closesE nB B nO O (List.length (closS nB B nO O W G L len false))
                                            (fun (a : Nat) => List.getD (closS nB B nO O W G L len false) a (0 : Int))
                                            (List.length (closS nB B nO O W G L len true))
                                            (fun (a : Nat) => List.getD (closS nB B nO O W G L len true) a (0 : Int)) len ==
                                          (0 : Int)
                                      else false) =
                                      true →
                                    FnC prog (14 : Nat)
                                      [DV.agg
                                          [DV.lst nB [fun (i : Nat) => DV.val (Value.int IntKind.i64 (B i))],
                                            DV.lst nO [fun (i : Nat) => DV.val (Value.int IntKind.i64 (O i))],
                                            DV.val (Value.int IntKind.i64 W), DV.val (Value.int IntKind.i64 G),
                                            DV.val (Value.int IntKind.i64 L)],
                                        DV.agg
                                          [DV.lst (List.length (closS nB B nO O W G L len false))
                                              [fun (i : Nat) =>
                                                DV.val
                                                  (Value.int IntKind.i64
                                                    (List.getD (closS nB B nO O W G L len false) i (0 : Int)))],
                                            DV.lst (List.length (closS nB B nO O W G L len true))
                                              [fun (i : Nat) =>
                                                DV.val
                                                  (Value.int IntKind.i64
                                                    (List.getD (closS nB B nO O W G L len true) i (0 : Int)))]]]
                                      (DV.val
                                        (Value.agg
                                          {
                                            toList :=
                                              [Value.int IntKind.i64
                                                  ((↑(List.length (closS nB B nO O W G L len true)) : Int) +
                                                    cntN
                                                      (fun (a : Nat) =>
                                                        List.getD (closS nB B nO O W G L len false) a (0 : Int))
                                                      (B (nB - (1 : Nat))) (List.length (closS nB B nO O W G L len false))),
                                                Value.int IntKind.i64
                                                  (↑(List.length (closS nB B nO O W G L len false)) : Int)] })),
                                  (if (closErr nB B nO O W G L len == (0 : Int)) = true then
                                        closesE nB B nO O (List.length (closS nB B nO O W G L len false))
                                            (fun (a : Nat) => List.getD (closS nB B nO O W G L len false) a (0 : Int))
                                            (List.length (closS nB B nO O W G L len true))
                                            (fun (a : Nat) => List.getD (closS nB B nO O W G L len true) a (0 : Int)) len ==
                                          (0 : Int)
                                      else false) =
                                      true →
                                    (if (closErr nB B nO O W G L len == (0 : Int)) = true then
                                        closesE nB B nO O (List.length (closS nB B nO O W G L len false))
                                            (fun (a : Nat) => List.getD (closS nB B nO O W G L len false) a (0 : Int))
                                            (List.length (closS nB B nO O W G L len true))
                                            (fun (a : Nat) => List.getD (closS nB B nO O W G L len true) a (0 : Int)) len ==
                                          (0 : Int)
                                      else false) =
                                      true,
                                  (if (closErr nB B nO O W G L len == (0 : Int)) = true then
                                        closesE nB B nO O (List.length (closS nB B nO O W G L len false))
                                            (fun (a : Nat) => List.getD (closS nB B nO O W G L len false) a (0 : Int))
                                            (List.length (closS nB B nO O W G L len true))
                                            (fun (a : Nat) => List.getD (closS nB B nO O W G L len true) a (0 : Int)) len ==
                                          (0 : Int)
                                      else false) =
                                      true →
                                    FnC prog (13 : Nat)
                                      [DV.val
                                          (Value.agg
                                            {
                                              toList :=
                                                [Value.int IntKind.i64
                                                    ((↑(List.length (closS nB B nO O W G L len true)) : Int) +
                                                      cntN
                                                        (fun (a : Nat) =>
                                                          List.getD (closS nB B nO O W G L len false) a (0 : Int))
                                                        (B (nB - (1 : Nat)))
                                                        (List.length (closS nB B nO O W G L len false))),
                                                  Value.int IntKind.i64
                                                    (↑(List.length (closS nB B nO O W G L len false)) : Int)] })]
                                      (DV.val
                                        (Value.int IntKind.i64
                                          ((10000 : Int) *
                                              ((↑(List.length (closS nB B nO O W G L len true)) : Int) +
                                                cntN
                                                  (fun (a : Nat) => List.getD (closS nB B nO O W G L len false) a (0 : Int))
                                                  (B (nB - (1 : Nat))) (List.length (closS nB B nO O W G L len false))) +
                                            (↑(List.length (closS nB B nO O W G L len false)) : Int)))),
                                  (if (closErr nB B nO O W G L len == (0 : Int)) = true then
                                        closesE nB B nO O (List.length (closS nB B nO O W G L len false))
                                            (fun (a : Nat) => List.getD (closS nB B nO O W G L len false) a (0 : Int))
                                            (List.length (closS nB B nO O W G L len true))
                                            (fun (a : Nat) => List.getD (closS nB B nO O W G L len true) a (0 : Int)) len ==
                                          (0 : Int)
                                      else false) =
                                      true →
                                    (if (closErr nB B nO O W G L len == (0 : Int)) = true then
                                        closesE nB B nO O (List.length (closS nB B nO O W G L len false))
                                            (fun (a : Nat) => List.getD (closS nB B nO O W G L len false) a (0 : Int))
                                            (List.length (closS nB B nO O W G L len true))
                                            (fun (a : Nat) => List.getD (closS nB B nO O W G L len true) a (0 : Int)) len ==
                                          (0 : Int)
                                      else false) =
                                      true,
                                  (if (closErr nB B nO O W G L len == (0 : Int)) = true then
                                        closesE nB B nO O (List.length (closS nB B nO O W G L len false))
                                            (fun (a : Nat) => List.getD (closS nB B nO O W G L len false) a (0 : Int))
                                            (List.length (closS nB B nO O W G L len true))
                                            (fun (a : Nat) => List.getD (closS nB B nO O W G L len true) a (0 : Int)) len ==
                                          (0 : Int)
                                      else false) =
                                      true →
                                    (if (closErr nB B nO O W G L len == (0 : Int)) = true then
                                        closesE nB B nO O (List.length (closS nB B nO O W G L len false))
                                            (fun (a : Nat) => List.getD (closS nB B nO O W G L len false) a (0 : Int))
                                            (List.length (closS nB B nO O W G L len true))
                                            (fun (a : Nat) => List.getD (closS nB B nO O W G L len true) a (0 : Int)) len ==
                                          (0 : Int)
                                      else false) =
                                      true,
                                  (if (closErr nB B nO O W G L len == (0 : Int)) = true then
                                        closesE nB B nO O (List.length (closS nB B nO O W G L len false))
                                            (fun (a : Nat) => List.getD (closS nB B nO O W G L len false) a (0 : Int))
                                            (List.length (closS nB B nO O W G L len true))
                                            (fun (a : Nat) => List.getD (closS nB B nO O W G L len true) a (0 : Int)) len ==
                                          (0 : Int)
                                      else false) =
                                      true →
                                    (if (closErr nB B nO O W G L len == (0 : Int)) = true then
                                        closesE nB B nO O (List.length (closS nB B nO O W G L len false))
                                            (fun (a : Nat) => List.getD (closS nB B nO O W G L len false) a (0 : Int))
                                            (List.length (closS nB B nO O W G L len true))
                                            (fun (a : Nat) => List.getD (closS nB B nO O W G L len true) a (0 : Int)) len ==
                                          (0 : Int)
                                      else false) =
                                      true]
                                (VT.done
                                  [(if
                                          (if (closErr nB B nO O W G L len == (0 : Int)) = true then
                                              closesE nB B nO O (List.length (closS nB B nO O W G L len false))
                                                  (fun (a : Nat) => List.getD (closS nB B nO O W G L len false) a (0 : Int))
                                                  (List.length (closS nB B nO O W G L len true))
                                                  (fun (a : Nat) => List.getD (closS nB B nO O W G L len true) a (0 : Int))
                                                  len ==
                                                (0 : Int)
                                            else false) =
                                            true then
                                        (10000 : Int) *
                                              ((↑(List.length (closS nB B nO O W G L len true)) : Int) +
                                                cntN
                                                  (fun (a : Nat) => List.getD (closS nB B nO O W G L len false) a (0 : Int))
                                                  (B (nB - (1 : Nat))) (List.length (closS nB B nO O W G L len false))) +
                                            (↑(List.length (closS nB B nO O W G L len false)) : Int) ==
                                          leastR nB B nO O len
                                      else false) =
                                      true])))))
                        (VT.ite (lenR nB B nO O len != (0 : Int))
                          (VT.need
                            [(closErr nB B nO O W G L len == lenR nB B nO O len) = true →
                                (closErr nB B nO O W G L len == lenR nB B nO O len) = true,
                              (closErr nB B nO O W G L len == lenR nB B nO O len) = true →
                                (closErr nB B nO O W G L len == lenR nB B nO O len) = true,
                              (closErr nB B nO O W G L len == lenR nB B nO O len) = true →
                                (closErr nB B nO O W G L len == lenR nB B nO O len) = true,
                              (closErr nB B nO O W G L len == lenR nB B nO O len) = true →
                                (closErr nB B nO O W G L len == lenR nB B nO O len) = true,
                              (closErr nB B nO O W G L len == lenR nB B nO O len) = true →
                                (closErr nB B nO O W G L len == lenR nB B nO O len) = true,
                              (closErr nB B nO O W G L len == lenR nB B nO O len) = true →
                                (closErr nB B nO O W G L len == lenR nB B nO O len) = true,
                              (closErr nB B nO O W G L len == lenR nB B nO O len) = true →
                                i64In
                                  ((↑(List.length (closS nB B nO O W G L len false)) : Int) +
                                    (↑(List.length (closS nB B nO O W G L len true)) : Int)),
                              (closErr nB B nO O W G L len == lenR nB B nO O len) = true →
                                (closErr nB B nO O W G L len == lenR nB B nO O len) = true,
                              (closErr nB B nO O W G L len == lenR nB B nO O len) = true →
                                (closErr nB B nO O W G L len == lenR nB B nO O len) = true]
                            (VT.done
                              [(if (closErr nB B nO O W G L len == lenR nB B nO O len) = true then
                                    (↑(List.length (closS nB B nO O W G L len false)) : Int) +
                                        (↑(List.length (closS nB B nO O W G L len true)) : Int) ==
                                      (0 : Int)
                                  else false) =
                                  true]))
                          (VT.need
                            [(closErr nB B nO O W G L len == (0 : Int)) = true →
                                (closErr nB B nO O W G L len == (0 : Int)) = true,
                              (closErr nB B nO O W G L len == (0 : Int)) = true →
                                (closErr nB B nO O W G L len == (0 : Int)) = true,
                              (closErr nB B nO O W G L len == (0 : Int)) = true →
                                (closErr nB B nO O W G L len == (0 : Int)) = true,
                              (closErr nB B nO O W G L len == (0 : Int)) = true →
                                FnC prog (12 : Nat)
                                  [DV.agg
                                      [DV.lst nB [fun (i : Nat) => DV.val (Value.int IntKind.i64 (B i))],
                                        DV.lst nO [fun (i : Nat) => DV.val (Value.int IntKind.i64 (O i))],
                                        DV.val (Value.int IntKind.i64 W), DV.val (Value.int IntKind.i64 G),
                                        DV.val (Value.int IntKind.i64 L)],
                                    DV.val (Value.int IntKind.i64 len),
                                    DV.agg
                                      [DV.lst (List.length (closS nB B nO O W G L len false))
                                          [fun (i : Nat) =>
                                            DV.val
                                              (Value.int IntKind.i64
                                                (List.getD (closS nB B nO O W G L len false) i (0 : Int)))],
                                        DV.lst (List.length (closS nB B nO O W G L len true))
                                          [fun (i : Nat) =>
                                            DV.val
                                              (Value.int IntKind.i64
                                                (List.getD (closS nB B nO O W G L len true) i (0 : Int)))]]]
                                  (DV.val
                                    (Value.int IntKind.i64
                                      (closesE nB B nO O (List.length (closS nB B nO O W G L len false))
                                        (fun (a : Nat) => List.getD (closS nB B nO O W G L len false) a (0 : Int))
                                        (List.length (closS nB B nO O W G L len true))
                                        (fun (a : Nat) => List.getD (closS nB B nO O W G L len true) a (0 : Int)) len))),
                              (closErr nB B nO O W G L len == (0 : Int)) = true →
                                (closErr nB B nO O W G L len == (0 : Int)) = true,
                              (closErr nB B nO O W G L len == (0 : Int)) = true →
                                (closErr nB B nO O W G L len == (0 : Int)) = true,
                              (if (closErr nB B nO O W G L len == (0 : Int)) = true then
                                    closesE nB B nO O (List.length (closS nB B nO O W G L len false))
                                        (fun (a : Nat) => List.getD (closS nB B nO O W G L len false) a (0 : Int))
                                        (List.length (closS nB B nO O W G L len true))
                                        (fun (a : Nat) => List.getD (closS nB B nO O W G L len true) a (0 : Int)) len ==
                                      (0 : Int)
                                  else false) =
                                  true →
                                (if (closErr nB B nO O W G L len == (0 : Int)) = true then
                                    closesE nB B nO O (List.length (closS nB B nO O W G L len false))
                                        (fun (a : Nat) => List.getD (closS nB B nO O W G L len false) a (0 : Int))
                                        (List.length (closS nB B nO O W G L len true))
                                        (fun (a : Nat) => List.getD (closS nB B nO O W G L len true) a (0 : Int)) len ==
                                      (0 : Int)
                                  else false) =
                                  true,
                              (if (closErr nB B nO O W G L len == (0 : Int)) = true then
                                    closesE nB B nO O (List.length (closS nB B nO O W G L len false))
                                        (fun (a : Nat) => List.getD (closS nB B nO O W G L len false) a (0 : Int))
                                        (List.length (closS nB B nO O W G L len true))
                                        (fun (a : Nat) => List.getD (closS nB B nO O W G L len true) a (0 : Int)) len ==
                                      (0 : Int)
                                  else false) =
                                  true →
                                (if (closErr nB B nO O W G L len == (0 : Int)) = true then
                                    closesE nB B nO O (List.length (closS nB B nO O W G L len false))
                                        (fun (a : Nat) => List.getD (closS nB B nO O W G L len false) a (0 : Int))
                                        (List.length (closS nB B nO O W G L len true))
                                        (fun (a : Nat) => List.getD (closS nB B nO O W G L len true) a (0 : Int)) len ==
                                      (0 : Int)
                                  else false) =
                                  true,
                              (if (closErr nB B nO O W G L len == (0 : Int)) = true then
                                    closesE nB B nO O (List.length (closS nB B nO O W G L len false))
                                        (fun (a : Nat) => List.getD (closS nB B nO O W G L len false) a (0 : Int))
                                        (List.length (closS nB B nO O W G L len true))
                                        (fun (a : Nat) => List.getD (closS nB B nO O W G L len true) a (0 : Int)) len ==
                                      (0 : Int)
                                  else false) =
                                  true →
                                FnC prog (14 : Nat)
                                  [DV.agg
                                      [DV.lst nB [fun (i : Nat) => DV.val (Value.int IntKind.i64 (B i))],
                                        DV.lst nO [fun (i : Nat) => DV.val (Value.int IntKind.i64 (O i))],
                                        DV.val (Value.int IntKind.i64 W), DV.val (Value.int IntKind.i64 G),
                                        DV.val (Value.int IntKind.i64 L)],
                                    DV.agg
                                      [DV.lst (List.length (closS nB B nO O W G L len false))
                                          [fun (i : Nat) =>
                                            DV.val
                                              (Value.int IntKind.i64
                                                (List.getD (closS nB B nO O W G L len false) i (0 : Int)))],
                                        DV.lst (List.length (closS nB B nO O W G L len true))
                                          [fun (i : Nat) =>
                                            DV.val
                                              (Value.int IntKind.i64
                                                (List.getD (closS nB B nO O W G L len true) i (0 : Int)))]]]
                                  (DV.val
                                    (Value.agg
                                      {
                                        toList :=
                                          [Value.int IntKind.i64
                                              ((↑(List.length (closS nB B nO O W G L len true)) : Int) +
                                                cntN
                                                  (fun (a : Nat) => List.getD (closS nB B nO O W G L len false) a (0 : Int))
                                                  (B (nB - (1 : Nat))) (List.length (closS nB B nO O W G L len false))),
                                            Value.int IntKind.i64
                                              (↑(List.length (closS nB B nO O W G L len false)) : Int)] })),
                              (if (closErr nB B nO O W G L len == (0 : Int)) = true then
                                    closesE nB B nO O (List.length (closS nB B nO O W G L len false))
                                        (fun (a : Nat) => List.getD (closS nB B nO O W G L len false) a (0 : Int))
                                        (List.length (closS nB B nO O W G L len true))
                                        (fun (a : Nat) => List.getD (closS nB B nO O W G L len true) a (0 : Int)) len ==
                                      (0 : Int)
                                  else false) =
                                  true →
                                (if (closErr nB B nO O W G L len == (0 : Int)) = true then
                                    closesE nB B nO O (List.length (closS nB B nO O W G L len false))
                                        (fun (a : Nat) => List.getD (closS nB B nO O W G L len false) a (0 : Int))
                                        (List.length (closS nB B nO O W G L len true))
                                        (fun (a : Nat) => List.getD (closS nB B nO O W G L len true) a (0 : Int)) len ==
                                      (0 : Int)
                                  else false) =
                                  true,
                              (if (closErr nB B nO O W G L len == (0 : Int)) = true then
                                    closesE nB B nO O (List.length (closS nB B nO O W G L len false))
                                        (fun (a : Nat) => List.getD (closS nB B nO O W G L len false) a (0 : Int))
                                        (List.length (closS nB B nO O W G L len true))
                                        (fun (a : Nat) => List.getD (closS nB B nO O W G L len true) a (0 : Int)) len ==
                                      (0 : Int)
                                  else false) =
                                  true →
                                FnC prog (13 : Nat)
                                  [DV.val
                                      (Value.agg
                                        {
                                          toList :=
                                            [Value.int IntKind.i64
                                                ((↑(List.length (closS nB B nO O W G L len true)) : Int) +
                                                  cntN
                                                    (fun (a : Nat) =>
                                                      List.getD (closS nB B nO O W G L len false) a (0 : Int))
                                                    (B (nB - (1 : Nat))) (List.length (closS nB B nO O W G L len false))),
                                              Value.int IntKind.i64
                                                (↑(List.length (closS nB B nO O W G L len false)) : Int)] })]
                                  (DV.val
                                    (Value.int IntKind.i64
                                      ((10000 : Int) *
                                          ((↑(List.length (closS nB B nO O W G L len true)) : Int) +
                                            cntN (fun (a : Nat) => List.getD (closS nB B nO O W G L len false) a (0 : Int))
                                              (B (nB - (1 : Nat))) (List.length (closS nB B nO O W G L len false))) +
                                        (↑(List.length (closS nB B nO O W G L len false)) : Int)))),
                              (if (closErr nB B nO O W G L len == (0 : Int)) = true then
                                    closesE nB B nO O (List.length (closS nB B nO O W G L len false))
                                        (fun (a : Nat) => List.getD (closS nB B nO O W G L len false) a (0 : Int))
                                        (List.length (closS nB B nO O W G L len true))
                                        (fun (a : Nat) => List.getD (closS nB B nO O W G L len true) a (0 : Int)) len ==
                                      (0 : Int)
                                  else false) =
                                  true →
                                (if (closErr nB B nO O W G L len == (0 : Int)) = true then
                                    closesE nB B nO O (List.length (closS nB B nO O W G L len false))
                                        (fun (a : Nat) => List.getD (closS nB B nO O W G L len false) a (0 : Int))
                                        (List.length (closS nB B nO O W G L len true))
                                        (fun (a : Nat) => List.getD (closS nB B nO O W G L len true) a (0 : Int)) len ==
                                      (0 : Int)
                                  else false) =
                                  true,
                              (if (closErr nB B nO O W G L len == (0 : Int)) = true then
                                    closesE nB B nO O (List.length (closS nB B nO O W G L len false))
                                        (fun (a : Nat) => List.getD (closS nB B nO O W G L len false) a (0 : Int))
                                        (List.length (closS nB B nO O W G L len true))
                                        (fun (a : Nat) => List.getD (closS nB B nO O W G L len true) a (0 : Int)) len ==
                                      (0 : Int)
                                  else false) =
                                  true →
                                (if (closErr nB B nO O W G L len == (0 : Int)) = true then
                                    closesE nB B nO O (List.length (closS nB B nO O W G L len false))
                                        (fun (a : Nat) => List.getD (closS nB B nO O W G L len false) a (0 : Int))
                                        (List.length (closS nB B nO O W G L len true))
                                        (fun (a : Nat) => List.getD (closS nB B nO O W G L len true) a (0 : Int)) len ==
                                      (0 : Int)
                                  else false) =
                                  true,
                              (if (closErr nB B nO O W G L len == (0 : Int)) = true then
                                    closesE nB B nO O (List.length (closS nB B nO O W G L len false))
                                        (fun (a : Nat) => List.getD (closS nB B nO O W G L len false) a (0 : Int))
                                        (List.length (closS nB B nO O W G L len true))
                                        (fun (a : Nat) => List.getD (closS nB B nO O W G L len true) a (0 : Int)) len ==
                                      (0 : Int)
                                  else false) =
                                  true →
                                (if (closErr nB B nO O W G L len == (0 : Int)) = true then
                                    closesE nB B nO O (List.length (closS nB B nO O W G L len false))
                                        (fun (a : Nat) => List.getD (closS nB B nO O W G L len false) a (0 : Int))
                                        (List.length (closS nB B nO O W G L len true))
                                        (fun (a : Nat) => List.getD (closS nB B nO O W G L len true) a (0 : Int)) len ==
                                      (0 : Int)
                                  else false) =
                                  true]
                            (VT.done
                              [(if
                                      (if (closErr nB B nO O W G L len == (0 : Int)) = true then
                                          closesE nB B nO O (List.length (closS nB B nO O W G L len false))
                                              (fun (a : Nat) => List.getD (closS nB B nO O W G L len false) a (0 : Int))
                                              (List.length (closS nB B nO O W G L len true))
                                              (fun (a : Nat) => List.getD (closS nB B nO O W G L len true) a (0 : Int))
                                              len ==
                                            (0 : Int)
                                        else false) =
                                        true then
                                    (10000 : Int) *
                                          ((↑(List.length (closS nB B nO O W G L len true)) : Int) +
                                            cntN (fun (a : Nat) => List.getD (closS nB B nO O W G L len false) a (0 : Int))
                                              (B (nB - (1 : Nat))) (List.length (closS nB B nO O W G L len false))) +
                                        (↑(List.length (closS nB B nO O W G L len false)) : Int) ==
                                      (0 : Int)
                                  else false) =
                                  true])))))
                    (VT.ite (sysE nB B nO O W G L == (0 : Int))
                      (VT.need
                        [FnC prog (11 : Nat)
                            [DV.agg
                                [DV.lst nB [fun (i : Nat) => DV.val (Value.int IntKind.i64 (B i))],
                                  DV.lst nO [fun (i : Nat) => DV.val (Value.int IntKind.i64 (O i))],
                                  DV.val (Value.int IntKind.i64 W), DV.val (Value.int IntKind.i64 G),
                                  DV.val (Value.int IntKind.i64 L)],
                              DV.val (Value.int IntKind.i64 len)]
                            (DV.val (Value.int IntKind.i64 (leastR nB B nO O len)))]
                        (VT.ite (decide (leastR nB B nO O len < (0 : Int)))
                          (VT.ite ((13 : Int) != (0 : Int))
                            (VT.need
                              [(closErr nB B nO O W G L len == (13 : Int)) = true →
                                  (closErr nB B nO O W G L len == (13 : Int)) = true,
                                (closErr nB B nO O W G L len == (13 : Int)) = true →
                                  (closErr nB B nO O W G L len == (13 : Int)) = true,
                                (closErr nB B nO O W G L len == (13 : Int)) = true →
                                  (closErr nB B nO O W G L len == (13 : Int)) = true,
                                (closErr nB B nO O W G L len == (13 : Int)) = true →
                                  (closErr nB B nO O W G L len == (13 : Int)) = true,
                                (closErr nB B nO O W G L len == (13 : Int)) = true →
                                  (closErr nB B nO O W G L len == (13 : Int)) = true,
                                (closErr nB B nO O W G L len == (13 : Int)) = true →
                                  (closErr nB B nO O W G L len == (13 : Int)) = true,
                                (closErr nB B nO O W G L len == (13 : Int)) = true →
                                  i64In
                                    ((↑(List.length (closS nB B nO O W G L len false)) : Int) +
                                      (↑(List.length (closS nB B nO O W G L len true)) : Int)),
                                (closErr nB B nO O W G L len == (13 : Int)) = true →
                                  (closErr nB B nO O W G L len == (13 : Int)) = true,
                                (closErr nB B nO O W G L len == (13 : Int)) = true →
                                  (closErr nB B nO O W G L len == (13 : Int)) = true]
                              (VT.done
                                [(if (closErr nB B nO O W G L len == (13 : Int)) = true then
                                      (↑(List.length (closS nB B nO O W G L len false)) : Int) +
                                          (↑(List.length (closS nB B nO O W G L len true)) : Int) ==
                                        (0 : Int)
                                    else false) =
                                    true]))
                            (VT.need
                              [(closErr nB B nO O W G L len == (0 : Int)) = true →
                                  (closErr nB B nO O W G L len == (0 : Int)) = true,
                                (closErr nB B nO O W G L len == (0 : Int)) = true →
                                  (closErr nB B nO O W G L len == (0 : Int)) = true,
                                (closErr nB B nO O W G L len == (0 : Int)) = true →
                                  (closErr nB B nO O W G L len == (0 : Int)) = true,
                                (closErr nB B nO O W G L len == (0 : Int)) = true →
                                  FnC prog (12 : Nat)
                                    [DV.agg
                                        [DV.lst nB [fun (i : Nat) => DV.val (Value.int IntKind.i64 (B i))],
                                          DV.lst nO [fun (i : Nat) => DV.val (Value.int IntKind.i64 (O i))],
                                          DV.val (Value.int IntKind.i64 W), DV.val (Value.int IntKind.i64 G),
                                          DV.val (Value.int IntKind.i64 L)],
                                      DV.val (Value.int IntKind.i64 len),
                                      DV.agg
                                        [DV.lst (List.length (closS nB B nO O W G L len false))
                                            [fun (i : Nat) =>
                                              DV.val
                                                (Value.int IntKind.i64
                                                  (List.getD (closS nB B nO O W G L len false) i (0 : Int)))],
                                          DV.lst (List.length (closS nB B nO O W G L len true))
                                            [fun (i : Nat) =>
                                              DV.val
                                                (Value.int IntKind.i64
                                                  (List.getD (closS nB B nO O W G L len true) i (0 : Int)))]]]
                                    (DV.val
                                      (Value.int IntKind.i64
                                        (closesE nB B nO O (List.length (closS nB B nO O W G L len false))
                                          (fun (a : Nat) => List.getD (closS nB B nO O W G L len false) a (0 : Int))
                                          (List.length (closS nB B nO O W G L len true))
                                          (fun (a : Nat) => List.getD (closS nB B nO O W G L len true) a (0 : Int)) len))),
                                (closErr nB B nO O W G L len == (0 : Int)) = true →
                                  (closErr nB B nO O W G L len == (0 : Int)) = true,
                                (closErr nB B nO O W G L len == (0 : Int)) = true →
                                  (closErr nB B nO O W G L len == (0 : Int)) = true,
                                (if (closErr nB B nO O W G L len == (0 : Int)) = true then
                                      closesE nB B nO O (List.length (closS nB B nO O W G L len false))
                                          (fun (a : Nat) => List.getD (closS nB B nO O W G L len false) a (0 : Int))
                                          (List.length (closS nB B nO O W G L len true))
                                          (fun (a : Nat) => List.getD (closS nB B nO O W G L len true) a (0 : Int)) len ==
                                        (0 : Int)
                                    else false) =
                                    true →
                                  (if (closErr nB B nO O W G L len == (0 : Int)) = true then
                                      closesE nB B nO O (List.length (closS nB B nO O W G L len false))
                                          (fun (a : Nat) => List.getD (closS nB B nO O W G L len false) a (0 : Int))
                                          (List.length (closS nB B nO O W G L len true))
                                          (fun (a : Nat) => List.getD (closS nB B nO O W G L len true) a (0 : Int)) len ==
                                        (0 : Int)
                                    else false) =
                                    true,
                                (if (closErr nB B nO O W G L len == (0 : Int)) = true then
                                      closesE nB B nO O (List.length (closS nB B nO O W G L len false))
                                          (fun (a : Nat) => List.getD (closS nB B nO O W G L len false) a (0 : Int))
                                          (List.length (closS nB B nO O W G L len true))
                                          (fun (a : Nat) => List.getD (closS nB B nO O W G L len true) a (0 : Int)) len ==
                                        (0 : Int)
                                    else false) =
                                    true →
                                  (if (closErr nB B nO O W G L len == (0 : Int)) = true then
                                      closesE nB B nO O (List.length (closS nB B nO O W G L len false))
                                          (fun (a : Nat) => List.getD (closS nB B nO O W G L len false) a (0 : Int))
                                          (List.length (closS nB B nO O W G L len true))
                                          (fun (a : Nat) => List.getD (closS nB B nO O W G L len true) a (0 : Int)) len ==
                                        (0 : Int)
                                    else false) =
                                    true,
                                (if (closErr nB B nO O W G L len == (0 : Int)) = true then
                                      closesE nB B nO O (List.length (closS nB B nO O W G L len false))
                                          (fun (a : Nat) => List.getD (closS nB B nO O W G L len false) a (0 : Int))
                                          (List.length (closS nB B nO O W G L len true))
                                          (fun (a : Nat) => List.getD (closS nB B nO O W G L len true) a (0 : Int)) len ==
                                        (0 : Int)
                                    else false) =
                                    true →
                                  FnC prog (14 : Nat)
                                    [DV.agg
                                        [DV.lst nB [fun (i : Nat) => DV.val (Value.int IntKind.i64 (B i))],
                                          DV.lst nO [fun (i : Nat) => DV.val (Value.int IntKind.i64 (O i))],
                                          DV.val (Value.int IntKind.i64 W), DV.val (Value.int IntKind.i64 G),
                                          DV.val (Value.int IntKind.i64 L)],
                                      DV.agg
                                        [DV.lst (List.length (closS nB B nO O W G L len false))
                                            [fun (i : Nat) =>
                                              DV.val
                                                (Value.int IntKind.i64
                                                  (List.getD (closS nB B nO O W G L len false) i (0 : Int)))],
                                          DV.lst (List.length (closS nB B nO O W G L len true))
                                            [fun (i : Nat) =>
                                              DV.val
                                                (Value.int IntKind.i64
                                                  (List.getD (closS nB B nO O W G L len true) i (0 : Int)))]]]
                                    (DV.val
                                      (Value.agg
                                        {
                                          toList :=
                                            [Value.int IntKind.i64
                                                ((↑(List.length (closS nB B nO O W G L len true)) : Int) +
                                                  cntN
                                                    (fun (a : Nat) =>
                                                      List.getD (closS nB B nO O W G L len false) a (0 : Int))
                                                    (B (nB - (1 : Nat))) (List.length (closS nB B nO O W G L len false))),
                                              Value.int IntKind.i64
                                                (↑(List.length (closS nB B nO O W G L len false)) : Int)] })),
                                (if (closErr nB B nO O W G L len == (0 : Int)) = true then
                                      closesE nB B nO O (List.length (closS nB B nO O W G L len false))
                                          (fun (a : Nat) => List.getD (closS nB B nO O W G L len false) a (0 : Int))
                                          (List.length (closS nB B nO O W G L len true))
                                          (fun (a : Nat) => List.getD (closS nB B nO O W G L len true) a (0 : Int)) len ==
                                        (0 : Int)
                                    else false) =
                                    true →
                                  (if (closErr nB B nO O W G L len == (0 : Int)) = true then
                                      closesE nB B nO O (List.length (closS nB B nO O W G L len false))
                                          (fun (a : Nat) => List.getD (closS nB B nO O W G L len false) a (0 : Int))
                                          (List.length (closS nB B nO O W G L len true))
                                          (fun (a : Nat) => List.getD (closS nB B nO O W G L len true) a (0 : Int)) len ==
                                        (0 : Int)
                                    else false) =
                                    true,
                                (if (closErr nB B nO O W G L len == (0 : Int)) = true then
                                      closesE nB B nO O (List.length (closS nB B nO O W G L len false))
                                          (fun (a : Nat) => List.getD (closS nB B nO O W G L len false) a (0 : Int))
                                          (List.length (closS nB B nO O W G L len true))
                                          (fun (a : Nat) => List.getD (closS nB B nO O W G L len true) a (0 : Int)) len ==
                                        (0 : Int)
                                    else false) =
                                    true →
                                  FnC prog (13 : Nat)
                                    [DV.val
                                        (Value.agg
                                          {
                                            toList :=
                                              [Value.int IntKind.i64
                                                  ((↑(List.length (closS nB B nO O W G L len true)) : Int) +
                                                    cntN
                                                      (fun (a : Nat) =>
                                                        List.getD (closS nB B nO O W G L len false) a (0 : Int))
                                                      (B (nB - (1 : Nat))) (List.length (closS nB B nO O W G L len false))),
                                                Value.int IntKind.i64
                                                  (↑(List.length (closS nB B nO O W G L len false)) : Int)] })]
                                    (DV.val
                                      (Value.int IntKind.i64
                                        ((10000 : Int) *
                                            ((↑(List.length (closS nB B nO O W G L len true)) : Int) +
                                              cntN
                                                (fun (a : Nat) => List.getD (closS nB B nO O W G L len false) a (0 : Int))
                                                (B (nB - (1 : Nat))) (List.length (closS nB B nO O W G L len false))) +
                                          (↑(List.length (closS nB B nO O W G L len false)) : Int)))),
                                (if (closErr nB B nO O W G L len == (0 : Int)) = true then
                                      closesE nB B nO O (List.length (closS nB B nO O W G L len false))
                                          (fun (a : Nat) => List.getD (closS nB B nO O W G L len false) a (0 : Int))
                                          (List.length (closS nB B nO O W G L len true))
                                          (fun (a : Nat) => List.getD (closS nB B nO O W G L len true) a (0 : Int)) len ==
                                        (0 : Int)
                                    else false) =
                                    true →
                                  (if (closErr nB B nO O W G L len == (0 : Int)) = true then
                                      closesE nB B nO O (List.length (closS nB B nO O W G L len false))
                                          (fun (a : Nat) => List.getD (closS nB B nO O W G L len false) a (0 : Int))
                                          (List.length (closS nB B nO O W G L len true))
                                          (fun (a : Nat) => List.getD (closS nB B nO O W G L len true) a (0 : Int)) len ==
                                        (0 : Int)
                                    else false) =
                                    true,
                                (if (closErr nB B nO O W G L len == (0 : Int)) = true then
                                      closesE nB B nO O (List.length (closS nB B nO O W G L len false))
                                          (fun (a : Nat) => List.getD (closS nB B nO O W G L len false) a (0 : Int))
                                          (List.length (closS nB B nO O W G L len true))
                                          (fun (a : Nat) => List.getD (closS nB B nO O W G L len true) a (0 : Int)) len ==
                                        (0 : Int)
                                    else false) =
                                    true →
                                  (if (closErr nB B nO O W G L len == (0 : Int)) = true then
                                      closesE nB B nO O (List.length (closS nB B nO O W G L len false))
                                          (fun (a : Nat) => List.getD (closS nB B nO O W G L len false) a (0 : Int))
                                          (List.length (closS nB B nO O W G L len true))
                                          (fun (a : Nat) => List.getD (closS nB B nO O W G L len true) a (0 : Int)) len ==
                                        (0 : Int)
                                    else false) =
                                    true,
                                (if (closErr nB B nO O W G L len == (0 : Int)) = true then
                                      closesE nB B nO O (List.length (closS nB B nO O W G L len false))
                                          (fun (a : Nat) => List.getD (closS nB B nO O W G L len false) a (0 : Int))
                                          (List.length (closS nB B nO O W G L len true))
                                          (fun (a : Nat) => List.getD (closS nB B nO O W G L len true) a (0 : Int)) len ==
                                        (0 : Int)
                                    else false) =
                                    true →
                                  (if (closErr nB B nO O W G L len == (0 : Int)) = true then
                                      closesE nB B nO O (List.length (closS nB B nO O W G L len false))
                                          (fun (a : Nat) => List.getD (closS nB B nO O W G L len false) a (0 : Int))
                                          (List.length (closS nB B nO O W G L len true))
                                          (fun (a : Nat) => List.getD (closS nB B nO O W G L len true) a (0 : Int)) len ==
                                        (0 : Int)
                                    else false) =
                                    true]
                              (VT.done
                                [(if
                                        (if (closErr nB B nO O W G L len == (0 : Int)) = true then
                                            closesE nB B nO O (List.length (closS nB B nO O W G L len false))
                                                (fun (a : Nat) => List.getD (closS nB B nO O W G L len false) a (0 : Int))
                                                (List.length (closS nB B nO O W G L len true))
                                                (fun (a : Nat) => List.getD (closS nB B nO O W G L len true) a (0 : Int))
                                                len ==
                                              (0 : Int)
                                          else false) =
                                          true then
                                      (10000 : Int) *
                                            ((↑(List.length (closS nB B nO O W G L len true)) : Int) +
                                              cntN
                                                (fun (a : Nat) => List.getD (closS nB B nO O W G L len false) a (0 : Int))
                                                (B (nB - (1 : Nat))) (List.length (closS nB B nO O W G L len false))) +
                                          (↑(List.length (closS nB B nO O W G L len false)) : Int) ==
                                        leastR nB B nO O len
                                    else false) =
                                    true])))
                          (VT.ite (sysE nB B nO O W G L != (0 : Int))
                            (VT.need
                              [(closErr nB B nO O W G L len == sysE nB B nO O W G L) = true →
                                  (closErr nB B nO O W G L len == sysE nB B nO O W G L) = true,
                                (closErr nB B nO O W G L len == sysE nB B nO O W G L) = true →
                                  (closErr nB B nO O W G L len == sysE nB B nO O W G L) = true,
                                (closErr nB B nO O W G L len == sysE nB B nO O W G L) = true →
                                  (closErr nB B nO O W G L len == sysE nB B nO O W G L) = true,
                                (closErr nB B nO O W G L len == sysE nB B nO O W G L) = true →
                                  (closErr nB B nO O W G L len == sysE nB B nO O W G L) = true,
                                (closErr nB B nO O W G L len == sysE nB B nO O W G L) = true →
                                  (closErr nB B nO O W G L len == sysE nB B nO O W G L) = true,
                                (closErr nB B nO O W G L len == sysE nB B nO O W G L) = true →
                                  (closErr nB B nO O W G L len == sysE nB B nO O W G L) = true,
                                (closErr nB B nO O W G L len == sysE nB B nO O W G L) = true →
                                  i64In
                                    ((↑(List.length (closS nB B nO O W G L len false)) : Int) +
                                      (↑(List.length (closS nB B nO O W G L len true)) : Int)),
                                (closErr nB B nO O W G L len == sysE nB B nO O W G L) = true →
                                  (closErr nB B nO O W G L len == sysE nB B nO O W G L) = true,
                                (closErr nB B nO O W G L len == sysE nB B nO O W G L) = true →
                                  (closErr nB B nO O W G L len == sysE nB B nO O W G L) = true]
                              (VT.done
                                [(if (closErr nB B nO O W G L len == sysE nB B nO O W G L) = true then
                                      (↑(List.length (closS nB B nO O W G L len false)) : Int) +
                                          (↑(List.length (closS nB B nO O W G L len true)) : Int) ==
                                        (0 : Int)
                                    else false) =
                                    true]))
                            (VT.need
                              [(closErr nB B nO O W G L len == (0 : Int)) = true →
                                  (closErr nB B nO O W G L len == (0 : Int)) = true,
                                (closErr nB B nO O W G L len == (0 : Int)) = true →
                                  (closErr nB B nO O W G L len == (0 : Int)) = true,
                                (closErr nB B nO O W G L len == (0 : Int)) = true →
                                  (closErr nB B nO O W G L len == (0 : Int)) = true,
                                (closErr nB B nO O W G L len == (0 : Int)) = true →
                                  FnC prog (12 : Nat)
                                    [DV.agg
                                        [DV.lst nB [fun (i : Nat) => DV.val (Value.int IntKind.i64 (B i))],
                                          DV.lst nO [fun (i : Nat) => DV.val (Value.int IntKind.i64 (O i))],
                                          DV.val (Value.int IntKind.i64 W), DV.val (Value.int IntKind.i64 G),
                                          DV.val (Value.int IntKind.i64 L)],
                                      DV.val (Value.int IntKind.i64 len),
                                      DV.agg
                                        [DV.lst (List.length (closS nB B nO O W G L len false))
                                            [fun (i : Nat) =>
                                              DV.val
                                                (Value.int IntKind.i64
                                                  (List.getD (closS nB B nO O W G L len false) i (0 : Int)))],
                                          DV.lst (List.length (closS nB B nO O W G L len true))
                                            [fun (i : Nat) =>
                                              DV.val
                                                (Value.int IntKind.i64
                                                  (List.getD (closS nB B nO O W G L len true) i (0 : Int)))]]]
                                    (DV.val
                                      (Value.int IntKind.i64
                                        (closesE nB B nO O (List.length (closS nB B nO O W G L len false))
                                          (fun (a : Nat) => List.getD (closS nB B nO O W G L len false) a (0 : Int))
                                          (List.length (closS nB B nO O W G L len true))
                                          (fun (a : Nat) => List.getD (closS nB B nO O W G L len true) a (0 : Int)) len))),
                                (closErr nB B nO O W G L len == (0 : Int)) = true →
                                  (closErr nB B nO O W G L len == (0 : Int)) = true,
                                (closErr nB B nO O W G L len == (0 : Int)) = true →
                                  (closErr nB B nO O W G L len == (0 : Int)) = true,
                                (if (closErr nB B nO O W G L len == (0 : Int)) = true then
                                      closesE nB B nO O (List.length (closS nB B nO O W G L len false))
                                          (fun (a : Nat) => List.getD (closS nB B nO O W G L len false) a (0 : Int))
                                          (List.length (closS nB B nO O W G L len true))
                                          (fun (a : Nat) => List.getD (closS nB B nO O W G L len true) a (0 : Int)) len ==
                                        (0 : Int)
                                    else false) =
                                    true →
                                  (if (closErr nB B nO O W G L len == (0 : Int)) = true then
                                      closesE nB B nO O (List.length (closS nB B nO O W G L len false))
                                          (fun (a : Nat) => List.getD (closS nB B nO O W G L len false) a (0 : Int))
                                          (List.length (closS nB B nO O W G L len true))
                                          (fun (a : Nat) => List.getD (closS nB B nO O W G L len true) a (0 : Int)) len ==
                                        (0 : Int)
                                    else false) =
                                    true,
                                (if (closErr nB B nO O W G L len == (0 : Int)) = true then
                                      closesE nB B nO O (List.length (closS nB B nO O W G L len false))
                                          (fun (a : Nat) => List.getD (closS nB B nO O W G L len false) a (0 : Int))
                                          (List.length (closS nB B nO O W G L len true))
                                          (fun (a : Nat) => List.getD (closS nB B nO O W G L len true) a (0 : Int)) len ==
                                        (0 : Int)
                                    else false) =
                                    true →
                                  (if (closErr nB B nO O W G L len == (0 : Int)) = true then
                                      closesE nB B nO O (List.length (closS nB B nO O W G L len false))
                                          (fun (a : Nat) => List.getD (closS nB B nO O W G L len false) a (0 : Int))
                                          (List.length (closS nB B nO O W G L len true))
                                          (fun (a : Nat) => List.getD (closS nB B nO O W G L len true) a (0 : Int)) len ==
                                        (0 : Int)
                                    else false) =
                                    true,
                                (if (closErr nB B nO O W G L len == (0 : Int)) = true then
                                      closesE nB B nO O (List.length (closS nB B nO O W G L len false))
                                          (fun (a : Nat) => List.getD (closS nB B nO O W G L len false) a (0 : Int))
                                          (List.length (closS nB B nO O W G L len true))
                                          (fun (a : Nat) => List.getD (closS nB B nO O W G L len true) a (0 : Int)) len ==
                                        (0 : Int)
                                    else false) =
                                    true →
                                  FnC prog (14 : Nat)
                                    [DV.agg
                                        [DV.lst nB [fun (i : Nat) => DV.val (Value.int IntKind.i64 (B i))],
                                          DV.lst nO [fun (i : Nat) => DV.val (Value.int IntKind.i64 (O i))],
                                          DV.val (Value.int IntKind.i64 W), DV.val (Value.int IntKind.i64 G),
                                          DV.val (Value.int IntKind.i64 L)],
                                      DV.agg
                                        [DV.lst (List.length (closS nB B nO O W G L len false))
                                            [fun (i : Nat) =>
                                              DV.val
                                                (Value.int IntKind.i64
                                                  (List.getD (closS nB B nO O W G L len false) i (0 : Int)))],
                                          DV.lst (List.length (closS nB B nO O W G L len true))
                                            [fun (i : Nat) =>
                                              DV.val
                                                (Value.int IntKind.i64
                                                  (List.getD (closS nB B nO O W G L len true) i (0 : Int)))]]]
                                    (DV.val
                                      (Value.agg
                                        {
                                          toList :=
                                            [Value.int IntKind.i64
                                                ((↑(List.length (closS nB B nO O W G L len true)) : Int) +
                                                  cntN
                                                    (fun (a : Nat) =>
                                                      List.getD (closS nB B nO O W G L len false) a (0 : Int))
                                                    (B (nB - (1 : Nat))) (List.length (closS nB B nO O W G L len false))),
                                              Value.int IntKind.i64
                                                (↑(List.length (closS nB B nO O W G L len false)) : Int)] })),
                                (if (closErr nB B nO O W G L len == (0 : Int)) = true then
                                      closesE nB B nO O (List.length (closS nB B nO O W G L len false))
                                          (fun (a : Nat) => List.getD (closS nB B nO O W G L len false) a (0 : Int))
                                          (List.length (closS nB B nO O W G L len true))
                                          (fun (a : Nat) => List.getD (closS nB B nO O W G L len true) a (0 : Int)) len ==
                                        (0 : Int)
                                    else false) =
                                    true →
                                  (if (closErr nB B nO O W G L len == (0 : Int)) = true then
                                      closesE nB B nO O (List.length (closS nB B nO O W G L len false))
                                          (fun (a : Nat) => List.getD (closS nB B nO O W G L len false) a (0 : Int))
                                          (List.length (closS nB B nO O W G L len true))
                                          (fun (a : Nat) => List.getD (closS nB B nO O W G L len true) a (0 : Int)) len ==
                                        (0 : Int)
                                    else false) =
                                    true,
                                (if (closErr nB B nO O W G L len == (0 : Int)) = true then
                                      closesE nB B nO O (List.length (closS nB B nO O W G L len false))
                                          (fun (a : Nat) => List.getD (closS nB B nO O W G L len false) a (0 : Int))
                                          (List.length (closS nB B nO O W G L len true))
                                          (fun (a : Nat) => List.getD (closS nB B nO O W G L len true) a (0 : Int)) len ==
                                        (0 : Int)
                                    else false) =
                                    true →
                                  FnC prog (13 : Nat)
                                    [DV.val
                                        (Value.agg
                                          {
                                            toList :=
                                              [Value.int IntKind.i64
                                                  ((↑(List.length (closS nB B nO O W G L len true)) : Int) +
                                                    cntN
                                                      (fun (a : Nat) =>
                                                        List.getD (closS nB B nO O W G L len false) a (0 : Int))
                                                      (B (nB - (1 : Nat))) (List.length (closS nB B nO O W G L len false))),
                                                Value.int IntKind.i64
                                                  (↑(List.length (closS nB B nO O W G L len false)) : Int)] })]
                                    (DV.val
                                      (Value.int IntKind.i64
                                        ((10000 : Int) *
                                            ((↑(List.length (closS nB B nO O W G L len true)) : Int) +
                                              cntN
                                                (fun (a : Nat) => List.getD (closS nB B nO O W G L len false) a (0 : Int))
                                                (B (nB - (1 : Nat))) (List.length (closS nB B nO O W G L len false))) +
                                          (↑(List.length (closS nB B nO O W G L len false)) : Int)))),
                                (if (closErr nB B nO O W G L len == (0 : Int)) = true then
                                      closesE nB B nO O (List.length (closS nB B nO O W G L len false))
                                          (fun (a : Nat) => List.getD (closS nB B nO O W G L len false) a (0 : Int))
                                          (List.length (closS nB B nO O W G L len true))
                                          (fun (a : Nat) => List.getD (closS nB B nO O W G L len true) a (0 : Int)) len ==
                                        (0 : Int)
                                    else false) =
                                    true →
                                  (if (closErr nB B nO O W G L len == (0 : Int)) = true then
                                      closesE nB B nO O (List.length (closS nB B nO O W G L len false))
                                          (fun (a : Nat) => List.getD (closS nB B nO O W G L len false) a (0 : Int))
                                          (List.length (closS nB B nO O W G L len true))
                                          (fun (a : Nat) => List.getD (closS nB B nO O W G L len true) a (0 : Int)) len ==
                                        (0 : Int)
                                    else false) =
                                    true,
                                (if (closErr nB B nO O W G L len == (0 : Int)) = true then
                                      closesE nB B nO O (List.length (closS nB B nO O W G L len false))
                                          (fun (a : Nat) => List.getD (closS nB B nO O W G L len false) a (0 : Int))
                                          (List.length (closS nB B nO O W G L len true))
                                          (fun (a : Nat) => List.getD (closS nB B nO O W G L len true) a (0 : Int)) len ==
                                        (0 : Int)
                                    else false) =
                                    true →
                                  (if (closErr nB B nO O W G L len == (0 : Int)) = true then
                                      closesE nB B nO O (List.length (closS nB B nO O W G L len false))
                                          (fun (a : Nat) => List.getD (closS nB B nO O W G L len false) a (0 : Int))
                                          (List.length (closS nB B nO O W G L len true))
                                          (fun (a : Nat) => List.getD (closS nB B nO O W G L len true) a (0 : Int)) len ==
                                        (0 : Int)
                                    else false) =
                                    true,
                                (if (closErr nB B nO O W G L len == (0 : Int)) = true then
                                      closesE nB B nO O (List.length (closS nB B nO O W G L len false))
                                          (fun (a : Nat) => List.getD (closS nB B nO O W G L len false) a (0 : Int))
                                          (List.length (closS nB B nO O W G L len true))
                                          (fun (a : Nat) => List.getD (closS nB B nO O W G L len true) a (0 : Int)) len ==
                                        (0 : Int)
                                    else false) =
                                    true →
                                  (if (closErr nB B nO O W G L len == (0 : Int)) = true then
                                      closesE nB B nO O (List.length (closS nB B nO O W G L len false))
                                          (fun (a : Nat) => List.getD (closS nB B nO O W G L len false) a (0 : Int))
                                          (List.length (closS nB B nO O W G L len true))
                                          (fun (a : Nat) => List.getD (closS nB B nO O W G L len true) a (0 : Int)) len ==
                                        (0 : Int)
                                    else false) =
                                    true]
                              (VT.done
                                [(if
                                        (if (closErr nB B nO O W G L len == (0 : Int)) = true then
                                            closesE nB B nO O (List.length (closS nB B nO O W G L len false))
                                                (fun (a : Nat) => List.getD (closS nB B nO O W G L len false) a (0 : Int))
                                                (List.length (closS nB B nO O W G L len true))
                                                (fun (a : Nat) => List.getD (closS nB B nO O W G L len true) a (0 : Int))
                                                len ==
                                              (0 : Int)
                                          else false) =
                                          true then
                                      (10000 : Int) *
                                            ((↑(List.length (closS nB B nO O W G L len true)) : Int) +
                                              cntN
                                                (fun (a : Nat) => List.getD (closS nB B nO O W G L len false) a (0 : Int))
                                                (B (nB - (1 : Nat))) (List.length (closS nB B nO O W G L len false))) +
                                          (↑(List.length (closS nB B nO O W G L len false)) : Int) ==
                                        leastR nB B nO O len
                                    else false) =
                                    true])))))
                      (VT.ite (sysE nB B nO O W G L != (0 : Int))
                        (VT.need
                          [(closErr nB B nO O W G L len == sysE nB B nO O W G L) = true →
                              (closErr nB B nO O W G L len == sysE nB B nO O W G L) = true,
                            (closErr nB B nO O W G L len == sysE nB B nO O W G L) = true →
                              (closErr nB B nO O W G L len == sysE nB B nO O W G L) = true,
                            (closErr nB B nO O W G L len == sysE nB B nO O W G L) = true →
                              (closErr nB B nO O W G L len == sysE nB B nO O W G L) = true,
                            (closErr nB B nO O W G L len == sysE nB B nO O W G L) = true →
                              (closErr nB B nO O W G L len == sysE nB B nO O W G L) = true,
                            (closErr nB B nO O W G L len == sysE nB B nO O W G L) = true →
                              (closErr nB B nO O W G L len == sysE nB B nO O W G L) = true,
                            (closErr nB B nO O W G L len == sysE nB B nO O W G L) = true →
                              (closErr nB B nO O W G L len == sysE nB B nO O W G L) = true,
                            (closErr nB B nO O W G L len == sysE nB B nO O W G L) = true →
                              i64In
                                ((↑(List.length (closS nB B nO O W G L len false)) : Int) +
                                  (↑(List.length (closS nB B nO O W G L len true)) : Int)),
                            (closErr nB B nO O W G L len == sysE nB B nO O W G L) = true →
                              (closErr nB B nO O W G L len == sysE nB B nO O W G L) = true,
                            (closErr nB B nO O W G L len == sysE nB B nO O W G L) = true →
                              (closErr nB B nO O W G L len == sysE nB B nO O W G L) = true]
                          (VT.done
                            [(if (closErr nB B nO O W G L len == sysE nB B nO O W G L) = true then
                                  (↑(List.length (closS nB B nO O W G L len false)) : Int) +
                                      (↑(List.length (closS nB B nO O W G L len true)) : Int) ==
                                    (0 : Int)
                                else false) =
                                true]))
                        (VT.need
                          [(closErr nB B nO O W G L len == (0 : Int)) = true →
                              (closErr nB B nO O W G L len == (0 : Int)) = true,
                            (closErr nB B nO O W G L len == (0 : Int)) = true →
                              (closErr nB B nO O W G L len == (0 : Int)) = true,
                            (closErr nB B nO O W G L len == (0 : Int)) = true →
                              (closErr nB B nO O W G L len == (0 : Int)) = true,
                            (closErr nB B nO O W G L len == (0 : Int)) = true →
                              FnC prog (12 : Nat)
                                [DV.agg
                                    [DV.lst nB [fun (i : Nat) => DV.val (Value.int IntKind.i64 (B i))],
                                      DV.lst nO [fun (i : Nat) => DV.val (Value.int IntKind.i64 (O i))],
                                      DV.val (Value.int IntKind.i64 W), DV.val (Value.int IntKind.i64 G),
                                      DV.val (Value.int IntKind.i64 L)],
                                  DV.val (Value.int IntKind.i64 len),
                                  DV.agg
                                    [DV.lst (List.length (closS nB B nO O W G L len false))
                                        [fun (i : Nat) =>
                                          DV.val
                                            (Value.int IntKind.i64
                                              (List.getD (closS nB B nO O W G L len false) i (0 : Int)))],
                                      DV.lst (List.length (closS nB B nO O W G L len true))
                                        [fun (i : Nat) =>
                                          DV.val
                                            (Value.int IntKind.i64
                                              (List.getD (closS nB B nO O W G L len true) i (0 : Int)))]]]
                                (DV.val
                                  (Value.int IntKind.i64
                                    (closesE nB B nO O (List.length (closS nB B nO O W G L len false))
                                      (fun (a : Nat) => List.getD (closS nB B nO O W G L len false) a (0 : Int))
                                      (List.length (closS nB B nO O W G L len true))
                                      (fun (a : Nat) => List.getD (closS nB B nO O W G L len true) a (0 : Int)) len))),
                            (closErr nB B nO O W G L len == (0 : Int)) = true →
                              (closErr nB B nO O W G L len == (0 : Int)) = true,
                            (closErr nB B nO O W G L len == (0 : Int)) = true →
                              (closErr nB B nO O W G L len == (0 : Int)) = true,
                            (if (closErr nB B nO O W G L len == (0 : Int)) = true then
                                  closesE nB B nO O (List.length (closS nB B nO O W G L len false))
                                      (fun (a : Nat) => List.getD (closS nB B nO O W G L len false) a (0 : Int))
                                      (List.length (closS nB B nO O W G L len true))
                                      (fun (a : Nat) => List.getD (closS nB B nO O W G L len true) a (0 : Int)) len ==
                                    (0 : Int)
                                else false) =
                                true →
                              (if (closErr nB B nO O W G L len == (0 : Int)) = true then
                                  closesE nB B nO O (List.length (closS nB B nO O W G L len false))
                                      (fun (a : Nat) => List.getD (closS nB B nO O W G L len false) a (0 : Int))
                                      (List.length (closS nB B nO O W G L len true))
                                      (fun (a : Nat) => List.getD (closS nB B nO O W G L len true) a (0 : Int)) len ==
                                    (0 : Int)
                                else false) =
                                true,
                            (if (closErr nB B nO O W G L len == (0 : Int)) = true then
                                  closesE nB B nO O (List.length (closS nB B nO O W G L len false))
                                      (fun (a : Nat) => List.getD (closS nB B nO O W G L len false) a (0 : Int))
                                      (List.length (closS nB B nO O W G L len true))
                                      (fun (a : Nat) => List.getD (closS nB B nO O W G L len true) a (0 : Int)) len ==
                                    (0 : Int)
                                else false) =
                                true →
                              (if (closErr nB B nO O W G L len == (0 : Int)) = true then
                                  closesE nB B nO O (List.length (closS nB B nO O W G L len false))
                                      (fun (a : Nat) => List.getD (closS nB B nO O W G L len false) a (0 : Int))
                                      (List.length (closS nB B nO O W G L len true))
                                      (fun (a : Nat) => List.getD (closS nB B nO O W G L len true) a (0 : Int)) len ==
                                    (0 : Int)
                                else false) =
                                true,
                            (if (closErr nB B nO O W G L len == (0 : Int)) = true then
                                  closesE nB B nO O (List.length (closS nB B nO O W G L len false))
                                      (fun (a : Nat) => List.getD (closS nB B nO O W G L len false) a (0 : Int))
                                      (List.length (closS nB B nO O W G L len true))
                                      (fun (a : Nat) => List.getD (closS nB B nO O W G L len true) a (0 : Int)) len ==
                                    (0 : Int)
                                else false) =
                                true →
                              FnC prog (14 : Nat)
                                [DV.agg
                                    [DV.lst nB [fun (i : Nat) => DV.val (Value.int IntKind.i64 (B i))],
                                      DV.lst nO [fun (i : Nat) => DV.val (Value.int IntKind.i64 (O i))],
                                      DV.val (Value.int IntKind.i64 W), DV.val (Value.int IntKind.i64 G),
                                      DV.val (Value.int IntKind.i64 L)],
                                  DV.agg
                                    [DV.lst (List.length (closS nB B nO O W G L len false))
                                        [fun (i : Nat) =>
                                          DV.val
                                            (Value.int IntKind.i64
                                              (List.getD (closS nB B nO O W G L len false) i (0 : Int)))],
                                      DV.lst (List.length (closS nB B nO O W G L len true))
                                        [fun (i : Nat) =>
                                          DV.val
                                            (Value.int IntKind.i64
                                              (List.getD (closS nB B nO O W G L len true) i (0 : Int)))]]]
                                (DV.val
                                  (Value.agg
                                    {
                                      toList :=
                                        [Value.int IntKind.i64
                                            ((↑(List.length (closS nB B nO O W G L len true)) : Int) +
                                              cntN
                                                (fun (a : Nat) => List.getD (closS nB B nO O W G L len false) a (0 : Int))
                                                (B (nB - (1 : Nat))) (List.length (closS nB B nO O W G L len false))),
                                          Value.int IntKind.i64
                                            (↑(List.length (closS nB B nO O W G L len false)) : Int)] })),
                            (if (closErr nB B nO O W G L len == (0 : Int)) = true then
                                  closesE nB B nO O (List.length (closS nB B nO O W G L len false))
                                      (fun (a : Nat) => List.getD (closS nB B nO O W G L len false) a (0 : Int))
                                      (List.length (closS nB B nO O W G L len true))
                                      (fun (a : Nat) => List.getD (closS nB B nO O W G L len true) a (0 : Int)) len ==
                                    (0 : Int)
                                else false) =
                                true →
                              (if (closErr nB B nO O W G L len == (0 : Int)) = true then
                                  closesE nB B nO O (List.length (closS nB B nO O W G L len false))
                                      (fun (a : Nat) => List.getD (closS nB B nO O W G L len false) a (0 : Int))
                                      (List.length (closS nB B nO O W G L len true))
                                      (fun (a : Nat) => List.getD (closS nB B nO O W G L len true) a (0 : Int)) len ==
                                    (0 : Int)
                                else false) =
                                true,
                            (if (closErr nB B nO O W G L len == (0 : Int)) = true then
                                  closesE nB B nO O (List.length (closS nB B nO O W G L len false))
                                      (fun (a : Nat) => List.getD (closS nB B nO O W G L len false) a (0 : Int))
                                      (List.length (closS nB B nO O W G L len true))
                                      (fun (a : Nat) => List.getD (closS nB B nO O W G L len true) a (0 : Int)) len ==
                                    (0 : Int)
                                else false) =
                                true →
                              FnC prog (13 : Nat)
                                [DV.val
                                    (Value.agg
                                      {
                                        toList :=
                                          [Value.int IntKind.i64
                                              ((↑(List.length (closS nB B nO O W G L len true)) : Int) +
                                                cntN
                                                  (fun (a : Nat) => List.getD (closS nB B nO O W G L len false) a (0 : Int))
                                                  (B (nB - (1 : Nat))) (List.length (closS nB B nO O W G L len false))),
                                            Value.int IntKind.i64
                                              (↑(List.length (closS nB B nO O W G L len false)) : Int)] })]
                                (DV.val
                                  (Value.int IntKind.i64
                                    ((10000 : Int) *
                                        ((↑(List.length (closS nB B nO O W G L len true)) : Int) +
                                          cntN (fun (a : Nat) => List.getD (closS nB B nO O W G L len false) a (0 : Int))
                                            (B (nB - (1 : Nat))) (List.length (closS nB B nO O W G L len false))) +
                                      (↑(List.length (closS nB B nO O W G L len false)) : Int)))),
                            (if (closErr nB B nO O W G L len == (0 : Int)) = true then
                                  closesE nB B nO O (List.length (closS nB B nO O W G L len false))
                                      (fun (a : Nat) => List.getD (closS nB B nO O W G L len false) a (0 : Int))
                                      (List.length (closS nB B nO O W G L len true))
                                      (fun (a : Nat) => List.getD (closS nB B nO O W G L len true) a (0 : Int)) len ==
                                    (0 : Int)
                                else false) =
                                true →
                              (if (closErr nB B nO O W G L len == (0 : Int)) = true then
                                  closesE nB B nO O (List.length (closS nB B nO O W G L len false))
                                      (fun (a : Nat) => List.getD (closS nB B nO O W G L len false) a (0 : Int))
                                      (List.length (closS nB B nO O W G L len true))
                                      (fun (a : Nat) => List.getD (closS nB B nO O W G L len true) a (0 : Int)) len ==
                                    (0 : Int)
                                else false) =
                                true,
                            (if (closErr nB B nO O W G L len == (0 : Int)) = true then
                                  closesE nB B nO O (List.length (closS nB B nO O W G L len false))
                                      (fun (a : Nat) => List.getD (closS nB B nO O W G L len false) a (0 : Int))
                                      (List.length (closS nB B nO O W G L len true))
                                      (fun (a : Nat) => List.getD (closS nB B nO O W G L len true) a (0 : Int)) len ==
                                    (0 : Int)
                                else false) =
                                true →
                              (if (closErr nB B nO O W G L len == (0 : Int)) = true then
                                  closesE nB B nO O (List.length (closS nB B nO O W G L len false))
                                      (fun (a : Nat) => List.getD (closS nB B nO O W G L len false) a (0 : Int))
                                      (List.length (closS nB B nO O W G L len true))
                                      (fun (a : Nat) => List.getD (closS nB B nO O W G L len true) a (0 : Int)) len ==
                                    (0 : Int)
                                else false) =
                                true,
                            (if (closErr nB B nO O W G L len == (0 : Int)) = true then
                                  closesE nB B nO O (List.length (closS nB B nO O W G L len false))
                                      (fun (a : Nat) => List.getD (closS nB B nO O W G L len false) a (0 : Int))
                                      (List.length (closS nB B nO O W G L len true))
                                      (fun (a : Nat) => List.getD (closS nB B nO O W G L len true) a (0 : Int)) len ==
                                    (0 : Int)
                                else false) =
                                true →
                              (if (closErr nB B nO O W G L len == (0 : Int)) = true then
                                  closesE nB B nO O (List.length (closS nB B nO O W G L len false))
                                      (fun (a : Nat) => List.getD (closS nB B nO O W G L len false) a (0 : Int))
                                      (List.length (closS nB B nO O W G L len true))
                                      (fun (a : Nat) => List.getD (closS nB B nO O W G L len true) a (0 : Int)) len ==
                                    (0 : Int)
                                else false) =
                                true]
                          (VT.done
                            [(if
                                    (if (closErr nB B nO O W G L len == (0 : Int)) = true then
                                        closesE nB B nO O (List.length (closS nB B nO O W G L len false))
                                            (fun (a : Nat) => List.getD (closS nB B nO O W G L len false) a (0 : Int))
                                            (List.length (closS nB B nO O W G L len true))
                                            (fun (a : Nat) => List.getD (closS nB B nO O W G L len true) a (0 : Int)) len ==
                                          (0 : Int)
                                      else false) =
                                      true then
                                  (10000 : Int) *
                                        ((↑(List.length (closS nB B nO O W G L len true)) : Int) +
                                          cntN (fun (a : Nat) => List.getD (closS nB B nO O W G L len false) a (0 : Int))
                                            (B (nB - (1 : Nat))) (List.length (closS nB B nO O W G L len false))) +
                                      (↑(List.length (closS nB B nO O W G L len false)) : Int) ==
                                    (0 : Int)
                                else false) =
                                true]))))))))))) (by kernel_rfl) ?_
  simp only [VT.holds, AllT, imp_self, implies_true, and_true, true_and, toNat_succ, toNat_add2, toNat_zero', Int.toNat_natCast, Bool.if_true_left, Bool.if_false_right, Bool.decide_eq_true, Bool.or_eq_true, Bool.or_eq_false_iff, Bool.and_eq_true, Bool.and_eq_false_imp, Bool.not_eq_true', Bool.not_eq_false', Bool.not_not, bne_iff_ne, bne_eq_false_iff_eq, beq_iff_eq, beq_eq_false_iff_ne, decide_eq_true_eq, decide_eq_false_iff_not, ne_eq]
  refine ⟨awake_c, fun h => (by cases h), fun _ => ⟨few_c nB B nO O W G L, fun ⟨f1, f2⟩ => ?_⟩⟩
  have cp := copied_c nB B nO O W G L (by omega) (by omega)
  have em : ∀ s, ¬ (measE nB B nO O W G L len = 0 ∧ okC (unitP nB B nO O (nB + nO)) (tabS nB B nO O) len = true) → closS nB B nO O W G L len s = [] := fun s h => clos_none h s
  refine ⟨⟨cp, closeTop_c nB B nO O W G L len⟩, systemR_c nB B nO O W G L, fun h => ⟨lengthErr_c nB B nO O W G L len h, fun hl => ⟨least_c nB B nO O W G L len h hl, fun hneg => ⟨fun _ => ?_, fun hx => absurd hx (by omega)⟩, fun hpos => ⟨fun hx => absurd hl hx, fun _ => ?_⟩⟩, fun hl => ⟨fun _ => ?_, fun hx => absurd hx hl⟩⟩, fun h => ⟨fun hx => absurd hx h, fun _ => ⟨fun _ => ?_, fun hx => absurd hx h⟩⟩⟩
  · have hno : ¬ (measE nB B nO O W G L len = 0 ∧ okC (unitP nB B nO O (nB + nO)) (tabS nB B nO O) len = true) := fun hx => by
      have := least_ok.1 hx.2
      omega
    have hm : measE nB B nO O W G L len = 0 := by rw [measE_eq, if_pos h, hl]
    have he : closErr nB B nO O W G L len = 13 := by rw [closErr, if_pos hm, if_neg (fun hx => hno ⟨hm, hx⟩)]
    rw [em _ hno, em _ hno]
    exact ⟨fun _ => by simp [i64In], he, rfl⟩
  · have hm : measE nB B nO O W G L len = 0 := by rw [measE_eq, if_pos h, hl]
    have hok := least_ok.2 (show 0 ≤ leastR nB B nO O len by omega)
    have he : closErr nB B nO O W G L len = 0 := by rw [closErr, if_pos hm, if_pos hok]
    obtain ⟨s1, s2, s3, _⟩ := sys_ok h
    obtain ⟨c1, c2, c3, c4, c5, c6, c7, c8⟩ := clos_facts hm hok
    have hcl := clos_closes hm hok
    have ho := oddZ_nonneg (B (nB - 1)) (closS nB B nO O W G L len false)
    rw [cntN_list]
    refine ⟨⟨fun _ => checkR_c nB B nO O W G L len _ _ _ _ h (by omega) (by omega), fun _ => ?_, fun _ => code_c _ _ (by omega) (by omega) (by omega) (by omega)⟩, ⟨he, hcl⟩, ?_⟩
    · have := costR_c nB B nO O W G L (closS nB B nO O W G L len false).length (fun i => (closS nB B nO O W G L len false).getD i 0) (closS nB B nO O W G L len true).length (fun i => (closS nB B nO O W G L len true).getD i 0) s1 (by omega) (by omega) (by omega)
      rw [cntN_list] at this
      exact this
    · have hlq : leastR nB B nO O len = tabS nB B nO O (len / (unitP nB B nO O (nB + nO) : Int)).toNat := by
        have hr : len % (unitR nB B O (nB + nO) : Int) = 0 := by
          apply Classical.byContradiction
          intro hx
          rw [leastR, if_neg hx] at hpos
          omega
        rw [leastR, if_pos hr, tabS_eq, unit_eq]
      rw [hlq, ← c8]
      omega
  · have hm : measE nB B nO O W G L len = lenR nB B nO O len := by rw [measE_eq, if_pos h]
    have hno : ¬ (measE nB B nO O W G L len = 0 ∧ okC (unitP nB B nO O (nB + nO)) (tabS nB B nO O) len = true) := fun hx => hl (hm.symm.trans hx.1)
    have he : closErr nB B nO O W G L len = lenR nB B nO O len := by rw [closErr, if_neg (fun hx => hl (hm.symm.trans hx)), hm]
    rw [em _ hno, em _ hno]
    exact ⟨fun _ => by simp [i64In], he, rfl⟩
  · have hm : measE nB B nO O W G L len = sysE nB B nO O W G L := by rw [measE_eq, if_neg h]
    have hno : ¬ (measE nB B nO O W G L len = 0 ∧ okC (unitP nB B nO O (nB + nO)) (tabS nB B nO O) len = true) := fun hx => h (hm.symm.trans hx.1)
    have he : closErr nB B nO O W G L len = sysE nB B nO O W G L := by rw [closErr, if_neg (fun hx => h (hm.symm.trans hx)), hm]
    rw [em _ hno, em _ hno]
    exact ⟨fun _ => by simp [i64In], he, rfl⟩
end Go.Abs
