/- Contracts. -/
import Derived.Test.YtpllaeomcjplnaaL21
set_option linter.unusedVariables false
set_option linter.unusedSimpArgs false
set_option maxRecDepth 100000
namespace Go.Abs
open Go
def sumZ : List Int → Int
  | [] => 0
  | x :: l => x + sumZ l
def oddZ (v : Int) : List Int → Int
  | [] => 0
  | x :: l => (if x = v then 0 else 1) + oddZ v l
theorem sumZ_app (l m : List Int) : sumZ (l ++ m) = sumZ l + sumZ m := by
  induction l with
  | nil => simp [sumZ]
  | cons x l ih => simp only [List.cons_append, sumZ, ih]; omega
theorem oddZ_app (v : Int) (l m : List Int) : oddZ v (l ++ m) = oddZ v l + oddZ v m := by
  induction l with
  | nil => simp [oddZ]
  | cons x l ih => simp only [List.cons_append, oddZ, ih]; omega
theorem sumZ_perm {l m : List Int} (h : l.Perm m) : sumZ l = sumZ m := by
  induction h with
  | nil => rfl
  | cons x _ ih => simp only [sumZ, ih]
  | swap x y l => simp only [sumZ]; omega
  | trans _ _ h1 h2 => exact h1.trans h2
theorem oddZ_perm {v : Int} {l m : List Int} (h : l.Perm m) : oddZ v l = oddZ v m := by
  induction h with
  | nil => rfl
  | cons x _ ih => simp only [oddZ, ih]
  | swap x y l => simp only [oddZ]; omega
  | trans _ _ h1 h2 => exact h1.trans h2
theorem oddZ_nonneg (v : Int) (l : List Int) : 0 ≤ oddZ v l ∧ oddZ v l ≤ l.length := by
  induction l with
  | nil => simp [oddZ]
  | cons x l ih => simp only [oddZ, List.length_cons]; split <;> omega
theorem sumI_eq (f : Nat → Int) : ∀ n, sumI f n = sumZ ((List.range n).map f)
  | 0 => rfl
  | n + 1 => by rw [range_snoc, sumZ_app, sumI, sumI_eq f n]; simp [sumZ]
theorem cntN_eq (f : Nat → Int) (v : Int) : ∀ n, cntN f v n = oddZ v ((List.range n).map f)
  | 0 => rfl
  | n + 1 => by rw [range_snoc, oddZ_app, cntN, cntN_eq f v n]; simp [oddZ]
theorem sumI_list (l : List Int) : sumI (fun i => l.getD i 0) l.length = sumZ l := by rw [sumI_eq, range_getD_self]
theorem cntN_list (l : List Int) (v : Int) : cntN (fun i => l.getD i 0) v l.length = oddZ v l := by rw [cntN_eq, range_getD_self]
theorem sortD_fall (l : List Int) : fallR (sortD l).length (fun i => (sortD l).getD i 0) = true := by
  have hp : (sortD l).Pairwise fun x y => decide (y ≤ x) = true := by
    apply List.pairwise_mergeSort
    · intro a b c h1 h2; rw [decide_eq_true_eq] at *; omega
    · intro a b; rw [Bool.or_eq_true, decide_eq_true_eq, decide_eq_true_eq]; omega
  rw [fallR, decide_eq_true_eq]
  intro k hk h0
  have := List.pairwise_iff_getElem.1 hp (k - 1) k (by omega) hk (by omega)
  rw [decide_eq_true_eq] at this
  rw [List.getD_eq_getElem?_getD, List.getD_eq_getElem?_getD, List.getElem?_eq_getElem hk, List.getElem?_eq_getElem (show k - 1 < (sortD l).length by omega)]
  exact this
section
variable {u n : Nat} {X C T : Nat → Int} {b : Nat → Bool} {K : Nat}
/-- What the taken parts amount to. -/
theorem take_sum (h : Tab u n X C T) (hK : 0 ≤ T K) (hd : ∀ i, i < n → X i = (unitsOf u (X i) : Int) * u) : ∀ j, sumZ (takeL u n X C T b false K j) + sumZ (takeL u n X C T b true K j) + (kAt u n X C T K j : Int) * u = (K : Int) * u
  | 0 => by simp [takeL, sumZ, kAt]
  | j + 1 => by
    have ih := take_sum h hK hd j
    by_cases h0 : kAt u n X C T K j = 0
    · rw [take_stay h0 (j + 1) (by omega), take_stay h0 (j + 1) (by omega), kAt_zero h0 (j + 1) (by omega)]
      rw [h0] at ih; exact ih
    · obtain ⟨p1, p2, _⟩ := pick_spec h (by omega) (kAt_ok h hK j)
      obtain ⟨k1, _⟩ := kAt_lt h hK h0
      have hx := hd _ p1
      have e : (kAt u n X C T K j : Int) * u = (kAt u n X C T K (j + 1) : Int) * u + (unitsOf u (X (pickP u n X C T (kAt u n X C T K j))) : Int) * u := by
        rw [← Int.add_mul]; congr 1; omega
      rw [takeL, takeL]
      cases hb : b (pickP u n X C T (kAt u n X C T K j)) with
      | false =>
        rw [if_pos ⟨h0, rfl⟩, if_neg (fun hx => by cases hx.2), sumZ_app]
        simp only [sumZ]
        omega
      | true =>
        rw [if_neg (fun hx => by cases hx.2), if_pos ⟨h0, rfl⟩, sumZ_app]
        simp only [sumZ]
        omega
theorem take_cost (h : Tab u n X C T) (hK : 0 ≤ T K) {M : Int} (h1 : ∀ i, i < n → b i = false → C i = 1 + 10000 * (if X i = M then 0 else 1)) (h2 : ∀ i, i < n → b i = true → C i = 10000) :
    ∀ j, ((takeL u n X C T b false K j).length : Int) + 10000 * (oddZ M (takeL u n X C T b false K j) + (takeL u n X C T b true K j).length) + T (kAt u n X C T K j) = T K
  | 0 => by simp [takeL, oddZ, kAt]
  | j + 1 => by
    have ih := take_cost h hK h1 h2 j
    by_cases h0 : kAt u n X C T K j = 0
    · rw [take_stay h0 (j + 1) (by omega), take_stay h0 (j + 1) (by omega), kAt_zero h0 (j + 1) (by omega)]
      rw [h0] at ih; exact ih
    · obtain ⟨p1, p2, _⟩ := pick_spec h (by omega) (kAt_ok h hK j)
      have p3 := (okP_iff.1 p2).2.2
      rw [takeL, takeL]
      have hk : kAt u n X C T K (j + 1) = kAt u n X C T K j - unitsOf u (X (pickP u n X C T (kAt u n X C T K j))) := rfl
      rw [hk]
      cases hb : b (pickP u n X C T (kAt u n X C T K j)) with
      | false =>
        have hc := h1 _ p1 hb
        rw [if_pos ⟨h0, rfl⟩, if_neg (fun hx => by cases hx.2), oddZ_app, List.length_append, List.length_singleton]
        simp only [oddZ]
        omega
      | true =>
        have hc := h2 _ p1 hb
        rw [if_neg (fun hx => by cases hx.2), if_pos ⟨h0, rfl⟩, List.length_append, List.length_singleton]
        omega
end
def closS (nB : Nat) (B : Nat → Int) (nO : Nat) (O : Nat → Int) (W G L len : Int) (s : Bool) : List Int :=
  if measE nB B nO O W G L len = 0 then closL (unitP nB B nO O (nB + nO)) (nB + nO) (pLen nB B nO O) (pCode nB) (tabS nB B nO O) (fun i => decide (nB ≤ i)) s len else []
def closErr (nB : Nat) (B : Nat → Int) (nO : Nat) (O : Nat → Int) (W G L len : Int) : Int :=
  if measE nB B nO O W G L len = 0 then (if okC (unitP nB B nO O (nB + nO)) (tabS nB B nO O) len = true then 0 else 13) else measE nB B nO O W G L len
def rClose : Orc := .res fun l => .tup [.agg [lstD (closL (cU l) (cN l) (colI 0 (fD 1 (arg l 0))) (colI 1 (fD 1 (arg l 0))) (colI 0 (arg l 1)) (fun i => bOf (colD 2 (fD 1 (arg l 0)) i)) false (aI l 2)), lstD (closL (cU l) (cN l) (colI 0 (fD 1 (arg l 0))) (colI 1 (fD 1 (arg l 0))) (colI 0 (arg l 1)) (fun i => bOf (colD 2 (fD 1 (arg l 0)) i)) true (aI l 2))], dB (okC (cU l) (colI 0 (arg l 1)) (aI l 2))]
theorem tab_sys {nB : Nat} {B : Nat → Int} {nO : Nat} {O : Nat → Int} (sB : ∀ k, k < nB → 1 ≤ B k ∧ B k ≤ 10000) (sO : ∀ k, k < nO → 1 ≤ O k ∧ O k ≤ 10000) : Tab (unitP nB B nO O (nB + nO)) (nB + nO) (pLen nB B nO O) (pCode nB) (tabS nB B nO O) :=
  ⟨rfl, fun i hi => unitsP_pos sB sO hi, fun i _ => pCode_bd nB i⟩
def leastR (nB : Nat) (B : Nat → Int) (nO : Nat) (O : Nat → Int) (len : Int) : Int := if len % (uR nB B nO O : Int) = 0 then tabRS nB B nO O (len / (uR nB B nO O : Int)).toNat else -1
noncomputable def A7_closeTop_c (nB : Nat) (B : Nat → Int) (nO : Nat) (O : Nat → Int) (W G L len : Int) : Ann := { orc := [(1, [(2, rMeas)]), (4, [(5, .pos), (6, rTable), (8, rClose)])], loops := [], cuts := [] }
theorem closeTop_c (nB : Nat) (B : Nat → Int) (nO : Nat) (O : Nat → Int) (W G L len : Int)  : FnC prog 7 [sys nB B nO O W G L, dI len] (.tup [.agg [lstD (closS nB B nO O W G L len false), lstD (closS nB B nO O W G L len true)], dI (closErr nB B nO O W G L len)]) := by
  refine FnC_owed hmix (A7_closeTop_c nB B nO O W G L len) (V := VT.need
        [FnC prog (22 : Nat)
            [DV.agg
                [DV.lst nB [fun (i : Nat) => DV.val (Value.int IntKind.i64 (B i))],
                  DV.lst nO [fun (i : Nat) => DV.val (Value.int IntKind.i64 (O i))], DV.val (Value.int IntKind.i64 W),
                  DV.val (Value.int IntKind.i64 G), DV.val (Value.int IntKind.i64 L)],
              DV.val (Value.int IntKind.i64 len)]
            (DV.tup
              [DV.agg
                  [DV.val (Value.int IntKind.i64 (↑(catU nB B nO O W G L) : Int)),
                    DV.lst (catN nB B nO O W G L)
                      [fun (i : Nat) => DV.val (Value.int IntKind.i64 (pLen nB B nO O i)), fun (i : Nat) =>
                        DV.val (Value.int IntKind.i64 (pCode nB i)), fun (i : Nat) =>
                        DV.val (Value.bool (decide (nB ≤ i)))]],
                DV.val (Value.int IntKind.i64 (measE nB B nO O W G L len))])]
        (VT.ite (measE nB B nO O W G L len != (0 : Int))
          (VT.done
            [List.length (closS nB B nO O W G L len false) = (0 : Nat),
              List.length (closS nB B nO O W G L len true) = (0 : Nat),
              measE nB B nO O W G L len = closErr nB B nO O W G L len])
          (VT.need
            [(0 : Int) ≤ len ∧ (0 : Int) < (↑(catU nB B nO O W G L) : Int) ∧ len ≤ (9223372036854775807 : Int),
              FnC prog (24 : Nat)
                [DV.agg
                    [DV.val (Value.int IntKind.i64 (↑(catU nB B nO O W G L) : Int)),
                      DV.lst (catN nB B nO O W G L)
                        [fun (i : Nat) => DV.val (Value.int IntKind.i64 (pLen nB B nO O i)), fun (i : Nat) =>
                          DV.val (Value.int IntKind.i64 (pCode nB i)), fun (i : Nat) =>
                          DV.val (Value.bool (decide (nB ≤ i)))]],
                  DV.val (Value.int IntKind.i64 (len / (↑(catU nB B nO O W G L) : Int)))]
                (DV.lst (Int.toNat (len / (↑(catU nB B nO O W G L) : Int) + (1 : Int)))
                  [fun (k : Nat) =>
                    DV.val
                      (Value.int IntKind.i64
                        (tabL
                          (plX (Int.toNat (↑(catU nB B nO O W G L) : Int)) (pLen nB B nO O) (pCode nB)
                            (catN nB B nO O W G L))
                          k))]),
              FnC prog (23 : Nat)
                [DV.agg
                    [DV.val (Value.int IntKind.i64 (↑(catU nB B nO O W G L) : Int)),
                      DV.lst (catN nB B nO O W G L)
                        [fun (i : Nat) => DV.val (Value.int IntKind.i64 (pLen nB B nO O i)), fun (i : Nat) =>
                          DV.val (Value.int IntKind.i64 (pCode nB i)), fun (i : Nat) =>
                          DV.val (Value.bool (decide (nB ≤ i)))]],
                  DV.lst (Int.toNat (len / (↑(catU nB B nO O W G L) : Int) + (1 : Int)))
                    [fun (k : Nat) =>
                      DV.val
                        (Value.int IntKind.i64
                          (tabL
                            (plX (Int.toNat (↑(catU nB B nO O W G L) : Int)) (pLen nB B nO O) (pCode nB)
                              (catN nB B nO O W G L))
                            k))],
                  DV.val (Value.int IntKind.i64 len)]
                (DV.tup
                  [DV.agg
                      [DV.lst
                          (List.length
                            (closL (Int.toNat (↑(catU nB B nO O W G L) : Int)) (catN nB B nO O W G L) (pLen nB B nO O)
                              (pCode nB)
                              (tabL
                                (plX (Int.toNat (↑(catU nB B nO O W G L) : Int)) (pLen nB B nO O) (pCode nB)
                                  (catN nB B nO O W G L)))
                              (fun (i : Nat) => decide (nB ≤ i)) false len))
                          [fun (i : Nat) =>
                            DV.val
                              (Value.int IntKind.i64
                                (List.getD
                                  (closL (Int.toNat (↑(catU nB B nO O W G L) : Int)) (catN nB B nO O W G L) (pLen nB B nO O)
                                    (pCode nB)
                                    (tabL
                                      (plX (Int.toNat (↑(catU nB B nO O W G L) : Int)) (pLen nB B nO O) (pCode nB)
                                        (catN nB B nO O W G L)))
                                    (fun (i : Nat) => decide (nB ≤ i)) false len)
                                  i (0 : Int)))],
                        DV.lst
                          (List.length
                            (closL (Int.toNat (↑(catU nB B nO O W G L) : Int)) (catN nB B nO O W G L) (pLen nB B nO O)
                              (pCode nB)
                              (tabL
                                (plX (Int.toNat (↑(catU nB B nO O W G L) : Int)) (pLen nB B nO O) (pCode nB)
                                  (catN nB B nO O W G L)))
                              (fun (i : Nat) => decide (nB ≤ i)) true len))
                          [fun (i : Nat) =>
                            DV.val
                              (Value.int IntKind.i64
                                (List.getD
                                  (closL (Int.toNat (↑(catU nB B nO O W G L) : Int)) (catN nB B nO O W G L) (pLen nB B nO O)
                                    (pCode nB)
                                    (tabL
                                      (plX (Int.toNat (↑(catU nB B nO O W G L) : Int)) (pLen nB B nO O) (pCode nB)
                                        (catN nB B nO O W G L)))
                                    (fun (i : Nat) => decide (nB ≤ i)) true len)
                                  i (0 : Int)))]],
                    DV.val
                      (Value.bool
                        (okC (Int.toNat (↑(catU nB B nO O W G L) : Int))
                          (tabL
                            (plX (Int.toNat (↑(catU nB B nO O W G L) : Int)) (pLen nB B nO O) (pCode nB)
                              (catN nB B nO O W G L)))
                          len))])]
            (VT.ite
              (!okC (Int.toNat (↑(catU nB B nO O W G L) : Int))
                  (tabL
                    (plX (Int.toNat (↑(catU nB B nO O W G L) : Int)) (pLen nB B nO O) (pCode nB) (catN nB B nO O W G L)))
                  len)
              (VT.done
                [List.length (closS nB B nO O W G L len false) = (0 : Nat),
                  List.length (closS nB B nO O W G L len true) = (0 : Nat), (13 : Int) = closErr nB B nO O W G L len])
              (VT.done
                [List.length
                      (closL (Int.toNat (↑(catU nB B nO O W G L) : Int)) (catN nB B nO O W G L) (pLen nB B nO O) (pCode nB)
                        (tabL
                          (plX (Int.toNat (↑(catU nB B nO O W G L) : Int)) (pLen nB B nO O) (pCode nB)
                            (catN nB B nO O W G L)))
                        (fun (i : Nat) => decide (nB ≤ i)) false len) =
                    List.length (closS nB B nO O W G L len false),
                  ∀ (i : Nat),
                    i < List.length (closS nB B nO O W G L len false) →
                      List.getD
                          (closL (Int.toNat (↑(catU nB B nO O W G L) : Int)) (catN nB B nO O W G L) (pLen nB B nO O)
                            (pCode nB)
                            (tabL
                              (plX (Int.toNat (↑(catU nB B nO O W G L) : Int)) (pLen nB B nO O) (pCode nB)
                                (catN nB B nO O W G L)))
                            (fun (i : Nat) => decide (nB ≤ i)) false len)
                          i (0 : Int) =
                        List.getD (closS nB B nO O W G L len false) i (0 : Int),
                  List.length
                      (closL (Int.toNat (↑(catU nB B nO O W G L) : Int)) (catN nB B nO O W G L) (pLen nB B nO O) (pCode nB)
                        (tabL
                          (plX (Int.toNat (↑(catU nB B nO O W G L) : Int)) (pLen nB B nO O) (pCode nB)
                            (catN nB B nO O W G L)))
                        (fun (i : Nat) => decide (nB ≤ i)) true len) =
                    List.length (closS nB B nO O W G L len true),
                  ∀ (i : Nat),
                    i < List.length (closS nB B nO O W G L len true) →
                      List.getD
                          (closL (Int.toNat (↑(catU nB B nO O W G L) : Int)) (catN nB B nO O W G L) (pLen nB B nO O)
                            (pCode nB)
                            (tabL
                              (plX (Int.toNat (↑(catU nB B nO O W G L) : Int)) (pLen nB B nO O) (pCode nB)
                                (catN nB B nO O W G L)))
                            (fun (i : Nat) => decide (nB ≤ i)) true len)
                          i (0 : Int) =
                        List.getD (closS nB B nO O W G L len true) i (0 : Int),
                  (0 : Int) = closErr nB B nO O W G L len]))))) (by kernel_rfl) ?_
  simp only [VT.holds, AllT, imp_self, implies_true, and_true, true_and, toNat_succ, toNat_add2, toNat_zero', Int.toNat_natCast, Bool.if_true_left, Bool.if_false_right, Bool.decide_eq_true, Bool.or_eq_true, Bool.or_eq_false_iff, Bool.and_eq_true, Bool.and_eq_false_imp, Bool.not_eq_true', Bool.not_eq_false', Bool.not_not, bne_iff_ne, bne_eq_false_iff_eq, beq_iff_eq, beq_eq_false_iff_ne, decide_eq_true_eq, decide_eq_false_iff_not, ne_eq]
  refine ⟨measured_c nB B nO O W G L len, fun h => by rw [closS, closS, closErr, if_neg h, if_neg h, if_neg h]; exact ⟨rfl, rfl, rfl⟩, fun h => ?_⟩
  obtain ⟨h1, h2, h3⟩ := meas_ok h
  obtain ⟨s1, s2, s3, sB, sO, _, _⟩ := sys_ok h1
  have hu := unitP_bd s1 sB sO
  obtain ⟨q0, q1⟩ := quo_bd hu.1 h2 h3
  have eU : catU nB B nO O W G L = unitP nB B nO O (nB + nO) := by rw [catU, if_pos h1]
  have eN : catN nB B nO O W G L = nB + nO := by rw [catN, if_pos h1]
  have hT : tabL (plX (unitP nB B nO O (nB + nO)) (pLen nB B nO O) (pCode nB) (nB + nO)) = tabS nB B nO O := rfl
  have eF : closS nB B nO O W G L len false = closL (unitP nB B nO O (nB + nO)) (nB + nO) (pLen nB B nO O) (pCode nB) (tabS nB B nO O) (fun i => decide (nB ≤ i)) false len := by rw [closS, if_pos h]
  have eT : closS nB B nO O W G L len true = closL (unitP nB B nO O (nB + nO)) (nB + nO) (pLen nB B nO O) (pCode nB) (tabS nB B nO O) (fun i => decide (nB ≤ i)) true len := by rw [closS, if_pos h]
  have htc := table_c (unitP nB B nO O (nB + nO)) (nB + nO) (pLen nB B nO O) (pCode nB) (fun i => decide (nB ≤ i)) _ hu.1 (by omega) (fun i hi => pLen_bd sB sO hi) (fun i hi => unitsP_pos sB sO hi) (fun i _ => pCode_bd nB i) q0 q1
  rw [hT] at htc
  simp only [eU, eN, hT, eF, eT, closErr, if_pos h]
  refine ⟨⟨⟨h2, by omega, by omega⟩, htc, close_c _ _ _ _ _ _ _ _ hu.1 hu.2 (by omega) (tab_sys sB sO) (fun i hi => pLen_bd sB sO hi) h2 h3 rfl⟩, fun hk => ?_, fun hk => ?_⟩
  · rw [if_neg (by rw [hk]; simp), closL, closL, hk]
    exact ⟨rfl, rfl, rfl⟩
  · rw [if_pos hk]
    exact ⟨trivial, fun _ _ => trivial, trivial, fun _ _ => trivial, rfl⟩
noncomputable def A11_least_c (nB : Nat) (B : Nat → Int) (nO : Nat) (O : Nat → Int) (W G L len : Int) : Ann := { orc := [(1, [(5, rUnitR), (6, .pos)]), (3, [(2, rTabR)])], loops := [], cuts := [] }
theorem least_c (nB : Nat) (B : Nat → Int) (nO : Nat) (O : Nat → Int) (W G L len : Int) (hs : sysE nB B nO O W G L = 0) (hl : lenR nB B nO O len = 0) : FnC prog 11 [sys nB B nO O W G L, dI len] (dI (leastR nB B nO O len)) := by
  refine FnC_owed hmix (A11_least_c nB B nO O W G L len) (V := VT.need
        [(!decide (len < (0 : Int))) = true → (!decide (len < (0 : Int))) = true,
          (!decide (len < (0 : Int))) = true →
            FnC prog (27 : Nat)
              [DV.agg
                  [DV.lst nB [fun (i : Nat) => DV.val (Value.int IntKind.i64 (B i))],
                    DV.lst nO [fun (i : Nat) => DV.val (Value.int IntKind.i64 (O i))], DV.val (Value.int IntKind.i64 W),
                    DV.val (Value.int IntKind.i64 G), DV.val (Value.int IntKind.i64 L)]]
              (DV.val (Value.int IntKind.i64 (↑(unitR nB B O (nB + nO)) : Int))),
          (!decide (len < (0 : Int))) = true → (!decide (len < (0 : Int))) = true,
          (!decide (len < (0 : Int))) = true → (!decide (len < (0 : Int))) = true,
          (!decide (len < (0 : Int))) = true → (0 : Int) ≤ len ∧ (0 : Int) < (↑(unitR nB B O (nB + nO)) : Int),
          (!decide (len < (0 : Int))) = true → (!decide (len < (0 : Int))) = true,
          decide (len < (0 : Int)) = false → (!decide (len < (0 : Int))) = true]
        (VT.ite (if decide (len < (0 : Int)) = true then true else len % (↑(unitR nB B O (nB + nO)) : Int) != (0 : Int))
          (VT.done [(-1 : Int) = leastR nB B nO O len])
          (VT.need
            [FnC prog (28 : Nat)
                [DV.agg
                    [DV.lst nB [fun (i : Nat) => DV.val (Value.int IntKind.i64 (B i))],
                      DV.lst nO [fun (i : Nat) => DV.val (Value.int IntKind.i64 (O i))], DV.val (Value.int IntKind.i64 W),
                      DV.val (Value.int IntKind.i64 G), DV.val (Value.int IntKind.i64 L)],
                  DV.val (Value.int IntKind.i64 len)]
                (DV.lst (Int.toNat (len / (↑(unitR nB B O (nB + nO)) : Int) + (1 : Int)))
                  [fun (k : Nat) => DV.val (Value.int IntKind.i64 (tabRS nB B nO O k))])]
            (VT.need
              [i64In ((↑(Int.toNat (len / (↑(unitR nB B O (nB + nO)) : Int) + (1 : Int))) : Int) - (1 : Int)),
                (0 : Int) ≤ (↑(Int.toNat (len / (↑(unitR nB B O (nB + nO)) : Int) + (1 : Int))) : Int) - (1 : Int) ∧
                  (↑(Int.toNat (len / (↑(unitR nB B O (nB + nO)) : Int) + (1 : Int))) : Int) - (1 : Int) <
                    (↑(Int.toNat (len / (↑(unitR nB B O (nB + nO)) : Int) + (1 : Int))) : Int)]
              (VT.done
                [tabRS nB B nO O
                      (Int.toNat ((↑(Int.toNat (len / (↑(unitR nB B O (nB + nO)) : Int) + (1 : Int))) : Int) - (1 : Int))) =
                    leastR nB B nO O len]))))) (by kernel_rfl) ?_
  simp only [VT.holds, AllT, imp_self, implies_true, and_true, true_and, toNat_succ, toNat_add2, toNat_zero', Int.toNat_natCast, Bool.if_true_left, Bool.if_false_right, Bool.decide_eq_true, Bool.or_eq_true, Bool.or_eq_false_iff, Bool.and_eq_true, Bool.and_eq_false_imp, Bool.not_eq_true', Bool.not_eq_false', Bool.not_not, bne_iff_ne, bne_eq_false_iff_eq, beq_iff_eq, beq_eq_false_iff_ne, decide_eq_true_eq, decide_eq_false_iff_not, ne_eq]
  obtain ⟨s1, s2, s3, sB, sO, _, _⟩ := sys_ok hs
  have hu := unitR_bd s1 sB sO
  have hlen : 0 ≤ len ∧ len ≤ 4000 * (unitR nB B O (nB + nO) : Int) := by
    unfold lenR at hl
    split at hl
    · cases hl
    · split at hl
      · cases hl
      · omega
  obtain ⟨q0, q1⟩ := quo_bd hu.1 hlen.1 hlen.2
  refine ⟨⟨fun _ => unitR_c nB B nO O W G L s2 s3 sB sO, fun _ => ⟨hlen.1, by omega⟩⟩, fun h => ?_, fun ⟨_, h⟩ => ⟨tableR_c nB B nO O W G L len hs hl, ⟨by unfold i64In; omega, by omega, by omega⟩, ?_⟩⟩
  · rw [leastR, if_neg]
    intro hx
    rcases h with h | h
    · omega
    · exact h hx
  · rw [leastR, if_pos h]
    congr 1
    show _ = (len / (unitR nB B O (nB + nO) : Int)).toNat
    omega
noncomputable def A13_code_c (a b : Int) : Ann := { orc := [], loops := [], cuts := [] }
theorem code_c (a b : Int) (ha : -1000000 ≤ a) (ha2 : a ≤ 1000000) (hb : -1000000 ≤ b) (hb2 : b ≤ 1000000) : FnC prog 13 [dP a b] (dI (10000 * a + b)) := by
  refine FnC_owed hmix (A13_code_c a b) (V := VT.need [i64In ((10000 : Int) * a), i64In ((10000 : Int) * a + b)]
        (VT.done [(10000 : Int) * a + b = (10000 : Int) * a + b])) (by kernel_rfl) ?_
  simp only [VT.holds, AllT, imp_self, implies_true, and_true, true_and, toNat_succ, toNat_add2, toNat_zero', Int.toNat_natCast, Bool.if_true_left, Bool.if_false_right, Bool.decide_eq_true, Bool.or_eq_true, Bool.or_eq_false_iff, Bool.and_eq_true, Bool.and_eq_false_imp, Bool.not_eq_true', Bool.not_eq_false', Bool.not_not, bne_iff_ne, bne_eq_false_iff_eq, beq_iff_eq, beq_eq_false_iff_ne, decide_eq_true_eq, decide_eq_false_iff_not, ne_eq]
  exact ⟨by unfold i64In; omega, by unfold i64In; omega⟩
end Go.Abs
