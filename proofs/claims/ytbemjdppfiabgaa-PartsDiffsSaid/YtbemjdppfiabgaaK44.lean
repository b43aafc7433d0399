/- Contracts. Contracts. Contracts. -/
import Derived.Test.YtbemjdppfiabgaaK39
import Derived.Test.YtbemjdppfiabgaaAbsXN
import Derived.Test.YtbemjdppfiabgaaK42
section
section
set_option linter.unusedVariables false
set_option linter.unusedSimpArgs false
set_option maxRecDepth 100000
namespace Go.Abs
open Go
abbrev pmD (r : List Int → Bool) : DV := .cptr [.mp (.ints 7) r (fun _ => dB true)]
abbrev plC (r : List Int → Bool) : DV := .clo 156 [pmD r]
theorem ixF_any (p : Nat → Bool) : ∀ n, decide (0 ≤ ixF p n) = anyN p n
  | 0 => rfl
  | n + 1 => by
    have ih := ixF_any p n
    rw [anyN, ← ih, ixF]
    by_cases h : 0 ≤ ixF p n
    · rw [if_pos h, decide_eq_true h, Bool.or_true]
    · rw [if_neg h, decide_eq_false h, Bool.or_false]
      cases e : p n with
      | true => rw [if_pos rfl, decide_eq_true (by omega)]
      | false => rw [if_neg (by decide)]; rfl
/-- What is left of a list. -/
def lf (q : Nat → Bool) (n : Nat) (D : Nat → Int) (j : Nat) : Int := if j < flN q n then D (flI q n j) else 0
abbrev objJ (o : Option AObj) (c j : Nat) : Int := match o with
  | some (.row _ cols) => match cols[c]? with
    | some f => iOf (f j)
    | none => 0
  | _ => 0
theorem ixF_is {p : Nat → Bool} : ∀ {n : Nat}, ixF p n ≠ -1 → ∃ i : Nat, ixF p n = i ∧ i < n ∧ p i = true ∧ ∀ j, j < i → p j = false := by
  intro n h
  have h1 := ixF_bd p n
  have h0 : decide (0 ≤ ixF p n) = true := decide_eq_true (by omega)
  rw [ixF_any] at h0
  obtain ⟨j, hj, hp⟩ := anyN_iff.1 h0
  have key : ∀ m : Nat, (∃ j, j < m ∧ p j = true) → ∃ i, i < m ∧ p i = true ∧ ∀ j, j < i → p j = false := fun m => by
    induction m with
    | zero => rintro ⟨j, hj, _⟩; omega
    | succ m ih =>
      rintro ⟨j, hj, hp⟩
      by_cases hx : ∃ j, j < m ∧ p j = true
      · obtain ⟨i, a, b, c⟩ := ih hx; exact ⟨i, by omega, b, c⟩
      · have : j = m := by
          rcases Nat.lt_or_ge j m with h2 | h2
          · exact absurd ⟨j, h2, hp⟩ hx
          · omega
        subst this
        refine ⟨j, by omega, hp, fun k hk => ?_⟩
        cases e : p k with
        | false => rfl
        | true => exact absurd ⟨k, hk, e⟩ hx
  obtain ⟨i, a, b, c⟩ := key n ⟨j, hj, hp⟩
  exact ⟨i, ixF_at c b a, a, b, c⟩
theorem ixF_no {p : Nat → Bool} {n : Nat} (h : ixF p n = -1) : ∀ j, j < n → p j = false := fun j hj => by
  cases e : p j with
  | false => rfl
  | true =>
    have : anyN p n = true := anyN_iff.2 ⟨j, hj, e⟩
    rw [← ixF_any, h] at this
    exact absurd this (by decide)
theorem flN_all {q : Nat → Bool} : ∀ {n : Nat}, (∀ j, j < n → q j = true) → flN q n = n
  | 0, _ => rfl
  | n + 1, h => by rw [flN, flN_all (fun j hj => h j (by omega)), if_pos (h n (Nat.lt_succ_self n))]
theorem flI_all {q : Nat → Bool} : ∀ {n k : Nat}, (∀ j, j < n → q j = true) → k < n → flI q n k = k
  | n + 1, k, h, hk => by
    rw [flI, flN_all (fun j hj => h j (by omega))]
    by_cases e : n = k
    · rw [if_pos ⟨h n (Nat.lt_succ_self n), e⟩, e]
    · rw [if_neg (fun h' => e h'.2), flI_all (fun j hj => h j (by omega)) (by omega)]
structure DlJ (q : Nat → Bool) (n : Nat) (D : Nat → Nat → Int) (j : Nat) (d : Nat → Nat → Int) : Prop where
  le : j ≤ n
  lo : ∀ c k, c < 7 → k < flN q j → d c k = D c (flI q j k)
  hi : ∀ c k, c < 7 → j ≤ k → d c k = D c k
section
variable {q : Nat → Bool} {n : Nat} {D : Nat → Nat → Int}
theorem DlJ.congr {j : Nat} {d d' : Nat → Nat → Int} (e : ∀ c k, c < 7 → d c k = d' c k) (h : DlJ q n D j d) : DlJ q n D j d' :=
  ⟨h.le, fun c k hc hk => (e c k hc).symm.trans (h.lo c k hc hk), fun c k hc hk => (e c k hc).symm.trans (h.hi c k hc hk)⟩
theorem at7 (n : Nat) (F : Nat → Nat → Int) : ∀ c k, c < 7 → F c k = objJ (some (.row n (colF7 F))) c k
  | 0, _, _ => rfl
  | 1, _, _ => rfl
  | 2, _, _ => rfl
  | 3, _, _ => rfl
  | 4, _, _ => rfl
  | 5, _, _ => rfl
  | 6, _, _ => rfl
theorem dj_start {i : Nat} (hi : i < n) (hq : q i = false) (hb : ∀ j, j < i → q j = true) : flN q (i + 1) = i ∧ DlJ q n D (i + 1) D := by
  have h1 : flN q (i + 1) = i := by rw [flN_no (by rw [hq]; decide), flN_all hb]
  refine ⟨h1, hi, fun c k _ hk => ?_, fun c k _ _ => rfl⟩
  rw [h1] at hk
  rw [flI_no (by rw [hq]; decide), flI_all hb hk]
theorem dj_keep {j : Nat} {d : Nat → Nat → Int} (h : DlJ q n D j d) (hj : j < n) (hlt : flN q j < j) (hq : q j = true) :
    DlJ q n D (j + 1) (fun c k => if k = flN q j then d c j else d c k) := by
  have hs := flN_yes hq
  refine ⟨hj, fun c k hc hk => ?_, fun c k hc hk => ?_⟩
  · have h0 := h.hi c j hc (Nat.le_refl _)
    rw [flI]
    by_cases e : k = flN q j
    · rw [if_pos e, if_pos ⟨hq, e.symm⟩]; exact h0
    · rw [if_neg e, if_neg (fun h' => e h'.2.symm)]
      exact h.lo c k hc (by omega)
  · have e : k ≠ flN q j := by omega
    rw [if_neg e]
    exact h.hi c k hc (by omega)
theorem dj_drop {j : Nat} {d : Nat → Nat → Int} (h : DlJ q n D j d) (hj : j < n) (hq : q j = false) : DlJ q n D (j + 1) d := by
  have hn : ¬ q j = true := by rw [hq]; decide
  refine ⟨hj, fun c k hc hk => ?_, fun c k hc hk => h.hi c k hc (by omega)⟩
  rw [flN_no hn] at hk
  rw [flI_no hn]
  exact h.lo c k hc hk
end
def woQ (l m : List (List Int)) (j : Nat) : Bool := !inB m (sv (col l) j)
theorem lsOf_fl (A : Nat → List Int) (p : List Int → Bool) : ∀ n, (lsOf n A).filter p = lsOf (flN (fun j => p (A j)) n) fun k => A (flI (fun j => p (A j)) n k)
  | 0 => rfl
  | n + 1 => by
    rw [lsOf_succ, List.filter_append, lsOf_fl A p n]
    by_cases h : p (A n) = true
    · rw [flN_yes (p := fun j => p (A j)) h, lsOf_succ, List.filter_cons_of_pos h, List.filter_nil]
      refine congr (congrArg _ (lsOf_congr fun k hk => ?_)) ?_
      · rw [flI, if_neg (by omega)]
      · rw [flI, if_pos ⟨h, rfl⟩]
    · rw [flN_no (p := fun j => p (A j)) h, List.filter_cons_of_neg h, List.filter_nil, List.append_nil]
      exact lsOf_congr fun k hk => by rw [flI_no (p := fun j => p (A j)) h]
theorem woL_is {l m : List (List Int)} (h7 : ∀ x ∈ l, x.length = 7) : woL l m = lsOf (flN (woQ l m) l.length) fun k => sv (col l) (flI (woQ l m) l.length k) := by
  have e := lsOf_fl (sv (col l)) (fun p => !inB m p) l.length
  rw [svc_self h7] at e
  exact e
theorem woL_len {l m : List (List Int)} (h7 : ∀ x ∈ l, x.length = 7) : flN (woQ l m) l.length = (woL l m).length := by
  have := congrArg List.length (woL_is (m := m) h7)
  rw [lsOf_len] at this
  exact this.symm
theorem woL_col {l m : List (List Int)} (h7 : ∀ x ∈ l, x.length = 7) : ∀ (c : Nat), c < 7 → ∀ j, j < (woL l m).length → lf (woQ l m) l.length (col l c) j = col (woL l m) c j := fun c hc j h => by
  rw [← woL_len h7] at h
  have e : (woL l m).getD j [] = sv (col l) (flI (woQ l m) l.length j) := by
    rw [woL_is h7, lsOf_get h]
  rw [lf, if_pos h]
  show _ = ((woL l m).getD j []).getD c 0
  rw [e]
  match c, hc with
  | 0, _ => rfl
  | 1, _ => rfl
  | 2, _ => rfl
  | 3, _ => rfl
  | 4, _ => rfl
  | 5, _ => rfl
  | 6, _ => rfl
noncomputable def A156_inC_c (k a b c d e f : Int) (r : List Int → Bool) : Ann := { orc := [], loops := [], cuts := [] }
theorem inC_c (k a b c d e f : Int) (r : List Int → Bool)  : FnC prog 156 [dP k a b c d e f, pmD r] (dB (r [k, a, b, c, d, e, f])) := by
  refine FnC_owed hmix (A156_inC_c k a b c d e f r) (V := .done [(if r [k, a, b, c, d, e, f] = true then true else false) = r [k, a, b, c, d, e, f]]) (by kernel_rfl) ?_
  simp only [VT.holds, AllT, Sq]
  exact Bool.and_true _
noncomputable def A176_indexP_c (n : Nat) (D : Nat → Nat → Int) (r : List Int → Bool) : Ann := { orc := [(4, [(5, .res fun q => dB (r [fI 0 (arg q 0), fI 1 (arg q 0), fI 2 (arg q 0), fI 3 (arg q 0), fI 4 (arg q 0), fI 5 (arg q 0), fI 6 (arg q 0)]))])], loops := [(0, { ι := Nat, keep := [0, 1, 7], boxes := [], ts := fun _ i => [(8, dI (i : Int))], inv := fun _ i => i ≤ n ∧ ∀ j, j < i → r (sv D j) = false, mu := fun _ i => n - i, rd := fun _ σ => (iOf (σ.get 8)).toNat })], cuts := [] }
noncomputable abbrev indexP_cr0 (n : Nat) (D : Nat → Nat → Int) (r : List Prop) : List Prop := (n = n) :: (∀ (i : Nat), i < n → D (0:Nat) i = D (0:Nat) i) :: (∀ (i : Nat), i < n → D (1:Nat) i = D (1:Nat) i) :: (∀ (i : Nat), i < n → D (2:Nat) i = D (2:Nat) i) :: (∀ (i : Nat), i < n → D (3:Nat) i = D (3:Nat) i) :: (∀ (i : Nat), i < n → D (4:Nat) i = D (4:Nat) i) :: (∀ (i : Nat), i < n → D (5:Nat) i = D (5:Nat) i) :: (∀ (i : Nat), i < n → D (6:Nat) i = D (6:Nat) i) :: r
theorem indexP_c (n : Nat) (D : Nat → Nat → Int) (r : List Int → Bool) (hm : n ≤ 1000000) : FnC prog 176 [.lst n (colF7 D), plC r] (dI (ixF (fun j => r (sv D j)) n)) := by
  refine FnC_owed hmix (A176_indexP_c n D r) (V := .loop Nat (fun a => a ≤ n ∧ ∀ (j : Nat), j < a → r (sv D j) = false) (0:Int).toNat (((0:Int) = (↑(0:Int).toNat : Int)) :: (indexP_cr0 n D [∀ (l : List Int), r l = r l, ∀ (l : List Int), r l = true → true = true, (n:Int) = (n:Int)])) fun i => .ite (decide ((i:Int) < (n:Int))) (.need [(0:Int) ≤ (i:Int) ∧ (i:Int) < (n:Int), FnC prog (156 : FuncId) [.val (.agg (Array.mk [.int .i64 (D 0 (i:Int).toNat), .int .i64 (D 1 (i:Int).toNat), .int .i64 (D 2 (i:Int).toNat), .int .i64 (D 3 (i:Int).toNat), .int .i64 (D 4 (i:Int).toNat), .int .i64 (D 5 (i:Int).toNat), .int .i64 (D 6 (i:Int).toNat)])), .cptr [DV.mp (KS.ints 7) (fun (a : List Int) => r a) fun (x : List Int) => (dB true)]] ((dB (r [D 0 (i:Int).toNat, D 1 (i:Int).toNat, D 2 (i:Int).toNat, D 3 (i:Int).toNat, D 4 (i:Int).toNat, D 5 (i:Int).toNat, D 6 (i:Int).toNat])))] (.ite (r [D 0 (i:Int).toNat, D 1 (i:Int).toNat, D 2 (i:Int).toNat, D 3 (i:Int).toNat, D 4 (i:Int).toNat, D 5 (i:Int).toNat, D 6 (i:Int).toNat]) (.done [(i:Int) = ixF (fun j => r (sv D j)) n]) (.need [i64In ((i:Int) + 1)] (.done (((i:Int) + 1 = (↑((i:Int) + 1).toNat : Int)) :: (indexP_cr0 n D [∀ (l : List Int), r l = r l, ∀ (l : List Int), r l = true → true = true, (n:Int) = (n:Int), Int.toNat ((i:Int) + 1) ≤ n ∧ ∀ (j : Nat), j < ((i:Int) + 1).toNat → r (sv D j) = false, n - ((i:Int) + 1).toNat < n - i])))))) (.done [(-1:Int) = ixF (fun j => r (sv D j)) n])) (by kernel_rfl) ?_
  simp only [VT.holds, AllT, indexP_cr0, Sq]
  refine ⟨rfl, ⟨Nat.zero_le _, fun j hj => absurd hj (Nat.not_lt_zero j)⟩, fun i ⟨hi, hb'⟩ => ⟨fun hlt => ?_, fun hge => ?_⟩⟩
  · have hlt : i < n := by omega
    refine ⟨⟨by omega, inC_c _ _ _ _ _ _ _ r⟩, fun h => ?_, fun h => ⟨by unfold i64In; omega, by omega, ⟨by omega, fun j hj => ?_⟩, by omega⟩⟩
    · exact (ixF_at (p := fun j => r (sv D j)) hb' h hlt).symm
    · rcases Nat.lt_or_ge j i with h9 | h9
      · exact hb' j h9
      · obtain rfl : j = i := by omega
        exact h
  · obtain rfl : i = n := by omega
    exact (ixF_none (p := fun j => r (sv D j)) hb').symm
noncomputable def A154_deleteP_c (n : Nat) (D : Nat → Nat → Int) (r : List Int → Bool) : Ann := { orc := [(1, [(2, .res fun _ => dI (ixF (fun j => r (sv D j)) n))]), (8, [(2, .res fun q => dB (r [fI 0 (arg q 0), fI 1 (arg q 0), fI 2 (arg q 0), fI 3 (arg q 0), fI 4 (arg q 0), fI 5 (arg q 0), fI 6 (arg q 0)]))])], loops := [(0, { ι := Nat × (Nat → Nat → Int), keep := [0, 1], boxes := [], ts := fun _ i => [(5, dI ((flN (fun j => !r (sv D j)) i.1 : Nat) : Int)), (6, dI (i.1 : Int))], mo := fun _ i => [(0, none, .row n (colF7 i.2))], inv := fun _ i => DlJ (fun j => !r (sv D j)) n D i.1 i.2 ∧ flN (fun j => !r (sv D j)) i.1 < i.1, mu := fun _ i => n - i.1, rd := fun _ σ => ((iOf (σ.get 6)).toNat, fun c j => objJ (σ.obj (mid (σ.get 0))) c j) })], cuts := [] }
theorem deleteP_c (n : Nat) (D : Nat → Nat → Int) (r : List Int → Bool) (hm : n ≤ 1000000) : FnW prog 154 [.row n (colF7 D) (colF7 fun c => lf (fun j => !r (sv D j)) n (D c)), .arg (plC r)] (.row 7 0 0 (flN (fun j => !r (sv D j)) n)) := by
  refine FnW_owed hmix (A154_deleteP_c n D r) (V := VT.need
        [n ≤ n,
          FnC prog 176
            [DV.lst n
                [fun (i : Nat) => DV.val (Value.int IntKind.i64 (D 0 i)), fun (i : Nat) =>
                  DV.val (Value.int IntKind.i64 (D 1 i)), fun (i : Nat) =>
                  DV.val (Value.int IntKind.i64 (D 2 i)), fun (i : Nat) =>
                  DV.val (Value.int IntKind.i64 (D 3 i)), fun (i : Nat) =>
                  DV.val (Value.int IntKind.i64 (D 4 i)), fun (i : Nat) =>
                  DV.val (Value.int IntKind.i64 (D 5 i)), fun (i : Nat) =>
                  DV.val (Value.int IntKind.i64 (D 6 i))],
              DV.clo (156 : FuncId)
                [DV.cptr
                    [DV.mp (KS.ints 7) (fun (a : List Int) => r a) fun (x : List Int) => DV.val (Value.bool true)]]]
            (DV.val (Value.int IntKind.i64 (ixF (fun (j : Nat) => r (sv D j)) n)))]
        (VT.ite (ixF (fun (j : Nat) => r (sv D j)) n == (-1:Int))
          (VT.done
            [n ≤ n, ∀ i < n, D 0 i = lf (fun (j : Nat) => !r (sv D j)) n (D 0) i,
              ∀ i < n, D 1 i = lf (fun (j : Nat) => !r (sv D j)) n (D 1) i,
              ∀ i < n, D 2 i = lf (fun (j : Nat) => !r (sv D j)) n (D 2) i,
              ∀ i < n, D 3 i = lf (fun (j : Nat) => !r (sv D j)) n (D 3) i,
              ∀ i < n, D 4 i = lf (fun (j : Nat) => !r (sv D j)) n (D 4) i,
              ∀ i < n, D 5 i = lf (fun (j : Nat) => !r (sv D j)) n (D 5) i,
              ∀ i < n, D 6 i = lf (fun (j : Nat) => !r (sv D j)) n (D 6) i,
              n = flN (fun (j : Nat) => !r (sv D j)) n])
          (VT.need [i64In (ixF (fun (j : Nat) => r (sv D j)) n + 1)]
            (VT.loop (Nat × (Nat → Nat → Int))
              (fun (a : Nat × (Nat → Nat → Int)) =>
                DlJ (fun (j : Nat) => !r (sv D j)) n D a.fst a.2 ∧ flN (fun (j : Nat) => !r (sv D j)) a.fst < a.fst)
              (Int.toNat (ixF (fun (j : Nat) => r (sv D j)) n + 1), fun (c j : Nat) =>
                match
                  [fun (j : Nat) => DV.val (Value.int IntKind.i64 (D 0 j)), fun (j : Nat) =>
                      DV.val (Value.int IntKind.i64 (D 1 j)), fun (j : Nat) =>
                      DV.val (Value.int IntKind.i64 (D 2 j)), fun (j : Nat) =>
                      DV.val (Value.int IntKind.i64 (D 3 j)), fun (j : Nat) =>
                      DV.val (Value.int IntKind.i64 (D 4 j)), fun (j : Nat) =>
                      DV.val (Value.int IntKind.i64 (D 5 j)), fun (j : Nat) =>
                      DV.val (Value.int IntKind.i64 (D 6 j))][c]? with
                | some f => iOf (f j)
                | none => (0:Int))
              [ixF (fun (j : Nat) => r (sv D j)) n =
                  (↑(flN (fun (j : Nat) => !r (sv D j)) (ixF (fun (j : Nat) => r (sv D j)) n + 1).toNat) :
                    Int),
                ixF (fun (j : Nat) => r (sv D j)) n + 1 =
                  (↑(ixF (fun (j : Nat) => r (sv D j)) n + 1).toNat : Int),
                (0:Nat) = 0, n = n, ∀ (l : List Int), r l = r l, ∀ (l : List Int), r l = true → true = true,
                n = n, ∀ i < n, D 0 i = D 0 i,
                ∀ i < n, D 1 i = D 1 i, ∀ i < n, D 2 i = D 2 i,
                ∀ i < n, D 3 i = D 3 i, ∀ i < n, D 4 i = D 4 i,
                ∀ i < n, D 5 i = D 5 i, ∀ i < n, D 6 i = D 6 i]
              fun (i : Nat × (Nat → Nat → Int)) =>
              VT.ite (decide ((i.fst:Int) < (n:Int)))
                (VT.need
                  [(0:Int) ≤ (i.fst:Int) ∧ (i.fst:Int) < (n:Int), addN 0 (i.fst:Int).toNat < n]
                  (VT.need
                    [FnC prog (156 : FuncId)
                        [DV.val
                            (Value.agg
                              (Array.mk
                                [Value.int IntKind.i64 (i.2 0 (addN 0 (i.fst:Int).toNat)),
                                  Value.int IntKind.i64 (i.2 1 (addN 0 (i.fst:Int).toNat)),
                                  Value.int IntKind.i64 (i.2 2 (addN 0 (i.fst:Int).toNat)),
                                  Value.int IntKind.i64 (i.2 3 (addN 0 (i.fst:Int).toNat)),
                                  Value.int IntKind.i64 (i.2 4 (addN 0 (i.fst:Int).toNat)),
                                  Value.int IntKind.i64 (i.2 5 (addN 0 (i.fst:Int).toNat)),
                                  Value.int IntKind.i64 (i.2 6 (addN 0 (i.fst:Int).toNat))])),
                          DV.cptr
                            [DV.mp (KS.ints 7) (fun (a : List Int) => r a) fun (x : List Int) =>
                                DV.val (Value.bool true)]]
                        (DV.val
                          (Value.bool
                            (r
                              [i.2 0 (addN 0 (i.fst:Int).toNat),
                                i.2 1 (addN 0 (i.fst:Int).toNat),
                                i.2 2 (addN 0 (i.fst:Int).toNat),
                                i.2 3 (addN 0 (i.fst:Int).toNat),
                                i.2 4 (addN 0 (i.fst:Int).toNat),
                                i.2 5 (addN 0 (i.fst:Int).toNat),
                                i.2 6 (addN 0 (i.fst:Int).toNat)])))]
                    (VT.ite
                      (!r
                          [i.2 0 (addN 0 (i.fst:Int).toNat),
                            i.2 1 (addN 0 (i.fst:Int).toNat),
                            i.2 2 (addN 0 (i.fst:Int).toNat),
                            i.2 3 (addN 0 (i.fst:Int).toNat),
                            i.2 4 (addN 0 (i.fst:Int).toNat),
                            i.2 5 (addN 0 (i.fst:Int).toNat),
                            i.2 6 (addN 0 (i.fst:Int).toNat)])
                      (VT.need
                        [(0:Int) ≤ (↑(flN (fun (j : Nat) => !r (sv D j)) i.fst) : Int) ∧
                            (↑(flN (fun (j : Nat) => !r (sv D j)) i.fst) : Int) < (n:Int),
                          addN 0 (↑(flN (fun (j : Nat) => !r (sv D j)) i.fst) : Int).toNat < n]
                        (VT.need [i64In ((↑(flN (fun (j : Nat) => !r (sv D j)) i.fst) : Int) + 1)]
                          (VT.need [i64In ((i.fst:Int) + 1)]
                            (VT.done
                              [(↑(flN (fun (j : Nat) => !r (sv D j)) i.fst) : Int) + 1 =
                                  (↑(flN (fun (j : Nat) => !r (sv D j)) ((i.fst:Int) + 1).toNat) : Int),
                                (i.fst:Int) + 1 = (↑((i.fst:Int) + 1).toNat : Int),
                                (0:Nat) = 0, n = n, ∀ (l : List Int), r l = r l,
                                ∀ (l : List Int), r l = true → true = true, n = n,
                                ∀ (i_1 : Nat),
                                  i_1 < n →
                                    (if
                                          decide
                                              (i_1 =
                                                addN 0
                                                  (↑(flN (fun (j : Nat) => !r (sv D j)) i.fst) : Int).toNat) =
                                            true then
                                        i.2 0 (addN 0 (i.fst:Int).toNat)
                                      else i.2 0 i_1) =
                                      if
                                          decide
                                              (i_1 =
                                                addN 0
                                                  (↑(flN (fun (j : Nat) => !r (sv D j)) i.fst) : Int).toNat) =
                                            true then
                                        i.2 0 (addN 0 (i.fst:Int).toNat)
                                      else i.2 0 i_1,
                                ∀ (i_1 : Nat),
                                  i_1 < n →
                                    (if
                                          decide
                                              (i_1 =
                                                addN 0
                                                  (↑(flN (fun (j : Nat) => !r (sv D j)) i.fst) : Int).toNat) =
                                            true then
                                        i.2 1 (addN 0 (i.fst:Int).toNat)
                                      else i.2 1 i_1) =
                                      if
                                          decide
                                              (i_1 =
                                                addN 0
                                                  (↑(flN (fun (j : Nat) => !r (sv D j)) i.fst) : Int).toNat) =
                                            true then
                                        i.2 1 (addN 0 (i.fst:Int).toNat)
                                      else i.2 1 i_1,
                                ∀ (i_1 : Nat),
                                  i_1 < n →
                                    (if
                                          decide
                                              (i_1 =
                                                addN 0
                                                  (↑(flN (fun (j : Nat) => !r (sv D j)) i.fst) : Int).toNat) =
                                            true then
                                        i.2 2 (addN 0 (i.fst:Int).toNat)
                                      else i.2 2 i_1) =
                                      if
                                          decide
                                              (i_1 =
                                                addN 0
                                                  (↑(flN (fun (j : Nat) => !r (sv D j)) i.fst) : Int).toNat) =
                                            true then
                                        i.2 2 (addN 0 (i.fst:Int).toNat)
                                      else i.2 2 i_1,
                                ∀ (i_1 : Nat),
                                  i_1 < n →
                                    (if
                                          decide
                                              (i_1 =
                                                addN 0
                                                  (↑(flN (fun (j : Nat) => !r (sv D j)) i.fst) : Int).toNat) =
                                            true then
                                        i.2 3 (addN 0 (i.fst:Int).toNat)
                                      else i.2 3 i_1) =
                                      if
                                          decide
                                              (i_1 =
                                                addN 0
                                                  (↑(flN (fun (j : Nat) => !r (sv D j)) i.fst) : Int).toNat) =
                                            true then
                                        i.2 3 (addN 0 (i.fst:Int).toNat)
                                      else i.2 3 i_1,
                                ∀ (i_1 : Nat),
                                  i_1 < n →
                                    (if
                                          decide
                                              (i_1 =
                                                addN 0
                                                  (↑(flN (fun (j : Nat) => !r (sv D j)) i.fst) : Int).toNat) =
                                            true then
                                        i.2 4 (addN 0 (i.fst:Int).toNat)
                                      else i.2 4 i_1) =
                                      if
                                          decide
                                              (i_1 =
                                                addN 0
                                                  (↑(flN (fun (j : Nat) => !r (sv D j)) i.fst) : Int).toNat) =
                                            true then
                                        i.2 4 (addN 0 (i.fst:Int).toNat)
                                      else i.2 4 i_1,
                                ∀ (i_1 : Nat),
                                  i_1 < n →
                                    (if
                                          decide
                                              (i_1 =
                                                addN 0
                                                  (↑(flN (fun (j : Nat) => !r (sv D j)) i.fst) : Int).toNat) =
                                            true then
                                        i.2 5 (addN 0 (i.fst:Int).toNat)
                                      else i.2 5 i_1) =
                                      if
                                          decide
                                              (i_1 =
                                                addN 0
                                                  (↑(flN (fun (j : Nat) => !r (sv D j)) i.fst) : Int).toNat) =
                                            true then
                                        i.2 5 (addN 0 (i.fst:Int).toNat)
                                      else i.2 5 i_1,
                                ∀ (i_1 : Nat),
                                  i_1 < n →
                                    (if
                                          decide
                                              (i_1 =
                                                addN 0
                                                  (↑(flN (fun (j : Nat) => !r (sv D j)) i.fst) : Int).toNat) =
                                            true then
                                        i.2 6 (addN 0 (i.fst:Int).toNat)
                                      else i.2 6 i_1) =
                                      if
                                          decide
                                              (i_1 =
                                                addN 0
                                                  (↑(flN (fun (j : Nat) => !r (sv D j)) i.fst) : Int).toNat) =
                                            true then
                                        i.2 6 (addN 0 (i.fst:Int).toNat)
                                      else i.2 6 i_1,
                                (DlJ (fun (j : Nat) => !r (sv D j)) n D ((i.fst:Int) + 1).toNat
                                    fun (a a_1 : Nat) =>
                                    match
                                      [fun (i' : Nat) =>
                                          DV.val
                                            (Value.int IntKind.i64
                                              (if
                                                  decide
                                                      (i' =
                                                        addN 0
                                                          (↑(flN (fun (j : Nat) => !r (sv D j)) i.fst) : Int).toNat) =
                                                    true then
                                                i.2 0 (addN 0 (i.fst:Int).toNat)
                                              else i.2 0 i')),
                                          fun (i' : Nat) =>
                                          DV.val
                                            (Value.int IntKind.i64
                                              (if
                                                  decide
                                                      (i' =
                                                        addN 0
                                                          (↑(flN (fun (j : Nat) => !r (sv D j)) i.fst) : Int).toNat) =
                                                    true then
                                                i.2 1 (addN 0 (i.fst:Int).toNat)
                                              else i.2 1 i')),
                                          fun (i' : Nat) =>
                                          DV.val
                                            (Value.int IntKind.i64
                                              (if
                                                  decide
                                                      (i' =
                                                        addN 0
                                                          (↑(flN (fun (j : Nat) => !r (sv D j)) i.fst) : Int).toNat) =
                                                    true then
                                                i.2 2 (addN 0 (i.fst:Int).toNat)
                                              else i.2 2 i')),
                                          fun (i' : Nat) =>
                                          DV.val
                                            (Value.int IntKind.i64
                                              (if
                                                  decide
                                                      (i' =
                                                        addN 0
                                                          (↑(flN (fun (j : Nat) => !r (sv D j)) i.fst) : Int).toNat) =
                                                    true then
                                                i.2 3 (addN 0 (i.fst:Int).toNat)
                                              else i.2 3 i')),
                                          fun (i' : Nat) =>
                                          DV.val
                                            (Value.int IntKind.i64
                                              (if
                                                  decide
                                                      (i' =
                                                        addN 0
                                                          (↑(flN (fun (j : Nat) => !r (sv D j)) i.fst) : Int).toNat) =
                                                    true then
                                                i.2 4 (addN 0 (i.fst:Int).toNat)
                                              else i.2 4 i')),
                                          fun (i' : Nat) =>
                                          DV.val
                                            (Value.int IntKind.i64
                                              (if
                                                  decide
                                                      (i' =
                                                        addN 0
                                                          (↑(flN (fun (j : Nat) => !r (sv D j)) i.fst) : Int).toNat) =
                                                    true then
                                                i.2 5 (addN 0 (i.fst:Int).toNat)
                                              else i.2 5 i')),
                                          fun (i' : Nat) =>
                                          DV.val
                                            (Value.int IntKind.i64
                                              (if
                                                  decide
                                                      (i' =
                                                        addN 0
                                                          (↑(flN (fun (j : Nat) => !r (sv D j)) i.fst) : Int).toNat) =
                                                    true then
                                                i.2 6 (addN 0 (i.fst:Int).toNat)
                                              else i.2 6 i'))][a]? with
                                    | some f => iOf (f a_1)
                                    | none => (0:Int)) ∧
                                  flN (fun (j : Nat) => !r (sv D j)) ((i.fst:Int) + 1).toNat <
                                    Int.toNat ((i.fst:Int) + 1),
                                n - ((i.fst:Int) + 1).toNat < n - i.fst]))))
                      (VT.need [i64In ((i.fst:Int) + 1)]
                        (VT.done
                          [(↑(flN (fun (j : Nat) => !r (sv D j)) i.fst) : Int) =
                              (↑(flN (fun (j : Nat) => !r (sv D j)) ((i.fst:Int) + 1).toNat) : Int),
                            (i.fst:Int) + 1 = (↑((i.fst:Int) + 1).toNat : Int),
                            (0:Nat) = 0, n = n, ∀ (l : List Int), r l = r l,
                            ∀ (l : List Int), r l = true → true = true, n = n,
                            ∀ i_1 < n, i.2 0 i_1 = i.2 0 i_1,
                            ∀ i_1 < n, i.2 1 i_1 = i.2 1 i_1,
                            ∀ i_1 < n, i.2 2 i_1 = i.2 2 i_1,
                            ∀ i_1 < n, i.2 3 i_1 = i.2 3 i_1,
                            ∀ i_1 < n, i.2 4 i_1 = i.2 4 i_1,
                            ∀ i_1 < n, i.2 5 i_1 = i.2 5 i_1,
                            ∀ i_1 < n, i.2 6 i_1 = i.2 6 i_1,
                            (DlJ (fun (j : Nat) => !r (sv D j)) n D ((i.fst:Int) + 1).toNat
                                fun (a a_1 : Nat) =>
                                match
                                  [fun (j : Nat) => DV.val (Value.int IntKind.i64 (i.2 0 j)), fun (j : Nat) =>
                                      DV.val (Value.int IntKind.i64 (i.2 1 j)), fun (j : Nat) =>
                                      DV.val (Value.int IntKind.i64 (i.2 2 j)), fun (j : Nat) =>
                                      DV.val (Value.int IntKind.i64 (i.2 3 j)), fun (j : Nat) =>
                                      DV.val (Value.int IntKind.i64 (i.2 4 j)), fun (j : Nat) =>
                                      DV.val (Value.int IntKind.i64 (i.2 5 j)), fun (j : Nat) =>
                                      DV.val (Value.int IntKind.i64 (i.2 6 j))][a]? with
                                | some f => iOf (f a_1)
                                | none => (0:Int)) ∧
                              flN (fun (j : Nat) => !r (sv D j)) ((i.fst:Int) + 1).toNat <
                                Int.toNat ((i.fst:Int) + 1),
                            n - ((i.fst:Int) + 1).toNat < n - i.fst])))))
                (VT.need
                  [(0:Int) ≤ (↑(flN (fun (j : Nat) => !r (sv D j)) i.fst) : Int) ∧
                      (↑(flN (fun (j : Nat) => !r (sv D j)) i.fst) : Int) ≤ (n:Int) ∧ (n:Int) ≤ (n:Int),
                    (0:Nat) + (↑(flN (fun (j : Nat) => !r (sv D j)) i.fst) : Int).toNat +
                        (Int.toNat (n:Int) - (↑(flN (fun (j : Nat) => !r (sv D j)) i.fst) : Int).toNat) ≤
                      n]
                  (VT.need
                    [(0:Int) ≤ 0 ∧
                        (0:Int) ≤ (↑(flN (fun (j : Nat) => !r (sv D j)) i.fst) : Int) ∧
                          (↑(flN (fun (j : Nat) => !r (sv D j)) i.fst) : Int) ≤ (n:Int)]
                    (VT.done
                      [n ≤ n,
                        ∀ (i_1 : Nat),
                          i_1 < n →
                            (if
                                  decide
                                      ((0:Nat) + (↑(flN (fun (j : Nat) => !r (sv D j)) i.fst) : Int).toNat ≤ i_1 ∧
                                        i_1 <
                                          (0:Nat) + (↑(flN (fun (j : Nat) => !r (sv D j)) i.fst) : Int).toNat +
                                            (Int.toNat (n:Int) -
                                              Int.toNat (↑(flN (fun (j : Nat) => !r (sv D j)) i.fst) : Int))) =
                                    true then
                                (0:Int)
                              else i.2 0 i_1) =
                              lf (fun (j : Nat) => !r (sv D j)) n (D 0) i_1,
                        ∀ (i_1 : Nat),
                          i_1 < n →
                            (if
                                  decide
                                      ((0:Nat) + (↑(flN (fun (j : Nat) => !r (sv D j)) i.fst) : Int).toNat ≤ i_1 ∧
                                        i_1 <
                                          (0:Nat) + (↑(flN (fun (j : Nat) => !r (sv D j)) i.fst) : Int).toNat +
                                            (Int.toNat (n:Int) -
                                              Int.toNat (↑(flN (fun (j : Nat) => !r (sv D j)) i.fst) : Int))) =
                                    true then
                                (0:Int)
                              else i.2 1 i_1) =
                              lf (fun (j : Nat) => !r (sv D j)) n (D 1) i_1,
                        ∀ (i_1 : Nat),
                          i_1 < n →
                            (if
                                  decide
                                      ((0:Nat) + (↑(flN (fun (j : Nat) => !r (sv D j)) i.fst) : Int).toNat ≤ i_1 ∧
                                        i_1 <
                                          (0:Nat) + (↑(flN (fun (j : Nat) => !r (sv D j)) i.fst) : Int).toNat +
                                            (Int.toNat (n:Int) -
                                              Int.toNat (↑(flN (fun (j : Nat) => !r (sv D j)) i.fst) : Int))) =
                                    true then
                                (0:Int)
                              else i.2 2 i_1) =
                              lf (fun (j : Nat) => !r (sv D j)) n (D 2) i_1,
                        ∀ (i_1 : Nat),
                          i_1 < n →
                            (if
                                  decide
                                      ((0:Nat) + (↑(flN (fun (j : Nat) => !r (sv D j)) i.fst) : Int).toNat ≤ i_1 ∧
                                        i_1 <
                                          (0:Nat) + (↑(flN (fun (j : Nat) => !r (sv D j)) i.fst) : Int).toNat +
                                            (Int.toNat (n:Int) -
                                              Int.toNat (↑(flN (fun (j : Nat) => !r (sv D j)) i.fst) : Int))) =
                                    true then
                                (0:Int)
                              else i.2 3 i_1) =
                              lf (fun (j : Nat) => !r (sv D j)) n (D 3) i_1,
                        ∀ (i_1 : Nat),
                          i_1 < n →
                            (if
                                  decide
                                      ((0:Nat) + (↑(flN (fun (j : Nat) => !r (sv D j)) i.fst) : Int).toNat ≤ i_1 ∧
                                        i_1 <
                                          (0:Nat) + (↑(flN (fun (j : Nat) => !r (sv D j)) i.fst) : Int).toNat +
                                            (Int.toNat (n:Int) -
                                              Int.toNat (↑(flN (fun (j : Nat) => !r (sv D j)) i.fst) : Int))) =
                                    true then
                                (0:Int)
                              else i.2 4 i_1) =
                              lf (fun (j : Nat) => !r (sv D j)) n (D 4) i_1,
                        ∀ (i_1 : Nat),
                          i_1 < n →
                            (if
                                  decide
                                      ((0:Nat) + (↑(flN (fun (j : Nat) => !r (sv D j)) i.fst) : Int).toNat ≤ i_1 ∧
                                        i_1 <
                                          (0:Nat) + (↑(flN (fun (j : Nat) => !r (sv D j)) i.fst) : Int).toNat +
                                            (Int.toNat (n:Int) -
                                              Int.toNat (↑(flN (fun (j : Nat) => !r (sv D j)) i.fst) : Int))) =
                                    true then
                                (0:Int)
                              else i.2 5 i_1) =
                              lf (fun (j : Nat) => !r (sv D j)) n (D 5) i_1,
                        ∀ (i_1 : Nat),
                          i_1 < n →
                            (if
                                  decide
                                      ((0:Nat) + (↑(flN (fun (j : Nat) => !r (sv D j)) i.fst) : Int).toNat ≤ i_1 ∧
                                        i_1 <
                                          (0:Nat) + (↑(flN (fun (j : Nat) => !r (sv D j)) i.fst) : Int).toNat +
                                            (Int.toNat (n:Int) -
                                              Int.toNat (↑(flN (fun (j : Nat) => !r (sv D j)) i.fst) : Int))) =
                                    true then
                                (0:Int)
                              else i.2 6 i_1) =
                              lf (fun (j : Nat) => !r (sv D j)) n (D 6) i_1,
                        Int.toNat (↑(flN (fun (j : Nat) => !r (sv D j)) i.fst) : Int) - (0:Int).toNat =
                          flN (fun (j : Nat) => !r (sv D j)) n]))))))) (by kernel_rfl) ?_
  simp only [VT.holds, AllT, Sq]
  refine ⟨⟨Nat.le_refl _, indexP_c n D r hm⟩, fun h => ?_, fun h => ?_⟩
  · have hn := ixF_no h
    have hq : ∀ j, j < n → (fun j => !r (sv D j)) j = true := fun j hj => by
      have := hn j hj
      dsimp only at this ⊢
      rw [this]; rfl
    have e1 := flN_all hq
    have e2 : ∀ (D : Nat → Int) (i : Nat), i < n → D i = lf (fun j => !r (sv _ j)) n D i := fun D i hi => by rw [lf, e1, if_pos hi, flI_all hq hi]
    exact ⟨Nat.le_refl _, e2 (D 0), e2 (D 1), e2 (D 2), e2 (D 3), e2 (D 4), e2 (D 5), e2 (D 6), e1.symm⟩
  · obtain ⟨i0, h0, hi0, hp0, hb0⟩ := ixF_is h
    rw [h0]
    have e0 : ((i0 : Int) + 1).toNat = i0 + 1 := by omega
    rw [e0]
    obtain ⟨s1, s2⟩ := dj_start (q := fun j => !r (sv D j)) (D := D) hi0 (by show (!r (sv D i0)) = false; rw [hp0]; rfl) (fun j hj => by show (!r (sv D j)) = true; rw [hb0 j hj]; rfl)
    refine ⟨by unfold i64In; omega, ⟨by rw [s1], by omega⟩, ⟨s2.congr (at7 n D), by rw [s1]; exact Nat.lt_succ_self _⟩, fun ⟨j, d⟩ ⟨hI, hlt⟩ => ?_⟩
    dsimp only at hI hlt ⊢
    simp only [add0]
    generalize hqq : (fun j => !r (sv D j)) = q at hI hlt
    refine ⟨fun hj => ?_, fun hj => ?_⟩
    · have hj : j < n := by omega
      have cs : ([d 0 j, d 1 j, d 2 j, d 3 j, d 4 j, d 5 j, d 6 j] : List Int) = sv D j := by
        rw [hI.hi 0 j (by decide) (Nat.le_refl _), hI.hi 1 j (by decide) (Nat.le_refl _), hI.hi 2 j (by decide) (Nat.le_refl _), hI.hi 3 j (by decide) (Nat.le_refl _), hI.hi 4 j (by decide) (Nat.le_refl _), hI.hi 5 j (by decide) (Nat.le_refl _), hI.hi 6 j (by decide) (Nat.le_refl _)]; rfl
      refine ⟨⟨by omega, hj⟩, inC_c _ _ _ _ _ _ _ r, fun h => ?_, fun h => ?_⟩
      · rw [cs] at h
        have hq : q j = true := by rw [← hqq]; show (!r (sv D j)) = true; rw [h]; rfl
        have hy := flN_yes hq
        exact ⟨⟨by omega, by omega⟩, by unfold i64In; omega, by unfold i64In; omega, by omega, by omega, ⟨(dj_keep hI hj hlt hq).congr (at7 n _), by omega⟩, by omega⟩
      · rw [cs] at h
        have hq : q j = false := by rw [← hqq]; show (!r (sv D j)) = false; rw [h]; rfl
        have hy := flN_no (p := q) (k := j) (by rw [hq]; decide)
        exact ⟨by unfold i64In; omega, by omega, by omega, ⟨(dj_drop hI hj hq).congr (at7 n _), by omega⟩, by omega⟩
    · obtain rfl : j = n := by have := hI.le; omega
      have fin : ∀ c, c < 7 → ∀ i, i < j → (if 0 + flN q j ≤ i ∧ i < 0 + flN q j + (j - flN q j) then 0 else d c i) = lf q j (D c) i := fun c hc i hi => by
        rw [lf]
        by_cases e : i < flN q j
        · rw [if_neg (by omega), if_pos e, hI.lo c i hc e]
        · rw [if_pos (by omega), if_neg e]
      exact ⟨⟨by omega, by omega⟩, ⟨Int.le_refl _, by omega, by omega⟩, Nat.le_refl _, fin 0 (by decide), fin 1 (by decide), fin 2 (by decide), fin 3 (by decide), fin 4 (by decide), fin 5 (by decide), fin 6 (by decide), by omega⟩
end Go.Abs
end
section
set_option linter.unusedVariables false
set_option linter.unusedSimpArgs false
set_option maxRecDepth 100000
namespace Go.Abs
open Go
abbrev clO : Ann := { orc := [], loops := [], cuts := [] }
noncomputable def A155_cloneP_c (n : Nat) (A : Nat → Nat → Int) : Ann := { orc := [], loops := [], cuts := [], exts := [(1, nlE prog clO)] }
theorem cloneP_c (n : Nat) (A : Nat → Nat → Int) (hn : n ≤ 1000000) : FnR prog 155 [.lst n (colF7 A)] n (colF7 A) := by
  refine FnR_owed hmix (A155_cloneP_c n A) (V := .cut Bool (fun (c : Bool) => c = true → n = nat_lit 0) (.done []) fun (c : Bool) => .ite c (.done [n = 0]) (.need [(0:Nat) ≤ 0, ((0:Nat) + n) * (nat_lit 55 + 1) ≤ 140737488355328] (.done [(0:Nat) + n = n ∧ (0:Nat) + n ≤ 0 + n, ∀ i < n, (if decide (i < 0) = true then (0:Int) else A 0 (i - 0)) = A 0 i, ∀ i < n, (if decide (i < 0) = true then (0:Int) else A 1 (i - 0)) = A 1 i, ∀ i < n, (if decide (i < 0) = true then (0:Int) else A 2 (i - 0)) = A 2 i, ∀ i < n, (if decide (i < 0) = true then (0:Int) else A 3 (i - 0)) = A 3 i, ∀ i < n, (if decide (i < 0) = true then (0:Int) else A 4 (i - 0)) = A 4 i, ∀ i < n, (if decide (i < 0) = true then (0:Int) else A 5 (i - 0)) = A 5 i, ∀ i < n, (if decide (i < 0) = true then (0:Int) else A 6 (i - 0)) = A 6 i]))) (by kernel_rfl) ?_ (hx0 := extsOK_one rfl (nlE_ok hmix (extsOK_nil rfl)))
  simp only [VT.holds, AllT, Sq]
  refine fun i h => ⟨h, fun _ => ⟨⟨Nat.le_refl _, by omega⟩, ⟨Nat.zero_add _, Nat.le_refl _⟩, ?_, ?_, ?_, ?_, ?_, ?_, ?_⟩⟩
  all_goals intro j _; rw [if_neg (Nat.not_lt_zero j), Nat.sub_zero]
abbrev liD (L : List (List Int)) : DV := .lst L.length (cols7 L)
noncomputable def A124_without_c (L M : List (List Int)) : Ann := { orc := [(7, [(1, .row fun _ => (L.length, cols7 L)), (3, .wr fun _ => ([.row (colF7 fun c => lf (woQ L M) L.length (col L c)), .no], .row 7 0 0 (flN (woQ L M) L.length)))])], loops := [(0, { ι := Nat, keep := [0, 1, 5, 9, 10], boxes := [5], ts := fun _ i => [(11, dI (i : Int))], mo := fun _ i => [(5, some 0, plM (tkL M i))], inv := fun _ i => i ≤ M.length, mu := fun _ i => M.length - i, rd := fun _ σ => (iOf (σ.get 11)).toNat })], cuts := [], frzs := [(7, [(5, 0)])] }
noncomputable abbrev without_cr0 (L : List (List Int)) (M : List (List Int)) (r : List Prop) : List Prop := (List.length L = List.length L) :: (∀ (i : Nat), i < List.length L → col L (0:Nat) i = col L (0:Nat) i) :: (∀ (i : Nat), i < List.length L → col L (1:Nat) i = col L (1:Nat) i) :: (∀ (i : Nat), i < List.length L → col L (2:Nat) i = col L (2:Nat) i) :: (∀ (i : Nat), i < List.length L → col L (3:Nat) i = col L (3:Nat) i) :: (∀ (i : Nat), i < List.length L → col L (4:Nat) i = col L (4:Nat) i) :: (∀ (i : Nat), i < List.length L → col L (5:Nat) i = col L (5:Nat) i) :: (∀ (i : Nat), i < List.length L → col L (6:Nat) i = col L (6:Nat) i) :: (List.length M = List.length M) :: (∀ (i : Nat), i < List.length M → col M (0:Nat) i = col M (0:Nat) i) :: (∀ (i : Nat), i < List.length M → col M (1:Nat) i = col M (1:Nat) i) :: (∀ (i : Nat), i < List.length M → col M (2:Nat) i = col M (2:Nat) i) :: (∀ (i : Nat), i < List.length M → col M (3:Nat) i = col M (3:Nat) i) :: (∀ (i : Nat), i < List.length M → col M (4:Nat) i = col M (4:Nat) i) :: (∀ (i : Nat), i < List.length M → col M (5:Nat) i = col M (5:Nat) i) :: (∀ (i : Nat), i < List.length M → col M (6:Nat) i = col M (6:Nat) i) :: (List.length M = List.length M) :: (∀ (i : Nat), i < List.length M → col M (0:Nat) i = col M (0:Nat) i) :: (∀ (i : Nat), i < List.length M → col M (1:Nat) i = col M (1:Nat) i) :: (∀ (i : Nat), i < List.length M → col M (2:Nat) i = col M (2:Nat) i) :: (∀ (i : Nat), i < List.length M → col M (3:Nat) i = col M (3:Nat) i) :: (∀ (i : Nat), i < List.length M → col M (4:Nat) i = col M (4:Nat) i) :: (∀ (i : Nat), i < List.length M → col M (5:Nat) i = col M (5:Nat) i) :: (∀ (i : Nat), i < List.length M → col M (6:Nat) i = col M (6:Nat) i) :: ((↑(List.length M) : Int) = (↑(List.length M) : Int)) :: r
theorem without_c (L M : List (List Int)) (h7 : ∀ x ∈ L, x.length = 7) (g7 : ∀ x ∈ M, x.length = 7) (hL : L.length ≤ 1000000) (hM : M.length ≤ 1000000) : FnC prog 124 [liD L, liD M] (liD (woL L M)) := by
  refine FnC_owed hmix (A124_without_c L M) (V := .loop Nat (fun a => a ≤ List.length M) (0:Int).toNat (((0:Int) = (↑(0:Int).toNat : Int)) :: (without_cr0 L M [∀ (l : List Int), false = inB (tkL M (0:Int).toNat) l, ∀ (l : List Int), inB (tkL M (0:Int).toNat) l = true → false = true])) fun i => .ite (decide ((i:Int) < (↑(List.length M) : Int))) (.need [(0:Int) ≤ (i:Int) ∧ (i:Int) < (↑(List.length M) : Int)] (.need [i64In ((i:Int) + 1)] (.done (((i:Int) + 1 = (↑((i:Int) + 1).toNat : Int)) :: (without_cr0 L M [∀ (l : List Int), putHas [col M 0 (i:Int).toNat, col M 1 (i:Int).toNat, col M 2 (i:Int).toNat, col M 3 (i:Int).toNat, col M 4 (i:Int).toNat, col M 5 (i:Int).toNat, col M 6 (i:Int).toNat] (inB (tkL M i)) l = inB (tkL M ((i:Int) + 1).toNat) l, ∀ (l : List Int), inB (tkL M ((i:Int) + 1).toNat) l = true → (if decide (l = [col M 0 (i:Int).toNat, col M 1 (i:Int).toNat, col M 2 (i:Int).toNat, col M 3 (i:Int).toNat, col M 4 (i:Int).toNat, col M 5 (i:Int).toNat, col M 6 (i:Int).toNat]) = true then true else true) = true, Int.toNat ((i:Int) + 1) ≤ List.length M, List.length M - ((i:Int) + 1).toNat < List.length M - i]))))) (.need [FnR prog 155 [.lst (List.length L) [fun j => (dI (col L 0 j)), fun j => (dI (col L 1 j)), fun j => (dI (col L 2 j)), fun j => (dI (col L 3 j)), fun j => (dI (col L 4 j)), fun j => (dI (col L 5 j)), fun j => (dI (col L 6 j))]] (List.length L) [fun j => (dI (col L 0 j)), fun j => (dI (col L 1 j)), fun j => (dI (col L 2 j)), fun j => (dI (col L 3 j)), fun j => (dI (col L 4 j)), fun j => (dI (col L 5 j)), fun j =>
     (dI (col L 6 j))], List.length L = List.length L, valCol fun j => dI ((fun c => lf (woQ L M) (List.length L) (col L c)) (0:Nat) j), valCol fun j => dI ((fun c => lf (woQ L M) (List.length L) (col L c)) (1:Nat) j), valCol fun j => dI ((fun c => lf (woQ L M) (List.length L) (col L c)) (2:Nat) j), valCol fun j => dI ((fun c => lf (woQ L M) (List.length L) (col L c)) (3:Nat) j), valCol fun j => dI ((fun c => lf (woQ L M) (List.length L) (col L c)) (4:Nat) j), valCol fun j => dI ((fun c => lf (woQ L M) (List.length L) (col L c)) (5:Nat) j), valCol fun j => dI ((fun c => lf (woQ L M) (List.length L) (col L c)) (6:Nat) j), FnW prog 154 [WA.row (List.length L) [fun j => (dI (col L 0 j)), fun j => (dI (col L 1 j)), fun j => (dI (col L 2 j)), fun j => (dI (col L 3 j)), fun j => (dI (col L 4 j)), fun j => (dI (col L 5 j)), fun j => (dI (col L 6 j))] [fun j => (dI (lf (woQ L M) (List.length L) (col L 0) j)), fun j => (dI (lf (woQ L M) (List.length L) (col L 1) j)), fun j => (dI (lf (woQ L M) (List.length L) (col L 2) j)), fun j => (dI (lf (woQ L M) (List.length L) (col L 3) j)), fun j => (dI (lf (woQ L M) (List.length L) (col L 4) j)), fun j => (dI (lf (woQ L M) (List.length L) (col L 5) j)), fun j => (dI (lf (woQ L M) (List.length L) (col L 6) j))], WA.arg (.clo (156:Nat) [.cptr [DV.mp (KS.ints 7) (fun (q : List Int) => inB (tkL M i) q) fun (x : List Int) => (dB true)]])] (DV.row 7 (0:Nat) (0:Nat) (flN (woQ L M) (List.length L)))] (.done [flN (woQ L M) (List.length L) ≤ List.length L, flN (woQ L M) (List.length L) = List.length (woL L M), ∀ i < List.length (woL L M), lf (woQ L M) (List.length L) (col L 0) i = col (woL L M) (0:Nat) i, ∀ i < List.length (woL L M), lf (woQ L M) (List.length L) (col L 1) i = col (woL L M) (1:Nat) i, ∀ i < List.length (woL L M), lf
     (woQ L M) (List.length L) (col L 2) i = col (woL L M) (2:Nat) i, ∀ i < List.length (woL L M), lf (woQ L M) (List.length L) (col L 3) i = col (woL L M) (3:Nat) i, ∀ i < List.length (woL L M), lf (woQ L M) (List.length L) (col L 4) i = col (woL L M) (4:Nat) i, ∀ i < List.length (woL L M), lf (woQ L M) (List.length L) (col L 5) i = col (woL L M) (5:Nat) i, ∀ i < List.length (woL L M), lf (woQ L M) (List.length L) (col L 6) i = col (woL L M) (6:Nat) i]))) (by kernel_rfl) ?_
  simp only [VT.holds, AllT, without_cr0, Sq]
  refine ⟨⟨rfl, fun _ => rfl, fun _ h => h⟩, Nat.zero_le _, fun i hi => ⟨fun hlt => ?_, fun hge => ?_⟩⟩
  · exact ⟨by omega, by unfold i64In; omega, by omega, tk_put _ (seven_at g7 (by omega)), fun _ _ => .inr trivial, by omega, by omega⟩
  · obtain rfl : i = M.length := by omega
    have hd := deleteP_c L.length (col L) (inB M) hL
    have hn := woL_len (m := M) h7
    have hc := woL_col (m := M) h7
    have hle := flN_le (woQ L M) L.length
    rw [tkL_all]
    exact ⟨⟨cloneP_c L.length (col L) hL, fun _ => trivial, fun _ => trivial, fun _ => trivial, fun _ => trivial, fun _ => trivial, fun _ => trivial, fun _ => trivial, hd⟩, hle, hn, hc 0 (by decide), hc 1 (by decide), hc 2 (by decide), hc 3 (by decide), hc 4 (by decide), hc 5 (by decide), hc 6 (by decide)⟩
noncomputable def A71_sameChange_c (nA : Nat) (A : Nat → Nat → Int) (nR : Nat) (R : Nat → Nat → Int) (nB : Nat) (B : Nat → Nat → Int) (nS : Nat) (S : Nat → Nat → Int) : Ann := { orc := [(1, [(4, .res fun _ => dB (sameP nA A nB B)), (10, .res fun _ => dB (sameP nR R nS S))])], loops := [], cuts := [] }
theorem sameChange_c (nA : Nat) (A : Nat → Nat → Int) (nR : Nat) (R : Nat → Nat → Int) (nB : Nat) (B : Nat → Nat → Int) (nS : Nat) (S : Nat → Nat → Int) (hA : nA ≤ 1000000) (hR : nR ≤ 1000000) : FnC prog 71 [chgD nA A nR R, chgD nB B nS S] (dB (sameP nA A nB B && sameP nR R nS S)) := by
  refine FnC_owed hmix (A71_sameChange_c nA A nR R nB B nS S) (V := .need [FnC prog 66 [.lst nA [fun j => (dI (A 0 j)), fun j => (dI (A 1 j)), fun j => (dI (A 2 j)), fun j => (dI (A 3 j)), fun j => (dI (A 4 j)), fun j => (dI (A 5 j)), fun j => (dI (A 6 j))], .lst nB [fun j => (dI (B 0 j)), fun j => (dI (B 1 j)), fun j => (dI (B 2 j)), fun j => (dI (B 3 j)), fun j => (dI (B 4 j)), fun j => (dI (B 5 j)), fun j => (dI (B 6 j))]] ((dB (sameP nA A nB B))), ri (sameP nA A nB B = true), ri (sameP nA A nB B = true), ri (sameP nA A nB B = true), ri (sameP nA A nB B = true), sameP nA A nB B = true → FnC prog 66 [.lst nR [fun j => (dI (R 0 j)), fun j => (dI (R 1 j)), fun j => (dI (R 2 j)), fun j => (dI (R 3 j)), fun j => (dI (R 4 j)), fun j => (dI (R 5 j)), fun j => (dI (R 6 j))], .lst nS [fun j => (dI (S 0 j)), fun j => (dI (S 1 j)), fun j => (dI (S 2 j)), fun j => (dI (S 3 j)), fun j => (dI (S 4 j)), fun j => (dI (S 5 j)), fun j => (dI (S 6 j))]] ((dB (sameP nR R nS S))), ri (sameP nA A nB B = true)] (.done [(if sameP nA A nB B = true then sameP nR R nS S else false) = (sameP nA A nB B && sameP nR R nS S)])) (by kernel_rfl) ?_
  simp only [VT.holds, AllT, Sq]
  exact ⟨sameP_c _ _ _ _ hA, fun _ => sameP_c _ _ _ _ hR⟩
/-- The difference of two scaffolds: its error, its lists. -/
def dfE (a b : Scf) : Int := if chkE a = 0 then chkE b else chkE a
def dfL (a b : Scf) (l : List (List Int)) : List (List Int) := if dfE a b = 0 then l else []
abbrev dfA (a b : Scf) : List (List Int) := dfL a b (woL (pls b) (pls a))
abbrev dfR (a b : Scf) : List (List Int) := dfL a b (woL (pls a) (pls b))
abbrev dfD (a b : Scf) : DV := .agg [liD (dfA a b), liD (dfR a b)]
theorem withoutL_c (L M : List (List Int)) (h7 : ∀ x ∈ L, x.length = 7) (g7 : ∀ x ∈ M, x.length = 7) (hL : L.length ≤ 1000000) (hM : M.length ≤ 1000000) : FnR prog 123 [liD L, liD M] (woL L M).length (cols7 (woL L M)) := by
  have h := withoutR_c L.length (col L) M.length (col M) hL hM
  rw [svc_self h7, svc_self g7] at h
  exact h
noncomputable def A70_Diff_c (a b : Scf) : Ann := { orc := [(1, [(1, .res fun q => rdD a)]), (4, [(1, .res fun q => rdD b)]), (7, [(1, .row fun _ => (b.nM, cols7 (pls b))), (3, .row fun _ => (a.nM, cols7 (pls a))), (4, .res fun _ => liD (woL (pls b) (pls a))), (6, .row fun _ => (a.nM, cols7 (pls a))), (8, .row fun _ => (b.nM, cols7 (pls b))), (9, .res fun _ => liD (woL (pls a) (pls b)))])], loops := [], cuts := [] }
noncomputable abbrev Diff_cd0 (a : Scf) : DV := .agg [.lst a.nN [fun i => (dI (a.X i)), fun i => (dI (a.Y i)), fun i => (dI (a.Z i))], .lst a.nM [fun i => (dI (a.K i)), fun i => (dI (a.A i)), fun i => (dI (a.B i))], DV.mp (KS.ints (3:Nat)) (fun (l : List Int) => atH a (rdN a) l) fun (l : List Int) => (dI (atL a (rdN a) l))]
noncomputable abbrev Diff_cd1 (b : Scf) : DV := .agg [.lst b.nN [fun i => (dI (b.X i)), fun i => (dI (b.Y i)), fun i => (dI (b.Z i))], .lst b.nM [fun i => (dI (b.K i)), fun i => (dI (b.A i)), fun i => (dI (b.B i))], DV.mp (KS.ints (3:Nat)) (fun (l : List Int) => atH b (rdN b) l) fun (l : List Int) => (dI (atL b (rdN b) l))]
noncomputable abbrev Diff_cd2 (b : Scf) : DV := .lst b.nM [fun i => (dI (col (pls b) (0:Nat) i)), fun i => (dI (col (pls b) (1:Nat) i)), fun i => (dI (col (pls b) (2:Nat) i)), fun i => (dI (col (pls b) (3:Nat) i)), fun i => (dI (col (pls b) (4:Nat) i)), fun i => (dI (col (pls b) (5:Nat) i)), fun i => (dI (col (pls b) (6:Nat) i))]
noncomputable abbrev Diff_cd3 (a : Scf) : DV := .lst a.nM [fun i => (dI (col (pls a) (0:Nat) i)), fun i => (dI (col (pls a) (1:Nat) i)), fun i => (dI (col (pls a) (2:Nat) i)), fun i => (dI (col (pls a) (3:Nat) i)), fun i => (dI (col (pls a) (4:Nat) i)), fun i => (dI (col (pls a) (5:Nat) i)), fun i => (dI (col (pls a) (6:Nat) i))]
theorem Diff_c (a b : Scf)  : FnC prog 70 [scfD a, scfD b] (.tup [dfD a b, dI (dfE a b)]) := by
  refine FnC_owed hmix (A70_Diff_c a b) (V := .need [FnC prog 74 [.agg [.lst a.nN [fun i => (dI (a.X i)), fun i => (dI (a.Y i)), fun i => (dI (a.Z i))], .lst a.nM [fun i => (dI (a.K i)), fun i => (dI (a.A i)), fun i => (dI (a.B i))]]] (.tup [(Diff_cd0 a), (dI (chkE a))])] (.ite (chkE a != 0) (.done [List.length (dfA a b) = 0, List.length (dfR a b) = 0, chkE a = dfE a b]) (.need [FnC prog 74 [.agg [.lst b.nN [fun i => (dI (b.X i)), fun i => (dI (b.Y i)), fun i => (dI (b.Z i))], .lst b.nM [fun i => (dI (b.K i)), fun i => (dI (b.A i)), fun i => (dI (b.B i))]]] (.tup [(Diff_cd1 b), (dI (chkE b))])] (.ite (chkE b != 0) (.done [List.length (dfA a b) = 0, List.length (dfR a b) = 0, chkE b = dfE a b]) (.need [FnR prog 116 [(Diff_cd1 b)] b.nM [fun j => (dI (col (pls b) (0:Nat) j)), fun j => (dI (col (pls b) (1:Nat) j)), fun j => (dI (col (pls b) (2:Nat) j)), fun j => (dI (col (pls b) (3:Nat) j)), fun j => (dI (col (pls b) (4:Nat) j)), fun j => (dI (col (pls b) (5:Nat) j)), fun j => (dI (col (pls b) (6:Nat) j))], FnR prog 116 [(Diff_cd0 a)] a.nM [fun j => (dI (col (pls a) (0:Nat) j)), fun j => (dI (col (pls a) (1:Nat) j)), fun j => (dI (col (pls a) (2:Nat) j)), fun j => (dI (col (pls a) (3:Nat) j)), fun j => (dI (col (pls a) (4:Nat) j)), fun j => (dI (col (pls a) (5:Nat) j)), fun j => (dI (col (pls a) (6:Nat) j))], b.nM ≤ b.nM, a.nM ≤ a.nM, FnC prog 124 [(Diff_cd2 b), (Diff_cd3 a)] (.lst (List.length (woL (pls b) (pls a))) [fun j => (dI (col (woL (pls b) (pls a)) (0:Nat) j)), fun j => (dI (col (woL (pls b) (pls a)) (1:Nat) j)), fun j => (dI (col (woL (pls b) (pls a)) (2:Nat) j)), fun j => (dI (col (woL (pls b) (pls a)) (3:Nat) j)), fun j => (dI (col (woL (pls b) (pls a)) (4:Nat) j)), fun j => (dI (col (woL (pls b) (pls a)) (5:Nat) j)), fun j => (dI (col (woL (pls b) (pls a)) (6:Nat) j))]), FnR prog 116 [(Diff_cd0 a)] a.nM [fun j => (dI (col (pls a) (0:Nat) j)), fun j => (dI (col (pls
     a) (1:Nat) j)), fun j => (dI (col (pls a) (2:Nat) j)), fun j => (dI (col (pls a) (3:Nat) j)), fun j => (dI (col (pls a) (4:Nat) j)), fun j => (dI (col (pls a) (5:Nat) j)), fun j => (dI (col (pls a) (6:Nat) j))], FnR prog 116 [(Diff_cd1 b)] b.nM [fun j => (dI (col (pls b) (0:Nat) j)), fun j => (dI (col (pls b) (1:Nat) j)), fun j => (dI (col (pls b) (2:Nat) j)), fun j => (dI (col (pls b) (3:Nat) j)), fun j => (dI (col (pls b) (4:Nat) j)), fun j => (dI (col (pls b) (5:Nat) j)), fun j => (dI (col (pls b) (6:Nat) j))], a.nM ≤ a.nM, b.nM ≤ b.nM, FnC prog 124 [(Diff_cd3 a), (Diff_cd2 b)] (.lst (List.length (woL (pls a) (pls b))) [fun j => (dI (col (woL (pls a) (pls b)) (0:Nat) j)), fun j => (dI (col (woL (pls a) (pls b)) (1:Nat) j)), fun j => (dI (col (woL (pls a) (pls b)) (2:Nat) j)), fun j => (dI (col (woL (pls a) (pls b)) (3:Nat) j)), fun j => (dI (col (woL (pls a) (pls b)) (4:Nat) j)), fun j => (dI (col (woL (pls a) (pls b)) (5:Nat) j)), fun j => (dI (col (woL (pls a) (pls b)) (6:Nat) j))])] (.done [List.length (woL (pls b) (pls a)) = List.length (dfA a b), ∀ i < List.length (dfA a b), col (woL (pls b) (pls a)) (0:Nat) i = col (dfA a b) (0:Nat) i, ∀ i < List.length (dfA a b), col (woL (pls b) (pls a)) (1:Nat) i = col (dfA a b) (1:Nat) i, ∀ i < List.length (dfA a b), col (woL (pls b) (pls a)) (2:Nat) i = col (dfA a b) (2:Nat) i, ∀ i < List.length (dfA a b), col (woL (pls b) (pls a)) (3:Nat) i = col (dfA a b) (3:Nat) i, ∀ i < List.length (dfA a b), col (woL (pls b) (pls a)) (4:Nat) i = col (dfA a b) (4:Nat) i, ∀ i < List.length (dfA a b), col (woL (pls b) (pls a)) (5:Nat) i = col (dfA a b) (5:Nat) i, ∀ i < List.length (dfA a b), col (woL (pls b) (pls a)) (6:Nat) i = col (dfA a b) (6:Nat) i, List.length (woL (pls a) (pls b)) = List.length (dfR a b), ∀ i < List.length (dfR a b), col (woL (pls a)
     (pls b)) (0:Nat) i = col (dfR a b) (0:Nat) i, ∀ i < List.length (dfR a b), col (woL (pls a) (pls b)) (1:Nat) i = col (dfR a b) (1:Nat) i, ∀ i < List.length (dfR a b), col (woL (pls a) (pls b)) (2:Nat) i = col (dfR a b) (2:Nat) i, ∀ i < List.length (dfR a b), col (woL (pls a) (pls b)) (3:Nat) i = col (dfR a b) (3:Nat) i, ∀ i < List.length (dfR a b), col (woL (pls a) (pls b)) (4:Nat) i = col (dfR a b) (4:Nat) i, ∀ i < List.length (dfR a b), col (woL (pls a) (pls b)) (5:Nat) i = col (dfR a b) (5:Nat) i, ∀ i < List.length (dfR a b), col (woL (pls a) (pls b)) (6:Nat) i = col (dfR a b) (6:Nat) i, (0:Int) = dfE a b])))))) (by kernel_rfl) ?_
  simp only [VT.holds, AllT, Diff_cd0, Diff_cd1, Diff_cd2, Diff_cd3, Sq]
  refine ⟨read_c a, fun h => ?_, fun h0 => ⟨read_c b, fun h => ?_, fun h1 => ?_⟩⟩
  · have e : dfE a b = chkE a := if_neg h
    have e2 : ∀ l, dfL a b l = [] := fun l => if_neg (by rw [e]; exact h)
    unfold dfA dfR
    rw [e2, e2]; exact ⟨rfl, rfl, e.symm⟩
  · have e : dfE a b = chkE b := if_pos h0
    have e2 : ∀ l, dfL a b l = [] := fun l => if_neg (by rw [e]; exact h)
    unfold dfA dfR
    rw [e2, e2]; exact ⟨rfl, rfl, e.symm⟩
  · have e : dfE a b = 0 := (if_pos h0 : dfE a b = chkE b).trans h1
    have e2 : ∀ l, dfL a b l = l := fun l => if_pos e
    have ha := chk_facts h0
    have hb := chk_facts h1
    have la := pls_len a
    have lb := pls_len b
    have ma := ha.nM
    have mb := hb.nM
    have w1 := without_c (pls b) (pls a) (pls_seven b) (pls_seven a) (by omega) (by omega)
    have w2 := without_c (pls a) (pls b) (pls_seven a) (pls_seven b) (by omega) (by omega)
    unfold liD at w1 w2
    rw [la, lb] at w1 w2
    unfold dfA dfR
    rw [e2, e2, e, rdN_ok h0, rdN_ok h1]
    exact ⟨⟨places_c b hb, places_c a ha, Nat.le_refl _, Nat.le_refl _, w1, places_c a ha, places_c b hb, Nat.le_refl _, Nat.le_refl _, w2⟩, rfl, fun _ _ => rfl, fun _ _ => rfl, fun _ _ => rfl, fun _ _ => rfl, fun _ _ => rfl, fun _ _ => rfl, fun _ _ => rfl, rfl, fun _ _ => rfl, fun _ _ => rfl, fun _ _ => rfl, fun _ _ => rfl, fun _ _ => rfl, fun _ _ => rfl, fun _ _ => rfl, rfl⟩
theorem add_off0 (g k : Nat) : (⟨g, 0, none⟩ : Addr).add k = ⟨g, k, none⟩ := by rw [add_off, Nat.zero_add]
/-- A row of the callee's own make, told as a list that only is read. -/
theorem FnR_lst {P : Program} {f : FuncId} {args : List DV} {n : Nat} {cols : List (Nat → DV)} (h : FnR P f args n cols) : FnC P f args (.lst n cols) :=
  ⟨h.1, fun S w vs h1 h2 h3 => Calls.mono (h.2 S w vs h1 h2 h3) fun e w' ⟨v, he, hb, hr⟩ => ⟨v, he, by
    rcases hr with ⟨rfl, rfl⟩ | ⟨g, C, cv, T, rfl, hg, hh, hsz, hn, hc⟩
    · exact .lst (fun _ _ => undef) (Nat.le_refl _) (fun i j f hi => absurd hi (Nat.not_lt_zero i)) (fun h => absurd h (Nat.lt_irrefl 0)) (fun i j f hi => absurd hi (Nat.not_lt_zero i)) fun i j f hi => absurd hi (Nat.not_lt_zero i)
    · refine .lst (fun i j => (cv[i * cols.length + j]?).getD undef) hn (fun i j f hi hj => ?_) (fun _ => by simp) (fun i j f hi hj => ?_) fun i j f hi hj => ?_
      all_goals obtain ⟨u, hu, ho, hr⟩ := hc i j f hi hj
      · refine ⟨_, rfl, .inl ⟨?_, by rw [hu]; exact ho⟩, .inr (by rw [add_off0]; exact hg)⟩
        rw [add_off0, hu]
        show (match w'.heap[g]? with | some (.cells c _ _) => _ | _ => none) = _
        rw [hh]
        simpa using hu
      · rw [hu]; exact ho
      · rw [hu]; exact hr.mono (fun a u ⟨x, _, y⟩ => ⟨x, y⟩) (fun _ h => h) fun _ _ h => h.elim, hb⟩⟩
noncomputable def A72_diffR_c (a b : Scf) : Ann := { orc := [(1, [(1, .res fun _ => liD (pls a)), (3, .res fun _ => liD (pls b))]), (2, [(2, .res fun _ => liD (woL (pls b) (pls a))), (5, .res fun _ => liD (woL (pls a) (pls b)))])], loops := [], cuts := [] }
noncomputable abbrev diffR_cd0 (a : Scf) : DV := .lst (List.length (pls a)) [fun j => (dI (col (pls a) (0:Nat) j)), fun j => (dI (col (pls a) (1:Nat) j)), fun j => (dI (col (pls a) (2:Nat) j)), fun j => (dI (col (pls a) (3:Nat) j)), fun j => (dI (col (pls a) (4:Nat) j)), fun j => (dI (col (pls a) (5:Nat) j)), fun j => (dI (col (pls a) (6:Nat) j))]
noncomputable abbrev diffR_cd1 (b : Scf) : DV := .lst (List.length (pls b)) [fun j => (dI (col (pls b) (0:Nat) j)), fun j => (dI (col (pls b) (1:Nat) j)), fun j => (dI (col (pls b) (2:Nat) j)), fun j => (dI (col (pls b) (3:Nat) j)), fun j => (dI (col (pls b) (4:Nat) j)), fun j => (dI (col (pls b) (5:Nat) j)), fun j => (dI (col (pls b) (6:Nat) j))]
theorem diffR_c (a b : Scf) (ha : ScfOK a) (hb : ScfOK b) : FnC prog 72 [scfD a, scfD b] (.agg [liD (woL (pls b) (pls a)), liD (woL (pls a) (pls b))]) := by
  refine FnC_owed hmix (A72_diffR_c a b) (V := .need [FnC prog 67 [.agg [.lst a.nN [fun i => (dI (a.X i)), fun i => (dI (a.Y i)), fun i => (dI (a.Z i))], .lst a.nM [fun i => (dI (a.K i)), fun i => (dI (a.A i)), fun i => (dI (a.B i))]]] ((diffR_cd0 a)), FnC prog 67 [.agg [.lst b.nN [fun i => (dI (b.X i)), fun i => (dI (b.Y i)), fun i => (dI (b.Z i))], .lst b.nM [fun i => (dI (b.K i)), fun i => (dI (b.A i)), fun i => (dI (b.B i))]]] ((diffR_cd1 b))] (.need [FnC prog 123 [(diffR_cd1 b), (diffR_cd0 a)] (.lst (List.length (woL (pls b) (pls a))) [fun j => (dI (col (woL (pls b) (pls a)) (0:Nat) j)), fun j => (dI (col (woL (pls b) (pls a)) (1:Nat) j)), fun j => (dI (col (woL (pls b) (pls a)) (2:Nat) j)), fun j => (dI (col (woL (pls b) (pls a)) (3:Nat) j)), fun j => (dI (col (woL (pls b) (pls a)) (4:Nat) j)), fun j => (dI (col (woL (pls b) (pls a)) (5:Nat) j)), fun j => (dI (col (woL (pls b) (pls a)) (6:Nat) j))]), FnC prog 123 [(diffR_cd0 a), (diffR_cd1 b)] (.lst (List.length (woL (pls a) (pls b))) [fun j => (dI (col (woL (pls a) (pls b)) (0:Nat) j)), fun j => (dI (col (woL (pls a) (pls b)) (1:Nat) j)), fun j => (dI (col (woL (pls a) (pls b)) (2:Nat) j)), fun j => (dI (col (woL (pls a) (pls b)) (3:Nat) j)), fun j => (dI (col (woL (pls a) (pls b)) (4:Nat) j)), fun j => (dI (col (woL (pls a) (pls b)) (5:Nat) j)), fun j => (dI (col (woL (pls a) (pls b)) (6:Nat) j))])] (.done [List.length (woL (pls b) (pls a)) = List.length (woL (pls b) (pls a)), ∀ i < List.length (woL (pls b) (pls a)), col (woL (pls b) (pls a)) (0:Nat) i = col (woL (pls b) (pls a)) (0:Nat) i, ∀ i < List.length (woL (pls b) (pls a)), col (woL (pls b) (pls a)) (1:Nat) i = col (woL (pls b) (pls a)) (1:Nat) i, ∀ i < List.length (woL (pls b) (pls a)), col (woL (pls b) (pls a)) (2:Nat) i = col (woL (pls b) (pls a)) (2:Nat) i, ∀ i < List.length (woL (pls b) (pls a)), col (woL (pls b) (pls a)) (3:Nat) i = col (woL (pls b) (pls a)) (3:Nat) i, ∀
     (i : Nat), i < List.length (woL (pls b) (pls a)) → col (woL (pls b) (pls a)) (4:Nat) i = col (woL (pls b) (pls a)) (4:Nat) i, ∀ i < List.length (woL (pls b) (pls a)), col (woL (pls b) (pls a)) (5:Nat) i = col (woL (pls b) (pls a)) (5:Nat) i, ∀ i < List.length (woL (pls b) (pls a)), col (woL (pls b) (pls a)) (6:Nat) i = col (woL (pls b) (pls a)) (6:Nat) i, List.length (woL (pls a) (pls b)) = List.length (woL (pls a) (pls b)), ∀ i < List.length (woL (pls a) (pls b)), col (woL (pls a) (pls b)) (0:Nat) i = col (woL (pls a) (pls b)) (0:Nat) i, ∀ i < List.length (woL (pls a) (pls b)), col (woL (pls a) (pls b)) (1:Nat) i = col (woL (pls a) (pls b)) (1:Nat) i, ∀ i < List.length (woL (pls a) (pls b)), col (woL (pls a) (pls b)) (2:Nat) i = col (woL (pls a) (pls b)) (2:Nat) i, ∀ i < List.length (woL (pls a) (pls b)), col (woL (pls a) (pls b)) (3:Nat) i = col (woL (pls a) (pls b)) (3:Nat) i, ∀ i < List.length (woL (pls a) (pls b)), col (woL (pls a) (pls b)) (4:Nat) i = col (woL (pls a) (pls b)) (4:Nat) i, ∀ i < List.length (woL (pls a) (pls b)), col (woL (pls a) (pls b)) (5:Nat) i = col (woL (pls a) (pls b)) (5:Nat) i, ∀ i < List.length (woL (pls a) (pls b)), col (woL (pls a) (pls b)) (6:Nat) i = col (woL (pls a) (pls b)) (6:Nat) i]))) (by kernel_rfl) ?_
  simp only [VT.holds, AllT, diffR_cd0, diffR_cd1, Sq]
  have p : ∀ s, ScfOK s → FnC prog 67 [scfD s] (liD (pls s)) := fun s hs => by
    have h := FnR_lst (placesR_c s hs)
    unfold liD
    rw [pls_len]
    exact h
  have la := pls_len a
  have lb := pls_len b
  have ma := ha.nM
  have mb := hb.nM
  exact ⟨⟨p a ha, p b hb⟩, FnR_lst (withoutL_c (pls b) (pls a) (pls_seven b) (pls_seven a) (by omega) (by omega)), FnR_lst (withoutL_c (pls a) (pls b) (pls_seven a) (pls_seven b) (by omega) (by omega))⟩
end Go.Abs
end
end
section
set_option linter.unusedVariables false
set_option linter.unusedSimpArgs false
set_option maxRecDepth 100000
namespace Go.Abs
open Go
theorem mem_rmL {l : List (List Int)} {R : Nat → List Int} {p : List Int} : ∀ {n}, p ∈ rmL l R n ↔ p ∈ l ∧ ∀ j, j < n → p ≠ R j
  | 0 => ⟨fun h => ⟨h, fun j hj => absurd hj (Nat.not_lt_zero j)⟩, fun h => h.1⟩
  | n + 1 => by
    rw [rmL, mem_dlL, mem_rmL]
    constructor
    · rintro ⟨⟨h1, h2⟩, h3⟩
      exact ⟨h1, lt_step (p := fun j => p ≠ R j) h2 h3⟩
    · rintro ⟨h1, h2⟩
      exact ⟨⟨h1, fun j hj => h2 j (by omega)⟩, h2 n (Nat.lt_succ_self n)⟩
theorem mem_adL {l : List (List Int)} {A : Nat → List Int} {p : List Int} : ∀ {n}, p ∈ adL l A n ↔ p ∈ l ∨ ∃ j, j < n ∧ A j = p
  | 0 => by simp [adL]
  | n + 1 => by
    rw [adL, List.mem_append, mem_adL, List.mem_singleton]
    constructor
    · rintro ((h | ⟨j, hj, e⟩) | h)
      · exact .inl h
      · exact .inr ⟨j, by omega, e⟩
      · exact .inr ⟨n, by omega, h.symm⟩
    · rintro (h | ⟨j, hj, e⟩)
      · exact .inl (.inl h)
      · by_cases e2 : j = n
        · exact .inr (by rw [← e, e2])
        · exact .inl (.inr ⟨j, by omega, e⟩)
theorem rmK_yes {l : List (List Int)} {R : Nat → List Int} : ∀ {n}, (∀ j, j < n → R j ∈ l) → (∀ i j, i < j → j < n → R i ≠ R j) → rmK l R n = true
  | 0, _, _ => rfl
  | n + 1, h1, h2 => by
    rw [rmK, rmK_yes (fun j hj => h1 j (by omega)) (fun i j a b => h2 i j a (by omega)), Bool.true_and, inB_iff, mem_rmL]
    exact ⟨h1 n (Nat.lt_succ_self n), fun j hj e => h2 j n hj (Nat.lt_succ_self n) e.symm⟩
theorem adK_yes {l : List (List Int)} {A : Nat → List Int} : ∀ {n}, (∀ j, j < n → A j ∉ l) → (∀ i j, i < j → j < n → A i ≠ A j) → adK l A n = true
  | 0, _, _ => rfl
  | n + 1, h1, h2 => by
    rw [adK, adK_yes (fun j hj => h1 j (by omega)) (fun i j a b => h2 i j a (by omega)), Bool.true_and]
    have : ¬ A n ∈ adL l A n := fun h => (mem_adL.1 h).elim (h1 n (Nat.lt_succ_self n)) fun ⟨j, hj, e⟩ => h2 j n hj (Nat.lt_succ_self n) e
    rw [inB, decide_eq_false this]; rfl
theorem sv_at {L : List (List Int)} (h7 : ∀ x ∈ L, x.length = 7) {j : Nat} (hj : j < L.length) : sv (col L) j = L[j] := by
  have e : sv (col L) j = L.getD j [] := seven_at h7 hj
  rw [e]; simp [hj]
theorem sv_mem {L : List (List Int)} (h7 : ∀ x ∈ L, x.length = 7) {j : Nat} (hj : j < L.length) : sv (col L) j ∈ L := by
  rw [sv_at h7 hj]; exact List.getElem_mem hj
theorem sv_ne {L : List (List Int)} (h7 : ∀ x ∈ L, x.length = 7) (hn : L.Nodup) (i j : Nat) (h : i < j) (hj : j < L.length) : sv (col L) i ≠ sv (col L) j := by
  rw [sv_at h7 (by omega), sv_at h7 hj]
  intro e
  have := (List.getElem_inj hn).1 e
  omega
theorem sv_ex {L : List (List Int)} (h7 : ∀ x ∈ L, x.length = 7) {p : List Int} (hp : p ∈ L) : ∃ j, j < L.length ∧ sv (col L) j = p := by
  obtain ⟨j, hj, e⟩ := List.getElem_of_mem hp
  exact ⟨j, hj, (sv_at h7 hj).trans e⟩
/-- The difference, applied. -/
theorem dif_ap {a b : Scf} (ha : ScfOK a) (hb : ScfOK b) (h0 : chkE a = 0) (hk : chkE (bldS (pls b)) = 0) :
    apE a (woL (pls b) (pls a)).length (col (woL (pls b) (pls a))) (woL (pls a) (pls b)).length (col (woL (pls a) (pls b))) = 0 ∧
    apS a (woL (pls b) (pls a)).length (col (woL (pls b) (pls a))) (woL (pls a) (pls b)).length (col (woL (pls a) (pls b))) = bldS (pls b) := by
  have nA : (woL (pls b) (pls a)).Nodup := (pls_nodup hb).filter _
  have nR : (woL (pls a) (pls b)).Nodup := (pls_nodup ha).filter _
  have sA : ∀ x ∈ woL (pls b) (pls a), x.length = 7 := fun x hx => pls_seven b x (mem_woL.1 hx).1
  have sR : ∀ x ∈ woL (pls a) (pls b), x.length = 7 := fun x hx => pls_seven a x (mem_woL.1 hx).1
  have kR : rmK (pls a) (sv (col (woL (pls a) (pls b)))) (woL (pls a) (pls b)).length = true := rmK_yes (fun j hj => (mem_woL.1 (sv_mem sR hj)).1) (sv_ne sR nR)
  have kA : adK (rmL (pls a) (sv (col (woL (pls a) (pls b)))) (woL (pls a) (pls b)).length) (sv (col (woL (pls b) (pls a)))) (woL (pls b) (pls a)).length = true :=
    adK_yes (fun j hj h => (mem_woL.1 (sv_mem sA hj)).2 (mem_rmL.1 h).1) (sv_ne sA nA)
  have hs : srt (apL a (woL (pls b) (pls a)).length (col (woL (pls b) (pls a))) (woL (pls a) (pls b)).length (col (woL (pls a) (pls b)))) = pls b := by
    refine (srt_congr ((List.perm_ext_iff_of_nodup (adL_nodup (rmL_nodup (pls_nodup ha) _ _) kA) (pls_nodup hb)).2 fun p => ?_)).trans (srt_idem _)
    rw [mem_adL, mem_rmL]
    constructor
    · rintro (⟨h1, h2⟩ | ⟨j, hj, e⟩)
      · by_cases h : p ∈ pls b
        · exact h
        · obtain ⟨j, hj, e⟩ := sv_ex sR (mem_woL.2 ⟨h1, h⟩)
          exact absurd e.symm (h2 j hj)
      · rw [← e]; exact (mem_woL.1 (sv_mem sA hj)).1
    · intro h
      by_cases h1 : p ∈ pls a
      · refine .inl ⟨h1, fun j hj e => ?_⟩
        have := (mem_woL.1 (sv_mem sR hj)).2
        rw [← e] at this
        exact this h
      · exact .inr (sv_ex sA (mem_woL.2 ⟨h, h1⟩))
  have hE := apE_go h0 kR kA
  rw [hs, hk] at hE
  exact ⟨hE, by rw [apS, if_pos hE, hs]⟩
theorem woL_self (l : List (List Int)) : woL l l = [] := by
  rw [woL, List.filter_eq_nil_iff]
  intro p hp
  rw [inB, decide_eq_true hp]; decide
abbrev dfP (a b : Scf) : Scf := apS a (dfA a b).length (col (dfA a b)) (dfR a b).length (col (dfR a b))
abbrev dfPE (a b : Scf) : Int := apE a (dfA a b).length (col (dfA a b)) (dfR a b).length (col (dfR a b))
def zz (_ _ : Nat) : Int := 0
abbrev noC (a b : Scf) : Bool := sameP (dfA a b).length (col (dfA a b)) 0 zz && sameP (dfR a b).length (col (dfR a b)) 0 zz
abbrev eqC (a b : Scf) : Bool := sameP (dfA a b).length (col (dfA a b)) (woL (pls b) (pls a)).length (col (woL (pls b) (pls a))) && sameP (dfR a b).length (col (dfR a b)) (woL (pls a) (pls b)).length (col (woL (pls a) (pls b)))
theorem FnC_arg2 {P : Program} {f : FuncId} {x y y' d : DV} (hy : ∀ rd v, RelC rd y' v → RelC rd y v) (h : FnC P f [x, y] d) : FnC P f [x, y'] d :=
  ⟨h.1, fun S w vs h1 h2 h3 => h.2 S w vs h1 (fun j e v hd hv => by
    match j, hd with
    | 0, hd => exact h2 0 _ _ hd hv
    | 1, hd => cases hd; exact hy _ _ (h2 1 _ _ rfl hv)) h3⟩
theorem lst_nil {rd : Rd} (cols : List (Nat → DV)) : RelC rd (.lst 0 cols) (.slice none 0 0) :=
  .lst (fun _ _ => undef) (Nat.le_refl _) (fun i j f hi => absurd hi (Nat.not_lt_zero i)) (fun h => absurd h (Nat.lt_irrefl 0)) (fun i j f hi => absurd hi (Nat.not_lt_zero i)) fun i j f hi => absurd hi (Nat.not_lt_zero i)
theorem none_rel (rd : Rd) (v : Value) (h : RelC rd (.val (.agg #[.slice none 0 0, .slice none 0 0])) v) : RelC rd (chgD 0 zz 0 zz) v := by
  cases h
  refine .agg rfl fun j d u hd hu => ?_
  match j, hd, hu with
  | 0, hd, hu => cases hd; cases hu; exact lst_nil _
  | 1, hd, hu => cases hd; cases hu; exact lst_nil _
theorem noC_c (L M : List (List Int)) (hL : L.length ≤ 1000000) (hM : M.length ≤ 1000000) : FnC prog 71 [.agg [liD L, liD M], .val (.agg #[.slice none 0 0, .slice none 0 0])] (dB (sameP L.length (col L) 0 zz && sameP M.length (col M) 0 zz)) :=
  FnC_arg2 none_rel (sameChange_c L.length (col L) M.length (col M) 0 zz 0 zz hL hM)
theorem dfE_zero {a b : Scf} (h : dfE a b = 0) : chkE a = 0 ∧ chkE b = 0 := by
  unfold dfE at h
  split at h
  · rename_i h0; exact ⟨h0, h⟩
  · rename_i h0; exact absurd h h0
theorem dfA_len (a b : Scf) : (dfA a b).length ≤ b.nM := by
  have := wo_len (pls b) (pls a)
  have := pls_len b
  unfold dfA dfL
  split
  · omega
  · exact Nat.zero_le _
theorem dfR_len (a b : Scf) : (dfR a b).length ≤ a.nM := by
  have := wo_len (pls a) (pls b)
  have := pls_len a
  unfold dfR dfL
  split
  · omega
  · exact Nat.zero_le _
theorem dfL_self (a : Scf) : dfA a a = [] := by
  unfold dfA dfL
  rw [woL_self]
  exact ite_self _
theorem nil_same : sameP ([] : List (List Int)).length (col []) 0 zz = true := decide_eq_true ⟨rfl, fun j hj => absurd hj (Nat.not_lt_zero j)⟩
theorem sameP_self (n : Nat) (A : Nat → Nat → Int) : sameP n A n A = true := decide_eq_true ⟨rfl, fun _ _ => ⟨rfl, rfl, rfl, rfl, rfl, rfl, rfl⟩⟩
noncomputable def A14_diffs_c (a b : Scf) : Ann := { orc := [(1, [(0, .res fun _ => dB true)]), (3, [(1, .res fun _ => dB (fewF a)), (5, .res fun _ => dB (fewF b))]), (5, [(2, .res fun _ => .tup [dfD a b, dI (dfE a b)])]), (6, [(1, .res fun _ => dI (chkE a))]), (8, [(1, .res fun _ => dI (chkE b))]), (10, [(6, .res fun _ => dB (noC a b))]), (11, [(6, .res fun _ => .agg [liD (woL (pls b) (pls a)), liD (woL (pls a) (pls b))]), (7, .res fun _ => dB (eqC a b))]), (13, [(2, .res fun _ => .tup [scfD (dfP a b), dI (dfPE a b)])]), (14, [(1, .res fun _ => .tup [scfD (nmS b), dI (chkE b)])]), (15, [(2, .res fun _ => .tup [dfD a a, dI (dfE a a)])]), (16, [(9, .res fun _ => dB (sameS (dfP a b) (nmS b))), (18, .res fun _ => dB (noC a a))])], loops := [], cuts := [(9, { ι := Unit, keep := [2, 3, 5, 6], boxes := [2, 3, 5], ts := fun _ _ => [(7, dI (dfE a b))], inv := fun _ _ => True, mu := fun _ _ => 0, rd := fun _ _ => () })] }
noncomputable abbrev diffs_cd0 (a : Scf) (b : Scf) : DV := .agg [.lst (List.length (dfA a b)) [fun j => (dI (col (dfA a b) (0:Nat) j)), fun j => (dI (col (dfA a b) (1:Nat) j)), fun j => (dI (col (dfA a b) (2:Nat) j)), fun j => (dI (col (dfA a b) (3:Nat) j)), fun j => (dI (col (dfA a b) (4:Nat) j)), fun j => (dI (col (dfA a b) (5:Nat) j)), fun j => (dI (col (dfA a b) (6:Nat) j))], .lst (List.length (dfR a b)) [fun j => (dI (col (dfR a b) (0:Nat) j)), fun j => (dI (col (dfR a b) (1:Nat) j)), fun j => (dI (col (dfR a b) (2:Nat) j)), fun j => (dI (col (dfR a b) (3:Nat) j)), fun j => (dI (col (dfR a b) (4:Nat) j)), fun j => (dI (col (dfR a b) (5:Nat) j)), fun j => (dI (col (dfR a b) (6:Nat) j))]]
noncomputable abbrev diffs_cd1 (a : Scf) : DV := .agg [.lst a.nN [fun i => (dI (a.X i)), fun i => (dI (a.Y i)), fun i => (dI (a.Z i))], .lst a.nM [fun i => (dI (a.K i)), fun i => (dI (a.A i)), fun i => (dI (a.B i))]]
noncomputable abbrev diffs_cd2 (a : Scf) (b : Scf) : DV := .agg [.lst (List.length (woL (pls b) (pls a))) [fun j => (dI (col (woL (pls b) (pls a)) (0:Nat) j)), fun j => (dI (col (woL (pls b) (pls a)) (1:Nat) j)), fun j => (dI (col (woL (pls b) (pls a)) (2:Nat) j)), fun j => (dI (col (woL (pls b) (pls a)) (3:Nat) j)), fun j => (dI (col (woL (pls b) (pls a)) (4:Nat) j)), fun j => (dI (col (woL (pls b) (pls a)) (5:Nat) j)), fun j => (dI (col (woL (pls b) (pls a)) (6:Nat) j))], .lst (List.length (woL (pls a) (pls b))) [fun j => (dI (col (woL (pls a) (pls b)) (0:Nat) j)), fun j => (dI (col (woL (pls a) (pls b)) (1:Nat) j)), fun j => (dI (col (woL (pls a) (pls b)) (2:Nat) j)), fun j => (dI (col (woL (pls a) (pls b)) (3:Nat) j)), fun j => (dI (col (woL (pls a) (pls b)) (4:Nat) j)), fun j => (dI (col (woL (pls a) (pls b)) (5:Nat) j)), fun j => (dI (col (woL (pls a) (pls b)) (6:Nat) j))]]
noncomputable abbrev diffs_cd3 (a : Scf) : DV := .agg [.lst (List.length (dfA a a)) [fun j => (dI (col (dfA a a) (0:Nat) j)), fun j => (dI (col (dfA a a) (1:Nat) j)), fun j => (dI (col (dfA a a) (2:Nat) j)), fun j => (dI (col (dfA a a) (3:Nat) j)), fun j => (dI (col (dfA a a) (4:Nat) j)), fun j => (dI (col (dfA a a) (5:Nat) j)), fun j => (dI (col (dfA a a) (6:Nat) j))], .lst (List.length (dfR a a)) [fun j => (dI (col (dfR a a) (0:Nat) j)), fun j => (dI (col (dfR a a) (1:Nat) j)), fun j => (dI (col (dfR a a) (2:Nat) j)), fun j => (dI (col (dfR a a) (3:Nat) j)), fun j => (dI (col (dfR a a) (4:Nat) j)), fun j => (dI (col (dfR a a) (5:Nat) j)), fun j => (dI (col (dfR a a) (6:Nat) j))]]
noncomputable abbrev diffs_cd4 (b : Scf) : DV := .agg [.lst b.nN [fun i => (dI (b.X i)), fun i => (dI (b.Y i)), fun i => (dI (b.Z i))], .lst b.nM [fun i => (dI (b.K i)), fun i => (dI (b.A i)), fun i => (dI (b.B i))]]
noncomputable abbrev diffs_cd5 (a : Scf) (b : Scf) : DV := .agg [.lst (dfP a b).nN [fun i => (dI ((dfP a b).X i)), fun i => (dI ((dfP a b).Y i)), fun i => (dI ((dfP a b).Z i))], .lst (dfP a b).nM [fun i => (dI ((dfP a b).K i)), fun i => (dI ((dfP a b).A i)), fun i => (dI ((dfP a b).B i))]]
noncomputable abbrev diffs_cd6 (b : Scf) : DV := .agg [.lst (nmS b).nN [fun i => (dI ((nmS b).X i)), fun i => (dI ((nmS b).Y i)), fun i => (dI ((nmS b).Z i))], .lst (nmS b).nM [fun i => (dI ((nmS b).K i)), fun i => (dI ((nmS b).A i)), fun i => (dI ((nmS b).B i))]]
noncomputable abbrev diffs_cr0 (a : Scf) (b : Scf) (r : List Prop) : List Prop := (dfE a b = dfE a b) :: (a.nN = a.nN) :: (∀ (i : Nat), i < a.nN → a.X i = a.X i) :: (∀ (i : Nat), i < a.nN → a.Y i = a.Y i) :: (∀ (i : Nat), i < a.nN → a.Z i = a.Z i) :: (a.nM = a.nM) :: (∀ (i : Nat), i < a.nM → a.K i = a.K i) :: (∀ (i : Nat), i < a.nM → a.A i = a.A i) :: (∀ (i : Nat), i < a.nM → a.B i = a.B i) :: (b.nN = b.nN) :: (∀ (i : Nat), i < b.nN → b.X i = b.X i) :: (∀ (i : Nat), i < b.nN → b.Y i = b.Y i) :: (∀ (i : Nat), i < b.nN → b.Z i = b.Z i) :: (b.nM = b.nM) :: (∀ (i : Nat), i < b.nM → b.K i = b.K i) :: (∀ (i : Nat), i < b.nM → b.A i = b.A i) :: (∀ (i : Nat), i < b.nM → b.B i = b.B i) :: (List.length (dfA a b) = List.length (dfA a b)) :: (∀ (i : Nat), i < List.length (dfA a b) → col (dfA a b) (0:Nat) i = col (dfA a b) (0:Nat) i) :: (∀ (i : Nat), i < List.length (dfA a b) → col (dfA a b) (1:Nat) i = col (dfA a b) (1:Nat) i) :: (∀ (i : Nat), i < List.length (dfA a b) → col (dfA a b) (2:Nat) i = col (dfA a b) (2:Nat) i) :: (∀ (i : Nat), i < List.length (dfA a b) → col (dfA a b) (3:Nat) i = col (dfA a b) (3:Nat) i) :: (∀ (i : Nat), i < List.length (dfA a b) → col (dfA a b) (4:Nat) i = col (dfA a b) (4:Nat) i) :: (∀ (i : Nat), i < List.length (dfA a b) → col (dfA a b) (5:Nat) i = col (dfA a b) (5:Nat) i) :: (∀ (i : Nat), i < List.length (dfA a b) → col (dfA a b) (6:Nat) i = col (dfA a b) (6:Nat) i) :: (List.length (dfR a b) = List.length (dfR a b)) :: (∀ (i : Nat), i < List.length (dfR a b) → col (dfR a b) (0:Nat) i = col (dfR a b) (0:Nat) i) :: (∀ (i : Nat), i < List.length (dfR a b) → col (dfR a b) (1:Nat) i = col (dfR a b) (1:Nat) i) :: (∀ (i : Nat), i < List.length (dfR a b) → col (dfR a b) (2:Nat) i = col (dfR a b) (2:Nat) i) :: (∀ (i : Nat), i < List.length (dfR a b) → col (dfR a b) (3:Nat) i = col (dfR a b) (3:Nat) i) :: (∀ (i : Nat), i < List.length (dfR a b) → col (dfR a b) (4:Nat) i = col (dfR a b) (4:Nat) i) :: (∀ (i :
     Nat), i < List.length (dfR a b) → col (dfR a b) (5:Nat) i = col (dfR a b) (5:Nat) i) :: (∀ (i : Nat), i < List.length (dfR a b) → col (dfR a b) (6:Nat) i = col (dfR a b) (6:Nat) i) :: r
theorem diffs_c (a b : Scf)  : FnC prog 14 [scfD a, scfD b] (dB true) := by
  refine FnC_owed hmix (A14_diffs_c a b) (V := .need [FnC prog 15 [] ((dB true))] (.ite (!true) (.done [false = true]) (.need [FnC prog 16 [(diffs_cd1 a)] ((dB (decide (a.nN ≤ 40 ∧ a.nM ≤ 120)))), ri ((!!decide (a.nN ≤ 40 ∧ a.nM ≤ 120)) = true), (!!decide (a.nN ≤ 40 ∧ a.nM ≤ 120)) = true → FnC prog 16 [(diffs_cd4 b)] ((dB (decide (b.nN ≤ 40 ∧ b.nM ≤ 120)))), ri ((!!decide (a.nN ≤ 40 ∧ a.nM ≤ 120)) = true), (!decide (a.nN ≤ 40 ∧ a.nM ≤ 120)) = false → (!!decide (a.nN ≤ 40 ∧ a.nM ≤ 120)) = true] (.ite (if (!decide (a.nN ≤ 40 ∧ a.nM ≤ 120)) = true then true else !decide (b.nN ≤ 40 ∧ b.nM ≤ 120)) (.done [true = true]) (.need [FnC prog 70 [(diffs_cd1 a), (diffs_cd4 b)] (.tup [(diffs_cd0 a b), (dI (dfE a b))])] (.need [FnC prog 19 [(diffs_cd1 a)] ((dI (chkE a)))] (.cut PUnit (fun (a : PUnit) => True) (.ite (chkE a == 0) (.need [FnC prog 19 [(diffs_cd4 b)] ((dI (chkE b)))] (.done ((chkE b = dfE a b) :: (diffs_cr0 a b [True])))) (.done ((chkE a = dfE a b) :: (diffs_cr0 a b [True])))) fun (i : PUnit) => .ite (dfE a b != 0) (.need [ri ((dfE a b == dfE a b) = true), ri ((dfE a b == dfE a b) = true), (dfE a b == dfE a b) = true → FnC prog 71 [(diffs_cd0 a b), .val (.agg (Array.mk [Value.slice none 0 (0:Nat), Value.slice none 0 (0:Nat)]))] ((dB (sameP (List.length (dfA a b)) (col (dfA a b)) (0:Nat) zz && sameP (List.length (dfR a b)) (col (dfR a b)) (0:Nat) zz))), ri ((dfE a b == dfE a b) = true)] (.done [(if (dfE a b == dfE a b) = true then sameP (List.length (dfA a b)) (col (dfA a b)) (0:Nat) zz && sameP (List.length (dfR a b)) (col (dfR a b)) (0:Nat) zz else false) = true])) (.need [(!dfE a b != (0 :
     Int)) = true → (!dfE a b != 0) = true, ri ((!dfE a b != 0) = true), (!dfE a b != 0) = true → FnC prog 72 [(diffs_cd1 a), (diffs_cd4 b)] ((diffs_cd2 a b)), ri ((!dfE a b != 0) = true), ri ((!dfE a b != 0) = true), (!dfE a b != 0) = true → FnC prog 71 [(diffs_cd0 a b), (diffs_cd2 a b)] ((dB (sameP (List.length (dfA a b)) (col (dfA a b)) (List.length (woL (pls b) (pls a))) (col (woL (pls b) (pls a))) && sameP (List.length (dfR a b)) (col (dfR a b)) (List.length (woL (pls a) (pls b))) (col (woL (pls a) (pls b)))))), ri ((!dfE a b != 0) = true), (dfE a b != 0) = false → (!dfE a b != 0) = true] (.ite (if (dfE a b != 0) = true then true else !(sameP (List.length (dfA a b)) (col (dfA a b)) (List.length (woL (pls b) (pls a))) (col (woL (pls b) (pls a))) && sameP (List.length (dfR a b)) (col (dfR a b)) (List.length (woL (pls a) (pls b))) (col (woL (pls a) (pls b))))) (.done [false = true]) (.need [FnC prog 68 [(diffs_cd1 a), (diffs_cd0 a b)] (.tup [(diffs_cd5 a b), (dI (apE a (List.length (dfA a b)) (col (dfA a b)) (List.length (dfR a b)) (col (dfR a b))))])] (.need [FnC prog 61 [(diffs_cd4 b)] (.tup [(diffs_cd6 b), (dI (chkE b))])] (.need [FnC prog 70 [(diffs_cd1 a), (diffs_cd1 a)] (.tup [(diffs_cd3 a), (dI (dfE a a))])] (.need [ri ((apE a (List.length (dfA a b)) (col (dfA a b)) (List.length (dfR a b)) (col (dfR a b)) == 0) = true), ri ((apE a (List.length (dfA a b)) (col (dfA a b)) (List.length (dfR a b)) (col (dfR a b)) == 0) = true), ri ((if (apE a (List.length (dfA a b)) (col (dfA a b)) (List.length (dfR a b)) (col (dfR a b)) == 0) = true then chkE b == 0 else false) = true), ri ((if (apE a (List.length (dfA a b)) (col (dfA a b)) (List.length (dfR a b)) (col (dfR a b)) == 0) = true then chkE b == 0 else false) = true), (if (apE a (List.length (dfA a b)) (col (dfA a b)) (List.length (dfR a b)) (col (dfR a b)) == 0) = true then chkE b == 0 else false) = true → FnC prog 64 [(diffs_cd5 a b), (diffs_cd6 b)] ((dB (sameS (dfP a b) (nmS b)))), ri ((if (apE a (List.length (dfA a b)) (col (dfA a b)) (List.length (dfR a b)) (col (dfR a b)) == 0) = true then chkE b == 0 else false) = true), ri ((if (if (apE a (List.length (dfA a b)) (col (dfA a b)) (List.length (dfR a b)) (col (dfR a b)) == 0) = true then chkE b == 0 else false) = true then sameS (dfP a b) (nmS b) else false) = true), ri ((if (if (apE a (List.length (dfA a b)) (col (dfA a b)) (List.length (dfR a b)) (col (dfR a b)) == 0) = true then chkE b == 0 else false) = true then sameS (dfP a b) (nmS b) else false) = true), ri ((if (if (if (apE a (List.length (dfA a b)) (col (dfA a b)) (List.length (dfR a b)) (col (dfR a b)) == 0) = true then chkE b == 0 else false) = true then sameS (dfP a b) (nmS b) else false) = true then dfE a a == 0 else false) = true), ri ((if (if (if (apE a (List.length (dfA a b)) (col (dfA a b)) (List.length (dfR a b)) (col (dfR a b)) == 0) = true then chkE b == 0 else false) = true then sameS (dfP a b) (nmS b) else false) = true then dfE a a == 0 else false) = true), (if (if (if (apE a (List.length (dfA a b)) (col (dfA a b)) (List.length (dfR a b)) (col (dfR a b)) == 0) = true then chkE b == 0 else false) = true then sameS (dfP a b) (nmS b) else false) = true then dfE a a == 0 else false) = true → FnC prog 71 [(diffs_cd3 a), .val (.agg (Array.mk [Value.slice none 0 (0:Nat), Value.slice none 0 (0:Nat)]))] ((dB (sameP (List.length (dfA a a)) (col (dfA a a)) (0:Nat) zz && sameP (List.length (dfR a a)) (col (dfR a a)) (0:Nat) zz))), ri ((if (if (if (apE a (List.length (dfA a b)) (col (dfA a b)) (List.length (dfR a b)) (col (dfR a b)) == 0) = true then chkE b == 0 else false) = true then sameS (dfP a b) (nmS b) else false) = true then dfE a a == 0 else false) = true)] (.done [(if (if (if (if (apE a (List.length (dfA a b)) (col (dfA a b)) (List.length (dfR a b)) (col (dfR a b)) == 0) = true then chkE b == 0 else false) = true then sameS (dfP a b) (nmS b) else false) = true then dfE a a == 0 else false) = true then sameP (List.length (dfA a a)) (col (dfA a a)) (0:Nat) zz && sameP (List.length (dfR a a)) (col (dfR a a)) (0:Nat) zz else false) = true])))))))))))))) (by kernel_rfl) ?_
  simp only [VT.holds, AllT, diffs_cd0, diffs_cd1, diffs_cd2, diffs_cd3, diffs_cd4, diffs_cd5, diffs_cd6, diffs_cr0, Sq]
  refine ⟨awake_c, fun h => (by cases h), fun _ => ⟨⟨few_c a, fun _ => few_c b⟩, fun ⟨h1, h2⟩ => ?_⟩⟩
  have h1 : a.nN ≤ 40 ∧ a.nM ≤ 120 := Decidable.not_not.1 h1
  have la := dfA_len a b
  have lb := dfR_len a b
  have lc := dfA_len a a
  refine ⟨Diff_c a b, check_c a, ⟨fun h => ⟨check_c b, (if_pos h).symm⟩, fun h => (if_neg h).symm⟩, fun _ _ => ⟨fun h => ?_, fun h => ?_⟩⟩
  · have e2 : ∀ l, dfL a b l = [] := fun l => if_neg h
    have hA : dfA a b = [] := e2 _
    have hR : dfR a b = [] := e2 _
    refine ⟨fun _ => noC_c (dfA a b) (dfR a b) (by omega) (by omega), ?_⟩
    rw [hA, hR]
    exact ⟨nil_same, nil_same⟩
  · obtain ⟨h0a, h0b⟩ := dfE_zero h
    have ha := chk_facts h0a
    have hb := chk_facts h0b
    have e2 : ∀ l, dfL a b l = l := fun l => if_pos h
    have hA : dfA a b = woL (pls b) (pls a) := e2 _
    have hR : dfR a b = woL (pls a) (pls b) := e2 _
    have hk := chk_bld hb h2.2
    obtain ⟨d1, d2⟩ := dif_ap ha hb h0a hk
    rw [← hA, ← hR] at d1 d2
    have hN : nmS b = bldS (pls b) := if_pos h0b
    have hP : dfP a b = nmS b := d2.trans hN.symm
    have hAA : dfA a a = [] := dfL_self a
    have hRR : dfR a a = [] := dfL_self a
    have hEE : dfE a a = 0 := (if_pos h0a).trans h0a
    have nN : (nmS b).nN ≤ 480 := by
      rw [hN]
      have h3 := ndA_len (pls b) (pls b).length
      have h4 := ndS_len (pls b)
      have h5 := pls_len b
      show (ndS (pls b)).length ≤ 480
      omega
    have nM : (nmS b).nM ≤ 480 := by
      rw [hN]
      have h5 := pls_len b
      show (pls b).length ≤ 480
      omega
    have s1 : sameP (dfA a b).length (col (dfA a b)) (woL (pls b) (pls a)).length (col (woL (pls b) (pls a))) = true := by rw [hA]; exact sameP_self _ _
    have s2 : sameP (dfR a b).length (col (dfR a b)) (woL (pls a) (pls b)).length (col (woL (pls a) (pls b))) = true := by rw [hR]; exact sameP_self _ _
    have s3 : sameS (dfP a b) (nmS b) = true := by rw [hP]; exact sameS_self _
    refine ⟨⟨fun _ => diffR_c a b ha hb, fun _ => sameChange_c _ _ _ _ _ _ _ _ (by omega) (by omega)⟩, fun h9 => ?_, fun _ => ⟨Apply_c a _ _ _ _ (by omega) (by omega) (by omega), Normal_c b, Diff_c a a, ⟨fun _ => sameS_c _ _ (by rw [hP]; omega) (by rw [hP]; omega), fun _ => noC_c (dfA a a) (dfR a a) (by rw [hAA]; exact Nat.zero_le _) (by rw [hRR]; exact Nat.zero_le _)⟩, ⟨⟨⟨d1, h0b⟩, s3⟩, hEE⟩, ?_⟩⟩
    · rcases h9 with h9 | h9
      · exact absurd h h9
      · rw [h9 s1] at s2; cases s2
    · rw [hAA, hRR]
      exact ⟨nil_same, nil_same⟩
end Go.Abs
end
