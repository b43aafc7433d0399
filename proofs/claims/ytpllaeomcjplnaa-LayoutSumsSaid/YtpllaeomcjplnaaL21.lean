/- Contracts. -/
import Derived.Test.YtpllaeomcjplnaaL10
import Derived.Test.YtpllaeomcjplnaaLs
set_option linter.unusedVariables false
set_option linter.unusedSimpArgs false
set_option maxRecDepth 100000
namespace Go.Abs
open Go
/-- Whether a part leads on from so many units; the first one that does; how the units go; the bays and boards that are taken. -/
def okP (u : Nat) (X C T : Nat → Int) (k i : Nat) : Bool := decide (unitsOf u (X i) ≤ k ∧ 0 ≤ T (k - unitsOf u (X i)) ∧ T (k - unitsOf u (X i)) + C i = T k)
def pickP (u n : Nat) (X C T : Nat → Int) (k : Nat) : Nat := ((List.range n).find? (okP u X C T k)).getD 0
def kAt (u n : Nat) (X C T : Nat → Int) (K : Nat) : Nat → Nat
  | 0 => K
  | j + 1 => kAt u n X C T K j - unitsOf u (X (pickP u n X C T (kAt u n X C T K j)))
def takeL (u n : Nat) (X C T : Nat → Int) (b : Nat → Bool) (s : Bool) (K : Nat) : Nat → List Int
  | 0 => []
  | j + 1 => if kAt u n X C T K j ≠ 0 ∧ b (pickP u n X C T (kAt u n X C T K j)) = s then takeL u n X C T b s K j ++ [X (pickP u n X C T (kAt u n X C T K j))] else takeL u n X C T b s K j
abbrev lstD (l : List Int) : DV := nums l.length (fun i => l.getD i 0)
/-- What is taken, in order; nothing where there is no way. -/
def okC (u : Nat) (T : Nat → Int) (len : Int) : Bool := decide (len % (u : Int) = 0 ∧ 0 ≤ T (len / (u : Int)).toNat)
def closL (u n : Nat) (X C T : Nat → Int) (b : Nat → Bool) (s : Bool) (len : Int) : List Int := if okC u T len = true then sortD (takeL u n X C T b s (len / (u : Int)).toNat (len / (u : Int)).toNat) else []
def rSort : Orc := .turn fun l i => (sortD ((List.range (lenOf (arg l 0))).map (colI 0 (arg l 0)))).getD i 0
theorem bestF_att {l : List (Nat × Int)} {T : Nat → Int} {k : Nat} (hc : ∀ p ∈ l, 0 ≤ p.2) : ∀ (b : Int), 0 ≤ l.foldl (fun b p => minP b (candL T k p)) b → l.foldl (fun b p => minP b (candL T k p)) b = b ∨ ∃ p ∈ l, 0 ≤ candL T k p ∧ candL T k p = l.foldl (fun b p => minP b (candL T k p)) b := by
  induction l with
  | nil => intro b _; exact .inl rfl
  | cons q l ih =>
    intro b h
    have h' : 0 ≤ l.foldl (fun b p => minP b (candL T k p)) (minP b (candL T k q)) := h
    show l.foldl (fun b p => minP b (candL T k p)) (minP b (candL T k q)) = b ∨ ∃ p ∈ q :: l, 0 ≤ candL T k p ∧ candL T k p = l.foldl (fun b p => minP b (candL T k p)) (minP b (candL T k q))
    rcases ih (fun p hp => hc p (List.mem_cons_of_mem _ hp)) _ h' with e | ⟨p, hp, h1, h2⟩
    · rw [e] at h' ⊢
      by_cases hq : candL T k q < 0
      · left; rw [minP, if_pos hq]
      · by_cases hb : b < 0 ∨ candL T k q < b
        · right
          exact ⟨q, List.mem_cons_self, by omega, by rw [minP, if_neg hq, if_pos hb]⟩
        · left; rw [minP, if_neg hq, if_neg hb]
    · exact .inr ⟨p, List.mem_cons_of_mem _ hp, h1, h2⟩
/-- What is taken for granted of a catalogue and its table. -/
structure Tab (u n : Nat) (X C T : Nat → Int) : Prop where
  tab : T = tabL (plX u X C n)
  m1 : ∀ i, i < n → 1 ≤ unitsOf u (X i)
  c0 : ∀ i, i < n → 0 ≤ C i ∧ C i ≤ 10001
theorem Tab.bd {u n : Nat} {X C T : Nat → Int} (h : Tab u n X C T) : ∀ p ∈ plX u X C n, 0 ≤ p.2 ∧ p.2 ≤ 10001 := fun p hp => by
  obtain ⟨i, hi, rfl⟩ := List.mem_map.1 hp
  exact h.c0 i (List.mem_range.1 hi)
theorem Tab.zero {u n : Nat} {X C T : Nat → Int} (h : Tab u n X C T) : T 0 = 0 := by rw [h.tab, tabL_zero]
theorem okP_iff {u : Nat} {X C T : Nat → Int} {k i : Nat} : okP u X C T k i = true ↔ unitsOf u (X i) ≤ k ∧ 0 ≤ T (k - unitsOf u (X i)) ∧ T (k - unitsOf u (X i)) + C i = T k := by rw [okP, decide_eq_true_eq]
theorem ok_exists {u n : Nat} {X C T : Nat → Int} (h : Tab u n X C T) {k : Nat} (hk : 0 < k) (hT : 0 ≤ T k) : ∃ i, i < n ∧ okP u X C T k i = true := by
  have e : T k = bestL (plX u X C n) T k := by rw [h.tab]; exact tabL_eq _ hk
  rw [e] at hT
  rcases bestF_att (fun p hp => (h.bd p hp).1) _ hT with h1 | ⟨p, hp, h1, h2⟩
  · unfold bestL at hT; rw [h1] at hT; omega
  · obtain ⟨i, hi, rfl⟩ := List.mem_map.1 hp
    refine ⟨i, List.mem_range.1 hi, okP_iff.2 ?_⟩
    have h3 : candL T k (unitsOf u (X i), C i) = T k := by rw [h2, e]; rfl
    unfold candL at h1 h3
    by_cases hc : 1 ≤ unitsOf u (X i) ∧ unitsOf u (X i) ≤ k ∧ 0 ≤ T (k - unitsOf u (X i))
    · rw [if_pos hc] at h3
      exact ⟨hc.2.1, hc.2.2, h3⟩
    · rw [if_neg hc] at h1; omega
theorem pick_spec {u n : Nat} {X C T : Nat → Int} (h : Tab u n X C T) {k : Nat} (hk : 0 < k) (hT : 0 ≤ T k) : pickP u n X C T k < n ∧ okP u X C T k (pickP u n X C T k) = true ∧ ∀ j, j < pickP u n X C T k → okP u X C T k j = false := by
  unfold pickP
  cases hf : (List.range n).find? (okP u X C T k) with
  | none =>
    obtain ⟨i, hi, ho⟩ := ok_exists h hk hT
    exact absurd ho (List.find?_eq_none.1 hf i (List.mem_range.2 hi))
  | some i =>
    have := List.find?_range_eq_some.1 hf
    refine ⟨List.mem_range.1 this.2.1, this.1, fun j hj => ?_⟩
    have := this.2.2 j hj
    simpa using this
theorem pick_eq {u n : Nat} {X C T : Nat → Int} (h : Tab u n X C T) {k i : Nat} (hk : 0 < k) (hT : 0 ≤ T k) (ho : okP u X C T k i = true) (hb : ∀ j, j < i → okP u X C T k j = false) : pickP u n X C T k = i := by
  obtain ⟨h1, h2, h3⟩ := pick_spec h hk hT
  rcases Nat.lt_trichotomy (pickP u n X C T k) i with hl | hl | hl
  · rw [hb _ hl] at h2; cases h2
  · exact hl
  · rw [h3 _ hl] at ho; cases ho
section
variable {u n : Nat} {X C T : Nat → Int} {b : Nat → Bool} {K : Nat}
theorem kAt_ok (h : Tab u n X C T) (hK : 0 ≤ T K) : ∀ j, 0 ≤ T (kAt u n X C T K j)
  | 0 => hK
  | j + 1 => by
    have ih := kAt_ok h hK j
    by_cases h0 : kAt u n X C T K j = 0
    · rw [kAt, h0, Nat.zero_sub, h.zero]; omega
    · exact (okP_iff.1 (pick_spec h (by omega) ih).2.1).2.1
theorem kAt_lt (h : Tab u n X C T) (hK : 0 ≤ T K) {j : Nat} (h0 : kAt u n X C T K j ≠ 0) : kAt u n X C T K (j + 1) + unitsOf u (X (pickP u n X C T (kAt u n X C T K j))) = kAt u n X C T K j ∧ 1 ≤ unitsOf u (X (pickP u n X C T (kAt u n X C T K j))) := by
  obtain ⟨h1, h2, _⟩ := pick_spec h (by omega) (kAt_ok h hK j)
  have h3 := (okP_iff.1 h2).1
  have h4 := h.m1 _ h1
  rw [kAt]; omega
theorem kAt_zero {j : Nat} (h0 : kAt u n X C T K j = 0) : ∀ i, j ≤ i → kAt u n X C T K i = 0
  | 0, hi => by rw [show j = 0 by omega] at h0; exact h0
  | i + 1, hi => by
    by_cases e : j = i + 1
    · rw [← e]; exact h0
    · rw [kAt, kAt_zero h0 i (by omega), Nat.zero_sub]
theorem kAt_le (h : Tab u n X C T) (hK : 0 ≤ T K) : ∀ {j : Nat}, (∀ i, i < j → kAt u n X C T K i ≠ 0) → kAt u n X C T K j + j ≤ K
  | 0, _ => Nat.le_refl _
  | j + 1, hj => by
    have := kAt_le h hK (j := j) fun i hi => hj i (by omega)
    have := kAt_lt h hK (hj j (by omega))
    omega
theorem kAt_end (h : Tab u n X C T) (hK : 0 ≤ T K) : kAt u n X C T K K = 0 := by
  apply Classical.byContradiction
  intro h0
  have : ∀ i, i < K + 1 → kAt u n X C T K i ≠ 0 := fun i hi h1 => h0 (kAt_zero h1 K (by omega))
  have := kAt_le h hK this
  omega
theorem take_stay {s : Bool} {j : Nat} (h0 : kAt u n X C T K j = 0) : ∀ i, j ≤ i → takeL u n X C T b s K i = takeL u n X C T b s K j
  | 0, hi => by rw [show j = 0 by omega]
  | i + 1, hi => by
    by_cases e : j = i + 1
    · rw [e]
    · rw [takeL, if_neg (fun hx => hx.1 (kAt_zero h0 i (by omega))), take_stay h0 i (by omega)]
theorem take_len : ∀ {j : Nat}, (∀ i, i < j → kAt u n X C T K i ≠ 0) → (takeL u n X C T b false K j).length + (takeL u n X C T b true K j).length = j
  | 0, _ => rfl
  | j + 1, hj => by
    have ih := take_len (j := j) fun i hi => hj i (by omega)
    have h0 := hj j (by omega)
    simp only [takeL]
    cases hb : b (pickP u n X C T (kAt u n X C T K j)) with
    | false =>
      rw [if_pos ⟨h0, rfl⟩, if_neg (fun hx => by cases hx.2), List.length_append, List.length_singleton]; omega
    | true =>
      rw [if_neg (fun hx => by cases hx.2), if_pos ⟨h0, rfl⟩, List.length_append, List.length_singleton]; omega
theorem take_mem (h : Tab u n X C T) (hK : 0 ≤ T K) {s : Bool} : ∀ {j : Nat} {x : Int}, x ∈ takeL u n X C T b s K j → ∃ i, i < n ∧ x = X i ∧ b i = s
  | 0, x, hx => by cases hx
  | j + 1, x, hx => by
    rw [takeL] at hx
    split at hx
    · rename_i hc
      rcases List.mem_append.1 hx with hx | hx
      · exact take_mem h hK hx
      · exact ⟨_, (pick_spec h (by omega) (kAt_ok h hK j)).1, by simpa using hx, hc.2⟩
    · exact take_mem h hK hx
end
theorem range_getD_self (l : List Int) : (List.range l.length).map (fun i => l.getD i 0) = l := by
  apply List.ext_getElem
  · simp
  · intro i h1 h2; simp [h2]
theorem sortD_perm (l : List Int) : (sortD l).Perm l := List.mergeSort_perm _ _
theorem sortD_len (l : List Int) : (sortD l).length = l.length := (sortD_perm l).length_eq
theorem snocI_getD {l : List Int} {x : Int} {i : Nat} (h : i < (l ++ [x]).length) : (l ++ [x]).getD i 0 = if i < l.length then l.getD i 0 else x := by
  simp only [List.length_append, List.length_cons, List.length_nil] at h
  split
  · rename_i h1
    simp [List.getElem?_append_left h1]
  · rw [show i = l.length by omega]; simp
noncomputable def A23_close_c (u n : Nat) (X C : Nat → Int) (b : Nat → Bool) (T : Nat → Int) (tn : Nat) (len : Int) : Ann := { orc := [(2, [(6, .pos), (14, .pos)]), (4, [(3, .pos)]), (9, [(4, .pos)]), (19, [(1, rSort)])], loops := [(0, { ι := Nat, keep := [1, 2, 3, 6, 8], boxes := [3, 6], ts := fun _ j => [(9, dI (kAt u n X C T (len / (u : Int)).toNat j : Nat))], bx := fun σ j => [(8, [.row 1 (σ.nx + 50) 0 (takeL u n X C T b false (len / (u : Int)).toNat j).length, .row 1 (σ.nx + 51) 0 (takeL u n X C T b true (len / (u : Int)).toNat j).length])], rb := fun _ j => [(8, 0, 1, (takeL u n X C T b false (len / (u : Int)).toNat j).length, [fun i => .val (.int .i64 ((takeL u n X C T b false (len / (u : Int)).toNat j).getD i 0))]), (8, 1, 1, (takeL u n X C T b true (len / (u : Int)).toNat j).length, [fun i => .val (.int .i64 ((takeL u n X C T b true (len / (u : Int)).toNat j).getD i 0))])], inv := fun _ j => ∀ i, i < j → kAt u n X C T (len / (u : Int)).toNat i ≠ 0, mu := fun _ j => kAt u n X C T (len / (u : Int)).toNat j, rd := fun _ σ => nOf (cellOf σ 0 (σ.get 8)) + nOf (cellOf σ 1 (σ.get 8)) }), (2, { ι := Nat, keep := [1, 2, 3, 6, 8, 9, 42, 43], boxes := [3, 6], ts := fun _ i => [(44, dI (i : Int))], bx := fun σ _ => [(8, [.row 1 (σ.nx + 50) 0 (nOf (cellOf σ 0 (σ.get 8))), .row 1 (σ.nx + 51) 0 (nOf (cellOf σ 1 (σ.get 8)))])], rb := fun σ _ => [(8, 0, 1, nOf (cellOf σ 0 (σ.get 8)), [cOf σ 0 (cellOf σ 0 (σ.get 8))]), (8, 1, 1, nOf (cellOf σ 1 (σ.get 8)), [cOf σ 0 (cellOf σ 1 (σ.get 8))])], inv := fun σ i => i ≤ n ∧ ∀ k, k < i → okP u X C T (iOf (σ.get 9)).toNat k = false, mu := fun _ i => n - i, rd := fun _ σ => (iOf (σ.get 44)).toNat })], cuts := [], unroll := [(4, 3)] }
theorem close_c (u n : Nat) (X C : Nat → Int) (b : Nat → Bool) (T : Nat → Int) (tn : Nat) (len : Int) (hu : 1 ≤ u) (hu2 : u ≤ 10000) (hn : n ≤ 16) (htab : Tab u n X C T) (hX : ∀ i, i < n → 1 ≤ X i ∧ X i ≤ 10000) (h0 : 0 ≤ len) (h1 : len ≤ 4000 * (u : Int)) (htn : tn = (len / (u : Int) + 1).toNat) : FnC prog 23 [catD u n X C b, nums tn T, dI len] (.tup [.agg [lstD (closL u n X C T b false len), lstD (closL u n X C T b true len)], dB (okC u T len)]) := by
  refine FnC_owed hmix (A23_close_c u n X C b T tn len) (V := VT.need
        [(!decide (len < (0 : Int))) = true → (!decide (len < (0 : Int))) = true,
          (!decide (len < (0 : Int))) = true → (!decide (len < (0 : Int))) = true,
          (!decide (len < (0 : Int))) = true → (!decide (len < (0 : Int))) = true,
          (!decide (len < (0 : Int))) = true → (0 : Int) ≤ len ∧ (0 : Int) < (↑u : Int),
          (!decide (len < (0 : Int))) = true → (!decide (len < (0 : Int))) = true,
          decide (len < (0 : Int)) = false → (!decide (len < (0 : Int))) = true,
          (!if decide (len < (0 : Int)) = true then true else len % (↑u : Int) != (0 : Int)) = true →
            (!if decide (len < (0 : Int)) = true then true else len % (↑u : Int) != (0 : Int)) = true,
          (!if decide (len < (0 : Int)) = true then true else len % (↑u : Int) != (0 : Int)) = true →
            (!if decide (len < (0 : Int)) = true then true else len % (↑u : Int) != (0 : Int)) = true,
          (!if decide (len < (0 : Int)) = true then true else len % (↑u : Int) != (0 : Int)) = true →
            (!if decide (len < (0 : Int)) = true then true else len % (↑u : Int) != (0 : Int)) = true,
          (!if decide (len < (0 : Int)) = true then true else len % (↑u : Int) != (0 : Int)) = true →
            (0 : Int) ≤ len ∧ (0 : Int) < (↑u : Int) ∧ len ≤ (9223372036854775807 : Int),
          (!if decide (len < (0 : Int)) = true then true else len % (↑u : Int) != (0 : Int)) = true →
            (!if decide (len < (0 : Int)) = true then true else len % (↑u : Int) != (0 : Int)) = true,
          (!if decide (len < (0 : Int)) = true then true else len % (↑u : Int) != (0 : Int)) = true →
            (!if decide (len < (0 : Int)) = true then true else len % (↑u : Int) != (0 : Int)) = true,
          (!if decide (len < (0 : Int)) = true then true else len % (↑u : Int) != (0 : Int)) = true →
            (0 : Int) ≤ len / (↑u : Int) ∧ len / (↑u : Int) < (↑tn : Int),
          (!if decide (len < (0 : Int)) = true then true else len % (↑u : Int) != (0 : Int)) = true →
            (!if decide (len < (0 : Int)) = true then true else len % (↑u : Int) != (0 : Int)) = true,
          (!if decide (len < (0 : Int)) = true then true else len % (↑u : Int) != (0 : Int)) = true →
            (!if decide (len < (0 : Int)) = true then true else len % (↑u : Int) != (0 : Int)) = true,
          (if decide (len < (0 : Int)) = true then true else len % (↑u : Int) != (0 : Int)) = false →
            (!if decide (len < (0 : Int)) = true then true else len % (↑u : Int) != (0 : Int)) = true]
        (VT.ite
          (if (if decide (len < (0 : Int)) = true then true else len % (↑u : Int) != (0 : Int)) = true then true
          else decide (T (Int.toNat (len / (↑u : Int))) < (0 : Int)))
          (VT.done
            [List.length (closL u n X C T b false len) = (0 : Nat), List.length (closL u n X C T b true len) = (0 : Nat),
              false = okC u T len])
          (VT.need [(0 : Int) ≤ len ∧ (0 : Int) < (↑u : Int) ∧ len ≤ (9223372036854775807 : Int)]
            (VT.loop Nat (fun (a : Nat) => ∀ (i : Nat), i < a → kAt u n X C T (Int.toNat (len / (↑u : Int))) i ≠ (0 : Nat))
              (nat_lit 0 + nat_lit 0)
              [len / (↑u : Int) = (↑(kAt u n X C T (Int.toNat (len / (↑u : Int))) (nat_lit 0 + nat_lit 0)) : Int), tn = tn,
                ∀ (i : Nat), i < tn → T i = T i, len = len, nat_lit 0 = (0 : Nat), nat_lit 0 = (0 : Nat),
                (0 : Nat) = (0 : Nat), nat_lit 0 = (0 : Nat), (0 : Nat) = (0 : Nat), nat_lit 0 = (0 : Nat),
                (↑u : Int) = (↑u : Int), n = n, ∀ (i : Nat), i < n → X i = X i, ∀ (i : Nat), i < n → C i = C i,
                ∀ (i : Nat), i < n → b i = b i, Value.slice none (0 : Nat) (0 : Nat) = Value.slice none (0 : Nat) (0 : Nat),
                Value.slice none (0 : Nat) (0 : Nat) = Value.slice none (0 : Nat) (0 : Nat)]
              fun (i : Nat) =>
              VT.ite (decide ((↑(kAt u n X C T (Int.toNat (len / (↑u : Int))) i) : Int) > (0 : Int)))
                (VT.loop Nat
                  (fun (a : Nat) =>
                    a ≤ n ∧
                      ∀ (k : Nat),
                        k < a → okP u X C T (Int.toNat (↑(kAt u n X C T (Int.toNat (len / (↑u : Int))) i) : Int)) k = false)
                  (Int.toNat (0 : Int))
                  [(0 : Int) = (↑(Int.toNat (0 : Int)) : Int), tn = tn, ∀ (i : Nat), i < tn → T i = T i, len = len,
                    (↑(kAt u n X C T (Int.toNat (len / (↑u : Int))) i) : Int) =
                      (↑(kAt u n X C T (Int.toNat (len / (↑u : Int))) i) : Int),
                    n = n, ∀ (i : Nat), i < n → X i = X i, ∀ (i : Nat), i < n → C i = C i, ∀ (i : Nat), i < n → b i = b i,
                    (↑n : Int) = (↑n : Int),
                    List.length (takeL u n X C T b false (Int.toNat (len / (↑u : Int))) i) =
                      List.length (takeL u n X C T b false (Int.toNat (len / (↑u : Int))) i),
                    ∀ (i_1 : Nat),
                      i_1 < List.length (takeL u n X C T b false (Int.toNat (len / (↑u : Int))) i) →
                        List.getD (takeL u n X C T b false (Int.toNat (len / (↑u : Int))) i) i_1 (0 : Int) =
                          List.getD (takeL u n X C T b false (Int.toNat (len / (↑u : Int))) i) i_1 (0 : Int),
                    List.length (takeL u n X C T b true (Int.toNat (len / (↑u : Int))) i) =
                      List.length (takeL u n X C T b true (Int.toNat (len / (↑u : Int))) i),
                    ∀ (i_1 : Nat),
                      i_1 < List.length (takeL u n X C T b true (Int.toNat (len / (↑u : Int))) i) →
                        List.getD (takeL u n X C T b true (Int.toNat (len / (↑u : Int))) i) i_1 (0 : Int) =
                          List.getD (takeL u n X C T b true (Int.toNat (len / (↑u : Int))) i) i_1 (0 : Int),
                    (0 : Nat) = (0 : Nat),
                    List.length (takeL u n X C T b false (Int.toNat (len / (↑u : Int))) i) =
                      List.length (takeL u n X C T b false (Int.toNat (len / (↑u : Int))) i),
                    (0 : Nat) = (0 : Nat),
                    List.length (takeL u n X C T b true (Int.toNat (len / (↑u : Int))) i) =
                      List.length (takeL u n X C T b true (Int.toNat (len / (↑u : Int))) i),
                    (↑u : Int) = (↑u : Int), n = n, ∀ (i : Nat), i < n → X i = X i, ∀ (i : Nat), i < n → C i = C i,
                    ∀ (i : Nat), i < n → b i = b i,
                    Value.slice none (0 : Nat) (0 : Nat) = Value.slice none (0 : Nat) (0 : Nat),
                    Value.slice none (0 : Nat) (0 : Nat) = Value.slice none (0 : Nat) (0 : Nat)]
                  fun (i_1 : Nat) =>
                  VT.ite (decide ((↑i_1 : Int) < (↑n : Int)))
                    (VT.need [(0 : Int) ≤ (↑i_1 : Int) ∧ (↑i_1 : Int) < (↑n : Int)]
                      (VT.need
                        [(0 : Int) ≤ X (Int.toNat (↑i_1 : Int)) ∧
                            (0 : Int) < (↑u : Int) ∧ X (Int.toNat (↑i_1 : Int)) ≤ (9223372036854775807 : Int)]
                        (VT.need
                          [(!decide
                                    (X (Int.toNat (↑i_1 : Int)) / (↑u : Int) >
                                      (↑(kAt u n X C T (Int.toNat (len / (↑u : Int))) i) : Int))) =
                                true →
                              (!decide
                                    (X (Int.toNat (↑i_1 : Int)) / (↑u : Int) >
                                      (↑(kAt u n X C T (Int.toNat (len / (↑u : Int))) i) : Int))) =
                                true,
                            (!decide
                                    (X (Int.toNat (↑i_1 : Int)) / (↑u : Int) >
                                      (↑(kAt u n X C T (Int.toNat (len / (↑u : Int))) i) : Int))) =
                                true →
                              (!decide
                                    (X (Int.toNat (↑i_1 : Int)) / (↑u : Int) >
                                      (↑(kAt u n X C T (Int.toNat (len / (↑u : Int))) i) : Int))) =
                                true,
                            (!decide
                                    (X (Int.toNat (↑i_1 : Int)) / (↑u : Int) >
                                      (↑(kAt u n X C T (Int.toNat (len / (↑u : Int))) i) : Int))) =
                                true →
                              i64In
                                ((↑(kAt u n X C T (Int.toNat (len / (↑u : Int))) i) : Int) -
                                  X (Int.toNat (↑i_1 : Int)) / (↑u : Int)),
                            (!decide
                                    (X (Int.toNat (↑i_1 : Int)) / (↑u : Int) >
                                      (↑(kAt u n X C T (Int.toNat (len / (↑u : Int))) i) : Int))) =
                                true →
                              (!decide
                                    (X (Int.toNat (↑i_1 : Int)) / (↑u : Int) >
                                      (↑(kAt u n X C T (Int.toNat (len / (↑u : Int))) i) : Int))) =
                                true,
                            (!decide
                                    (X (Int.toNat (↑i_1 : Int)) / (↑u : Int) >
                                      (↑(kAt u n X C T (Int.toNat (len / (↑u : Int))) i) : Int))) =
                                true →
                              (!decide
                                    (X (Int.toNat (↑i_1 : Int)) / (↑u : Int) >
                                      (↑(kAt u n X C T (Int.toNat (len / (↑u : Int))) i) : Int))) =
                                true,
                            (!decide
                                    (X (Int.toNat (↑i_1 : Int)) / (↑u : Int) >
                                      (↑(kAt u n X C T (Int.toNat (len / (↑u : Int))) i) : Int))) =
                                true →
                              (0 : Int) ≤
                                  (↑(kAt u n X C T (Int.toNat (len / (↑u : Int))) i) : Int) -
                                    X (Int.toNat (↑i_1 : Int)) / (↑u : Int) ∧
                                (↑(kAt u n X C T (Int.toNat (len / (↑u : Int))) i) : Int) -
                                    X (Int.toNat (↑i_1 : Int)) / (↑u : Int) <
                                  (↑tn : Int),
                            (!decide
                                    (X (Int.toNat (↑i_1 : Int)) / (↑u : Int) >
                                      (↑(kAt u n X C T (Int.toNat (len / (↑u : Int))) i) : Int))) =
                                true →
                              (!decide
                                    (X (Int.toNat (↑i_1 : Int)) / (↑u : Int) >
                                      (↑(kAt u n X C T (Int.toNat (len / (↑u : Int))) i) : Int))) =
                                true,
                            (!decide
                                    (X (Int.toNat (↑i_1 : Int)) / (↑u : Int) >
                                      (↑(kAt u n X C T (Int.toNat (len / (↑u : Int))) i) : Int))) =
                                true →
                              (!decide
                                    (X (Int.toNat (↑i_1 : Int)) / (↑u : Int) >
                                      (↑(kAt u n X C T (Int.toNat (len / (↑u : Int))) i) : Int))) =
                                true,
                            decide
                                  (X (Int.toNat (↑i_1 : Int)) / (↑u : Int) >
                                    (↑(kAt u n X C T (Int.toNat (len / (↑u : Int))) i) : Int)) =
                                false →
                              (!decide
                                    (X (Int.toNat (↑i_1 : Int)) / (↑u : Int) >
                                      (↑(kAt u n X C T (Int.toNat (len / (↑u : Int))) i) : Int))) =
                                true,
                            (!if
                                      decide
                                          (X (Int.toNat (↑i_1 : Int)) / (↑u : Int) >
                                            (↑(kAt u n X C T (Int.toNat (len / (↑u : Int))) i) : Int)) =
                                        true then
                                    true
                                  else
                                    decide
                                      (T
                                          (Int.toNat
                                            ((↑(kAt u n X C T (Int.toNat (len / (↑u : Int))) i) : Int) -
                                              X (Int.toNat (↑i_1 : Int)) / (↑u : Int))) <
                                        (0 : Int))) =
                                true →
                              (!if
                                      decide
                                          (X (Int.toNat (↑i_1 : Int)) / (↑u : Int) >
                                            (↑(kAt u n X C T (Int.toNat (len / (↑u : Int))) i) : Int)) =
                                        true then
                                    true
                                  else
                                    decide
                                      (T
                                          (Int.toNat
                                            ((↑(kAt u n X C T (Int.toNat (len / (↑u : Int))) i) : Int) -
                                              X (Int.toNat (↑i_1 : Int)) / (↑u : Int))) <
                                        (0 : Int))) =
                                true,
                            (!if
                                      decide
                                          (X (Int.toNat (↑i_1 : Int)) / (↑u : Int) >
                                            (↑(kAt u n X C T (Int.toNat (len / (↑u : Int))) i) : Int)) =
                                        true then
                                    true
                                  else
                                    decide
                                      (T
                                          (Int.toNat
                                            ((↑(kAt u n X C T (Int.toNat (len / (↑u : Int))) i) : Int) -
                                              X (Int.toNat (↑i_1 : Int)) / (↑u : Int))) <
                                        (0 : Int))) =
                                true →
                              (!if
                                      decide
                                          (X (Int.toNat (↑i_1 : Int)) / (↑u : Int) >
                                            (↑(kAt u n X C T (Int.toNat (len / (↑u : Int))) i) : Int)) =
                                        true then
                                    true
                                  else
                                    decide
                                      (T
                                          (Int.toNat
                                            ((↑(kAt u n X C T (Int.toNat (len / (↑u : Int))) i) : Int) -
                                              X (Int.toNat (↑i_1 : Int)) / (↑u : Int))) <
                                        (0 : Int))) =
                                true,
                            (!if
                                      decide
                                          (X (Int.toNat (↑i_1 : Int)) / (↑u : Int) >
                                            (↑(kAt u n X C T (Int.toNat (len / (↑u : Int))) i) : Int)) =
                                        true then
                                    true
                                  else
                                    decide
                                      (T
                                          (Int.toNat
                                            ((↑(kAt u n X C T (Int.toNat (len / (↑u : Int))) i) : Int) -
                                              X (Int.toNat (↑i_1 : Int)) / (↑u : Int))) <
                                        (0 : Int))) =
                                true →
                              i64In
                                ((↑(kAt u n X C T (Int.toNat (len / (↑u : Int))) i) : Int) -
                                  X (Int.toNat (↑i_1 : Int)) / (↑u : Int)),
                            (!if
                                      decide
                                          (X (Int.toNat (↑i_1 : Int)) / (↑u : Int) >
                                            (↑(kAt u n X C T (Int.toNat (len / (↑u : Int))) i) : Int)) =
                                        true then
                                    true
                                  else
                                    decide
                                      (T
                                          (Int.toNat
                                            ((↑(kAt u n X C T (Int.toNat (len / (↑u : Int))) i) : Int) -
                                              X (Int.toNat (↑i_1 : Int)) / (↑u : Int))) <
                                        (0 : Int))) =
                                true →
                              (!if
                                      decide
                                          (X (Int.toNat (↑i_1 : Int)) / (↑u : Int) >
                                            (↑(kAt u n X C T (Int.toNat (len / (↑u : Int))) i) : Int)) =
                                        true then
                                    true
                                  else
                                    decide
                                      (T
                                          (Int.toNat
                                            ((↑(kAt u n X C T (Int.toNat (len / (↑u : Int))) i) : Int) -
                                              X (Int.toNat (↑i_1 : Int)) / (↑u : Int))) <
                                        (0 : Int))) =
                                true,
                            (!if
                                      decide
                                          (X (Int.toNat (↑i_1 : Int)) / (↑u : Int) >
                                            (↑(kAt u n X C T (Int.toNat (len / (↑u : Int))) i) : Int)) =
                                        true then
                                    true
                                  else
                                    decide
                                      (T
                                          (Int.toNat
                                            ((↑(kAt u n X C T (Int.toNat (len / (↑u : Int))) i) : Int) -
                                              X (Int.toNat (↑i_1 : Int)) / (↑u : Int))) <
                                        (0 : Int))) =
                                true →
                              (!if
                                      decide
                                          (X (Int.toNat (↑i_1 : Int)) / (↑u : Int) >
                                            (↑(kAt u n X C T (Int.toNat (len / (↑u : Int))) i) : Int)) =
                                        true then
                                    true
                                  else
                                    decide
                                      (T
                                          (Int.toNat
                                            ((↑(kAt u n X C T (Int.toNat (len / (↑u : Int))) i) : Int) -
                                              X (Int.toNat (↑i_1 : Int)) / (↑u : Int))) <
                                        (0 : Int))) =
                                true,
                            (!if
                                      decide
                                          (X (Int.toNat (↑i_1 : Int)) / (↑u : Int) >
                                            (↑(kAt u n X C T (Int.toNat (len / (↑u : Int))) i) : Int)) =
                                        true then
                                    true
                                  else
                                    decide
                                      (T
                                          (Int.toNat
                                            ((↑(kAt u n X C T (Int.toNat (len / (↑u : Int))) i) : Int) -
                                              X (Int.toNat (↑i_1 : Int)) / (↑u : Int))) <
                                        (0 : Int))) =
                                true →
                              (0 : Int) ≤
                                  (↑(kAt u n X C T (Int.toNat (len / (↑u : Int))) i) : Int) -
                                    X (Int.toNat (↑i_1 : Int)) / (↑u : Int) ∧
                                (↑(kAt u n X C T (Int.toNat (len / (↑u : Int))) i) : Int) -
                                    X (Int.toNat (↑i_1 : Int)) / (↑u : Int) <
                                  (↑tn : Int),
                            (!if
                                      decide
                                          (X (Int.toNat (↑i_1 : Int)) / (↑u : Int) >
                                            (↑(kAt u n X C T (Int.toNat (len / (↑u : Int))) i) : Int)) =
                                        true then
                                    true
                                  else
                                    decide
                                      (T
                                          (Int.toNat
                                            ((↑(kAt u n X C T (Int.toNat (len / (↑u : Int))) i) : Int) -
                                              X (Int.toNat (↑i_1 : Int)) / (↑u : Int))) <
                                        (0 : Int))) =
                                true →
                              (!if
                                      decide
                                          (X (Int.toNat (↑i_1 : Int)) / (↑u : Int) >
                                            (↑(kAt u n X C T (Int.toNat (len / (↑u : Int))) i) : Int)) =
                                        true then
                                    true
                                  else
                                    decide
                                      (T
                                          (Int.toNat
                                            ((↑(kAt u n X C T (Int.toNat (len / (↑u : Int))) i) : Int) -
                                              X (Int.toNat (↑i_1 : Int)) / (↑u : Int))) <
                                        (0 : Int))) =
                                true,
                            (!if
                                      decide
                                          (X (Int.toNat (↑i_1 : Int)) / (↑u : Int) >
                                            (↑(kAt u n X C T (Int.toNat (len / (↑u : Int))) i) : Int)) =
                                        true then
                                    true
                                  else
                                    decide
                                      (T
                                          (Int.toNat
                                            ((↑(kAt u n X C T (Int.toNat (len / (↑u : Int))) i) : Int) -
                                              X (Int.toNat (↑i_1 : Int)) / (↑u : Int))) <
                                        (0 : Int))) =
                                true →
                              (!if
                                      decide
                                          (X (Int.toNat (↑i_1 : Int)) / (↑u : Int) >
                                            (↑(kAt u n X C T (Int.toNat (len / (↑u : Int))) i) : Int)) =
                                        true then
                                    true
                                  else
                                    decide
                                      (T
                                          (Int.toNat
                                            ((↑(kAt u n X C T (Int.toNat (len / (↑u : Int))) i) : Int) -
                                              X (Int.toNat (↑i_1 : Int)) / (↑u : Int))) <
                                        (0 : Int))) =
                                true,
                            (!if
                                      decide
                                          (X (Int.toNat (↑i_1 : Int)) / (↑u : Int) >
                                            (↑(kAt u n X C T (Int.toNat (len / (↑u : Int))) i) : Int)) =
                                        true then
                                    true
                                  else
                                    decide
                                      (T
                                          (Int.toNat
                                            ((↑(kAt u n X C T (Int.toNat (len / (↑u : Int))) i) : Int) -
                                              X (Int.toNat (↑i_1 : Int)) / (↑u : Int))) <
                                        (0 : Int))) =
                                true →
                              (!if
                                      decide
                                          (X (Int.toNat (↑i_1 : Int)) / (↑u : Int) >
                                            (↑(kAt u n X C T (Int.toNat (len / (↑u : Int))) i) : Int)) =
                                        true then
                                    true
                                  else
                                    decide
                                      (T
                                          (Int.toNat
                                            ((↑(kAt u n X C T (Int.toNat (len / (↑u : Int))) i) : Int) -
                                              X (Int.toNat (↑i_1 : Int)) / (↑u : Int))) <
                                        (0 : Int))) =
                                true,
                            (!if
                                      decide
                                          (X (Int.toNat (↑i_1 : Int)) / (↑u : Int) >
                                            (↑(kAt u n X C T (Int.toNat (len / (↑u : Int))) i) : Int)) =
                                        true then
                                    true
                                  else
                                    decide
                                      (T
                                          (Int.toNat
                                            ((↑(kAt u n X C T (Int.toNat (len / (↑u : Int))) i) : Int) -
                                              X (Int.toNat (↑i_1 : Int)) / (↑u : Int))) <
                                        (0 : Int))) =
                                true →
                              (!if
                                      decide
                                          (X (Int.toNat (↑i_1 : Int)) / (↑u : Int) >
                                            (↑(kAt u n X C T (Int.toNat (len / (↑u : Int))) i) : Int)) =
                                        true then
                                    true
                                  else
                                    decide
                                      (T
                                          (Int.toNat
                                            ((↑(kAt u n X C T (Int.toNat (len / (↑u : Int))) i) : Int) -
                                              X (Int.toNat (↑i_1 : Int)) / (↑u : Int))) <
                                        (0 : Int))) =
                                true,
                            (!if
                                      decide
                                          (X (Int.toNat (↑i_1 : Int)) / (↑u : Int) >
                                            (↑(kAt u n X C T (Int.toNat (len / (↑u : Int))) i) : Int)) =
                                        true then
                                    true
                                  else
                                    decide
                                      (T
                                          (Int.toNat
                                            ((↑(kAt u n X C T (Int.toNat (len / (↑u : Int))) i) : Int) -
                                              X (Int.toNat (↑i_1 : Int)) / (↑u : Int))) <
                                        (0 : Int))) =
                                true →
                              i64In
                                (T
                                    (Int.toNat
                                      ((↑(kAt u n X C T (Int.toNat (len / (↑u : Int))) i) : Int) -
                                        X (Int.toNat (↑i_1 : Int)) / (↑u : Int))) +
                                  C (Int.toNat (↑i_1 : Int))),
                            (!if
                                      decide
                                          (X (Int.toNat (↑i_1 : Int)) / (↑u : Int) >
                                            (↑(kAt u n X C T (Int.toNat (len / (↑u : Int))) i) : Int)) =
                                        true then
                                    true
                                  else
                                    decide
                                      (T
                                          (Int.toNat
                                            ((↑(kAt u n X C T (Int.toNat (len / (↑u : Int))) i) : Int) -
                                              X (Int.toNat (↑i_1 : Int)) / (↑u : Int))) <
                                        (0 : Int))) =
                                true →
                              (!if
                                      decide
                                          (X (Int.toNat (↑i_1 : Int)) / (↑u : Int) >
                                            (↑(kAt u n X C T (Int.toNat (len / (↑u : Int))) i) : Int)) =
                                        true then
                                    true
                                  else
                                    decide
                                      (T
                                          (Int.toNat
                                            ((↑(kAt u n X C T (Int.toNat (len / (↑u : Int))) i) : Int) -
                                              X (Int.toNat (↑i_1 : Int)) / (↑u : Int))) <
                                        (0 : Int))) =
                                true,
                            (!if
                                      decide
                                          (X (Int.toNat (↑i_1 : Int)) / (↑u : Int) >
                                            (↑(kAt u n X C T (Int.toNat (len / (↑u : Int))) i) : Int)) =
                                        true then
                                    true
                                  else
                                    decide
                                      (T
                                          (Int.toNat
                                            ((↑(kAt u n X C T (Int.toNat (len / (↑u : Int))) i) : Int) -
                                              X (Int.toNat (↑i_1 : Int)) / (↑u : Int))) <
                                        (0 : Int))) =
                                true →
                              (!if
                                      decide
                                          (X (Int.toNat (↑i_1 : Int)) / (↑u : Int) >
                                            (↑(kAt u n X C T (Int.toNat (len / (↑u : Int))) i) : Int)) =
                                        true then
                                    true
                                  else
                                    decide
                                      (T
                                          (Int.toNat
                                            ((↑(kAt u n X C T (Int.toNat (len / (↑u : Int))) i) : Int) -
                                              X (Int.toNat (↑i_1 : Int)) / (↑u : Int))) <
                                        (0 : Int))) =
                                true,
                            (!if
                                      decide
                                          (X (Int.toNat (↑i_1 : Int)) / (↑u : Int) >
                                            (↑(kAt u n X C T (Int.toNat (len / (↑u : Int))) i) : Int)) =
                                        true then
                                    true
                                  else
                                    decide
                                      (T
                                          (Int.toNat
                                            ((↑(kAt u n X C T (Int.toNat (len / (↑u : Int))) i) : Int) -
                                              X (Int.toNat (↑i_1 : Int)) / (↑u : Int))) <
                                        (0 : Int))) =
                                true →
                              (0 : Int) ≤ (↑(kAt u n X C T (Int.toNat (len / (↑u : Int))) i) : Int) ∧
                                (↑(kAt u n X C T (Int.toNat (len / (↑u : Int))) i) : Int) < (↑tn : Int),
                            (!if
                                      decide
                                          (X (Int.toNat (↑i_1 : Int)) / (↑u : Int) >
                                            (↑(kAt u n X C T (Int.toNat (len / (↑u : Int))) i) : Int)) =
                                        true then
                                    true
                                  else
                                    decide
                                      (T
                                          (Int.toNat
                                            ((↑(kAt u n X C T (Int.toNat (len / (↑u : Int))) i) : Int) -
                                              X (Int.toNat (↑i_1 : Int)) / (↑u : Int))) <
                                        (0 : Int))) =
                                true →
                              (!if
                                      decide
                                          (X (Int.toNat (↑i_1 : Int)) / (↑u : Int) >
                                            (↑(kAt u n X C T (Int.toNat (len / (↑u : Int))) i) : Int)) =
                                        true then
                                    true
                                  else
                                    decide
                                      (T
                                          (Int.toNat
                                            ((↑(kAt u n X C T (Int.toNat (len / (↑u : Int))) i) : Int) -
                                              X (Int.toNat (↑i_1 : Int)) / (↑u : Int))) <
                                        (0 : Int))) =
                                true,
                            (!if
                                      decide
                                          (X (Int.toNat (↑i_1 : Int)) / (↑u : Int) >
                                            (↑(kAt u n X C T (Int.toNat (len / (↑u : Int))) i) : Int)) =
                                        true then
                                    true
                                  else
                                    decide
                                      (T
                                          (Int.toNat
                                            ((↑(kAt u n X C T (Int.toNat (len / (↑u : Int))) i) : Int) -
                                              X (Int.toNat (↑i_1 : Int)) / (↑u : Int))) <
                                        (0 : Int))) =
                                true →
                              (!if
                                      decide
                                          (X (Int.toNat (↑i_1 : Int)) / (↑u : Int) >
                                            (↑(kAt u n X C T (Int.toNat (len / (↑u : Int))) i) : Int)) =
                                        true then
                                    true
                                  else
                                    decide
                                      (T
                                          (Int.toNat
                                            ((↑(kAt u n X C T (Int.toNat (len / (↑u : Int))) i) : Int) -
                                              X (Int.toNat (↑i_1 : Int)) / (↑u : Int))) <
                                        (0 : Int))) =
                                true,
                            (!if
                                      decide
                                          (X (Int.toNat (↑i_1 : Int)) / (↑u : Int) >
                                            (↑(kAt u n X C T (Int.toNat (len / (↑u : Int))) i) : Int)) =
                                        true then
                                    true
                                  else
                                    decide
                                      (T
                                          (Int.toNat
                                            ((↑(kAt u n X C T (Int.toNat (len / (↑u : Int))) i) : Int) -
                                              X (Int.toNat (↑i_1 : Int)) / (↑u : Int))) <
                                        (0 : Int))) =
                                true →
                              (!if
                                      decide
                                          (X (Int.toNat (↑i_1 : Int)) / (↑u : Int) >
                                            (↑(kAt u n X C T (Int.toNat (len / (↑u : Int))) i) : Int)) =
                                        true then
                                    true
                                  else
                                    decide
                                      (T
                                          (Int.toNat
                                            ((↑(kAt u n X C T (Int.toNat (len / (↑u : Int))) i) : Int) -
                                              X (Int.toNat (↑i_1 : Int)) / (↑u : Int))) <
                                        (0 : Int))) =
                                true,
                            (if
                                    decide
                                        (X (Int.toNat (↑i_1 : Int)) / (↑u : Int) >
                                          (↑(kAt u n X C T (Int.toNat (len / (↑u : Int))) i) : Int)) =
                                      true then
                                  true
                                else
                                  decide
                                    (T
                                        (Int.toNat
                                          ((↑(kAt u n X C T (Int.toNat (len / (↑u : Int))) i) : Int) -
                                            X (Int.toNat (↑i_1 : Int)) / (↑u : Int))) <
                                      (0 : Int))) =
                                false →
                              (!if
                                      decide
                                          (X (Int.toNat (↑i_1 : Int)) / (↑u : Int) >
                                            (↑(kAt u n X C T (Int.toNat (len / (↑u : Int))) i) : Int)) =
                                        true then
                                    true
                                  else
                                    decide
                                      (T
                                          (Int.toNat
                                            ((↑(kAt u n X C T (Int.toNat (len / (↑u : Int))) i) : Int) -
                                              X (Int.toNat (↑i_1 : Int)) / (↑u : Int))) <
                                        (0 : Int))) =
                                true]
                          (VT.ite
                            (if
                                (if
                                      decide
                                          (X (Int.toNat (↑i_1 : Int)) / (↑u : Int) >
                                            (↑(kAt u n X C T (Int.toNat (len / (↑u : Int))) i) : Int)) =
                                        true then
                                    true
                                  else
                                    decide
                                      (T
                                          (Int.toNat
                                            ((↑(kAt u n X C T (Int.toNat (len / (↑u : Int))) i) : Int) -
                                              X (Int.toNat (↑i_1 : Int)) / (↑u : Int))) <
                                        (0 : Int))) =
                                  true then
                              true
                            else
                              T
                                    (Int.toNat
                                      ((↑(kAt u n X C T (Int.toNat (len / (↑u : Int))) i) : Int) -
                                        X (Int.toNat (↑i_1 : Int)) / (↑u : Int))) +
                                  C (Int.toNat (↑i_1 : Int)) !=
                                T (Int.toNat (↑(kAt u n X C T (Int.toNat (len / (↑u : Int))) i) : Int)))
                            (VT.need [i64In ((↑i_1 : Int) + (1 : Int))]
                              (VT.done
                                [(↑i_1 : Int) + (1 : Int) = (↑(Int.toNat ((↑i_1 : Int) + (1 : Int))) : Int), tn = tn,
                                  ∀ (i : Nat), i < tn → T i = T i, len = len,
                                  (↑(kAt u n X C T (Int.toNat (len / (↑u : Int))) i) : Int) =
                                    (↑(kAt u n X C T (Int.toNat (len / (↑u : Int))) i) : Int),
                                  n = n, ∀ (i : Nat), i < n → X i = X i, ∀ (i : Nat), i < n → C i = C i,
                                  ∀ (i : Nat), i < n → b i = b i, (↑n : Int) = (↑n : Int),
                                  List.length (takeL u n X C T b false (Int.toNat (len / (↑u : Int))) i) =
                                    List.length (takeL u n X C T b false (Int.toNat (len / (↑u : Int))) i),
                                  ∀ (i_2 : Nat),
                                    i_2 < List.length (takeL u n X C T b false (Int.toNat (len / (↑u : Int))) i) →
                                      List.getD (takeL u n X C T b false (Int.toNat (len / (↑u : Int))) i) i_2 (0 : Int) =
                                        List.getD (takeL u n X C T b false (Int.toNat (len / (↑u : Int))) i) i_2 (0 : Int),
                                  List.length (takeL u n X C T b true (Int.toNat (len / (↑u : Int))) i) =
                                    List.length (takeL u n X C T b true (Int.toNat (len / (↑u : Int))) i),
                                  ∀ (i_2 : Nat),
                                    i_2 < List.length (takeL u n X C T b true (Int.toNat (len / (↑u : Int))) i) →
                                      List.getD (takeL u n X C T b true (Int.toNat (len / (↑u : Int))) i) i_2 (0 : Int) =
                                        List.getD (takeL u n X C T b true (Int.toNat (len / (↑u : Int))) i) i_2 (0 : Int),
                                  (0 : Nat) = (0 : Nat),
                                  List.length (takeL u n X C T b false (Int.toNat (len / (↑u : Int))) i) =
                                    List.length (takeL u n X C T b false (Int.toNat (len / (↑u : Int))) i),
                                  (0 : Nat) = (0 : Nat),
                                  List.length (takeL u n X C T b true (Int.toNat (len / (↑u : Int))) i) =
                                    List.length (takeL u n X C T b true (Int.toNat (len / (↑u : Int))) i),
                                  (↑u : Int) = (↑u : Int), n = n, ∀ (i : Nat), i < n → X i = X i,
                                  ∀ (i : Nat), i < n → C i = C i, ∀ (i : Nat), i < n → b i = b i,
                                  Value.slice none (0 : Nat) (0 : Nat) = Value.slice none (0 : Nat) (0 : Nat),
                                  Value.slice none (0 : Nat) (0 : Nat) = Value.slice none (0 : Nat) (0 : Nat),
                                  Int.toNat ((↑i_1 : Int) + (1 : Int)) ≤ n ∧
                                    ∀ (k : Nat),
                                      k < Int.toNat ((↑i_1 : Int) + (1 : Int)) →
                                        okP u X C T (Int.toNat (↑(kAt u n X C T (Int.toNat (len / (↑u : Int))) i) : Int))
                                            k =
                                          false,
                                  n - Int.toNat ((↑i_1 : Int) + (1 : Int)) < n - i_1]))
                            (VT.ite (b (Int.toNat (↑i_1 : Int)))
                              (VT.need
                                [List.length (takeL u n X C T b true (Int.toNat (len / (↑u : Int))) i) ≤
                                    List.length (takeL u n X C T b true (Int.toNat (len / (↑u : Int))) i),
                                  (List.length (takeL u n X C T b true (Int.toNat (len / (↑u : Int))) i) + (1 : Nat)) *
                                      (nat_lit 7 + (1 : Nat)) ≤
                                    (140737488355328 : Nat),
                                  (1 : Nat) ≤ (1 : Nat)]
                                (VT.need
                                  [i64In
                                      ((↑(kAt u n X C T (Int.toNat (len / (↑u : Int))) i) : Int) -
                                        X (Int.toNat (↑i_1 : Int)) / (↑u : Int))]
                                  (VT.done
                                    [(↑(kAt u n X C T (Int.toNat (len / (↑u : Int))) i) : Int) -
                                          X (Int.toNat (↑i_1 : Int)) / (↑u : Int) =
                                        (↑(kAt u n X C T (Int.toNat (len / (↑u : Int)))
                                              (List.length (takeL u n X C T b false (Int.toNat (len / (↑u : Int))) i) +
                                                (List.length (takeL u n X C T b true (Int.toNat (len / (↑u : Int))) i) +
                                                  (1 : Nat)))) :
                                          Int),
                                      tn = tn, ∀ (i : Nat), i < tn → T i = T i, len = len,
                                      List.length (takeL u n X C T b false (Int.toNat (len / (↑u : Int))) i) =
                                        List.length
                                          (takeL u n X C T b false (Int.toNat (len / (↑u : Int)))
                                            (List.length (takeL u n X C T b false (Int.toNat (len / (↑u : Int))) i) +
                                              (List.length (takeL u n X C T b true (Int.toNat (len / (↑u : Int))) i) +
                                                (1 : Nat)))),
                                      ∀ (i_2 : Nat),
                                        i_2 <
                                            List.length
                                              (takeL u n X C T b false (Int.toNat (len / (↑u : Int)))
                                                (List.length (takeL u n X C T b false (Int.toNat (len / (↑u : Int))) i) +
                                                  (List.length (takeL u n X C T b true (Int.toNat (len / (↑u : Int))) i) +
                                                    (1 : Nat)))) →
                                          List.getD (takeL u n X C T b false (Int.toNat (len / (↑u : Int))) i) i_2
                                              (0 : Int) =
                                            List.getD
                                              (takeL u n X C T b false (Int.toNat (len / (↑u : Int)))
                                                (List.length (takeL u n X C T b false (Int.toNat (len / (↑u : Int))) i) +
                                                  (List.length (takeL u n X C T b true (Int.toNat (len / (↑u : Int))) i) +
                                                    (1 : Nat))))
                                              i_2 (0 : Int),
                                      List.length (takeL u n X C T b true (Int.toNat (len / (↑u : Int))) i) + (1 : Nat) =
                                        List.length
                                          (takeL u n X C T b true (Int.toNat (len / (↑u : Int)))
                                            (List.length (takeL u n X C T b false (Int.toNat (len / (↑u : Int))) i) +
                                              (List.length (takeL u n X C T b true (Int.toNat (len / (↑u : Int))) i) +
                                                (1 : Nat)))),
                                      ∀ (i_2 : Nat),
                                        i_2 <
                                            List.length
                                              (takeL u n X C T b true (Int.toNat (len / (↑u : Int)))
                                                (List.length (takeL u n X C T b false (Int.toNat (len / (↑u : Int))) i) +
                                                  (List.length (takeL u n X C T b true (Int.toNat (len / (↑u : Int))) i) +
                                                    (1 : Nat)))) →
                                          (if
                                                decide
                                                    (i_2 <
                                                      List.length
                                                        (takeL u n X C T b true (Int.toNat (len / (↑u : Int))) i)) =
                                                  true then
                                              List.getD (takeL u n X C T b true (Int.toNat (len / (↑u : Int))) i) i_2
                                                (0 : Int)
                                            else X (Int.toNat (↑i_1 : Int))) =
                                            List.getD
                                              (takeL u n X C T b true (Int.toNat (len / (↑u : Int)))
                                                (List.length (takeL u n X C T b false (Int.toNat (len / (↑u : Int))) i) +
                                                  (List.length (takeL u n X C T b true (Int.toNat (len / (↑u : Int))) i) +
                                                    (1 : Nat))))
                                              i_2 (0 : Int),
                                      (0 : Nat) = (0 : Nat),
                                      List.length (takeL u n X C T b false (Int.toNat (len / (↑u : Int))) i) =
                                        List.length
                                          (takeL u n X C T b false (Int.toNat (len / (↑u : Int)))
                                            (List.length (takeL u n X C T b false (Int.toNat (len / (↑u : Int))) i) +
                                              (List.length (takeL u n X C T b true (Int.toNat (len / (↑u : Int))) i) +
                                                (1 : Nat)))),
                                      (0 : Nat) = (0 : Nat),
                                      List.length (takeL u n X C T b true (Int.toNat (len / (↑u : Int))) i) + (1 : Nat) =
                                        List.length
                                          (takeL u n X C T b true (Int.toNat (len / (↑u : Int)))
                                            (List.length (takeL u n X C T b false (Int.toNat (len / (↑u : Int))) i) +
                                              (List.length (takeL u n X C T b true (Int.toNat (len / (↑u : Int))) i) +
                                                (1 : Nat)))),
                                      (↑u : Int) = (↑u : Int), n = n, ∀ (i : Nat), i < n → X i = X i,
                                      ∀ (i : Nat), i < n → C i = C i, ∀ (i : Nat), i < n → b i = b i,
                                      Value.slice none (0 : Nat) (0 : Nat) = Value.slice none (0 : Nat) (0 : Nat),
                                      Value.slice none (0 : Nat) (0 : Nat) = Value.slice none (0 : Nat) (0 : Nat),
                                      ∀ (i_2 : Nat),
                                        i_2 <
                                            List.length (takeL u n X C T b false (Int.toNat (len / (↑u : Int))) i) +
                                              (List.length (takeL u n X C T b true (Int.toNat (len / (↑u : Int))) i) +
                                                (1 : Nat)) →
                                          kAt u n X C T (Int.toNat (len / (↑u : Int))) i_2 ≠ (0 : Nat),
                                      kAt u n X C T (Int.toNat (len / (↑u : Int)))
                                          (List.length (takeL u n X C T b false (Int.toNat (len / (↑u : Int))) i) +
                                            (List.length (takeL u n X C T b true (Int.toNat (len / (↑u : Int))) i) +
                                              (1 : Nat))) <
                                        kAt u n X C T (Int.toNat (len / (↑u : Int))) i])))
                              (VT.need
                                [List.length (takeL u n X C T b false (Int.toNat (len / (↑u : Int))) i) ≤
                                    List.length (takeL u n X C T b false (Int.toNat (len / (↑u : Int))) i),
                                  (List.length (takeL u n X C T b false (Int.toNat (len / (↑u : Int))) i) + (1 : Nat)) *
                                      (nat_lit 7 + (1 : Nat)) ≤
                                    (140737488355328 : Nat),
                                  (1 : Nat) ≤ (1 : Nat)]
                                (VT.need
                                  [i64In
                                      ((↑(kAt u n X C T (Int.toNat (len / (↑u : Int))) i) : Int) -
                                        X (Int.toNat (↑i_1 : Int)) / (↑u : Int))]
                                  (VT.done
                                    [(↑(kAt u n X C T (Int.toNat (len / (↑u : Int))) i) : Int) -
                                          X (Int.toNat (↑i_1 : Int)) / (↑u : Int) =
                                        (↑(kAt u n X C T (Int.toNat (len / (↑u : Int)))
                                              (List.length (takeL u n X C T b false (Int.toNat (len / (↑u : Int))) i) +
                                                  (1 : Nat) +
                                                List.length (takeL u n X C T b true (Int.toNat (len / (↑u : Int))) i))) :
                                          Int),
                                      tn = tn, ∀ (i : Nat), i < tn → T i = T i, len = len,
                                      List.length (takeL u n X C T b false (Int.toNat (len / (↑u : Int))) i) + (1 : Nat) =
                                        List.length
                                          (takeL u n X C T b false (Int.toNat (len / (↑u : Int)))
                                            (List.length (takeL u n X C T b false (Int.toNat (len / (↑u : Int))) i) +
                                                (1 : Nat) +
                                              List.length (takeL u n X C T b true (Int.toNat (len / (↑u : Int))) i))),
                                      ∀ (i_2 : Nat),
                                        i_2 <
                                            List.length
                                              (takeL u n X C T b false (Int.toNat (len / (↑u : Int)))
                                                (List.length (takeL u n X C T b false (Int.toNat (len / (↑u : Int))) i) +
                                                    (1 : Nat) +
                                                  List.length (takeL u n X C T b true (Int.toNat (len / (↑u : Int))) i))) →
                                          (if
                                                decide
                                                    (i_2 <
                                                      List.length
                                                        (takeL u n X C T b false (Int.toNat (len / (↑u : Int))) i)) =
                                                  true then
                                              List.getD (takeL u n X C T b false (Int.toNat (len / (↑u : Int))) i) i_2
                                                (0 : Int)
                                            else X (Int.toNat (↑i_1 : Int))) =
                                            List.getD
                                              (takeL u n X C T b false (Int.toNat (len / (↑u : Int)))
                                                (List.length (takeL u n X C T b false (Int.toNat (len / (↑u : Int))) i) +
                                                    (1 : Nat) +
                                                  List.length (takeL u n X C T b true (Int.toNat (len / (↑u : Int))) i)))
                                              i_2 (0 : Int),
                                      List.length (takeL u n X C T b true (Int.toNat (len / (↑u : Int))) i) =
                                        List.length
                                          (takeL u n X C T b true (Int.toNat (len / (↑u : Int)))
                                            (List.length (takeL u n X C T b false (Int.toNat (len / (↑u : Int))) i) +
                                                (1 : Nat) +
                                              List.length (takeL u n X C T b true (Int.toNat (len / (↑u : Int))) i))),
                                      ∀ (i_2 : Nat),
                                        i_2 <
                                            List.length
                                              (takeL u n X C T b true (Int.toNat (len / (↑u : Int)))
                                                (List.length (takeL u n X C T b false (Int.toNat (len / (↑u : Int))) i) +
                                                    (1 : Nat) +
                                                  List.length (takeL u n X C T b true (Int.toNat (len / (↑u : Int))) i))) →
                                          List.getD (takeL u n X C T b true (Int.toNat (len / (↑u : Int))) i) i_2
                                              (0 : Int) =
                                            List.getD
                                              (takeL u n X C T b true (Int.toNat (len / (↑u : Int)))
                                                (List.length (takeL u n X C T b false (Int.toNat (len / (↑u : Int))) i) +
                                                    (1 : Nat) +
                                                  List.length (takeL u n X C T b true (Int.toNat (len / (↑u : Int))) i)))
                                              i_2 (0 : Int),
                                      (0 : Nat) = (0 : Nat),
                                      List.length (takeL u n X C T b false (Int.toNat (len / (↑u : Int))) i) + (1 : Nat) =
                                        List.length
                                          (takeL u n X C T b false (Int.toNat (len / (↑u : Int)))
                                            (List.length (takeL u n X C T b false (Int.toNat (len / (↑u : Int))) i) +
                                                (1 : Nat) +
                                              List.length (takeL u n X C T b true (Int.toNat (len / (↑u : Int))) i))),
                                      (0 : Nat) = (0 : Nat),
                                      List.length (takeL u n X C T b true (Int.toNat (len / (↑u : Int))) i) =
                                        List.length
                                          (takeL u n X C T b true (Int.toNat (len / (↑u : Int)))
                                            (List.length (takeL u n X C T b false (Int.toNat (len / (↑u : Int))) i) +
                                                (1 : Nat) +
                                              List.length (takeL u n X C T b true (Int.toNat (len / (↑u : Int))) i))),
                                      (↑u : Int) = (↑u : Int), n = n, ∀ (i : Nat), i < n → X i = X i,
                                      ∀ (i : Nat), i < n → C i = C i, ∀ (i : Nat), i < n → b i = b i,
                                      Value.slice none (0 : Nat) (0 : Nat) = Value.slice none (0 : Nat) (0 : Nat),
                                      Value.slice none (0 : Nat) (0 : Nat) = Value.slice none (0 : Nat) (0 : Nat),
                                      ∀ (i_2 : Nat),
                                        i_2 <
                                            List.length (takeL u n X C T b false (Int.toNat (len / (↑u : Int))) i) +
                                                (1 : Nat) +
                                              List.length (takeL u n X C T b true (Int.toNat (len / (↑u : Int))) i) →
                                          kAt u n X C T (Int.toNat (len / (↑u : Int))) i_2 ≠ (0 : Nat),
                                      kAt u n X C T (Int.toNat (len / (↑u : Int)))
                                          (List.length (takeL u n X C T b false (Int.toNat (len / (↑u : Int))) i) +
                                              (1 : Nat) +
                                            List.length (takeL u n X C T b true (Int.toNat (len / (↑u : Int))) i)) <
                                        kAt u n X C T (Int.toNat (len / (↑u : Int))) i]))))))))
                    (VT.done
                      [(↑(kAt u n X C T (Int.toNat (len / (↑u : Int))) i) : Int) =
                          (↑(kAt u n X C T (Int.toNat (len / (↑u : Int)))
                                (List.length (takeL u n X C T b false (Int.toNat (len / (↑u : Int))) i) +
                                  List.length (takeL u n X C T b true (Int.toNat (len / (↑u : Int))) i))) :
                            Int),
                        tn = tn, ∀ (i : Nat), i < tn → T i = T i, len = len,
                        List.length (takeL u n X C T b false (Int.toNat (len / (↑u : Int))) i) =
                          List.length
                            (takeL u n X C T b false (Int.toNat (len / (↑u : Int)))
                              (List.length (takeL u n X C T b false (Int.toNat (len / (↑u : Int))) i) +
                                List.length (takeL u n X C T b true (Int.toNat (len / (↑u : Int))) i))),
                        ∀ (i_2 : Nat),
                          i_2 <
                              List.length
                                (takeL u n X C T b false (Int.toNat (len / (↑u : Int)))
                                  (List.length (takeL u n X C T b false (Int.toNat (len / (↑u : Int))) i) +
                                    List.length (takeL u n X C T b true (Int.toNat (len / (↑u : Int))) i))) →
                            List.getD (takeL u n X C T b false (Int.toNat (len / (↑u : Int))) i) i_2 (0 : Int) =
                              List.getD
                                (takeL u n X C T b false (Int.toNat (len / (↑u : Int)))
                                  (List.length (takeL u n X C T b false (Int.toNat (len / (↑u : Int))) i) +
                                    List.length (takeL u n X C T b true (Int.toNat (len / (↑u : Int))) i)))
                                i_2 (0 : Int),
                        List.length (takeL u n X C T b true (Int.toNat (len / (↑u : Int))) i) =
                          List.length
                            (takeL u n X C T b true (Int.toNat (len / (↑u : Int)))
                              (List.length (takeL u n X C T b false (Int.toNat (len / (↑u : Int))) i) +
                                List.length (takeL u n X C T b true (Int.toNat (len / (↑u : Int))) i))),
                        ∀ (i_2 : Nat),
                          i_2 <
                              List.length
                                (takeL u n X C T b true (Int.toNat (len / (↑u : Int)))
                                  (List.length (takeL u n X C T b false (Int.toNat (len / (↑u : Int))) i) +
                                    List.length (takeL u n X C T b true (Int.toNat (len / (↑u : Int))) i))) →
                            List.getD (takeL u n X C T b true (Int.toNat (len / (↑u : Int))) i) i_2 (0 : Int) =
                              List.getD
                                (takeL u n X C T b true (Int.toNat (len / (↑u : Int)))
                                  (List.length (takeL u n X C T b false (Int.toNat (len / (↑u : Int))) i) +
                                    List.length (takeL u n X C T b true (Int.toNat (len / (↑u : Int))) i)))
                                i_2 (0 : Int),
                        (0 : Nat) = (0 : Nat),
                        List.length (takeL u n X C T b false (Int.toNat (len / (↑u : Int))) i) =
                          List.length
                            (takeL u n X C T b false (Int.toNat (len / (↑u : Int)))
                              (List.length (takeL u n X C T b false (Int.toNat (len / (↑u : Int))) i) +
                                List.length (takeL u n X C T b true (Int.toNat (len / (↑u : Int))) i))),
                        (0 : Nat) = (0 : Nat),
                        List.length (takeL u n X C T b true (Int.toNat (len / (↑u : Int))) i) =
                          List.length
                            (takeL u n X C T b true (Int.toNat (len / (↑u : Int)))
                              (List.length (takeL u n X C T b false (Int.toNat (len / (↑u : Int))) i) +
                                List.length (takeL u n X C T b true (Int.toNat (len / (↑u : Int))) i))),
                        (↑u : Int) = (↑u : Int), n = n, ∀ (i : Nat), i < n → X i = X i, ∀ (i : Nat), i < n → C i = C i,
                        ∀ (i : Nat), i < n → b i = b i,
                        Value.slice none (0 : Nat) (0 : Nat) = Value.slice none (0 : Nat) (0 : Nat),
                        Value.slice none (0 : Nat) (0 : Nat) = Value.slice none (0 : Nat) (0 : Nat),
                        ∀ (i_2 : Nat),
                          i_2 <
                              List.length (takeL u n X C T b false (Int.toNat (len / (↑u : Int))) i) +
                                List.length (takeL u n X C T b true (Int.toNat (len / (↑u : Int))) i) →
                            kAt u n X C T (Int.toNat (len / (↑u : Int))) i_2 ≠ (0 : Nat),
                        kAt u n X C T (Int.toNat (len / (↑u : Int)))
                            (List.length (takeL u n X C T b false (Int.toNat (len / (↑u : Int))) i) +
                              List.length (takeL u n X C T b true (Int.toNat (len / (↑u : Int))) i)) <
                          kAt u n X C T (Int.toNat (len / (↑u : Int))) i]))
                (VT.ite (decide ((0 : Int) < (2 : Int)))
                  (VT.need [(0 : Int) ≤ (0 : Int) ∧ (0 : Int) < (↑(2 : Nat) : Int)]
                    (VT.need
                      [List.length (takeL u n X C T b false (Int.toNat (len / (↑u : Int))) i) =
                          List.length (takeL u n X C T b false (Int.toNat (len / (↑u : Int))) i),
                        intCol fun (i_1 : Nat) =>
                          DV.val
                            (Value.int IntKind.i64
                              (List.getD (takeL u n X C T b false (Int.toNat (len / (↑u : Int))) i) i_1 (0 : Int))),
                        FnT prog (34 : Nat) (List.length (takeL u n X C T b false (Int.toNat (len / (↑u : Int))) i))
                          (fun (i_1 : Nat) =>
                            iOfC
                              (DV.val
                                (Value.int IntKind.i64
                                  (List.getD (takeL u n X C T b false (Int.toNat (len / (↑u : Int))) i) i_1 (0 : Int)))))
                          (fun (i_1 : Nat) =>
                            List.getD
                              (sortD
                                (List.map
                                  (fun (i_2 : Nat) =>
                                    List.getD (takeL u n X C T b false (Int.toNat (len / (↑u : Int))) i) i_2 (0 : Int))
                                  (List.range (List.length (takeL u n X C T b false (Int.toNat (len / (↑u : Int))) i)))))
                              i_1 (0 : Int))
                          [DV.val (Value.func (Fn.func (35 : Nat)) { toList := [] } { toList := [] })]]
                      (VT.need [i64In ((0 : Int) + (1 : Int))]
                        (VT.ite (decide ((0 : Int) + (1 : Int) < (2 : Int)))
                          (VT.need [(0 : Int) ≤ (0 : Int) + (1 : Int) ∧ (0 : Int) + (1 : Int) < (↑(2 : Nat) : Int)]
                            (VT.need
                              [List.length (takeL u n X C T b true (Int.toNat (len / (↑u : Int))) i) =
                                  List.length (takeL u n X C T b true (Int.toNat (len / (↑u : Int))) i),
                                intCol fun (i_1 : Nat) =>
                                  DV.val
                                    (Value.int IntKind.i64
                                      (List.getD (takeL u n X C T b true (Int.toNat (len / (↑u : Int))) i) i_1 (0 : Int))),
                                FnT prog (34 : Nat) (List.length (takeL u n X C T b true (Int.toNat (len / (↑u : Int))) i))
                                  (fun (i_1 : Nat) =>
                                    iOfC
                                      (DV.val
                                        (Value.int IntKind.i64
                                          (List.getD (takeL u n X C T b true (Int.toNat (len / (↑u : Int))) i) i_1
                                            (0 : Int)))))
                                  (fun (i_1 : Nat) =>
                                    List.getD
                                      (sortD
                                        (List.map
                                          (fun (i_2 : Nat) =>
                                            List.getD (takeL u n X C T b true (Int.toNat (len / (↑u : Int))) i) i_2
                                              (0 : Int))
                                          (List.range
                                            (List.length (takeL u n X C T b true (Int.toNat (len / (↑u : Int))) i)))))
                                      i_1 (0 : Int))
                                  [DV.val (Value.func (Fn.func (35 : Nat)) { toList := [] } { toList := [] })]]
                              (VT.need [i64In ((0 : Int) + (1 : Int) + (1 : Int))]
                                (VT.ite (decide ((0 : Int) + (1 : Int) + (1 : Int) < (2 : Int)))
                                  (VT.need
                                    [(0 : Int) ≤ (0 : Int) + (1 : Int) + (1 : Int) ∧
                                        (0 : Int) + (1 : Int) + (1 : Int) < (↑(2 : Nat) : Int)]
                                    (VT.need [False]
                                      (VT.need [i64In ((0 : Int) + (1 : Int) + (1 : Int) + (1 : Int))] (VT.done [False]))))
                                  (VT.done
                                    [List.length (takeL u n X C T b false (Int.toNat (len / (↑u : Int))) i) ≤
                                        List.length (takeL u n X C T b false (Int.toNat (len / (↑u : Int))) i),
                                      List.length (takeL u n X C T b true (Int.toNat (len / (↑u : Int))) i) ≤
                                        List.length (takeL u n X C T b true (Int.toNat (len / (↑u : Int))) i),
                                      List.length (takeL u n X C T b false (Int.toNat (len / (↑u : Int))) i) =
                                        List.length (closL u n X C T b false len),
                                      ∀ (i_1 : Nat),
                                        i_1 < List.length (closL u n X C T b false len) →
                                          List.getD
                                              (sortD
                                                (List.map
                                                  (fun (i_2 : Nat) =>
                                                    List.getD (takeL u n X C T b false (Int.toNat (len / (↑u : Int))) i) i_2
                                                      (0 : Int))
                                                  (List.range
                                                    (List.length
                                                      (takeL u n X C T b false (Int.toNat (len / (↑u : Int))) i)))))
                                              i_1 (0 : Int) =
                                            List.getD (closL u n X C T b false len) i_1 (0 : Int),
                                      List.length (takeL u n X C T b true (Int.toNat (len / (↑u : Int))) i) =
                                        List.length (closL u n X C T b true len),
                                      ∀ (i_1 : Nat),
                                        i_1 < List.length (closL u n X C T b true len) →
                                          List.getD
                                              (sortD
                                                (List.map
                                                  (fun (i_2 : Nat) =>
                                                    List.getD (takeL u n X C T b true (Int.toNat (len / (↑u : Int))) i) i_2
                                                      (0 : Int))
                                                  (List.range
                                                    (List.length
                                                      (takeL u n X C T b true (Int.toNat (len / (↑u : Int))) i)))))
                                              i_1 (0 : Int) =
                                            List.getD (closL u n X C T b true len) i_1 (0 : Int),
                                      true = okC u T len])))))
                          (VT.done
                            [List.length (takeL u n X C T b false (Int.toNat (len / (↑u : Int))) i) ≤
                                List.length (takeL u n X C T b false (Int.toNat (len / (↑u : Int))) i),
                              List.length (takeL u n X C T b true (Int.toNat (len / (↑u : Int))) i) ≤
                                List.length (takeL u n X C T b true (Int.toNat (len / (↑u : Int))) i),
                              List.length (takeL u n X C T b false (Int.toNat (len / (↑u : Int))) i) =
                                List.length (closL u n X C T b false len),
                              ∀ (i_1 : Nat),
                                i_1 < List.length (closL u n X C T b false len) →
                                  List.getD
                                      (sortD
                                        (List.map
                                          (fun (i_2 : Nat) =>
                                            List.getD (takeL u n X C T b false (Int.toNat (len / (↑u : Int))) i) i_2
                                              (0 : Int))
                                          (List.range
                                            (List.length (takeL u n X C T b false (Int.toNat (len / (↑u : Int))) i)))))
                                      i_1 (0 : Int) =
                                    List.getD (closL u n X C T b false len) i_1 (0 : Int),
                              List.length (takeL u n X C T b true (Int.toNat (len / (↑u : Int))) i) =
                                List.length (closL u n X C T b true len),
                              ∀ (i_1 : Nat),
                                i_1 < List.length (closL u n X C T b true len) →
                                  List.getD (takeL u n X C T b true (Int.toNat (len / (↑u : Int))) i) i_1 (0 : Int) =
                                    List.getD (closL u n X C T b true len) i_1 (0 : Int),
                              true = okC u T len])))))
                  (VT.done
                    [List.length (takeL u n X C T b false (Int.toNat (len / (↑u : Int))) i) ≤
                        List.length (takeL u n X C T b false (Int.toNat (len / (↑u : Int))) i),
                      List.length (takeL u n X C T b true (Int.toNat (len / (↑u : Int))) i) ≤
                        List.length (takeL u n X C T b true (Int.toNat (len / (↑u : Int))) i),
                      List.length (takeL u n X C T b false (Int.toNat (len / (↑u : Int))) i) =
                        List.length (closL u n X C T b false len),
                      ∀ (i_1 : Nat),
                        i_1 < List.length (closL u n X C T b false len) →
                          List.getD (takeL u n X C T b false (Int.toNat (len / (↑u : Int))) i) i_1 (0 : Int) =
                            List.getD (closL u n X C T b false len) i_1 (0 : Int),
                      List.length (takeL u n X C T b true (Int.toNat (len / (↑u : Int))) i) =
                        List.length (closL u n X C T b true len),
                      ∀ (i_1 : Nat),
                        i_1 < List.length (closL u n X C T b true len) →
                          List.getD (takeL u n X C T b true (Int.toNat (len / (↑u : Int))) i) i_1 (0 : Int) =
                            List.getD (closL u n X C T b true len) i_1 (0 : Int),
                      true = okC u T len])))))) (by kernel_rfl) ?_
  simp only [VT.holds, AllT, imp_self, implies_true, and_true, true_and, toNat_succ, toNat_add2, toNat_zero', Int.toNat_natCast, Bool.if_true_left, Bool.if_false_right, Bool.decide_eq_true, Bool.or_eq_true, Bool.or_eq_false_iff, Bool.and_eq_true, Bool.and_eq_false_imp, Bool.not_eq_true', Bool.not_eq_false', Bool.not_not, bne_iff_ne, bne_eq_false_iff_eq, beq_iff_eq, beq_eq_false_iff_ne, decide_eq_true_eq, decide_eq_false_iff_not, ne_eq]
  obtain ⟨q0, q1⟩ := quo_bd hu h0 h1
  have hbd := tabL_bd htab.bd
  rw [← htab.tab] at hbd
  refine ⟨⟨fun _ => ⟨h0, by omega⟩, fun _ => ⟨h0, by omega, by omega⟩, fun _ => ⟨q0, by omega⟩⟩, fun h => ?_, fun ⟨h, hT⟩ => ?_⟩
  · have e : okC u T len = false := by
      rw [okC, decide_eq_false_iff_not]
      rintro ⟨e1, e2⟩
      rcases h with (h | h) | h
      · omega
      · exact h e1
      · omega
    rw [closL, closL, e]
    exact ⟨rfl, rfl, rfl⟩
  have hr : len % (u : Int) = 0 := by
    apply Classical.byContradiction
    intro e; exact h (.inr e)
  have hok : okC u T len = true := by rw [okC, decide_eq_true_eq]; exact ⟨hr, by omega⟩
  have hK : 0 ≤ T (len / (u : Int)).toNat := by omega
  simp only [closL, hok, if_true]
  have hQ : len / (u : Int) = ((len / (u : Int)).toNat : Int) := by omega
  generalize hKK : (len / (u : Int)).toNat = K at *
  rw [hQ] at htn ⊢
  have htn' : tn = K + 1 := by omega
  have hK4 : K ≤ 4000 := by omega
  have hend := kAt_end htab hK
  have hmem : ∀ s j x, x ∈ takeL u n X C T b s K j → 1 ≤ x ∧ x ≤ 10000 := fun s j x hx => by
    obtain ⟨i, hi, rfl, _⟩ := take_mem htab hK hx
    exact hX i hi
  refine ⟨⟨h0, by omega, by omega⟩, rfl, (fun i hi => absurd hi (Nat.not_lt_zero i)), fun j hj => ⟨fun hk => ⟨rfl, ⟨Nat.zero_le _, fun k hk => absurd hk (Nat.not_lt_zero k)⟩, fun i ⟨hi, hb⟩ => ⟨fun hlt => ?_, fun hge => ?_⟩⟩, fun hk => ?_⟩⟩
  · have hi' : i < n := by omega
    have hx := hX i hi'
    have hc := htab.c0 i hi'
    have e : X i / (u : Int) = (unitsOf u (X i) : Int) := by
      unfold unitsOf
      have := Int.ediv_nonneg (a := X i) (b := (u : Int)) (by omega) (by omega)
      omega
    have m1 := htab.m1 i hi'
    have hle := kAt_le htab hK hj
    have hTk := kAt_ok htab hK j
    have hlen := take_len (b := b) hj
    have e1 : (takeL u n X C T b false K j).length + ((takeL u n X C T b true K j).length + 1) = j + 1 := by omega
    have e2 : (takeL u n X C T b false K j).length + 1 + (takeL u n X C T b true K j).length = j + 1 := by omega
    simp only [e, Int.toNat_sub, e1, e2]
    have t1 := hbd (kAt u n X C T K j - unitsOf u (X i))
    refine ⟨⟨by omega, by omega⟩, ⟨by omega, by omega, by omega⟩, ⟨fun _ => by unfold i64In; omega, fun _ => ⟨by omega, by omega⟩, fun _ => by unfold i64In; omega, fun _ => ⟨by omega, by omega⟩, fun _ => by unfold i64In; omega, fun _ => ⟨by omega, by omega⟩⟩, fun h2 => ⟨by unfold i64In; omega, rfl, ⟨by omega, fun k hk2 => ?_⟩, by omega⟩, fun ⟨h2, h3⟩ => ?_⟩
    · by_cases ek : k = i
      · rw [ek, Bool.eq_false_iff]
        intro ho
        obtain ⟨o1, o2, o3⟩ := okP_iff.1 ho
        rcases h2 with (h2 | h2) | h2
        · omega
        · omega
        · exact h2 o3
      · exact hb k (by omega)
    · have ho : okP u X C T (kAt u n X C T K j) i = true := okP_iff.2 ⟨by omega, by omega, h3⟩
      have hp := pick_eq htab (by omega) hTk ho hb
      have hne : kAt u n X C T K j ≠ 0 := by omega
      have hsucc : kAt u n X C T K (j + 1) = kAt u n X C T K j - unitsOf u (X i) := by rw [kAt, hp]
      have hj2 : ∀ i2, i2 < j + 1 → ¬ kAt u n X C T K i2 = 0 := fun i2 hi2 => by
        by_cases e4 : i2 = j
        · rw [e4]; exact hne
        · exact hj i2 (by omega)
      refine ⟨fun hbt => ?_, fun hbf => ?_⟩
      · have f1 : takeL u n X C T b false K (j + 1) = takeL u n X C T b false K j := by rw [takeL, hp, if_neg (fun hx => by rw [hbt] at hx; cases hx.2)]
        have f2 : takeL u n X C T b true K (j + 1) = takeL u n X C T b true K j ++ [X i] := by rw [takeL, hp, if_pos ⟨hne, hbt⟩]
        have f3 : (takeL u n X C T b true K (j + 1)).length = (takeL u n X C T b true K j).length + 1 := by rw [f2]; simp
        refine ⟨⟨Nat.le_refl _, by omega, Nat.le_refl _⟩, by unfold i64In; omega, by rw [hsucc]; omega, by rw [f1], fun i2 _ => by rw [f1], f3.symm, fun i2 hi2 => ?_, by rw [f1], f3.symm, hj2, by rw [hsucc]; omega⟩
        rw [f2] at hi2 ⊢
        rw [snocI_getD hi2]
      · have f1 : takeL u n X C T b true K (j + 1) = takeL u n X C T b true K j := by rw [takeL, hp, if_neg (fun hx => by rw [hbf] at hx; cases hx.2)]
        have f2 : takeL u n X C T b false K (j + 1) = takeL u n X C T b false K j ++ [X i] := by rw [takeL, hp, if_pos ⟨hne, hbf⟩]
        have f3 : (takeL u n X C T b false K (j + 1)).length = (takeL u n X C T b false K j).length + 1 := by rw [f2]; simp
        refine ⟨⟨Nat.le_refl _, by omega, Nat.le_refl _⟩, by unfold i64In; omega, by rw [hsucc]; omega, f3.symm, fun i2 hi2 => ?_, by rw [f1], fun i2 _ => by rw [f1], f3.symm, by rw [f1], hj2, by rw [hsucc]; omega⟩
        rw [f2] at hi2 ⊢
        rw [snocI_getD hi2]
  · exfalso
    obtain ⟨p1, p2, _⟩ := pick_spec htab (by omega) (kAt_ok htab hK j)
    rw [hb _ (by omega)] at p2
    cases p2
  · have hk0 : kAt u n X C T K j = 0 := by omega
    have hle := kAt_le htab hK hj
    have s1 : ∀ s, takeL u n X C T b s K K = takeL u n X C T b s K j := fun s => take_stay hk0 K (by omega)
    have hlen := take_len (b := b) hj
    have hA : ∀ s, ∀ i, i < (takeL u n X C T b s K j).length → 0 ≤ (takeL u n X C T b s K j).getD i 0 ∧ (takeL u n X C T b s K j).getD i 0 ≤ 10000 := fun s i hi => by
      have hm : (takeL u n X C T b s K j).getD i 0 ∈ takeL u n X C T b s K j := by
        rw [List.getD_eq_getElem?_getD, List.getElem?_eq_getElem hi]; exact List.getElem_mem hi
      have := hmem s j _ hm
      omega
    have hs := fun s (hn : (takeL u n X C T b s K j).length ≤ 1000000) => sort_c _ _ hn (hA s)
    simp only [s1, range_getD_self, sortD_len] at hs ⊢
    exact ⟨fun _ => ⟨⟨by omega, by omega⟩, ⟨fun _ => trivial, hs false (by omega)⟩, by unfold i64In; omega, fun _ => ⟨⟨by omega, by omega⟩, ⟨fun _ => trivial, hs true (by omega)⟩, by unfold i64In; omega, fun h => absurd h (by omega), fun _ => ⟨Nat.le_refl _, Nat.le_refl _, trivial, fun _ _ => trivial, trivial, fun _ _ => trivial, trivial⟩⟩, fun h => absurd h (by omega)⟩, fun h => absurd h (by omega)⟩
end Go.Abs
