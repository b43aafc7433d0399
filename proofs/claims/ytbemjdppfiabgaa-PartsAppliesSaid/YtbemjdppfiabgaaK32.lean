/- Contracts. -/
import Derived.Test.YtbemjdppfiabgaaK31
set_option linter.unusedVariables false
set_option linter.unusedSimpArgs false
set_option maxRecDepth 100000
namespace Go.Abs
open Go
abbrev objI (o : Option AObj) (c j : Nat) : Int := match o with
  | some (.row _ cols) => match cols[c]? with
    | some f => iOf (f j)
    | none => 0
  | _ => 0
def f7 (a b c d e f g : Nat → Int) (k j : Nat) : Int := match k with
  | 0 => a j
  | 1 => b j
  | 2 => c j
  | 3 => d j
  | 4 => e j
  | 5 => f j
  | _ => g j
abbrev rowAt (A : Nat → Nat → Int) (j : Nat) : List Int := [A 0 j, A 1 j, A 2 j, A 3 j, A 4 j, A 5 j, A 6 j]
structure SrtO (l : List (List Int)) (i : Nat) (A : Nat → Nat → Int) : Prop where
  le : i ≤ l.length
  perm : (lsOf l.length (rowAt A)).Perm l
  srt : ∀ p q, p < q → q < i → leB (rowAt A p) (rowAt A q) = true
structure SrtK (l : List (List Int)) (i k : Nat) (A : Nat → Nat → Int) : Prop where
  le : i < l.length
  ki : k ≤ i
  perm : (lsOf l.length (rowAt A)).Perm l
  srt : ∀ p q, p < q → q ≤ i → q ≠ k → leB (rowAt A p) (rowAt A q) = true
def wN : List (List Int) → List Int → List (List Int)
  | [], e => [e]
  | x :: r, e => if lexB x e = true then x :: wN r e else if x = e then x :: r else e :: x :: r
abbrev rLsN (q : List DV) : DV := dB (lexB [fI 0 (arg q 0), fI 1 (arg q 0), fI 2 (arg q 0)] [fI 0 (arg q 1), fI 1 (arg q 1), fI 2 (arg q 1)])
abbrev rLsP (q : List DV) : DV := dB (lexB [fI 0 (arg q 0), fI 1 (arg q 0), fI 2 (arg q 0), fI 3 (arg q 0), fI 4 (arg q 0), fI 5 (arg q 0), fI 6 (arg q 0)] [fI 0 (arg q 1), fI 1 (arg q 1), fI 2 (arg q 1), fI 3 (arg q 1), fI 4 (arg q 1), fI 5 (arg q 1), fI 6 (arg q 1)])
theorem wN_old : ∀ {L : List (List Int)} {e : List Int} {i : Nat}, (∀ j, j < i → lexB (L.getD j []) e = true) → i < L.length → L.getD i [] = e → wN L e = L
  | x :: r, e, 0, _, _, h => by
    have h : x = e := h
    rw [wN, h, lexB_irr, if_neg (by decide), if_pos rfl]
  | x :: r, e, i + 1, hb, hi, h => by
    have h0 : lexB x e = true := hb 0 (by omega)
    rw [wN, if_pos h0, wN_old (i := i) (fun j hj => hb (j + 1) (by omega)) (by simpa using hi) h]
theorem wN_new : ∀ {L : List (List Int)} {e : List Int} {i : Nat}, (∀ j, j < i → lexB (L.getD j []) e = true) → i ≤ L.length → (i < L.length → lexB (L.getD i []) e = false) → (i < L.length → L.getD i [] ≠ e) → wN L e = L.take i ++ (e :: L.drop i)
  | [], e, 0, _, _, _, _ => rfl
  | [], e, i + 1, _, h, _, _ => by simp at h
  | x :: r, e, 0, _, _, h1, h2 => by
    have h1 : lexB x e = false := h1 (by simp)
    have h2 : x ≠ e := h2 (by simp)
    rw [wN, if_neg (by rw [h1]; decide), if_neg h2]; rfl
  | x :: r, e, i + 1, hb, hi, h1, h2 => by
    have h0 : lexB x e = true := hb 0 (by omega)
    rw [wN, if_pos h0, wN_new (i := i) (fun j hj => hb (j + 1) (by omega)) (by simpa using hi) (fun h => h1 (by simpa using h)) (fun h => h2 (by simpa using h))]
    rfl
theorem ins_col {L : List (List Int)} {e : List Int} {i c : Nat} {v : Int} (hi : i ≤ L.length) (hv : e.getD c 0 = v) (j : Nat) : (if j < i + 1 then if j < i then col L c j else v else col L c (j - (i + 1) + i)) = col (L.take i ++ (e :: L.drop i)) c j := by
  have hl : (L.take i).length = i := by rw [List.length_take]; omega
  unfold col
  by_cases h1 : j < i
  · rw [if_pos (by omega), if_pos h1]
    have : (L.take i ++ (e :: L.drop i)).getD j [] = L.getD j [] := by
      have hj : j < L.length := by omega
      simp [List.getElem?_append, hl, h1, List.getElem?_take, hj]
    rw [this]
  · by_cases h2 : j = i
    · subst h2
      rw [if_pos (by omega), if_neg h1]
      have : (L.take j ++ (e :: L.drop j)).getD j [] = e := by simp [List.getElem?_append, hl]
      rw [this, hv]
    · rw [if_neg (by omega)]
      have : (L.take i ++ (e :: L.drop i)).getD j [] = L.getD (j - (i + 1) + i) [] := by
        have e1 : j - i = (j - (i + 1)) + 1 := by omega
        have e2 : i + (j - (i + 1)) = j - (i + 1) + i := by omega
        simp [List.getElem?_append, hl, h1, e1, List.getElem?_drop, e2]
      rw [this]
theorem perm_sw (A B : Nat → List Int) (k : Nat) (hk : A k = B (k + 1)) (hk1 : A (k + 1) = B k) (h : ∀ j, j ≠ k → j ≠ k + 1 → A j = B j) : ∀ n, k + 1 < n → (lsOf n A).Perm (lsOf n B)
  | n + 1, hn => by
    by_cases e : k + 1 = n
    · subst e
      rw [lsOf_succ, lsOf_succ, lsOf_succ, lsOf_succ, hk, hk1, lsOf_congr (fun j hj => h j (by omega) (by omega))]
      rw [List.append_assoc, List.append_assoc]
      exact List.Perm.append_left _ (List.Perm.swap _ _ _)
    · rw [lsOf_succ, lsOf_succ, h n (by omega) (by omega)]
      exact (perm_sw A B k hk hk1 h n (by omega)).append_right _
abbrev swA (k : Nat) (A : Nat → Nat → Int) (c j : Nat) : Int := if j = k then A c (k + 1) else if j = k + 1 then A c k else A c j
theorem row_sw (k : Nat) (A : Nat → Nat → Int) (j : Nat) : rowAt (swA k A) j = if j = k then rowAt A (k + 1) else if j = k + 1 then rowAt A k else rowAt A j := by
  unfold rowAt swA
  by_cases h : j = k
  · simp only [if_pos h]
  · by_cases h2 : j = k + 1
    · simp only [if_neg h, if_pos h2]
    · simp only [if_neg h, if_neg h2]
theorem srtK_step {l : List (List Int)} {i k : Nat} {A : Nat → Nat → Int} (h : SrtK l i (k + 1) A) (hlt : lexB (rowAt A (k + 1)) (rowAt A k) = true) : SrtK l i k (swA k A) := by
  have hi := h.le
  have hk := h.ki
  refine ⟨hi, by omega, (perm_sw _ (rowAt A) k ?_ ?_ ?_ _ (by omega)).trans h.perm, fun p q hpq hq hqk => ?_⟩
  · rw [row_sw, if_pos rfl]
  · rw [row_sw, if_neg (by omega), if_pos rfl]
  · intro j h1 h2; rw [row_sw, if_neg h1, if_neg h2]
  · have hle : leB (rowAt A (k + 1)) (rowAt A k) = true := by unfold leB; rw [lexB_asym hlt]; rfl
    rw [row_sw, row_sw, if_neg hqk]
    by_cases e1 : q = k + 1
    · rw [if_pos e1]
      by_cases e2 : p = k
      · rw [if_pos e2]; exact hle
      · rw [if_neg e2, if_neg (by omega)]
        exact h.srt p k (by omega) (by omega) (by omega)
    · rw [if_neg e1]
      by_cases e2 : p = k
      · rw [if_pos e2]; exact h.srt (k + 1) q (by omega) hq e1
      · rw [if_neg e2]
        by_cases e3 : p = k + 1
        · rw [if_pos e3]; exact h.srt k q (by omega) hq e1
        · rw [if_neg e3]; exact h.srt p q hpq hq e1
theorem srtK_end {l : List (List Int)} {i k : Nat} {A : Nat → Nat → Int} (h : SrtK l i k A) (hlt : 0 < k → lexB (rowAt A k) (rowAt A (k - 1)) = false) : SrtO l (i + 1) A := by
  refine ⟨h.le, h.perm, fun p q hpq hq => ?_⟩
  by_cases e : q = k
  · subst e
    have h1 : leB (rowAt A (q - 1)) (rowAt A q) = true := by unfold leB; rw [hlt (by omega)]; rfl
    by_cases e2 : p = q - 1
    · rw [e2]; exact h1
    · exact leB_trans _ _ _ (h.srt p (q - 1) (by omega) (by omega) (by omega)) h1
  · exact h.srt p q hpq (by omega) e
theorem SrtO.of {l : List (List Int)} {i : Nat} {A B : Nat → Nat → Int} (h : SrtO l i A) (e : ∀ j, rowAt B j = rowAt A j) : SrtO l i B :=
  ⟨h.le, by rw [lsOf_congr fun j _ => e j]; exact h.perm, fun p q a b => by rw [e, e]; exact h.srt p q a b⟩
theorem SrtK.of {l : List (List Int)} {i k : Nat} {A B : Nat → Nat → Int} (h : SrtK l i k A) (e : ∀ j, rowAt B j = rowAt A j) : SrtK l i k B :=
  ⟨h.le, h.ki, by rw [lsOf_congr fun j _ => e j]; exact h.perm, fun p q a b c => by rw [e, e]; exact h.srt p q a b c⟩
theorem srtO_k {l : List (List Int)} {i : Nat} {A : Nat → Nat → Int} (h : SrtO l i A) (hi : i < l.length) : SrtK l i i A :=
  ⟨hi, Nat.le_refl _, h.perm, fun p q hpq hq hn => h.srt p q hpq (by omega)⟩
theorem srtO_end {l : List (List Int)} {A : Nat → Nat → Int} (h : SrtO l l.length A) (j : Nat) (hj : j < l.length) : rowAt A j = (srt l).getD j [] := by
  have e : lsOf l.length (rowAt A) = srt l := srt_is h.perm (by
    rw [List.pairwise_iff_getElem]
    intro p q hp hq hpq
    rw [lsOf_len] at hp hq
    simp only [lsOf, List.getElem_map, List.getElem_range]
    exact h.srt p q hpq hq)
  rw [← e, lsOf_get hj]
theorem seven_at {l : List (List Int)} (h7 : ∀ e ∈ l, e.length = 7) {j : Nat} (hj : j < l.length) : [col l 0 j, col l 1 j, col l 2 j, col l 3 j, col l 4 j, col l 5 j, col l 6 j] = l.getD j [] := by
  have e : l.getD j [] = l[j] := by simp [hj]
  have := h7 _ (List.getElem_mem hj)
  unfold col
  rw [e]
  match l[j], this with
  | [a, b, c, d, e, f, g], _ => rfl
theorem lsOf_self (l : List (List Int)) {A : Nat → List Int} (h : ∀ j, j < l.length → A j = l.getD j []) : lsOf l.length A = l := by
  refine List.ext_getElem (lsOf_len _ _) fun j h1 h2 => ?_
  simp only [lsOf, List.getElem_map, List.getElem_range]
  rw [h j h2]
  simp [h2]
theorem srtO_start {l : List (List Int)} (h7 : ∀ e ∈ l, e.length = 7) {A : Nat → Nat → Int} (hA : ∀ j, rowAt A j = [col l 0 j, col l 1 j, col l 2 j, col l 3 j, col l 4 j, col l 5 j, col l 6 j]) : SrtO l 0 A :=
  ⟨Nat.zero_le _, by rw [lsOf_self l fun j hj => (hA j).trans (seven_at h7 hj)], fun _ _ _ h => absurd h (Nat.not_lt_zero _)⟩
noncomputable def A164_nodeLess_c (a b c d e f : Int) : Ann := { orc := [], loops := [], cuts := [] }
theorem nodeLess_c (a b c d e f : Int)  : FnC prog 164 [dN a b c, dN d e f] (dB (lexB [a, b, c] [d, e, f])) := by
  refine FnC_owed hmix (A164_nodeLess_c a b c d e f) (V := .ite (a != d) (.done [decide (a < d) = lexB [a, b, c] [d, e, f]]) (.ite (b != e) (.done [decide (b < e) = lexB [a, b, c] [d, e, f]]) (.done [decide (c < f) = lexB [a, b, c] [d, e, f]]))) (by kernel_rfl) ?_
  simp only [VT.holds, AllT, Sq]
  refine ⟨fun h => ?_, fun h => ⟨fun h2 => ?_, fun h2 => ?_⟩⟩
  · simp [lexB, h]
  · subst h; simp [lexB, h2]
  · subst h; subst h2; simp [lexB]
noncomputable def A149_placeLess_c (k a b c d e f k' a' b' c' d' e' f' : Int) : Ann := { orc := [(4, [(4, .res rLsN)]), (5, [(4, .res rLsN)])], loops := [], cuts := [] }
theorem placeLess_c (k a b c d e f k' a' b' c' d' e' f' : Int)  : FnC prog 149 [dP k a b c d e f, dP k' a' b' c' d' e' f'] (dB (lexB [k, a, b, c, d, e, f] [k', a', b', c', d', e', f'])) := by
  refine FnC_owed hmix (A149_placeLess_c k a b c d e f k' a' b' c' d' e' f') (V := .ite (k != k') (.done [decide (k < k') = lexB [k, a, b, c, d, e, f] [k', a', b', c', d', e', f']]) (.ite (!(a == a' && (b == b' && (c == c' && true)))) (.need [FnC prog 164 [.val (.agg (Array.mk [.int .i64 a, .int .i64 b, .int .i64 c])), .val (.agg (Array.mk [.int .i64 a', .int .i64 b', .int .i64 c']))] ((dB (lexB [a, b, c] [a', b', c'])))] (.done [lexB [a, b, c] [a', b', c'] = lexB [k, a, b, c, d, e, f] [k', a', b', c', d', e', f']])) (.need [FnC prog 164 [.val (.agg (Array.mk [.int .i64 d, .int .i64 e, .int .i64 f])), .val (.agg (Array.mk [.int .i64 d', .int .i64 e', .int .i64 f']))] ((dB (lexB [d, e, f] [d', e', f'])))] (.done [lexB [d, e, f] [d', e', f'] = lexB [k, a, b, c, d, e, f] [k', a', b', c', d', e', f']])))) (by kernel_rfl) ?_
  simp only [VT.holds, AllT, Sq]
  refine ⟨fun h => ?_, fun h => ⟨fun h2 => ⟨nodeLess_c _ _ _ _ _ _, ?_⟩, fun ⟨h2, h3, h4⟩ => ⟨nodeLess_c _ _ _ _ _ _, ?_⟩⟩⟩
  · simp [lexB, h]
  · subst h
    rw [Bool.eq_iff_iff]
    simp only [lexB, Bool.or_eq_true, Bool.and_eq_true, decide_eq_true_eq, Bool.and_false, Bool.or_false, Bool.false_eq_true, and_false, or_false]
    have h2 : a = a' → b = b' → c ≠ c' := fun x y z => absurd (h2 x y z) (by decide)
    simp only [true_and]
    by_cases e1 : a = a'
    · by_cases e2 : b = b'
      · have := h2 e1 e2; omega
      · omega
    · omega
  · subst h; subst h2; subst h3; subst h4; simp [lexB]
noncomputable def A118_placeOf_c (s : Scf) (k a b : Int) : Ann := { orc := [], loops := [], cuts := [] }
theorem placeOf_c (s : Scf) (k a b : Int) (ha : 0 ≤ a ∧ a < s.nN) (hb : 0 ≤ b ∧ b < s.nN) : FnC prog 118 [scfD s, dM k a b] (dP k (s.X a.toNat) (s.Y a.toNat) (s.Z a.toNat) (s.X b.toNat) (s.Y b.toNat) (s.Z b.toNat)) := by
  refine FnC_owed hmix (A118_placeOf_c s k a b) (V := .need [(0:Int) ≤ a ∧ a < (s.nN:Int), (0:Int) ≤ b ∧ b < (s.nN:Int)] (.done [k = k, s.X a.toNat = s.X a.toNat, s.Y a.toNat = s.Y a.toNat, s.Z a.toNat = s.Z a.toNat, s.X b.toNat = s.X b.toNat, s.Y b.toNat = s.Y b.toNat, s.Z b.toNat = s.Z b.toNat])) (by kernel_rfl) ?_
  simp only [VT.holds, AllT, Sq]
  exact ⟨ha, hb⟩
noncomputable def A148_withNode_c (L : List (List Int)) (x y z : Int) : Ann := { orc := [(2, [(10, .res rLsN)])], loops := [(0, { ι := Nat, keep := [0, 3], boxes := [3], ts := fun _ i => [(5, dI (i : Int))], inv := fun _ i => i ≤ L.length ∧ ∀ j, j < i → lexB (L.getD j []) [x, y, z] = true, mu := fun _ i => L.length - i, rd := fun _ σ => (iOf (σ.get 5)).toNat })], cuts := [] }
noncomputable abbrev q_withNode_c_0 (i : Nat) (L : List (List Int)) : Bool := decide ((i:Int) < (↑(List.length L) : Int))
noncomputable abbrev q_withNode_c_1 (i_1 : Nat) (i : Nat) : Bool := decide (i_1 < (0:Nat) + (Int.toNat (i:Int) - Int.toNat (0:Int)))
noncomputable abbrev q_withNode_c_2 (i_1 : Nat) (i : Nat) : Bool := decide (i_1 < (0:Nat) + (Int.toNat (i:Int) - Int.toNat (0:Int)) + (1:Nat))
theorem withNode_c (L : List (List Int)) (x y z : Int) (h3 : ∀ e ∈ L, e.length = 3) (hl : L.length ≤ 20000) : FnC prog 148 [.lst L.length (cols3 L), dN x y z] (.lst (wN L [x, y, z]).length (cols3 (wN L [x, y, z]))) := by
  refine FnC_owed hmix (A148_withNode_c L x y z) (V := .loop Nat (fun a => a ≤ List.length L ∧ ∀ (j : Nat), j < a → lexB (List.getD L j []) [x, y, z] = true) (0:Int).toNat [(0:Int) = (↑(0:Int).toNat : Int), List.length L = List.length L, ∀ i < List.length L, col L 0 i = col L 0 i, ∀ i < List.length L, col L 1 i = col L 1 i, ∀ i < List.length L, col L 2 i = col L 2 i, x = x, y = y, z = z] fun i => .need [(q_withNode_c_0 i L) = true → (q_withNode_c_0 i L) = true, (q_withNode_c_0 i L) = true → (q_withNode_c_0 i L) = true, (q_withNode_c_0 i L) = true → (0:Int) ≤ (i:Int) ∧ (i:Int) < (↑(List.length L) : Int), (q_withNode_c_0 i L) = true → (q_withNode_c_0 i L) = true, (q_withNode_c_0 i L) = true → (q_withNode_c_0 i L) = true, (q_withNode_c_0 i L) = true → (q_withNode_c_0 i L) = true, (q_withNode_c_0 i L) = true → FnC prog 164 [.val (.agg (Array.mk [.int .i64 (col L 0 (i:Int).toNat), .int .i64 (col L 1 (i:Int).toNat), .int .i64 (col L 2 (i:Int).toNat)])), .val (.agg (Array.mk [.int .i64 x, .int .i64 y, .int .i64 z]))] ((dB (lexB [col L 0 (i:Int).toNat, col L 1 (i:Int).toNat, col L 2 (i:Int).toNat] [x, y, z]))), (q_withNode_c_0 i L) = true → (q_withNode_c_0 i L) = true] (.ite (if (q_withNode_c_0 i L) = true then lexB [col L 0 (i:Int).toNat, col L 1 (i:Int).toNat, col L 2 (i:Int).toNat] [x, y, z] else false) (.need [i64In ((i:Int) + 1)] (.done [(i:Int) + 1 = (↑((i:Int) + 1).toNat : Int), List.length L = List.length L, ∀ i < List.length L, col L 0 i = col L 0 i, ∀ i < List.length L, col L 1 i = col L 1 i, ∀ i < List.length L, col L 2 i = col L 2 i, x = x, y = y, z = z, Int.toNat ((i:Int) + 1) ≤ List.length L ∧ ∀ (j : Nat), j <
     Int.toNat ((i:Int) + 1) → lexB (List.getD L j []) [x, y, z] = true, List.length L - ((i:Int) + 1).toNat < List.length L - i])) (.need [(q_withNode_c_0 i L) = true → (q_withNode_c_0 i L) = true, (q_withNode_c_0 i L) = true → (q_withNode_c_0 i L) = true, (q_withNode_c_0 i L) = true → (0:Int) ≤ (i:Int) ∧ (i:Int) < (↑(List.length L) : Int), (q_withNode_c_0 i L) = true → (q_withNode_c_0 i L) = true, (q_withNode_c_0 i L) = true → (q_withNode_c_0 i L) = true, (q_withNode_c_0 i L) = true → (q_withNode_c_0 i L) = true, (q_withNode_c_0 i L) = true → (q_withNode_c_0 i L) = true] (.ite (if (q_withNode_c_0 i L) = true then col L 0 (i:Int).toNat == x && (col L 1 (i:Int).toNat == y && (col L 2 (i:Int).toNat == z && true)) else false) (.done [List.length L = List.length (wN L [x, y, z]), ∀ i < List.length (wN L [x, y, z]), col L 0 i = col (wN L [x, y, z]) (0:Nat) i, ∀ i < List.length (wN L [x, y, z]), col L 1 i = col (wN L [x, y, z]) (1:Nat) i, ∀ i < List.length (wN L [x, y, z]), col L 2 i = col (wN L [x, y, z]) (2:Nat) i]) (.need [(0:Int) ≤ 0 ∧ (0:Int) ≤ (i:Int) ∧ (i:Int) ≤ (↑(List.length L) : Int), (0:Nat) ≤ 0, ((0:Nat) + (Int.toNat (i:Int) - (0:Int).toNat)) * (nat_lit 23 + 1) ≤ 140737488355328, (0:Nat) + (Int.toNat (i:Int) - (0:Int).toNat) ≤ 0 + (Int.toNat (i:Int) - (0:Int).toNat), ((0:Nat) + (Int.toNat (i:Int) - (0:Int).toNat) + 1) * (nat_lit 23 + 1) ≤ 140737488355328, (1:Nat) ≤ 1, (0:Int) ≤ (i:Int) ∧ (i:Int) ≤ (↑(List.length L) : Int) ∧ (↑(List.length L) : Int) ≤ (↑(List.length L) : Int), (0:Nat) + (Int.toNat (i:Int) - (0:Int).toNat) + 1 ≤ 0 + (Int.toNat (i:Int) - (0:Int).toNat) + 1, ((0:Nat) + (Int.toNat (i:Int) - (0:Int).toNat) + (1 :
     Nat) + (Int.toNat (↑(List.length L) : Int) - (i:Int).toNat)) * (nat_lit 23 + 1) ≤ 140737488355328] (.done [(0:Nat) + (Int.toNat (i:Int) - (0:Int).toNat) + 1 + (Int.toNat (↑(List.length L) : Int) - (i:Int).toNat) ≤ 0 + (Int.toNat (i:Int) - (0:Int).toNat) + 1 + (Int.toNat (↑(List.length L) : Int) - (i:Int).toNat), (0:Nat) + (Int.toNat (i:Int) - (0:Int).toNat) + 1 + (Int.toNat (↑(List.length L) : Int) - (i:Int).toNat) = List.length (wN L [x, y, z]), ∀ i_1 < List.length (wN L [x, y, z]), (if (q_withNode_c_2 i_1 i) = true then if (q_withNode_c_1 i_1 i) = true then if decide (i_1 < 0) = true then (0:Int) else col L 0 (i_1 - 0 + (0:Int).toNat) else x else col L 0 (i_1 - ((0:Nat) + (Int.toNat (i:Int) - (0:Int).toNat) + 1) + (i:Int).toNat)) = col (wN L [x, y, z]) (0:Nat) i_1, ∀ i_1 < List.length (wN L [x, y, z]), (if (q_withNode_c_2 i_1 i) = true then if (q_withNode_c_1 i_1 i) = true then if decide (i_1 < 0) = true then (0:Int) else col L 1 (i_1 - 0 + (0:Int).toNat) else y else col L 1 (i_1 - ((0:Nat) + (Int.toNat (i:Int) - (0:Int).toNat) + 1) + (i:Int).toNat)) = col (wN L [x, y, z]) (1:Nat) i_1, ∀ i_1 < List.length (wN L [x, y, z]), (if (q_withNode_c_2 i_1 i) = true then if (q_withNode_c_1 i_1 i) = true then if decide (i_1 < 0) = true then (0:Int) else col L 2 (i_1 - 0 + (0:Int).toNat) else z else col L 2 (i_1 - ((0:Nat) + (Int.toNat (i:Int) - (0:Int).toNat) + 1) + (i:Int).toNat)) = col (wN L [x, y, z]) (2:Nat) i_1])))))) (by kernel_rfl) ?_
  simp only [q_withNode_c_0, q_withNode_c_1, q_withNode_c_2, VT.holds, AllT, Sq]
  have at3 : ∀ i, i < L.length → [col L 0 i, col L 1 i, col L 2 i] = L.getD i [] := fun i hi => by
    have e : L.getD i [] = L[i] := by simp [hi]
    have := h3 _ (List.getElem_mem hi)
    unfold col
    rw [e]
    match L[i], this with
    | [a, b, c], _ => rfl
  refine ⟨rfl, ⟨Nat.zero_le _, fun j hj => absurd hj (Nat.not_lt_zero j)⟩, fun i ⟨hi, hb⟩ => ⟨⟨fun _ => by omega, fun _ => nodeLess_c _ _ _ _ _ _⟩, fun ⟨h1, h2⟩ => ?_, fun h1 => ⟨fun _ => by omega, fun ⟨h2, e1, e2, e3⟩ => ?_, fun h2 => ?_⟩⟩⟩
  · rw [at3 i (by omega)] at h2
    exact ⟨by unfold i64In; omega, by omega, ⟨by omega, lt_step hb h2⟩, by omega⟩
  · have e : L.getD i [] = [x, y, z] := by rw [← at3 i (by omega), e1, e2, e3]
    have hw := wN_old hb (by omega) e
    rw [hw]
    exact ⟨rfl, fun _ _ => rfl, fun _ _ => rfl, fun _ _ => rfl⟩
  · have hw : wN L [x, y, z] = L.take i ++ ([x, y, z] :: L.drop i) := by
      refine wN_new hb hi (fun hlt => ?_) fun hlt e => ?_
      · rw [← at3 i hlt]; exact h1 (by omega)
      · rw [← at3 i hlt] at e
        injection e with e1 e; injection e with e2 e; injection e with e3 e
        exact absurd (h2 (by omega) e1 e2 e3) (by decide)
    have hlen : (wN L [x, y, z]).length = i + 1 + (L.length - i) := by
      rw [hw, List.length_append, List.length_cons, List.length_take, List.length_drop]; omega
    have hc : ∀ c j v, [x, y, z].getD c 0 = v → j < (wN L [x, y, z]).length → (if j < 0 + (i - 0) + 1 then if j < 0 + (i - 0) then if j < 0 then 0 else col L c (j - 0 + 0) else v else col L c (j - (0 + (i - 0) + 1) + i)) = col (wN L [x, y, z]) c j := fun c j v hv hj => by
      rw [hw]
      simp only [Nat.sub_zero, Nat.add_zero, Nat.zero_add, Nat.not_lt_zero, if_false]
      exact ins_col hi hv j
    refine ⟨⟨by omega, by omega, by omega, by omega, by omega, by omega, by omega, by omega, by omega⟩, by omega, by omega, fun j hj => hc 0 j x rfl hj, fun j hj => hc 1 j y rfl hj, fun j hj => hc 2 j z rfl hj⟩
noncomputable def A119_sorted_c (l : List (List Int)) : Ann := { orc := [(6, [(12, .res rLsP)])], loops := [(0, { ι := Nat × (Nat → Nat → Int), keep := [0], boxes := [], ts := fun _ i => [(3, dI (i.1 : Int))], mo := fun _ i => [(0, none, .row l.length (colF7 i.2))], inv := fun _ i => SrtO l i.1 i.2, mu := fun _ i => l.length - i.1, rd := fun _ σ => ((iOf (σ.get 3)).toNat, f7 (fun j => objI (σ.obj (mid (σ.get 0))) 0 j) (fun j => objI (σ.obj (mid (σ.get 0))) 1 j) (fun j => objI (σ.obj (mid (σ.get 0))) 2 j) (fun j => objI (σ.obj (mid (σ.get 0))) 3 j) (fun j => objI (σ.obj (mid (σ.get 0))) 4 j) (fun j => objI (σ.obj (mid (σ.get 0))) 5 j) (fun j => objI (σ.obj (mid (σ.get 0))) 6 j)) }), (2, { ι := Nat × (Nat → Nat → Int), keep := [0, 3], boxes := [], ts := fun _ i => [(4, dI (i.1 : Int))], mo := fun _ i => [(0, none, .row l.length (colF7 i.2))], inv := fun σ i => SrtK l (iOf (σ.get 3)).toNat i.1 i.2, mu := fun _ i => i.1, rd := fun _ σ => ((iOf (σ.get 4)).toNat, f7 (fun j => objI (σ.obj (mid (σ.get 0))) 0 j) (fun j => objI (σ.obj (mid (σ.get 0))) 1 j) (fun j => objI (σ.obj (mid (σ.get 0))) 2 j) (fun j => objI (σ.obj (mid (σ.get 0))) 3 j) (fun j => objI (σ.obj (mid (σ.get 0))) 4 j) (fun j => objI (σ.obj (mid (σ.get 0))) 5 j) (fun j => objI (σ.obj (mid (σ.get 0))) 6 j)) })], cuts := [] }
theorem sorted_c (l : List (List Int)) (h7 : ∀ e ∈ l, e.length = 7) (hl : l.length ≤ 8000) : FnR prog 119 [.lst l.length (cols7 l)] l.length (cols7 (srt l)) := by
  refine FnR_owed hmix (A119_sorted_c l) (V := .need [(0:Nat) ≤ 0, ((0:Nat) + List.length l) * (nat_lit 55 + 1) ≤ 140737488355328] (.loop (Nat × (Nat → Nat → Int)) (fun (a : Nat × (Nat → Nat → Int)) => SrtO l a.fst a.2) (Int.toNat (0:Int), fun (k j : Nat) => f7 (fun j => if decide (j < 0) = true then (0:Int) else col l 0 (j - 0)) (fun j => if decide (j < 0) = true then (0:Int) else col l 1 (j - 0)) (fun j => if decide (j < 0) = true then (0:Int) else col l 2 (j - 0)) (fun j => if decide (j < 0) = true then (0:Int) else col l 3 (j - 0)) (fun j => if decide (j < 0) = true then (0:Int) else col l 4 (j - 0)) (fun j => if decide (j < 0) = true then (0:Int) else col l 5 (j - 0)) (fun j => if decide (j < 0) = true then (0:Int) else col l 6 (j - 0)) k j) [(0:Int) = (↑(0:Int).toNat : Int), (0:Nat) = 0, (0:Nat) + List.length l = 0 + List.length l, (0:Nat) + List.length l = List.length l, ∀ i < List.length l, (if decide (i < 0) = true then (0:Int) else col l 0 (i - 0)) = f7 (fun j => if decide (j < 0) = true then (0:Int) else col l 0 (j - 0)) (fun j => if decide (j < 0) = true then (0:Int) else col l 1 (j - 0)) (fun j => if decide (j < 0) = true then (0:Int) else col l 2 (j - 0)) (fun j => if decide (j < 0) = true then (0:Int) else col l 3 (j - 0)) (fun j => if decide (j < 0) = true then (0:Int) else col l 4 (j - 0)) (fun j => if decide (j < 0) = true then (0:Int) else col l 5 (j - 0)) (fun j => if decide (j < 0) = true then (0:Int) else col l 6 (j - 0)) (0:Nat) i, ∀ i < List.length l, (if decide (i < 0) = true then (0:Int) else col l 1
     (i - 0)) = f7 (fun j => if decide (j < 0) = true then (0:Int) else col l 0 (j - 0)) (fun j => if decide (j < 0) = true then (0:Int) else col l 1 (j - 0)) (fun j => if decide (j < 0) = true then (0:Int) else col l 2 (j - 0)) (fun j => if decide (j < 0) = true then (0:Int) else col l 3 (j - 0)) (fun j => if decide (j < 0) = true then (0:Int) else col l 4 (j - 0)) (fun j => if decide (j < 0) = true then (0:Int) else col l 5 (j - 0)) (fun j => if decide (j < 0) = true then (0:Int) else col l 6 (j - 0)) (1:Nat) i, ∀ i < List.length l, (if decide (i < 0) = true then (0:Int) else col l 2 (i - 0)) = f7 (fun j => if decide (j < 0) = true then (0:Int) else col l 0 (j - 0)) (fun j => if decide (j < 0) = true then (0:Int) else col l 1 (j - 0)) (fun j => if decide (j < 0) = true then (0:Int) else col l 2 (j - 0)) (fun j => if decide (j < 0) = true then (0:Int) else col l 3 (j - 0)) (fun j => if decide (j < 0) = true then (0:Int) else col l 4 (j - 0)) (fun j => if decide (j < 0) = true then (0:Int) else col l 5 (j - 0)) (fun j => if decide (j < 0) = true then (0:Int) else col l 6 (j - 0)) (2:Nat) i, ∀ i < List.length l, (if decide (i < 0) = true then (0:Int) else col l 3 (i - 0)) = f7 (fun j => if decide (j < 0) = true then (0:Int) else col l 0 (j - 0)) (fun j => if decide (j < 0) = true then (0:Int) else col l 1 (j - 0)) (fun j => if decide (j < 0) = true then (0:Int) else col l 2 (j - 0)) (fun j => if decide (j < 0) = true then (0:Int) else col l
     (3:Nat) (j - 0)) (fun j => if decide (j < 0) = true then (0:Int) else col l 4 (j - 0)) (fun j => if decide (j < 0) = true then (0:Int) else col l 5 (j - 0)) (fun j => if decide (j < 0) = true then (0:Int) else col l 6 (j - 0)) (3:Nat) i, ∀ i < List.length l, (if decide (i < 0) = true then (0:Int) else col l 4 (i - 0)) = f7 (fun j => if decide (j < 0) = true then (0:Int) else col l 0 (j - 0)) (fun j => if decide (j < 0) = true then (0:Int) else col l 1 (j - 0)) (fun j => if decide (j < 0) = true then (0:Int) else col l 2 (j - 0)) (fun j => if decide (j < 0) = true then (0:Int) else col l 3 (j - 0)) (fun j => if decide (j < 0) = true then (0:Int) else col l 4 (j - 0)) (fun j => if decide (j < 0) = true then (0:Int) else col l 5 (j - 0)) (fun j => if decide (j < 0) = true then (0:Int) else col l 6 (j - 0)) (4:Nat) i, ∀ i < List.length l, (if decide (i < 0) = true then (0:Int) else col l 5 (i - 0)) = f7 (fun j => if decide (j < 0) = true then (0:Int) else col l 0 (j - 0)) (fun j => if decide (j < 0) = true then (0:Int) else col l 1 (j - 0)) (fun j => if decide (j < 0) = true then (0:Int) else col l 2 (j - 0)) (fun j => if decide (j < 0) = true then (0:Int) else col l 3 (j - 0)) (fun j => if decide (j < 0) = true then (0:Int) else col l 4 (j - 0)) (fun j => if decide (j < 0) = true then (0:Int) else col l 5 (j - 0)) (fun j => if decide (j < 0) = true then (0:Int) else col l 6 (j - 0)) (5:Nat) i, ∀ i < List.length l, (if decide (i < (0
     : Nat)) = true then (0:Int) else col l 6 (i - 0)) = f7 (fun j => if decide (j < 0) = true then (0:Int) else col l 0 (j - 0)) (fun j => if decide (j < 0) = true then (0:Int) else col l 1 (j - 0)) (fun j => if decide (j < 0) = true then (0:Int) else col l 2 (j - 0)) (fun j => if decide (j < 0) = true then (0:Int) else col l 3 (j - 0)) (fun j => if decide (j < 0) = true then (0:Int) else col l 4 (j - 0)) (fun j => if decide (j < 0) = true then (0:Int) else col l 5 (j - 0)) (fun j => if decide (j < 0) = true then (0:Int) else col l 6 (j - 0)) (6:Nat) i] fun (i : Nat × (Nat → Nat → Int)) => .ite (decide ((i.fst:Int) < (↑((0:Nat) + List.length l) : Int))) (.loop (Nat × (Nat → Nat → Int)) (fun (a : Nat × (Nat → Nat → Int)) => SrtK l (i.fst:Int).toNat a.fst a.2) (Int.toNat (i.fst:Int), fun (k j : Nat) => f7 (i.2 0) (i.2 1) (i.2 2) (i.2 3) (i.2 4) (i.2 5) (i.2 6) k j) [(i.fst:Int) = (↑(i.fst:Int).toNat : Int), (0:Nat) = 0, (0:Nat) + List.length l = 0 + List.length l, (i.fst:Int) = (i.fst:Int), List.length l = List.length l, ∀ i_1 < List.length l, i.2 0 i_1 = f7 (i.2 0) (i.2 1) (i.2 2) (i.2 3) (i.2 4) (i.2 5) (i.2 6) (0:Nat) i_1, ∀ i_1 < List.length l, i.2 1 i_1 = f7 (i.2 0) (i.2 1) (i.2 2) (i.2 3) (i.2 4) (i.2 5) (i.2 6) (1:Nat) i_1, ∀ i_1 < List.length l, i.2 2 i_1 = f7 (i.2 0) (i.2 1) (i.2 2) (i.2 3) (i.2 4) (i.2 5) (i.2 6) (2:Nat) i_1, ∀ i_1 < List.length l, i.2 3 i_1 = f7 (i.2 0) (i.2 1)
     (i.2 2) (i.2 3) (i.2 4) (i.2 5) (i.2 6) (3:Nat) i_1, ∀ i_1 < List.length l, i.2 4 i_1 = f7 (i.2 0) (i.2 1) (i.2 2) (i.2 3) (i.2 4) (i.2 5) (i.2 6) (4:Nat) i_1, ∀ i_1 < List.length l, i.2 5 i_1 = f7 (i.2 0) (i.2 1) (i.2 2) (i.2 3) (i.2 4) (i.2 5) (i.2 6) (5:Nat) i_1, ∀ i_1 < List.length l, i.2 6 i_1 = f7 (i.2 0) (i.2 1) (i.2 2) (i.2 3) (i.2 4) (i.2 5) (i.2 6) (6:Nat) i_1] fun (i_1 : Nat × (Nat → Nat → Int)) => .need [decide ((i_1.fst:Int) > 0) = true → decide ((i_1.fst:Int) > 0) = true, decide ((i_1.fst:Int) > 0) = true → decide ((i_1.fst:Int) > 0) = true, decide ((i_1.fst:Int) > 0) = true → (0:Int) ≤ (i_1.fst:Int) ∧ (i_1.fst:Int) < (↑((0:Nat) + List.length l) : Int), decide ((i_1.fst:Int) > 0) = true → decide ((i_1.fst:Int) > 0) = true, decide ((i_1.fst:Int) > 0) = true → addN 0 (i_1.fst:Int).toNat < List.length l, decide ((i_1.fst:Int) > 0) = true → decide ((i_1.fst:Int) > 0) = true, decide ((i_1.fst:Int) > 0) = true → i64In ((i_1.fst:Int) - 1), decide ((i_1.fst:Int) > 0) = true → decide ((i_1.fst:Int) > 0) = true, decide ((i_1.fst:Int) > 0) = true → decide ((i_1.fst:Int) > 0) = true, decide ((i_1.fst:Int) > 0) = true → (0:Int) ≤ (i_1.fst:Int) - 1 ∧ (i_1.fst:Int) - 1 < (↑((0:Nat) + List.length l) : Int), decide ((i_1.fst:Int) > 0) = true → decide ((i_1.fst:Int) > 0) = true, decide ((i_1.fst:Int) > 0) = true → addN 0 ((i_1.fst:Int) - 1).toNat < List.length l, decide ((i_1.fst:Int) > 0)
     = true → decide ((i_1.fst:Int) > 0) = true, decide ((i_1.fst:Int) > 0) = true → decide ((i_1.fst:Int) > 0) = true, decide ((i_1.fst:Int) > 0) = true → FnC prog 149 [.val (.agg (Array.mk [.int .i64 (i_1.2 0 (addN 0 (i_1.fst:Int).toNat)), .int .i64 (i_1.2 1 (addN 0 (i_1.fst:Int).toNat)), .int .i64 (i_1.2 2 (addN 0 (i_1.fst:Int).toNat)), .int .i64 (i_1.2 3 (addN 0 (i_1.fst:Int).toNat)), .int .i64 (i_1.2 4 (addN 0 (i_1.fst:Int).toNat)), .int .i64 (i_1.2 5 (addN 0 (i_1.fst:Int).toNat)), .int .i64 (i_1.2 6 (addN 0 (i_1.fst:Int).toNat))])), .val (.agg (Array.mk [.int .i64 (i_1.2 0 (addN 0 ((i_1.fst:Int) - 1).toNat)), .int .i64 (i_1.2 1 (addN 0 ((i_1.fst:Int) - 1).toNat)), .int .i64 (i_1.2 2 (addN 0 ((i_1.fst:Int) - 1).toNat)), .int .i64 (i_1.2 3 (addN 0 ((i_1.fst:Int) - 1).toNat)), .int .i64 (i_1.2 4 (addN 0 ((i_1.fst:Int) - 1).toNat)), .int .i64 (i_1.2 5 (addN 0 ((i_1.fst:Int) - 1).toNat)), .int .i64 (i_1.2 6 (addN 0 ((i_1.fst:Int) - 1).toNat))]))] ((dB (lexB [i_1.2 0 (addN 0 (i_1.fst:Int).toNat), i_1.2 1 (addN 0 (i_1.fst:Int).toNat), i_1.2 2 (addN 0 (i_1.fst:Int).toNat), i_1.2 3 (addN 0 (i_1.fst:Int).toNat), i_1.2 4 (addN 0 (i_1.fst:Int).toNat), i_1.2 5 (addN 0 (i_1.fst:Int).toNat), i_1.2 6 (addN 0 (i_1.fst:Int).toNat)] [i_1.2 0 (addN 0 ((i_1.fst:Int) - 1).toNat), i_1.2 1 (addN 0 ((↑i_1.fst
     : Int) - 1).toNat), i_1.2 2 (addN 0 ((i_1.fst:Int) - 1).toNat), i_1.2 3 (addN 0 ((i_1.fst:Int) - 1).toNat), i_1.2 4 (addN 0 ((i_1.fst:Int) - 1).toNat), i_1.2 5 (addN 0 ((i_1.fst:Int) - 1).toNat), i_1.2 6 (addN 0 ((i_1.fst:Int) - 1).toNat)]))), decide ((i_1.fst:Int) > 0) = true → decide ((i_1.fst:Int) > 0) = true] (.ite (if decide ((i_1.fst:Int) > 0) = true then lexB [i_1.2 0 (addN 0 (i_1.fst:Int).toNat), i_1.2 1 (addN 0 (i_1.fst:Int).toNat), i_1.2 2 (addN 0 (i_1.fst:Int).toNat), i_1.2 3 (addN 0 (i_1.fst:Int).toNat), i_1.2 4 (addN 0 (i_1.fst:Int).toNat), i_1.2 5 (addN 0 (i_1.fst:Int).toNat), i_1.2 6 (addN 0 (i_1.fst:Int).toNat)] [i_1.2 0 (addN 0 ((i_1.fst:Int) - 1).toNat), i_1.2 1 (addN 0 ((i_1.fst:Int) - 1).toNat), i_1.2 2 (addN 0 ((i_1.fst:Int) - 1).toNat), i_1.2 3 (addN 0 ((i_1.fst:Int) - 1).toNat), i_1.2 4 (addN 0 ((i_1.fst:Int) - 1).toNat), i_1.2 5 (addN 0 ((i_1.fst:Int) - 1).toNat), i_1.2 6 (addN 0 ((i_1.fst:Int) - 1).toNat)] else false) (.need [i64In ((i_1.fst:Int) - 1), i64In ((i_1.fst:Int) - 1), (0:Int) ≤ (i_1.fst:Int) - 1 ∧ (i_1.fst:Int) - 1 < (↑((0:Nat) + List.length l) : Int), addN 0 ((i_1.fst:Int) - 1).toNat < List.length l, (0:Int) ≤ (i_1.fst:Int) ∧ (i_1.fst:Int) < (↑((0:Nat) + List.length l) : Int), addN 0 (i_1.fst:Int).toNat < List.length l, (0:Int) ≤
     (i_1.fst:Int) ∧ (i_1.fst:Int) < (↑((0:Nat) + List.length l) : Int), addN 0 (i_1.fst:Int).toNat < List.length l, (0:Int) ≤ (i_1.fst:Int) - 1 ∧ (i_1.fst:Int) - 1 < (↑((0:Nat) + List.length l) : Int), addN 0 ((i_1.fst:Int) - 1).toNat < List.length l] (.need [i64In ((i_1.fst:Int) - 1)] (.done [(i_1.fst:Int) - 1 = (↑((i_1.fst:Int) - 1).toNat : Int), (0:Nat) = 0, (0:Nat) + List.length l = 0 + List.length l, (i.fst:Int) = (i.fst:Int), List.length l = List.length l, ∀ i < List.length l, (if decide (i = addN 0 ((i_1.fst:Int) - 1).toNat) = true then i_1.2 0 (addN 0 (i_1.fst:Int).toNat) else if decide (i = addN 0 (i_1.fst:Int).toNat) = true then i_1.2 0 (addN 0 ((i_1.fst:Int) - 1).toNat) else i_1.2 0 i) = f7 (fun j => if decide (j = addN 0 ((i_1.fst:Int) - 1).toNat) = true then i_1.2 0 (addN 0 (i_1.fst:Int).toNat) else if decide (j = addN 0 (i_1.fst:Int).toNat) = true then i_1.2 0 (addN 0 ((i_1.fst:Int) - 1).toNat) else i_1.2 0 j) (fun j => if decide (j = addN 0 ((i_1.fst:Int) - 1).toNat) = true then i_1.2 1 (addN 0 (i_1.fst:Int).toNat) else if decide (j = addN 0 (i_1.fst:Int).toNat) = true then i_1.2 1 (addN 0 ((i_1.fst:Int) - 1).toNat) else i_1.2 1 j) (fun j => if decide (j = addN 0 ((i_1.fst:Int) - 1).toNat) = true then i_1.2 2 (addN 0 (i_1.fst:Int).toNat) else if decide (j = addN 0 (i_1.fst:Int).toNat) = true then i_1.2 2 (addN 0 ((i_1.fst:Int) - 1).toNat) else i_1.2 2 j) (fun j => if decide (j =
     addN 0 ((i_1.fst:Int) - 1).toNat) = true then i_1.2 3 (addN 0 (i_1.fst:Int).toNat) else if decide (j = addN 0 (i_1.fst:Int).toNat) = true then i_1.2 3 (addN 0 ((i_1.fst:Int) - 1).toNat) else i_1.2 3 j) (fun j => if decide (j = addN 0 ((i_1.fst:Int) - 1).toNat) = true then i_1.2 4 (addN 0 (i_1.fst:Int).toNat) else if decide (j = addN 0 (i_1.fst:Int).toNat) = true then i_1.2 4 (addN 0 ((i_1.fst:Int) - 1).toNat) else i_1.2 4 j) (fun j => if decide (j = addN 0 ((i_1.fst:Int) - 1).toNat) = true then i_1.2 5 (addN 0 (i_1.fst:Int).toNat) else if decide (j = addN 0 (i_1.fst:Int).toNat) = true then i_1.2 5 (addN 0 ((i_1.fst:Int) - 1).toNat) else i_1.2 5 j) (fun j => if decide (j = addN 0 ((i_1.fst:Int) - 1).toNat) = true then i_1.2 6 (addN 0 (i_1.fst:Int).toNat) else if decide (j = addN 0 (i_1.fst:Int).toNat) = true then i_1.2 6 (addN 0 ((i_1.fst:Int) - 1).toNat) else i_1.2 6 j) (0:Nat) i, ∀ i < List.length l, (if decide (i = addN 0 ((i_1.fst:Int) - 1).toNat) = true then i_1.2 1 (addN 0 (i_1.fst:Int).toNat) else if decide (i = addN 0 (i_1.fst:Int).toNat) = true then i_1.2 1 (addN 0 ((i_1.fst:Int) - 1).toNat) else i_1.2 1 i) = f7 (fun j => if decide (j = addN 0 ((i_1.fst:Int) - 1).toNat) = true then i_1.2 0 (addN 0 (i_1.fst:Int).toNat) else if decide (j = addN 0 (i_1.fst:Int).toNat) = true then i_1.2 0 (addN 0 ((i_1.fst:Int) - (1 :
     Int)).toNat) else i_1.2 0 j) (fun j => if decide (j = addN 0 ((i_1.fst:Int) - 1).toNat) = true then i_1.2 1 (addN 0 (i_1.fst:Int).toNat) else if decide (j = addN 0 (i_1.fst:Int).toNat) = true then i_1.2 1 (addN 0 ((i_1.fst:Int) - 1).toNat) else i_1.2 1 j) (fun j => if decide (j = addN 0 ((i_1.fst:Int) - 1).toNat) = true then i_1.2 2 (addN 0 (i_1.fst:Int).toNat) else if decide (j = addN 0 (i_1.fst:Int).toNat) = true then i_1.2 2 (addN 0 ((i_1.fst:Int) - 1).toNat) else i_1.2 2 j) (fun j => if decide (j = addN 0 ((i_1.fst:Int) - 1).toNat) = true then i_1.2 3 (addN 0 (i_1.fst:Int).toNat) else if decide (j = addN 0 (i_1.fst:Int).toNat) = true then i_1.2 3 (addN 0 ((i_1.fst:Int) - 1).toNat) else i_1.2 3 j) (fun j => if decide (j = addN 0 ((i_1.fst:Int) - 1).toNat) = true then i_1.2 4 (addN 0 (i_1.fst:Int).toNat) else if decide (j = addN 0 (i_1.fst:Int).toNat) = true then i_1.2 4 (addN 0 ((i_1.fst:Int) - 1).toNat) else i_1.2 4 j) (fun j => if decide (j = addN 0 ((i_1.fst:Int) - 1).toNat) = true then i_1.2 5 (addN 0 (i_1.fst:Int).toNat) else if decide (j = addN 0 (i_1.fst:Int).toNat) = true then i_1.2 5 (addN 0 ((i_1.fst:Int) - 1).toNat) else i_1.2 5 j) (fun j => if decide (j = addN 0 ((i_1.fst:Int) - 1).toNat) = true then i_1.2 6 (addN 0 (i_1.fst:Int).toNat) else if decide (j = addN 0 (i_1.fst:Int).toNat) = true then i_1.2 6 (addN 0 ((↑i_1.fst :
     Int) - 1).toNat) else i_1.2 6 j) (1:Nat) i, ∀ i < List.length l, (if decide (i = addN 0 ((i_1.fst:Int) - 1).toNat) = true then i_1.2 2 (addN 0 (i_1.fst:Int).toNat) else if decide (i = addN 0 (i_1.fst:Int).toNat) = true then i_1.2 2 (addN 0 ((i_1.fst:Int) - 1).toNat) else i_1.2 2 i) = f7 (fun j => if decide (j = addN 0 ((i_1.fst:Int) - 1).toNat) = true then i_1.2 0 (addN 0 (i_1.fst:Int).toNat) else if decide (j = addN 0 (i_1.fst:Int).toNat) = true then i_1.2 0 (addN 0 ((i_1.fst:Int) - 1).toNat) else i_1.2 0 j) (fun j => if decide (j = addN 0 ((i_1.fst:Int) - 1).toNat) = true then i_1.2 1 (addN 0 (i_1.fst:Int).toNat) else if decide (j = addN 0 (i_1.fst:Int).toNat) = true then i_1.2 1 (addN 0 ((i_1.fst:Int) - 1).toNat) else i_1.2 1 j) (fun j => if decide (j = addN 0 ((i_1.fst:Int) - 1).toNat) = true then i_1.2 2 (addN 0 (i_1.fst:Int).toNat) else if decide (j = addN 0 (i_1.fst:Int).toNat) = true then i_1.2 2 (addN 0 ((i_1.fst:Int) - 1).toNat) else i_1.2 2 j) (fun j => if decide (j = addN 0 ((i_1.fst:Int) - 1).toNat) = true then i_1.2 3 (addN 0 (i_1.fst:Int).toNat) else if decide (j = addN 0 (i_1.fst:Int).toNat) = true then i_1.2 3 (addN 0 ((i_1.fst:Int) - 1).toNat) else i_1.2 3 j) (fun j => if decide (j = addN 0 ((i_1.fst:Int) - 1).toNat) = true then i_1.2 4 (addN 0 (i_1.fst:Int).toNat) else if decide (j = addN 0 (i_1.fst:Int).toNat) = true then
     i_1.2 4 (addN 0 ((i_1.fst:Int) - 1).toNat) else i_1.2 4 j) (fun j => if decide (j = addN 0 ((i_1.fst:Int) - 1).toNat) = true then i_1.2 5 (addN 0 (i_1.fst:Int).toNat) else if decide (j = addN 0 (i_1.fst:Int).toNat) = true then i_1.2 5 (addN 0 ((i_1.fst:Int) - 1).toNat) else i_1.2 5 j) (fun j => if decide (j = addN 0 ((i_1.fst:Int) - 1).toNat) = true then i_1.2 6 (addN 0 (i_1.fst:Int).toNat) else if decide (j = addN 0 (i_1.fst:Int).toNat) = true then i_1.2 6 (addN 0 ((i_1.fst:Int) - 1).toNat) else i_1.2 6 j) (2:Nat) i, ∀ i < List.length l, (if decide (i = addN 0 ((i_1.fst:Int) - 1).toNat) = true then i_1.2 3 (addN 0 (i_1.fst:Int).toNat) else if decide (i = addN 0 (i_1.fst:Int).toNat) = true then i_1.2 3 (addN 0 ((i_1.fst:Int) - 1).toNat) else i_1.2 3 i) = f7 (fun j => if decide (j = addN 0 ((i_1.fst:Int) - 1).toNat) = true then i_1.2 0 (addN 0 (i_1.fst:Int).toNat) else if decide (j = addN 0 (i_1.fst:Int).toNat) = true then i_1.2 0 (addN 0 ((i_1.fst:Int) - 1).toNat) else i_1.2 0 j) (fun j => if decide (j = addN 0 ((i_1.fst:Int) - 1).toNat) = true then i_1.2 1 (addN 0 (i_1.fst:Int).toNat) else if decide (j = addN 0 (i_1.fst:Int).toNat) = true then i_1.2 1 (addN 0 ((i_1.fst:Int) - 1).toNat) else i_1.2 1 j) (fun j => if decide (j = addN 0 ((i_1.fst:Int) - 1).toNat) = true then i_1.2 2 (addN 0 (i_1.fst:Int).toNat) else if decide (j = addN
     (0:Nat) (i_1.fst:Int).toNat) = true then i_1.2 2 (addN 0 ((i_1.fst:Int) - 1).toNat) else i_1.2 2 j) (fun j => if decide (j = addN 0 ((i_1.fst:Int) - 1).toNat) = true then i_1.2 3 (addN 0 (i_1.fst:Int).toNat) else if decide (j = addN 0 (i_1.fst:Int).toNat) = true then i_1.2 3 (addN 0 ((i_1.fst:Int) - 1).toNat) else i_1.2 3 j) (fun j => if decide (j = addN 0 ((i_1.fst:Int) - 1).toNat) = true then i_1.2 4 (addN 0 (i_1.fst:Int).toNat) else if decide (j = addN 0 (i_1.fst:Int).toNat) = true then i_1.2 4 (addN 0 ((i_1.fst:Int) - 1).toNat) else i_1.2 4 j) (fun j => if decide (j = addN 0 ((i_1.fst:Int) - 1).toNat) = true then i_1.2 5 (addN 0 (i_1.fst:Int).toNat) else if decide (j = addN 0 (i_1.fst:Int).toNat) = true then i_1.2 5 (addN 0 ((i_1.fst:Int) - 1).toNat) else i_1.2 5 j) (fun j => if decide (j = addN 0 ((i_1.fst:Int) - 1).toNat) = true then i_1.2 6 (addN 0 (i_1.fst:Int).toNat) else if decide (j = addN 0 (i_1.fst:Int).toNat) = true then i_1.2 6 (addN 0 ((i_1.fst:Int) - 1).toNat) else i_1.2 6 j) (3:Nat) i, ∀ i < List.length l, (if decide (i = addN 0 ((i_1.fst:Int) - 1).toNat) = true then i_1.2 4 (addN 0 (i_1.fst:Int).toNat) else if decide (i = addN 0 (i_1.fst:Int).toNat) = true then i_1.2 4 (addN 0 ((i_1.fst:Int) - 1).toNat) else i_1.2 4 i) = f7 (fun j => if decide (j = addN 0 ((i_1.fst:Int) - 1).toNat) = true then i_1.2 0 (addN 0
     (i_1.fst:Int).toNat) else if decide (j = addN 0 (i_1.fst:Int).toNat) = true then i_1.2 0 (addN 0 ((i_1.fst:Int) - 1).toNat) else i_1.2 0 j) (fun j => if decide (j = addN 0 ((i_1.fst:Int) - 1).toNat) = true then i_1.2 1 (addN 0 (i_1.fst:Int).toNat) else if decide (j = addN 0 (i_1.fst:Int).toNat) = true then i_1.2 1 (addN 0 ((i_1.fst:Int) - 1).toNat) else i_1.2 1 j) (fun j => if decide (j = addN 0 ((i_1.fst:Int) - 1).toNat) = true then i_1.2 2 (addN 0 (i_1.fst:Int).toNat) else if decide (j = addN 0 (i_1.fst:Int).toNat) = true then i_1.2 2 (addN 0 ((i_1.fst:Int) - 1).toNat) else i_1.2 2 j) (fun j => if decide (j = addN 0 ((i_1.fst:Int) - 1).toNat) = true then i_1.2 3 (addN 0 (i_1.fst:Int).toNat) else if decide (j = addN 0 (i_1.fst:Int).toNat) = true then i_1.2 3 (addN 0 ((i_1.fst:Int) - 1).toNat) else i_1.2 3 j) (fun j => if decide (j = addN 0 ((i_1.fst:Int) - 1).toNat) = true then i_1.2 4 (addN 0 (i_1.fst:Int).toNat) else if decide (j = addN 0 (i_1.fst:Int).toNat) = true then i_1.2 4 (addN 0 ((i_1.fst:Int) - 1).toNat) else i_1.2 4 j) (fun j => if decide (j = addN 0 ((i_1.fst:Int) - 1).toNat) = true then i_1.2 5 (addN 0 (i_1.fst:Int).toNat) else if decide (j = addN 0 (i_1.fst:Int).toNat) = true then i_1.2 5 (addN 0 ((i_1.fst:Int) - 1).toNat) else i_1.2 5 j) (fun j => if decide (j = addN 0 ((i_1.fst:Int) - 1).toNat) = true then i_1.2 6 (addN
     (0:Nat) (i_1.fst:Int).toNat) else if decide (j = addN 0 (i_1.fst:Int).toNat) = true then i_1.2 6 (addN 0 ((i_1.fst:Int) - 1).toNat) else i_1.2 6 j) (4:Nat) i, ∀ i < List.length l, (if decide (i = addN 0 ((i_1.fst:Int) - 1).toNat) = true then i_1.2 5 (addN 0 (i_1.fst:Int).toNat) else if decide (i = addN 0 (i_1.fst:Int).toNat) = true then i_1.2 5 (addN 0 ((i_1.fst:Int) - 1).toNat) else i_1.2 5 i) = f7 (fun j => if decide (j = addN 0 ((i_1.fst:Int) - 1).toNat) = true then i_1.2 0 (addN 0 (i_1.fst:Int).toNat) else if decide (j = addN 0 (i_1.fst:Int).toNat) = true then i_1.2 0 (addN 0 ((i_1.fst:Int) - 1).toNat) else i_1.2 0 j) (fun j => if decide (j = addN 0 ((i_1.fst:Int) - 1).toNat) = true then i_1.2 1 (addN 0 (i_1.fst:Int).toNat) else if decide (j = addN 0 (i_1.fst:Int).toNat) = true then i_1.2 1 (addN 0 ((i_1.fst:Int) - 1).toNat) else i_1.2 1 j) (fun j => if decide (j = addN 0 ((i_1.fst:Int) - 1).toNat) = true then i_1.2 2 (addN 0 (i_1.fst:Int).toNat) else if decide (j = addN 0 (i_1.fst:Int).toNat) = true then i_1.2 2 (addN 0 ((i_1.fst:Int) - 1).toNat) else i_1.2 2 j) (fun j => if decide (j = addN 0 ((i_1.fst:Int) - 1).toNat) = true then i_1.2 3 (addN 0 (i_1.fst:Int).toNat) else if decide (j = addN 0 (i_1.fst:Int).toNat) = true then i_1.2 3 (addN 0 ((i_1.fst:Int) - 1).toNat) else i_1.2 3 j) (fun j => if decide (j = addN 0 ((↑i_1.fst :
     Int) - 1).toNat) = true then i_1.2 4 (addN 0 (i_1.fst:Int).toNat) else if decide (j = addN 0 (i_1.fst:Int).toNat) = true then i_1.2 4 (addN 0 ((i_1.fst:Int) - 1).toNat) else i_1.2 4 j) (fun j => if decide (j = addN 0 ((i_1.fst:Int) - 1).toNat) = true then i_1.2 5 (addN 0 (i_1.fst:Int).toNat) else if decide (j = addN 0 (i_1.fst:Int).toNat) = true then i_1.2 5 (addN 0 ((i_1.fst:Int) - 1).toNat) else i_1.2 5 j) (fun j => if decide (j = addN 0 ((i_1.fst:Int) - 1).toNat) = true then i_1.2 6 (addN 0 (i_1.fst:Int).toNat) else if decide (j = addN 0 (i_1.fst:Int).toNat) = true then i_1.2 6 (addN 0 ((i_1.fst:Int) - 1).toNat) else i_1.2 6 j) (5:Nat) i, ∀ i < List.length l, (if decide (i = addN 0 ((i_1.fst:Int) - 1).toNat) = true then i_1.2 6 (addN 0 (i_1.fst:Int).toNat) else if decide (i = addN 0 (i_1.fst:Int).toNat) = true then i_1.2 6 (addN 0 ((i_1.fst:Int) - 1).toNat) else i_1.2 6 i) = f7 (fun j => if decide (j = addN 0 ((i_1.fst:Int) - 1).toNat) = true then i_1.2 0 (addN 0 (i_1.fst:Int).toNat) else if decide (j = addN 0 (i_1.fst:Int).toNat) = true then i_1.2 0 (addN 0 ((i_1.fst:Int) - 1).toNat) else i_1.2 0 j) (fun j => if decide (j = addN 0 ((i_1.fst:Int) - 1).toNat) = true then i_1.2 1 (addN 0 (i_1.fst:Int).toNat) else if decide (j = addN 0 (i_1.fst:Int).toNat) = true then i_1.2 1 (addN 0 ((i_1.fst:Int) - 1).toNat) else i_1.2 1 j) (fun j =>
     if decide (j = addN 0 ((i_1.fst:Int) - 1).toNat) = true then i_1.2 2 (addN 0 (i_1.fst:Int).toNat) else if decide (j = addN 0 (i_1.fst:Int).toNat) = true then i_1.2 2 (addN 0 ((i_1.fst:Int) - 1).toNat) else i_1.2 2 j) (fun j => if decide (j = addN 0 ((i_1.fst:Int) - 1).toNat) = true then i_1.2 3 (addN 0 (i_1.fst:Int).toNat) else if decide (j = addN 0 (i_1.fst:Int).toNat) = true then i_1.2 3 (addN 0 ((i_1.fst:Int) - 1).toNat) else i_1.2 3 j) (fun j => if decide (j = addN 0 ((i_1.fst:Int) - 1).toNat) = true then i_1.2 4 (addN 0 (i_1.fst:Int).toNat) else if decide (j = addN 0 (i_1.fst:Int).toNat) = true then i_1.2 4 (addN 0 ((i_1.fst:Int) - 1).toNat) else i_1.2 4 j) (fun j => if decide (j = addN 0 ((i_1.fst:Int) - 1).toNat) = true then i_1.2 5 (addN 0 (i_1.fst:Int).toNat) else if decide (j = addN 0 (i_1.fst:Int).toNat) = true then i_1.2 5 (addN 0 ((i_1.fst:Int) - 1).toNat) else i_1.2 5 j) (fun j => if decide (j = addN 0 ((i_1.fst:Int) - 1).toNat) = true then i_1.2 6 (addN 0 (i_1.fst:Int).toNat) else if decide (j = addN 0 (i_1.fst:Int).toNat) = true then i_1.2 6 (addN 0 ((i_1.fst:Int) - 1).toNat) else i_1.2 6 j) (6:Nat) i, SrtK l (i.fst:Int).toNat ((i_1.fst:Int) - 1).toNat (f7 (fun j => if decide (j = addN 0 ((i_1.fst:Int) - 1).toNat) = true then i_1.2 0 (addN 0 (i_1.fst:Int).toNat) else if decide (j = addN 0 (i_1.fst:Int).toNat) = true then i_1.2
     (0:Nat) (addN 0 ((i_1.fst:Int) - 1).toNat) else i_1.2 0 j) (fun j => if decide (j = addN 0 ((i_1.fst:Int) - 1).toNat) = true then i_1.2 1 (addN 0 (i_1.fst:Int).toNat) else if decide (j = addN 0 (i_1.fst:Int).toNat) = true then i_1.2 1 (addN 0 ((i_1.fst:Int) - 1).toNat) else i_1.2 1 j) (fun j => if decide (j = addN 0 ((i_1.fst:Int) - 1).toNat) = true then i_1.2 2 (addN 0 (i_1.fst:Int).toNat) else if decide (j = addN 0 (i_1.fst:Int).toNat) = true then i_1.2 2 (addN 0 ((i_1.fst:Int) - 1).toNat) else i_1.2 2 j) (fun j => if decide (j = addN 0 ((i_1.fst:Int) - 1).toNat) = true then i_1.2 3 (addN 0 (i_1.fst:Int).toNat) else if decide (j = addN 0 (i_1.fst:Int).toNat) = true then i_1.2 3 (addN 0 ((i_1.fst:Int) - 1).toNat) else i_1.2 3 j) (fun j => if decide (j = addN 0 ((i_1.fst:Int) - 1).toNat) = true then i_1.2 4 (addN 0 (i_1.fst:Int).toNat) else if decide (j = addN 0 (i_1.fst:Int).toNat) = true then i_1.2 4 (addN 0 ((i_1.fst:Int) - 1).toNat) else i_1.2 4 j) (fun j => if decide (j = addN 0 ((i_1.fst:Int) - 1).toNat) = true then i_1.2 5 (addN 0 (i_1.fst:Int).toNat) else if decide (j = addN 0 (i_1.fst:Int).toNat) = true then i_1.2 5 (addN 0 ((i_1.fst:Int) - 1).toNat) else i_1.2 5 j) fun j => if decide (j = addN 0 ((i_1.fst:Int) - 1).toNat) = true then i_1.2 6 (addN 0 (i_1.fst:Int).toNat) else if decide (j = addN 0 (i_1.fst:Int).toNat) = true
     then i_1.2 6 (addN 0 ((i_1.fst:Int) - 1).toNat) else i_1.2 6 j), Int.toNat ((i_1.fst:Int) - 1) < i_1.fst]))) (.need [i64In ((i.fst:Int) + 1)] (.done [(i.fst:Int) + 1 = (↑((i.fst:Int) + 1).toNat : Int), (0:Nat) = 0, (0:Nat) + List.length l = 0 + List.length l, List.length l = List.length l, ∀ i < List.length l, i_1.2 0 i = f7 (i_1.2 0) (i_1.2 1) (i_1.2 2) (i_1.2 3) (i_1.2 4) (i_1.2 5) (i_1.2 6) (0:Nat) i, ∀ i < List.length l, i_1.2 1 i = f7 (i_1.2 0) (i_1.2 1) (i_1.2 2) (i_1.2 3) (i_1.2 4) (i_1.2 5) (i_1.2 6) (1:Nat) i, ∀ i < List.length l, i_1.2 2 i = f7 (i_1.2 0) (i_1.2 1) (i_1.2 2) (i_1.2 3) (i_1.2 4) (i_1.2 5) (i_1.2 6) (2:Nat) i, ∀ i < List.length l, i_1.2 3 i = f7 (i_1.2 0) (i_1.2 1) (i_1.2 2) (i_1.2 3) (i_1.2 4) (i_1.2 5) (i_1.2 6) (3:Nat) i, ∀ i < List.length l, i_1.2 4 i = f7 (i_1.2 0) (i_1.2 1) (i_1.2 2) (i_1.2 3) (i_1.2 4) (i_1.2 5) (i_1.2 6) (4:Nat) i, ∀ i < List.length l, i_1.2 5 i = f7 (i_1.2 0) (i_1.2 1) (i_1.2 2) (i_1.2 3) (i_1.2 4) (i_1.2 5) (i_1.2 6) (5:Nat) i, ∀ i < List.length l, i_1.2 6 i = f7 (i_1.2 0) (i_1.2 1) (i_1.2 2) (i_1.2 3) (i_1.2 4) (i_1.2 5) (i_1.2 6) (6:Nat) i, SrtO l ((i.fst:Int) + 1).toNat (f7 (i_1.2 0) (i_1.2 1) (i_1.2 2) (i_1.2 3) (i_1.2 4) (i_1.2 5) (i_1.2 6)), List.length l - ((i.fst:Int) + (1 :
     Int)).toNat < List.length l - i.fst])))) (.done [(0:Nat) + List.length l = List.length l ∧ (0:Nat) + List.length l ≤ List.length l, ∀ i_1 < List.length l, i.2 0 i_1 = col (srt l) (0:Nat) i_1, ∀ i_1 < List.length l, i.2 1 i_1 = col (srt l) (1:Nat) i_1, ∀ i_1 < List.length l, i.2 2 i_1 = col (srt l) (2:Nat) i_1, ∀ i_1 < List.length l, i.2 3 i_1 = col (srt l) (3:Nat) i_1, ∀ i_1 < List.length l, i.2 4 i_1 = col (srt l) (4:Nat) i_1, ∀ i_1 < List.length l, i.2 5 i_1 = col (srt l) (5:Nat) i_1, ∀ i_1 < List.length l, i.2 6 i_1 = col (srt l) (6:Nat) i_1]))) (by kernel_rfl) ?_
  simp only [VT.holds, AllT, Sq]
  refine ⟨⟨by decide, by omega⟩, ⟨rfl, Nat.zero_add _, fun _ _ => rfl, fun _ _ => rfl, fun _ _ => rfl, fun _ _ => rfl, fun _ _ => rfl, fun _ _ => rfl, fun _ _ => rfl⟩, srtO_start h7 (fun j => rfl), fun ⟨n, A⟩ hq => ⟨fun hlt => ⟨⟨fun _ _ => rfl, fun _ _ => rfl, fun _ _ => rfl, fun _ _ => rfl, fun _ _ => rfl, fun _ _ => rfl, fun _ _ => rfl⟩, (srtO_k hq (by simp only at hlt; omega)).of fun _ => rfl, fun ⟨k, B⟩ hk => ?_⟩, fun hge => ?_⟩⟩
  · have hn := hk.le
    have hkn := hk.ki
    simp only at hlt hn hkn ⊢
    have z0 : ∀ m : Nat, addN 0 m = m := add0
    simp only [z0]
    refine ⟨⟨fun _ => by omega, fun _ => by omega, fun _ => by unfold i64In; omega, fun _ => by omega, fun _ => by omega, fun _ => placeLess_c _ _ _ _ _ _ _ _ _ _ _ _ _ _⟩, fun ⟨h0, h1⟩ => ?_, fun h1 => ?_⟩
    · obtain ⟨m, rfl⟩ : ∃ m, k = m + 1 := ⟨k - 1, by omega⟩
      have e : (((m + 1 : Nat) : Int) - 1).toNat = m := by omega
      simp only [e] at h1 ⊢
      exact ⟨⟨by unfold i64In; omega, by unfold i64In; omega, by omega, by omega, by omega, by omega, by omega, by omega, by omega, by omega⟩, by unfold i64In; omega, by omega, fun _ _ => rfl, fun _ _ => rfl, fun _ _ => rfl, fun _ _ => rfl, fun _ _ => rfl, fun _ _ => rfl, fun _ _ => rfl, (srtK_step hk h1).of fun _ => rfl, by omega⟩
    · refine ⟨by unfold i64In; omega, by omega, fun _ _ => rfl, fun _ _ => rfl, fun _ _ => rfl, fun _ _ => rfl, fun _ _ => rfl, fun _ _ => rfl, fun _ _ => rfl, (srtK_end hk (fun h0 => ?_)).of fun _ => rfl, by omega⟩
      have e : ((k : Int) - 1).toNat = k - 1 := by omega
      rw [e] at h1
      exact h1 (by omega)
  · have hle := hq.le
    simp only at hge hle ⊢
    obtain rfl : n = l.length := by omega
    have h := srtO_end hq
    have hc : ∀ c j, j < l.length → (rowAt A j).getD c 0 = col (srt l) c j := fun c j hj => by rw [h j hj]; rfl
    exact ⟨by omega, fun j hj => hc 0 j hj, fun j hj => hc 1 j hj, fun j hj => hc 2 j hj, fun j hj => hc 3 j hj, fun j hj => hc 4 j hj, fun j hj => hc 5 j hj, fun j hj => hc 6 j hj⟩
end Go.Abs
