/- Plain laws: numbers ascending, each once; a grid's lines. -/
import Derived.Test.YtcgfcahljfmipaaDoorKs
set_option linter.unusedVariables false
namespace Go.Abs
open Go

def Asc (l : List Int) : Prop := l.Pairwise (· < ·)
theorem asc_eq : ∀ {l m : List Int}, Asc l → Asc m → (∀ x, x ∈ l ↔ x ∈ m) → l = m
  | [], [], _, _, _ => rfl
  | [], y :: s, _, _, h => by have := (h y).2 List.mem_cons_self; cases this
  | x :: r, [], _, _, h => by have := (h x).1 List.mem_cons_self; cases this
  | x :: r, y :: s, hl, hm, h => by
    have hl1 := List.pairwise_cons.1 hl
    have hm1 := List.pairwise_cons.1 hm
    have exy : x = y := by
      rcases List.mem_cons.1 ((h x).1 List.mem_cons_self) with e | e
      · exact e
      · rcases List.mem_cons.1 ((h y).2 List.mem_cons_self) with e2 | e2
        · exact e2.symm
        · have h1 := hm1.1 x e
          have h2 := hl1.1 y e2
          omega
    subst exy
    congr 1
    refine asc_eq hl1.2 hm1.2 fun z => ?_
    constructor
    · intro hz
      have h1 := hl1.1 z hz
      rcases List.mem_cons.1 ((h z).1 (List.mem_cons_of_mem _ hz)) with e | e
      · omega
      · exact e
    · intro hz
      have h1 := hm1.1 z hz
      rcases List.mem_cons.1 ((h z).2 (List.mem_cons_of_mem _ hz)) with e | e
      · omega
      · exact e

theorem compact_asc (d : Array Int) (hs : ∀ i j, i < j → j < d.size → d[i]! ≤ d[j]!) : ∀ k, k ≤ d.size → Asc (Lib.compactUpTo d k) ∧ (∀ x, x ∈ Lib.compactUpTo d k ↔ ∃ j, j < k ∧ d[j]! = x)
  | 0, _ => by
    refine ⟨List.Pairwise.nil, fun x => ⟨fun h => (by cases h), fun ⟨j, hj, _⟩ => (by omega)⟩⟩
  | k + 1, hk => by
    obtain ⟨h1, h2⟩ := compact_asc d hs k (by omega)
    rw [Lib.compactUpTo_succ]
    by_cases hkeep : Lib.keeps d k = true
    · rw [if_pos hkeep]
      have hlt : ∀ x ∈ Lib.compactUpTo d k, x < d[k]! := fun x hx => by
        obtain ⟨j, hj, rfl⟩ := (h2 x).1 hx
        have h3 := hs j k hj (by omega)
        rcases Nat.eq_zero_or_pos k with h0 | h0
        · omega
        · have h4 : d[k]! ≠ d[k - 1]! := by
            unfold Lib.keeps at hkeep
            intro e
            simp only [Bool.or_eq_true, decide_eq_true_eq, e] at hkeep
            rcases hkeep with h | h
            · omega
            · exact absurd h (by simp)
          have h5 : d[j]! ≤ d[k - 1]! := by
            rcases Nat.lt_or_ge j (k - 1) with h | h
            · exact hs j (k - 1) h (by omega)
            · rw [show j = k - 1 by omega]; exact Int.le_refl _
          have h6 := hs (k - 1) k (by omega) (by omega)
          omega
      refine ⟨List.pairwise_append.2 ⟨h1, List.pairwise_singleton _ _, fun x hx y hy => by rw [List.mem_singleton.1 hy]; exact hlt x hx⟩, fun x => ?_⟩
      rw [List.mem_append, h2, List.mem_singleton]
      constructor
      · rintro (⟨j, hj, e⟩ | e)
        · exact ⟨j, by omega, e⟩
        · exact ⟨k, by omega, e.symm⟩
      · rintro ⟨j, hj, e⟩
        rcases Nat.lt_or_ge j k with h | h
        · exact .inl ⟨j, h, e⟩
        · exact .inr (by rw [← e, show j = k by omega])
    · rw [if_neg hkeep, List.append_nil]
      refine ⟨h1, fun x => ?_⟩
      rw [h2]
      constructor
      · rintro ⟨j, hj, e⟩; exact ⟨j, by omega, e⟩
      · rintro ⟨j, hj, e⟩
        rcases Nat.lt_or_ge j k with h | h
        · exact ⟨j, h, e⟩
        · have hjk : j = k := by omega
          subst hjk
          unfold Lib.keeps at hkeep
          simp only [Bool.or_eq_true, decide_eq_true_eq, not_or] at hkeep
          have : d[j]! = d[j - 1]! := by
            have h3 := hkeep.2
            simpa using h3
          exact ⟨j - 1, by omega, by rw [← e, this]⟩

theorem linesF_asc (l : List Int) : Asc (linesF l) ∧ ∀ x, x ∈ linesF l ↔ x ∈ l := by
  have hp := List.pairwise_mergeSort (le := fun x y : Int => decide (x ≤ y)) (fun a b c h1 h2 => by simp only [decide_eq_true_eq] at *; omega) (fun a b => by simp only [Bool.or_eq_true, decide_eq_true_eq]; omega) l
  have hm : ∀ x, x ∈ l.mergeSort (fun x y => decide (x ≤ y)) ↔ x ∈ l := fun x => List.mem_mergeSort
  unfold linesF Lib.compact
  generalize l.mergeSort (fun x y => decide (x ≤ y)) = s at hp hm
  have hget : ∀ i, i < s.length → s.toArray[i]! = s.getD i 0 := fun i hi => by
    rw [getElem!_pos s.toArray i (by simpa using hi)]; simp [hi]
  have hs : ∀ i j, i < j → j < s.toArray.size → s.toArray[i]! ≤ s.toArray[j]! := fun i j hij hj => by
    have hj' : j < s.length := by simpa using hj
    rw [hget i (by omega), hget j hj']
    have := List.pairwise_iff_getElem.1 hp i j (by omega) hj' hij
    simp only [decide_eq_true_eq] at this
    simpa [hj', show i < s.length by omega] using this
  obtain ⟨h1, h2⟩ := compact_asc s.toArray hs s.length (by simp)
  refine ⟨h1, fun x => ?_⟩
  rw [h2, ← hm]
  constructor
  · rintro ⟨j, hj, e⟩
    rw [hget j hj] at e
    rw [← e]
    simp [hj]
  · intro hx
    obtain ⟨j, hj, e⟩ := List.mem_iff_getElem.1 hx
    exact ⟨j, hj, by rw [hget j hj]; simpa [hj] using e⟩
theorem asc_get {l : List Int} (h : Asc l) {i j : Nat} (hij : i < j) (hj : j < l.length) : l.getD i 0 < l.getD j 0 := by
  have := List.pairwise_iff_getElem.1 h i j (by omega) hj hij
  simpa [hj, show i < l.length by omega] using this
/-- No number of an ascending list lies between two neighbours. -/
theorem asc_gap {l : List Int} (h : Asc l) {i : Nat} (hi : i + 1 < l.length) {x : Int} (hx : x ∈ l) : x ≤ l.getD i 0 ∨ l.getD (i + 1) 0 ≤ x := by
  obtain ⟨j, hj, e⟩ := List.mem_iff_getElem.1 hx
  have e' : l.getD j 0 = x := by simpa [hj] using e
  rcases Nat.lt_trichotomy j i with h1 | h1 | h1
  · have := asc_get h h1 (by omega); omega
  · subst h1; omega
  · rcases Nat.eq_or_lt_of_le (show i + 1 ≤ j by omega) with h2 | h2
    · subst h2; omega
    · have := asc_get h h2 hj; omega

/-- Where a number is put in. -/
def posI (x : Int) : List Int → Nat
  | [] => 0
  | y :: r => if y < x then posI x r + 1 else 0
def insI (x : Int) (l : List Int) : List Int := if posI x l = l.length ∨ l.getD (posI x l) 0 ≠ x then l.take (posI x l) ++ (x :: l.drop (posI x l)) else l
theorem posI_le (x : Int) : ∀ l : List Int, posI x l ≤ l.length
  | [] => Nat.le_refl _
  | y :: r => by
    have := posI_le x r
    simp only [posI, List.length_cons]
    split <;> omega
theorem posI_lt (x : Int) : ∀ (l : List Int) (j : Nat), j < posI x l → l.getD j 0 < x
  | [], j, h => by simp [posI] at h
  | y :: r, j, h => by
    simp only [posI] at h
    split at h
    · cases j with
      | zero => simpa using ‹y < x›
      | succ j => simpa using posI_lt x r j (by omega)
    · omega
theorem posI_at (x : Int) : ∀ (l : List Int), posI x l < l.length → x ≤ l.getD (posI x l) 0
  | [], h => by simp at h
  | y :: r, h => by
    simp only [posI] at h ⊢
    split
    · rename_i hy
      rw [if_pos hy] at h
      have := posI_at x r (by simpa using h)
      simpa using this
    · simp; omega
theorem posI_eq {x : Int} {l : List Int} {k : Nat} (h1 : ∀ j, j < k → l.getD j 0 < x) (h2 : k = l.length ∨ (k < l.length ∧ x ≤ l.getD k 0)) : k = posI x l := by
  have a1 := posI_le x l
  rcases Nat.lt_trichotomy k (posI x l) with h | h | h
  · have := posI_lt x l k h
    rcases h2 with h2 | h2 <;> omega
  · exact h
  · have hlt : posI x l < l.length := by rcases h2 with h2 | h2 <;> omega
    have := posI_at x l hlt
    have := h1 _ h
    omega
theorem insI_asc {x : Int} {l : List Int} (h : Asc l) : Asc (insI x l) ∧ ∀ y, y ∈ insI x l ↔ y = x ∨ y ∈ l := by
  unfold insI
  have hle := posI_le x l
  have hlt := posI_lt x l
  have hat := posI_at x l
  generalize posI x l = p at *
  split
  · rename_i hc
    have htd : l = l.take p ++ l.drop p := (List.take_append_drop p l).symm
    have h2 := h
    unfold Asc at h2
    rw [htd, List.pairwise_append] at h2
    have hbig : ∀ y ∈ l.drop p, x < y := fun y hy => by
      obtain ⟨j, hj, e⟩ := List.mem_iff_getElem.1 hy
      rw [List.getElem_drop] at e
      have hj' : p + j < l.length := by simpa [Nat.add_comm] using (by have := hj; rw [List.length_drop] at this; omega : p + j < l.length)
      have hp : p < l.length := by omega
      have h3 := hat hp
      have h4 : l.getD p 0 ≠ x := hc.resolve_left (by omega)
      have h5 : l.getD p 0 ≤ y := by
        have ey : l.getD (p + j) 0 = y := by simpa [hj'] using e
        rcases Nat.eq_zero_or_pos j with h0 | h0
        · subst h0; rw [← ey]; exact Int.le_refl _
        · have := asc_get h (show p < p + j by omega) hj'
          omega
      omega
    have hsmall : ∀ y ∈ l.take p, y < x := fun y hy => by
      obtain ⟨j, hj, e⟩ := List.mem_iff_getElem.1 hy
      rw [List.getElem_take] at e
      have hj1 : j < p := by have := hj; rw [List.length_take] at this; omega
      have := hlt j hj1
      simpa [show j < l.length by omega, e] using this
    refine ⟨List.pairwise_append.2 ⟨h2.1, List.pairwise_cons.2 ⟨hbig, h2.2.1⟩, fun a ha b hb => ?_⟩, fun y => ?_⟩
    · rcases List.mem_cons.1 hb with rfl | hb
      · exact hsmall a ha
      · exact h2.2.2 a ha b hb
    · rw [List.mem_append, List.mem_cons]
      conv => rhs; rw [htd, List.mem_append]
      constructor
      · rintro (h | h | h)
        · exact .inr (.inl h)
        · exact .inl h
        · exact .inr (.inr h)
      · rintro (h | h | h)
        · exact .inr (.inl h)
        · exact .inl h
        · exact .inr (.inr h)
  · rename_i hc
    refine ⟨h, fun y => ⟨.inr, ?_⟩⟩
    rintro (rfl | h3)
    · have h4 : ¬ p = l.length ∧ l.getD p 0 = y := ⟨fun e => hc (.inl e), Classical.byContradiction fun e => hc (.inr e)⟩
      rw [← h4.2]
      have : p < l.length := by omega
      simp [this]
    · exact h3
theorem insI_len (x : Int) (l : List Int) : (insI x l).length ≤ l.length + 1 := by
  unfold insI
  split
  · have := posI_le x l
    simp only [List.length_append, List.length_take, List.length_cons, List.length_drop]; omega
  · omega
/-- The first k numbers put in, one behind the other. -/
def sortI (A : Nat → Int) : Nat → List Int
  | 0 => []
  | k + 1 => insI (A k) (sortI A k)
theorem sortI_asc (A : Nat → Int) : ∀ k, Asc (sortI A k) ∧ ∀ x, x ∈ sortI A k ↔ ∃ j, j < k ∧ A j = x
  | 0 => ⟨List.Pairwise.nil, fun x => ⟨fun h => (by cases h), fun ⟨j, hj, _⟩ => (by omega)⟩⟩
  | k + 1 => by
    obtain ⟨h1, h2⟩ := sortI_asc A k
    obtain ⟨h3, h4⟩ := insI_asc (x := A k) h1
    refine ⟨h3, fun x => ?_⟩
    show x ∈ insI (A k) (sortI A k) ↔ _
    rw [h4, h2]
    constructor
    · rintro (rfl | ⟨j, hj, e⟩)
      · exact ⟨k, by omega, rfl⟩
      · exact ⟨j, by omega, e⟩
    · rintro ⟨j, hj, e⟩
      rcases Nat.lt_or_ge j k with h | h
      · exact .inr ⟨j, h, e⟩
      · exact .inl (by rw [← e, show j = k by omega])
theorem sortI_len (A : Nat → Int) : ∀ k, (sortI A k).length ≤ k
  | 0 => Nat.le_refl _
  | k + 1 => by
    have := insI_len (A k) (sortI A k)
    have := sortI_len A k
    show (insI (A k) (sortI A k)).length ≤ k + 1
    omega
theorem sortI_lines (A : Nat → Int) (n : Nat) : sortI A n = linesF ((List.range n).map A) := by
  obtain ⟨h1, h2⟩ := sortI_asc A n
  obtain ⟨h3, h4⟩ := linesF_asc ((List.range n).map A)
  refine asc_eq h1 h3 fun x => ?_
  rw [h2, h4, List.mem_map]
  constructor
  · rintro ⟨j, hj, e⟩; exact ⟨j, List.mem_range.2 hj, e⟩
  · rintro ⟨j, hj, e⟩; exact ⟨j, List.mem_range.1 hj, e⟩

/-- All X of the first m outlines. -/
def allN (N : Nat → Nat) (X : Nat → Nat → Int) : Nat → List Int
  | 0 => []
  | i + 1 => allN N X i ++ (List.range (N i)).map (X i)
theorem allN_mem {N : Nat → Nat} {X : Nat → Nat → Int} {i k : Nat} : ∀ {m : Nat}, i < m → k < N i → X i k ∈ allN N X m
  | m + 1, h1, h2 => by
    rw [allN, List.mem_append]
    rcases Nat.lt_or_ge i m with h | h
    · exact .inl (allN_mem h h2)
    · have : i = m := by omega
      subst this
      exact .inr (List.mem_map.2 ⟨k, List.mem_range.2 h2, rfl⟩)
theorem allN_len (N : Nat → Nat) (X Y : Nat → Nat → Int) : ∀ m, (allN N X m).length = (allN N Y m).length
  | 0 => rfl
  | m + 1 => by simp only [allN, List.length_append, List.length_map, allN_len N X Y m]
theorem allN_bd {N : Nat → Nat} {X : Nat → Nat → Int} {b : Int} : ∀ {m : Nat}, (∀ i, i < m → ∀ k, k < N i → -b ≤ X i k ∧ X i k ≤ b) → ∀ x ∈ allN N X m, -b ≤ x ∧ x ≤ b
  | 0, _, x, hx => by cases hx
  | m + 1, h, x, hx => by
    rw [allN, List.mem_append] at hx
    rcases hx with hx | hx
    · exact allN_bd (fun i hi => h i (by omega)) x hx
    · obtain ⟨k, hk, rfl⟩ := List.mem_map.1 hx
      exact h m (by omega) k (List.mem_range.1 hk)
theorem getD_mem {l : List Int} {i : Nat} (h : i < l.length) : l.getD i 0 ∈ l := by simp [h]
end Go.Abs
