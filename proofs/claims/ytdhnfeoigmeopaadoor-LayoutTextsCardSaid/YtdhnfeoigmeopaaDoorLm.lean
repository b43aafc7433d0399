/- Plain laws of layout: units, ways and tables. No program in sight. -/
namespace Go.Abs
def stepW (m : Nat) (W : Nat → Nat) (k : Nat) : Nat :=
  if h : 1 ≤ m ∧ m ≤ k then min (W k + stepW m W (k - m)) 1000001 else W k
  termination_by k
  decreasing_by omega
theorem stepW_ge {m : Nat} {W : Nat → Nat} {k : Nat} (h1 : 1 ≤ m) (h2 : m ≤ k) : stepW m W k = min (W k + stepW m W (k - m)) 1000001 := by
  rw [stepW, dif_pos ⟨h1, h2⟩]
theorem stepW_lt {m : Nat} {W : Nat → Nat} {k : Nat} (h : ¬ (1 ≤ m ∧ m ≤ k)) : stepW m W k = W k := by
  rw [stepW, dif_neg h]
def waysL (l : List Nat) : Nat → Nat := l.foldl (fun W m => stepW m W) (fun k => if k = 0 then 1 else 0)
theorem waysL_snoc (l : List Nat) (m : Nat) : waysL (l ++ [m]) = stepW m (waysL l) := by
  simp [waysL]
theorem stepW_le {m : Nat} {W : Nat → Nat} (h : ∀ k, W k ≤ 1000001) (k : Nat) : stepW m W k ≤ 1000001 := by
  rw [stepW]
  split
  · omega
  · exact h k
theorem foldlW_le (l : List Nat) (W : Nat → Nat) (h : ∀ k, W k ≤ 1000001) : ∀ k, (l.foldl (fun W m => stepW m W) W) k ≤ 1000001 := by
  induction l generalizing W with
  | nil => exact h
  | cons m l ih => exact ih _ fun k => stepW_le h k
theorem waysL_le (l : List Nat) (k : Nat) : waysL l k ≤ 1000001 := foldlW_le l _ (fun k => by split <;> omega) k
def gcdL (l : List Int) : Nat := l.foldl (fun g x => Int.gcd g x) 0
theorem gcdL_snoc (l : List Int) (x : Int) : gcdL (l ++ [x]) = Int.gcd (gcdL l) x := by simp [gcdL]
theorem gcdF_dvd (l : List Int) (g : Nat) : ((l.foldl (fun (g : Nat) x => Int.gcd g x) g : Nat) ∣ g) ∧ ∀ x ∈ l, ((l.foldl (fun (g : Nat) x => Int.gcd g x) g : Nat) : Int) ∣ x := by
  induction l generalizing g with
  | nil => exact ⟨Nat.dvd_refl _, fun x h => by cases h⟩
  | cons y l ih =>
    obtain ⟨h1, h2⟩ := ih (Int.gcd g y)
    refine ⟨Nat.dvd_trans h1 ?_, fun x hx => ?_⟩
    · have := Int.gcd_dvd_left (a := (g : Int)) (b := y)
      exact Int.natCast_dvd_natCast.1 this
    · rcases List.mem_cons.1 hx with rfl | hx
      · exact Int.dvd_trans (Int.natCast_dvd_natCast.2 h1) (Int.gcd_dvd_right (g : Int) _)
      · exact h2 x hx
theorem gcdL_dvd {l : List Int} {x : Int} (h : x ∈ l) : (gcdL l : Int) ∣ x := (gcdF_dvd l 0).2 x h
theorem gcdL_le {l : List Int} {x : Int} (h : x ∈ l) (hx : 1 ≤ x) : 1 ≤ gcdL l ∧ (gcdL l : Int) ≤ x := by
  have hd := gcdL_dvd h
  refine ⟨?_, Int.le_of_dvd (by omega) hd⟩
  rcases Nat.eq_zero_or_pos (gcdL l) with e | e
  · rw [e] at hd
    have := Int.zero_dvd.1 hd
    omega
  · exact e
def unitsOf (u : Nat) (x : Int) : Nat := (x / (u : Int)).toNat
theorem unitsOf_pos {l : List Int} {x : Int} (h : x ∈ l) (hx : 1 ≤ x) : 1 ≤ unitsOf (gcdL l) x := by
  obtain ⟨h1, h2⟩ := gcdL_le h hx
  have := Int.ediv_le_ediv (c := (gcdL l : Int)) (by omega) h2
  rw [Int.ediv_self (by omega)] at this
  unfold unitsOf
  omega
def minP (a b : Int) : Int := if b < 0 then a else if a < 0 ∨ b < a then b else a
def candL (T : Nat → Int) (k : Nat) (p : Nat × Int) : Int := if 1 ≤ p.1 ∧ p.1 ≤ k ∧ 0 ≤ T (k - p.1) then T (k - p.1) + p.2 else -1
def bestL (l : List (Nat × Int)) (T : Nat → Int) (k : Nat) : Int := l.foldl (fun b p => minP b (candL T k p)) (-1)
theorem bestL_snoc (l : List (Nat × Int)) (p : Nat × Int) (T : Nat → Int) (k : Nat) : bestL (l ++ [p]) T k = minP (bestL l T k) (candL T k p) := by simp [bestL]
theorem candL_congr {T T' : Nat → Int} {k : Nat} (h : ∀ j, j < k → T j = T' j) (p : Nat × Int) : candL T k p = candL T' k p := by
  unfold candL
  by_cases h1 : 1 ≤ p.1 ∧ p.1 ≤ k
  · rw [h (k - p.1) (by omega)]
  · rw [if_neg (fun x => h1 ⟨x.1, x.2.1⟩), if_neg (fun x => h1 ⟨x.1, x.2.1⟩)]
theorem bestL_congr {T T' : Nat → Int} {k : Nat} (h : ∀ j, j < k → T j = T' j) (l : List (Nat × Int)) : bestL l T k = bestL l T' k := by
  unfold bestL
  have e : (fun b p => minP b (candL T k p)) = fun b p => minP b (candL T' k p) := by
    funext b p; rw [candL_congr h]
  rw [e]
def tabF (l : List (Nat × Int)) : Nat → Nat → Int
  | 0 => fun _ => 0
  | n + 1 => fun k => if k < n then tabF l n k else if k = 0 then 0 else bestL l (tabF l n) k
theorem tabF_s (l : List (Nat × Int)) (n k : Nat) : tabF l (n + 1) k = if k < n then tabF l n k else if k = 0 then 0 else bestL l (tabF l n) k := rfl
def tabL (l : List (Nat × Int)) (k : Nat) : Int := tabF l (k + 1) k
theorem tabF_lt (l : List (Nat × Int)) : ∀ (n k : Nat), k < n → tabF l n k = tabL l k
  | 0, k, h => by omega
  | n + 1, k, h => by
    by_cases e : k < n
    · rw [tabF_s, if_pos e, tabF_lt l n k e]
    · rw [show k = n by omega, tabL]
theorem tabL_zero (l : List (Nat × Int)) : tabL l 0 = 0 := by simp [tabL, tabF]
theorem tabL_eq (l : List (Nat × Int)) {k : Nat} (h : 0 < k) : tabL l k = bestL l (tabL l) k := by
  rw [tabL, tabF_s, if_neg (by omega), if_neg (by omega)]
  exact bestL_congr (fun j hj => tabF_lt l k j hj) l
theorem foldP_ge (l : List (Nat × Int)) (T : Nat → Int) (k : Nat) (b : Int) (hb : -1 ≤ b) (hc : ∀ p ∈ l, 0 ≤ p.2) : -1 ≤ l.foldl (fun b p => minP b (candL T k p)) b := by
  induction l generalizing b with
  | nil => exact hb
  | cons p l ih =>
    refine ih _ ?_ fun q hq => hc q (List.mem_cons_of_mem _ hq)
    show -1 ≤ minP b (candL T k p)
    unfold minP
    split
    · exact hb
    · split
      · omega
      · exact hb
theorem foldP_le (l : List (Nat × Int)) (T : Nat → Int) (k : Nat) (b B : Int) (hb : b ≤ B) (hc : ∀ p ∈ l, candL T k p ≤ B) : l.foldl (fun b p => minP b (candL T k p)) b ≤ B := by
  induction l generalizing b with
  | nil => exact hb
  | cons p l ih =>
    refine ih _ ?_ fun q hq => hc q (List.mem_cons_of_mem _ hq)
    have := hc p (List.mem_cons_self ..)
    show minP b (candL T k p) ≤ B
    unfold minP
    split
    · exact hb
    · split <;> omega
theorem tabL_bd {l : List (Nat × Int)} (hc : ∀ p ∈ l, 0 ≤ p.2 ∧ p.2 ≤ 10001) (k : Nat) : -1 ≤ tabL l k ∧ tabL l k ≤ 10001 * k := by
  induction k using Nat.strongRecOn with
  | ind k ih =>
    by_cases h : k = 0
    · rw [h, tabL_zero]; omega
    · rw [tabL_eq l (by omega)]
      refine ⟨foldP_ge l _ k _ (by omega) fun p hp => (hc p hp).1, foldP_le l _ k _ _ (by omega) fun p hp => ?_⟩
      unfold candL
      split
      · have := (ih (k - p.1) (by omega)).2
        have := hc p hp
        omega
      · omega
def pLen (nB : Nat) (B : Nat → Int) (nO : Nat) (O : Nat → Int) (i : Nat) : Int := if i < nB then B (nB - 1 - i) else O (nO - 1 - (i - nB))
def pCode (nB : Nat) (i : Nat) : Int := if i < nB then (if i = 0 then 1 else 10001) else 10000
theorem range_snoc {α : Type} (f : Nat → α) (n : Nat) : (List.range (n + 1)).map f = (List.range n).map f ++ [f n] := by
  rw [List.range_succ, List.map_append]; rfl
def unitP (nB : Nat) (B : Nat → Int) (nO : Nat) (O : Nat → Int) (i : Nat) : Nat := gcdL ((List.range i).map (pLen nB B nO O))
def waysP (u : Nat) (nB : Nat) (B : Nat → Int) (nO : Nat) (O : Nat → Int) (i : Nat) : Nat → Nat := waysL ((List.range i).map fun i => unitsOf u (pLen nB B nO O i))
def listP (u : Nat) (nB : Nat) (B : Nat → Int) (nO : Nat) (O : Nat → Int) (i : Nat) : List (Nat × Int) := (List.range i).map fun i => (unitsOf u (pLen nB B nO O i), pCode nB i)
theorem pLen_bd {nB : Nat} {B : Nat → Int} {nO : Nat} {O : Nat → Int} (hB : ∀ k, k < nB → 1 ≤ B k ∧ B k ≤ 10000) (hO : ∀ k, k < nO → 1 ≤ O k ∧ O k ≤ 10000) {i : Nat} (h : i < nB + nO) : 1 ≤ pLen nB B nO O i ∧ pLen nB B nO O i ≤ 10000 := by
  unfold pLen
  split
  · exact hB _ (by omega)
  · exact hO _ (by omega)
theorem pCode_bd (nB i : Nat) : 0 ≤ pCode nB i ∧ pCode nB i ≤ 10001 := by
  unfold pCode; split
  · split <;> omega
  · omega
theorem mem_range_map {α : Type} {f : Nat → α} {n i : Nat} (h : i < n) : f i ∈ (List.range n).map f := List.mem_map.2 ⟨i, List.mem_range.2 h, rfl⟩
theorem unitP_bd {nB : Nat} {B : Nat → Int} {nO : Nat} {O : Nat → Int} (h1 : 1 ≤ nB) (hB : ∀ k, k < nB → 1 ≤ B k ∧ B k ≤ 10000) (hO : ∀ k, k < nO → 1 ≤ O k ∧ O k ≤ 10000) : 1 ≤ unitP nB B nO O (nB + nO) ∧ unitP nB B nO O (nB + nO) ≤ 10000 := by
  have b := pLen_bd hB hO (show 0 < nB + nO by omega)
  have := gcdL_le (mem_range_map (f := pLen nB B nO O) (show 0 < nB + nO by omega)) b.1
  unfold unitP
  omega
theorem unitsP_pos {nB : Nat} {B : Nat → Int} {nO : Nat} {O : Nat → Int} (hB : ∀ k, k < nB → 1 ≤ B k ∧ B k ≤ 10000) (hO : ∀ k, k < nO → 1 ≤ O k ∧ O k ≤ 10000) {i : Nat} (h : i < nB + nO) : 1 ≤ unitsOf (unitP nB B nO O (nB + nO)) (pLen nB B nO O i) :=
  unitsOf_pos (mem_range_map h) (pLen_bd hB hO h).1
end Go.Abs
