/- Contracts. -/
import Derived.Test.YtpllaeomcjplnaaL23
set_option linter.unusedVariables false
set_option linter.unusedSimpArgs false
set_option maxRecDepth 100000
namespace Go.Abs
open Go
theorem bestF_le {l : List (Nat × Int)} {T : Nat → Int} {k : Nat} {p : Nat × Int} (hp : p ∈ l) (hc : 0 ≤ candL T k p) : ∀ b, 0 ≤ l.foldl (fun b p => minP b (candL T k p)) b ∧ l.foldl (fun b p => minP b (candL T k p)) b ≤ candL T k p := by
  have stay : ∀ (l : List (Nat × Int)) (b : Int), 0 ≤ b → 0 ≤ l.foldl (fun b p => minP b (candL T k p)) b ∧ l.foldl (fun b p => minP b (candL T k p)) b ≤ b := by
    intro l
    induction l with
    | nil => intro b hb; exact ⟨hb, Int.le_refl _⟩
    | cons q l ih =>
      intro b hb
      show 0 ≤ l.foldl (fun b p => minP b (candL T k p)) (minP b (candL T k q)) ∧ l.foldl (fun b p => minP b (candL T k p)) (minP b (candL T k q)) ≤ b
      have hm : 0 ≤ minP b (candL T k q) ∧ minP b (candL T k q) ≤ b := by
        unfold minP
        split
        · omega
        · split <;> omega
      obtain ⟨h1, h2⟩ := ih _ hm.1
      exact ⟨h1, by omega⟩
  induction l with
  | nil => cases hp
  | cons q l ih =>
    intro b
    show 0 ≤ l.foldl (fun b p => minP b (candL T k p)) (minP b (candL T k q)) ∧ l.foldl (fun b p => minP b (candL T k p)) (minP b (candL T k q)) ≤ candL T k p
    rcases List.mem_cons.1 hp with rfl | hp
    · have hm : 0 ≤ minP b (candL T k p) ∧ minP b (candL T k p) ≤ candL T k p := by
        unfold minP
        split
        · omega
        · split <;> omega
      obtain ⟨h1, h2⟩ := stay l _ hm.1
      exact ⟨h1, by omega⟩
    · exact ih hp _
section
variable {l : List (Nat × Int)} (hc : ∀ p ∈ l, 0 ≤ p.2 ∧ p.2 ≤ 10001)
include hc
theorem tab_step {k : Nat} {p : Nat × Int} (hp : p ∈ l) (h1 : 1 ≤ p.1) (h2 : p.1 ≤ k) (h3 : 0 ≤ tabL l (k - p.1)) : 0 ≤ tabL l k ∧ tabL l k ≤ tabL l (k - p.1) + p.2 := by
  have e : candL (tabL l) k p = tabL l (k - p.1) + p.2 := by rw [candL, if_pos ⟨h1, h2, h3⟩]
  have hp2 := hc p hp
  have := bestF_le (T := tabL l) (k := k) hp (by rw [e]; omega) (-1)
  rw [tabL_eq l (by omega), ← e]
  exact this
theorem tab_att {k : Nat} (hk : 0 < k) (h : 0 ≤ tabL l k) : ∃ p ∈ l, 1 ≤ p.1 ∧ p.1 ≤ k ∧ 0 ≤ tabL l (k - p.1) ∧ tabL l (k - p.1) + p.2 = tabL l k := by
  rw [tabL_eq l hk] at h
  rcases bestF_att (fun p hp => (hc p hp).1) _ h with h1 | ⟨p, hp, h1, h2⟩
  · unfold bestL at h; rw [h1] at h; omega
  · have h3 : candL (tabL l) k p = tabL l k := by rw [h2, tabL_eq l hk]; rfl
    unfold candL at h1 h3
    by_cases hx : 1 ≤ p.1 ∧ p.1 ≤ k ∧ 0 ≤ tabL l (k - p.1)
    · rw [if_pos hx] at h3
      exact ⟨p, hp, hx.1, hx.2.1, hx.2.2, h3⟩
    · rw [if_neg hx] at h1; omega
/-- What can be closed is closed in sum, at no greater cost. -/
theorem tab_add {b : Nat} (hb : 0 ≤ tabL l b) : ∀ a, 0 ≤ tabL l a → 0 ≤ tabL l (a + b) ∧ tabL l (a + b) ≤ tabL l a + tabL l b := by
  intro a
  induction a using Nat.strongRecOn with
  | ind a ih =>
    intro ha
    by_cases h0 : a = 0
    · rw [h0, Nat.zero_add, tabL_zero]; omega
    · obtain ⟨p, hp, h1, h2, h3, h4⟩ := tab_att hc (by omega) ha
      obtain ⟨i1, i2⟩ := ih (a - p.1) (by omega) h3
      have e : a + b - p.1 = a - p.1 + b := by omega
      obtain ⟨j1, j2⟩ := tab_step hc (k := a + b) hp h1 (by omega) (by rw [e]; exact i1)
      rw [e] at j2
      exact ⟨j1, by omega⟩
end
/-- Whether so many units are a sum of parts. -/
inductive Rep (l : List Nat) : Nat → Prop
  | zero : Rep l 0
  | add {m k : Nat} (hm : m ∈ l) (h1 : 1 ≤ m) (h2 : m ≤ k) (h : Rep l (k - m)) : Rep l k
theorem tab_rep {l : List (Nat × Int)} (hc : ∀ p ∈ l, 0 ≤ p.2 ∧ p.2 ≤ 10001) (k : Nat) : 0 ≤ tabL l k ↔ Rep (l.map (·.1)) k := by
  constructor
  · induction k using Nat.strongRecOn with
    | ind k ih =>
      intro h
      by_cases h0 : k = 0
      · rw [h0]; exact .zero
      · obtain ⟨p, hp, h1, h2, h3, _⟩ := tab_att hc (by omega) h
        exact .add (List.mem_map.2 ⟨p, hp, rfl⟩) h1 h2 (ih _ (by omega) h3)
  · intro h
    induction h with
    | zero => rw [tabL_zero]; omega
    | add hm h1 h2 _ ih =>
      obtain ⟨p, hp, rfl⟩ := List.mem_map.1 hm
      exact (tab_step hc hp h1 h2 ih).1
theorem Rep.mono {l l' : List Nat} (h : ∀ m, m ∈ l → m ∈ l') {k : Nat} (r : Rep l k) : Rep l' k := by
  induction r with
  | zero => exact .zero
  | add hm h1 h2 _ ih => exact .add (h _ hm) h1 h2 ih
theorem ways_of (l : List Nat) : ∀ k, 1 ≤ waysL l k → Rep l k := by
  suffices H : ∀ (l : List Nat) (n : Nat), n = l.length → ∀ k, 1 ≤ waysL l k → Rep l k from H l _ rfl
  intro l n
  induction n generalizing l with
  | zero =>
    intro hn k h
    rw [List.length_eq_zero_iff.1 hn.symm] at h ⊢
    have : k = 0 := by
      apply Classical.byContradiction
      intro hk
      have : waysL [] k = 0 := by simp [waysL, hk]
      omega
    rw [this]; exact .zero
  | succ n ih =>
    intro hn k h
    have hne : l ≠ [] := fun e => by rw [e] at hn; cases hn
    obtain ⟨l', m, rfl⟩ : ∃ l' m, l = l' ++ [m] := ⟨l.dropLast, l.getLast hne, (List.dropLast_concat_getLast hne).symm⟩
    have hl' : n = l'.length := by simp at hn; exact hn
    rw [waysL_snoc] at h
    induction k using Nat.strongRecOn with
    | ind k ihk =>
      by_cases hm : 1 ≤ m ∧ m ≤ k
      · rw [stepW_ge hm.1 hm.2] at h
        by_cases h2 : 1 ≤ waysL l' k
        · exact (ih l' hl' k h2).mono fun x hx => List.mem_append_left _ hx
        · exact .add (List.mem_append_right _ (List.mem_singleton.2 rfl)) hm.1 hm.2 (ihk (k - m) (by omega) (by omega))
      · rw [stepW_lt hm] at h
        exact (ih l' hl' k h).mono fun x hx => List.mem_append_left _ hx
theorem ways_zero (l : List Nat) : 1 ≤ waysL l 0 := by
  suffices H : ∀ (l : List Nat) (W : Nat → Nat), 1 ≤ W 0 → 1 ≤ (l.foldl (fun W m => stepW m W) W) 0 from H l _ (by simp)
  intro l
  induction l with
  | nil => intro W h; exact h
  | cons m l ih => intro W h; exact ih _ (show 1 ≤ stepW m W 0 by rw [stepW_lt (by omega)]; exact h)
theorem rep_ways {l : List Nat} {k : Nat} (r : Rep l k) : 1 ≤ waysL l k := by
  induction r with
  | zero => exact ways_zero l
  | @add m k hm h1 h2 _ ih =>
    have hp : l.Perm (l.erase m ++ [m]) := (List.perm_cons_erase hm).trans (List.perm_append_comm (l₁ := [m]) (l₂ := l.erase m))
    rw [waysL_perm hp, waysL_snoc] at ih ⊢
    rw [stepW_ge h1 h2]
    omega
theorem ways_tab {nB : Nat} {B : Nat → Int} {nO : Nat} {O : Nat → Int} (u k : Nat) : 1 ≤ waysP u nB B nO O (nB + nO) k ↔ 0 ≤ tabL (listP u nB B nO O (nB + nO)) k := by
  have hc : ∀ p ∈ listP u nB B nO O (nB + nO), 0 ≤ p.2 ∧ p.2 ≤ 10001 := fun p hp => by
    obtain ⟨i, _, rfl⟩ := List.mem_map.1 hp
    exact pCode_bd nB i
  have e : (listP u nB B nO O (nB + nO)).map (·.1) = (List.range (nB + nO)).map fun i => unitsOf u (pLen nB B nO O i) := by
    rw [listP, List.map_map]; rfl
  rw [tab_rep hc, e]
  exact ⟨ways_of _ k, rep_ways⟩
end Go.Abs
