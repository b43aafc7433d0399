/- Contracts. -/
import Derived.Test.YtmcgfoacmalbjaaGreatDoorK8
set_option maxRecDepth 100000
namespace Go.Abs
open Go
def crnL (s : Scf) : Nat → List Int → List Int
  | 0, _ => []
  | x + 1, l => if l = [sdA s x] then crnL s x l ++ [sdD s x] else crnL s x l
def sidL (s : Scf) : Nat → List Int → List Int
  | 0, _ => []
  | x + 1, l => if l = keyS s x then sidL s x l ++ [sdD s x] else sidL s x l
def ladP (s : Scf) (i : Nat) : Bool := decide (s.K i = 7) && decide (s.Z (s.B i).toNat - s.Z (s.A i).toNat ≤ 6000)
def up1 (f : List Int → List Int) (k : List Int) (v : List Int) (l : List Int) : List Int := if l = k then f k ++ v else f l
def nxtL (s : Scf) : Nat → List Int → List Int
  | 0, _ => []
  | i + 1, l => if ladP s i = true then up1 (up1 (nxtL s i) [s.A i] (crnL s (nSd s) [s.B i])) [s.B i] (crnL s (nSd s) [s.A i]) l else nxtL s i l
def queL (s : Scf) : Nat → List Int
  | 0 => []
  | i + 1 => if ladP s i = true ∧ ftB s s.nM (s.A i).toNat = true then queL s i ++ crnL s (nSd s) [s.B i] else queL s i
def crnD (s : Scf) (d : Int) (k : Nat) : Int := crn s (s.A d.toNat) (s.B d.toNat) k
def adjK (s : Scf) (d : Int) : Nat → List Int
  | 0 => []
  | k + 1 => adjK s d k ++ (nxtL s s.nM [crnD s d k] ++ sidL s (nSd s) [mn (crnD s d k) (crnD s d ((k + 1) % 4)), mx (crnD s d k) (crnD s d ((k + 1) % 4))])
abbrev gmO (ks : KS) (f : List Int → List Int) : AObj := .gmap ks (fun l => (f l).length) (fun l j => dI ((f l).getD j 0)) [] none
abbrev lsD (l : List Int) : List (Nat → DV) := [fun j => dI (l.getD j 0)]
abbrev rowN : DV → Nat
  | .row _ _ _ n => n
  | _ => 0
abbrev objC (o : Option AObj) (j : Nat) : Int := match o with
  | some (.row _ [c]) => iOf (c j)
  | some (.srow _ [c]) => iOf (c j)
  | _ => 0
abbrev hasO (o : Option AObj) (l : List Int) : Bool := match o with
  | some (.map _ has _ _) => has l
  | _ => false
inductive Rch (s : Scf) : Int → Prop
  | ground {d : Int} (h : d ∈ queL s s.nM) : Rch s d
  | step {d e : Int} (h : Rch s d) (h2 : e ∈ adjK s d 4) : Rch s e
open Classical in
noncomputable def rchP (s : Scf) (i : Nat) : Bool := decide (Rch s i)
noncomputable def rchN (s : Scf) : Nat := if chkE s = 0 then flN (rchP s) s.nM else 0
noncomputable def rchI (s : Scf) (j : Nat) : Nat := flI (rchP s) s.nM j
def pot (s : Scf) (has : List Int → Bool) : Nat → Nat
  | 0 => 0
  | k + 1 => pot s has k + (if has [(k : Int)] = true then 0 else 1 + (adjK s (k : Int) 4).length)
structure RInv (s : Scf) (n : Nat) (c : Nat → Int) (has : List Int → Bool) : Prop where
  q : ∀ j, j < n → ∃ d : Nat, c j = d ∧ d < s.nM ∧ s.K d = 6 ∧ Rch s d
  h : ∀ l, has l = true → ∃ d : Nat, l = [(d : Int)] ∧ d < s.nM ∧ Rch s d
  g : ∀ e, e ∈ queL s s.nM → (∃ j, j < n ∧ c j = e) ∨ has [e] = true
  a : ∀ d : Int, has [d] = true → ∀ e, e ∈ adjK s d 4 → (∃ j, j < n ∧ c j = e) ∨ has [e] = true
  b : pot s has s.nM + n ≤ pot s (fun _ => false) s.nM + (queL s s.nM).length
def tS (n : Nat) (c : Nat → Int) (g : List Int) (j : Nat) : Int := if j < n then c j else g.getD (j - n) 0
theorem getD_app (l m : List Int) (j : Nat) : (l ++ m).getD j 0 = if j < l.length then l.getD j 0 else m.getD (j - l.length) 0 := by
  rw [List.getD_eq_getElem?_getD, List.getElem?_append]
  split <;> rw [List.getD_eq_getElem?_getD]
theorem getD_mem {l : List Int} {j : Nat} (h : j < l.length) : l.getD j 0 ∈ l := by
  rw [List.getD_eq_getElem?_getD, List.getElem?_eq_getElem h]
  exact List.getElem_mem h
theorem mem_getD {l : List Int} {e : Int} (h : e ∈ l) : ∃ j, j < l.length ∧ l.getD j 0 = e := by
  obtain ⟨j, hj, he⟩ := List.mem_iff_getElem.1 h
  exact ⟨j, hj, by rw [List.getD_eq_getElem?_getD, List.getElem?_eq_getElem hj]; exact he⟩
theorem up_len (f : List Int → List Int) (k v l : List Int) : (if l = k then (f k).length + v.length else (f l).length) = (up1 f k v l).length := by
  unfold up1
  split
  · rw [List.length_append]
  · rfl
theorem up_get (f : List Int → List Int) (k v l : List Int) (j : Nat) : (if l = k then if j < (f k).length then (f k).getD j 0 else v.getD (j - (f k).length) 0 else (f l).getD j 0) = (up1 f k v l).getD j 0 := by
  unfold up1
  split
  · rw [getD_app]
  · rfl
section
variable {s : Scf}
theorem crn_step (x : Nat) (l : List Int) : (if l = [sdA s x] then (crnL s x [sdA s x]).length + 1 else (crnL s x l).length) = (crnL s (x + 1) l).length := by
  rw [crnL]
  split
  · rename_i h; rw [h, List.length_append]; rfl
  · rfl
theorem one_get (l : List Int) (d : Int) {j : Nat} (h : j < (l ++ [d]).length) : (if j < l.length then l.getD j 0 else d) = (l ++ [d]).getD j 0 := by
  rw [getD_app]
  split
  · rfl
  · rename_i h1
    rw [List.length_append] at h
    have : j - l.length = 0 := by simp at h; omega
    rw [this]; rfl
theorem crn_get (x : Nat) (l : List Int) (j : Nat) (h : j < (crnL s (x + 1) l).length) : (if l = [sdA s x] then if j < (crnL s x [sdA s x]).length then (crnL s x [sdA s x]).getD j 0 else sdD s x else (crnL s x l).getD j 0) = (crnL s (x + 1) l).getD j 0 := by
  rw [crnL] at h ⊢
  split
  · rename_i h1; rw [if_pos h1] at h; subst h1; exact one_get _ _ h
  · rfl
theorem sid_step (x : Nat) (l : List Int) : (if l = keyS s x then (sidL s x (keyS s x)).length + 1 else (sidL s x l).length) = (sidL s (x + 1) l).length := by
  rw [sidL]
  split
  · rename_i h; rw [h, List.length_append]; rfl
  · rfl
theorem sid_get (x : Nat) (l : List Int) (j : Nat) (h : j < (sidL s (x + 1) l).length) : (if l = keyS s x then if j < (sidL s x (keyS s x)).length then (sidL s x (keyS s x)).getD j 0 else sdD s x else (sidL s x l).getD j 0) = (sidL s (x + 1) l).getD j 0 := by
  rw [sidL] at h ⊢
  split
  · rename_i h1; rw [if_pos h1] at h; subst h1; exact one_get _ _ h
  · rfl
theorem crn_len (l : List Int) : ∀ x, (crnL s x l).length ≤ x
  | 0 => Nat.le_refl _
  | x + 1 => by
    have := crn_len l x
    rw [crnL]
    split
    · rw [List.length_append]; simp; omega
    · omega
theorem sid_len (l : List Int) : ∀ x, (sidL s x l).length ≤ x
  | 0 => Nat.le_refl _
  | x + 1 => by
    have := sid_len l x
    rw [sidL]
    split
    · rw [List.length_append]; simp; omega
    · omega
theorem up_le {f : List Int → List Int} {b c : Nat} (h : ∀ l, (f l).length ≤ b) {k v : List Int} (hv : v.length ≤ c) (l : List Int) : (up1 f k v l).length ≤ b + c := by
  have h1 := h k
  have h2 := h l
  unfold up1
  split
  · rw [List.length_append]; omega
  · omega
theorem nxt_len (hn : nSd s ≤ 16000) : ∀ i l, (nxtL s i l).length ≤ i * 32000
  | 0, l => Nat.le_refl _
  | i + 1, l => by
    rw [nxtL]
    have h1 := crn_len (s := s) [s.A i] (nSd s)
    have h2 := crn_len (s := s) [s.B i] (nSd s)
    split
    · have := up_le (k := [s.B i]) (v := crnL s (nSd s) [s.A i]) (c := 16000) (up_le (k := [s.A i]) (v := crnL s (nSd s) [s.B i]) (c := 16000) (nxt_len hn i) (by omega)) (by omega) l
      omega
    · have := nxt_len hn i l; omega
theorem que_len (hn : nSd s ≤ 16000) : ∀ i, (queL s i).length ≤ i * 16000
  | 0 => Nat.le_refl _
  | i + 1 => by
    have h2 := crn_len (s := s) [s.B i] (nSd s)
    have := que_len hn i
    rw [queL]
    split
    · rw [List.length_append]; omega
    · omega
theorem adj_len (hn : nSd s ≤ 16000) (hm : s.nM ≤ 4000) (d : Int) : ∀ k, (adjK s d k).length ≤ k * 128016000
  | 0 => Nat.le_refl _
  | k + 1 => by
    have h1 := nxt_len hn s.nM [crnD s d k]
    have h2 := sid_len (s := s) [mn (crnD s d k) (crnD s d ((k + 1) % 4)), mx (crnD s d k) (crnD s d ((k + 1) % 4))] (nSd s)
    have := adj_len hn hm d k
    rw [adjK, List.length_append, List.length_append]
    omega
theorem pot_le' {B : Nat} (hB : ∀ k : Int, 1 + (adjK s k 4).length ≤ B) (has : List Int → Bool) : ∀ k, pot s has k ≤ k * B
  | 0 => Nat.zero_le _
  | k + 1 => by
    have h1 := pot_le' hB has k
    have h2 := hB (k : Int)
    have h3 : (k + 1) * B = k * B + B := Nat.succ_mul _ _
    rw [pot, h3]
    split <;> omega
theorem pot_le (hn : nSd s ≤ 16000) (hm : s.nM ≤ 4000) (has : List Int → Bool) : pot s has s.nM ≤ 4000 * 512064001 :=
  Nat.le_trans (pot_le' (B := 512064001) (fun k => by have := Nat.le_trans (adj_len hn hm k 4) (show 4 * 128016000 ≤ 512064000 by decide); omega) has s.nM) (Nat.mul_le_mul_right _ hm)
theorem pot_put {has : List Int → Bool} {d : Nat} (h : has [(d : Int)] = false) : ∀ k, (d < k → pot s (putHas [(d : Int)] has) k + (1 + (adjK s (d : Int) 4).length) = pot s has k) ∧ (k ≤ d → pot s (putHas [(d : Int)] has) k = pot s has k)
  | 0 => ⟨fun h => absurd h (Nat.not_lt_zero _), fun _ => rfl⟩
  | k + 1 => by
    obtain ⟨h1, h2⟩ := pot_put h k
    have e : k ≠ d → putHas [(d : Int)] has [(k : Int)] = has [(k : Int)] := fun hk => by
      unfold putHas
      rw [decide_eq_false (fun h' => hk (Int.ofNat_inj.1 (show (k : Int) = d by simpa using h'))), Bool.false_or]
    refine ⟨fun hlt => ?_, fun hle => ?_⟩
    · rw [pot, pot]
      by_cases hk : k = d
      · subst hk
        have e1 : putHas [(k : Int)] has [(k : Int)] = true := by unfold putHas; rw [decide_eq_true rfl, Bool.true_or]
        rw [h2 (Nat.le_refl _), if_pos e1, h, if_neg (by decide)]
        omega
      · rw [e hk, ← h1 (by omega)]
        omega
    · rw [pot, pot, e (by omega), h2 (by omega)]
theorem dkI_ok {q : Nat} : ∀ {n : Nat}, q < dkN s n → dkI s n q < n ∧ s.K (dkI s n q) = 6
  | 0, h => absurd h (Nat.not_lt_zero _)
  | n + 1, h => by
    rw [dkN] at h
    rw [dkI]
    split
    · rename_i h1; exact ⟨Nat.lt_succ_self _, h1.1⟩
    · rename_i h1
      have : q < dkN s n := by
        split at h
        · rename_i h2
          have : dkN s n ≠ q := fun e => h1 ⟨h2, e⟩
          omega
        · omega
      obtain ⟨a, b⟩ := dkI_ok this
      exact ⟨by omega, b⟩
theorem sd_deck {x : Nat} (h : x < nSd s) : ∃ d : Nat, sdD s x = d ∧ d < s.nM ∧ s.K d = 6 := by
  have h : x < 4 * dkN s s.nM := h
  obtain ⟨a, b⟩ := dkI_ok (s := s) (q := x / 4) (n := s.nM) (by omega)
  exact ⟨_, rfl, a, b⟩
abbrev isSd (s : Scf) (e : Int) : Prop := ∃ y, y < nSd s ∧ e = sdD s y
theorem crn_el {l : List Int} {e : Int} : ∀ {x : Nat}, x ≤ nSd s → e ∈ crnL s x l → isSd s e
  | 0, _, h => by cases h
  | x + 1, hx, h => by
    rw [crnL] at h
    split at h
    · rcases List.mem_append.1 h with h | h
      · exact crn_el (by omega) h
      · exact ⟨x, by omega, by simpa using h⟩
    · exact crn_el (by omega) h
theorem sid_el {l : List Int} {e : Int} : ∀ {x : Nat}, x ≤ nSd s → e ∈ sidL s x l → isSd s e
  | 0, _, h => by cases h
  | x + 1, hx, h => by
    rw [sidL] at h
    split at h
    · rcases List.mem_append.1 h with h | h
      · exact sid_el (by omega) h
      · exact ⟨x, by omega, by simpa using h⟩
    · exact sid_el (by omega) h
theorem up_el {f : List Int → List Int} {p : Int → Prop} (h : ∀ l e, e ∈ f l → p e) {k v : List Int} (hv : ∀ e, e ∈ v → p e) (l : List Int) (e : Int) (he : e ∈ up1 f k v l) : p e := by
  unfold up1 at he
  split at he
  · rcases List.mem_append.1 he with he | he
    · exact h _ _ he
    · exact hv _ he
  · exact h _ _ he
theorem nxt_el : ∀ (i : Nat) (l : List Int) (e : Int), e ∈ nxtL s i l → isSd s e
  | 0, _, _, h => by cases h
  | i + 1, l, e, h => by
    rw [nxtL] at h
    split at h
    · exact up_el (up_el (nxt_el i) fun e he => crn_el (Nat.le_refl _) he) (fun e he => crn_el (Nat.le_refl _) he) l e h
    · exact nxt_el i l e h
theorem que_el : ∀ (i : Nat) (e : Int), e ∈ queL s i → isSd s e
  | 0, _, h => by cases h
  | i + 1, e, h => by
    rw [queL] at h
    split at h
    · rcases List.mem_append.1 h with h | h
      · exact que_el i e h
      · exact crn_el (Nat.le_refl _) h
    · exact que_el i e h
theorem adj_el (d : Int) : ∀ (k : Nat) (e : Int), e ∈ adjK s d k → isSd s e
  | 0, _, h => by cases h
  | k + 1, e, h => by
    rw [adjK] at h
    rcases List.mem_append.1 h with h | h
    · exact adj_el d k e h
    · rcases List.mem_append.1 h with h | h
      · exact nxt_el _ _ _ h
      · exact sid_el (Nat.le_refl _) h
theorem isSd.deck {e : Int} (h : isSd s e) : ∃ d : Nat, e = d ∧ d < s.nM ∧ s.K d = 6 := by
  obtain ⟨y, hy, rfl⟩ := h
  exact sd_deck hy
theorem inv_start : RInv s (queL s s.nM).length (fun j => (queL s s.nM).getD j 0) fun _ => false := by
  refine ⟨fun j hj => ?_, fun l h => (by cases h), fun e he => .inl (mem_getD he), fun d h => (by cases h), Nat.le_refl _⟩
  have hm := getD_mem hj
  obtain ⟨d, h1, h2, h3⟩ := (que_el _ _ hm).deck
  refine ⟨d, h1, h2, h3, ?_⟩
  rw [← h1]
  exact .ground hm
theorem inv_pop {n : Nat} {c : Nat → Int} {has : List Int → Bool} (h : RInv s n c has) (h0 : has [c 0] = true) : RInv s (n - 1) (fun j => c (j + 1)) has := by
  have sh : ∀ e, ((∃ j, j < n ∧ c j = e) ∨ has [e] = true) → (∃ j, j < n - 1 ∧ c (j + 1) = e) ∨ has [e] = true := fun e he => by
    rcases he with ⟨j, hj, rfl⟩ | he
    · cases j with
      | zero => exact .inr h0
      | succ j => exact .inl ⟨j, by omega, rfl⟩
    · exact .inr he
  exact ⟨fun j hj => h.q (j + 1) (by omega), h.h, fun e he => sh e (h.g e he), fun d hd e he => sh e (h.a d hd e he), by have := h.b; omega⟩
theorem inv_new {n : Nat} {c : Nat → Int} {has : List Int → Bool} (h : RInv s n c has) (hn : 0 < n) (h0 : has [c 0] = false) :
    RInv s (n + (adjK s (c 0) 4).length - 1) (fun j => tS n c (adjK s (c 0) 4) (j + 1)) (putHas [c 0] has) ∧ pot s (putHas [c 0] has) s.nM + (n + (adjK s (c 0) 4).length - 1) < pot s has s.nM + n ∧ n + (adjK s (c 0) 4).length ≤ pot s has s.nM + n := by
  obtain ⟨d, hd, hdm, hdk, hr⟩ := h.q 0 hn
  rw [hd] at h0 ⊢
  have hp := (pot_put (s := s) h0 s.nM).1 hdm
  have hput : ∀ {l}, has l = true → putHas [(d : Int)] has l = true := fun hl => by unfold putHas; rw [hl, Bool.or_true]
  have hself : putHas [(d : Int)] has [(d : Int)] = true := by unfold putHas; rw [decide_eq_true rfl, Bool.true_or]
  have sh : ∀ e, ((∃ j, j < n ∧ c j = e) ∨ has [e] = true) → (∃ j, j < n + (adjK s (d : Int) 4).length - 1 ∧ tS n c (adjK s (d : Int) 4) (j + 1) = e) ∨ putHas [(d : Int)] has [e] = true := fun e he => by
    rcases he with ⟨j, hj, rfl⟩ | he
    · cases j with
      | zero => rw [hd]; exact .inr hself
      | succ j => exact .inl ⟨j, by omega, by rw [tS, if_pos hj]⟩
    · exact .inr (hput he)
  have hb := h.b
  refine ⟨⟨fun j hj => ?_, fun l hl => ?_, fun e he => sh e (h.g e he), fun d' hd' e he => ?_, by omega⟩, by omega, by omega⟩
  · show ∃ d', tS _ _ _ _ = _ ∧ _
    unfold tS
    split
    · rename_i hlt; exact h.q _ hlt
    · have hm := getD_mem (l := adjK s (d : Int) 4) (j := j + 1 - n) (by omega)
      obtain ⟨d', h1, h2, h3⟩ := (adj_el _ _ _ hm).deck
      refine ⟨d', h1, h2, h3, ?_⟩
      rw [← h1]
      exact .step hr hm
  · unfold putHas at hl
    by_cases e : l = [(d : Int)]
    · exact ⟨d, e, hdm, hr⟩
    · rw [decide_eq_false e, Bool.false_or] at hl
      exact h.h l hl
  · by_cases e0 : d' = d
    · subst e0
      obtain ⟨k, hk, hke⟩ := mem_getD he
      refine .inl ⟨n - 1 + k, by omega, ?_⟩
      rw [tS, if_neg (by omega), show n - 1 + k + 1 - n = k by omega]
      exact hke
    · have : has [d'] = true := by
        unfold putHas at hd'
        rw [decide_eq_false (fun h' => e0 (by simpa using h')), Bool.false_or] at hd'
        exact hd'
      exact sh e (h.a d' this e he)
theorem inv_end {c : Nat → Int} {has : List Int → Bool} (h : RInv s 0 c has) : (fun i : Nat => has [(i : Int)]) = rchP s := by
  have all : ∀ d, Rch s d → has [d] = true := fun d hd => by
    induction hd with
    | ground h1 => exact (h.g _ h1).resolve_left fun ⟨j, hj, _⟩ => absurd hj (Nat.not_lt_zero j)
    | step _ h2 ih => exact (h.a _ ih _ h2).resolve_left fun ⟨j, hj, _⟩ => absurd hj (Nat.not_lt_zero j)
  funext i
  by_cases hr : Rch s i
  · rw [show rchP s i = true from @decide_eq_true _ (Classical.propDecidable _) hr]; exact all _ hr
  · rw [show rchP s i = false from @decide_eq_false _ (Classical.propDecidable _) hr]
    cases hi : has [(i : Int)] with
    | false => rfl
    | true =>
      obtain ⟨d, hd, _, h2⟩ := h.h _ hi
      have : (i : Int) = d := by simpa using hd
      rw [← this] at h2
      exact absurd h2 hr
theorem tS_step {n : Nat} {c : Nat → Int} (g v w : List Int) (j : Nat) : (if j < n + g.length + v.length then if j < n + g.length then tS n c g j else v.getD (j - (n + g.length)) 0 else w.getD (j - (n + g.length + v.length)) 0) = tS n c (g ++ (v ++ w)) j := by
  unfold tS
  rw [getD_app, getD_app]
  by_cases h1 : j < n
  · rw [if_pos (by omega), if_pos (by omega), if_pos h1, if_pos h1]
  · rw [if_neg h1, if_neg h1]
    by_cases h2 : j < n + g.length
    · rw [if_pos (by omega), if_pos h2, if_pos (by omega)]
    · rw [if_neg h2, if_neg (show ¬ j - n < g.length by omega)]
      by_cases h3 : j < n + g.length + v.length
      · rw [if_pos h3, if_pos (by omega)]
        congr 1; omega
      · rw [if_neg h3, if_neg (by omega)]
        congr 1; omega
theorem crn_getd (x : Nat) (l : List Int) (j : Nat) (h : j < (crnL s (x + 1) l).length) : (if l = [sdA s x] then if decide (j < (crnL s x [sdA s x]).length) = true then (crnL s x [sdA s x]).getD j 0 else sdD s x else (crnL s x l).getD j 0) = (crnL s (x + 1) l).getD j 0 := by
  have := crn_get x l j h
  simpa only [decide_eq_true_eq] using this
theorem sid_getd (x : Nat) (l : List Int) (j : Nat) (h : j < (sidL s (x + 1) l).length) : (if l = keyS s x then if decide (j < (sidL s x (keyS s x)).length) = true then (sidL s x (keyS s x)).getD j 0 else sdD s x else (sidL s x l).getD j 0) = (sidL s (x + 1) l).getD j 0 := by
  have := sid_get x l j h
  simpa only [decide_eq_true_eq] using this
theorem que_no {i : Nat} (h : ¬ (ladP s i = true ∧ ftB s s.nM (s.A i).toNat = true)) : queL s (i + 1) = queL s i := by rw [queL, if_neg h]
theorem que_yes {i : Nat} (h : ladP s i = true) (h2 : ftB s s.nM (s.A i).toNat = true) : queL s (i + 1) = queL s i ++ crnL s (nSd s) [s.B i] := by rw [queL, if_pos ⟨h, h2⟩]
theorem nxt_no {i : Nat} (h : ¬ ladP s i = true) (l : List Int) : nxtL s (i + 1) l = nxtL s i l := by rw [nxtL, if_neg h]
theorem nxt_yes {i : Nat} (h : ladP s i = true) (l : List Int) : nxtL s (i + 1) l = up1 (up1 (nxtL s i) [s.A i] (crnL s (nSd s) [s.B i])) [s.B i] (crnL s (nSd s) [s.A i]) l := by rw [nxtL, if_pos h]
theorem adj_mono (d : Int) {a b : Nat} (h : a ≤ b) : (adjK s d a).length ≤ (adjK s d b).length := by
  induction h with
  | refl => exact Nat.le_refl _
  | step _ ih =>
    rw [adjK, List.length_append]
    omega
end
noncomputable def A15_Reached_c (s : Scf) : Ann := { orc := [(1, [(1, .res fun q => rdD s)]), (4, [(1, .res fun q => .lst s.nN (footD s s.nM))]), (9, [(5, .res fun q => prD (aI q 0) (aI q 1)), (11, .res fun q => prD (aI q 0) (aI q 1))]), (23, [(1, .base)]), (27, [(6, .res fun q => .lst (endN (fI 0 (arg q 1)) (fI 1 (arg q 1)) (fI 2 (arg q 1))) [fun j => dI (endX s (fI 0 (arg q 1)) (fI 1 (arg q 1)) (fI 2 (arg q 1)) j)])]), (31, [(10, .pos), (13, .res fun q => prD (aI q 0) (aI q 1))])], loops := [(2, { ι := Nat, keep := [1, 4, 6, 7, 8, 10, 66, 67], boxes := [1, 4, 7, 8], ts := fun _ i => [(68, dI (i : Int))], rw := fun _ i => [(11, 1, (queL s i).length, lsD (queL s i))], mo := fun _ i => [(7, some 0, gmO .int (crnL s (nSd s))), (8, some 0, gmO (.ints 2) (sidL s (nSd s))), (10, none, gmO .int (nxtL s i))], inv := fun _ i => i ≤ s.nM, mu := fun _ i => s.nM - i, rd := fun _ σ => (iOf (σ.get 68)).toNat }), (4, { ι := Nat × (Nat → Int) × (List Int → Bool), keep := [1, 4, 7, 8, 10, 14], boxes := [1, 4, 7, 8], ts := fun σ i => [(11, .row 1 (mid (σ.get 11)) 0 i.1)], mo := fun _ i => [(7, some 0, gmO .int (crnL s (nSd s))), (8, some 0, gmO (.ints 2) (sidL s (nSd s))), (10, none, gmO .int (nxtL s s.nM)), (14, none, .map .int i.2.2 (fun _ => dB true) none), (11, none, .srow i.1 [fun j => dI (i.2.1 j)])], inv := fun _ i => RInv s i.1 i.2.1 i.2.2, mu := fun _ i => pot s i.2.2 s.nM + i.1, rd := fun _ σ => (rowN (σ.get 11), fun j => objC (σ.obj (mid (σ.get 11))) j, fun l => hasO (σ.obj (mid (σ.get 14))) l) }), (6, { ι := Nat, keep := [1, 4, 7, 8, 10, 14, 15, 16, 151, 152], boxes := [1, 4, 7, 8], ts := fun σ k => [(153, dI (k : Int)), (11, .row 1 (mid (σ.get 11)) 0 (rowN (σ.get 11) + (adjK s (iOf (σ.get 15)) k).length))], mo := fun σ k => [(7, some 0, gmO .int (crnL s (nSd s))), (8, some 0, gmO (.ints 2) (sidL s (nSd s))), (10, none, gmO .int (nxtL s s.nM)), (14, none, .map .int (fun l => hasO (σ.obj (mid (σ.get 14))) l) (fun _ => dB true) none), (11, none, .srow (rowN (σ.get 11) + (adjK s (iOf (σ.get 15)) k).length) [fun j => dI (tS (rowN (σ.get 11)) (fun j => objC (σ.obj (mid (σ.get 11))) j) (adjK s (iOf (σ.get 15)) k) j)])], inv := fun _ k => k ≤ 4, mu := fun _ k => 4 - k, rd := fun _ σ => (iOf (σ.get 153)).toNat }), (8, { ι := Nat, keep := [1, 14, 176, 177], boxes := [1], ts := fun _ i => [(178, dI (i : Int))], rw := fun σ i => [(19, 1, flN (fun i => hasO (σ.obj (mid (σ.get 14))) [(i : Int)]) i, [fun j => dI (flI (fun i => hasO (σ.obj (mid (σ.get 14))) [(i : Int)]) i j)])], mo := fun σ _ => [(14, none, .map .int (fun l => hasO (σ.obj (mid (σ.get 14))) l) (fun _ => dB true) none)], inv := fun _ i => i ≤ s.nM, mu := fun _ i => s.nM - i, rd := fun _ σ => (iOf (σ.get 178)).toNat })], cuts := [], rngs := [(0, { N := 4 * dkN s s.nM, enc := fun x => sdE s x, keep := [1, 4, 6, 7, 8], boxes := [1, 4, 7, 8], mo := fun _ l => [(7, some 0, gmO .int (crnL s (hd0 l))), (8, some 0, gmO (.ints 2) (sidL s (hd0 l)))], inv := fun _ _ => True })] }
noncomputable abbrev Reached_cd0 (s : Scf) : DV := .agg [.lst s.nN [fun i => (dI (s.X i)), fun i => (dI (s.Y i)), fun i => (dI (s.Z i))], .lst s.nM [fun i => (dI (s.K i)), fun i => (dI (s.A i)), fun i => (dI (s.B i))], DV.mp (KS.ints (3:Nat)) (fun (l : List Int) => atH s (rdN s) l) fun (l : List Int) => (dI (atL s (rdN s) l))]
noncomputable abbrev Reached_cr0 (s : Scf) (r : List Prop) : List Prop := (s.nN = s.nN) :: (∀ (i : Nat), i < s.nN → s.X i = s.X i) :: (∀ (i : Nat), i < s.nN → s.Y i = s.Y i) :: (∀ (i : Nat), i < s.nN → s.Z i = s.Z i) :: (s.nM = s.nM) :: (∀ (i : Nat), i < s.nM → s.K i = s.K i) :: (∀ (i : Nat), i < s.nM → s.A i = s.A i) :: (∀ (i : Nat), i < s.nM → s.B i = s.B i) :: r
noncomputable abbrev Reached_cr1 (s : Scf) (r : List Prop) : List Prop := (s.nN = s.nN) :: (∀ (i : Nat), i < s.nN → ftB s s.nM i = ftB s s.nM i) :: (∀ (i : Nat), i < s.nN → ftU s s.nM i = ftU s s.nM i) :: (∀ (i : Nat), i < s.nN → ftA s s.nM i = ftA s s.nM i) :: (s.nM = s.nM) :: (∀ (i : Nat), i < s.nM → s.K i = s.K i) :: (∀ (i : Nat), i < s.nM → s.A i = s.A i) :: (∀ (i : Nat), i < s.nM → s.B i = s.B i) :: ((s.nM:Int) = (s.nM:Int)) :: r
noncomputable abbrev Reached_cr2 (s : Scf) (r : List Prop) : List Prop := (s.nM = s.nM) :: (∀ (i : Nat), i < s.nM → s.K i = s.K i) :: (∀ (i : Nat), i < s.nM → s.A i = s.A i) :: (∀ (i : Nat), i < s.nM → s.B i = s.B i) :: ((s.nM:Int) = (s.nM:Int)) :: r
theorem Reached_c (s : Scf)  : FnC prog 15 [scfD s] (.tup [.lst (rchN s) [fun j => dI (rchI s j)], dI (chkE s)]) := by
  refine FnC_owed hmix (A15_Reached_c s) (V := .need [FnC prog 32 [scfD s] (.tup [(Reached_cd0 s), (dI (chkE s))])] (.ite (chkE s != 0) (.done [rchN s = 0, chkE s = chkE s]) (.need [FnC prog 35 [(Reached_cd0 s)] (.lst s.nN [fun i => (dB (ftB s s.nM i)), fun i => (dB (ftU s s.nM i)), fun i => (dB (ftA s s.nM i))])] (.need ((SeqB prog 36 [(Reached_cd0 s)] ((4:Nat) * dkN s s.nM) fun k => [.agg (Array.mk [.int .i64 (sdD s k), .int .i64 (sdA s k), .int .i64 (sdB s k)])]) :: ((∀ (k : Nat), k < 4 * dkN s s.nM → (1:Nat) = 1) :: ((s.nN = s.nN) :: ((∀ i < s.nN, ftB s s.nM i = ftB s s.nM i) :: ((∀ i < s.nN, ftU s s.nM i = ftU s s.nM i) :: ((∀ i < s.nN, ftA s s.nM i = ftA s s.nM i) :: ((∀ (l : List Int), (0:Nat) = nat_lit 0) :: ((∀ (l : List Int) (i : Nat), i < nat_lit 0 → (0:Int) = 0) :: ((∀ (l : List Int), (0:Nat) = nat_lit 0) :: ((∀ (l : List Int) (i : Nat), i < nat_lit 0 → (0:Int) = 0) :: (Reached_cr0 s (Reached_cr0 s [∀ (l : List Int), atH s (rdN s) l = atH s (rdN s) l, ∀ (l : List Int), atH s (rdN s) l = true → atL s (rdN s) l = atL s (rdN s) l, True])))))))))))) (.cut Nat (fun x => True ∧ x < 4 * dkN s s.nM) (.cut Unit (fun (u : Unit) => True) (.done []) fun (u : Unit) => .loop Nat (fun a => a ≤ s.nM) (0:Int).toNat (((0:Int) = (↑(0:Int).toNat : Int)) :: (((0:Nat) = 0) :: ((nat_lit 0 = 0) :: (Reached_cr1 s ((nat_lit 0 = 0) :: ((∀ (l : List Int), List.length (crnL s (hd0 [(4:Nat) * dkN s s.nM]) l) = List.length (crnL s (nSd s) l)) :: ((∀ (l : List Int) (i : Nat), i < List.length (crnL s (nSd s) l) → List.getD (crnL s (hd0 [(4:Nat) * dkN s s.nM]) l) i (0:Int) = List.getD (crnL s (nSd s) l) i (0:Int)) :: ((∀ (l : List Int), List.length (sidL s (hd0 [(4:Nat) * dkN s s.nM]) l) =
     List.length (sidL s (nSd s) l)) :: ((∀ (l : List Int) (i : Nat), i < List.length (sidL s (nSd s) l) → List.getD (sidL s (hd0 [(4:Nat) * dkN s s.nM]) l) i (0:Int) = List.getD (sidL s (nSd s) l) i (0:Int)) :: ((∀ (l : List Int), (0:Nat) = nat_lit 0) :: ((∀ (l : List Int) (i : Nat), i < nat_lit 0 → (0:Int) = 0) :: (Reached_cr0 s (Reached_cr0 s [∀ (l : List Int), atH s (rdN s) l = atH s (rdN s) l, ∀ (l : List Int), atH s (rdN s) l = true → atL s (rdN s) l = atL s (rdN s) l]))))))))))))) fun i => .ite (decide ((i:Int) < (s.nM:Int))) (.need [(0:Int) ≤ (i:Int) ∧ (i:Int) < (s.nM:Int)] (.need [ri ((!s.K (i:Int).toNat != 7) = true), ri ((!s.K (i:Int).toNat != 7) = true), ri ((!s.K (i:Int).toNat != 7) = true), ri ((!s.K (i:Int).toNat != 7) = true), (!s.K (i:Int).toNat != 7) = true → (0:Int) ≤ s.B (i:Int).toNat ∧ s.B (i:Int).toNat < (s.nN:Int), ri ((!s.K (i:Int).toNat != 7) = true), ri ((!s.K (i:Int).toNat != 7) = true), ri ((!s.K (i:Int).toNat != 7) = true), ri ((!s.K (i:Int).toNat != 7) = true), ri ((!s.K (i:Int).toNat != 7) = true), ri ((!s.K (i:Int).toNat != 7) = true), (!s.K (i:Int).toNat != 7) = true → (0:Int) ≤ s.A (i:Int).toNat ∧ s.A (i:Int).toNat < (s.nN:Int), (!s.K (i:Int).toNat != 7) = true → (!s.K (Int.toNat
     (i:Int)) != 7) = true, ri ((!s.K (i:Int).toNat != 7) = true), ri ((!s.K (i:Int).toNat != 7) = true), ri ((!s.K (i:Int).toNat != 7) = true), (!s.K (i:Int).toNat != 7) = true → i64In (s.Z (s.B (i:Int).toNat).toNat - s.Z (s.A (i:Int).toNat).toNat), ri ((!s.K (i:Int).toNat != 7) = true), (s.K (i:Int).toNat != 7) = false → (!s.K (i:Int).toNat != 7) = true] (.ite (if (s.K (i:Int).toNat != 7) = true then true else decide (s.Z (s.B (i:Int).toNat).toNat - s.Z (s.A (i:Int).toNat).toNat > 6000)) (.need [i64In ((i:Int) + 1)] (.done (((i:Int) + 1 = (↑((i:Int) + 1).toNat : Int)) :: (((0:Nat) = 0) :: ((List.length (queL s i) = List.length (queL s ((i:Int) + 1).toNat)) :: (Reached_cr1 s ((List.length (queL s i) = List.length (queL s ((i:Int) + 1).toNat)) :: ((∀ i_1 < List.length (queL s ((i:Int) + 1).toNat), List.getD (queL s i) i_1 (0:Int) = List.getD (queL s ((i:Int) + 1).toNat) i_1 (0:Int)) :: ((∀ (l : List Int), List.length (crnL s (nSd s) l) = List.length (crnL s (nSd s) l)) :: ((∀ (l : List Int) (i : Nat), i < List.length (crnL s (nSd s) l) → List.getD (crnL s (nSd s) l) i (0:Int) = List.getD (crnL s (nSd s) l) i (0:Int)) :: ((∀ (l : List Int), List.length (sidL s (nSd s) l) = List.length (sidL s (nSd s) l)) :: ((∀ (l : List Int) (i : Nat), i < List.length (sidL s (nSd s) l) → List.getD (sidL s (nSd s) l) i (0:Int) = List.getD (sidL s (nSd s) l) i (0:Int)) :: ((∀ (l : List Int), List.length (nxtL s i l) = List.length (nxtL s (Int.toNat
     ((i:Int) + 1)) l)) :: ((∀ (l : List Int) (i_1 : Nat), i_1 < List.length (nxtL s ((i:Int) + 1).toNat l) → List.getD (nxtL s i l) i_1 (0:Int) = List.getD (nxtL s ((i:Int) + 1).toNat l) i_1 (0:Int)) :: (Reached_cr0 s (Reached_cr0 s [∀ (l : List Int), atH s (rdN s) l = atH s (rdN s) l, ∀ (l : List Int), atH s (rdN s) l = true → atL s (rdN s) l = atL s (rdN s) l, Int.toNat ((i:Int) + 1) ≤ s.nM, s.nM - ((i:Int) + 1).toNat < s.nM - i])))))))))))))))) (.need [(0:Int) ≤ s.A (i:Int).toNat ∧ s.A (i:Int).toNat < (s.nN:Int)] (.ite (ftB s s.nM (s.A (i:Int).toNat).toNat) (.need [List.length (queL s i) ≤ List.length (queL s i), (List.length (queL s i) + List.length (crnL s (nSd s) [s.B (i:Int).toNat])) * (nat_lit 7 + 1) ≤ 140737488355328] (.need [(List.length (nxtL s i [s.A (i:Int).toNat]) + List.length (crnL s (nSd s) [s.B (i:Int).toNat])) * (nat_lit 7 + 1) ≤ 140737488355328, List.length (nxtL s i [s.A (i:Int).toNat]) + List.length (crnL s (nSd s) [s.B (i:Int).toNat]) ≤ List.length (nxtL s i [s.A (i:Int).toNat]) + List.length (crnL s (nSd s) [s.B (i:Int).toNat]), [s.A (i:Int).toNat] = [s.A (i:Int).toNat]] (.need [((if [s.B (i:Int).toNat] = [s.A (i:Int).toNat] then List.length (nxtL s i [s.A (i:Int).toNat]) + List.length (crnL s (nSd s) [s.B (i:Int).toNat]) else List.length (nxtL s i [s.B (i:Int).toNat])) + List.length (crnL s (nSd s) [s.A (i:Int).toNat])) * (nat_lit 7 + 1) ≤ 140737488355328, (if [s.B (i:Int).toNat] = [s.A (i:Int).toNat] then List.length (nxtL s i [s.A (i:Int).toNat]) + List.length (crnL s (nSd s) [s.B (i:Int).toNat]) else List.length (nxtL s i [s.B (i:Int).toNat])) + List.length (crnL s (nSd s) [s.A (i:Int).toNat]) ≤
     (if [s.B (i:Int).toNat] = [s.A (i:Int).toNat] then List.length (nxtL s i [s.A (i:Int).toNat]) + List.length (crnL s (nSd s) [s.B (i:Int).toNat]) else List.length (nxtL s i [s.B (i:Int).toNat])) + List.length (crnL s (nSd s) [s.A (i:Int).toNat]), [s.B (i:Int).toNat] = [s.B (i:Int).toNat]] (.need [i64In ((i:Int) + 1)] (.done (((i:Int) + 1 = (↑((i:Int) + 1).toNat : Int)) :: (((0:Nat) = 0) :: ((List.length (queL s i) + List.length (crnL s (nSd s) [s.B (i:Int).toNat]) = List.length (queL s ((i:Int) + 1).toNat)) :: (Reached_cr1 s ((List.length (queL s i) + List.length (crnL s (nSd s) [s.B (i:Int).toNat]) = List.length (queL s ((i:Int) + 1).toNat)) :: ((∀ i_1 < List.length (queL s ((i:Int) + 1).toNat), (if decide (i_1 < List.length (queL s i)) = true then List.getD (queL s i) i_1 (0:Int) else List.getD (crnL s (nSd s) [s.B (i:Int).toNat]) (i_1 - List.length (queL s i)) (0:Int)) = List.getD (queL s ((i:Int) + 1).toNat) i_1 (0:Int)) :: ((∀ (l : List Int), List.length (crnL s (nSd s) l) = List.length (crnL s (nSd s) l)) :: ((∀ (l : List Int) (i : Nat), i < List.length (crnL s (nSd s) l) → List.getD (crnL s (nSd s) l) i (0:Int) = List.getD (crnL s (nSd s) l) i (0:Int)) :: ((∀ (l : List Int), List.length (sidL s (nSd s) l) = List.length (sidL s (nSd s) l)) :: ((∀ (l : List Int) (i : Nat), i < List.length (sidL s (nSd s) l) → List.getD (sidL s (nSd s) l) i (0:Int) = List.getD (sidL s (nSd s) l) i (0:Int)) :: ((∀ (l : List Int), (if l = [s.B (i:Int).toNat] then (if [s.B (i:Int).toNat] = [s.A (i:Int).toNat] then List.length (nxtL s i [s.A (i:Int).toNat]) + List.length (crnL s (nSd s) [s.B (i:Int).toNat]) else List.length (nxtL s i [s.B (i:Int).toNat])) + List.length (crnL s (nSd s) [s.A
     (i:Int).toNat]) else if l = [s.A (i:Int).toNat] then List.length (nxtL s i [s.A (i:Int).toNat]) + List.length (crnL s (nSd s) [s.B (i:Int).toNat]) else List.length (nxtL s i l)) = List.length (nxtL s ((i:Int) + 1).toNat l)) :: ((∀ (l : List Int) (i_1 : Nat), i_1 < List.length (nxtL s ((i:Int) + 1).toNat l) → (if decide (l = [s.B (i:Int).toNat]) = true then if decide (i_1 < if [s.B (i:Int).toNat] = [s.A (i:Int).toNat] then List.length (nxtL s i [s.A (i:Int).toNat]) + List.length (crnL s (nSd s) [s.B (i:Int).toNat]) else List.length (nxtL s i [s.B (i:Int).toNat])) = true then if decide ([s.B (i:Int).toNat] = [s.A (i:Int).toNat]) = true then if decide (i_1 < List.length (nxtL s i [s.A (i:Int).toNat])) = true then List.getD (nxtL s i [s.A (i:Int).toNat]) i_1 (0:Int) else List.getD (crnL s (nSd s) [s.B (i:Int).toNat]) (i_1 - List.length (nxtL s i [s.A (i:Int).toNat])) (0:Int) else List.getD (nxtL s i [s.B (i:Int).toNat]) i_1 (0:Int) else List.getD (crnL s (nSd s) [s.A (i:Int).toNat]) (i_1 - if [s.B (i:Int).toNat] = [s.A (i:Int).toNat] then List.length (nxtL s i [s.A (i:Int).toNat]) + List.length (crnL s (nSd s) [s.B (i:Int).toNat]) else List.length (nxtL s i [s.B (i:Int).toNat])) (0:Int) else if decide (l = [s.A (i:Int).toNat]) = true then if decide (i_1 < List.length (nxtL s i [s.A (i:Int).toNat])) = true then List.getD (nxtL s i [s.A (i:Int).toNat]) i_1 (0:Int) else List.getD (crnL s (nSd s) [s.B (i:Int).toNat]) (i_1 - List.length (nxtL s i [s.A (i:Int).toNat])) (0:Int) else List.getD (nxtL s i l) i_1 (0:Int)) = List.getD (nxtL s ((i:Int) + 1).toNat l) i_1 (0:Int)) :: (Reached_cr0 s (Reached_cr0 s [∀ (l : List Int), atH s (rdN s) l = atH s (rdN s) l, ∀ (l
     : List Int), atH s (rdN s) l = true → atL s (rdN s) l = atL s (rdN s) l, Int.toNat ((i:Int) + 1) ≤ s.nM, s.nM - ((i:Int) + 1).toNat < s.nM - i]))))))))))))))))))) (.need [(List.length (nxtL s i [s.A (i:Int).toNat]) + List.length (crnL s (nSd s) [s.B (i:Int).toNat])) * (nat_lit 7 + 1) ≤ 140737488355328, List.length (nxtL s i [s.A (i:Int).toNat]) + List.length (crnL s (nSd s) [s.B (i:Int).toNat]) ≤ List.length (nxtL s i [s.A (i:Int).toNat]) + List.length (crnL s (nSd s) [s.B (i:Int).toNat]), [s.A (i:Int).toNat] = [s.A (i:Int).toNat]] (.need [((if [s.B (i:Int).toNat] = [s.A (i:Int).toNat] then List.length (nxtL s i [s.A (i:Int).toNat]) + List.length (crnL s (nSd s) [s.B (i:Int).toNat]) else List.length (nxtL s i [s.B (i:Int).toNat])) + List.length (crnL s (nSd s) [s.A (i:Int).toNat])) * (nat_lit 7 + 1) ≤ 140737488355328, (if [s.B (i:Int).toNat] = [s.A (i:Int).toNat] then List.length (nxtL s i [s.A (i:Int).toNat]) + List.length (crnL s (nSd s) [s.B (i:Int).toNat]) else List.length (nxtL s i [s.B (i:Int).toNat])) + List.length (crnL s (nSd s) [s.A (i:Int).toNat]) ≤ (if [s.B (i:Int).toNat] = [s.A (i:Int).toNat] then List.length (nxtL s i [s.A (i:Int).toNat]) + List.length (crnL s (nSd s) [s.B (i:Int).toNat]) else List.length (nxtL s i [s.B (i:Int).toNat])) + List.length (crnL s (nSd s) [s.A (i:Int).toNat]), [s.B (i:Int).toNat] = [s.B (i:Int).toNat]] (.need [i64In ((i:Int) + 1)] (.done (((i:Int) + 1 = (↑((i:Int) + 1).toNat : Int)) :: (((0:Nat) = 0) :: ((List.length (queL s i) = List.length (queL s ((i:Int) + 1).toNat)) :: (Reached_cr1 s ((List.length (queL s i) = List.length (queL s ((↑i :
     Int) + 1).toNat)) :: ((∀ i_1 < List.length (queL s ((i:Int) + 1).toNat), List.getD (queL s i) i_1 (0:Int) = List.getD (queL s ((i:Int) + 1).toNat) i_1 (0:Int)) :: ((∀ (l : List Int), List.length (crnL s (nSd s) l) = List.length (crnL s (nSd s) l)) :: ((∀ (l : List Int) (i : Nat), i < List.length (crnL s (nSd s) l) → List.getD (crnL s (nSd s) l) i (0:Int) = List.getD (crnL s (nSd s) l) i (0:Int)) :: ((∀ (l : List Int), List.length (sidL s (nSd s) l) = List.length (sidL s (nSd s) l)) :: ((∀ (l : List Int) (i : Nat), i < List.length (sidL s (nSd s) l) → List.getD (sidL s (nSd s) l) i (0:Int) = List.getD (sidL s (nSd s) l) i (0:Int)) :: ((∀ (l : List Int), (if l = [s.B (i:Int).toNat] then (if [s.B (i:Int).toNat] = [s.A (i:Int).toNat] then List.length (nxtL s i [s.A (i:Int).toNat]) + List.length (crnL s (nSd s) [s.B (i:Int).toNat]) else List.length (nxtL s i [s.B (i:Int).toNat])) + List.length (crnL s (nSd s) [s.A (i:Int).toNat]) else if l = [s.A (i:Int).toNat] then List.length (nxtL s i [s.A (i:Int).toNat]) + List.length (crnL s (nSd s) [s.B (i:Int).toNat]) else List.length (nxtL s i l)) = List.length (nxtL s ((i:Int) + 1).toNat l)) :: ((∀ (l : List Int) (i_1 : Nat), i_1 < List.length (nxtL s ((i:Int) + 1).toNat l) → (if decide (l = [s.B (i:Int).toNat]) = true then if decide (i_1 < if [s.B (i:Int).toNat] = [s.A (i:Int).toNat] then List.length (nxtL s i [s.A (i:Int).toNat]) + List.length (crnL s (nSd s) [s.B (i:Int).toNat]) else List.length (nxtL s i [s.B (i:Int).toNat])) = true then if decide ([s.B (i:Int).toNat] = [s.A (i:Int).toNat]) = true then if decide (i_1 < List.length (nxtL s i [s.A (i:Int).toNat])) = true then List.getD (nxtL s i [s.A (i:Int).toNat]) i_1 (0:Int) else List.getD (crnL s
     (nSd s) [s.B (i:Int).toNat]) (i_1 - List.length (nxtL s i [s.A (i:Int).toNat])) (0:Int) else List.getD (nxtL s i [s.B (i:Int).toNat]) i_1 (0:Int) else List.getD (crnL s (nSd s) [s.A (i:Int).toNat]) (i_1 - if [s.B (i:Int).toNat] = [s.A (i:Int).toNat] then List.length (nxtL s i [s.A (i:Int).toNat]) + List.length (crnL s (nSd s) [s.B (i:Int).toNat]) else List.length (nxtL s i [s.B (i:Int).toNat])) (0:Int) else if decide (l = [s.A (i:Int).toNat]) = true then if decide (i_1 < List.length (nxtL s i [s.A (i:Int).toNat])) = true then List.getD (nxtL s i [s.A (i:Int).toNat]) i_1 (0:Int) else List.getD (crnL s (nSd s) [s.B (i:Int).toNat]) (i_1 - List.length (nxtL s i [s.A (i:Int).toNat])) (0:Int) else List.getD (nxtL s i l) i_1 (0:Int)) = List.getD (nxtL s ((i:Int) + 1).toNat l) i_1 (0:Int)) :: (Reached_cr0 s (Reached_cr0 s [∀ (l : List Int), atH s (rdN s) l = atH s (rdN s) l, ∀ (l : List Int), atH s (rdN s) l = true → atL s (rdN s) l = atL s (rdN s) l, Int.toNat ((i:Int) + 1) ≤ s.nM, s.nM - ((i:Int) + 1).toNat < s.nM - i]))))))))))))))))))))))) (.loop (Nat × (Nat → Int) × (List Int → Bool)) (fun (a : Nat × (Nat → Int) × (List Int → Bool)) => RInv s a.fst a.snd.1 a.snd.2) (List.length (queL s i), fun j => List.getD (queL s i) j (0:Int), fun (l : List Int) => false) (((0:Nat) = 0) :: ((List.length (queL s i) = List.length (queL s i)) :: ((∀ (l : List Int), List.length (crnL s (nSd s) l) = List.length (crnL s (nSd s) l)) :: ((∀ (l : List Int) (i : Nat), i < List.length (crnL s (nSd s) l) → List.getD (crnL s (nSd s) l) i (0:Int) = List.getD (crnL s (nSd s) l) i (0:Int)) :: ((∀ (l : List Int), List.length (sidL s (nSd s) l) = List.length (sidL s (nSd s) l)) :: ((∀ (l : List Int) (i : Nat), i < List.length (sidL s (nSd s) l) → List.getD (sidL s (nSd s) l) i (0:Int) = List.getD (sidL
     s (nSd s) l) i (0:Int)) :: ((∀ (l : List Int), List.length (nxtL s i l) = List.length (nxtL s s.nM l)) :: ((∀ (l : List Int) (i_1 : Nat), i_1 < List.length (nxtL s s.nM l) → List.getD (nxtL s i l) i_1 (0:Int) = List.getD (nxtL s s.nM l) i_1 (0:Int)) :: ((∀ (l : List Int), false = false) :: ((∀ (l : List Int), false = true → false = true) :: ((List.length (queL s i) = List.length (queL s i)) :: ((∀ i_1 < List.length (queL s i), List.getD (queL s i) i_1 (0:Int) = List.getD (queL s i) i_1 (0:Int)) :: (Reached_cr0 s (Reached_cr0 s [∀ (l : List Int), atH s (rdN s) l = atH s (rdN s) l, ∀ (l : List Int), atH s (rdN s) l = true → atL s (rdN s) l = atL s (rdN s) l])))))))))))))) fun (i : Nat × (Nat → Int) × (List Int → Bool)) => .ite (decide ((i.fst:Int) > 0)) (.need [(0:Int) ≤ 0 ∧ (0:Int) < (i.fst:Int), addN 0 (0:Int).toNat < i.fst] (.ite (if i.snd.2 [i.snd.1 (addN 0 (0:Int).toNat)] = true then true else false) (.need [(0:Int) ≤ 1 ∧ (1:Int) ≤ (i.fst:Int) ∧ i.fst ≤ i.fst] (.done (((0:Nat) = 0) :: ((i.fst - (1:Int).toNat = i.fst - (1:Int).toNat) :: ((∀ (l : List Int), List.length (crnL s (nSd s) l) = List.length (crnL s (nSd s) l)) :: ((∀ (l : List Int) (i : Nat), i < List.length (crnL s (nSd s) l) → List.getD (crnL s (nSd s) l) i (0:Int) = List.getD (crnL s (nSd s) l) i (0:Int)) :: ((∀ (l : List Int), List.length (sidL s (nSd s) l) = List.length (sidL s (nSd s) l)) :: ((∀ (l : List Int) (i : Nat), i < List.length (sidL s (nSd s) l) → List.getD (sidL s (nSd s) l) i (0:Int) = List.getD (sidL s (nSd s) l) i (0:Int)) :: ((∀ (l : List Int), List.length (nxtL s s.nM l) = List.length (nxtL s s.nM l)) :: ((∀ (l : List Int) (i : Nat), i < List.length (nxtL s s.nM l) → List.getD (nxtL s s.nM l) i (0:Int) = List.getD (nxtL s s.nM l) i (0:Int)) :: ((∀ (l : List Int), i.snd.2 l = i.snd.2 l) :: ((∀ (l : List Int), i.snd.2 l = true → true = true) :: ((i.fst -
     Int.toNat (1:Int) = i.fst - (1:Int).toNat) :: ((∀ i_1 < i.fst - (1:Int).toNat, i.snd.1 (i_1 + (1:Int).toNat) = i.snd.1 (i_1 + (1:Int).toNat)) :: (Reached_cr0 s (Reached_cr0 s [∀ (l : List Int), atH s (rdN s) l = atH s (rdN s) l, ∀ (l : List Int), atH s (rdN s) l = true → atL s (rdN s) l = atL s (rdN s) l, RInv s (i.fst - (1:Int).toNat) (fun a => i.snd.1 (a + (1:Int).toNat)) i.snd.2, pot s i.snd.2 s.nM + (i.fst - (1:Int).toNat) < pot s i.snd.2 s.nM + i.fst])))))))))))))))) (.need [(0:Int) ≤ i.snd.1 (addN 0 (0:Int).toNat) ∧ i.snd.1 (addN 0 (0:Int).toNat) < (s.nM:Int), FnC prog 38 [(Reached_cd0 s), .val (.agg (Array.mk [.int .i64 (s.K (i.snd.1 (addN 0 (0:Int).toNat)).toNat), .int .i64 (s.A (i.snd.1 (addN 0 (0:Int).toNat)).toNat), .int .i64 (s.B (i.snd.1 (addN 0 (0:Int).toNat)).toNat)]))] (.lst (endN (s.K (i.snd.1 (addN 0 (0:Int).toNat)).toNat) (s.A (i.snd.1 (addN 0 (0:Int).toNat)).toNat) (s.B (i.snd.1 (addN 0 (0:Int).toNat)).toNat)) [fun j => (dI (endX s (s.K (i.snd.1 (addN 0 (0:Int).toNat)).toNat) (s.A (i.snd.1 (addN 0 (0:Int).toNat)).toNat) (s.B (i.snd.1 (addN 0 (0:Int).toNat)).toNat) j))])] (.loop Nat (fun a => a ≤ 4) (0:Int).toNat (((0:Int) = (↑(0:Int).toNat : Int)) :: (((0:Nat) = 0) :: ((i.fst = i.fst + nat_lit 0) :: ((i.snd.1 (addN 0 (0:Int).toNat) = i.snd.1 (addN 0 (0:Int).toNat)) :: ((endN (s.K (i.snd.1 (addN 0 (0:Int).toNat)).toNat) (s.A (i.snd.1 (addN 0 (0:Int).toNat)).toNat) (s.B (i.snd.1 (addN 0 (0:Int).toNat)).toNat) = endN (s.K (i.snd.1 (addN 0 (0:Int).toNat)).toNat) (s.A (i.snd.1 (addN (0 :
     Nat) (0:Int).toNat)).toNat) (s.B (i.snd.1 (addN 0 (0:Int).toNat)).toNat)) :: ((∀ i_1 < endN (s.K (i.snd.1 (addN 0 (0:Int).toNat)).toNat) (s.A (i.snd.1 (addN 0 (0:Int).toNat)).toNat) (s.B (i.snd.1 (addN 0 (0:Int).toNat)).toNat), endX s (s.K (i.snd.1 (addN 0 (0:Int).toNat)).toNat) (s.A (i.snd.1 (addN 0 (0:Int).toNat)).toNat) (s.B (i.snd.1 (addN 0 (0:Int).toNat)).toNat) i_1 = endX s (s.K (i.snd.1 (addN 0 (0:Int).toNat)).toNat) (s.A (i.snd.1 (addN 0 (0:Int).toNat)).toNat) (s.B (i.snd.1 (addN 0 (0:Int).toNat)).toNat) i_1) :: ((endN (s.K (i.snd.1 (addN 0 (0:Int).toNat)).toNat) (s.A (i.snd.1 (addN 0 (0:Int).toNat)).toNat) (s.B (i.snd.1 (addN 0 (0:Int).toNat)).toNat) = endN (s.K (i.snd.1 (addN 0 (0:Int).toNat)).toNat) (s.A (i.snd.1 (addN 0 (0:Int).toNat)).toNat) (s.B (i.snd.1 (addN 0 (0:Int).toNat)).toNat)) :: ((∀ i_1 < endN (s.K (i.snd.1 (addN 0 (0:Int).toNat)).toNat) (s.A (i.snd.1 (addN 0 (0:Int).toNat)).toNat) (s.B (i.snd.1 (addN 0 (0:Int).toNat)).toNat), endX s (s.K (i.snd.1 (addN 0 (0:Int).toNat)).toNat) (s.A (i.snd.1 (addN 0 (0:Int).toNat)).toNat) (s.B (i.snd.1 (addN 0 (0:Int).toNat)).toNat) i_1 = endX s (s.K (i.snd.1 (addN 0 (0:Int).toNat)).toNat) (s.A (i.snd.1 (addN 0 (0:Int).toNat)).toNat) (s.B (i.snd.1 (addN 0 (0:Int).toNat)).toNat) i_1) :: (((↑(endN (s.K (i.snd.1 (addN 0 (0:Int).toNat)).toNat) (s.A (i.snd.1 (addN 0 (0:Int).toNat)).toNat) (s.B
     (i.snd.1 (addN 0 (0:Int).toNat)).toNat)) : Int) = (↑(endN (s.K (i.snd.1 (addN 0 (0:Int).toNat)).toNat) (s.A (i.snd.1 (addN 0 (0:Int).toNat)).toNat) (s.B (i.snd.1 (addN 0 (0:Int).toNat)).toNat)) : Int)) :: ((∀ (l : List Int), List.length (crnL s (nSd s) l) = List.length (crnL s (nSd s) l)) :: ((∀ (l : List Int) (i : Nat), i < List.length (crnL s (nSd s) l) → List.getD (crnL s (nSd s) l) i (0:Int) = List.getD (crnL s (nSd s) l) i (0:Int)) :: ((∀ (l : List Int), List.length (sidL s (nSd s) l) = List.length (sidL s (nSd s) l)) :: ((∀ (l : List Int) (i : Nat), i < List.length (sidL s (nSd s) l) → List.getD (sidL s (nSd s) l) i (0:Int) = List.getD (sidL s (nSd s) l) i (0:Int)) :: ((∀ (l : List Int), List.length (nxtL s s.nM l) = List.length (nxtL s s.nM l)) :: ((∀ (l : List Int) (i : Nat), i < List.length (nxtL s s.nM l) → List.getD (nxtL s s.nM l) i (0:Int) = List.getD (nxtL s s.nM l) i (0:Int)) :: ((∀ (l : List Int), putHas [i.snd.1 (addN 0 (0:Int).toNat)] i.snd.2 l = putHas [i.snd.1 (addN 0 (0:Int).toNat)] i.snd.2 l) :: ((∀ (l : List Int), putHas [i.snd.1 (addN 0 (0:Int).toNat)] i.snd.2 l = true → (if decide (l = [i.snd.1 (addN 0 (0:Int).toNat)]) = true then true else true) = true) :: ((i.fst = i.fst + nat_lit 0) :: ((∀ i_1 < i.fst + nat_lit 0, i.snd.1 i_1 = tS i.fst i.snd.1 (adjK s (i.snd.1 (addN 0 (0:Int).toNat)) (0:Int).toNat) i_1) :: (Reached_cr0 s (Reached_cr0 s [∀ (l : List Int), atH s (rdN s) l = atH s (rdN s) l, ∀ (l : List Int), atH s (rdN s) l = true → atL s (rdN s) l = atL s (rdN s) l]))))))))))))))))))))) fun i_1 => .ite (decide ((i_1:Int) < (↑(endN (s.K (i.snd.1 (addN 0 (0:Int).toNat)).toNat) (s.A (i.snd.1 (addN 0 (0:Int).toNat)).toNat) (s.B (i.snd.1 (addN 0 (0:Int).toNat)).toNat)) :
     Int))) (.need [(0:Int) ≤ (i_1:Int) ∧ (i_1:Int) < (↑(endN (s.K (i.snd.1 (addN 0 (0:Int).toNat)).toNat) (s.A (i.snd.1 (addN 0 (0:Int).toNat)).toNat) (s.B (i.snd.1 (addN 0 (0:Int).toNat)).toNat)) : Int)] (.need [i.fst + List.length (adjK s (i.snd.1 (addN 0 (0:Int).toNat)) i_1) ≤ i.fst + List.length (adjK s (i.snd.1 (addN 0 (0:Int).toNat)) i_1), (i.fst + List.length (adjK s (i.snd.1 (addN 0 (0:Int).toNat)) i_1) + List.length (nxtL s s.nM [endX s (s.K (i.snd.1 (addN 0 (0:Int).toNat)).toNat) (s.A (i.snd.1 (addN 0 (0:Int).toNat)).toNat) (s.B (i.snd.1 (addN 0 (0:Int).toNat)).toNat) (i_1:Int).toNat])) * (nat_lit 7 + 1) ≤ 140737488355328, i64In ((i_1:Int) + 1), (0:Int) ≤ (i_1:Int) + 1 ∧ (0:Int) < 4, (0:Int) ≤ ((i_1:Int) + 1) % (4:Int) ∧ ((i_1:Int) + 1) % (4:Int) < (↑(endN (s.K (i.snd.1 (addN 0 (0:Int).toNat)).toNat) (s.A (i.snd.1 (addN 0 (0:Int).toNat)).toNat) (s.B (i.snd.1 (addN 0 (0:Int).toNat)).toNat)) : Int), FnC prog 37 [(dI (endX s (s.K (i.snd.1 (addN 0 (0:Int).toNat)).toNat) (s.A (i.snd.1 (addN 0 (0:Int).toNat)).toNat) (s.B (i.snd.1 (addN 0 (0:Int).toNat)).toNat) (i_1:Int).toNat)), (dI (endX s (s.K (i.snd.1 (addN 0 (0:Int).toNat)).toNat) (s.A (i.snd.1 (addN 0 (0:Int).toNat)).toNat) (s.B (i.snd.1 (addN 0 (0:Int).toNat)).toNat) (((i_1:Int) + 1) % (4:Int)).toNat))] (.val (.agg (Array.mk [.int .i64 (mn (endX s (s.K (i.snd.1 (addN 0 (0:Int).toNat)).toNat) (s.A (i.snd.1 (addN 0 (0:Int).toNat)).toNat) (s.B (i.snd.1 (addN
     (0:Nat) (0:Int).toNat)).toNat) (i_1:Int).toNat) (endX s (s.K (i.snd.1 (addN 0 (0:Int).toNat)).toNat) (s.A (i.snd.1 (addN 0 (0:Int).toNat)).toNat) (s.B (i.snd.1 (addN 0 (0:Int).toNat)).toNat) (((i_1:Int) + 1) % (4:Int)).toNat)), .int .i64 (mx (endX s (s.K (i.snd.1 (addN 0 (0:Int).toNat)).toNat) (s.A (i.snd.1 (addN 0 (0:Int).toNat)).toNat) (s.B (i.snd.1 (addN 0 (0:Int).toNat)).toNat) (i_1:Int).toNat) (endX s (s.K (i.snd.1 (addN 0 (0:Int).toNat)).toNat) (s.A (i.snd.1 (addN 0 (0:Int).toNat)).toNat) (s.B (i.snd.1 (addN 0 (0:Int).toNat)).toNat) (((i_1:Int) + 1) % (4:Int)).toNat))]))), i.fst + List.length (adjK s (i.snd.1 (addN 0 (0:Int).toNat)) i_1) + List.length (nxtL s s.nM [endX s (s.K (i.snd.1 (addN 0 (0:Int).toNat)).toNat) (s.A (i.snd.1 (addN 0 (0:Int).toNat)).toNat) (s.B (i.snd.1 (addN 0 (0:Int).toNat)).toNat) (i_1:Int).toNat]) ≤ i.fst + List.length (adjK s (i.snd.1 (addN 0 (0:Int).toNat)) i_1) + List.length (nxtL s s.nM [endX s (s.K (i.snd.1 (addN 0 (0:Int).toNat)).toNat) (s.A (i.snd.1 (addN 0 (0:Int).toNat)).toNat) (s.B (i.snd.1 (addN 0 (0:Int).toNat)).toNat) (i_1:Int).toNat]), (i.fst + List.length (adjK s (i.snd.1 (addN 0 (0:Int).toNat)) i_1) + List.length (nxtL s s.nM [endX s (s.K (i.snd.1 (addN 0 (0:Int).toNat)).toNat) (s.A (i.snd.1 (addN 0 (0:Int).toNat)).toNat) (s.B (i.snd.1 (addN 0 (0:Int).toNat)).toNat) (i_1:Int).toNat]) + List.length (sidL s (nSd s) [mn (endX s (s.K (i.snd.1 (addN 0 (0:Int).toNat)).toNat) (s.A
     (i.snd.1 (addN 0 (0:Int).toNat)).toNat) (s.B (i.snd.1 (addN 0 (0:Int).toNat)).toNat) (i_1:Int).toNat) (endX s (s.K (i.snd.1 (addN 0 (0:Int).toNat)).toNat) (s.A (i.snd.1 (addN 0 (0:Int).toNat)).toNat) (s.B (i.snd.1 (addN 0 (0:Int).toNat)).toNat) (((i_1:Int) + 1) % (4:Int)).toNat), mx (endX s (s.K (i.snd.1 (addN 0 (0:Int).toNat)).toNat) (s.A (i.snd.1 (addN 0 (0:Int).toNat)).toNat) (s.B (i.snd.1 (addN 0 (0:Int).toNat)).toNat) (i_1:Int).toNat) (endX s (s.K (i.snd.1 (addN 0 (0:Int).toNat)).toNat) (s.A (i.snd.1 (addN 0 (0:Int).toNat)).toNat) (s.B (i.snd.1 (addN 0 (0:Int).toNat)).toNat) (((i_1:Int) + 1) % (4:Int)).toNat)])) * (nat_lit 7 + 1) ≤ 140737488355328] (.need [i64In ((i_1:Int) + 1)] (.done (((i_1:Int) + 1 = (↑((i_1:Int) + 1).toNat : Int)) :: (((0:Nat) = 0) :: ((i.fst + List.length (adjK s (i.snd.1 (addN 0 (0:Int).toNat)) i_1) + List.length (nxtL s s.nM [endX s (s.K (i.snd.1 (addN 0 (0:Int).toNat)).toNat) (s.A (i.snd.1 (addN 0 (0:Int).toNat)).toNat) (s.B (i.snd.1 (addN 0 (0:Int).toNat)).toNat) (i_1:Int).toNat]) + List.length (sidL s (nSd s) [mn (endX s (s.K (i.snd.1 (addN 0 (0:Int).toNat)).toNat) (s.A (i.snd.1 (addN 0 (0:Int).toNat)).toNat) (s.B (i.snd.1 (addN 0 (0:Int).toNat)).toNat) (i_1:Int).toNat) (endX s (s.K (i.snd.1 (addN 0 (0:Int).toNat)).toNat) (s.A (i.snd.1 (addN 0 (0:Int).toNat)).toNat) (s.B (i.snd.1 (addN 0 (0:Int).toNat)).toNat) (((i_1:Int) + 1) %
     (4:Int)).toNat), mx (endX s (s.K (i.snd.1 (addN 0 (0:Int).toNat)).toNat) (s.A (i.snd.1 (addN 0 (0:Int).toNat)).toNat) (s.B (i.snd.1 (addN 0 (0:Int).toNat)).toNat) (i_1:Int).toNat) (endX s (s.K (i.snd.1 (addN 0 (0:Int).toNat)).toNat) (s.A (i.snd.1 (addN 0 (0:Int).toNat)).toNat) (s.B (i.snd.1 (addN 0 (0:Int).toNat)).toNat) (((i_1:Int) + 1) % (4:Int)).toNat)]) = i.fst + List.length (adjK s (i.snd.1 (addN 0 (0:Int).toNat)) ((i_1:Int) + 1).toNat)) :: ((i.snd.1 (addN 0 (0:Int).toNat) = i.snd.1 (addN 0 (0:Int).toNat)) :: ((endN (s.K (i.snd.1 (addN 0 (0:Int).toNat)).toNat) (s.A (i.snd.1 (addN 0 (0:Int).toNat)).toNat) (s.B (i.snd.1 (addN 0 (0:Int).toNat)).toNat) = endN (s.K (i.snd.1 (addN 0 (0:Int).toNat)).toNat) (s.A (i.snd.1 (addN 0 (0:Int).toNat)).toNat) (s.B (i.snd.1 (addN 0 (0:Int).toNat)).toNat)) :: ((∀ i_2 < endN (s.K (i.snd.1 (addN 0 (0:Int).toNat)).toNat) (s.A (i.snd.1 (addN 0 (0:Int).toNat)).toNat) (s.B (i.snd.1 (addN 0 (0:Int).toNat)).toNat), endX s (s.K (i.snd.1 (addN 0 (0:Int).toNat)).toNat) (s.A (i.snd.1 (addN 0 (0:Int).toNat)).toNat) (s.B (i.snd.1 (addN 0 (0:Int).toNat)).toNat) i_2 = endX s (s.K (i.snd.1 (addN 0 (0:Int).toNat)).toNat) (s.A (i.snd.1 (addN 0 (0:Int).toNat)).toNat) (s.B (i.snd.1 (addN 0 (0:Int).toNat)).toNat) i_2) :: ((endN (s.K (i.snd.1 (addN 0 (0:Int).toNat)).toNat) (s.A (i.snd.1 (addN 0 (0:Int).toNat)).toNat) (s.B (i.snd.1 (addN (0 :
     Nat) (0:Int).toNat)).toNat) = endN (s.K (i.snd.1 (addN 0 (0:Int).toNat)).toNat) (s.A (i.snd.1 (addN 0 (0:Int).toNat)).toNat) (s.B (i.snd.1 (addN 0 (0:Int).toNat)).toNat)) :: ((∀ i_2 < endN (s.K (i.snd.1 (addN 0 (0:Int).toNat)).toNat) (s.A (i.snd.1 (addN 0 (0:Int).toNat)).toNat) (s.B (i.snd.1 (addN 0 (0:Int).toNat)).toNat), endX s (s.K (i.snd.1 (addN 0 (0:Int).toNat)).toNat) (s.A (i.snd.1 (addN 0 (0:Int).toNat)).toNat) (s.B (i.snd.1 (addN 0 (0:Int).toNat)).toNat) i_2 = endX s (s.K (i.snd.1 (addN 0 (0:Int).toNat)).toNat) (s.A (i.snd.1 (addN 0 (0:Int).toNat)).toNat) (s.B (i.snd.1 (addN 0 (0:Int).toNat)).toNat) i_2) :: (((↑(endN (s.K (i.snd.1 (addN 0 (0:Int).toNat)).toNat) (s.A (i.snd.1 (addN 0 (0:Int).toNat)).toNat) (s.B (i.snd.1 (addN 0 (0:Int).toNat)).toNat)) : Int) = (↑(endN (s.K (i.snd.1 (addN 0 (0:Int).toNat)).toNat) (s.A (i.snd.1 (addN 0 (0:Int).toNat)).toNat) (s.B (i.snd.1 (addN 0 (0:Int).toNat)).toNat)) : Int)) :: ((∀ (l : List Int), List.length (crnL s (nSd s) l) = List.length (crnL s (nSd s) l)) :: ((∀ (l : List Int) (i : Nat), i < List.length (crnL s (nSd s) l) → List.getD (crnL s (nSd s) l) i (0:Int) = List.getD (crnL s (nSd s) l) i (0:Int)) :: ((∀ (l : List Int), List.length (sidL s (nSd s) l) = List.length (sidL s (nSd s) l)) :: ((∀ (l : List Int) (i : Nat), i < List.length (sidL s (nSd s) l) → List.getD (sidL s (nSd s) l) i (0:Int) = List.getD (sidL s (nSd s) l) i (0:Int)) :: ((∀ (l : List Int), List.length (nxtL s s.nM l) = List.length (nxtL s s.nM l)) :: ((∀ (l : List Int) (i : Nat), i < List.length (nxtL s s.nM l) → List.getD (nxtL s
     s.nM l) i (0:Int) = List.getD (nxtL s s.nM l) i (0:Int)) :: ((∀ (l : List Int), putHas [i.snd.1 (addN 0 (0:Int).toNat)] i.snd.2 l = putHas [i.snd.1 (addN 0 (0:Int).toNat)] i.snd.2 l) :: ((∀ (l : List Int), putHas [i.snd.1 (addN 0 (0:Int).toNat)] i.snd.2 l = true → true = true) :: ((i.fst + List.length (adjK s (i.snd.1 (addN 0 (0:Int).toNat)) i_1) + List.length (nxtL s s.nM [endX s (s.K (i.snd.1 (addN 0 (0:Int).toNat)).toNat) (s.A (i.snd.1 (addN 0 (0:Int).toNat)).toNat) (s.B (i.snd.1 (addN 0 (0:Int).toNat)).toNat) (i_1:Int).toNat]) + List.length (sidL s (nSd s) [mn (endX s (s.K (i.snd.1 (addN 0 (0:Int).toNat)).toNat) (s.A (i.snd.1 (addN 0 (0:Int).toNat)).toNat) (s.B (i.snd.1 (addN 0 (0:Int).toNat)).toNat) (i_1:Int).toNat) (endX s (s.K (i.snd.1 (addN 0 (0:Int).toNat)).toNat) (s.A (i.snd.1 (addN 0 (0:Int).toNat)).toNat) (s.B (i.snd.1 (addN 0 (0:Int).toNat)).toNat) (((i_1:Int) + 1) % (4:Int)).toNat), mx (endX s (s.K (i.snd.1 (addN 0 (0:Int).toNat)).toNat) (s.A (i.snd.1 (addN 0 (0:Int).toNat)).toNat) (s.B (i.snd.1 (addN 0 (0:Int).toNat)).toNat) (i_1:Int).toNat) (endX s (s.K (i.snd.1 (addN 0 (0:Int).toNat)).toNat) (s.A (i.snd.1 (addN 0 (0:Int).toNat)).toNat) (s.B (i.snd.1 (addN 0 (0:Int).toNat)).toNat) (((i_1:Int) + 1) % (4:Int)).toNat)]) = i.fst + List.length (adjK s (i.snd.1 (addN 0 (0:Int).toNat)) ((i_1:Int) + 1).toNat)) :: ((∀ i_2 < i.fst + List.length (adjK s (i.snd.1 (addN 0 (0:Int).toNat)) ((i_1:Int) + 1).toNat), (if decide (i_2 <
     i.fst + List.length (adjK s (i.snd.1 (addN 0 (0:Int).toNat)) i_1) + List.length (nxtL s s.nM [endX s (s.K (i.snd.1 (addN 0 (0:Int).toNat)).toNat) (s.A (i.snd.1 (addN 0 (0:Int).toNat)).toNat) (s.B (i.snd.1 (addN 0 (0:Int).toNat)).toNat) (i_1:Int).toNat])) = true then if decide (i_2 < i.fst + List.length (adjK s (i.snd.1 (addN 0 (0:Int).toNat)) i_1)) = true then tS i.fst i.snd.1 (adjK s (i.snd.1 (addN 0 (0:Int).toNat)) i_1) i_2 else List.getD (nxtL s s.nM [endX s (s.K (i.snd.1 (addN 0 (0:Int).toNat)).toNat) (s.A (i.snd.1 (addN 0 (0:Int).toNat)).toNat) (s.B (i.snd.1 (addN 0 (0:Int).toNat)).toNat) (i_1:Int).toNat]) (i_2 - (i.fst + List.length (adjK s (i.snd.1 (addN 0 (0:Int).toNat)) i_1))) (0:Int) else List.getD (sidL s (nSd s) [mn (endX s (s.K (i.snd.1 (addN 0 (0:Int).toNat)).toNat) (s.A (i.snd.1 (addN 0 (0:Int).toNat)).toNat) (s.B (i.snd.1 (addN 0 (0:Int).toNat)).toNat) (i_1:Int).toNat) (endX s (s.K (i.snd.1 (addN 0 (0:Int).toNat)).toNat) (s.A (i.snd.1 (addN 0 (0:Int).toNat)).toNat) (s.B (i.snd.1 (addN 0 (0:Int).toNat)).toNat) (((i_1:Int) + 1) % (4:Int)).toNat), mx (endX s (s.K (i.snd.1 (addN 0 (0:Int).toNat)).toNat) (s.A (i.snd.1 (addN 0 (0:Int).toNat)).toNat) (s.B (i.snd.1 (addN 0 (0:Int).toNat)).toNat) (i_1:Int).toNat) (endX s (s.K (i.snd.1 (addN 0 (0:Int).toNat)).toNat) (s.A (i.snd.1 (addN 0 (0:Int).toNat)).toNat) (s.B (i.snd.1 (addN 0 (0:Int).toNat)).toNat) (((i_1:Int) + 1) % (4:Int)).toNat)]) (i_2 - (i.fst + List.length (adjK s
     (i.snd.1 (addN 0 (0:Int).toNat)) i_1) + List.length (nxtL s s.nM [endX s (s.K (i.snd.1 (addN 0 (0:Int).toNat)).toNat) (s.A (i.snd.1 (addN 0 (0:Int).toNat)).toNat) (s.B (i.snd.1 (addN 0 (0:Int).toNat)).toNat) (i_1:Int).toNat]))) (0:Int)) = tS i.fst i.snd.1 (adjK s (i.snd.1 (addN 0 (0:Int).toNat)) ((i_1:Int) + 1).toNat) i_2) :: (Reached_cr0 s (Reached_cr0 s [∀ (l : List Int), atH s (rdN s) l = atH s (rdN s) l, ∀ (l : List Int), atH s (rdN s) l = true → atL s (rdN s) l = atL s (rdN s) l, Int.toNat ((i_1:Int) + 1) ≤ 4, (4:Nat) - ((i_1:Int) + 1).toNat < 4 - i_1]))))))))))))))))))))))))) (.need [(0:Int) ≤ 1 ∧ (1:Int) ≤ (↑(i.fst + List.length (adjK s (i.snd.1 (addN 0 (0:Int).toNat)) i_1)) : Int) ∧ i.fst + List.length (adjK s (i.snd.1 (addN 0 (0:Int).toNat)) i_1) ≤ i.fst + List.length (adjK s (i.snd.1 (addN 0 (0:Int).toNat)) i_1)] (.done (((0:Nat) = 0) :: ((i.fst + List.length (adjK s (i.snd.1 (addN 0 (0:Int).toNat)) i_1) - (1:Int).toNat = i.fst + List.length (adjK s (i.snd.1 (addN 0 (0:Int).toNat)) i_1) - (1:Int).toNat) :: ((∀ (l : List Int), List.length (crnL s (nSd s) l) = List.length (crnL s (nSd s) l)) :: ((∀ (l : List Int) (i : Nat), i < List.length (crnL s (nSd s) l) → List.getD (crnL s (nSd s) l) i (0:Int) = List.getD (crnL s (nSd s) l) i (0:Int)) :: ((∀ (l : List Int), List.length (sidL s (nSd s) l) = List.length (sidL s (nSd s) l)) :: ((∀ (l : List Int) (i : Nat), i < List.length (sidL s (nSd s) l) → List.getD (sidL s (nSd s) l) i (0:Int) = List.getD (sidL s (nSd s) l) i (0:Int)) :: ((∀ (l : List Int), List.length (nxtL s s.nM l) = List.length (nxtL s s.nM l)) :: ((∀ (l : List Int) (i : Nat), i < List.length (nxtL s s.nM l) → List.getD (nxtL s s.nM l) i (0:Int) = List.getD
     (nxtL s s.nM l) i (0:Int)) :: ((∀ (l : List Int), putHas [i.snd.1 (addN 0 (0:Int).toNat)] i.snd.2 l = putHas [i.snd.1 (addN 0 (0:Int).toNat)] i.snd.2 l) :: ((∀ (l : List Int), putHas [i.snd.1 (addN 0 (0:Int).toNat)] i.snd.2 l = true → true = true) :: ((i.fst + List.length (adjK s (i.snd.1 (addN 0 (0:Int).toNat)) i_1) - (1:Int).toNat = i.fst + List.length (adjK s (i.snd.1 (addN 0 (0:Int).toNat)) i_1) - (1:Int).toNat) :: ((∀ i_2 < i.fst + List.length (adjK s (i.snd.1 (addN 0 (0:Int).toNat)) i_1) - (1:Int).toNat, tS i.fst i.snd.1 (adjK s (i.snd.1 (addN 0 (0:Int).toNat)) i_1) (i_2 + (1:Int).toNat) = tS i.fst i.snd.1 (adjK s (i.snd.1 (addN 0 (0:Int).toNat)) i_1) (i_2 + (1:Int).toNat)) :: (Reached_cr0 s (Reached_cr0 s [∀ (l : List Int), atH s (rdN s) l = atH s (rdN s) l, ∀ (l : List Int), atH s (rdN s) l = true → atL s (rdN s) l = atL s (rdN s) l, RInv s (i.fst + List.length (adjK s (i.snd.1 (addN 0 (0:Int).toNat)) i_1) - (1:Int).toNat) (fun a => tS i.fst i.snd.1 (adjK s (i.snd.1 (addN 0 (0:Int).toNat)) i_1) (a + (1:Int).toNat)) (putHas [i.snd.1 (addN 0 (0:Int).toNat)] i.snd.2), pot s (putHas [i.snd.1 (addN 0 (0:Int).toNat)] i.snd.2) s.nM + (i.fst + List.length (adjK s (i.snd.1 (addN 0 (0:Int).toNat)) i_1) - (1:Int).toNat) < pot s i.snd.2 s.nM + i.fst])))))))))))))))))))) (.loop Nat (fun a => a ≤ s.nM) (0:Int).toNat (((0:Int) = (↑(0:Int).toNat : Int)) :: (((0:Nat) = 0) :: ((flN (fun i_1 => i.snd.2 [(i_1:Int)]) (0:Int).toNat = 0) :: (Reached_cr2 s ((flN (fun i_1 => i.snd.2 [(i_1:Int)]) (0:Int).toNat = 0) :: ((∀ (l : List Int), i.snd.2 l = i.snd.2 l) :: ((∀ (l : List Int), i.snd.2 l = true → true = true) :: (Reached_cr0 s [])))))))) fun i_1
     => .ite (decide ((i_1:Int) < (s.nM:Int))) (.ite (if i.snd.2 [(i_1:Int)] = true then true else false) (.need [flN (fun i_2 => i.snd.2 [(i_2:Int)]) i_1 ≤ flN (fun i_2 => i.snd.2 [(i_2:Int)]) i_1, (flN (fun i_2 => i.snd.2 [(i_2:Int)]) i_1 + 1) * (nat_lit 7 + 1) ≤ 140737488355328, (1:Nat) ≤ 1] (.need [i64In ((i_1:Int) + 1)] (.done (((i_1:Int) + 1 = (↑((i_1:Int) + 1).toNat : Int)) :: (((0:Nat) = 0) :: ((flN (fun i_2 => i.snd.2 [(i_2:Int)]) i_1 + 1 = flN (fun i_2 => i.snd.2 [(i_2:Int)]) ((i_1:Int) + 1).toNat) :: (Reached_cr2 s ((flN (fun i_2 => i.snd.2 [(i_2:Int)]) i_1 + 1 = flN (fun i_2 => i.snd.2 [(i_2:Int)]) ((i_1:Int) + 1).toNat) :: ((∀ i_2 < flN (fun i_3 => i.snd.2 [(i_3:Int)]) ((i_1:Int) + 1).toNat, (if decide (i_2 < flN (fun i_3 => i.snd.2 [(i_3:Int)]) i_1) = true then (↑(flI (fun i_3 => i.snd.2 [(i_3:Int)]) i_1 i_2) : Int) else (i_1:Int)) = (↑(flI (fun i_3 => i.snd.2 [(i_3:Int)]) ((i_1:Int) + 1).toNat i_2) : Int)) :: ((∀ (l : List Int), i.snd.2 l = i.snd.2 l) :: ((∀ (l : List Int), i.snd.2 l = true → true = true) :: (Reached_cr0 s [Int.toNat ((i_1:Int) + 1) ≤ s.nM, s.nM - ((i_1:Int) + 1).toNat < s.nM - i_1])))))))))))) (.need [i64In ((i_1:Int) + 1)] (.done (((i_1:Int) + 1 = (↑((i_1:Int) + 1).toNat : Int)) :: (((0:Nat) = 0) :: ((flN (fun i_2 => i.snd.2 [(i_2:Int)]) i_1 = flN (fun i_2 => i.snd.2 [(i_2:Int)]) ((i_1:Int) + 1).toNat) :: (Reached_cr2 s ((flN (fun i_2 => i.snd.2 [(i_2:Int)]) i_1 = flN (fun i_2 => i.snd.2 [(i_2:Int)]) ((i_1:Int) + 1).toNat) :: ((∀ i_2 < flN (fun i_3 => i.snd.2 [(i_3:Int)]) ((i_1:Int) + 1).toNat, (↑(flI (fun i_3 => i.snd.2 [(i_3:Int)]) i_1 i_2) : Int) = (↑(flI
     (fun i_3 => i.snd.2 [(i_3:Int)]) ((i_1:Int) + 1).toNat i_2) : Int)) :: ((∀ (l : List Int), i.snd.2 l = i.snd.2 l) :: ((∀ (l : List Int), i.snd.2 l = true → true = true) :: (Reached_cr0 s [Int.toNat ((i_1:Int) + 1) ≤ s.nM, s.nM - ((i_1:Int) + 1).toNat < s.nM - i_1])))))))))))) (.done [flN (fun i_2 => i.snd.2 [(i_2:Int)]) i_1 ≤ flN (fun i_2 => i.snd.2 [(i_2:Int)]) i_1, flN (fun i_2 => i.snd.2 [(i_2:Int)]) i_1 = rchN s, ∀ i_2 < rchN s, (↑(flI (fun i_3 => i.snd.2 [(i_3:Int)]) i_1 i_2) : Int) = (↑(rchI s i_2) : Int), (0:Int) = chkE s])))) fun x => .need [(List.length (crnL s (hd0 [x]) [sdA s x]) + 1) * (nat_lit 7 + 1) ≤ 140737488355328, (1:Nat) ≤ 1, List.length (crnL s (hd0 [x]) [sdA s x]) + 1 ≤ List.length (crnL s (hd0 [x]) [sdA s x]) + 1, [sdA s x] = [sdA s x]] (.need [FnC prog 37 [(dI (sdA s x)), (dI (sdB s x))] (.val (.agg (Array.mk [.int .i64 (mn (sdA s x) (sdB s x)), .int .i64 (mx (sdA s x) (sdB s x))]))), FnC prog 37 [(dI (sdA s x)), (dI (sdB s x))] (.val (.agg (Array.mk [.int .i64 (mn (sdA s x) (sdB s x)), .int .i64 (mx (sdA s x) (sdB s x))]))), (List.length (sidL s (hd0 [x]) [mn (sdA s x) (sdB s x), mx (sdA s x) (sdB s x)]) + 1) * (nat_lit 7 + 1) ≤ 140737488355328, (1:Nat) ≤ 1, List.length (sidL s (hd0 [x]) [mn (sdA s x) (sdB s x), mx (sdA s x) (sdB s x)]) + 1 ≤ List.length (sidL s (hd0 [x]) [mn (sdA s x) (sdB s x), mx (sdA s x) (sdB s x)]) + 1, [mn (sdA s x) (sdB s x), mx (sdA s x) (sdB s x)] = [mn (sdA s x) (sdB s x), mx (sdA s x) (sdB s x)]] (.done ((s.nN = s.nN) :: ((∀ i < s.nN, ftB s s.nM i = ftB s s.nM i) :: ((∀ i < s.nN, ftU s s.nM i = ftU s s.nM i) :: ((∀ i < s.nN, ftA s s.nM i = ftA s s.nM i) :: ((∀ (l : List Int), (if l = [sdA s x] then List.length (crnL s (hd0 [x]) [sdA s x]) + 1 else List.length (crnL s (hd0 [x]) l)) =
     List.length (crnL s (hd0 [x + 1]) l)) :: ((∀ (l : List Int) (i : Nat), i < List.length (crnL s (hd0 [x + 1]) l) → (if decide (l = [sdA s x]) = true then if decide (i < List.length (crnL s (hd0 [x]) [sdA s x])) = true then List.getD (crnL s (hd0 [x]) [sdA s x]) i (0:Int) else sdD s x else List.getD (crnL s (hd0 [x]) l) i (0:Int)) = List.getD (crnL s (hd0 [x + 1]) l) i (0:Int)) :: ((∀ (l : List Int), (if l = [mn (sdA s x) (sdB s x), mx (sdA s x) (sdB s x)] then List.length (sidL s (hd0 [x]) [mn (sdA s x) (sdB s x), mx (sdA s x) (sdB s x)]) + 1 else List.length (sidL s (hd0 [x]) l)) = List.length (sidL s (hd0 [x + 1]) l)) :: ((∀ (l : List Int) (i : Nat), i < List.length (sidL s (hd0 [x + 1]) l) → (if decide (l = [mn (sdA s x) (sdB s x), mx (sdA s x) (sdB s x)]) = true then if decide (i < List.length (sidL s (hd0 [x]) [mn (sdA s x) (sdB s x), mx (sdA s x) (sdB s x)])) = true then List.getD (sidL s (hd0 [x]) [mn (sdA s x) (sdB s x), mx (sdA s x) (sdB s x)]) i (0:Int) else sdD s x else List.getD (sidL s (hd0 [x]) l) i (0:Int)) = List.getD (sidL s (hd0 [x + 1]) l) i (0:Int)) :: (Reached_cr0 s (Reached_cr0 s [∀ (l : List Int), atH s (rdN s) l = atH s (rdN s) l, ∀ (l : List Int), atH s (rdN s) l = true → atL s (rdN s) l = atL s (rdN s) l, True]))))))))))))))))) (by kernel_rfl) ?_
  simp only [VT.holds, AllT, Reached_cd0, Reached_cr0, Reached_cr1, Reached_cr2, Sq, hd0_one]
  refine ⟨read_c s, fun h => ?_, fun h0 => ⟨?_, ?_, fun _ _ => ⟨?_, Nat.zero_le _, fun i hi => ⟨fun hlt => ?_, fun hge => ?_⟩⟩, fun i hi => ?_⟩⟩
  · rw [rchN, if_neg h]
  · rw [rdN_ok h0]; exact feet_c s (chk_facts h0)
  · rw [rdN_ok h0]; exact sides_s s (chk_facts h0)
  · exact ⟨rfl, fun _ => rfl, fun _ _ _ => rfl, fun _ => rfl, fun _ _ _ => rfl⟩
  · have hc := chk_facts h0
    have hm := hc.nM
    have hdk := dkN_le s s.nM
    have hn : nSd s ≤ 16000 := by show 4 * dkN s s.nM ≤ 16000; omega
    have hlt : i < s.nM := by omega
    obtain ⟨hA, hB⟩ := hc.ends i hlt
    have zA := inC_bd (hc.node (s.A i).toNat (by omega)).1.2.2
    have zB := inC_bd (hc.node (s.B i).toNat (by omega)).1.2.2
    have b1 := nxt_len hn i [s.A i]
    have b2 := crn_len (s := s) [s.A i] (nSd s)
    have b3 := crn_len (s := s) [s.B i] (nSd s)
    have b4 := que_len hn i
    have b5 := up_le (nxt_len hn i) (k := [s.A i]) (v := crnL s (nSd s) [s.B i]) (c := 16000) (by omega) [s.B i]
    have i64 : i64In ((i : Int) + 1) := by unfold i64In; omega
    refine ⟨by omega, ⟨fun _ => hB, fun _ => hA, fun _ => by unfold i64In; omega⟩, fun h => ?_, fun h => ⟨hA, fun hf => ?_, fun hf => ?_⟩⟩
    · have hl : ¬ ladP s i = true := by
        unfold ladP
        rw [Bool.and_eq_true, decide_eq_true_eq, decide_eq_true_eq]
        omega
      have hq := que_no (s := s) (i := i) fun h' => hl h'.1
      exact ⟨i64, by omega, by rw [hq], by rw [hq], fun j _ => by rw [hq], fun l => by rw [nxt_no hl], fun l j _ => by rw [nxt_no hl], by omega, by omega⟩
    · have hl : ladP s i = true := by
        unfold ladP
        rw [Bool.and_eq_true, decide_eq_true_eq, decide_eq_true_eq]
        omega
      have hq := que_yes hl hf
      exact ⟨⟨Nat.le_refl _, by omega⟩, ⟨by omega, Nat.le_refl _⟩, ⟨by rw [up_len (nxtL s i) [s.A i] (crnL s (nSd s) [s.B i]) [s.B i]]; omega, Nat.le_refl _⟩, i64, by omega, by rw [hq, List.length_append], by rw [hq, List.length_append], fun j _ => by rw [hq, getD_app], fun l => by rw [nxt_yes hl, up_len (nxtL s i) [s.A i] (crnL s (nSd s) [s.B i]) [s.B i], up_len (nxtL s i) [s.A i] (crnL s (nSd s) [s.B i]) l, up_len _ [s.B i] (crnL s (nSd s) [s.A i]) l], fun l j hj => by rw [nxt_yes hl, up_len (nxtL s i) [s.A i] (crnL s (nSd s) [s.B i]) [s.B i], up_get (nxtL s i) [s.A i] (crnL s (nSd s) [s.B i]) [s.B i] j, up_get (nxtL s i) [s.A i] (crnL s (nSd s) [s.B i]) l j, up_get _ [s.B i] (crnL s (nSd s) [s.A i]) l j], by omega, by omega⟩
    · have hl : ladP s i = true := by
        unfold ladP
        rw [Bool.and_eq_true, decide_eq_true_eq, decide_eq_true_eq]
        omega
      have hq := que_no (s := s) (i := i) fun h' => by rw [hf] at h'; cases h'.2
      exact ⟨⟨by omega, Nat.le_refl _⟩, ⟨by rw [up_len (nxtL s i) [s.A i] (crnL s (nSd s) [s.B i]) [s.B i]]; omega, Nat.le_refl _⟩, i64, by omega, by rw [hq], by rw [hq], fun j _ => by rw [hq], fun l => by rw [nxt_yes hl, up_len (nxtL s i) [s.A i] (crnL s (nSd s) [s.B i]) [s.B i], up_len (nxtL s i) [s.A i] (crnL s (nSd s) [s.B i]) l, up_len _ [s.B i] (crnL s (nSd s) [s.A i]) l], fun l j hj => by rw [nxt_yes hl, up_len (nxtL s i) [s.A i] (crnL s (nSd s) [s.B i]) [s.B i], up_get (nxtL s i) [s.A i] (crnL s (nSd s) [s.B i]) [s.B i] j, up_get (nxtL s i) [s.A i] (crnL s (nSd s) [s.B i]) l j, up_get _ [s.B i] (crnL s (nSd s) [s.A i]) l j], by omega, by omega⟩
  · have hc := chk_facts h0
    have hm := hc.nM
    have hdk := dkN_le s s.nM
    have hn : nSd s ≤ 16000 := by show 4 * dkN s s.nM ≤ 16000; omega
    obtain rfl : i = s.nM := by omega
    have e0 : addN 0 0 = 0 := rfl
    have e1 : Int.toNat 1 = 1 := rfl
    simp only [e0, e1]
    have hT1 : pot s (fun _ => false) s.nM ≤ 2048256004000 := Nat.le_trans (pot_le hn hm _) (by decide)
    have hT2 := que_len hn s.nM
    refine ⟨⟨fun _ => by first | rfl | trivial, fun _ _ _ => by first | rfl | trivial⟩, inv_start, fun ⟨n, c, has⟩ hI => ?_⟩
    dsimp only at hI ⊢
    have hb := hI.b
    refine ⟨fun hn0 => ⟨⟨⟨Int.le_refl _, by omega⟩, by omega⟩, fun h1 => ⟨⟨by decide, by omega, Nat.le_refl _⟩, inv_pop hI h1, by omega⟩, fun h1 => ?_⟩, fun hn0 => ?_⟩
    · have h1 : has [c 0] = false := by
        cases e : has [c 0] with
        | false => rfl
        | true => exact absurd (h1 e) (by decide)
      obtain ⟨d, hd, hdm, hdk6, _⟩ := hI.q 0 (by omega)
      obtain ⟨n1, n2, n3⟩ := inv_new hI (by omega) h1
      have hr := hc.right d hdm
      rw [hdk6] at hr
      obtain ⟨hA, hB⟩ := hc.ends d hdm
      have et : (c 0).toNat = d := by omega
      have e4 : endN (s.K d) (s.A d) (s.B d) = 4 := by rw [endN, if_pos hdk6]
      have ex : ∀ j, endX s (s.K d) (s.A d) (s.B d) j = crnD s (c 0) j := fun j => by unfold crnD; rw [endX, if_pos hdk6, et]
      simp only [et, e4, ex]
      refine ⟨⟨by omega, ?_⟩, ⟨by first | rfl | trivial, by first | rfl | trivial, fun _ _ => .inr trivial, by first | rfl | trivial, fun j hj => by rw [tS, if_pos (by omega)]⟩, by omega, fun k hk4 => ⟨fun hlt => ?_, fun hge => ?_⟩⟩
      · rw [rdN_ok h0]
        have := nodes_c s (s.K d) (s.A d) (s.B d) hA hB (fun _ => (rgt6 hr).2)
        simp only [e4, ex] at this
        exact this
      · have hk : k < 4 := by omega
        have et2 : (((k : Int) + 1) % 4).toNat = (k + 1) % 4 := by omega
        simp only [et2]
        have hm1 := adj_mono (s := s) (c 0) (show k + 1 ≤ 4 by omega)
        have hl : (adjK s (c 0) (k + 1)).length = (adjK s (c 0) k).length + (nxtL s s.nM [crnD s (c 0) k]).length + (sidL s (nSd s) [mn (crnD s (c 0) k) (crnD s (c 0) ((k + 1) % 4)), mx (crnD s (c 0) k) (crnD s (c 0) ((k + 1) % 4))]).length := by
          rw [adjK, List.length_append, List.length_append]; omega
        exact ⟨by omega, ⟨Nat.le_refl _, by omega, by unfold i64In; omega, ⟨by omega, by omega⟩, ⟨by omega, by omega⟩, pairOf_c _ _, Nat.le_refl _, by omega⟩, by unfold i64In; omega, by omega, by omega, by omega, fun j _ => by rw [adjK]; exact tS_step _ _ _ _, by omega, by omega⟩
      · obtain rfl : k = 4 := by omega
        exact ⟨⟨by decide, by omega, Nat.le_refl _⟩, n1, n2⟩
    · obtain rfl : n = 0 := by omega
      have hp := inv_end hI
      have hp' : ∀ i : Nat, has [(i : Int)] = rchP s i := fun i => congrFun hp i
      refine ⟨⟨rfl, rfl, rfl⟩, Nat.zero_le _, fun i hi => ⟨fun hlt => ⟨fun h => ?_, fun h => ?_⟩, fun hge => ?_⟩⟩
      · have := flN_le (fun i : Nat => has [(i : Int)]) i
        exact ⟨⟨Nat.le_refl _, by omega, Nat.le_refl _⟩, by unfold i64In; omega, by omega, (flN_yes h).symm, (flN_yes h).symm, fun j hj => flI_yes' (p := fun i : Nat => has [(i : Int)]) h (fun q : Nat => (q : Int)) hj, by omega, by omega⟩
      · have hno : ¬ (fun i : Nat => has [(i : Int)]) i = true := fun h' => absurd (h h') (by decide)
        exact ⟨by unfold i64In; omega, by omega, (flN_no hno).symm, (flN_no hno).symm, fun j _ => by rw [flI_no hno], by omega, by omega⟩
      · obtain rfl : i = s.nM := by omega
        rw [hp]
        exact ⟨Nat.le_refl _, by rw [rchN, if_pos h0], fun _ _ => rfl, h0.symm⟩
  · have hdk := dkN_le s s.nM
    have hm := (chk_facts h0).nM
    have b1 := crn_len (s := s) [sdA s i] i
    have b2 := sid_len (s := s) [mn (sdA s i) (sdB s i), mx (sdA s i) (sdB s i)] i
    exact ⟨⟨by omega, Nat.le_refl _, Nat.le_refl _⟩, ⟨pairOf_c _ _, pairOf_c _ _, by omega, Nat.le_refl _, Nat.le_refl _⟩, crn_step i, crn_getd i, sid_step i, sid_getd i⟩
end Go.Abs
