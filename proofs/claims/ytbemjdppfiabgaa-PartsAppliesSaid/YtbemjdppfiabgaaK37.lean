/- Contracts. Contracts. Contracts. -/
import Derived.Test.YtbemjdppfiabgaaK33
import Derived.Test.YtbemjdppfiabgaaK12
section
section
set_option linter.unusedVariables false
set_option linter.unusedSimpArgs false
set_option maxRecDepth 100000
namespace Go.Abs
open Go
/-- Sorted insertion is sorting. -/
theorem wN_sorted {e : List Int} : ∀ {L : List (List Int)}, L.Pairwise (fun a b => leB a b = true) → (wN L e).Pairwise (fun a b => leB a b = true)
  | [], _ => by rw [wN]; exact List.pairwise_singleton _ _
  | x :: r, h => by
    have hx := (List.pairwise_cons.1 h).1
    have hr := (List.pairwise_cons.1 h).2
    rw [wN]
    by_cases h1 : lexB x e = true
    · rw [if_pos h1, List.pairwise_cons]
      refine ⟨fun y hy => (mem_wN.1 hy).elim (hx y) fun e2 => ?_, wN_sorted hr⟩
      rw [e2, leB, lexB_asym h1]; rfl
    · rw [if_neg h1]
      by_cases h2 : x = e
      · rw [if_pos h2]; exact h
      · rw [if_neg h2, List.pairwise_cons]
        have he : leB e x = true := by unfold leB; rw [Bool.not_eq_true] at h1; rw [h1]; rfl
        refine ⟨fun y hy => ?_, h⟩
        rcases List.mem_cons.1 hy with hy | hy
        · rw [hy]; exact he
        · exact leB_trans _ _ _ he (hx y hy)
theorem wN_has {e : List Int} : ∀ {L : List (List Int)}, L.Pairwise (fun a b => leB a b = true) → e ∈ L → wN L e = L
  | x :: r, h, hm => by
    have hx := (List.pairwise_cons.1 h).1
    have hr := (List.pairwise_cons.1 h).2
    rw [wN]
    by_cases h1 : lexB x e = true
    · have : e ∈ r := (List.mem_cons.1 hm).elim (fun h2 => by rw [h2, lexB_irr] at h1; cases h1) id
      rw [if_pos h1, wN_has hr this]
    · rw [if_neg h1]
      by_cases h2 : x = e
      · rw [if_pos h2]
      · have h3 : e ∈ r := (List.mem_cons.1 hm).elim (fun h3 => absurd h3.symm h2) id
        have h4 := hx e h3
        unfold leB at h4
        have h5 : lexB e x = false := by simpa using h4
        exact absurd (lexB_tot (by simpa using h1) h5) h2
theorem wN_perm {e : List Int} : ∀ {L : List (List Int)}, e ∉ L → (wN L e).Perm (L ++ [e])
  | [], _ => List.Perm.refl _
  | x :: r, h => by
    rw [wN]
    by_cases h1 : lexB x e = true
    · rw [if_pos h1, List.cons_append]
      exact (wN_perm fun h2 => h (List.mem_cons_of_mem _ h2)).cons x
    · rw [if_neg h1, if_neg (fun h2 => h (by rw [h2]; exact List.mem_cons_self))]
      exact (List.perm_append_singleton e (x :: r)).symm
theorem wN_srt (L : List (List Int)) (e : List Int) : wN (srt L) e = srt (addU L e) := by
  refine srt_is ?_ (wN_sorted (srt_sorted L))
  unfold addU
  by_cases h : e ∈ L
  · rw [if_pos h, wN_has (srt_sorted L) (mem_srt.2 h)]; exact srt_perm L
  · rw [if_neg h]
    exact (wN_perm fun h2 => h (mem_srt.1 h2)).trans ((srt_perm L).append_right _)
theorem wE_srt (L : List (List Int)) (x : List Int) : ∀ j, wE (srt L) x j = srt (ndE L x j)
  | 0 => rfl
  | j + 1 => by rw [wE, wE_srt L x j, wN_srt]; rfl
theorem wA_srt (l : List (List Int)) : ∀ i, wA l i = srt (ndA l i)
  | 0 => by rw [wA, ndA, srt]; simp
  | i + 1 => by rw [wA, wA_srt l i, wE_srt]; rfl
theorem wA_nd (l : List (List Int)) : wA l l.length = ndS l := wA_srt l l.length
/-- A node of the list, at its place. -/
theorem ndS_ix {l : List (List Int)} {q : List Int} (h : q ∈ ndS l) (c : Nat) : col (ndS l) c ((ndS l).idxOf q) = q.getD c 0 := by
  have hi := List.idxOf_lt_length_iff.2 h
  have e : (ndS l).getD ((ndS l).idxOf q) [] = q := by
    have := List.getElem_idxOf hi
    simp [hi]
  rw [col, e]
theorem nIx_is {l : List (List Int)} {q : List Int} (h : q ∈ ndS l) : nIx (ndS l) q = ixS l q := by
  have hi := List.idxOf_lt_length_iff.2 h
  refine nAt_at (i := (ndS l).idxOf q) (fun j hj ⟨a, b, c⟩ => ?_) ⟨ndS_ix h 0, ndS_ix h 1, ndS_ix h 2⟩ hi
  have hj2 : j < (ndS l).length := by omega
  obtain ⟨x, y, z, e⟩ := ndA_three q (mem_srt.1 h)
  have e1 := ndS_at hj2
  have e2 : (ndS l)[j] = q := by
    rw [← e1, e]
    rw [e] at a b c
    exact congr (congrArg List.cons a) (congr (congrArg List.cons b) (congrArg (fun z => [z]) c))
  have := (ndS_nodup l).idxOf_getElem j hj2
  rw [e2] at this
  omega
theorem frP_mem {l : List (List Int)} {i : Nat} (hi : i < l.length) : frP (l.getD i []) ∈ ndS l := mem_ndS.2 ⟨i, hi, 0, by have := (edN_le (l.getD i [])).1; omega, rfl⟩
theorem toP_mem {l : List (List Int)} {i : Nat} (hi : i < l.length) : toP (l.getD i []) ∈ ndS l := mem_ndS.2 ⟨i, hi, 1, by have := (edN_le (l.getD i [])).1; omega, rfl⟩
end Go.Abs
end
section
set_option linter.unusedVariables false
set_option linter.unusedSimpArgs false
set_option maxRecDepth 100000
namespace Go.Abs
open Go
section
variable {s : Scf}
theorem node_inj (hc : ScfOK s) {i j : Nat} (hi : i < s.nN) (hj : j < s.nN) (hx : s.X i = s.X j) (hy : s.Y i = s.Y j) (hz : s.Z i = s.Z j) : i = j := by
  rcases Nat.lt_trichotomy i j with h | h | h
  · exact absurd ⟨hx, hy, hz⟩ (nAt_no (hc.node j hj).2 i h)
  · exact h
  · exact absurd ⟨hx.symm, hy.symm, hz.symm⟩ (nAt_no (hc.node i hi).2 j h)
theorem plc_inj (hc : ScfOK s) {i j : Nat} (hi : i < s.nM) (hj : j < s.nM) (h : plc s i = plc s j) : i = j := by
  unfold plc at h
  injection h with h0 h; injection h with h1 h; injection h with h2 h; injection h with h3 h; injection h with h4 h; injection h with h5 h; injection h with h6 h
  obtain ⟨a1, b1⟩ := hc.ends i hi
  obtain ⟨a2, b2⟩ := hc.ends j hj
  have ea := node_inj hc (by omega) (by omega) h1 h2 h3
  have eb := node_inj hc (by omega) (by omega) h4 h5 h6
  have ea : s.A i = s.A j := by omega
  have eb : s.B i = s.B j := by omega
  rcases Nat.lt_trichotomy i j with h | h | h
  · exact absurd (by rw [h0, ea, eb]) (seen_iff.1 (hc.seen j hj) i h)
  · exact h
  · exact absurd (by rw [h0, ea, eb]) (seen_iff.1 (hc.seen i hi) j h)
theorem lsOf_nodup {n : Nat} {A : Nat → List Int} (h : ∀ i j, i < n → j < n → A i = A j → i = j) : (lsOf n A).Nodup := by
  rw [List.Nodup, List.pairwise_iff_getElem]
  intro i j hi hj hij e
  rw [lsOf_len] at hi hj
  simp only [lsOf, List.getElem_map, List.getElem_range] at e
  have := h i j hi hj e
  omega
theorem pls_nodup (hc : ScfOK s) : (pls s).Nodup := (srt_perm _).nodup_iff.2 (lsOf_nodup fun i j hi hj h => plc_inj hc hi hj h)
theorem pls_seven (s : Scf) : ∀ x ∈ pls s, x.length = 7 := fun x hx => plL_seven s x (mem_srt.1 hx)
end
end Go.Abs
end
end
section
set_option linter.unusedVariables false
set_option linter.unusedSimpArgs false
set_option maxRecDepth 100000
namespace Go.Abs
open Go
/-- A contract's answer, told of in another way. -/
theorem FnC_mono {P : Program} {f : FuncId} {args : List DV} {d d' : DV} (hd : ∀ rd v, RelC rd d v → RelC rd d' v) (h : FnC P f args d) : FnC P f args d' :=
  ⟨h.1, fun S w vs h1 h2 h3 => Calls.mono (h.2 S w vs h1 h2 h3) fun _ _ ⟨v, a, b, c⟩ => ⟨v, a, hd _ _ b, c⟩⟩
theorem lst_congr {rd : Rd} {n : Nat} {cols cols' : List (Nat → DV)} {v : Value} (hl : cols'.length = cols.length) (hc : ∀ (i j : Nat) f', i < n → cols'[j]? = some f' → ∃ f, cols[j]? = some f ∧ f i = f' i) (h : RelC rd (.lst n cols) v) : RelC rd (.lst n cols') v := by
  cases h with
  | lst U hn ha hz ho hr =>
    refine .lst U hn (fun i j f' hi hj => ?_) hz (fun i j f' hi hj => ?_) fun i j f' hi hj => ?_
    · obtain ⟨f, e, _⟩ := hc i j f' hi hj
      rw [hl]; exact ha i j f hi e
    · obtain ⟨f, e, _⟩ := hc i j f' hi hj
      exact ho i j f hi e
    · obtain ⟨f, e, e2⟩ := hc i j f' hi hj
      rw [← e2]; exact hr i j f hi e
theorem lst3_congr {rd : Rd} {n m : Nat} {a b c a' b' c' : Nat → Int} {v : Value} (hn : n = m) (h : ∀ i, i < n → a i = a' i ∧ b i = b' i ∧ c i = c' i) (hr : RelC rd (.lst n [fun j => dI (a j), fun j => dI (b j), fun j => dI (c j)]) v) : RelC rd (.lst m [fun j => dI (a' j), fun j => dI (b' j), fun j => dI (c' j)]) v := by
  subst hn
  refine lst_congr (cols := [fun j => dI (a j), fun j => dI (b j), fun j => dI (c j)]) rfl (fun i j f' hi hj => ?_) hr
  obtain ⟨h0, h1, h2⟩ := h i hi
  match j, hj with
  | 0, hj => cases hj; exact ⟨fun j => dI (a j), rfl, by show dI (a i) = dI (a' i); rw [h0]⟩
  | 1, hj => cases hj; exact ⟨fun j => dI (b j), rfl, by show dI (b i) = dI (b' i); rw [h1]⟩
  | 2, hj => cases hj; exact ⟨fun j => dI (c j), rfl, by show dI (c i) = dI (c' i); rw [h2]⟩
  | j + 3, hj => cases hj
theorem scf_congr {s t : Scf} (h : sameS s t = true) (rd : Rd) (v : Value) (hr : RelC rd (scfD s) v) : RelC rd (scfD t) v := by
  obtain ⟨⟨h1, h2⟩, h3, h4⟩ := of_decide_eq_true h
  cases hr with
  | agg hs hf =>
    refine .agg hs fun j d u hd hu => ?_
    match j, hd with
    | 0, hd => cases hd; exact lst3_congr h1 h3 (hf 0 _ u rfl hu)
    | 1, hd => cases hd; exact lst3_congr h2 h4 (hf 1 _ u rfl hu)
    | j + 2, hd => cases hd
/-- A list without a place; with the removed ones away; with the added ones; whether all are there, or none is. -/
def dlL (L : List (List Int)) (q : List Int) : List (List Int) := L.filter fun p => !decide (p = q)
def rmL (l : List (List Int)) (R : Nat → List Int) : Nat → List (List Int)
  | 0 => l
  | j + 1 => dlL (rmL l R j) (R j)
def adL (l : List (List Int)) (A : Nat → List Int) : Nat → List (List Int)
  | 0 => l
  | j + 1 => adL l A j ++ [A j]
def rmK (l : List (List Int)) (R : Nat → List Int) : Nat → Bool
  | 0 => true
  | j + 1 => rmK l R j && inB (rmL l R j) (R j)
def adK (l : List (List Int)) (A : Nat → List Int) : Nat → Bool
  | 0 => true
  | j + 1 => adK l A j && !inB (adL l A j) (A j)
def sv (A : Nat → Nat → Int) (j : Nat) : List Int := [A 0 j, A 1 j, A 2 j, A 3 j, A 4 j, A 5 j, A 6 j]
def tkL (l : List (List Int)) (i : Nat) : List (List Int) := lsOf i fun j => l.getD j []
theorem tkL_all (l : List (List Int)) : tkL l l.length = l := lsOf_self l fun _ _ => rfl
theorem inB_iff {L : List (List Int)} {q : List Int} : inB L q = true ↔ q ∈ L := decide_eq_true_iff
theorem mem_dlL {L : List (List Int)} {q p : List Int} : p ∈ dlL L q ↔ p ∈ L ∧ p ≠ q := by simp [dlL]
theorem inB_dlL (L : List (List Int)) (q p : List Int) : inB (dlL L q) p = (inB L p && !decide (p = q)) := by
  rw [Bool.eq_iff_iff, inB_iff, mem_dlL, Bool.and_eq_true, inB_iff]
  simp
theorem rmK_lt {l : List (List Int)} {R : Nat → List Int} : ∀ {n i : Nat}, rmK l R n = true → i ≤ n → rmK l R i = true
  | 0, i, h, hi => by obtain rfl : i = 0 := by omega
                      exact h
  | n + 1, i, h, hi => by
    by_cases e : i = n + 1
    · rw [e]; exact h
    · rw [rmK, Bool.and_eq_true] at h
      exact rmK_lt h.1 (by omega)
theorem rmK_no {l : List (List Int)} {R : Nat → List Int} {n i : Nat} (hi : i < n) (h : inB (rmL l R i) (R i) = false) : rmK l R n = false := by
  cases e : rmK l R n with
  | false => rfl
  | true =>
    have := rmK_lt (i := i + 1) e hi
    rw [rmK, h, Bool.and_false] at this
    cases this
theorem adK_lt {l : List (List Int)} {A : Nat → List Int} : ∀ {n i : Nat}, adK l A n = true → i ≤ n → adK l A i = true
  | 0, i, h, hi => by obtain rfl : i = 0 := by omega
                      exact h
  | n + 1, i, h, hi => by
    by_cases e : i = n + 1
    · rw [e]; exact h
    · rw [adK, Bool.and_eq_true] at h
      exact adK_lt h.1 (by omega)
theorem adK_no {l : List (List Int)} {A : Nat → List Int} {n i : Nat} (hi : i < n) (h : inB (adL l A i) (A i) = true) : adK l A n = false := by
  cases e : adK l A n with
  | false => rfl
  | true =>
    have := adK_lt (i := i + 1) e hi
    rw [adK, h, Bool.not_true, Bool.and_false] at this
    cases this
theorem rmL_nodup {l : List (List Int)} (h : l.Nodup) (R : Nat → List Int) : ∀ n, (rmL l R n).Nodup
  | 0 => h
  | n + 1 => (rmL_nodup h R n).filter _
theorem adL_nodup {l : List (List Int)} (h : l.Nodup) {A : Nat → List Int} : ∀ {n}, adK l A n = true → (adL l A n).Nodup
  | 0, _ => h
  | n + 1, hk => by
    rw [adK, Bool.and_eq_true] at hk
    rw [adL, List.nodup_append]
    refine ⟨adL_nodup h hk.1, by simp, fun a ha b hb e => ?_⟩
    have h2 : inB (adL l A n) (A n) = false := by simpa using hk.2
    rw [List.mem_singleton] at hb
    rw [← hb, ← e, inB, decide_eq_true ha] at h2
    cases h2
theorem dlL_len (L : List (List Int)) (q : List Int) : (dlL L q).length ≤ L.length := List.length_filter_le _ _
theorem rmL_len (l : List (List Int)) (R : Nat → List Int) : ∀ n, (rmL l R n).length ≤ l.length
  | 0 => Nat.le_refl _
  | n + 1 => Nat.le_trans (dlL_len _ _) (rmL_len l R n)
theorem adL_len (l : List (List Int)) (A : Nat → List Int) : ∀ n, (adL l A n).length = l.length + n
  | 0 => rfl
  | n + 1 => by rw [adL, List.length_append, adL_len l A n]; rfl
theorem rmL_seven {l : List (List Int)} (h : ∀ x ∈ l, x.length = 7) (R : Nat → List Int) : ∀ n, ∀ x ∈ rmL l R n, x.length = 7
  | 0 => h
  | n + 1 => fun x hx => rmL_seven h R n x (mem_dlL.1 hx).1
theorem adL_seven {l : List (List Int)} (h : ∀ x ∈ l, x.length = 7) (A : Nat → Nat → Int) : ∀ n, ∀ x ∈ adL l (sv A) n, x.length = 7
  | 0 => h
  | n + 1 => fun x hx => by
    rw [adL, List.mem_append, List.mem_singleton] at hx
    exact hx.elim (adL_seven h A n x) fun e => by rw [e]; rfl
/-- The places behind a change; the error; the scaffold. -/
def apL (s : Scf) (nA : Nat) (A : Nat → Nat → Int) (nR : Nat) (R : Nat → Nat → Int) : List (List Int) := adL (rmL (pls s) (sv R) nR) (sv A) nA
def apX (s : Scf) (nA : Nat) (A : Nat → Nat → Int) (nR : Nat) (R : Nat → Nat → Int) : Int := if rmK (pls s) (sv R) nR = false then 6 else if adK (rmL (pls s) (sv R) nR) (sv A) nA = false then 5 else chkE (bldS (srt (apL s nA A nR R)))
def apE (s : Scf) (nA : Nat) (A : Nat → Nat → Int) (nR : Nat) (R : Nat → Nat → Int) : Int := if chkE s = 0 then apX s nA A nR R else chkE s
def apS (s : Scf) (nA : Nat) (A : Nat → Nat → Int) (nR : Nat) (R : Nat → Nat → Int) : Scf := if apE s nA A nR R = 0 then bldS (srt (apL s nA A nR R)) else zeroS
theorem apE_chk {s : Scf} {nA : Nat} {A : Nat → Nat → Int} {nR : Nat} {R : Nat → Nat → Int} (h : ¬ chkE s = 0) : apE s nA A nR R = chkE s ∧ apS s nA A nR R = zeroS := by
  have e : apE s nA A nR R = chkE s := if_neg h
  exact ⟨e, by rw [apS, e, if_neg h]⟩
theorem apE_rm {s : Scf} {nA : Nat} {A : Nat → Nat → Int} {nR : Nat} {R : Nat → Nat → Int} (h : chkE s = 0) (hr : rmK (pls s) (sv R) nR = false) : apE s nA A nR R = 6 ∧ apS s nA A nR R = zeroS := by
  have e : apE s nA A nR R = 6 := by rw [apE, if_pos h, apX, if_pos hr]
  exact ⟨e, by rw [apS, e, if_neg (by decide)]⟩
theorem apE_ad {s : Scf} {nA : Nat} {A : Nat → Nat → Int} {nR : Nat} {R : Nat → Nat → Int} (h : chkE s = 0) (hr : rmK (pls s) (sv R) nR = true) (ha : adK (rmL (pls s) (sv R) nR) (sv A) nA = false) : apE s nA A nR R = 5 ∧ apS s nA A nR R = zeroS := by
  have e : apE s nA A nR R = 5 := by rw [apE, if_pos h, apX, if_neg (by rw [hr]; decide), if_pos ha]
  exact ⟨e, by rw [apS, e, if_neg (by decide)]⟩
theorem apE_go {s : Scf} {nA : Nat} {A : Nat → Nat → Int} {nR : Nat} {R : Nat → Nat → Int} (h : chkE s = 0) (hr : rmK (pls s) (sv R) nR = true) (ha : adK (rmL (pls s) (sv R) nR) (sv A) nA = true) : apE s nA A nR R = chkE (bldS (srt (apL s nA A nR R))) := by
  rw [apE, if_pos h, apX, if_neg (by rw [hr]; decide), if_neg (by rw [ha]; decide)]
/-- The keys of the map, in order. -/
theorem keys_srt {L l : List (List Int)} (hL : L.Nodup) (hl : l.Nodup) (h : ∀ q, inB l q = true ↔ q ∈ L) : srt L = srt l :=
  srt_congr ((List.perm_ext_iff_of_nodup hL hl).2 fun q => ((h q).symm.trans inB_iff))
/-- A list with equal members has the same nodes. -/
theorem ndS_srt (l : List (List Int)) : ndS (srt l) = ndS l := by
  have hm : ∀ i, (∃ j, j < l.length ∧ l.getD j [] = (srt l).getD i []) ∨ ¬ i < (srt l).length := fun i => by
    by_cases hi : i < (srt l).length
    · left
      have h1 : (srt l)[i] ∈ l := mem_srt.1 (List.getElem_mem hi)
      obtain ⟨j, hj, e⟩ := List.getElem_of_mem h1
      exact ⟨j, hj, by simp [hi, hj, e]⟩
    · exact .inr hi
  have hm2 : ∀ j, j < l.length → ∃ i, i < (srt l).length ∧ (srt l).getD i [] = l.getD j [] := fun j hj => by
    have h1 : l[j] ∈ srt l := mem_srt.2 (List.getElem_mem hj)
    obtain ⟨i, hi, e⟩ := List.getElem_of_mem h1
    exact ⟨i, hi, by simp [hi, hj, e]⟩
  refine srt_congr ((List.perm_ext_iff_of_nodup (ndA_nodup _ _) (ndA_nodup _ _)).2 fun q => ?_)
  rw [mem_ndA, mem_ndA]
  constructor
  · rintro ⟨i, hi, k, hk, e⟩
    obtain ⟨j, hj, e2⟩ := (hm i).resolve_right (fun h => h hi)
    exact ⟨j, hj, k, by rw [e2]; exact hk, by rw [e2]; exact e⟩
  · rintro ⟨j, hj, k, hk, e⟩
    obtain ⟨i, hi, e2⟩ := hm2 j hj
    exact ⟨i, hi, k, by rw [e2]; exact hk, by rw [e2]; exact e⟩
/-- The specification builds the same scaffold, whatever the order. -/
theorem rb_srt (l : List (List Int)) : sameS (rbS l) (bldS (srt l)) = true := by
  have e : wA l l.length = ndS (srt l) := (wA_nd l).trans (ndS_srt l).symm
  refine decide_eq_true ⟨⟨?_, (srt_len l).symm⟩, fun j _ => ⟨?_, ?_, ?_⟩, fun j hj => ⟨rfl, ?_, ?_⟩⟩
  · show (wA l l.length).length = (ndS (srt l)).length; rw [e]
  · show col (wA l l.length) 0 j = col (ndS (srt l)) 0 j; rw [e]
  · show col (wA l l.length) 1 j = col (ndS (srt l)) 1 j; rw [e]
  · show col (wA l l.length) 2 j = col (ndS (srt l)) 2 j; rw [e]
  · have hj : j < (srt l).length := by rw [srt_len]; exact hj
    show nIx (wA l l.length) (frP ((srt l).getD j [])) = ixS (srt l) (frP ((srt l).getD j [])); rw [e, nIx_is (frP_mem hj)]
  · have hj : j < (srt l).length := by rw [srt_len]; exact hj
    show nIx (wA l l.length) (toP ((srt l).getD j [])) = ixS (srt l) (toP ((srt l).getD j [])); rw [e, nIx_is (toP_mem hj)]
theorem buildS_c (l : List (List Int)) (hl : l.length ≤ 4000) (h7 : ∀ e ∈ l, e.length = 7) : FnC prog 117 [.lst l.length (cols7 l)] (scfD (bldS (srt l))) :=
  FnC_mono (scf_congr (rb_srt l)) (build_c l hl h7)
/-- The places of a list that another one has not. -/
def woL (l m : List (List Int)) : List (List Int) := l.filter fun p => !inB m p
end Go.Abs
end
