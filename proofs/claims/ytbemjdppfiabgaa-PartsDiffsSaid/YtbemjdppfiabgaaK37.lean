/- Contracts. Contracts. Contracts. -/
import Derived.Test.YtbemjdppfiabgaaK33
import Derived.Test.YtbemjdppfiabgaaK12
section
section
set_option linter.unusedVariables false
set_option linter.unusedSimpArgs false
set_option maxRecDepth 100000
namespace Go.Abs
open Go
/-- A node of the list, at its place. -/
theorem ndS_ix {l : List (List Int)} {q : List Int} (h : q ∈ ndS l) (c : Nat) : col (ndS l) c ((ndS l).idxOf q) = q.getD c 0 := by
  have hi := List.idxOf_lt_length_iff.2 h
  have e : (ndS l).getD ((ndS l).idxOf q) [] = q := by
    have := List.getElem_idxOf hi
    simp [hi]
  rw [col, e]
theorem nIx_is {l : List (List Int)} {q : List Int} (h : q ∈ ndS l) : nIx (ndS l) q = ixS l q := by
  have hi := List.idxOf_lt_length_iff.2 h
  refine nAt_at (i := (ndS l).idxOf q) (fun j hj ⟨a, b, c⟩ => ?_) ⟨ndS_ix h 0, ndS_ix h 1, ndS_ix h 2⟩ hi
  have hj2 : j < (ndS l).length := by omega
  obtain ⟨x, y, z, e⟩ := ndA_three q (mem_srt.1 h)
  have e1 := ndS_at hj2
  have e2 : (ndS l)[j] = q := by
    rw [← e1, e]
    rw [e] at a b c
    exact congr (congrArg List.cons a) (congr (congrArg List.cons b) (congrArg (fun z => [z]) c))
  have := (ndS_nodup l).idxOf_getElem j hj2
  rw [e2] at this
  omega
theorem frP_mem {l : List (List Int)} {i : Nat} (hi : i < l.length) : frP (l.getD i []) ∈ ndS l := mem_ndS.2 ⟨i, hi, 0, by have := (edN_le (l.getD i [])).1; omega, rfl⟩
theorem toP_mem {l : List (List Int)} {i : Nat} (hi : i < l.length) : toP (l.getD i []) ∈ ndS l := mem_ndS.2 ⟨i, hi, 1, by have := (edN_le (l.getD i [])).1; omega, rfl⟩
end Go.Abs
end
section
set_option linter.unusedVariables false
set_option linter.unusedSimpArgs false
set_option maxRecDepth 100000
namespace Go.Abs
open Go
section
variable {s : Scf}
theorem nAt_has {x y z : Int} : ∀ {n : Nat}, 0 ≤ nAt s n x y z → s.X (nAt s n x y z).toNat = x ∧ s.Y (nAt s n x y z).toNat = y ∧ s.Z (nAt s n x y z).toNat = z
  | 0, h => absurd h (by show ¬ (0:Int) ≤ -1; decide)
  | n + 1, h => by
    rw [nAt] at h ⊢
    split
    · rename_i h1; exact nAt_has h1
    · rename_i h1
      rw [if_neg h1] at h
      split
      · rename_i h2; simpa using h2
      · rename_i h2; rw [if_neg h2] at h; exact absurd h (by decide)
theorem node_inj (hc : ScfOK s) {i j : Nat} (hi : i < s.nN) (hj : j < s.nN) (hx : s.X i = s.X j) (hy : s.Y i = s.Y j) (hz : s.Z i = s.Z j) : i = j := by
  rcases Nat.lt_trichotomy i j with h | h | h
  · exact absurd ⟨hx, hy, hz⟩ (nAt_no (hc.node j hj).2 i h)
  · exact h
  · exact absurd ⟨hx.symm, hy.symm, hz.symm⟩ (nAt_no (hc.node i hi).2 j h)
theorem plc_inj (hc : ScfOK s) {i j : Nat} (hi : i < s.nM) (hj : j < s.nM) (h : plc s i = plc s j) : i = j := by
  unfold plc at h
  injection h with h0 h; injection h with h1 h; injection h with h2 h; injection h with h3 h; injection h with h4 h; injection h with h5 h; injection h with h6 h
  obtain ⟨a1, b1⟩ := hc.ends i hi
  obtain ⟨a2, b2⟩ := hc.ends j hj
  have ea := node_inj hc (by omega) (by omega) h1 h2 h3
  have eb := node_inj hc (by omega) (by omega) h4 h5 h6
  have ea : s.A i = s.A j := by omega
  have eb : s.B i = s.B j := by omega
  rcases Nat.lt_trichotomy i j with h | h | h
  · exact absurd (by rw [h0, ea, eb]) (seen_iff.1 (hc.seen j hj) i h)
  · exact h
  · exact absurd (by rw [h0, ea, eb]) (seen_iff.1 (hc.seen i hi) j h)
theorem lsOf_nodup {n : Nat} {A : Nat → List Int} (h : ∀ i j, i < n → j < n → A i = A j → i = j) : (lsOf n A).Nodup := by
  rw [List.Nodup, List.pairwise_iff_getElem]
  intro i j hi hj hij e
  rw [lsOf_len] at hi hj
  simp only [lsOf, List.getElem_map, List.getElem_range] at e
  have := h i j hi hj e
  omega
theorem pls_nodup (hc : ScfOK s) : (pls s).Nodup := (srt_perm _).nodup_iff.2 (lsOf_nodup fun i j hi hj h => plc_inj hc hi hj h)
theorem pls_at {i : Nat} (hi : i < s.nM) : ∃ j, j < s.nM ∧ (pls s).getD i [] = plc s j := by
  have h1 : i < (pls s).length := by rw [pls_len]; exact hi
  have h2 : (pls s)[i] ∈ pls s := List.getElem_mem h1
  obtain ⟨j, hj, e⟩ := mem_lsOf.1 (mem_srt.1 h2)
  exact ⟨j, hj, by rw [e]; simp [h1]⟩
/-- A node of a place is one of the scaffold. -/
theorem edX_node (hc : ScfOK s) {i k : Nat} (hi : i < s.nM) (hk : k < edN (plc s i)) : ∃ n, n < s.nN ∧ edX (plc s i) k = [s.X n, s.Y n, s.Z n] := by
  obtain ⟨hA, hB⟩ := hc.ends i hi
  unfold edX
  by_cases h0 : k = 0
  · rw [if_pos h0]; exact ⟨(s.A i).toNat, by omega, rfl⟩
  · rw [if_neg h0]
    by_cases h1 : k = 1
    · rw [if_pos h1]; exact ⟨(s.B i).toNat, by omega, rfl⟩
    · rw [if_neg h1]
      have h6 : s.K i = 6 := by
        unfold edN at hk
        split at hk
        · rename_i h; exact h
        · omega
      have hr := hc.right i hi
      rw [h6] at hr
      obtain ⟨_, q1, q2⟩ := rgt6 hr
      unfold atH at q1 q2
      have q1 : 0 ≤ nAt s s.nN (s.X (s.B i).toNat) (s.Y (s.A i).toNat) (s.Z (s.A i).toNat) := of_decide_eq_true q1
      have q2 : 0 ≤ nAt s s.nN (s.X (s.A i).toNat) (s.Y (s.B i).toNat) (s.Z (s.A i).toNat) := of_decide_eq_true q2
      have b1 := nAt_bd q1
      have b2 := nAt_bd q2
      have e1 := nAt_has q1
      have e2 := nAt_has q2
      by_cases h2 : k = 2
      · rw [if_pos h2]
        refine ⟨(nAt s s.nN (s.X (s.B i).toNat) (s.Y (s.A i).toNat) (s.Z (s.A i).toNat)).toNat, by omega, ?_⟩
        rw [e1.1, e1.2.1, e1.2.2]; rfl
      · rw [if_neg h2]
        refine ⟨(nAt s s.nN (s.X (s.A i).toNat) (s.Y (s.B i).toNat) (s.Z (s.A i).toNat)).toNat, by omega, ?_⟩
        rw [e2.1, e2.2.1, e2.2.2]; rfl
theorem nd_node (hc : ScfOK s) {q : List Int} (h : q ∈ ndS (pls s)) : ∃ n, n < s.nN ∧ q = [s.X n, s.Y n, s.Z n] := by
  obtain ⟨i, hi, k, hk, e⟩ := mem_ndS.1 h
  rw [pls_len] at hi
  obtain ⟨j, hj, e2⟩ := pls_at hi
  rw [e2] at e hk
  obtain ⟨n, hn, e3⟩ := edX_node hc hj hk
  exact ⟨n, hn, by rw [← e, e3]⟩
theorem geoF_mono {k ax ay az bx by_ bz : Int} {o1 t1 s1 o2 t2 s2 : Bool} (h : geoF k ax ay az bx by_ bz o1 t1 s1 = true) (h6 : k = 6 → o2 = true ∧ t2 = true) (hs : s1 = true → s2 = true) : geoF k ax ay az bx by_ bz o2 t2 s2 = true := by
  unfold geoF at *
  split at h
  · rename_i c; rw [if_pos c]; exact h
  · rename_i c; rw [if_neg c]
    split at h
    · rename_i c; rw [if_pos c]; exact h
    · rename_i c; rw [if_neg c]
      split at h
      · rename_i c; rw [if_pos c]; exact h
      · rename_i c; rw [if_neg c]
        split at h
        · rename_i c; rw [if_pos c]
          obtain ⟨e1, e2⟩ := h6 c
          rw [e1, e2]
          rw [Bool.and_eq_true] at h ⊢
          exact ⟨h.1, rfl⟩
        · rename_i c; rw [if_neg c]; exact hs h
/-- A place of the normal form is that of the list. -/
theorem plc_bld {l : List (List Int)} (h7 : ∀ x ∈ l, x.length = 7) {i : Nat} (hi : i < l.length) : plc (bldS l) i = l.getD i [] := by
  have f := frP_mem hi
  have t := toP_mem hi
  have z : ∀ q, ((ixS l q).toNat) = (ndS l).idxOf q := fun q => Int.toNat_natCast _
  show [col l 0 i, col (ndS l) 0 (ixS l (frP (l.getD i []))).toNat, col (ndS l) 1 (ixS l (frP (l.getD i []))).toNat, col (ndS l) 2 (ixS l (frP (l.getD i []))).toNat, col (ndS l) 0 (ixS l (toP (l.getD i []))).toNat, col (ndS l) 1 (ixS l (toP (l.getD i []))).toNat, col (ndS l) 2 (ixS l (toP (l.getD i []))).toNat] = _
  rw [z, z, ndS_ix f, ndS_ix f, ndS_ix f, ndS_ix t, ndS_ix t, ndS_ix t]
  exact seven_at h7 hi
theorem pls_seven (s : Scf) : ∀ x ∈ pls s, x.length = 7 := fun x hx => plL_seven s x (mem_srt.1 hx)
theorem ix_bd {l : List (List Int)} {q : List Int} (h : q ∈ ndS l) : 0 ≤ ixS l q ∧ ixS l q < ((ndS l).length : Int) := by
  have := List.idxOf_lt_length_iff.2 h
  unfold ixS; omega
theorem ix_inj {l : List (List Int)} {q r : List Int} (hq : q ∈ ndS l) (hr : r ∈ ndS l) (h : ixS l q = ixS l r) : q = r := by
  have e : (ndS l).idxOf q = (ndS l).idxOf r := by unfold ixS at h; omega
  have h1 := List.getElem_idxOf (List.idxOf_lt_length_iff.2 hq)
  have h2 := List.getElem_idxOf (List.idxOf_lt_length_iff.2 hr)
  simp only [e] at h1
  exact h1.symm.trans h2
/-- The normal form is right. -/
theorem chk_bld (hc : ScfOK s) (hm : s.nM ≤ 120) : chkE (bldS (pls s)) = 0 := by
  have hl := pls_len s
  have hn : (ndS (pls s)).length ≤ 480 := by
    have := ndA_len (pls s) (pls s).length
    have := ndS_len (pls s)
    omega
  refine (chk_ok (s := bldS (pls s)) ⟨?_, ?_⟩ (fun i hi => ?_) fun i hi => ?_).symm
  · show ¬ (((ndS (pls s)).length : Nat) : Int) > 1000; omega
  · show ¬ (((pls s).length : Nat) : Int) > 4000; omega
  · have hi : i < (ndS (pls s)).length := hi
    have e := ndS_at hi
    obtain ⟨n, hn, e2⟩ := nd_node hc (List.getElem_mem hi)
    rw [← e] at e2
    injection e2 with e0 e2; injection e2 with e1 e2; injection e2 with e2 _
    have hX := (hc.node n hn).1
    have c1 : (inC ((bldS (pls s)).X i) && (inC ((bldS (pls s)).Y i) && inC ((bldS (pls s)).Z i))) = true := by
      show (inC (col (ndS (pls s)) 0 i) && (inC (col (ndS (pls s)) 1 i) && inC (col (ndS (pls s)) 2 i))) = true
      rw [e0, e1, e2, hX.1, hX.2.1, hX.2.2]; rfl
    have c2 : ¬ 0 ≤ nAt (bldS (pls s)) i ((bldS (pls s)).X i) ((bldS (pls s)).Y i) ((bldS (pls s)).Z i) := fun h => by
      have hb := nAt_bd h
      obtain ⟨a, b, c⟩ := nAt_has h
      have hk : (nAt (bldS (pls s)) i ((bldS (pls s)).X i) ((bldS (pls s)).Y i) ((bldS (pls s)).Z i)).toNat < i := by omega
      generalize (nAt (bldS (pls s)) i ((bldS (pls s)).X i) ((bldS (pls s)).Y i) ((bldS (pls s)).Z i)).toNat = k at a b c hk
      have hk2 : k < (ndS (pls s)).length := by omega
      have e3 := ndS_at hk2
      have a : col (ndS (pls s)) 0 k = col (ndS (pls s)) 0 i := a
      have b : col (ndS (pls s)) 1 k = col (ndS (pls s)) 1 i := b
      have c : col (ndS (pls s)) 2 k = col (ndS (pls s)) 2 i := c
      rw [a, b, c, e] at e3
      have := (List.getElem_inj (ndS_nodup (pls s))).1 e3
      omega
    rw [nodE, if_neg (by rw [c1]; decide), if_neg c2]
  · have hi : i < (pls s).length := hi
    obtain ⟨j, hj, e⟩ := pls_at (s := s) (i := i) (by rw [pls_len] at hi; exact hi)
    have f := frP_mem hi
    have t := toP_mem hi
    obtain ⟨hA, hB⟩ := hc.ends j hj
    have hp := plc_bld (pls_seven s) hi
    rw [e] at hp
    have hp' := hp
    unfold plc at hp
    injection hp with p0 hp; injection hp with p1 hp; injection hp with p2 hp; injection hp with p3 hp; injection hp with p4 hp; injection hp with p5 hp; injection hp with p6 _
    have k1 := hc.kind j hj
    have ea := ix_bd f
    have eb := ix_bd t
    have hr : rgtF (bldS (pls s)) (bldS (pls s)).nN ((bldS (pls s)).K i) ((bldS (pls s)).A i) ((bldS (pls s)).B i) = true := by
      have h := hc.right j hj
      unfold rgtF at h ⊢
      rw [p0, p1, p2, p3, p4, p5, p6]
      refine geoF_mono h (fun h6 => ?_) fun hs => ?_
      · have hcr : ∀ k, k < 4 → ∀ x y z : Int, edX (plc s j) k = [x, y, z] → atH (bldS (pls s)) (bldS (pls s)).nN [x, y, z] = true := fun k hk x y z ex => by
          have hin : [x, y, z] ∈ ndS (pls s) := mem_ndS.2 ⟨i, hi, k, by rw [e, show edN (plc s j) = 4 from if_pos h6]; exact hk, by rw [e, ex]⟩
          have := nIx_is hin
          have hb := ix_bd hin
          have e4 : nAt (bldS (pls s)) (bldS (pls s)).nN x y z = nIx (ndS (pls s)) [x, y, z] := nAt_congr (s := bldS (pls s)) (t := wS (ndS (pls s)) 0) rfl rfl rfl (ndS (pls s)).length x y z
          unfold atH
          refine decide_eq_true ?_
          show 0 ≤ nAt (bldS (pls s)) (bldS (pls s)).nN x y z
          rw [e4, this]; exact hb.1
        exact ⟨hcr 2 (by decide) _ _ _ rfl, hcr 3 (by decide) _ _ _ rfl⟩
      · have hs : s.A j = s.B j := of_decide_eq_true hs
        refine decide_eq_true ?_
        show ixS (pls s) (frP ((pls s).getD i [])) = ixS (pls s) (toP ((pls s).getD i []))
        rw [e]
        have : frP (plc s j) = toP (plc s j) := by unfold frP toP plc; rw [hs]; rfl
        rw [this]
    have hs : seenH (bldS (pls s)) i [(bldS (pls s)).K i, (bldS (pls s)).A i, (bldS (pls s)).B i] = false := seen_iff.2 fun k hk eq => by
      have hk2 : k < (pls s).length := by omega
      injection eq with q0 eq; injection eq with q1 eq; injection eq with q2 _
      have g1 := ix_inj f (frP_mem hk2) q1
      have g2 := ix_inj t (toP_mem hk2) q2
      have s1 := seven_at (pls_seven s) hi
      have s2 := seven_at (pls_seven s) hk2
      injection g1 with a1 g1; injection g1 with a2 g1; injection g1 with a3 _
      injection g2 with a4 g2; injection g2 with a5 g2; injection g2 with a6 _
      have q0 : col (pls s) 0 i = col (pls s) 0 k := q0
      have a1 : col (pls s) 1 i = col (pls s) 1 k := a1
      have a2 : col (pls s) 2 i = col (pls s) 2 k := a2
      have a3 : col (pls s) 3 i = col (pls s) 3 k := a3
      have a4 : col (pls s) 4 i = col (pls s) 4 k := a4
      have a5 : col (pls s) 5 i = col (pls s) 5 k := a5
      have a6 : col (pls s) 6 i = col (pls s) 6 k := a6
      rw [q0, a1, a2, a3, a4, a5, a6, s2] at s1
      have s1 : (pls s)[k] = (pls s)[i] := by simpa [hi, hk2] using s1
      have := (List.getElem_inj (pls_nodup hc)).1 s1
      omega
    have p0 : (bldS (pls s)).K i = s.K j := p0
    rw [memE, if_neg (by rw [p0]; omega), if_neg (fun h => h.elim (fun h => h ea) fun h => h eb), if_neg (by rw [hr]; decide), if_neg (by rw [hs]; decide)]
end
end Go.Abs
end
end
section
set_option linter.unusedVariables false
set_option linter.unusedSimpArgs false
set_option maxRecDepth 100000
namespace Go.Abs
open Go
/-- A list without a place; with the removed ones away; with the added ones; whether all are there, or none is. -/
def dlL (L : List (List Int)) (q : List Int) : List (List Int) := L.filter fun p => !decide (p = q)
def rmL (l : List (List Int)) (R : Nat → List Int) : Nat → List (List Int)
  | 0 => l
  | j + 1 => dlL (rmL l R j) (R j)
def adL (l : List (List Int)) (A : Nat → List Int) : Nat → List (List Int)
  | 0 => l
  | j + 1 => adL l A j ++ [A j]
def rmK (l : List (List Int)) (R : Nat → List Int) : Nat → Bool
  | 0 => true
  | j + 1 => rmK l R j && inB (rmL l R j) (R j)
def adK (l : List (List Int)) (A : Nat → List Int) : Nat → Bool
  | 0 => true
  | j + 1 => adK l A j && !inB (adL l A j) (A j)
def sv (A : Nat → Nat → Int) (j : Nat) : List Int := [A 0 j, A 1 j, A 2 j, A 3 j, A 4 j, A 5 j, A 6 j]
def tkL (l : List (List Int)) (i : Nat) : List (List Int) := lsOf i fun j => l.getD j []
theorem tkL_all (l : List (List Int)) : tkL l l.length = l := lsOf_self l fun _ _ => rfl
theorem inB_iff {L : List (List Int)} {q : List Int} : inB L q = true ↔ q ∈ L := decide_eq_true_iff
theorem mem_dlL {L : List (List Int)} {q p : List Int} : p ∈ dlL L q ↔ p ∈ L ∧ p ≠ q := by simp [dlL]
theorem inB_dlL (L : List (List Int)) (q p : List Int) : inB (dlL L q) p = (inB L p && !decide (p = q)) := by
  rw [Bool.eq_iff_iff, inB_iff, mem_dlL, Bool.and_eq_true, inB_iff]
  simp
theorem rmK_lt {l : List (List Int)} {R : Nat → List Int} : ∀ {n i : Nat}, rmK l R n = true → i ≤ n → rmK l R i = true
  | 0, i, h, hi => by obtain rfl : i = 0 := by omega
                      exact h
  | n + 1, i, h, hi => by
    by_cases e : i = n + 1
    · rw [e]; exact h
    · rw [rmK, Bool.and_eq_true] at h
      exact rmK_lt h.1 (by omega)
theorem rmK_no {l : List (List Int)} {R : Nat → List Int} {n i : Nat} (hi : i < n) (h : inB (rmL l R i) (R i) = false) : rmK l R n = false := by
  cases e : rmK l R n with
  | false => rfl
  | true =>
    have := rmK_lt (i := i + 1) e hi
    rw [rmK, h, Bool.and_false] at this
    cases this
theorem adK_lt {l : List (List Int)} {A : Nat → List Int} : ∀ {n i : Nat}, adK l A n = true → i ≤ n → adK l A i = true
  | 0, i, h, hi => by obtain rfl : i = 0 := by omega
                      exact h
  | n + 1, i, h, hi => by
    by_cases e : i = n + 1
    · rw [e]; exact h
    · rw [adK, Bool.and_eq_true] at h
      exact adK_lt h.1 (by omega)
theorem adK_no {l : List (List Int)} {A : Nat → List Int} {n i : Nat} (hi : i < n) (h : inB (adL l A i) (A i) = true) : adK l A n = false := by
  cases e : adK l A n with
  | false => rfl
  | true =>
    have := adK_lt (i := i + 1) e hi
    rw [adK, h, Bool.not_true, Bool.and_false] at this
    cases this
theorem rmL_nodup {l : List (List Int)} (h : l.Nodup) (R : Nat → List Int) : ∀ n, (rmL l R n).Nodup
  | 0 => h
  | n + 1 => (rmL_nodup h R n).filter _
theorem adL_nodup {l : List (List Int)} (h : l.Nodup) {A : Nat → List Int} : ∀ {n}, adK l A n = true → (adL l A n).Nodup
  | 0, _ => h
  | n + 1, hk => by
    rw [adK, Bool.and_eq_true] at hk
    rw [adL, List.nodup_append]
    refine ⟨adL_nodup h hk.1, by simp, fun a ha b hb e => ?_⟩
    have h2 : inB (adL l A n) (A n) = false := by simpa using hk.2
    rw [List.mem_singleton] at hb
    rw [← hb, ← e, inB, decide_eq_true ha] at h2
    cases h2
theorem dlL_len (L : List (List Int)) (q : List Int) : (dlL L q).length ≤ L.length := List.length_filter_le _ _
theorem rmL_len (l : List (List Int)) (R : Nat → List Int) : ∀ n, (rmL l R n).length ≤ l.length
  | 0 => Nat.le_refl _
  | n + 1 => Nat.le_trans (dlL_len _ _) (rmL_len l R n)
theorem adL_len (l : List (List Int)) (A : Nat → List Int) : ∀ n, (adL l A n).length = l.length + n
  | 0 => rfl
  | n + 1 => by rw [adL, List.length_append, adL_len l A n]; rfl
theorem rmL_seven {l : List (List Int)} (h : ∀ x ∈ l, x.length = 7) (R : Nat → List Int) : ∀ n, ∀ x ∈ rmL l R n, x.length = 7
  | 0 => h
  | n + 1 => fun x hx => rmL_seven h R n x (mem_dlL.1 hx).1
theorem adL_seven {l : List (List Int)} (h : ∀ x ∈ l, x.length = 7) (A : Nat → Nat → Int) : ∀ n, ∀ x ∈ adL l (sv A) n, x.length = 7
  | 0 => h
  | n + 1 => fun x hx => by
    rw [adL, List.mem_append, List.mem_singleton] at hx
    exact hx.elim (adL_seven h A n x) fun e => by rw [e]; rfl
/-- The places behind a change; the error; the scaffold. -/
def apL (s : Scf) (nA : Nat) (A : Nat → Nat → Int) (nR : Nat) (R : Nat → Nat → Int) : List (List Int) := adL (rmL (pls s) (sv R) nR) (sv A) nA
def apX (s : Scf) (nA : Nat) (A : Nat → Nat → Int) (nR : Nat) (R : Nat → Nat → Int) : Int := if rmK (pls s) (sv R) nR = false then 6 else if adK (rmL (pls s) (sv R) nR) (sv A) nA = false then 5 else chkE (bldS (srt (apL s nA A nR R)))
def apE (s : Scf) (nA : Nat) (A : Nat → Nat → Int) (nR : Nat) (R : Nat → Nat → Int) : Int := if chkE s = 0 then apX s nA A nR R else chkE s
def apS (s : Scf) (nA : Nat) (A : Nat → Nat → Int) (nR : Nat) (R : Nat → Nat → Int) : Scf := if apE s nA A nR R = 0 then bldS (srt (apL s nA A nR R)) else zeroS
theorem apE_chk {s : Scf} {nA : Nat} {A : Nat → Nat → Int} {nR : Nat} {R : Nat → Nat → Int} (h : ¬ chkE s = 0) : apE s nA A nR R = chkE s ∧ apS s nA A nR R = zeroS := by
  have e : apE s nA A nR R = chkE s := if_neg h
  exact ⟨e, by rw [apS, e, if_neg h]⟩
theorem apE_rm {s : Scf} {nA : Nat} {A : Nat → Nat → Int} {nR : Nat} {R : Nat → Nat → Int} (h : chkE s = 0) (hr : rmK (pls s) (sv R) nR = false) : apE s nA A nR R = 6 ∧ apS s nA A nR R = zeroS := by
  have e : apE s nA A nR R = 6 := by rw [apE, if_pos h, apX, if_pos hr]
  exact ⟨e, by rw [apS, e, if_neg (by decide)]⟩
theorem apE_ad {s : Scf} {nA : Nat} {A : Nat → Nat → Int} {nR : Nat} {R : Nat → Nat → Int} (h : chkE s = 0) (hr : rmK (pls s) (sv R) nR = true) (ha : adK (rmL (pls s) (sv R) nR) (sv A) nA = false) : apE s nA A nR R = 5 ∧ apS s nA A nR R = zeroS := by
  have e : apE s nA A nR R = 5 := by rw [apE, if_pos h, apX, if_neg (by rw [hr]; decide), if_pos ha]
  exact ⟨e, by rw [apS, e, if_neg (by decide)]⟩
theorem apE_go {s : Scf} {nA : Nat} {A : Nat → Nat → Int} {nR : Nat} {R : Nat → Nat → Int} (h : chkE s = 0) (hr : rmK (pls s) (sv R) nR = true) (ha : adK (rmL (pls s) (sv R) nR) (sv A) nA = true) : apE s nA A nR R = chkE (bldS (srt (apL s nA A nR R))) := by
  rw [apE, if_pos h, apX, if_neg (by rw [hr]; decide), if_neg (by rw [ha]; decide)]
/-- The keys of the map, in order. -/
theorem keys_srt {L l : List (List Int)} (hL : L.Nodup) (hl : l.Nodup) (h : ∀ q, inB l q = true ↔ q ∈ L) : srt L = srt l :=
  srt_congr ((List.perm_ext_iff_of_nodup hL hl).2 fun q => ((h q).symm.trans inB_iff))
/-- The places of a list that another one has not. -/
def woL (l m : List (List Int)) : List (List Int) := l.filter fun p => !inB m p
theorem mem_woL {l m : List (List Int)} {p : List Int} : p ∈ woL l m ↔ p ∈ l ∧ p ∉ m := by simp [woL, inB]
end Go.Abs
end
