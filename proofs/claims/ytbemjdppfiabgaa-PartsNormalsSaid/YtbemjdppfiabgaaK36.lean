/- Contracts. Contracts. Contracts. -/
import Derived.Test.YtbemjdppfiabgaaK33
import Derived.Test.YtbemjdppfiabgaaK12
section
section
set_option linter.unusedVariables false
set_option linter.unusedSimpArgs false
set_option maxRecDepth 100000
namespace Go.Abs
open Go
/-- Sorted insertion is sorting. -/
theorem wN_sorted {e : List Int} : ∀ {L : List (List Int)}, L.Pairwise (fun a b => leB a b = true) → (wN L e).Pairwise (fun a b => leB a b = true)
  | [], _ => by rw [wN]; exact List.pairwise_singleton _ _
  | x :: r, h => by
    have hx := (List.pairwise_cons.1 h).1
    have hr := (List.pairwise_cons.1 h).2
    rw [wN]
    by_cases h1 : lexB x e = true
    · rw [if_pos h1, List.pairwise_cons]
      refine ⟨fun y hy => (mem_wN.1 hy).elim (hx y) fun e2 => ?_, wN_sorted hr⟩
      rw [e2, leB, lexB_asym h1]; rfl
    · rw [if_neg h1]
      by_cases h2 : x = e
      · rw [if_pos h2]; exact h
      · rw [if_neg h2, List.pairwise_cons]
        have he : leB e x = true := by unfold leB; rw [Bool.not_eq_true] at h1; rw [h1]; rfl
        refine ⟨fun y hy => ?_, h⟩
        rcases List.mem_cons.1 hy with hy | hy
        · rw [hy]; exact he
        · exact leB_trans _ _ _ he (hx y hy)
theorem wN_has {e : List Int} : ∀ {L : List (List Int)}, L.Pairwise (fun a b => leB a b = true) → e ∈ L → wN L e = L
  | x :: r, h, hm => by
    have hx := (List.pairwise_cons.1 h).1
    have hr := (List.pairwise_cons.1 h).2
    rw [wN]
    by_cases h1 : lexB x e = true
    · have : e ∈ r := (List.mem_cons.1 hm).elim (fun h2 => by rw [h2, lexB_irr] at h1; cases h1) id
      rw [if_pos h1, wN_has hr this]
    · rw [if_neg h1]
      by_cases h2 : x = e
      · rw [if_pos h2]
      · have h3 : e ∈ r := (List.mem_cons.1 hm).elim (fun h3 => absurd h3.symm h2) id
        have h4 := hx e h3
        unfold leB at h4
        have h5 : lexB e x = false := by simpa using h4
        exact absurd (lexB_tot (by simpa using h1) h5) h2
theorem wN_perm {e : List Int} : ∀ {L : List (List Int)}, e ∉ L → (wN L e).Perm (L ++ [e])
  | [], _ => List.Perm.refl _
  | x :: r, h => by
    rw [wN]
    by_cases h1 : lexB x e = true
    · rw [if_pos h1, List.cons_append]
      exact (wN_perm fun h2 => h (List.mem_cons_of_mem _ h2)).cons x
    · rw [if_neg h1, if_neg (fun h2 => h (by rw [h2]; exact List.mem_cons_self))]
      exact (List.perm_append_singleton e (x :: r)).symm
theorem wN_srt (L : List (List Int)) (e : List Int) : wN (srt L) e = srt (addU L e) := by
  refine srt_is ?_ (wN_sorted (srt_sorted L))
  unfold addU
  by_cases h : e ∈ L
  · rw [if_pos h, wN_has (srt_sorted L) (mem_srt.2 h)]; exact srt_perm L
  · rw [if_neg h]
    exact (wN_perm fun h2 => h (mem_srt.1 h2)).trans ((srt_perm L).append_right _)
theorem wE_srt (L : List (List Int)) (x : List Int) : ∀ j, wE (srt L) x j = srt (ndE L x j)
  | 0 => rfl
  | j + 1 => by rw [wE, wE_srt L x j, wN_srt]; rfl
theorem wA_srt (l : List (List Int)) : ∀ i, wA l i = srt (ndA l i)
  | 0 => by rw [wA, ndA, srt]; simp
  | i + 1 => by rw [wA, wA_srt l i, wE_srt]; rfl
theorem wA_nd (l : List (List Int)) : wA l l.length = ndS l := wA_srt l l.length
/-- A node of the list, at its place. -/
theorem ndS_ix {l : List (List Int)} {q : List Int} (h : q ∈ ndS l) (c : Nat) : col (ndS l) c ((ndS l).idxOf q) = q.getD c 0 := by
  have hi := List.idxOf_lt_length_iff.2 h
  have e : (ndS l).getD ((ndS l).idxOf q) [] = q := by
    have := List.getElem_idxOf hi
    simp [hi]
  rw [col, e]
theorem nIx_is {l : List (List Int)} {q : List Int} (h : q ∈ ndS l) : nIx (ndS l) q = ixS l q := by
  have hi := List.idxOf_lt_length_iff.2 h
  refine nAt_at (i := (ndS l).idxOf q) (fun j hj ⟨a, b, c⟩ => ?_) ⟨ndS_ix h 0, ndS_ix h 1, ndS_ix h 2⟩ hi
  have hj2 : j < (ndS l).length := by omega
  obtain ⟨x, y, z, e⟩ := ndA_three q (mem_srt.1 h)
  have e1 := ndS_at hj2
  have e2 : (ndS l)[j] = q := by
    rw [← e1, e]
    rw [e] at a b c
    exact congr (congrArg List.cons a) (congr (congrArg List.cons b) (congrArg (fun z => [z]) c))
  have := (ndS_nodup l).idxOf_getElem j hj2
  rw [e2] at this
  omega
theorem frP_mem {l : List (List Int)} {i : Nat} (hi : i < l.length) : frP (l.getD i []) ∈ ndS l := mem_ndS.2 ⟨i, hi, 0, by have := (edN_le (l.getD i [])).1; omega, rfl⟩
theorem toP_mem {l : List (List Int)} {i : Nat} (hi : i < l.length) : toP (l.getD i []) ∈ ndS l := mem_ndS.2 ⟨i, hi, 1, by have := (edN_le (l.getD i [])).1; omega, rfl⟩
/-- The specification builds the same scaffold. -/
theorem rb_bld {l : List (List Int)} (h : srt l = l) : sameS (bldS l) (rbS l) = true := by
  have e := wA_nd l
  refine decide_eq_true ⟨⟨?_, rfl⟩, fun j _ => ⟨?_, ?_, ?_⟩, fun j hj => ⟨?_, ?_, ?_⟩⟩
  · show (ndS l).length = (wA l l.length).length; rw [e]
  · show col (ndS l) 0 j = col (wA l l.length) 0 j; rw [e]
  · show col (ndS l) 1 j = col (wA l l.length) 1 j; rw [e]
  · show col (ndS l) 2 j = col (wA l l.length) 2 j; rw [e]
  · show col l 0 j = col (srt l) 0 j; rw [h]
  · show ixS l (frP (l.getD j [])) = nIx (wA l l.length) (frP ((srt l).getD j [])); rw [h, e, nIx_is (frP_mem hj)]
  · show ixS l (toP (l.getD j [])) = nIx (wA l l.length) (toP ((srt l).getD j [])); rw [h, e, nIx_is (toP_mem hj)]
theorem rb_same (s : Scf) : sameS (bldS (pls s)) (rbS (pls s)) = true := rb_bld (srt_idem _)
end Go.Abs
end
section
set_option linter.unusedVariables false
set_option linter.unusedSimpArgs false
set_option maxRecDepth 100000
namespace Go.Abs
open Go
section
variable {s : Scf}
theorem nAt_has {x y z : Int} : ∀ {n : Nat}, 0 ≤ nAt s n x y z → s.X (nAt s n x y z).toNat = x ∧ s.Y (nAt s n x y z).toNat = y ∧ s.Z (nAt s n x y z).toNat = z
  | 0, h => absurd h (by show ¬ (0 : Int) ≤ -1; decide)
  | n + 1, h => by
    rw [nAt] at h ⊢
    split
    · rename_i h1; exact nAt_has h1
    · rename_i h1
      rw [if_neg h1] at h
      split
      · rename_i h2; simpa using h2
      · rename_i h2; rw [if_neg h2] at h; exact absurd h (by decide)
theorem node_inj (hc : ScfOK s) {i j : Nat} (hi : i < s.nN) (hj : j < s.nN) (hx : s.X i = s.X j) (hy : s.Y i = s.Y j) (hz : s.Z i = s.Z j) : i = j := by
  rcases Nat.lt_trichotomy i j with h | h | h
  · exact absurd ⟨hx, hy, hz⟩ (nAt_no (hc.node j hj).2 i h)
  · exact h
  · exact absurd ⟨hx.symm, hy.symm, hz.symm⟩ (nAt_no (hc.node i hi).2 j h)
theorem plc_inj (hc : ScfOK s) {i j : Nat} (hi : i < s.nM) (hj : j < s.nM) (h : plc s i = plc s j) : i = j := by
  unfold plc at h
  injection h with h0 h; injection h with h1 h; injection h with h2 h; injection h with h3 h; injection h with h4 h; injection h with h5 h; injection h with h6 h
  obtain ⟨a1, b1⟩ := hc.ends i hi
  obtain ⟨a2, b2⟩ := hc.ends j hj
  have ea := node_inj hc (by omega) (by omega) h1 h2 h3
  have eb := node_inj hc (by omega) (by omega) h4 h5 h6
  have ea : s.A i = s.A j := by omega
  have eb : s.B i = s.B j := by omega
  rcases Nat.lt_trichotomy i j with h | h | h
  · exact absurd (by rw [h0, ea, eb]) (seen_iff.1 (hc.seen j hj) i h)
  · exact h
  · exact absurd (by rw [h0, ea, eb]) (seen_iff.1 (hc.seen i hi) j h)
theorem lsOf_nodup {n : Nat} {A : Nat → List Int} (h : ∀ i j, i < n → j < n → A i = A j → i = j) : (lsOf n A).Nodup := by
  rw [List.Nodup, List.pairwise_iff_getElem]
  intro i j hi hj hij e
  rw [lsOf_len] at hi hj
  simp only [lsOf, List.getElem_map, List.getElem_range] at e
  have := h i j hi hj e
  omega
theorem pls_nodup (hc : ScfOK s) : (pls s).Nodup := (srt_perm _).nodup_iff.2 (lsOf_nodup fun i j hi hj h => plc_inj hc hi hj h)
theorem pls_at {i : Nat} (hi : i < s.nM) : ∃ j, j < s.nM ∧ (pls s).getD i [] = plc s j := by
  have h1 : i < (pls s).length := by rw [pls_len]; exact hi
  have h2 : (pls s)[i] ∈ pls s := List.getElem_mem h1
  obtain ⟨j, hj, e⟩ := mem_lsOf.1 (mem_srt.1 h2)
  exact ⟨j, hj, by rw [e]; simp [h1]⟩
/-- A node of a place is one of the scaffold. -/
theorem edX_node (hc : ScfOK s) {i k : Nat} (hi : i < s.nM) (hk : k < edN (plc s i)) : ∃ n, n < s.nN ∧ edX (plc s i) k = [s.X n, s.Y n, s.Z n] := by
  obtain ⟨hA, hB⟩ := hc.ends i hi
  unfold edX
  by_cases h0 : k = 0
  · rw [if_pos h0]; exact ⟨(s.A i).toNat, by omega, rfl⟩
  · rw [if_neg h0]
    by_cases h1 : k = 1
    · rw [if_pos h1]; exact ⟨(s.B i).toNat, by omega, rfl⟩
    · rw [if_neg h1]
      have h6 : s.K i = 6 := by
        unfold edN at hk
        split at hk
        · rename_i h; exact h
        · omega
      have hr := hc.right i hi
      rw [h6] at hr
      obtain ⟨_, q1, q2⟩ := rgt6 hr
      unfold atH at q1 q2
      have q1 : 0 ≤ nAt s s.nN (s.X (s.B i).toNat) (s.Y (s.A i).toNat) (s.Z (s.A i).toNat) := of_decide_eq_true q1
      have q2 : 0 ≤ nAt s s.nN (s.X (s.A i).toNat) (s.Y (s.B i).toNat) (s.Z (s.A i).toNat) := of_decide_eq_true q2
      have b1 := nAt_bd q1
      have b2 := nAt_bd q2
      have e1 := nAt_has q1
      have e2 := nAt_has q2
      by_cases h2 : k = 2
      · rw [if_pos h2]
        refine ⟨(nAt s s.nN (s.X (s.B i).toNat) (s.Y (s.A i).toNat) (s.Z (s.A i).toNat)).toNat, by omega, ?_⟩
        rw [e1.1, e1.2.1, e1.2.2]; rfl
      · rw [if_neg h2]
        refine ⟨(nAt s s.nN (s.X (s.A i).toNat) (s.Y (s.B i).toNat) (s.Z (s.A i).toNat)).toNat, by omega, ?_⟩
        rw [e2.1, e2.2.1, e2.2.2]; rfl
theorem nd_node (hc : ScfOK s) {q : List Int} (h : q ∈ ndS (pls s)) : ∃ n, n < s.nN ∧ q = [s.X n, s.Y n, s.Z n] := by
  obtain ⟨i, hi, k, hk, e⟩ := mem_ndS.1 h
  rw [pls_len] at hi
  obtain ⟨j, hj, e2⟩ := pls_at hi
  rw [e2] at e hk
  obtain ⟨n, hn, e3⟩ := edX_node hc hj hk
  exact ⟨n, hn, by rw [← e, e3]⟩
theorem geoF_mono {k ax ay az bx by_ bz : Int} {o1 t1 s1 o2 t2 s2 : Bool} (h : geoF k ax ay az bx by_ bz o1 t1 s1 = true) (h6 : k = 6 → o2 = true ∧ t2 = true) (hs : s1 = true → s2 = true) : geoF k ax ay az bx by_ bz o2 t2 s2 = true := by
  unfold geoF at *
  split at h
  · rename_i c; rw [if_pos c]; exact h
  · rename_i c; rw [if_neg c]
    split at h
    · rename_i c; rw [if_pos c]; exact h
    · rename_i c; rw [if_neg c]
      split at h
      · rename_i c; rw [if_pos c]; exact h
      · rename_i c; rw [if_neg c]
        split at h
        · rename_i c; rw [if_pos c]
          obtain ⟨e1, e2⟩ := h6 c
          rw [e1, e2]
          rw [Bool.and_eq_true] at h ⊢
          exact ⟨h.1, rfl⟩
        · rename_i c; rw [if_neg c]; exact hs h
/-- A place of the normal form is that of the list. -/
theorem plc_bld {l : List (List Int)} (h7 : ∀ x ∈ l, x.length = 7) {i : Nat} (hi : i < l.length) : plc (bldS l) i = l.getD i [] := by
  have f := frP_mem hi
  have t := toP_mem hi
  have z : ∀ q, ((ixS l q).toNat) = (ndS l).idxOf q := fun q => Int.toNat_natCast _
  show [col l 0 i, col (ndS l) 0 (ixS l (frP (l.getD i []))).toNat, col (ndS l) 1 (ixS l (frP (l.getD i []))).toNat, col (ndS l) 2 (ixS l (frP (l.getD i []))).toNat, col (ndS l) 0 (ixS l (toP (l.getD i []))).toNat, col (ndS l) 1 (ixS l (toP (l.getD i []))).toNat, col (ndS l) 2 (ixS l (toP (l.getD i []))).toNat] = _
  rw [z, z, ndS_ix f, ndS_ix f, ndS_ix f, ndS_ix t, ndS_ix t, ndS_ix t]
  exact seven_at h7 hi
theorem pls_seven (s : Scf) : ∀ x ∈ pls s, x.length = 7 := fun x hx => plL_seven s x (mem_srt.1 hx)
/-- The normal form's places are the scaffold's. -/
theorem pls_bld (s : Scf) : pls (bldS (pls s)) = pls s := by
  have e : plL (bldS (pls s)) = pls s := lsOf_self (pls s) fun j hj => plc_bld (pls_seven s) hj
  rw [pls, e]
  exact srt_idem _
theorem ix_bd {l : List (List Int)} {q : List Int} (h : q ∈ ndS l) : 0 ≤ ixS l q ∧ ixS l q < ((ndS l).length : Int) := by
  have := List.idxOf_lt_length_iff.2 h
  unfold ixS; omega
theorem ix_inj {l : List (List Int)} {q r : List Int} (hq : q ∈ ndS l) (hr : r ∈ ndS l) (h : ixS l q = ixS l r) : q = r := by
  have e : (ndS l).idxOf q = (ndS l).idxOf r := by unfold ixS at h; omega
  have h1 := List.getElem_idxOf (List.idxOf_lt_length_iff.2 hq)
  have h2 := List.getElem_idxOf (List.idxOf_lt_length_iff.2 hr)
  simp only [e] at h1
  exact h1.symm.trans h2
/-- The normal form is right. -/
theorem chk_bld (hc : ScfOK s) (hm : s.nM ≤ 120) : chkE (bldS (pls s)) = 0 := by
  have hl := pls_len s
  have hn : (ndS (pls s)).length ≤ 480 := by
    have := ndA_len (pls s) (pls s).length
    have := ndS_len (pls s)
    omega
  refine (chk_ok (s := bldS (pls s)) ⟨?_, ?_⟩ (fun i hi => ?_) fun i hi => ?_).symm
  · show ¬ (((ndS (pls s)).length : Nat) : Int) > 1000; omega
  · show ¬ (((pls s).length : Nat) : Int) > 4000; omega
  · have hi : i < (ndS (pls s)).length := hi
    have e := ndS_at hi
    obtain ⟨n, hn, e2⟩ := nd_node hc (List.getElem_mem hi)
    rw [← e] at e2
    injection e2 with e0 e2; injection e2 with e1 e2; injection e2 with e2 _
    have hX := (hc.node n hn).1
    have c1 : (inC ((bldS (pls s)).X i) && (inC ((bldS (pls s)).Y i) && inC ((bldS (pls s)).Z i))) = true := by
      show (inC (col (ndS (pls s)) 0 i) && (inC (col (ndS (pls s)) 1 i) && inC (col (ndS (pls s)) 2 i))) = true
      rw [e0, e1, e2, hX.1, hX.2.1, hX.2.2]; rfl
    have c2 : ¬ 0 ≤ nAt (bldS (pls s)) i ((bldS (pls s)).X i) ((bldS (pls s)).Y i) ((bldS (pls s)).Z i) := fun h => by
      have hb := nAt_bd h
      obtain ⟨a, b, c⟩ := nAt_has h
      have hk : (nAt (bldS (pls s)) i ((bldS (pls s)).X i) ((bldS (pls s)).Y i) ((bldS (pls s)).Z i)).toNat < i := by omega
      generalize (nAt (bldS (pls s)) i ((bldS (pls s)).X i) ((bldS (pls s)).Y i) ((bldS (pls s)).Z i)).toNat = k at a b c hk
      have hk2 : k < (ndS (pls s)).length := by omega
      have e3 := ndS_at hk2
      have a : col (ndS (pls s)) 0 k = col (ndS (pls s)) 0 i := a
      have b : col (ndS (pls s)) 1 k = col (ndS (pls s)) 1 i := b
      have c : col (ndS (pls s)) 2 k = col (ndS (pls s)) 2 i := c
      rw [a, b, c, e] at e3
      have := (List.getElem_inj (ndS_nodup (pls s))).1 e3
      omega
    rw [nodE, if_neg (by rw [c1]; decide), if_neg c2]
  · have hi : i < (pls s).length := hi
    obtain ⟨j, hj, e⟩ := pls_at (s := s) (i := i) (by rw [pls_len] at hi; exact hi)
    have f := frP_mem hi
    have t := toP_mem hi
    obtain ⟨hA, hB⟩ := hc.ends j hj
    have hp := plc_bld (pls_seven s) hi
    rw [e] at hp
    have hp' := hp
    unfold plc at hp
    injection hp with p0 hp; injection hp with p1 hp; injection hp with p2 hp; injection hp with p3 hp; injection hp with p4 hp; injection hp with p5 hp; injection hp with p6 _
    have k1 := hc.kind j hj
    have ea := ix_bd f
    have eb := ix_bd t
    have hr : rgtF (bldS (pls s)) (bldS (pls s)).nN ((bldS (pls s)).K i) ((bldS (pls s)).A i) ((bldS (pls s)).B i) = true := by
      have h := hc.right j hj
      unfold rgtF at h ⊢
      rw [p0, p1, p2, p3, p4, p5, p6]
      refine geoF_mono h (fun h6 => ?_) fun hs => ?_
      · have hcr : ∀ k, k < 4 → ∀ x y z : Int, edX (plc s j) k = [x, y, z] → atH (bldS (pls s)) (bldS (pls s)).nN [x, y, z] = true := fun k hk x y z ex => by
          have hin : [x, y, z] ∈ ndS (pls s) := mem_ndS.2 ⟨i, hi, k, by rw [e, show edN (plc s j) = 4 from if_pos h6]; exact hk, by rw [e, ex]⟩
          have := nIx_is hin
          have hb := ix_bd hin
          have e4 : nAt (bldS (pls s)) (bldS (pls s)).nN x y z = nIx (ndS (pls s)) [x, y, z] := nAt_congr (s := bldS (pls s)) (t := wS (ndS (pls s)) 0) rfl rfl rfl (ndS (pls s)).length x y z
          unfold atH
          refine decide_eq_true ?_
          show 0 ≤ nAt (bldS (pls s)) (bldS (pls s)).nN x y z
          rw [e4, this]; exact hb.1
        exact ⟨hcr 2 (by decide) _ _ _ rfl, hcr 3 (by decide) _ _ _ rfl⟩
      · have hs : s.A j = s.B j := of_decide_eq_true hs
        refine decide_eq_true ?_
        show ixS (pls s) (frP ((pls s).getD i [])) = ixS (pls s) (toP ((pls s).getD i []))
        rw [e]
        have : frP (plc s j) = toP (plc s j) := by unfold frP toP plc; rw [hs]; rfl
        rw [this]
    have hs : seenH (bldS (pls s)) i [(bldS (pls s)).K i, (bldS (pls s)).A i, (bldS (pls s)).B i] = false := seen_iff.2 fun k hk eq => by
      have hk2 : k < (pls s).length := by omega
      injection eq with q0 eq; injection eq with q1 eq; injection eq with q2 _
      have g1 := ix_inj f (frP_mem hk2) q1
      have g2 := ix_inj t (toP_mem hk2) q2
      have s1 := seven_at (pls_seven s) hi
      have s2 := seven_at (pls_seven s) hk2
      injection g1 with a1 g1; injection g1 with a2 g1; injection g1 with a3 _
      injection g2 with a4 g2; injection g2 with a5 g2; injection g2 with a6 _
      have q0 : col (pls s) 0 i = col (pls s) 0 k := q0
      have a1 : col (pls s) 1 i = col (pls s) 1 k := a1
      have a2 : col (pls s) 2 i = col (pls s) 2 k := a2
      have a3 : col (pls s) 3 i = col (pls s) 3 k := a3
      have a4 : col (pls s) 4 i = col (pls s) 4 k := a4
      have a5 : col (pls s) 5 i = col (pls s) 5 k := a5
      have a6 : col (pls s) 6 i = col (pls s) 6 k := a6
      rw [q0, a1, a2, a3, a4, a5, a6, s2] at s1
      have s1 : (pls s)[k] = (pls s)[i] := by simpa [hi, hk2] using s1
      have := (List.getElem_inj (pls_nodup hc)).1 s1
      omega
    have p0 : (bldS (pls s)).K i = s.K j := p0
    rw [memE, if_neg (by rw [p0]; omega), if_neg (fun h => h.elim (fun h => h ea) fun h => h eb), if_neg (by rw [hr]; decide), if_neg (by rw [hs]; decide)]
end
end Go.Abs
end
end
section
set_option linter.unusedVariables false
set_option linter.unusedSimpArgs false
set_option maxRecDepth 100000
namespace Go.Abs
open Go
abbrev plcD (s : Scf) : DV := .lst (plN s) (cols7 (pls s))
noncomputable def A12_normals_c (s : Scf) : Ann := { orc := [(1, [(0, .res fun _ => dB true)]), (3, [(1, .res fun _ => dB (fewF s))]), (5, [(1, .res fun _ => .tup [scfD (nmS s), dI (chkE s)])]), (6, [(1, .res fun _ => .tup [plcD s, dI (chkE s)])]), (7, [(1, .res fun _ => dI (chkE s))]), (9, [(10, .res fun _ => dB (decide ((nmS s).nN = 0 ∧ (nmS s).nM = 0)))]), (10, [(1, .res fun _ => .tup [scfD (nmS (nmS s)), dI (chkE (nmS s))])]), (11, [(9, .res fun _ => scfD (rbS (pls s))), (10, .res fun _ => dB (sameS (nmS s) (rbS (pls s)))), (15, .row fun _ => (s.nM, cols7 (pls s))), (16, .res fun _ => dB (sameP (plN s) (col (pls s)) s.nM (col (pls s)))), (25, .res fun _ => dB (sameS (nmS (nmS s)) (nmS s)))])], loops := [], cuts := [] }
noncomputable abbrev q_normals_c_0 (s : Scf) : Bool := decide ((nmS s).nN = (0 : Nat) ∧ (nmS s).nM = (0 : Nat))
noncomputable abbrev q_normals_c_1 (s : Scf) : Bool := if (chkE s == chkE s) = true then chkE s == chkE s else false
noncomputable abbrev q_normals_c_2 (s : Scf) : Bool := if (q_normals_c_1 s) = true then (q_normals_c_0 s) else false
noncomputable abbrev q_normals_c_3 (s : Scf) : Bool := if (chkE s == (0 : Int)) = true then chkE s == (0 : Int) else false
noncomputable abbrev q_normals_c_4 (s : Scf) : Bool := if (q_normals_c_3 s) = true then sameS (nmS s) (rbS (pls s)) else false
noncomputable abbrev q_normals_c_5 (s : Scf) : Bool := if (q_normals_c_4 s) = true then sameP (plN s) (col (pls s)) s.nM (col (pls s)) else false
noncomputable abbrev q_normals_c_6 (s : Scf) : Bool := if (q_normals_c_5 s) = true then chkE (nmS s) == (0 : Int) else false
noncomputable abbrev normals_cd0 (s : Scf) : DV := .agg [.lst (nmS s).nN [fun i => (dI ((nmS s).X i)), fun i => (dI ((nmS s).Y i)), fun i => (dI ((nmS s).Z i))], .lst (nmS s).nM [fun i => (dI ((nmS s).K i)), fun i => (dI ((nmS s).A i)), fun i => (dI ((nmS s).B i))]]
noncomputable abbrev normals_cd1 (s : Scf) : DV := .agg [.lst s.nN [fun i => (dI (s.X i)), fun i => (dI (s.Y i)), fun i => (dI (s.Z i))], .lst s.nM [fun i => (dI (s.K i)), fun i => (dI (s.A i)), fun i => (dI (s.B i))]]
noncomputable abbrev normals_cd2 (s : Scf) : DV := .lst (plN s) [fun j => (dI (col (pls s) (0 : Nat) j)), fun j => (dI (col (pls s) (1 : Nat) j)), fun j => (dI (col (pls s) (2 : Nat) j)), fun j => (dI (col (pls s) (3 : Nat) j)), fun j => (dI (col (pls s) (4 : Nat) j)), fun j => (dI (col (pls s) (5 : Nat) j)), fun j => (dI (col (pls s) (6 : Nat) j))]
noncomputable abbrev normals_cd3 (s : Scf) : DV := .agg [.lst (nmS (nmS s)).nN [fun i => (dI ((nmS (nmS s)).X i)), fun i => (dI ((nmS (nmS s)).Y i)), fun i => (dI ((nmS (nmS s)).Z i))], .lst (nmS (nmS s)).nM [fun i => (dI ((nmS (nmS s)).K i)), fun i => (dI ((nmS (nmS s)).A i)), fun i => (dI ((nmS (nmS s)).B i))]]
noncomputable abbrev normals_cd4 (s : Scf) : DV := .agg [.lst (rbS (pls s)).1 [fun i => (dI ((rbS (pls s)).2 i)), fun i => (dI ((rbS (pls s)).3 i)), fun i => (dI ((rbS (pls s)).4 i))], .lst (rbS (pls s)).5 [fun i => (dI ((rbS (pls s)).6 i)), fun i => (dI ((rbS (pls s)).7 i)), fun i => (dI ((rbS (pls s)).8 i))]]
theorem normals_c (s : Scf)  : FnC prog 12 [scfD s] (dB true) := by
  refine FnC_owed hmix (A12_normals_c s) (V := .need [FnC prog (15 : Nat) [] ((dB true))] (.ite (!true) (.done [false = true]) (.need [FnC prog (16 : Nat) [(normals_cd1 s)] ((dB (decide (s.nN ≤ (40 : Nat) ∧ s.nM ≤ (120 : Nat)))))] (.ite (!decide (s.nN ≤ (40 : Nat) ∧ s.nM ≤ (120 : Nat))) (.done [true = true]) (.need [FnC prog (61 : Nat) [(normals_cd1 s)] (.tup [(normals_cd0 s), (dI (chkE s))])] (.need [FnC prog (62 : Nat) [(normals_cd1 s)] (.tup [(normals_cd2 s), (dI (chkE s))])] (.need [FnC prog (19 : Nat) [(normals_cd1 s)] ((dI (chkE s)))] (.ite (chkE s != (0 : Int)) (.need [(chkE s == chkE s) = true → (chkE s == chkE s) = true, (chkE s == chkE s) = true → (chkE s == chkE s) = true, (chkE s == chkE s) = true → (chkE s == chkE s) = true, (q_normals_c_1 s) = true → (q_normals_c_1 s) = true, (q_normals_c_1 s) = true → FnC prog (63 : Nat) [(normals_cd0 s)] ((dB ((q_normals_c_0 s)))), (q_normals_c_1 s) = true → (q_normals_c_1 s) = true, (q_normals_c_2 s) = true → (q_normals_c_2 s) = true, (q_normals_c_2 s) = true → (q_normals_c_2 s) = true, (q_normals_c_2 s) = true → (q_normals_c_2 s) = true] (.done [(if (q_normals_c_2 s) = true then (↑(plN s) : Int) == (0 : Int) else false) = true])) (.need [FnC prog (61 : Nat) [(normals_cd0 s)] (.tup [(normals_cd3 s), (dI (chkE (nmS s)))])] (.need [(chkE s == (0 : Int)) = true → (chkE s == (0 : Int)) = true, (chkE s == (0 : Int)) = true → (chkE s == (0 : Int)) = true, (q_normals_c_3 s) = true → (q_normals_c_3 s) = true, (q_normals_c_3 s) = true → FnC prog (65 : Nat) [(normals_cd1 s)] ((normals_cd4 s)), (q_normals_c_3 s) = true → (q_normals_c_3 s) = true, (q_normals_c_3 s) = true → (q_normals_c_3 s) = true, (q_normals_c_3 s) = true → FnC prog (64 : Nat) [(normals_cd0 s), (normals_cd4 s)] ((dB (sameS (nmS s) (rbS (pls s))))), (q_normals_c_3 s) = true → (q_normals_c_3 s) = true, (q_normals_c_4 s) = true, (q_normals_c_4 s) = true, FnR prog (67 : Nat) [(normals_cd1 s)] s.nM [fun j => (dI (col (pls s) (0 : Nat) j)), fun j => (dI (col (pls s) (1 : Nat) j)), fun j => (dI (col (pls s) (2 :
     Nat) j)), fun j => (dI (col (pls s) (3 : Nat) j)), fun j => (dI (col (pls s) (4 : Nat) j)), fun j => (dI (col (pls s) (5 : Nat) j)), fun j => (dI (col (pls s) (6 : Nat) j))], (q_normals_c_4 s) = true → (q_normals_c_4 s) = true, (q_normals_c_4 s) = true → (q_normals_c_4 s) = true, (q_normals_c_4 s) = true → s.nM ≤ s.nM, (q_normals_c_4 s) = true → FnC prog (66 : Nat) [(normals_cd2 s), .lst s.nM [fun i => (dI (col (pls s) (0 : Nat) i)), fun i => (dI (col (pls s) (1 : Nat) i)), fun i => (dI (col (pls s) (2 : Nat) i)), fun i => (dI (col (pls s) (3 : Nat) i)), fun i => (dI (col (pls s) (4 : Nat) i)), fun i => (dI (col (pls s) (5 : Nat) i)), fun i => (dI (col (pls s) (6 : Nat) i))]] ((dB (sameP (plN s) (col (pls s)) s.nM (col (pls s))))), (q_normals_c_4 s) = true → (q_normals_c_4 s) = true, (q_normals_c_5 s) = true → (q_normals_c_5 s) = true, (q_normals_c_5 s) = true → (q_normals_c_5 s) = true, (q_normals_c_6 s) = true → (q_normals_c_6 s) = true, (q_normals_c_6 s) = true → (q_normals_c_6 s) = true, (q_normals_c_6 s) = true → FnC prog (64 : Nat) [(normals_cd3 s), (normals_cd0 s)] ((dB (sameS (nmS (nmS s)) (nmS s)))), (q_normals_c_6 s) = true → (q_normals_c_6 s) = true] (.done [(if (q_normals_c_6 s) = true then sameS (nmS (nmS s)) (nmS s) else false) = true]))))))))))) (by kernel_rfl) ?_
  simp only [q_normals_c_0, q_normals_c_1, q_normals_c_2, q_normals_c_3, q_normals_c_4, q_normals_c_5, q_normals_c_6, VT.holds, AllT, imp_self, implies_true, and_true, true_and, toNat_succ, toNat_add2, toNat_zero', Int.toNat_natCast, Bool.if_true_left, Bool.if_false_right, Bool.decide_eq_true, Bool.or_eq_true, Bool.or_eq_false_iff, Bool.and_eq_true, Bool.and_eq_false_imp, Bool.not_eq_true', Bool.not_eq_false', Bool.not_not, bne_iff_ne, bne_eq_false_iff_eq, beq_iff_eq, beq_eq_false_iff_ne, decide_eq_true_eq, decide_eq_false_iff_not, ne_eq]
  refine ⟨awake_c, fun h => (by cases h), fun _ => ⟨few_c s, fun ⟨h1, h2⟩ => ?_⟩⟩
  refine ⟨Normal_c s, Places_c s, check_c s, fun h => ?_, fun h => ?_⟩
  · have e : nmS s = zeroS := if_neg h
    refine ⟨fun _ => none_c _, by rw [e]; exact ⟨rfl, rfl⟩, by rw [plN, if_neg h]; rfl⟩
  · have hc := chk_facts h
    have e : nmS s = bldS (pls s) := if_pos h
    have hN : (bldS (pls s)).nN ≤ 480 := by
      have h3 := ndA_len (pls s) (pls s).length
      have h4 := ndS_len (pls s)
      have h5 := pls_len s
      show (ndS (pls s)).length ≤ 480
      omega
    have hM : (bldS (pls s)).nM ≤ 480 := by
      have h5 := pls_len s
      show (pls s).length ≤ 480
      omega
    have hk := chk_bld hc h2
    have e2 : nmS (bldS (pls s)) = bldS (pls s) := by rw [nmS, if_pos hk, pls_bld]
    have s1 := rb_same s
    have s2 : sameS (bldS (pls s)) (bldS (pls s)) = true := decide_eq_true ⟨⟨rfl, rfl⟩, fun _ _ => ⟨rfl, rfl, rfl⟩, fun _ _ => ⟨rfl, rfl, rfl⟩⟩
    have s3 : sameP (plN s) (col (pls s)) s.nM (col (pls s)) = true := decide_eq_true ⟨by rw [plN, if_pos h], fun _ _ => ⟨rfl, rfl, rfl, rfl, rfl, rfl, rfl⟩⟩
    have hp : plN s ≤ 1000000 := by rw [plN, if_pos h]; omega
    have c1 := Normal_c (nmS s)
    simp only [normals_cd0, normals_cd3]
    rw [e] at c1 ⊢
    rw [e2] at c1 ⊢
    exact ⟨c1, ⟨fun _ => normalR_c s hc, fun _ => sameS_c _ _ (by omega) (by omega), ⟨⟨h, h⟩, s1⟩, ⟨⟨h, h⟩, s1⟩, placesR_c s hc, fun _ => Nat.le_refl _, fun _ => sameP_c _ _ _ _ hp, fun _ => sameS_c _ _ (by omega) (by omega)⟩, ⟨⟨⟨⟨h, h⟩, s1⟩, s3⟩, hk⟩, s2⟩
end Go.Abs
end
