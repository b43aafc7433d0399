/- Contracts. -/
import Derived.Test.YtbemjdppfiabgaaK25
set_option linter.unusedVariables false
set_option linter.unusedSimpArgs false
set_option maxRecDepth 100000
namespace Go.Abs
open Go
/-- A scaffold whose nodes are numbered backwards. -/
def revS (s : Scf) : Scf where
  nN := s.nN
  X := fun i => s.X ((s.nN : Int) - 1 - i).toNat
  Y := fun i => s.Y ((s.nN : Int) - 1 - i).toNat
  Z := fun i => s.Z ((s.nN : Int) - 1 - i).toNat
  nM := s.nM
  K := s.K
  A := fun i => (s.nN : Int) - 1 - s.A i
  B := fun i => (s.nN : Int) - 1 - s.B i
/-- The number of a node, backwards. -/
abbrev rv (s : Scf) (a : Int) : Int := (s.nN : Int) - 1 - a
def nm1 (s : Scf) : Bool := sameN (frN s) (fun j => flI (frP s) s.nM j) (frN (revS s)) (fun j => flI (frP (revS s)) s.nM j)
noncomputable def nm2 (s : Scf) : Bool := sameN (rchN s) (fun j => rchI s j) (rchN (revS s)) (fun j => rchI (revS s) j)
def nm3 (s : Scf) (l : Bxs) : Bool := sameN (bkN s l) (fun j => flI (bkP s l) s.nM j) (bkN (revS s) l) (fun j => flI (bkP (revS s) l) s.nM j)
def n0 (_ : Nat) : Int := 0
noncomputable abbrev rcR (s : Scf) : DV := .tup [.lst (rchN s) [fun j => dI (rchI s j)], dI (chkE s)]
abbrev bkD (s : Scf) (l : Bxs) : DV := .tup [.lst (bkN s l) [fun j => dI (flI (bkP s l) s.nM j)], dI (bkE s l)]
section
variable {s : Scf}
theorem rv_def (a : Int) : rv s a = (s.nN : Int) - 1 - a := rfl
theorem rv_nat {a : Int} (ha : 0 ≤ a ∧ a < s.nN) : ((s.nN : Int) - 1 - ((rv s a).toNat : Nat)).toNat = a.toNat := by rw [rv_def]; omega
theorem rv_X {a : Int} (ha : 0 ≤ a ∧ a < s.nN) : (revS s).X (rv s a).toNat = s.X a.toNat := by
  show s.X _ = _; rw [rv_nat ha]
theorem rv_Y {a : Int} (ha : 0 ≤ a ∧ a < s.nN) : (revS s).Y (rv s a).toNat = s.Y a.toNat := by
  show s.Y _ = _; rw [rv_nat ha]
theorem rv_Z {a : Int} (ha : 0 ≤ a ∧ a < s.nN) : (revS s).Z (rv s a).toNat = s.Z a.toNat := by
  show s.Z _ = _; rw [rv_nat ha]
theorem apart_nodes (hc : ScfOK s) {i j : Nat} (hi : i < s.nN) (hj : j < s.nN) (hne : i ≠ j) : ¬ (s.X i = s.X j ∧ s.Y i = s.Y j ∧ s.Z i = s.Z j) := by
  rcases Nat.lt_or_ge i j with h | h
  · exact nAt_no (hc.node j hj).2 i h
  · exact fun h' => nAt_no (hc.node i hi).2 j (by omega) ⟨h'.1.symm, h'.2.1.symm, h'.2.2.symm⟩
theorem rv_nAt (hc : ScfOK s) {x y z : Int} (h : 0 ≤ nAt s s.nN x y z) : nAt (revS s) s.nN x y z = rv s (nAt s s.nN x y z) := by
  have h1 := nAt_is h
  have h2 := nAt_bd h
  generalize hk : nAt s s.nN x y z = k at h h1 h2
  have e : ((rv s k).toNat : Int) = rv s k := by rw [rv_def]; omega
  rw [← e]
  have e2 := rv_def (s := s) k
  refine nAt_at (s := revS s) (fun j hj hx => ?_) ⟨by rw [rv_X ⟨h, h2⟩]; exact h1.1, by rw [rv_Y ⟨h, h2⟩]; exact h1.2.1, by rw [rv_Z ⟨h, h2⟩]; exact h1.2.2⟩ (by rw [rv_def]; omega)
  have hx : s.X ((s.nN : Int) - 1 - j).toNat = x ∧ s.Y ((s.nN : Int) - 1 - j).toNat = y ∧ s.Z ((s.nN : Int) - 1 - j).toNat = z := hx
  rw [← h1.1, ← h1.2.1, ← h1.2.2] at hx
  exact apart_nodes hc (by omega) (by omega) (by omega) hx
theorem rv_nAt_no {x y z : Int} (h : ¬ 0 ≤ nAt s s.nN x y z) : ¬ 0 ≤ nAt (revS s) s.nN x y z := by
  rw [nAt_none (s := revS s) (fun j hj hx => nAt_no h ((s.nN : Int) - 1 - j).toNat (by omega) hx)]
  decide
theorem rv_atH (hc : ScfOK s) (l : List Int) : atH (revS s) s.nN l = atH s s.nN l := by
  by_cases h3 : ∃ x y z, l = [x, y, z]
  · obtain ⟨x, y, z, rfl⟩ := h3
    unfold atH
    show decide (0 ≤ nAt (revS s) s.nN x y z) = decide (0 ≤ nAt s s.nN x y z)
    by_cases h : 0 ≤ nAt s s.nN x y z
    · have := nAt_bd h
      rw [rv_nAt hc h]
      exact decide_eq_decide.2 ⟨fun _ => h, fun _ => by show 0 ≤ (s.nN : Int) - 1 - _; omega⟩
    · exact decide_eq_decide.2 ⟨fun h' => absurd h' (rv_nAt_no h), fun h' => absurd h' h⟩
  · have hn : ∀ x y z, l ≠ [x, y, z] := fun x y z e => h3 ⟨x, y, z, e⟩
    unfold atH
    rw [atL_none (revS s) _ hn, atL_none s _ hn]
theorem rv_crn (hc : ScfOK s) {a b : Int} (ha : 0 ≤ a ∧ a < s.nN) (hb : 0 ≤ b ∧ b < s.nN) (h : crn_ok s a b) (j : Nat) : crn (revS s) (rv s a) (rv s b) j = rv s (crn s a b j) := by
  obtain ⟨h1, h2⟩ := h
  have h1 := of_decide_eq_true h1
  have h2 := of_decide_eq_true h2
  unfold crn
  rw [rv_X ha, rv_X hb, rv_Y ha, rv_Y hb, rv_Z ha]
  split
  · rfl
  · split
    · exact rv_nAt hc h1
    · split
      · rfl
      · exact rv_nAt hc h2
theorem rv_rgt (hc : ScfOK s) {k a b : Int} (ha : 0 ≤ a ∧ a < s.nN) (hb : 0 ≤ b ∧ b < s.nN) : rgtF (revS s) s.nN k (rv s a) (rv s b) = rgtF s s.nN k a b := by
  unfold rgtF
  rw [rv_X ha, rv_X hb, rv_Y ha, rv_Y hb, rv_Z ha, rv_Z hb, rv_atH hc, rv_atH hc]
  congr 1
  exact decide_eq_decide.2 (by show (s.nN : Int) - 1 - a = (s.nN : Int) - 1 - b ↔ _; omega)
theorem rv_ok (hc : ScfOK s) : ScfOK (revS s) where
  nN := hc.nN
  nM := hc.nM
  node := fun i hi => by
    have hi : i < s.nN := hi
    have hr : ((s.nN : Int) - 1 - i).toNat < s.nN := by omega
    refine ⟨(hc.node _ hr).1, ?_⟩
    rw [nAt_none (s := revS s) (fun j hj hx => ?_)]
    · decide
    · exact apart_nodes hc (i := ((s.nN : Int) - 1 - j).toNat) (j := ((s.nN : Int) - 1 - i).toNat) (by omega) (by omega) (by omega) hx
  kind := hc.kind
  ends := fun i hi => by
    have := hc.ends i hi
    show (0 ≤ (s.nN : Int) - 1 - s.A i ∧ (s.nN : Int) - 1 - s.A i < s.nN) ∧ (0 ≤ (s.nN : Int) - 1 - s.B i ∧ (s.nN : Int) - 1 - s.B i < s.nN)
    omega
  right := fun i hi => by
    have h := hc.ends i hi
    have := rv_rgt hc (k := s.K i) h.1 h.2
    exact this.trans (hc.right i hi)
  seen := fun i hi => seen_iff.2 fun j hj h => by
    refine seen_iff.1 (hc.seen i hi) j hj ?_
    have h : [s.K i, (s.nN : Int) - 1 - s.A i, (s.nN : Int) - 1 - s.B i] = [s.K j, (s.nN : Int) - 1 - s.A j, (s.nN : Int) - 1 - s.B j] := h
    simp only [List.cons.injEq, and_true] at h
    simp only [List.cons.injEq, and_true]
    omega
theorem rv_ftB {n : Int} (hn : 0 ≤ n ∧ n < s.nN) : ftB (revS s) s.nM (rv s n).toNat = ftB s s.nM n.toNat := b_iff (by
  rw [ftB_iff, ftB_iff]
  refine exists_congr fun j => and_congr_right fun _ => and_congr_right fun _ => ?_
  show (s.nN : Int) - 1 - s.A j = _ ↔ _
  rw [rv_def]; omega)
theorem rv_ftU {n : Int} (hn : 0 ≤ n ∧ n < s.nN) : ftU (revS s) s.nM (rv s n).toNat = ftU s s.nM n.toNat := b_iff (by
  rw [ftU_iff, ftU_iff]
  refine exists_congr fun j => and_congr_right fun _ => and_congr_right fun _ => ?_
  show (s.nN : Int) - 1 - s.B j = _ ↔ _
  rw [rv_def]; omega)
theorem rv_ftA {n : Int} (hn : 0 ≤ n ∧ n < s.nN) : ftA (revS s) s.nM (rv s n).toNat = ftA s s.nM n.toNat := b_iff (by
  rw [ftA_iff, ftA_iff]
  refine exists_congr fun j => and_congr_right fun _ => and_congr_right fun _ => ?_
  show ((s.nN : Int) - 1 - s.A j = _ ∨ (s.nN : Int) - 1 - s.B j = _) ↔ _
  rw [rv_def]; omega)
theorem rv_endX (hc : ScfOK s) {i : Nat} (hi : i < s.nM) (j : Nat) : endX (revS s) (s.K i) (rv s (s.A i)) (rv s (s.B i)) j = rv s (endX s (s.K i) (s.A i) (s.B i) j) := by
  obtain ⟨hA, hB⟩ := hc.ends i hi
  have hr := hc.right i hi
  unfold endX
  split
  · rename_i h6
    rw [h6] at hr
    exact rv_crn hc hA hB (rgt6 hr).2 j
  · split <;> rfl
theorem rv_endN {k a b : Int} : endN k (rv s a) (rv s b) = endN k a b := by
  unfold endN
  split
  · rfl
  · by_cases h : a = b
    · rw [if_pos h, if_pos (by rw [h])]
    · rw [if_neg h, if_neg (by show ¬ (s.nN : Int) - 1 - a = (s.nN : Int) - 1 - b; omega)]
theorem rv_fr (hc : ScfOK s) {i : Nat} (hi : i < s.nM) : frP s i = frP (revS s) i := by
  obtain ⟨hA, hB⟩ := hc.ends i hi
  have hr := hc.right i hi
  unfold frP
  show _ = if s.K i = 0 then !ftB (revS s) s.nM (rv s (s.A i)).toNat && !ftU (revS s) s.nM (rv s (s.A i)).toNat else decide (0 ≤ ixF (noA (revS s) (fun j => endX (revS s) (s.K i) (rv s (s.A i)) (rv s (s.B i)) j)) (endN (s.K i) (rv s (s.A i)) (rv s (s.B i))))
  rw [rv_ftB hA, rv_ftU hA, rv_endN]
  have hk : s.K i = 6 → crn_ok s (s.A i) (s.B i) := fun h6 => by rw [h6] at hr; exact (rgt6 hr).2
  have e : noA s (fun j => endX s (s.K i) (s.A i) (s.B i) j) = noA (revS s) (fun j => endX (revS s) (s.K i) (rv s (s.A i)) (rv s (s.B i)) j) := funext fun j => by
    unfold noA
    dsimp only
    rw [rv_endX hc hi]
    show _ = !ftA (revS s) s.nM _
    rw [rv_ftA (end_bd hA hB hk j)]
  rw [e]
theorem rv_dkN : ∀ n, dkN (revS s) n = dkN s n
  | 0 => rfl
  | n + 1 => by rw [dkN, dkN, rv_dkN n]; rfl
theorem rv_dkI (q : Nat) : ∀ n, dkI (revS s) n q = dkI s n q
  | 0 => rfl
  | n + 1 => by rw [dkI, dkI, rv_dkI q n, rv_dkN]; rfl
theorem rv_nSd : nSd (revS s) = nSd s := by
  show 4 * dkN (revS s) s.nM = 4 * dkN s s.nM
  rw [rv_dkN]
theorem rv_sdD (x : Nat) : sdD (revS s) x = sdD s x := by
  show ((dkI (revS s) s.nM (x / 4) : Nat) : Int) = _
  rw [rv_dkI]; rfl
theorem rv_crnD (hc : ScfOK s) {d : Nat} (hd : d < s.nM) (h6 : s.K d = 6) (k : Nat) : crnD (revS s) d k = rv s (crnD s d k) := by
  obtain ⟨hA, hB⟩ := hc.ends d hd
  have hr := hc.right d hd
  rw [h6] at hr
  exact rv_crn hc hA hB (rgt6 hr).2 k
theorem rv_sd (hc : ScfOK s) {x : Nat} (hx : x < nSd s) : sdA (revS s) x = rv s (sdA s x) ∧ sdB (revS s) x = rv s (sdB s x) := by
  obtain ⟨d, k, hd, h6, hk, ex, e1, e2, e3⟩ := sd_of hx
  have h := crn_at (s := revS s) (d := d) h6 hd hk
  rw [rv_dkN, ← ex] at h
  rw [h.2.2.1, h.2.2.2, e2, e3]
  exact ⟨rv_crnD hc hd h6 _, rv_crnD hc hd h6 _⟩
theorem rv_smP (a b c d : Int) : smP (rv s a) (rv s b) (rv s c) (rv s d) = smP a b c d := b_iff (by
  rw [smP_iff, smP_iff]
  show ((s.nN : Int) - 1 - a = (s.nN : Int) - 1 - c ∧ (s.nN : Int) - 1 - b = (s.nN : Int) - 1 - d) ∨ ((s.nN : Int) - 1 - a = (s.nN : Int) - 1 - d ∧ (s.nN : Int) - 1 - b = (s.nN : Int) - 1 - c) ↔ _
  omega)
theorem rv_key (hc : ScfOK s) {x y : Nat} (hx : x < nSd s) (hy : y < nSd s) : keyS (revS s) x = keyS (revS s) y ↔ keyS s x = keyS s y := by
  rw [key_iff, key_iff, (rv_sd hc hx).1, (rv_sd hc hx).2, (rv_sd hc hy).1, (rv_sd hc hy).2, rv_smP]
theorem rv_cnt (hc : ScfOK s) {x : Nat} (hx : x < nSd s) : ∀ {n : Nat}, n ≤ nSd s → cntL (revS s) n (keyS (revS s) x) = cntL s n (keyS s x)
  | 0, _ => rfl
  | n + 1, hn => by
    rw [cntL, cntL, rv_cnt hc hx (by omega)]
    have := rv_key hc hx (show n < nSd s by omega)
    by_cases h : keyS s x = keyS s n
    · rw [if_pos h, if_pos (this.2 h)]
    · rw [if_neg h, if_neg (fun h' => h (this.1 h'))]
theorem rv_opn (hc : ScfOK s) {x : Nat} (hx : x < nSd s) : opnP s x = opnP (revS s) x := by
  unfold opnP
  rw [rv_nSd, rv_cnt hc hx (Nat.le_refl _)]
theorem rv_hs (k x y : Int) (i : Nat) : hsP (revS s) k (rv s x) (rv s y) i = hsP s k x y i := by
  unfold hsP
  show (decide (s.K i = k) && smP (rv s (s.A i)) (rv s (s.B i)) (rv s x) (rv s y)) = _
  rw [rv_smP]
theorem rv_unQ (hc : ScfOK s) {x : Nat} (hx : x < nSd s) : unQ s 0 n0 n0 x = unQ (revS s) 0 n0 n0 x := by
  rw [un_eq, un_eq]
  unfold unR
  rw [(rv_sd hc hx).1, (rv_sd hc hx).2]
  show (!anyN _ 0 && _) = (!anyN _ 0 && !(anyN _ s.nM && anyN _ s.nM))
  rw [anyN_eq (rv_hs 4 _ _), anyN_eq (rv_hs 5 _ _)]
  rfl
theorem rv_oN (hc : ScfOK s) : oN (revS s) = oN s := by
  unfold oN
  rw [rv_nSd]
  exact (flN_eq fun x hx => rv_opn hc hx).symm
theorem rv_oI (hc : ScfOK s) (j : Nat) : oI (revS s) j = oI s j := by
  unfold oI
  rw [rv_nSd]
  exact (flI_eq (fun x hx => rv_opn hc hx) j).symm
theorem oI_lt {j : Nat} (hj : j < oN s) : oI s j < nSd s := (flI_in hj).1
theorem rv_unN (hc : ScfOK s) : unN (revS s) 0 n0 n0 = unN s 0 n0 n0 := by
  rw [unN, unN, if_pos (chk_of hc), if_pos (chk_of (rv_ok hc)), rv_oN hc]
  exact (flN_eq fun j hj => by rw [rv_oI hc]; exact rv_unQ hc (oI_lt hj)).symm
theorem rv_unI (hc : ScfOK s) (j : Nat) : unI (revS s) 0 n0 n0 j = unI s 0 n0 n0 j := by
  unfold unI
  rw [rv_oN hc, rv_oI hc]
  congr 1
  exact (flI_eq (fun j hj => by rw [rv_oI hc]; exact rv_unQ hc (oI_lt hj)) j).symm
theorem rv_lad (hc : ScfOK s) {j : Nat} (hj : j < s.nM) : ladP (revS s) j = ladP s j := by
  obtain ⟨hA, hB⟩ := hc.ends j hj
  unfold ladP
  show (decide (s.K j = 7) && decide ((revS s).Z (rv s (s.B j)).toNat - (revS s).Z (rv s (s.A j)).toNat ≤ 6000)) = _
  rw [rv_Z hA, rv_Z hB]
theorem rv_stp (hc : ScfOK s) (f t : Int) : stpB (revS s) (rv s f) (rv s t) = stpB s f t := b_iff (by
  rw [stp_iff, stp_iff]
  refine exists_congr fun j => and_congr_right fun hj => ?_
  rw [rv_lad hc hj]
  refine and_congr_right fun _ => ?_
  show ((s.nN : Int) - 1 - s.A j = (s.nN : Int) - 1 - f ∧ (s.nN : Int) - 1 - s.B j = (s.nN : Int) - 1 - t) ∨ ((s.nN : Int) - 1 - s.A j = (s.nN : Int) - 1 - t ∧ (s.nN : Int) - 1 - s.B j = (s.nN : Int) - 1 - f) ↔ _
  omega)
theorem rv_gr (hc : ScfOK s) {d : Nat} (hd : d < s.nM) (h6 : s.K d = 6) {i : Nat} (hi : i < s.nN) (k : Nat) : gr1 (revS s) d (rv s i).toNat k = gr1 s d i k := by
  have hb := crn_bd hc hd h6 k
  have hi' : (0 : Int) ≤ i ∧ (i : Int) < s.nN := by omega
  have e : (((rv s i).toNat : Nat) : Int) = rv s i := by show ((((s.nN : Int) - 1 - i).toNat : Nat) : Int) = (s.nN : Int) - 1 - i; omega
  unfold gr1
  rw [rv_crnD hc hd h6, rv_Z hb, rv_Z hi', e, rv_stp hc, Int.toNat_natCast]
  show (ftB (revS s) s.nM _ && _) = _
  rw [rv_ftB hi', Int.toNat_natCast]
theorem rv_frG (hc : ScfOK s) {d : Nat} (hd : d < s.nM) (h6 : s.K d = 6) : frG (revS s) d = frG s d := b_iff (by
  unfold frG
  rw [anyN_iff, anyN_iff]
  constructor
  · rintro ⟨i, hi, h⟩
    have hi : i < s.nN := hi
    refine ⟨(rv s i).toNat, by show ((s.nN : Int) - 1 - i).toNat < s.nN; omega, ?_⟩
    obtain ⟨k, hk, h⟩ := anyN_iff.1 h
    refine anyN_iff.2 ⟨k, hk, ?_⟩
    rw [← rv_gr hc hd h6 (by show ((s.nN : Int) - 1 - i).toNat < s.nN; omega) k]
    have e : (rv s ((rv s i).toNat : Nat)).toNat = i := by show ((s.nN : Int) - 1 - ((((s.nN : Int) - 1 - i).toNat : Nat) : Int)).toNat = i; omega
    rw [e]; exact h
  · rintro ⟨i, hi, h⟩
    refine ⟨(rv s i).toNat, by show ((s.nN : Int) - 1 - i).toNat < s.nN; omega, ?_⟩
    obtain ⟨k, hk, h⟩ := anyN_iff.1 h
    exact anyN_iff.2 ⟨k, hk, by rw [rv_gr hc hd h6 hi k]; exact h⟩)
theorem rv_ld (hc : ScfOK s) {d e : Nat} (hd : d < s.nM) (h6 : s.K d = 6) (he : e < s.nM) (h6' : s.K e = 6) : ldB (revS s) d e = ldB s d e := by
  unfold ldB
  refine anyN_eq (fun i => anyN_eq (fun k => ?_) 4) 4
  unfold ld1
  rw [rv_crnD hc hd h6, rv_crnD hc he h6', rv_crnD hc hd h6, rv_crnD hc he h6', rv_stp hc, rv_smP]
theorem rchR_deck {i : Nat} (h : RchR s i) : i < s.nM ∧ s.K i = 6 := by
  cases h with
  | ground h h2 =>
    rw [p0, Bool.and_eq_true, decide_eq_true_eq] at h2
    exact ⟨h, h2.1⟩
  | step _ h h3 _ => exact ⟨h, h3⟩
theorem rv_rch (hc : ScfOK s) (i : Nat) : RchR (revS s) i ↔ RchR s i := by
  constructor
  · intro h
    induction h with
    | ground h h2 =>
      rw [p0, Bool.and_eq_true, decide_eq_true_eq] at h2
      refine .ground h ?_
      rw [p0, Bool.and_eq_true, decide_eq_true_eq]
      exact ⟨h2.1, by rw [← rv_frG hc h h2.1]; exact h2.2⟩
    | step _ h2 h3 h4 ih =>
      have hd := rchR_deck ih
      exact .step ih h2 h3 (by rw [← rv_ld hc hd.1 hd.2 h2 h3]; exact h4)
  · intro h
    induction h with
    | ground h h2 =>
      rw [p0, Bool.and_eq_true, decide_eq_true_eq] at h2
      refine .ground h ?_
      rw [p0, Bool.and_eq_true, decide_eq_true_eq]
      exact ⟨h2.1, by rw [rv_frG hc h h2.1]; exact h2.2⟩
    | step h1 h2 h3 h4 ih =>
      have hd := rchR_deck h1
      exact .step ih h2 h3 (by rw [rv_ld hc hd.1 hd.2 h2 h3]; exact h4)
theorem rv_rchP (hc : ScfOK s) : rchP (revS s) = rchP s := by
  rw [rch_eq hc, rch_eq (rv_ok hc)]
  funext i
  have e := rv_rch hc i
  by_cases h : RchR s i
  · rw [show rchR s i = true from @decide_eq_true _ (Classical.propDecidable _) h, show rchR (revS s) i = true from @decide_eq_true _ (Classical.propDecidable _) (e.2 h)]
  · rw [show rchR s i = false from @decide_eq_false _ (Classical.propDecidable _) h, show rchR (revS s) i = false from @decide_eq_false _ (Classical.propDecidable _) (fun h' => h (e.1 h'))]
theorem rv_bk (hc : ScfOK s) (l : Bxs) {i : Nat} (hi : i < s.nM) : bkP s l i = bkP (revS s) l i := by
  obtain ⟨hA, hB⟩ := hc.ends i hi
  unfold bkP
  rw [ixF_any, ixF_any]
  refine anyN_eq (fun j => ?_) _
  show mtB s (s.K i) (s.A i) (s.B i) l j = mtB (revS s) (s.K i) (rv s (s.A i)) (rv s (s.B i)) l j
  unfold mtB mtF
  rw [rv_X hA, rv_X hB, rv_Y hA, rv_Y hB, rv_Z hA, rv_Z hB]
end
theorem nil_arg {f : FuncId} {a res : DV} {cols : List (Nat → DV)} (h : FnC prog f [a, .lst 0 cols] res) : FnC prog f [a, .val (.slice none 0 0)] res :=
  ⟨h.1, fun S w vs hs ha hg => h.2 S w vs hs (fun j d v hd hv => by
    match j, hd with
    | 0, hd => exact ha 0 d v hd hv
    | 1, hd =>
      cases hd
      have := (ha 1 _ v rfl hv).val_eq
      subst this
      exact .lst (fun _ _ => undef) (Nat.le_refl _) (fun i j f hi => absurd hi (Nat.not_lt_zero i)) (fun h => absurd h (Nat.lt_irrefl 0)) (fun i j f hi => absurd hi (Nat.not_lt_zero i)) (fun i j f hi => absurd hi (Nat.not_lt_zero i))) hg⟩
noncomputable def A7_numbers_c (s : Scf) (l : Bxs) : Ann := { orc := [(1, [(0, .res fun _ => dB true)]), (3, [(1, .res fun _ => dB (fewF s)), (5, .res fun _ => dI (chkE s)), (15, .res fun _ => dI (ckE l))]), (16, [(1, .res fun _ => frD s)]), (17, [(1, .res fun _ => frD (revS s))]), (18, [(1, .res fun _ => unD s 0 n0 n0)]), (19, [(1, .res fun _ => unD (revS s) 0 n0 n0)]), (20, [(1, .res fun _ => rcR s)]), (21, [(1, .res fun _ => rcR (revS s))]), (22, [(2, .res fun _ => bkD s l)]), (23, [(2, .res fun _ => bkD (revS s) l)]), (24, [(19, .res fun _ => dB (nm1 s)), (25, .res fun _ => dB (nm2 s)), (31, .res fun _ => dB (nm3 s l))])], loops := [(0, { ι := Nat, keep := [1, 2, 5, 6], boxes := [2], ts := fun _ i => [(7, dI (i : Int))], bx := fun σ i => [(6, [.row 3 (σ.nx + 50) 0 i, .val (.slice none 0 0)])], rb := fun _ i => [(6, 0, 3, i, [fun j => dI ((revS s).X j), fun j => dI ((revS s).Y j), fun j => dI ((revS s).Z j)])], inv := fun _ i => i ≤ s.nN, mu := fun _ i => s.nN - i, rd := fun _ σ => (iOf (σ.get 7)).toNat }), (2, { ι := Nat, keep := [1, 2, 5, 6], boxes := [2], ts := fun _ i => [(8, dI (i : Int))], bx := fun σ i => [(6, [.row 3 (σ.nx + 50) 0 s.nN, .row 3 (σ.nx + 51) 0 i])], rb := fun _ i => [(6, 0, 3, s.nN, [fun j => dI ((revS s).X j), fun j => dI ((revS s).Y j), fun j => dI ((revS s).Z j)]), (6, 1, 3, i, [fun j => dI (s.K j), fun j => dI ((revS s).A j), fun j => dI ((revS s).B j)])], inv := fun _ i => i ≤ s.nM, mu := fun _ i => s.nM - i, rd := fun _ σ => (iOf (σ.get 8)).toNat }), (4, { ι := Nat, keep := [5, 14, 16], boxes := [], ts := fun _ i => [(26, dI (i : Int))], inv := fun _ i => i ≤ unN s 0 n0 n0, mu := fun _ i => unN s 0 n0 n0 - i, rd := fun _ σ => (iOf (σ.get 26)).toNat })], cuts := [], frzs := [(16, [(6, 0), (6, 1)])] }
noncomputable abbrev q_numbers_c_0 (l : Bxs) : Bool := decide ((↑l.n : Int) > (10 : Int))
noncomputable abbrev q_numbers_c_1 (s : Scf) : Bool := decide (s.nN ≤ (40 : Nat) ∧ s.nM ≤ (120 : Nat))
noncomputable abbrev q_numbers_c_2 (s : Scf) : Bool := if (!(q_numbers_c_1 s)) = true then true else chkE s != (0 : Int)
noncomputable abbrev q_numbers_c_3 (s : Scf) (l : Bxs) : Bool := !if (q_numbers_c_2 s) = true then true else (q_numbers_c_0 l)
noncomputable abbrev q_numbers_c_4 (s : Scf) : Bool := !if (!(q_numbers_c_1 s)) = true then true else chkE s != (0 : Int)
noncomputable abbrev q_numbers_c_5 (s : Scf) (l : Bxs) : Bool := !chkE s + chkE s + chkE s + bkE s l + chkE (revS s) + chkE (revS s) + chkE (revS s) + bkE (revS s) l != (0 : Int)
noncomputable abbrev q_numbers_c_6 (s : Scf) (l : Bxs) : Bool := if (chkE s + chkE s + chkE s + bkE s l + chkE (revS s) + chkE (revS s) + chkE (revS s) + bkE (revS s) l != (0 : Int)) = true then true else !nm1 s
noncomputable abbrev q_numbers_c_7 (s : Scf) (l : Bxs) : Bool := if (q_numbers_c_6 s l) = true then true else !nm2 s
noncomputable abbrev q_numbers_c_8 (s : Scf) (l : Bxs) : Bool := !if (q_numbers_c_6 s l) = true then true else !nm2 s
noncomputable abbrev q_numbers_c_9 (s : Scf) (l : Bxs) : Bool := !if (q_numbers_c_7 s l) = true then true else !nm3 s l
noncomputable abbrev q_numbers_c_10 (s : Scf) (l : Bxs) : Bool := !if (chkE s + chkE s + chkE s + bkE s l + chkE (revS s) + chkE (revS s) + chkE (revS s) + bkE (revS s) l != (0 : Int)) = true then true else !nm1 s
noncomputable abbrev numbers_cd0 (s : Scf) : DV := .agg [.lst s.nN [fun i => (dI (s.X i)), fun i => (dI (s.Y i)), fun i => (dI (s.Z i))], .lst s.nM [fun i => (dI (s.K i)), fun i => (dI (s.A i)), fun i => (dI (s.B i))]]
noncomputable abbrev numbers_cd1 (s : Scf) : DV := .lst s.nN [fun i => (dI ((revS s).2 (i + (0 : Nat)))), fun i => (dI ((revS s).3 (i + (0 : Nat)))), fun i => (dI ((revS s).4 (i + (0 : Nat))))]
noncomputable abbrev numbers_cd2 (l : Bxs) : DV := .lst l.n [fun i => (dI (l.x1 i)), fun i => (dI (l.y1 i)), fun i => (dI (l.z1 i)), fun i => (dI (l.x2 i)), fun i => (dI (l.y2 i)), fun i => (dI (l.z2 i))]
noncomputable abbrev numbers_cr0 (s : Scf) (r : List Prop) : List Prop := ((↑s.nN : Int) - (1 : Int) = (↑s.nN : Int) - (1 : Int)) :: (unN s (0 : Nat) n0 n0 = unN s (0 : Nat) n0 n0) :: (∀ (i : Nat), i < unN s (0 : Nat) n0 n0 → sdD s (unI s (0 : Nat) n0 n0 i) = sdD s (unI s (0 : Nat) n0 n0 i)) :: (∀ (i : Nat), i < unN s (0 : Nat) n0 n0 → sdA s (unI s (0 : Nat) n0 n0 i) = sdA s (unI s (0 : Nat) n0 n0 i)) :: (∀ (i : Nat), i < unN s (0 : Nat) n0 n0 → sdB s (unI s (0 : Nat) n0 n0 i) = sdB s (unI s (0 : Nat) n0 n0 i)) :: (unN (revS s) (0 : Nat) n0 n0 = unN (revS s) (0 : Nat) n0 n0) :: (∀ (i : Nat), i < unN (revS s) (0 : Nat) n0 n0 → sdD (revS s) (unI (revS s) (0 : Nat) n0 n0 i) = sdD (revS s) (unI (revS s) (0 : Nat) n0 n0 i)) :: (∀ (i : Nat), i < unN (revS s) (0 : Nat) n0 n0 → sdA (revS s) (unI (revS s) (0 : Nat) n0 n0 i) = sdA (revS s) (unI (revS s) (0 : Nat) n0 n0 i)) :: (∀ (i : Nat), i < unN (revS s) (0 : Nat) n0 n0 → sdB (revS s) (unI (revS s) (0 : Nat) n0 n0 i) = sdB (revS s) (unI (revS s) (0 : Nat) n0 n0 i)) :: r
noncomputable abbrev numbers_cr1 (s : Scf) (l : Bxs) (r : List Prop) : List Prop := (l.n = l.n) :: (∀ (i : Nat), i < l.n → l.x1 i = l.x1 i) :: (∀ (i : Nat), i < l.n → l.y1 i = l.y1 i) :: (∀ (i : Nat), i < l.n → l.z1 i = l.z1 i) :: (∀ (i : Nat), i < l.n → l.x2 i = l.x2 i) :: (∀ (i : Nat), i < l.n → l.y2 i = l.y2 i) :: (∀ (i : Nat), i < l.n → l.z2 i = l.z2 i) :: ((↑s.nN : Int) - (1 : Int) = (↑s.nN : Int) - (1 : Int)) :: r
noncomputable abbrev numbers_cr2 (s : Scf) (r : List Prop) : List Prop := (s.nN = s.nN) :: (∀ (i : Nat), i < s.nN → s.X i = s.X i) :: (∀ (i : Nat), i < s.nN → s.Y i = s.Y i) :: (∀ (i : Nat), i < s.nN → s.Z i = s.Z i) :: (s.nM = s.nM) :: (∀ (i : Nat), i < s.nM → s.K i = s.K i) :: (∀ (i : Nat), i < s.nM → s.A i = s.A i) :: (∀ (i : Nat), i < s.nM → s.B i = s.B i) :: r
theorem numbers_c (s : Scf) (l : Bxs)  : FnC prog 7 [scfD s, bxsD l] (dB true) := by
  refine FnC_owed hmix (A7_numbers_c s l) (V := .need [FnC prog (15 : Nat) [] ((dB true))] (.ite (!true) (.done [false = true]) (.need [FnC prog (16 : Nat) [(numbers_cd0 s)] ((dB ((q_numbers_c_1 s)))), (!!(q_numbers_c_1 s)) = true → (!!(q_numbers_c_1 s)) = true, (!!(q_numbers_c_1 s)) = true → FnC prog (19 : Nat) [(numbers_cd0 s)] ((dI (chkE s))), (!!(q_numbers_c_1 s)) = true → (!!(q_numbers_c_1 s)) = true, (!(q_numbers_c_1 s)) = false → (!!(q_numbers_c_1 s)) = true, (q_numbers_c_4 s) = true → (q_numbers_c_4 s) = true, (q_numbers_c_4 s) = true → (q_numbers_c_4 s) = true, (q_numbers_c_2 s) = false → (q_numbers_c_4 s) = true, (q_numbers_c_3 s l) = true → (q_numbers_c_3 s l) = true, (q_numbers_c_3 s l) = true → FnC prog (22 : Nat) [(numbers_cd2 l)] ((dI (ckE l))), (q_numbers_c_3 s l) = true → (q_numbers_c_3 s l) = true, (if (q_numbers_c_2 s) = true then true else (q_numbers_c_0 l)) = false → (q_numbers_c_3 s l) = true] (.ite (if (if (q_numbers_c_2 s) = true then true else (q_numbers_c_0 l)) = true then true else ckE l != (0 : Int)) (.done [true = true]) (.need [i64In ((↑s.nN : Int) - (1 : Int))] (.loop Nat (fun a => a ≤ s.nN) (Int.toNat (0 : Int)) (((0 : Int) = (↑(Int.toNat (0 : Int)) : Int)) :: (numbers_cr1 s l ((Int.toNat (0 : Int) = (0 : Nat)) :: (((0 : Nat) = (0 : Nat)) :: ((Int.toNat (0 : Int) = (0 : Nat)) :: ((Value.slice none (0 : Nat) (0 : Nat) = Value.slice none (0 : Nat) (0 : Nat)) :: (numbers_cr2 s []))))))) fun i => .ite (decide ((↑i : Int) ≤ (↑s.nN : Int) - (1 : Int))) (.need [i64In ((↑s.nN : Int) - (1 : Int) - (↑i : Int)), (0 : Int) ≤ (↑s.nN : Int) - (1 : Int) - (↑i : Int) ∧ (↑s.nN : Int) - (1 : Int) - (↑i : Int) < (↑s.nN : Int), i ≤ i, (i + (1 : Nat)) * (nat_lit 23 + (1 : Nat)) ≤ (140737488355328 : Nat), (1 : Nat) ≤ (1 : Nat)] (.need [i64In ((↑i : Int) + (1 : Int))] (.done (((↑i : Int) + (1 : Int) = (↑(Int.toNat ((↑i : Int) + (1 : Int))) : Int)) :: (numbers_cr1 s l ((i + (1 : Nat) = Int.toNat ((↑i : Int) + (1 : Int))) :: ((∀ (i_1 : Nat), i_1 < Int.toNat ((↑i : Int) + (1 : Int)) → (if decide (i_1 < i) =
     true then (revS s).2 i_1 else s.X (Int.toNat ((↑s.nN : Int) - (1 : Int) - (↑i : Int)))) = (revS s).2 i_1) :: ((∀ (i_1 : Nat), i_1 < Int.toNat ((↑i : Int) + (1 : Int)) → (if decide (i_1 < i) = true then (revS s).3 i_1 else s.Y (Int.toNat ((↑s.nN : Int) - (1 : Int) - (↑i : Int)))) = (revS s).3 i_1) :: ((∀ (i_1 : Nat), i_1 < Int.toNat ((↑i : Int) + (1 : Int)) → (if decide (i_1 < i) = true then (revS s).4 i_1 else s.Z (Int.toNat ((↑s.nN : Int) - (1 : Int) - (↑i : Int)))) = (revS s).4 i_1) :: (((0 : Nat) = (0 : Nat)) :: ((i + (1 : Nat) = Int.toNat ((↑i : Int) + (1 : Int))) :: ((Value.slice none (0 : Nat) (0 : Nat) = Value.slice none (0 : Nat) (0 : Nat)) :: (numbers_cr2 s [Int.toNat ((↑i : Int) + (1 : Int)) ≤ s.nN, s.nN - Int.toNat ((↑i : Int) + (1 : Int)) < s.nN - i]))))))))))))) (.loop Nat (fun a => a ≤ s.nM) (Int.toNat (0 : Int)) (((0 : Int) = (↑(Int.toNat (0 : Int)) : Int)) :: (numbers_cr1 s l ((i = s.nN) :: ((∀ (i : Nat), i < s.nN → (revS s).2 i = (revS s).2 i) :: ((∀ (i : Nat), i < s.nN → (revS s).3 i = (revS s).3 i) :: ((∀ (i : Nat), i < s.nN → (revS s).4 i = (revS s).4 i) :: ((Int.toNat (0 : Int) = (0 : Nat)) :: (((0 : Nat) = (0 : Nat)) :: ((i = s.nN) :: (((0 : Nat) = (0 : Nat)) :: ((Int.toNat (0 : Int) = (0 : Nat)) :: (numbers_cr2 s [])))))))))))) fun i => .ite (decide ((↑i : Int) < (↑s.nM : Int))) (.need [(0 : Int) ≤ (↑i : Int) ∧ (↑i : Int) < (↑s.nM : Int)] (.need [i64In ((↑s.nN : Int) - (1 : Int) - s.A (Int.toNat (↑i : Int))), i64In ((↑s.nN : Int) - (1 : Int) - s.B (Int.toNat (↑i : Int))), i ≤ i, (i + (1 : Nat)) * (nat_lit 23 + (1 : Nat)) ≤ (140737488355328 : Nat), (1 : Nat) ≤ (1 : Nat)] (.need [i64In ((↑i : Int) + (1 : Int))] (.done (((↑i : Int) + (1 : Int) = (↑(Int.toNat ((↑i : Int) + (1 : Int))) : Int)) :: (numbers_cr1 s l ((s.nN = s.nN) :: ((∀ (i : Nat), i < s.nN → (revS s).2 i = (revS s).2 i) :: ((∀ (i : Nat), i < s.nN → (revS s).3 i = (revS s).3 i) :: ((∀ (i : Nat), i < s.nN → (revS s).4 i = (revS s).4 i) :: ((i + (1 : Nat) = Int.toNat ((↑i : Int) + (1 :
     Int))) :: ((∀ (i_1 : Nat), i_1 < Int.toNat ((↑i : Int) + (1 : Int)) → (if decide (i_1 < i) = true then s.K i_1 else s.K (Int.toNat (↑i : Int))) = s.K i_1) :: ((∀ (i_1 : Nat), i_1 < Int.toNat ((↑i : Int) + (1 : Int)) → (if decide (i_1 < i) = true then (revS s).7 i_1 else (↑s.nN : Int) - (1 : Int) - s.A (Int.toNat (↑i : Int))) = (revS s).7 i_1) :: ((∀ (i_1 : Nat), i_1 < Int.toNat ((↑i : Int) + (1 : Int)) → (if decide (i_1 < i) = true then (revS s).8 i_1 else (↑s.nN : Int) - (1 : Int) - s.B (Int.toNat (↑i : Int))) = (revS s).8 i_1) :: (((0 : Nat) = (0 : Nat)) :: ((s.nN = s.nN) :: (((0 : Nat) = (0 : Nat)) :: ((i + (1 : Nat) = Int.toNat ((↑i : Int) + (1 : Int))) :: (numbers_cr2 s [Int.toNat ((↑i : Int) + (1 : Int)) ≤ s.nM, s.nM - Int.toNat ((↑i : Int) + (1 : Int)) < s.nM - i]))))))))))))))))))) (.need [s.nN ≤ s.nN, i ≤ i] (.need [FnC prog (26 : Nat) [(numbers_cd0 s)] (.tup [.lst (frN s) [fun j => (dI (↑(flI (frP s) s.nM j) : Int))], (dI (chkE s))])] (.need [FnC prog (26 : Nat) [.agg [(numbers_cd1 s), .lst i [fun i => (dI (s.K i)), fun i => (dI ((revS s).7 (i + (0 : Nat)))), fun i => (dI ((revS s).8 (i + (0 : Nat))))]]] (.tup [.lst (frN (revS s)) [fun j => (dI (↑(flI (frP (revS s)) (revS s).5 j) : Int))], (dI (chkE (revS s)))])] (.need [FnC prog (34 : Nat) [(numbers_cd0 s), .val (Value.slice none (0 : Nat) (0 : Nat))] (.tup [.lst (unN s (0 : Nat) n0 n0) [fun j => (dI (sdD s (unI s (0 : Nat) n0 n0 j))), fun j => (dI (sdA s (unI s (0 : Nat) n0 n0 j))), fun j => (dI (sdB s (unI s (0 : Nat) n0 n0 j)))], (dI (chkE s))])] (.need [FnC prog (34 : Nat) [.agg [(numbers_cd1 s), .lst i [fun i => (dI (s.K i)), fun i => (dI ((revS s).7 (i + (0 : Nat)))), fun i => (dI ((revS s).8 (i + (0 : Nat))))]], .val (Value.slice none (0 : Nat) (0 : Nat))] (.tup [.lst (unN (revS s) (0 : Nat) n0 n0) [fun j => (dI (sdD (revS s) (unI (revS s) (0 : Nat) n0 n0 j))), fun j => (dI (sdA (revS s) (unI (revS s) (0 : Nat) n0 n0 j))), fun j => (dI (sdB (revS s) (unI (revS s) (0 : Nat) n0 n0 j)))], (dI (chkE
     (revS s)))])] (.need [FnC prog (17 : Nat) [(numbers_cd0 s)] (.tup [.lst (rchN s) [fun j => (dI (↑(rchI s j) : Int))], (dI (chkE s))])] (.need [FnC prog (17 : Nat) [.agg [(numbers_cd1 s), .lst i [fun i => (dI (s.K i)), fun i => (dI ((revS s).7 (i + (0 : Nat)))), fun i => (dI ((revS s).8 (i + (0 : Nat))))]]] (.tup [.lst (rchN (revS s)) [fun j => (dI (↑(rchI (revS s) j) : Int))], (dI (chkE (revS s)))])] (.need [FnC prog (18 : Nat) [(numbers_cd0 s), (numbers_cd2 l)] (.tup [.lst (bkN s l) [fun j => (dI (↑(flI (bkP s l) s.nM j) : Int))], (dI (bkE s l))])] (.need [FnC prog (18 : Nat) [.agg [(numbers_cd1 s), .lst i [fun i => (dI (s.K i)), fun i => (dI ((revS s).7 (i + (0 : Nat)))), fun i => (dI ((revS s).8 (i + (0 : Nat))))]], (numbers_cd2 l)] (.tup [.lst (bkN (revS s) l) [fun j => (dI (↑(flI (bkP (revS s) l) (revS s).5 j) : Int))], (dI (bkE (revS s) l))])] (.need [i64In (chkE s + chkE s), i64In (chkE s + chkE s + chkE s), i64In (chkE s + chkE s + chkE s + bkE s l), i64In (chkE s + chkE s + chkE s + bkE s l + chkE (revS s)), i64In (chkE s + chkE s + chkE s + bkE s l + chkE (revS s) + chkE (revS s)), i64In (chkE s + chkE s + chkE s + bkE s l + chkE (revS s) + chkE (revS s) + chkE (revS s)), i64In (chkE s + chkE s + chkE s + bkE s l + chkE (revS s) + chkE (revS s) + chkE (revS s) + bkE (revS s) l), (q_numbers_c_5 s l) = true → (q_numbers_c_5 s l) = true, (q_numbers_c_5 s l) = true → (q_numbers_c_5 s l) = true, (q_numbers_c_5 s l) = true → FnC prog (20 : Nat) [.lst (frN s) [fun j => (dI (↑(flI (frP s) s.nM j) : Int))], .lst (frN (revS s)) [fun j => (dI (↑(flI (frP (revS s)) (revS s).5 j) : Int))]] ((dB (nm1 s))), (q_numbers_c_5 s l) = true → (q_numbers_c_5 s l) = true, (chkE s + chkE s + chkE s + bkE s l + chkE (revS s) + chkE (revS s) + chkE (revS s) + bkE (revS s) l != (0 : Int)) = false → (q_numbers_c_5 s l) = true, (q_numbers_c_10 s l) = true → (q_numbers_c_10 s l) = true, (q_numbers_c_10 s l) = true → (q_numbers_c_10 s l) = true, (q_numbers_c_10 s l) = true → FnC prog
     (20 : Nat) [.lst (rchN s) [fun j => (dI (↑(rchI s j) : Int))], .lst (rchN (revS s)) [fun j => (dI (↑(rchI (revS s) j) : Int))]] ((dB (nm2 s))), (q_numbers_c_10 s l) = true → (q_numbers_c_10 s l) = true, (q_numbers_c_6 s l) = false → (q_numbers_c_10 s l) = true, (q_numbers_c_8 s l) = true → (q_numbers_c_8 s l) = true, (q_numbers_c_8 s l) = true → (q_numbers_c_8 s l) = true, (q_numbers_c_8 s l) = true → FnC prog (20 : Nat) [.lst (bkN s l) [fun j => (dI (↑(flI (bkP s l) s.nM j) : Int))], .lst (bkN (revS s) l) [fun j => (dI (↑(flI (bkP (revS s) l) (revS s).5 j) : Int))]] ((dB (nm3 s l))), (q_numbers_c_8 s l) = true → (q_numbers_c_8 s l) = true, (q_numbers_c_7 s l) = false → (q_numbers_c_8 s l) = true, (q_numbers_c_9 s l) = true → (q_numbers_c_9 s l) = true, (q_numbers_c_9 s l) = true → (q_numbers_c_9 s l) = true, (q_numbers_c_9 s l) = true → (q_numbers_c_9 s l) = true, (q_numbers_c_9 s l) = true → (q_numbers_c_9 s l) = true, (if (q_numbers_c_7 s l) = true then true else !nm3 s l) = false → (q_numbers_c_9 s l) = true] (.ite (if (if (q_numbers_c_7 s l) = true then true else !nm3 s l) = true then true else (↑(unN s (0 : Nat) n0 n0) : Int) != (↑(unN (revS s) (0 : Nat) n0 n0) : Int)) (.done [false = true]) (.loop Nat (fun a => a ≤ unN s (0 : Nat) n0 n0) (Int.toNat (0 : Int)) (((0 : Int) = (↑(Int.toNat (0 : Int)) : Int)) :: (numbers_cr0 s [])) fun i => .ite (decide ((↑i : Int) < (↑(unN s (0 : Nat) n0 n0) : Int))) (.need [(0 : Int) ≤ (↑i : Int) ∧ (↑i : Int) < (↑(unN (revS s) (0 : Nat) n0 n0) : Int), (0 : Int) ≤ (↑i : Int) ∧ (↑i : Int) < (↑(unN s (0 : Nat) n0 n0) : Int), (0 : Int) ≤ (↑i : Int) ∧ (↑i : Int) < (↑(unN s (0 : Nat) n0 n0) : Int), i64In ((↑s.nN : Int) - (1 : Int) - sdA s (unI s (0 : Nat) n0 n0 (Int.toNat (↑i : Int)))), (0 : Int) ≤ (↑i : Int) ∧ (↑i : Int) < (↑(unN s (0 : Nat) n0 n0) : Int), i64In ((↑s.nN : Int) - (1 : Int) - sdB s (unI s (0 : Nat) n0 n0 (Int.toNat (↑i : Int))))] (.ite (!(sdD (revS s) (unI (revS s) (0 : Nat) n0 n0 (Int.toNat (↑i : Int))) == sdD s (unI
     s (0 : Nat) n0 n0 (Int.toNat (↑i : Int))) && (sdA (revS s) (unI (revS s) (0 : Nat) n0 n0 (Int.toNat (↑i : Int))) == (↑s.nN : Int) - (1 : Int) - sdA s (unI s (0 : Nat) n0 n0 (Int.toNat (↑i : Int))) && (sdB (revS s) (unI (revS s) (0 : Nat) n0 n0 (Int.toNat (↑i : Int))) == (↑s.nN : Int) - (1 : Int) - sdB s (unI s (0 : Nat) n0 n0 (Int.toNat (↑i : Int))) && true)))) (.done [false = true]) (.need [i64In ((↑i : Int) + (1 : Int))] (.done (((↑i : Int) + (1 : Int) = (↑(Int.toNat ((↑i : Int) + (1 : Int))) : Int)) :: (numbers_cr0 s [Int.toNat ((↑i : Int) + (1 : Int)) ≤ unN s (0 : Nat) n0 n0, unN s (0 : Nat) n0 n0 - Int.toNat ((↑i : Int) + (1 : Int)) < unN s (0 : Nat) n0 n0 - i])))))) (.done [true = true])))))))))))))))))))) (by kernel_rfl) ?_
  simp only [q_numbers_c_0, q_numbers_c_1, q_numbers_c_2, q_numbers_c_3, q_numbers_c_4, q_numbers_c_5, q_numbers_c_6, q_numbers_c_7, q_numbers_c_8, q_numbers_c_9, q_numbers_c_10, VT.holds, AllT, imp_self, implies_true, and_true, true_and, toNat_succ, toNat_add2, toNat_zero', Int.toNat_natCast, Bool.if_true_left, Bool.if_false_right, Bool.decide_eq_true, Bool.or_eq_true, Bool.or_eq_false_iff, Bool.and_eq_true, Bool.and_eq_false_imp, Bool.not_eq_true', Bool.not_eq_false', Bool.not_not, bne_iff_ne, bne_eq_false_iff_eq, beq_iff_eq, beq_eq_false_iff_ne, decide_eq_true_eq, decide_eq_false_iff_not, ne_eq]
  refine ⟨awake_c, fun h => (by cases h), fun _ => ⟨⟨few_c s, fun _ => check_c s, fun _ => checkBoxes_c l⟩, fun ⟨h, hb⟩ => ?_⟩⟩
  have h0 : chkE s = 0 := by
    cases e : decide (chkE s = 0) with
    | true => exact of_decide_eq_true e
    | false => exact absurd (.inl (.inr (of_decide_eq_false e))) h
  have hc := chk_facts h0
  have hr := rv_ok hc
  have h0r := chk_of hr
  have hm := hc.nM
  have hn := hc.nN
  have hS : nSd s ≤ 16000 := by have := dkN_le s s.nM; show 4 * dkN s s.nM ≤ 16000; omega
  have hE : bkE s l = 0 := by rw [bkE, if_neg (by rw [h0]; decide)]; exact hb
  have hEr : bkE (revS s) l = 0 := by rw [bkE, if_neg (by rw [h0r]; decide)]; exact hb
  have un : ∀ t : Scf, FnC prog 34 [scfD t, DV.val (Value.slice none 0 0)] (unD t 0 n0 n0) := fun t => nil_arg (Unprotected_c t 0 n0 n0 n0 (by decide))
  have sel : ∀ {α : Type} (f : Nat → α) (g : α) (i j : Nat), j < i + 1 → g = f i → (if j < i then f j else g) = f j := fun f g i j hj hg => by
    split
    · rfl
    · obtain rfl : j = i := by omega
      exact hg
  refine ⟨by unfold i64In; omega, rfl, Nat.zero_le _, fun i hi => ⟨fun hlt => ?_, fun hge => ⟨⟨rfl, by omega, by omega⟩, Nat.zero_le _, fun k hk => ⟨fun hlt => ?_, fun hge => ?_⟩⟩⟩⟩
  · exact ⟨⟨by unfold i64In; omega, by omega, Nat.le_refl _, by omega, Nat.le_refl _⟩, by unfold i64In; omega, by omega, fun j hj => sel (revS s).X _ i j hj rfl, fun j hj => sel (revS s).Y _ i j hj rfl, fun j hj => sel (revS s).Z _ i j hj rfl, by omega, by omega⟩
  · obtain ⟨hA, hB⟩ := hc.ends k (by omega)
    exact ⟨by omega, ⟨by unfold i64In; omega, by unfold i64In; omega, Nat.le_refl _, by omega, Nat.le_refl _⟩, by unfold i64In; omega, by omega, fun j hj => sel s.K _ k j hj rfl, fun j hj => sel (revS s).A _ k j hj rfl, fun j hj => sel (revS s).B _ k j hj rfl, by omega, by omega⟩
  · obtain rfl : k = s.nM := by omega
    have b1 : frN s ≤ s.nM := by rw [frN, if_pos h0]; exact flN_le _ _
    have b2 : rchN s ≤ s.nM := by rw [rchN, if_pos h0]; exact flN_le _ _
    have b3 : bkN s l ≤ s.nM := by rw [bkN, if_pos hE]; exact flN_le _ _
    have s1 : nm1 s = true := decide_eq_true ⟨by rw [frN, frN, if_pos h0, if_pos h0r]; exact flN_eq fun i hi => rv_fr hc hi, fun j _ => congrArg Int.ofNat (flI_eq (p := frP s) (q := frP (revS s)) (fun i hi => rv_fr hc hi) j)⟩
    have s2 : nm2 s = true := decide_eq_true ⟨by rw [rchN, rchN, if_pos h0, if_pos h0r, rv_rchP hc]; rfl, fun j _ => by unfold rchI; rw [rv_rchP hc]; rfl⟩
    have s3 : nm3 s l = true := decide_eq_true ⟨by rw [bkN, bkN, if_pos hE, if_pos hEr]; exact flN_eq fun i hi => rv_bk hc l hi, fun j _ => congrArg Int.ofNat (flI_eq (p := bkP s l) (q := bkP (revS s) l) (fun i hi => rv_bk hc l hi) j)⟩
    have hs : chkE s + chkE s + chkE s + bkE s l + chkE (revS s) + chkE (revS s) + chkE (revS s) + bkE (revS s) l = 0 := by omega
    have eN := rv_unN hc
    have hno : ¬(((¬chkE s + chkE s + chkE s + bkE s l + chkE (revS s) + chkE (revS s) + chkE (revS s) + bkE (revS s) l = 0 ∨ nm1 s = false) ∨ nm2 s = false) ∨ nm3 s l = false) := by
      rintro (((h | h) | h) | h)
      · exact h hs
      · rw [s1] at h; cases h
      · rw [s2] at h; cases h
      · rw [s3] at h; cases h
    refine ⟨⟨Nat.le_refl _, Nat.le_refl _⟩, Free_c s, Free_c (revS s), un s, un (revS s), Reached_c s, Reached_c (revS s), Blocked_c s l, Blocked_c (revS s) l, ⟨by unfold i64In; omega, by unfold i64In; omega, by unfold i64In; omega, by unfold i64In; omega, by unfold i64In; omega, by unfold i64In; omega, by unfold i64In; omega, fun _ => ints_c _ _ _ _ (by omega), fun _ => ints_c _ _ _ _ (by omega), fun _ => ints_c _ _ _ _ (by omega)⟩, fun h => ?_, fun _ => ⟨rfl, Nat.zero_le _, fun i hi hlt => ?_⟩⟩
    · rcases h with h | h
      · exact absurd h hno
      · exact absurd (by rw [eN]) h
    · have hlt : i < unN s 0 n0 n0 := by omega
      have b4 : unN s 0 n0 n0 ≤ nSd s := by rw [unN, if_pos h0]; exact Nat.le_trans (flN_le _ _) (flN_le _ _)
      have hx : unI s 0 n0 n0 i < nSd s := by
        rw [unN, if_pos h0] at hlt
        exact oI_lt (flI_in hlt).1
      obtain ⟨d, k, hd, h6, _, _, _, e2, e3⟩ := sd_of hx
      have c1 := crn_bd hc hd h6 k
      have c2 := crn_bd hc hd h6 ((k + 1) % 4)
      rw [← e2] at c1
      rw [← e3] at c2
      have r1 := rv_sd hc hx
      have eI := rv_unI hc i
      have eD : sdD (revS s) (unI (revS s) 0 n0 n0 i) = sdD s (unI s 0 n0 n0 i) := by rw [eI, rv_sdD]
      have eA : sdA (revS s) (unI (revS s) 0 n0 n0 i) = (s.nN : Int) - 1 - sdA s (unI s 0 n0 n0 i) := by rw [eI, r1.1]
      have eB : sdB (revS s) (unI (revS s) 0 n0 n0 i) = (s.nN : Int) - 1 - sdB s (unI s 0 n0 n0 i) := by rw [eI, r1.2]
      exact ⟨⟨by rw [eN]; omega, by omega, by omega, by unfold i64In; omega, by omega, by unfold i64In; omega⟩, fun h => absurd (h eD eA eB) (by decide), fun _ => ⟨by unfold i64In; omega, by omega, by omega, by omega⟩⟩
end Go.Abs
