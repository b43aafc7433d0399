/- Contracts. -/
import Derived.Test.YtdhnfeoigmeopaaDoorK71
set_option maxRecDepth 100000
namespace Go.Abs
open Go
theorem numL_eq {A A' : Nat → Int} : ∀ {n : Nat}, (∀ k, k < n → A k = A' k) → numL A n = numL A' n
  | 0, _ => rfl
  | n + 1, h => by rw [numL, numL, numL_eq fun k hk => h k (by omega), h n (by omega)]
theorem lnS_eq {w : ByteArray} {n : Nat} {A A' : Nat → Int} (h : ∀ k, k < n → A k = A' k) : lnS w n A = lnS w n A' := by rw [lnS, lnS, numL_eq h]
theorem anyBad_eq {n : Nat} {A A' : Nat → Int} (h : ∀ k, k < n → A k = A' k) : anyBad n A = anyBad n A' := by
  rw [Bool.eq_iff_iff]
  unfold anyBad
  rw [anyN_true, anyN_true]
  exact ⟨fun ⟨k, hk, e⟩ => ⟨k, hk, by rw [← h k hk]; exact e⟩, fun ⟨k, hk, e⟩ => ⟨k, hk, by rw [h k hk]; exact e⟩⟩
theorem rise_eq {n : Nat} {A A' : Nat → Int} (h : ∀ k, k < n → A k = A' k) : rise n A = rise n A' := by
  unfold rise
  refine decide_eq_decide.2 ⟨fun g k hk h0 => ?_, fun g k hk h0 => ?_⟩
  · rw [← h k hk, ← h (k - 1) (by omega)]; exact g k hk h0
  · rw [h k hk, h (k - 1) (by omega)]; exact g k hk h0
theorem sysE_eq {nB : Nat} {B B' : Nat → Int} {nO : Nat} {O O' : Nat → Int} {W G L : Int} (hB : ∀ k, k < nB → B k = B' k) (hO : ∀ k, k < nO → O k = O' k) : sysE nB B nO O W G L = sysE nB B' nO O' W G L := by
  unfold sysE
  rw [anyBad_eq hB, anyBad_eq hO, rise_eq hB, rise_eq hO]
theorem spB_next (w : ByteArray) (A : Nat → Int) (k : Nat) : spB w A (k + 1) = spB w A k ++ ⟨#[32]⟩ ++ decB (A k) := (spB_step w A k).symm
theorem spB_no {w : ByteArray} (hw : noC w 10) (A : Nat → Int) : ∀ k, noC (spB w A k) 10
  | 0 => by rw [spB_0]; exact hw
  | k + 1 => by
    rw [spB_next]
    exact noC_app (noC_app (spB_no hw A k) noC_sp) (decB_no _ (by decide))
theorem spB_blank {w : ByteArray} (hw : noC w 32) (A : Nat → Int) : ∀ k, cuF (spB w A k ++ ⟨#[32]⟩) 32 (spB w A k ++ ⟨#[32]⟩).size = (spB w A k ++ ⟨#[32]⟩).size ∧ cuN (spB w A k ++ ⟨#[32]⟩) 32 (spB w A k ++ ⟨#[32]⟩).size = k + 1 ∧ ∀ j, j < k → cuS (spB w A k ++ ⟨#[32]⟩) 32 (spB w A k ++ ⟨#[32]⟩).size (j + 1) = decB (A j)
  | 0 => by
    have e32 : (((32 : UInt8).toNat : Nat) : Int) = 32 := rfl
    have hT : spB w A 0 ++ ⟨#[32]⟩ = ⟨#[]⟩ ++ w ++ ⟨#[32]⟩ := by
      rw [spB_0]
      apply ByteArray.ext
      apply Array.toList_inj.1
      simp [ByteArray.data_append]
    obtain ⟨a1, a2, a3⟩ := cut_line 32 hT rfl hw
    exact ⟨a1, a2, fun j hj => absurd hj (Nat.not_lt_zero j)⟩
  | k + 1 => by
    obtain ⟨h1, h2, h3⟩ := spB_blank hw A k
    have hT : spB w A (k + 1) ++ ⟨#[32]⟩ = spB w A k ++ ⟨#[32]⟩ ++ decB (A k) ++ ⟨#[32]⟩ := by rw [spB_next]
    have e32 : (((32 : UInt8).toNat : Nat) : Int) = 32 := rfl
    obtain ⟨a1, a2, a3⟩ := cut_line 32 hT h1 (decB_no _ (by decide))
    rw [e32, h2] at a2 a3
    refine ⟨a1, a2, fun j hj => ?_⟩
    rw [a3]
    by_cases e : j = k
    · rw [if_pos (by omega), e]
    · rw [if_neg (by omega), h3 j (by omega)]
theorem spB_cut {w : ByteArray} (hw : noC w 32) (A : Nat → Int) : ∀ n, cutN (spB w A n) 32 = n + 1 ∧ ∀ j, j < n → cutS (spB w A n) 32 (j + 1) = decB (A j)
  | 0 => by
    have hT : spB w A 0 = ⟨#[]⟩ ++ w := by
      rw [spB_0]
      apply ByteArray.ext
      apply Array.toList_inj.1
      simp [ByteArray.data_append]
    obtain ⟨a1, _, _⟩ := cut_fin (t := ⟨#[]⟩) (l := w) (c := 32) rfl hw
    exact ⟨by rw [hT, a1]; rfl, fun j hj => absurd hj (Nat.not_lt_zero j)⟩
  | n + 1 => by
    obtain ⟨h1, h2, h3⟩ := spB_blank hw A n
    obtain ⟨a1, a2, a3⟩ := cut_fin (l := decB (A n)) h1 (decB_no _ (by decide))
    rw [h2] at a1 a2 a3
    rw [spB_next]
    refine ⟨a1, fun j hj => ?_⟩
    by_cases e : j = n
    · rw [e]; exact a3
    · rw [a2 (j + 1) (by omega), h3 j (by omega)]
theorem wrd_no {c : Int} (h : c = 32 ∨ c = 10) : noC bayW c ∧ noC brdW c ∧ noC widW c ∧ noC gapW c ∧ noC lifW c := by
  refine ⟨fun j hj => ?_, fun j hj => ?_, fun j hj => ?_, fun j hj => ?_, fun j hj => ?_⟩
  · have hj : j < 4 := hj
    rcases h with rfl | rfl <;> (match j, hj with | 0, _ => decide | 1, _ => decide | 2, _ => decide | 3, _ => decide)
  · have hj : j < 6 := hj
    rcases h with rfl | rfl <;> (match j, hj with | 0, _ => decide | 1, _ => decide | 2, _ => decide | 3, _ => decide | 4, _ => decide | 5, _ => decide)
  · have hj : j < 5 := hj
    rcases h with rfl | rfl <;> (match j, hj with | 0, _ => decide | 1, _ => decide | 2, _ => decide | 3, _ => decide | 4, _ => decide)
  · have hj : j < 3 := hj
    rcases h with rfl | rfl <;> (match j, hj with | 0, _ => decide | 1, _ => decide | 2, _ => decide)
  · have hj : j < 4 := hj
    rcases h with rfl | rfl <;> (match j, hj with | 0, _ => decide | 1, _ => decide | 2, _ => decide | 3, _ => decide)
section
variable {nB : Nat} {B : Nat → Int} {nO : Nat} {O : Nat → Int} {W G L : Int}
theorem prS_cut : cutN (prS nB B nO O W G L) 10 = 6 ∧ cutS (prS nB B nO O W G L) 10 0 = spB bayW B nB ∧ cutS (prS nB B nO O W G L) 10 1 = spB brdW O nO ∧ cutS (prS nB B nO O W G L) 10 2 = spB widW (fun _ => W) 1 ∧ cutS (prS nB B nO O W G L) 10 3 = spB gapW (fun _ => G) 1 ∧ cutS (prS nB B nO O W G L) 10 4 = spB lifW (fun _ => L) 1 := by
  obtain ⟨w1, w2, w3, w4, w5⟩ := wrd_no (c := 10) (.inr rfl)
  have e10 : (((10 : UInt8).toNat : Nat) : Int) = 10 := rfl
  obtain ⟨T1, e1⟩ : ∃ T1 : ByteArray, T1 = ⟨#[]⟩ ++ spB bayW B nB ++ ⟨#[10]⟩ := ⟨_, rfl⟩
  obtain ⟨T2, e2⟩ : ∃ T2 : ByteArray, T2 = T1 ++ spB brdW O nO ++ ⟨#[10]⟩ := ⟨_, rfl⟩
  obtain ⟨T3, e3⟩ : ∃ T3 : ByteArray, T3 = T2 ++ spB widW (fun _ => W) 1 ++ ⟨#[10]⟩ := ⟨_, rfl⟩
  obtain ⟨T4, e4⟩ : ∃ T4 : ByteArray, T4 = T3 ++ spB gapW (fun _ => G) 1 ++ ⟨#[10]⟩ := ⟨_, rfl⟩
  have e5 : prS nB B nO O W G L = T4 ++ spB lifW (fun _ => L) 1 ++ ⟨#[10]⟩ := by
    rw [e4, e3, e2, e1, prS, ← spB_end, ← spB_end, ← spB_end, ← spB_end, ← spB_end]
    apply ByteArray.ext
    apply Array.toList_inj.1
    simp [ByteArray.data_append]
  generalize prS nB B nO O W G L = T5 at e5
  obtain ⟨a1, a2, a3⟩ := cut_line 10 e1 rfl (spB_no w1 B nB)
  obtain ⟨b1, b2, b3⟩ := cut_line 10 e2 a1 (spB_no w2 O nO)
  obtain ⟨c1, c2, c3⟩ := cut_line 10 e3 b1 (spB_no w3 _ 1)
  obtain ⟨d1, d2, d3⟩ := cut_line 10 e4 c1 (spB_no w4 _ 1)
  obtain ⟨f1, f2, f3⟩ := cut_line 10 e5 d1 (spB_no w5 _ 1)
  rw [e10] at a2 a3 b2 b3 c2 c3 d2 d3 f2 f3
  have a2 : cuN T1 10 T1.size = 1 := a2
  have a3 : ∀ q, cuS T1 10 T1.size q = if 0 = q then spB bayW B nB else ⟨#[]⟩ := a3
  rw [a2] at b2 b3
  rw [b2] at c2 c3
  rw [c2] at d2 d3
  rw [d2] at f2 f3
  have sel : ∀ q, q < 5 → cutS T5 10 q = cuS T5 10 T5.size q := fun q hq => by rw [cutS, f2, if_pos (by omega)]
  refine ⟨by rw [cutN, f2], ?_, ?_, ?_, ?_, ?_⟩
  · rw [sel 0 (by decide), f3, if_neg (by decide), d3, if_neg (by decide), c3, if_neg (by decide), b3, if_neg (by decide), a3, if_pos rfl]
  · rw [sel 1 (by decide), f3, if_neg (by decide), d3, if_neg (by decide), c3, if_neg (by decide), b3, if_pos rfl]
  · rw [sel 2 (by decide), f3, if_neg (by decide), d3, if_neg (by decide), c3, if_pos rfl]
  · rw [sel 3 (by decide), f3, if_neg (by decide), d3, if_pos rfl]
  · rw [sel 4 (by decide), f3, if_pos rfl]
theorem prS_size (ok : SysOK nB B nO O W G L) : (prS nB B nO O W G L).size ≤ 60000 := by
  have sz : ∀ {w : ByteArray} {n : Nat} {A : Nat → Int}, n ≤ 8 → w.size ≤ 10 → (∀ k, k < n → 0 ≤ A k ∧ A k ≤ 10000) → (lnS w n A).size ≤ 100 := fun {w n A} h1 h2 h3 => by
    have go : ∀ k, k ≤ n → (numL A k).length ≤ k * 9 := fun k => by
      induction k with
      | zero => intro _; exact Nat.le_refl _
      | succ k ih =>
        intro hk
        have := ih (by omega)
        have hd := dd_len 6 (u := (A k).natAbs) (by have := h3 k (by omega); omega)
        have hz := decB_sz (A k)
        have hf := nfr_decB (A k)
        have h0 := h3 k (by omega)
        rw [if_neg (by omega)] at hf
        rw [numL, List.length_append, List.length_cons, ← Lib.size_eq]
        omega
    have := go n (Nat.le_refl _)
    rw [Lib.size_eq, lnS, List.length_append, List.length_append, ← Lib.size_eq, List.length_singleton]
    omega
  have n2 := ok.n2
  have n3 := ok.n3
  have hW := ok.W
  have hG := ok.G
  have hL := ok.L
  have s1 := sz (w := bayW) (n := nB) (A := B) n2 (by decide) (fun k hk => by have := ok.B k hk; omega)
  have s2 := sz (w := brdW) (n := nO) (A := O) n3 (by decide) (fun k hk => by have := ok.O k hk; omega)
  have s3 := sz (w := widW) (n := 1) (A := fun _ => W) (by decide) (by decide) (fun k hk => by omega)
  have s4 := sz (w := gapW) (n := 1) (A := fun _ => G) (by decide) (by decide) (fun k hk => by omega)
  have s5 := sz (w := lifW) (n := 1) (A := fun _ => L) (by decide) (by decide) (fun k hk => by omega)
  simp only [prS, ByteArray.size_append]
  omega
theorem read_back (h : sysE nB B nO O W G L = 0) : psE (prS nB B nO O W G L) = 0 ∧ psB (prS nB B nO O W G L) = nB ∧ psO (prS nB B nO O W G L) = nO ∧ (∀ k, k < nB → vlT (prS nB B nO O W G L) 0 k = B k) ∧ (∀ k, k < nO → vlT (prS nB B nO O W G L) 1 k = O k) ∧ psW (prS nB B nO O W G L) 2 = W ∧ psW (prS nB B nO O W G L) 3 = G ∧ psW (prS nB B nO O W G L) 4 = L := by
  have ok := sys_facts h
  have hsz := prS_size ok
  obtain ⟨c0, r0, r1, r2, r3, r4⟩ := prS_cut (nB := nB) (B := B) (nO := nO) (O := O) (W := W) (G := G) (L := L)
  obtain ⟨w1, w2, w3, w4, w5⟩ := wrd_no (c := 32) (.inl rfl)
  obtain ⟨b1, b2⟩ := spB_cut w1 B nB
  obtain ⟨o1, o2⟩ := spB_cut w2 O nO
  obtain ⟨x1, x2⟩ := spB_cut w3 (fun _ => W) 1
  obtain ⟨y1, y2⟩ := spB_cut w4 (fun _ => G) 1
  obtain ⟨z1, z2⟩ := spB_cut w5 (fun _ => L) 1
  have hpr : prS nB B nO O W G L = prS nB B nO O W G L := rfl
  obtain ⟨T, hT⟩ : ∃ T, T = prS nB B nO O W G L := ⟨_, rfl⟩
  rw [← hT] at hsz c0 r0 r1 r2 r3 r4 ⊢
  have n0 : wnT T 0 = nB := by rw [wnT, r0, b1]; rfl
  have n1 : wnT T 1 = nO := by rw [wnT, r1, o1]; rfl
  have n2 : wnT T 2 = 1 := by rw [wnT, r2, x1]
  have n3 : wnT T 3 = 1 := by rw [wnT, r3, y1]
  have n4 : wnT T 4 = 1 := by rw [wnT, r4, z1]
  have v0 : ∀ k, k < nB → vlT T 0 k = B k := fun k hk => by
    have := ok.B k hk
    rw [vlT, r0, b2 k hk, (dec_ok (by omega)).2.2]
  have v1 : ∀ k, k < nO → vlT T 1 k = O k := fun k hk => by
    have := ok.O k hk
    rw [vlT, r1, o2 k hk, (dec_ok (by omega)).2.2]
  have v2 : vlT T 2 0 = W := by
    have := ok.W
    rw [vlT, r2, x2 0 (by decide), (dec_ok (by omega)).2.2]
  have v3 : vlT T 3 0 = G := by
    have := ok.G
    rw [vlT, r3, y2 0 (by decide), (dec_ok (by omega)).2.2]
  have v4 : vlT T 4 0 = L := by
    have := ok.L
    rw [vlT, r4, z2 0 (by decide), (dec_ok (by omega)).2.2]
  have m1 := ok.n2
  have m2 := ok.n3
  have hk : okT T = true := by
    rw [okT, n0, n1, n2, n3, n4, v2, v3, v4, sysE_eq v0 v1, h, c0, prS, lnS_eq v0, lnS_eq v1, decide_eq_true (show nB ≤ 8 ∧ nO ≤ 8 ∧ 1 = 1 ∧ 1 = 1 ∧ 1 = 1 from ⟨m1, m2, rfl, rfl, rfl⟩)]
    rw [show lnS bayW nB B ++ lnS brdW nO O ++ lnS widW 1 (fun _ => W) ++ lnS gapW 1 (fun _ => G) ++ lnS lifW 1 (fun _ => L) = T from hT.symm]
    simp
  have e : psE T = 0 := by rw [psE, if_neg (by omega), if_pos hk]
  exact ⟨e, by rw [psB, if_pos e, n0], by rw [psO, if_pos e, n1], v0, v1, by rw [psW, if_pos e, v2], by rw [psW, if_pos e, v3], by rw [psW, if_pos e, v4]⟩
end
end Go.Abs
