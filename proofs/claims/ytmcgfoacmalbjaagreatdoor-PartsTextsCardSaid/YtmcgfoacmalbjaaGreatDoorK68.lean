/- Contracts. Contracts. -/
import Derived.Test.YtmcgfoacmalbjaaGreatDoorK66
import Derived.Test.YtmcgfoacmalbjaaGreatDoorK10
import Derived.Test.YtmcgfoacmalbjaaGreatDoorB4
section
set_option maxRecDepth 100000
namespace Go.Abs
open Go
theorem bget_app (a b : ByteArray) (i : Nat) : bget (a ++ b) i = if i < a.size then bget a i else bget b (i - a.size) := by
  unfold bget
  rw [Array.getD_eq_getD_getElem?, Array.getD_eq_getD_getElem?, Array.getD_eq_getD_getElem?, ByteArray.data_append, Array.getElem?_append, show a.data.size = a.size from rfl]
  split <;> rfl
theorem ext_left (a b : ByteArray) {i j : Nat} (h : j ≤ a.size) : (a ++ b).extract i j = a.extract i j := by
  apply ByteArray.ext
  apply Array.toList_inj.1
  have hs := Lib.size_eq a
  rw [Lib.extract_data, Lib.extract_data, ByteArray.data_append, Array.toList_append]
  by_cases hi : i ≤ j
  · rw [List.drop_append_of_le_length (by omega), List.take_append_of_le_length (by rw [List.length_drop]; omega)]
  · rw [show j - i = 0 by omega, List.take_zero, List.take_zero]
theorem ext_right (a b : ByteArray) : (a ++ b).extract a.size (a ++ b).size = b := by
  apply ByteArray.ext
  apply Array.toList_inj.1
  have hs := Lib.size_eq a
  have hb := Lib.size_eq b
  rw [Lib.extract_data, ByteArray.data_append, Array.toList_append, hs, List.drop_left, ByteArray.size_append, List.take_of_length_le (by omega)]
def noC (l : ByteArray) (c : Int) : Prop := ∀ j, j < l.size → bget l j ≠ c
theorem noC_app {a b : ByteArray} {c : Int} (h1 : noC a c) (h2 : noC b c) : noC (a ++ b) c := fun j hj => by
  rw [ByteArray.size_append] at hj
  rw [bget_app]
  split
  · rename_i h; exact h1 j h
  · exact h2 _ (by omega)
theorem cut_pre (t l : ByteArray) (c : Int) : ∀ {i}, i ≤ t.size → cuF (t ++ l) c i = cuF t c i ∧ cuN (t ++ l) c i = cuN t c i ∧ ∀ q, cuS (t ++ l) c i q = cuS t c i q
  | 0, _ => ⟨rfl, rfl, fun _ => rfl⟩
  | i + 1, h => by
    obtain ⟨h1, h2, h3⟩ := cut_pre t l c (i := i) (by omega)
    have hb : bget (t ++ l) i = bget t i := by rw [bget_app, if_pos (by omega)]
    refine ⟨by rw [cuF, cuF, hb, h1], by rw [cuN, cuN, hb, h2], fun q => ?_⟩
    rw [cuS, cuS, hb, h1, h2, h3, ext_left t l (by omega)]
theorem cut_mid {t l : ByteArray} {c : Int} (h : cuF t c t.size = t.size) (hl : noC l c) : ∀ {j}, j ≤ l.size → cuF (t ++ l) c (t.size + j) = t.size ∧ cuN (t ++ l) c (t.size + j) = cuN t c t.size ∧ ∀ q, cuS (t ++ l) c (t.size + j) q = cuS t c t.size q
  | 0, _ => by
    have := cut_pre t l c (Nat.le_refl t.size)
    exact ⟨this.1.trans h, this.2.1, this.2.2⟩
  | j + 1, hj => by
    obtain ⟨h1, h2, h3⟩ := cut_mid h hl (j := j) (by omega)
    have hb : bget (t ++ l) (t.size + j) ≠ c := by
      rw [bget_app, if_neg (by omega), show t.size + j - t.size = j by omega]
      exact hl j (by omega)
    refine ⟨?_, ?_, fun q => ?_⟩
    · show cuF (t ++ l) c (t.size + j + 1) = _
      rw [cuF, if_neg hb]; exact h1
    · show cuN (t ++ l) c (t.size + j + 1) = _
      rw [cuN, if_neg hb]; exact h2
    · show cuS (t ++ l) c (t.size + j + 1) q = _
      rw [cuS, if_neg (fun h => hb h.1)]; exact h3 q
theorem cut_line {t l T : ByteArray} (c : UInt8) (hT : T = t ++ l ++ ⟨#[c]⟩) (h : cuF t (c.toNat : Int) t.size = t.size) (hl : noC l (c.toNat : Int)) :
    cuF T (c.toNat : Int) T.size = T.size ∧ cuN T (c.toNat : Int) T.size = cuN t (c.toNat : Int) t.size + 1 ∧ ∀ q, cuS T (c.toNat : Int) T.size q = if cuN t (c.toNat : Int) t.size = q then l else cuS t (c.toNat : Int) t.size q := by
  subst hT
  have hs : (t ++ l ++ ⟨#[c]⟩).size = (t ++ l).size + 1 := by rw [ByteArray.size_append]; rfl
  have hb : bget (t ++ l ++ ⟨#[c]⟩) (t ++ l).size = (c.toNat : Int) := by
    rw [bget_app, if_neg (by omega), Nat.sub_self]; rfl
  obtain ⟨p1, p2, p3⟩ := cut_pre (t ++ l) ⟨#[c]⟩ (c.toNat : Int) (Nat.le_refl (t ++ l).size)
  have hm := cut_mid h hl (j := l.size) (Nat.le_refl _)
  rw [← ByteArray.size_append] at hm
  obtain ⟨m1, m2, m3⟩ := hm
  rw [hs]
  refine ⟨by rw [cuF, if_pos hb], by rw [cuN, if_pos hb, p2, m2], fun q => ?_⟩
  rw [cuS, p1, p2, p3, m1, m2, m3, ext_left _ _ (Nat.le_refl _), ext_right]
  by_cases e : cuN t (c.toNat : Int) t.size = q
  · rw [if_pos ⟨hb, e⟩, if_pos e]
  · rw [if_neg (fun h => e h.2), if_neg e]
theorem cut_fin {t l : ByteArray} {c : Int} (h : cuF t c t.size = t.size) (hl : noC l c) : cutN (t ++ l) c = cuN t c t.size + 1 ∧ (∀ q, q < cuN t c t.size → cutS (t ++ l) c q = cuS t c t.size q) ∧ cutS (t ++ l) c (cuN t c t.size) = l := by
  have hm := cut_mid h hl (j := l.size) (Nat.le_refl _)
  rw [← ByteArray.size_append] at hm
  obtain ⟨m1, m2, m3⟩ := hm
  refine ⟨by rw [cutN, m2], fun q hq => ?_, ?_⟩
  · rw [cutS, m2, if_pos hq, m3]
  · rw [cutS, m2, if_neg (by omega), m1, ext_right]
def lnB (w : ByteArray) (x y z : Int) : ByteArray := ⟨#[]⟩ ++ w ++ ⟨#[32]⟩ ++ decB x ++ ⟨#[32]⟩ ++ decB y ++ ⟨#[32]⟩ ++ decB z
theorem decB_bytes (n : Int) {j : Nat} (hj : j < (decB n).size) : 45 ≤ bget (decB n) j := by
  have hd := decB_drop n
  rw [← List.append_nil (Lib.decDigits n.natAbs)] at hd
  have h1 := (nac_dd n.natAbs [] hd).2 j
  by_cases h : nfr (decB n) ≤ j
  · have := h1 h (by rw [decB_sz] at hj; exact hj)
    omega
  · have h2 := nfr_decB n
    by_cases hn : n < 0
    · rw [if_pos hn] at h2
      obtain rfl : j = 0 := by omega
      have hd := decB_data n
      rw [if_pos hn] at hd
      have := (bget_some (s := decB n) (i := 0) (b := 45) (by rw [hd]; rfl)).2
      rw [this]; decide
    · rw [if_neg hn] at h2; omega
theorem decB_no (n : Int) {c : Int} (hc : c < 45) : noC (decB n) c := fun j hj e => by
  have := decB_bytes n hj
  omega
theorem prL_is (t w : ByteArray) (x y z : Int) : prL t (w ++ ⟨#[32]⟩) x y z = t ++ lnB w x y z ++ ⟨#[10]⟩ := by
  apply ByteArray.ext
  apply Array.toList_inj.1
  simp only [prL, lnB, ByteArray.data_append, Array.toList_append, List.append_assoc, List.nil_append]
theorem lnB_cut (w : ByteArray) (x y z : Int) (hw : noC w 32) : cutN (lnB w x y z) 32 = 4 ∧ cutS (lnB w x y z) 32 0 = w ∧ cutS (lnB w x y z) 32 1 = decB x ∧ cutS (lnB w x y z) 32 2 = decB y ∧ cutS (lnB w x y z) 32 3 = decB z := by
  obtain ⟨T1, e1⟩ : ∃ T1 : ByteArray, T1 = ⟨#[]⟩ ++ w ++ ⟨#[32]⟩ := ⟨_, rfl⟩
  obtain ⟨T2, e2⟩ : ∃ T2 : ByteArray, T2 = T1 ++ decB x ++ ⟨#[32]⟩ := ⟨_, rfl⟩
  obtain ⟨T3, e3⟩ : ∃ T3 : ByteArray, T3 = T2 ++ decB y ++ ⟨#[32]⟩ := ⟨_, rfl⟩
  have eL : lnB w x y z = T3 ++ decB z := by rw [e3, e2, e1]; rfl
  have e32 : (((32 : UInt8).toNat : Nat) : Int) = 32 := rfl
  obtain ⟨a1, a2, a3⟩ := cut_line 32 e1 rfl hw
  obtain ⟨b1, b2, b3⟩ := cut_line 32 e2 a1 (decB_no x (by decide))
  obtain ⟨c1, c2, c3⟩ := cut_line 32 e3 b1 (decB_no y (by decide))
  rw [e32] at a2 a3 b2 b3 c1 c2 c3
  obtain ⟨d1, d2, d3⟩ := cut_fin c1 (decB_no z (c := 32) (by decide))
  have a2 : cuN T1 32 T1.size = 1 := a2
  rw [a2] at b2 b3
  rw [b2] at c2 c3
  rw [c2] at d1 d2 d3
  rw [eL]
  refine ⟨d1, ?_, ?_, ?_, d3⟩
  · rw [d2 0 (by decide), c3, if_neg (by decide), b3, if_neg (by decide), a3]; rfl
  · rw [d2 1 (by decide), c3, if_neg (by decide), b3, if_pos rfl]
  · rw [d2 2 (by decide), c3, if_pos rfl]
theorem noC_nil (c : Int) : noC ⟨#[]⟩ c := fun j hj => absurd hj (Nat.not_lt_zero j)
theorem noC_sp : noC ⟨#[32]⟩ 10 := fun j hj => by
  obtain rfl : j = 0 := by have : j < 1 := hj; omega
  decide
theorem lnB_no (w : ByteArray) (x y z : Int) (hw : noC w 10) : noC (lnB w x y z) 10 :=
  noC_app (noC_app (noC_app (noC_app (noC_app (noC_app (noC_app (noC_nil 10) hw) noC_sp) (decB_no x (by decide))) noC_sp) (decB_no y (by decide))) noC_sp) (decB_no z (by decide))
theorem line_yes {w : ByteArray} {x y z : Int} (hw : noC w 32) (hx : x.natAbs < 10000000) (hy : y.natAbs < 10000000) (hz : z.natAbs < 10000000) : lnK (lnB w x y z) w 3 = true ∧ lnX (lnB w x y z) w 0 = x ∧ lnX (lnB w x y z) w 1 = y ∧ lnX (lnB w x y z) w 2 = z := by
  obtain ⟨h1, h2, h3, h4, h5⟩ := lnB_cut w x y z hw
  have x1 := (dec_ok hx).1
  have y1 := (dec_ok hy).1
  have z1 := (dec_ok hz).1
  have k0 : lnK (lnB w x y z) w 0 = true := by rw [lnK, lnP, h1, h2]; simp
  have k1 : lnK (lnB w x y z) w 1 = true := by rw [lnK, k0, h3, x1.1]; rfl
  have k2 : lnK (lnB w x y z) w 2 = true := by rw [lnK, k1, h4, y1.1]; rfl
  have k3 : lnK (lnB w x y z) w 3 = true := by rw [lnK, k2, h5, z1.1]; rfl
  exact ⟨k3, by rw [lnX, if_pos k1, h3, x1.2], by rw [lnX, if_pos k2, h4, y1.2], by rw [lnX, if_pos k3, h5, z1.2]⟩
theorem line_not {w w' : ByteArray} {x y z : Int} (hw : noC w 32) (h : (w.toList == w'.toList) = false) : lnK (lnB w x y z) w' 3 = false := by
  obtain ⟨h1, h2, _⟩ := lnB_cut w x y z hw
  refine ln_no (j := 0) ?_ (by decide)
  rw [lnK, lnP, h2, h, Bool.and_false]
theorem nod_no {c : Int} (h : c = 32 ∨ c = 10) : noC nodW c := fun j hj => by
  have hj : j < 4 := hj
  rcases h with rfl | rfl <;> (match j, hj with | 0, _ => decide | 1, _ => decide | 2, _ => decide | 3, _ => decide)
theorem mem_no {c : Int} (h : c = 32 ∨ c = 10) : noC memW c := fun j hj => by
  have hj : j < 6 := hj
  rcases h with rfl | rfl <;> (match j, hj with | 0, _ => decide | 1, _ => decide | 2, _ => decide | 3, _ => decide | 4, _ => decide | 5, _ => decide)
theorem nodB_is : nodB = nodW ++ ⟨#[32]⟩ := ByteArray.ext rfl
theorem memB_is : memB = memW ++ ⟨#[32]⟩ := ByteArray.ext rfl
theorem words_ne : (memW.toList == nodW.toList) = false := by
  rw [Lib.toList_data, Lib.toList_data]; decide
def lnNd (s : Scf) (q : Nat) : ByteArray := lnB nodW (s.X q) (s.Y q) (s.Z q)
def lnMb (s : Scf) (q : Nat) : ByteArray := lnB memW (s.K q) (s.A q) (s.B q)
theorem prN_cut (s : Scf) : ∀ k, cuF (prN s k) 10 (prN s k).size = (prN s k).size ∧ cuN (prN s k) 10 (prN s k).size = k ∧ ∀ q, q < k → cuS (prN s k) 10 (prN s k).size q = lnNd s q
  | 0 => ⟨rfl, rfl, fun q h => absurd h (Nat.not_lt_zero q)⟩
  | k + 1 => by
    obtain ⟨h1, h2, h3⟩ := prN_cut s k
    have e : prN s (k + 1) = prN s k ++ lnNd s k ++ ⟨#[10]⟩ := by rw [prN, nodB_is, prL_is]; rfl
    have e10 : (((10 : UInt8).toNat : Nat) : Int) = 10 := rfl
    obtain ⟨a1, a2, a3⟩ := cut_line 10 e h1 (lnB_no nodW _ _ _ (nod_no (.inr rfl)))
    rw [e10, h2] at a2 a3
    refine ⟨a1, a2, fun q hq => ?_⟩
    rw [a3]
    by_cases e : k = q
    · rw [if_pos e, e]
    · rw [if_neg e, h3 q (by omega)]
theorem prM_cut (s : Scf) : ∀ k, cuF (prM s k) 10 (prM s k).size = (prM s k).size ∧ cuN (prM s k) 10 (prM s k).size = s.nN + k ∧ (∀ q, q < s.nN → cuS (prM s k) 10 (prM s k).size q = lnNd s q) ∧ ∀ q, q < k → cuS (prM s k) 10 (prM s k).size (s.nN + q) = lnMb s q
  | 0 => by
    obtain ⟨h1, h2, h3⟩ := prN_cut s s.nN
    exact ⟨h1, h2, h3, fun q h => absurd h (Nat.not_lt_zero q)⟩
  | k + 1 => by
    obtain ⟨h1, h2, h3, h4⟩ := prM_cut s k
    have e : prM s (k + 1) = prM s k ++ lnMb s k ++ ⟨#[10]⟩ := by rw [prM, memB_is, prL_is]; rfl
    have e10 : (((10 : UInt8).toNat : Nat) : Int) = 10 := rfl
    obtain ⟨a1, a2, a3⟩ := cut_line 10 e h1 (lnB_no memW _ _ _ (mem_no (.inr rfl)))
    rw [e10, h2] at a2 a3
    refine ⟨a1, a2, fun q hq => ?_, fun q hq => ?_⟩
    · rw [a3, if_neg (by omega), h3 q hq]
    · rw [a3]
      by_cases e : k = q
      · rw [if_pos (by omega), e]
      · rw [if_neg (by omega), h4 q (by omega)]
structure RowsOf (s : Scf) (R : Nat → ByteArray) : Prop where
  node : ∀ q, q < s.nN → R q = lnNd s q
  memb : ∀ q, q < s.nM → R (s.nN + q) = lnMb s q
theorem pr_rows (s : Scf) : cutN (prM s s.nM) 10 - 1 = s.nN + s.nM ∧ (cutS (prM s s.nM) 10 (s.nN + s.nM)).toList = [] ∧ RowsOf s (cutS (prM s s.nM) 10) := by
  obtain ⟨h1, h2, h3, h4⟩ := prM_cut s s.nM
  refine ⟨by rw [cutN, h2]; rfl, ?_, ⟨fun q hq => by rw [cutS, h2, if_pos (by omega), h3 q hq], fun q hq => by rw [cutS, h2, if_pos (by omega), h4 q hq]⟩⟩
  rw [cutS, h2, if_neg (Nat.lt_irrefl _), h1, ← emp_ext]
  exact toList_nil
theorem flN_mono2 (p : Nat → Bool) {a b : Nat} (h : a ≤ b) : flN p a ≤ flN p b := by
  induction h with
  | refl => exact Nat.le_refl _
  | step _ ih => rw [flN]; omega
theorem flI_at2 {p : Nat → Bool} {i : Nat} (h : p i = true) : ∀ {n : Nat}, i < n → flN p i < flN p n ∧ flI p n (flN p i) = i
  | n + 1, hn => by
    rw [flI]
    have e := flN_yes h
    rcases Nat.lt_or_ge i n with h1 | h1
    · have h2 := flI_at2 h h1
      have h3 := flN_mono2 p (show i + 1 ≤ n by omega)
      refine ⟨by rw [flN]; omega, ?_⟩
      rw [if_neg (fun h' => by omega)]
      exact h2.2
    · obtain rfl : i = n := by omega
      exact ⟨by omega, by rw [if_pos ⟨h, rfl⟩]⟩
structure NumS (s : Scf) : Prop where
  X : ∀ q, q < s.nN → (s.X q).natAbs < 10000000 ∧ (s.Y q).natAbs < 10000000 ∧ (s.Z q).natAbs < 10000000
  K : ∀ q, q < s.nM → (s.K q).natAbs < 10000000 ∧ (s.A q).natAbs < 10000000 ∧ (s.B q).natAbs < 10000000
section
variable {s : Scf} {R : Nat → ByteArray}
theorem nd_is (hn : NumS s) (hR : RowsOf s R) {q : Nat} (hq : q < s.nN) : lnK (R q) nodW 3 = true ∧ lnX (R q) nodW 0 = s.X q ∧ lnX (R q) nodW 1 = s.Y q ∧ lnX (R q) nodW 2 = s.Z q := by
  rw [hR.node q hq]
  obtain ⟨a, b, c⟩ := hn.X q hq
  exact line_yes (nod_no (.inl rfl)) a b c
theorem mb_is (hn : NumS s) (hR : RowsOf s R) {q : Nat} (hq : q < s.nM) : lnK (R (s.nN + q)) nodW 3 = false ∧ lnK (R (s.nN + q)) memW 3 = true ∧ lnX (R (s.nN + q)) memW 0 = s.K q ∧ lnX (R (s.nN + q)) memW 1 = s.A q ∧ lnX (R (s.nN + q)) memW 2 = s.B q := by
  rw [hR.memb q hq]
  obtain ⟨a, b, c⟩ := hn.K q hq
  exact ⟨line_not (mem_no (.inl rfl)) words_ne, line_yes (mem_no (.inl rfl)) a b c⟩
theorem tk_n (hn : NumS s) (hR : RowsOf s R) : ∀ {i : Nat}, i ≤ s.nN → (flN (tkN R) i = i ∧ flN (tkM R) i = 0 ∧ paF R i = 0) ∧ (i < s.nN → tkN R i = true)
  | 0, _ => ⟨⟨rfl, rfl, rfl⟩, fun h => by rw [tkN, (nd_is hn hR h).1]; rfl⟩
  | i + 1, h => by
    obtain ⟨⟨h1, h2, h3⟩, h4⟩ := tk_n hn hR (i := i) (by omega)
    have t1 := h4 (by omega)
    have t2 : ¬ tkM R i = true := by rw [tkM, t1]; simp
    have e2 : flN (tkM R) (i + 1) = 0 := by rw [flN_no t2, h2]
    refine ⟨⟨by rw [flN_yes t1, h1], e2, paF_ok h3 (by rw [badR, t1]; rfl)⟩, fun h => ?_⟩
    rw [tkN, (nd_is hn hR h).1, isM_is, show paM R (i + 1) = 0 from e2]; rfl
theorem tk_m (hn : NumS s) (hR : RowsOf s R) : ∀ {j : Nat}, j ≤ s.nM → flN (tkN R) (s.nN + j) = s.nN ∧ flN (tkM R) (s.nN + j) = j ∧ paF R (s.nN + j) = 0
  | 0, _ => (tk_n hn hR (Nat.le_refl _)).1
  | j + 1, h => by
    obtain ⟨h1, h2, h3⟩ := tk_m hn hR (j := j) (by omega)
    obtain ⟨m1, m2, _⟩ := mb_is hn hR (q := j) (by omega)
    have t1 : tkN R (s.nN + j) = false := by rw [tkN, m1]; rfl
    have t2 : tkM R (s.nN + j) = true := by rw [tkM, t1, m2]; rfl
    refine ⟨?_, ?_, ?_⟩
    · show flN (tkN R) (s.nN + j + 1) = _
      rw [flN_no (by rw [t1]; decide), h1]
    · show flN (tkM R) (s.nN + j + 1) = _
      rw [flN_yes t2, h2]
    · have t3 : badR R (s.nN + j) = false := by rw [badR, t1, t2]; rfl
      exact paF_ok h3 t3
structure EqS (s t : Scf) : Prop where
  nN : t.nN = s.nN
  nM : t.nM = s.nM
  X : ∀ j, j < s.nN → t.X j = s.X j ∧ t.Y j = s.Y j ∧ t.Z j = s.Z j
  K : ∀ j, j < s.nM → t.K j = s.K j ∧ t.A j = s.A j ∧ t.B j = s.B j
theorem paS_eq (hn : NumS s) (hR : RowsOf s R) : EqS s (paS R (s.nN + s.nM)) where
  nN := (tk_m hn hR (Nat.le_refl _)).1
  nM := (tk_m hn hR (Nat.le_refl _)).2.1
  X := fun j hj => by
    obtain ⟨⟨h1, _⟩, h4⟩ := tk_n hn hR (i := j) (by omega)
    have h := (flI_at2 (h4 hj) (n := s.nN + s.nM) (by omega)).2
    rw [h1] at h
    obtain ⟨_, a, b, c⟩ := nd_is hn hR hj
    exact ⟨(congrArg (fun q => lnX (R q) nodW 0) h).trans a, (congrArg (fun q => lnX (R q) nodW 1) h).trans b, (congrArg (fun q => lnX (R q) nodW 2) h).trans c⟩
  K := fun j hj => by
    obtain ⟨h1, h2, _⟩ := tk_m hn hR (j := j) (by omega)
    obtain ⟨m1, m2, a, b, c⟩ := mb_is hn hR hj
    have t1 : tkN R (s.nN + j) = false := by rw [tkN, m1]; rfl
    have t2 : tkM R (s.nN + j) = true := by rw [tkM, t1, m2]; rfl
    have h := (flI_at2 t2 (n := s.nN + s.nM) (by omega)).2
    rw [h2] at h
    exact ⟨(congrArg (fun q => lnX (R q) memW 0) h).trans a, (congrArg (fun q => lnX (R q) memW 1) h).trans b, (congrArg (fun q => lnX (R q) memW 2) h).trans c⟩
variable {t : Scf}
theorem EqS.nAt (h : EqS s t) (x y z : Int) : ∀ {n : Nat}, n ≤ s.nN → nAt t n x y z = nAt s n x y z
  | 0, _ => rfl
  | n + 1, hn => by
    obtain ⟨a, b, c⟩ := h.X n (by omega)
    rw [Abs.nAt, Abs.nAt, h.nAt x y z (by omega), a, b, c]
theorem EqS.atH (h : EqS s t) (l : List Int) : atH t s.nN l = atH s s.nN l := by
  unfold Abs.atH
  by_cases h3 : ∃ x y z, l = [x, y, z]
  · obtain ⟨x, y, z, rfl⟩ := h3
    show decide (0 ≤ Abs.nAt t s.nN x y z) = decide (0 ≤ Abs.nAt s s.nN x y z)
    rw [h.nAt x y z (Nat.le_refl _)]
  · have hn : ∀ x y z, l ≠ [x, y, z] := fun x y z e => h3 ⟨x, y, z, e⟩
    rw [atL_none t _ hn, atL_none s _ hn]
theorem EqS.rgt (h : EqS s t) {k a b : Int} (ha : 0 ≤ a ∧ a < s.nN) (hb : 0 ≤ b ∧ b < s.nN) : rgtF t t.nN k a b = rgtF s s.nN k a b := by
  obtain ⟨a1, a2, a3⟩ := h.X a.toNat (by omega)
  obtain ⟨b1, b2, b3⟩ := h.X b.toNat (by omega)
  unfold rgtF
  rw [h.nN, h.atH, h.atH, a1, a2, a3, b1, b2, b3]
theorem EqS.ok (h : EqS s t) (hc : ScfOK s) : ScfOK t where
  nN := by rw [h.nN]; exact hc.nN
  nM := by rw [h.nM]; exact hc.nM
  node := fun i hi => by
    rw [h.nN] at hi
    obtain ⟨a, b, c⟩ := h.X i hi
    rw [a, b, c, h.nAt _ _ _ (by omega)]; exact hc.node i hi
  kind := fun i hi => by rw [h.nM] at hi; rw [(h.K i hi).1]; exact hc.kind i hi
  ends := fun i hi => by rw [h.nM] at hi; rw [(h.K i hi).2.1, (h.K i hi).2.2, h.nN]; exact hc.ends i hi
  right := fun i hi => by
    rw [h.nM] at hi
    obtain ⟨a, b, c⟩ := h.K i hi
    obtain ⟨e1, e2⟩ := hc.ends i hi
    rw [a, b, c, h.rgt e1 e2]; exact hc.right i hi
  seen := fun i hi => seen_iff.2 fun j hj => by
    rw [h.nM] at hi
    obtain ⟨a, b, c⟩ := h.K i hi
    obtain ⟨a', b', c'⟩ := h.K j (by omega)
    rw [a, b, c, a', b', c']
    exact seen_iff.1 (hc.seen i hi) j hj
theorem chk_of2 (hc : ScfOK s) : chkE s = 0 := by
  refine (chk_ok ⟨by have := hc.nN; omega, by have := hc.nM; omega⟩ (fun k hk => ?_) fun k hk => ?_).symm
  · obtain ⟨⟨a, b, c⟩, d⟩ := hc.node k hk
    rw [nodE, a, b, c, if_neg (by decide), if_neg d]
  · have h1 := hc.kind k hk
    have h2 := hc.ends k hk
    rw [memE, if_neg (fun h => h h1), if_neg (by omega), hc.right k hk, if_neg (by decide), hc.seen k hk, if_neg (by decide)]
theorem EqS.same (h : EqS s t) : sameS t s = true := by
  unfold sameS
  exact decide_eq_true ⟨⟨h.nN, h.nM⟩, fun j hj => h.X j (by rw [h.nN] at hj; exact hj), fun j hj => h.K j (by rw [h.nM] at hj; exact hj)⟩
theorem sameS_refl (s : Scf) : sameS s s = true := decide_eq_true ⟨⟨rfl, rfl⟩, fun _ _ => ⟨rfl, rfl, rfl⟩, fun _ _ => ⟨rfl, rfl, rfl⟩⟩
theorem num_of (hc : ScfOK s) : NumS s where
  X := fun q hq => by
    obtain ⟨⟨a, b, c⟩, _⟩ := hc.node q hq
    have a := inC_bd a
    have b := inC_bd b
    have c := inC_bd c
    omega
  K := fun q hq => by
    have a := hc.kind q hq
    have b := hc.ends q hq
    have c := hc.nN
    omega
theorem decB_sz8 {n : Int} (h : n.natAbs < 10000000) : (decB n).size ≤ 8 := by
  have h2 := dd_len 6 (u := n.natAbs) (by omega)
  rw [decB_sz, nfr_decB]
  split <;> omega
theorem lnB_sz {w : ByteArray} {x y z : Int} (hw : w.size ≤ 6) (hx : x.natAbs < 10000000) (hy : y.natAbs < 10000000) (hz : z.natAbs < 10000000) : (lnB w x y z).size ≤ 40 := by
  have a := decB_sz8 hx
  have b := decB_sz8 hy
  have c := decB_sz8 hz
  unfold lnB
  simp only [ByteArray.size_append]
  rw [show ByteArray.size ⟨#[32]⟩ = 1 from rfl, show ByteArray.size ⟨#[]⟩ = 0 from rfl]
  omega
theorem prN_sz (hn : NumS s) : ∀ {k}, k ≤ s.nN → (prN s k).size ≤ 41 * k
  | 0, _ => Nat.le_refl _
  | k + 1, h => by
    have ih := prN_sz hn (k := k) (by omega)
    obtain ⟨a, b, c⟩ := hn.X k (by omega)
    have := lnB_sz (w := nodW) (by decide) a b c
    rw [prN, nodB_is, prL_is, ByteArray.size_append, ByteArray.size_append, show ByteArray.size ⟨#[10]⟩ = 1 from rfl]
    omega
theorem prM_sz (hn : NumS s) : ∀ {k}, k ≤ s.nM → (prM s k).size ≤ 41 * (s.nN + k)
  | 0, _ => prN_sz hn (Nat.le_refl _)
  | k + 1, h => by
    have ih := prM_sz hn (k := k) (by omega)
    obtain ⟨a, b, c⟩ := hn.K k (by omega)
    have := lnB_sz (w := memW) (by decide) a b c
    rw [prM, memB_is, prL_is, ByteArray.size_append, ByteArray.size_append, show ByteArray.size ⟨#[10]⟩ = 1 from rfl]
    omega
theorem read_back (hc : ScfOK s) (hN : s.nN ≤ 40) (hM : s.nM ≤ 120) : (prM s s.nM).size ≤ 60000 ∧ paE (prM s s.nM) = 0 ∧ paL (prM s s.nM) = 0 ∧ sameS (paR (prM s s.nM)) s = true := by
  have hn := num_of hc
  have hz := prM_sz hn (Nat.le_refl _)
  obtain ⟨h1, h2, hR⟩ := pr_rows s
  have hE := paS_eq hn hR
  have hF := (tk_m hn hR (Nat.le_refl _)).2.2
  have hz2 : ¬ ((prM s s.nM).size : Int) > 60000 := by omega
  have e0 : paE (prM s s.nM) = 0 := by
    rw [paE, if_neg hz2, h1, if_neg (fun h => h hF), if_pos h2]
    exact chk_of2 (hE.ok hc)
  refine ⟨by omega, e0, by rw [paL, if_neg hz2, h1, if_neg (fun h => h hF), if_pos h2], ?_⟩
  rw [paR_ok e0, h1]
  exact hE.same
end
end Go.Abs
end
section
set_option maxRecDepth 100000
namespace Go.Abs
open Go
theorem paR_sz (t : ByteArray) : (paR t).nN ≤ t.size ∧ (paR t).nM ≤ t.size := by
  have hcn := cuN_le t 10 t.size
  have hc : cutN t 10 - 1 = cuN t 10 t.size := rfl
  have a := paN_le (cutS t 10) (cutN t 10 - 1)
  have b := paM_le (cutS t 10) (cutN t 10 - 1)
  by_cases h : paE t = 0
  · rw [paR_ok h]
    show paN _ _ ≤ _ ∧ paM _ _ ≤ _
    omega
  · obtain ⟨c, d⟩ := paR_bad h
    omega
noncomputable def A3_texts_c (s : Scf) (t : ByteArray) : Ann := { orc := [(1, [(0, .res fun _ => dB true)]), (3, [(1, .res fun _ => dB (fewF s))]), (5, [(1, .res fun _ => .tup [dS (prF s), dI (chkE s)])]), (6, [(1, .res fun _ => dI (chkE s))]), (10, [(1, .res fun _ => .tup [scfD (paR (prF s)), dI (paL (prF s)), dI (paE (prF s))])]), (11, [(5, .res fun _ => dS (prM s s.nM)), (19, .res fun _ => dB (sameS (paR (prF s)) s))]), (13, [(1, .res fun _ => .tup [scfD (paR t), dI (paL t), dI (paE t)])]), (14, [(1, .res fun _ => .tup [scfD (paR t), dI (paL t), dI (paE t)])]), (15, [(11, .res fun _ => dB (sameS (paR t) (paR t)))])], loops := [], cuts := [] }
noncomputable abbrev qg (s : Scf) : Bool := decide (s.nN ≤ (40:Nat) ∧ s.nM ≤ (120:Nat))
noncomputable abbrev qkb (t : ByteArray) : Bool := decide ((↑(ByteArray.size t) : Int) > (3000:Int))
noncomputable abbrev qcc (s : Scf) (t : ByteArray) : Bool := !!(qg s) && (qkb t)
noncomputable abbrev qic (t : ByteArray) : Bool := decide ((↑(ByteArray.size t) : Int) ≤ (60000:Int))
noncomputable abbrev qm (t : ByteArray) : Bool := if (paE t == paE t) = true then paL t == paL t else false
noncomputable abbrev qfc (s : Scf) (t : ByteArray) : Bool := !if (!(qg s)) = true then true else if (qkb t) = true then (qic t) else false
noncomputable abbrev q9b (s : Scf) : Bool := if (chkE s != (0:Int)) = true then true else !ByteArray.toList (prF s) == ByteArray.toList (prM s s.nM)
noncomputable abbrev q5b (s : Scf) : Bool := if (q9b s) = true then true else paE (prF s) != (0:Int)
noncomputable abbrev qkc (s : Scf) : Bool := !if (q9b s) = true then true else paE (prF s) != (0:Int)
noncomputable abbrev qob (s : Scf) : Bool := !if (q5b s) = true then true else paL (prF s) != (0:Int)
noncomputable abbrev qlc (s : Scf) : Bool := !if (chkE s != (0:Int)) = true then true else !ByteArray.toList (prF s) == ByteArray.toList (prM s s.nM)
noncomputable abbrev texts_cd0 (t : ByteArray) : DV := .agg [.lst (paR t).nN [fun i => (dI ((paR t).X i)), fun i => (dI ((paR t).Y i)), fun i => (dI ((paR t).Z i))], .lst (paR t).nM [fun i => (dI ((paR t).K i)), fun i => (dI ((paR t).A i)), fun i => (dI ((paR t).B i))]]
noncomputable abbrev texts_cd1 (s : Scf) : DV := scfD s
noncomputable abbrev texts_cd2 (s : Scf) : DV := .agg [.lst (paR (prF s)).nN [fun i => (dI ((paR (prF s)).X i)), fun i => (dI ((paR (prF s)).Y i)), fun i => (dI ((paR (prF s)).Z i))], .lst (paR (prF s)).nM [fun i => (dI ((paR (prF s)).K i)), fun i => (dI ((paR (prF s)).A i)), fun i => (dI ((paR (prF s)).B i))]]
theorem texts_c (s : Scf) (t : ByteArray)  : FnC prog 3 [scfD s, dS t] (dB true) := by
  refine FnC_owed hmix (A3_texts_c s t) (V := .need [FnC prog 4 [] ((dB true))] (.ite (!true) (.done [false = true]) (.need [FnC prog 5 [(texts_cd1 s)] ((dB ((qg s)))), ri ((!!(qg s)) = true), ri ((!!(qg s)) = true), ri ((!!(qg s)) = true), ri ((qcc s t) = true), ri ((qcc s t) = true), ri ((!!(qg s)) = true), (!!(qg s)) = true → (qkb t) = true → (qcc s t) = true, (!(qg s)) = false → (!!(qg s)) = true, ri ((qfc s t) = true), ri ((qfc s t) = true), (if (!(qg s)) = true then true else if (qkb t) = true then (qic t) else false) = false → (qfc s t) = true] (.ite (if (if (!(qg s)) = true then true else if (qkb t) = true then (qic t) else false) = true then true else decide ((↑(ByteArray.size t) : Int) > 60100)) (.done [true = true]) (.need [FnC prog 6 [(texts_cd1 s)] (.tup [.val (.string (prF s)), (dI (chkE s))])] (.need [FnC prog 7 [(texts_cd1 s)] ((dI (chkE s)))] (.ite (chkE s != 0) (.need [ri ((!chkE s != chkE s) = true), (chkE s != chkE s) = false → (!chkE s != chkE s) = true] (.ite (if (chkE s != chkE s) = true then true else !ByteArray.toList (prF s) == ByteArray.toList (ByteArray.mk #[])) (.done [false = true]) (.need [FnC prog 8 [.val (.string t)] (.tup [(texts_cd0 t), (dI (paL t)), (dI (paE t))])] (.need [FnC prog 11 [.val (.string t)] (.tup [(texts_cd0 t), (dI (paL t)), (dI (paE t))])] (.need [ri ((paE t == paE t) = true), ri ((paE t == paE t) = true), ri ((paE t == paE t) = true), ri ((qm t) = true), ri ((qm t) = true), (qm t) = true →
     FnC prog 10 [(texts_cd0 t), (texts_cd0 t)] ((dB (sameS (paR t) (paR t)))), ri ((qm t) = true)] (.done [(if (qm t) = true then sameS (paR t) (paR t) else false) = true])))))) (.need [FnC prog 8 [.val (.string (prF s))] (.tup [(texts_cd2 s), (dI (paL (prF s))), (dI (paE (prF s)))])] (.need [ri ((!chkE s != 0) = true), (!chkE s != 0) = true → FnC prog 9 [(texts_cd1 s)] (.val (.string (prM s s.nM))), ri ((!chkE s != 0) = true), ri ((!chkE s != 0) = true), (chkE s != 0) = false → (!chkE s != 0) = true, ri ((qlc s) = true), (q9b s) = false → (qlc s) = true, ri ((qkc s) = true), (q5b s) = false → (qkc s) = true, ri ((qob s) = true), ri ((qob s) = true), (qob s) = true → FnC prog 10 [(texts_cd2 s), (texts_cd1 s)] ((dB (sameS (paR (prF s)) s))), ri ((qob s) = true), (if (q5b s) = true then true else paL (prF s) != 0) = false → (qob s) = true] (.ite (if (if (q5b s) = true then true else paL (prF s) != 0) = true then true else !sameS (paR (prF s)) s) (.done [false = true]) (.need [FnC prog 8 [.val (.string t)] (.tup [(texts_cd0 t), (dI (paL t)), (dI (paE t))])] (.need [FnC prog 11 [.val (.string t)] (.tup [(texts_cd0 t), (dI (paL t)), (dI (paE t))])] (.need [ri ((paE t == paE t) = true), ri ((paE t == paE t) = true), ri ((paE t == paE t) = true), ri ((qm t) = true), ri ((qm t) = true), (qm t) = true → FnC prog 10 [(texts_cd0 t), (texts_cd0 t)] ((dB (sameS (paR t) (paR t)))), ri ((qm t) = true)] (.done [(if (qm t) = true then sameS (paR t) (paR t) else false) = true])))))))))))))) (by kernel_rfl) ?_
  simp only [qg, qkb, qcc, qic, qm, qfc, q9b, q5b, qkc, qob, qlc, VT.holds, AllT, Sq]
  have hfew : FnC prog 5 [scfD s] (dB (decide (s.nN ≤ 40 ∧ s.nM ≤ 120))) := few_c s
  refine ⟨awake_c, (fun h => (by cases h)), fun _ => ⟨⟨hfew, fun a b => ⟨a, b⟩⟩, fun ⟨h1, h2⟩ => ?_⟩⟩
  have hF : s.nN ≤ 40 ∧ s.nM ≤ 120 := Decidable.not_not.1 fun h => h1 (.inl h)
  have ht : t.size ≤ 1000000 := by omega
  have hlast : FnC prog 8 [dS t] (.tup [scfD (paR t), dI (paL t), dI (paE t)]) ∧ FnC prog 11 [dS t] (.tup [scfD (paR t), dI (paL t), dI (paE t)]) ∧ (True → FnC prog 10 [scfD (paR t), scfD (paR t)] (dB (sameS (paR t) (paR t)))) ∧ sameS (paR t) (paR t) = true :=
    ⟨parse_c t ht, parseR_c t ht, fun _ => sameS_c _ _ (by have := paR_sz t; omega) (by have := paR_sz t; omega), sameS_refl _⟩
  refine ⟨Print_c s, check_c s, fun hz => ⟨fun h => ?_, fun _ => hlast⟩, fun hz => ?_⟩
  · rcases h with h | h
    · exact absurd trivial h
    · exact absurd (by rw [prF, if_neg hz]) h
  · have hc := chk_facts hz
    obtain ⟨q1, q2, q3, q4⟩ := read_back hc hF.1 hF.2
    have e : prF s = prM s s.nM := by rw [prF, if_pos hz]
    have hz2 : (prF s).size ≤ 60000 := by rw [e]; exact q1
    have hz3 := paR_sz (prF s)
    refine ⟨parse_c (prF s) (by omega), ⟨fun _ => printR_c s hc, fun _ => sameS_c _ _ (by omega) (by omega)⟩, fun h => ?_, fun _ => hlast⟩
    rw [e] at h
    rcases h with (((h | h) | h) | h) | h
    · exact absurd hz h
    · exact absurd rfl h
    · exact absurd q2 h
    · exact absurd q3 h
    · rw [q4] at h; exact h.symm
end Go.Abs
end
