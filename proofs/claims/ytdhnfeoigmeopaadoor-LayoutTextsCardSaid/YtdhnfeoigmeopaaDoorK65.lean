/- Contracts. -/
import Derived.Test.YtdhnfeoigmeopaaDoorK64
import Derived.Test.YtdhnfeoigmeopaaDoorB2
import Derived.Lib.AtoiAllCases
set_option maxRecDepth 100000
namespace Go.Abs
open Go
def atV (s : ByteArray) : Int := match Lib.atoiAll s.data.toList with
  | .ok v => v
  | .range => Lib.atoiSat s.data.toList
  | _ => 0
def atB (s : ByteArray) : Bool := match Lib.atoiAll s.data.toList with
  | .ok _ => true
  | _ => false
theorem tab_of {w : World} {S : Nat → Prop} (h : GlobOK (rdArg w S)) : Lib.TabIs prog w "internal/strconv.uint64pow10" .u64 Lib.pow10Tab := by
  have h0 := h _ _ (List.mem_cons_self (a := (DV.whole gT, Value.pointer (some ⟨5, 0, none⟩))))
  cases h0 with
  | whole hr =>
    rcases hr.1 with h1 | ⟨es, c, _, h2⟩ | ⟨cs, T, fr, h1, h2⟩
    · exact absurd h1.2 (by simp [oneV])
    · exfalso
      unfold encEs at h2
      generalize es.toList.map (fun e => (e.key, e.val)) = l at h2
      cases l with
      | nil => simp at h2
      | cons x r => simp at h2
    · have e : gT = cs := by simpa using h2
      show World.var? prog w _ = some gT
      have h3 : w.heap[5]? = some (.cells cs T fr) := h1
      simp only [World.var?, gTab, Option.bind_some, h3, e]
theorem err_of {w : World} {S : Nat → Prop} (h : GlobOK (rdArg w S)) {g : Nat} (hg : g = 0 ∨ g = 1) : ∃ t p, w.cell? ⟨g, 0, none⟩ = some (.iface t p) := by
  have h0 := h (.cptr [.err false]) (.pointer (some ⟨g, 0, none⟩)) (shG_mem (by rcases hg with rfl | rfl <;> simp [gl]))
  cases h0 with
  | cptr U ha ho hr =>
    have a1 := ha 0 _ rfl
    have a2 := ho 0 _ rfl
    have a3 := hr 0 _ rfl
    generalize U 0 = u at a1 a2 a3
    cases a3 with
    | err e1 e2 =>
      obtain ⟨t, p, rfl⟩ := e2 rfl
      exact ⟨t, p, rdw_cell a1.1 a2⟩
theorem tup2 {rd : Rd} {d e : DV} {u v : Value} (h1 : RelC rd d u) (h2 : RelC rd e v) : RelC rd (.tup [d, e]) (.tuple #[u, v]) := by
  refine .tup rfl fun j f x hj hx => ?_
  match j, hj, hx with
  | 0, hj, hx => cases hj; cases hx; exact h1
  | 1, hj, hx => cases hj; cases hx; exact h2
theorem atoi_c (s : ByteArray) (hs : s.size ≤ 1000000) : FnC prog 14 [dS s] (.tup [dI (atV s), .err (atB s)]) := by
  refine ⟨⟨_, Go.Proofs.Tryd.func14, rfl, by kernel_rfl⟩, fun S w vs hsz hv hg => ?_⟩
  obtain ⟨u, rfl, h1⟩ := args1 hsz hv
  cases h1
  cases h : Lib.atoiAll s.data.toList
  · rename_i v
    refine (Go.Proofs.Any.strconv_Atoi_ok Go.Proofs.Tryd.atoiL s (by omega) v h w).mono ?_
    rintro e w' ⟨rfl, hw⟩
    refine ⟨_, rfl, ?_, ?_⟩
    · rw [show atV s = v by rw [atV, h], show atB s = true by rw [atB, h]]
      exact tup2 (.val _) (.err (fun _ => rfl) (fun h => by cases h))
    · rcases hw with rfl | ⟨t, rfl⟩
      · exact below_same _
      · exact below_of (Lib.bytesWorld_below w 5 t)
  · obtain ⟨te, pe, hc⟩ := err_of hg (.inl rfl)
    refine (Go.Proofs.Any.strconv_Atoi_syntax Go.Proofs.Tryd.atoiL s (by omega) h _ w hc (.inr ⟨te, pe, rfl⟩)).mono ?_
    rintro e w' ⟨N, rfl, _, _, hb⟩
    refine ⟨_, rfl, ?_, below_of hb⟩
    rw [show atV s = 0 by rw [atV, h], show atB s = false by rw [atB, h]]
    exact tup2 (.val _) (.err (fun h => by cases h) (fun _ => ⟨_, _, rfl⟩))
  · obtain ⟨te, pe, hc⟩ := err_of hg (.inr rfl)
    refine (Go.Proofs.Any.strconv_Atoi_range Go.Proofs.Tryd.atoiL s (by omega) h _ w hc (.inr ⟨te, pe, rfl⟩)).mono ?_
    rintro e w' ⟨N, rfl, _, _, hb⟩
    refine ⟨_, rfl, ?_, below_of hb⟩
    rw [show atV s = Lib.atoiSat s.data.toList by rw [atV, h], show atB s = false by rw [atB, h]]
    exact tup2 (.val _) (.err (fun h => by cases h) (fun _ => ⟨_, _, rfl⟩))
theorem dd_lt {u : Nat} (h : u < 10) : Lib.decDigits u = [UInt8.ofNat (48 + u)] := Lib.decDigits_one h
theorem dd_ge {u : Nat} (h : ¬ u < 10) : Lib.decDigits u = Lib.decDigits (u / 10) ++ [UInt8.ofNat (48 + u % 10)] := by rw [Lib.decDigits, dif_neg h]
theorem u8n {d : Nat} (h : d < 10) : (UInt8.ofNat (48 + d)).toNat = 48 + d := by
  rw [UInt8.toNat_ofNat']; omega
theorem dd_len1 (u : Nat) : 1 ≤ (Lib.decDigits u).length := by
  by_cases h : u < 10
  · rw [dd_lt h]; exact Nat.le_refl _
  · rw [dd_ge h, List.length_append]; exact Nat.le_add_left _ _
theorem dd_len : ∀ (k : Nat) {u : Nat}, u < 10 ^ (k + 1) → (Lib.decDigits u).length ≤ k + 1
  | 0, u, h => by rw [dd_lt (by omega)]; exact Nat.le_refl _
  | k + 1, u, h => by
    by_cases h1 : u < 10
    · rw [dd_lt h1]; exact Nat.le_add_left _ _
    · rw [dd_ge h1, List.length_append]
      have := dd_len k (u := u / 10) (by rw [Nat.pow_succ] at h; omega)
      show _ + 1 ≤ _
      omega
theorem dd_head (u : Nat) : ∃ (d : Nat) (r : List UInt8), d < 10 ∧ Lib.decDigits u = UInt8.ofNat (48 + d) :: r := by
  induction u using Nat.strongRecOn with
  | _ u ih =>
    by_cases h1 : u < 10
    · exact ⟨u, [], h1, dd_lt h1⟩
    · obtain ⟨d, r, h2, h3⟩ := ih (u / 10) (by omega)
      exact ⟨d, r ++ [UInt8.ofNat (48 + u % 10)], h2, by rw [dd_ge h1, h3]; rfl⟩
theorem pu_dd (u : Nat) : u < 1000000000 → ∀ tail, Lib.parseUint10 0 (Lib.decDigits u ++ tail) = Lib.parseUint10 u tail := by
  induction u using Nat.strongRecOn with
  | _ u ih =>
    intro hu tail
    by_cases h1 : u < 10
    · rw [dd_lt h1]
      show Lib.parseUint10 0 (_ :: tail) = _
      rw [Lib.parseUint10, u8n h1, if_pos (by omega), if_neg (by omega), if_neg (by omega)]
      congr 1
      omega
    · rw [dd_ge h1, List.append_assoc, ih (u / 10) (by omega) (by omega)]
      show Lib.parseUint10 (u / 10) (_ :: tail) = _
      have h2 : u % 10 < 10 := by omega
      rw [Lib.parseUint10, u8n h2, if_pos (by omega), if_neg (by omega), if_neg (by omega)]
      congr 1
      omega
theorem nac_dd {s : ByteArray} {p : Nat} (u : Nat) : ∀ tail, s.data.toList.drop p = Lib.decDigits u ++ tail → nac s p (p + (Lib.decDigits u).length) = (u : Int) ∧ ∀ j, p ≤ j → j < p + (Lib.decDigits u).length → 48 ≤ bget s j ∧ bget s j ≤ 57 := by
  induction u using Nat.strongRecOn with
  | _ u ih =>
    intro tail h
    by_cases h1 : u < 10
    · rw [dd_lt h1] at h ⊢
      have hb : s.data.toList[p]? = some (UInt8.ofNat (48 + u)) := by
        have : (s.data.toList.drop p)[0]? = some (UInt8.ofNat (48 + u)) := by rw [h]; rfl
        rwa [List.getElem?_drop, Nat.add_zero] at this
      have hg := (bget_some hb).2
      rw [u8n h1] at hg
      refine ⟨?_, fun j h2 h3 => ?_⟩
      · show nac s p (p + 1) = _
        rw [nac, if_pos (Nat.le_refl _), nac_0 _ _ _ (Nat.le_refl _), hg]
        omega
      · obtain rfl : j = p := by simp only [List.length_singleton] at h3; omega
        rw [hg]; omega
    · rw [dd_ge h1] at h ⊢
      rw [List.append_assoc] at h
      obtain ⟨i1, i2⟩ := ih (u / 10) (by omega) _ h
      have hb : s.data.toList[p + (Lib.decDigits (u / 10)).length]? = some (UInt8.ofNat (48 + u % 10)) := by
        have : (s.data.toList.drop p)[(Lib.decDigits (u / 10)).length]? = some (UInt8.ofNat (48 + u % 10)) := by
          rw [h, List.getElem?_append_right (Nat.le_refl _), Nat.sub_self]; rfl
        rwa [List.getElem?_drop] at this
      have hg := (bget_some hb).2
      rw [u8n (by omega)] at hg
      rw [List.length_append, List.length_singleton]
      refine ⟨?_, fun j h2 h3 => ?_⟩
      · rw [← Nat.add_assoc, nac, if_pos (by omega), i1, hg]
        omega
      · by_cases e : j = p + (Lib.decDigits (u / 10)).length
        · rw [e, hg]; omega
        · exact i2 j h2 (by omega)
theorem ndK_all {s : ByteArray} : ∀ i, (∀ j, nfr s ≤ j → j < i → 48 ≤ bget s j ∧ bget s j ≤ 57) → ndK s i = true
  | 0, _ => rfl
  | i + 1, h => by
    rw [ndK, ndK_all i fun j h1 h2 => h j h1 (by omega), Bool.true_and, Bool.or_eq_true, decide_eq_true_eq, decide_eq_true_eq]
    by_cases e : i < nfr s
    · exact .inl e
    · exact .inr (h i (by omega) (by omega))
theorem num_dd {s : ByteArray} {u : Nat} (hu : u < 10000000) (h : s.data.toList.drop (nfr s) = Lib.decDigits u) (hle : nfr s ≤ s.size) : s.size = nfr s + (Lib.decDigits u).length ∧ nln s 7 = true ∧ ndg s = true ∧ nac s (nfr s) s.size = (u : Int) := by
  have hl : s.size - nfr s = (Lib.decDigits u).length := by rw [← h, List.length_drop, ← Lib.size_eq]
  have h1 := dd_len1 u
  have h2 := dd_len 6 (u := u) (by omega)
  have h3 := nac_dd (s := s) (p := nfr s) u [] (by rw [h, List.append_nil])
  have h4 : s.size = nfr s + (Lib.decDigits u).length := by omega
  rw [← h4] at h3
  refine ⟨h4, decide_eq_true (by omega), ndK_all _ fun j a b => h3.2 j a b, h3.1⟩
theorem decB_data (n : Int) : (decB n).data.toList = if n < 0 then 45 :: Lib.decDigits n.natAbs else Lib.decDigits n.natAbs := by
  unfold decB
  show Lib.itoa n = _
  rw [Lib.itoa]
  split
  · rfl
  · rw [show n.natAbs = n.toNat by omega]
theorem nfr_decB (n : Int) : nfr (decB n) = if n < 0 then 1 else 0 := by
  have hd := decB_data n
  by_cases h : n < 0
  · rw [if_pos h] at hd ⊢
    obtain ⟨h1, h2⟩ := bget_some (s := decB n) (i := 0) (b := 45) (by rw [hd]; rfl)
    rw [nfr, if_pos ⟨by omega, h2⟩]
  · rw [if_neg h] at hd ⊢
    obtain ⟨d, r, h3, h4⟩ := dd_head n.natAbs
    obtain ⟨h1, h2⟩ := bget_some (s := decB n) (i := 0) (b := UInt8.ofNat (48 + d)) (by rw [hd, h4]; rfl)
    rw [u8n h3] at h2
    rw [nfr, if_neg (fun h => by have := h.2; omega)]
theorem decB_drop (n : Int) : (decB n).data.toList.drop (nfr (decB n)) = Lib.decDigits n.natAbs := by
  rw [nfr_decB, decB_data]
  by_cases h : n < 0
  · rw [if_pos h, if_pos h]; rfl
  · rw [if_neg h, if_neg h]; rfl
theorem decB_sz (n : Int) : (decB n).size = nfr (decB n) + (Lib.decDigits n.natAbs).length := by
  rw [nfr_decB, Lib.size_eq, decB_data]
  by_cases h : n < 0
  · rw [if_pos h, if_pos h, List.length_cons]; omega
  · rw [if_neg h, if_neg h]; omega
theorem dec_ok {n : Int} (h : n.natAbs < 10000000) : (nuB (decB n) 7 = true ∧ nuV (decB n) 7 = n) ∧ atB (decB n) = true ∧ atV (decB n) = n := by
  obtain ⟨h1, h2, h3, h4⟩ := num_dd h (decB_drop n) (by rw [decB_sz]; omega)
  have hv : nva (decB n) = n := by
    rw [nva, h4, nfr_decB]
    by_cases hn : n < 0
    · rw [if_pos hn, if_pos rfl]; omega
    · rw [if_neg hn, if_neg (by decide)]; omega
  have ha : Lib.atoiAll (decB n).data.toList = .ok n := by
    rw [decB_data]
    have hp := pu_dd n.natAbs (by omega) []
    rw [List.append_nil] at hp
    obtain ⟨d, r, d1, d2⟩ := dd_head n.natAbs
    have hm : Lib.parseMag (Lib.decDigits n.natAbs) = .ok n.natAbs := by
      rw [Lib.parseMag, if_neg (by rw [d2]; exact List.cons_ne_nil _ _), hp]
      rfl
    by_cases hn : n < 0
    · rw [if_pos hn, Lib.atoiAll_minus, hm, Lib.signed, if_neg (by omega), show -((n.natAbs : Nat) : Int) = n by omega]
    · rw [if_neg hn, d2, Lib.atoiAll_plain _ _ (by rw [u8n d1]; omega) (by rw [u8n d1]; omega), ← d2, hm, Lib.signless, if_neg (by omega), show ((n.natAbs : Nat) : Int) = n by omega]
  refine ⟨⟨?_, ?_⟩, by rw [atB, ha], by rw [atV, ha]⟩
  · rw [nuB, h2, h3, hv]; simp
  · rw [nuV, if_pos ⟨h2, h3⟩, hv]
theorem toList_inj {a b : ByteArray} (h : a.toList = b.toList) : a = b := by
  rw [Lib.toList_data, Lib.toList_data] at h
  exact ByteArray.ext (Array.toList_inj.1 h)
theorem bget_app (a b : ByteArray) (i : Nat) : bget (a ++ b) i = if i < a.size then bget a i else bget b (i - a.size) := by
  unfold bget
  rw [Array.getD_eq_getD_getElem?, Array.getD_eq_getD_getElem?, Array.getD_eq_getD_getElem?, ByteArray.data_append, Array.getElem?_append, show a.data.size = a.size from rfl]
  split <;> rfl
theorem ext_left (a b : ByteArray) {i j : Nat} (h : j ≤ a.size) : (a ++ b).extract i j = a.extract i j := by
  apply ByteArray.ext
  apply Array.toList_inj.1
  have hs := Lib.size_eq a
  rw [Lib.extract_data, Lib.extract_data, ByteArray.data_append, Array.toList_append]
  by_cases hi : i ≤ j
  · rw [List.drop_append_of_le_length (by omega), List.take_append_of_le_length (by rw [List.length_drop]; omega)]
  · rw [show j - i = 0 by omega, List.take_zero, List.take_zero]
theorem ext_right (a b : ByteArray) : (a ++ b).extract a.size (a ++ b).size = b := by
  apply ByteArray.ext
  apply Array.toList_inj.1
  have hs := Lib.size_eq a
  have hb := Lib.size_eq b
  rw [Lib.extract_data, ByteArray.data_append, Array.toList_append, hs, List.drop_left, ByteArray.size_append, List.take_of_length_le (by omega)]
def noC (l : ByteArray) (c : Int) : Prop := ∀ j, j < l.size → bget l j ≠ c
theorem noC_app {a b : ByteArray} {c : Int} (h1 : noC a c) (h2 : noC b c) : noC (a ++ b) c := fun j hj => by
  rw [ByteArray.size_append] at hj
  rw [bget_app]
  split
  · rename_i h; exact h1 j h
  · exact h2 _ (by omega)
theorem cut_pre (t l : ByteArray) (c : Int) : ∀ {i}, i ≤ t.size → cuF (t ++ l) c i = cuF t c i ∧ cuN (t ++ l) c i = cuN t c i ∧ ∀ q, cuS (t ++ l) c i q = cuS t c i q
  | 0, _ => ⟨rfl, rfl, fun _ => rfl⟩
  | i + 1, h => by
    obtain ⟨h1, h2, h3⟩ := cut_pre t l c (i := i) (by omega)
    have hb : bget (t ++ l) i = bget t i := by rw [bget_app, if_pos (by omega)]
    refine ⟨by rw [cuF, cuF, hb, h1], by rw [cuN, cuN, hb, h2], fun q => ?_⟩
    rw [cuS, cuS, hb, h1, h2, h3, ext_left t l (by omega)]
theorem cut_mid {t l : ByteArray} {c : Int} (h : cuF t c t.size = t.size) (hl : noC l c) : ∀ {j}, j ≤ l.size → cuF (t ++ l) c (t.size + j) = t.size ∧ cuN (t ++ l) c (t.size + j) = cuN t c t.size ∧ ∀ q, cuS (t ++ l) c (t.size + j) q = cuS t c t.size q
  | 0, _ => by
    have := cut_pre t l c (Nat.le_refl t.size)
    exact ⟨this.1.trans h, this.2.1, this.2.2⟩
  | j + 1, hj => by
    obtain ⟨h1, h2, h3⟩ := cut_mid h hl (j := j) (by omega)
    have hb : bget (t ++ l) (t.size + j) ≠ c := by
      rw [bget_app, if_neg (by omega), show t.size + j - t.size = j by omega]
      exact hl j (by omega)
    refine ⟨?_, ?_, fun q => ?_⟩
    · show cuF (t ++ l) c (t.size + j + 1) = _
      rw [cuF, if_neg hb]; exact h1
    · show cuN (t ++ l) c (t.size + j + 1) = _
      rw [cuN, if_neg hb]; exact h2
    · show cuS (t ++ l) c (t.size + j + 1) q = _
      rw [cuS, if_neg (fun h => hb h.1)]; exact h3 q
theorem cut_line {t l T : ByteArray} (c : UInt8) (hT : T = t ++ l ++ ⟨#[c]⟩) (h : cuF t (c.toNat : Int) t.size = t.size) (hl : noC l (c.toNat : Int)) :
    cuF T (c.toNat : Int) T.size = T.size ∧ cuN T (c.toNat : Int) T.size = cuN t (c.toNat : Int) t.size + 1 ∧ ∀ q, cuS T (c.toNat : Int) T.size q = if cuN t (c.toNat : Int) t.size = q then l else cuS t (c.toNat : Int) t.size q := by
  subst hT
  have hs : (t ++ l ++ ⟨#[c]⟩).size = (t ++ l).size + 1 := by rw [ByteArray.size_append]; rfl
  have hb : bget (t ++ l ++ ⟨#[c]⟩) (t ++ l).size = (c.toNat : Int) := by
    rw [bget_app, if_neg (by omega), Nat.sub_self]; rfl
  obtain ⟨p1, p2, p3⟩ := cut_pre (t ++ l) ⟨#[c]⟩ (c.toNat : Int) (Nat.le_refl (t ++ l).size)
  have hm := cut_mid h hl (j := l.size) (Nat.le_refl _)
  rw [← ByteArray.size_append] at hm
  obtain ⟨m1, m2, m3⟩ := hm
  rw [hs]
  refine ⟨by rw [cuF, if_pos hb], by rw [cuN, if_pos hb, p2, m2], fun q => ?_⟩
  rw [cuS, p1, p2, p3, m1, m2, m3, ext_left _ _ (Nat.le_refl _), ext_right]
  by_cases e : cuN t (c.toNat : Int) t.size = q
  · rw [if_pos ⟨hb, e⟩, if_pos e]
  · rw [if_neg (fun h => e h.2), if_neg e]
theorem cut_fin {t l : ByteArray} {c : Int} (h : cuF t c t.size = t.size) (hl : noC l c) : cutN (t ++ l) c = cuN t c t.size + 1 ∧ (∀ q, q < cuN t c t.size → cutS (t ++ l) c q = cuS t c t.size q) ∧ cutS (t ++ l) c (cuN t c t.size) = l := by
  have hm := cut_mid h hl (j := l.size) (Nat.le_refl _)
  rw [← ByteArray.size_append] at hm
  obtain ⟨m1, m2, m3⟩ := hm
  refine ⟨by rw [cutN, m2], fun q hq => ?_, ?_⟩
  · rw [cutS, m2, if_pos hq, m3]
  · rw [cutS, m2, if_neg (by omega), m1, ext_right]
theorem decB_bytes (n : Int) {j : Nat} (hj : j < (decB n).size) : 45 ≤ bget (decB n) j := by
  have hd := decB_drop n
  rw [← List.append_nil (Lib.decDigits n.natAbs)] at hd
  have h1 := (nac_dd n.natAbs [] hd).2 j
  by_cases h : nfr (decB n) ≤ j
  · have := h1 h (by rw [decB_sz] at hj; exact hj)
    omega
  · have h2 := nfr_decB n
    by_cases hn : n < 0
    · rw [if_pos hn] at h2
      obtain rfl : j = 0 := by omega
      have hd := decB_data n
      rw [if_pos hn] at hd
      have := (bget_some (s := decB n) (i := 0) (b := 45) (by rw [hd]; rfl)).2
      rw [this]; decide
    · rw [if_neg hn] at h2; omega
theorem decB_no (n : Int) {c : Int} (hc : c < 45) : noC (decB n) c := fun j hj e => by
  have := decB_bytes n hj
  omega
theorem noC_sp : noC ⟨#[32]⟩ 10 := fun j hj => by
  obtain rfl : j = 0 := by have : j < 1 := hj; omega
  decide
end Go.Abs
