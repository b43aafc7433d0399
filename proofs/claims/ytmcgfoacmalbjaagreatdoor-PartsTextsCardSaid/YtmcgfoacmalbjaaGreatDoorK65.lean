/- Contracts. -/
import Derived.Test.YtmcgfoacmalbjaaGreatDoorK64
import Derived.Lib.AtoiAllCases
set_option maxRecDepth 100000
namespace Go.Abs
open Go
def atV (s : ByteArray) : Int := match Lib.atoiAll s.data.toList with
  | .ok v => v
  | .range => Lib.atoiSat s.data.toList
  | _ => 0
def atB (s : ByteArray) : Bool := match Lib.atoiAll s.data.toList with
  | .ok _ => true
  | _ => false
theorem tab_of {w : World} {S : Nat → Prop} (h : GlobOK (rdArg w S)) : Lib.TabIs prog w "internal/strconv.uint64pow10" .u64 Lib.pow10Tab := by
  have h0 := h _ _ (List.mem_cons_self (a := (DV.whole gT, Value.pointer (some ⟨3, 0, none⟩))))
  cases h0 with
  | whole hr =>
    rcases hr.1 with h1 | ⟨es, c, _, h2⟩ | ⟨cs, T, fr, h1, h2⟩
    · exact absurd h1.2 (by simp [oneV])
    · exfalso
      unfold encEs at h2
      generalize es.toList.map (fun e => (e.key, e.val)) = l at h2
      cases l with
      | nil => simp at h2
      | cons x r => simp at h2
    · have e : gT = cs := by simpa using h2
      show World.var? prog w _ = some gT
      have h3 : w.heap[3]? = some (.cells cs T fr) := h1
      simp only [World.var?, gTab, Option.bind_some, h3, e]
theorem err_of {w : World} {S : Nat → Prop} (h : GlobOK (rdArg w S)) {g : Nat} (hg : g = 1 ∨ g = 2) : ∃ t p, w.cell? ⟨g, 0, none⟩ = some (.iface t p) := by
  have h0 := h (.cptr [.err false]) (.pointer (some ⟨g, 0, none⟩)) (shG_mem (by rcases hg with rfl | rfl <;> simp [gl]))
  cases h0 with
  | cptr U ha ho hr =>
    have a1 := ha 0 _ rfl
    have a2 := ho 0 _ rfl
    have a3 := hr 0 _ rfl
    generalize U 0 = u at a1 a2 a3
    cases a3 with
    | err e1 e2 =>
      obtain ⟨t, p, rfl⟩ := e2 rfl
      exact ⟨t, p, rdw_cell a1.1 a2⟩
theorem itoa_c (n : Int) (h : -9223372036854775808 ≤ n ∧ n ≤ 9223372036854775807) : FnC prog 44 [dI n] (dS (decB n)) := by
  refine ⟨⟨_, Go.Proofs.Tryz.func44, rfl, by kernel_rfl⟩, fun S w vs hs hv hg => ?_⟩
  obtain ⟨u, rfl, h1⟩ := args1 hs hv
  cases h1
  refine (itoa_k n h.1 h.2 w (tab_of hg)).mono ?_
  rintro e w' ⟨d, rfl, hd, hb⟩
  rw [hd.out]
  exact ⟨_, rfl, .val _, below_of hb⟩
theorem tup2 {rd : Rd} {d e : DV} {u v : Value} (h1 : RelC rd d u) (h2 : RelC rd e v) : RelC rd (.tup [d, e]) (.tuple #[u, v]) := by
  refine .tup rfl fun j f x hj hx => ?_
  match j, hj, hx with
  | 0, hj, hx => cases hj; cases hx; exact h1
  | 1, hj, hx => cases hj; cases hx; exact h2
theorem atoi_c (s : ByteArray) (hs : s.size ≤ 1000000) : FnC prog 51 [dS s] (.tup [dI (atV s), .err (atB s)]) := by
  refine ⟨⟨_, Go.Proofs.Tryz.func51, rfl, by kernel_rfl⟩, fun S w vs hsz hv hg => ?_⟩
  obtain ⟨u, rfl, h1⟩ := args1 hsz hv
  cases h1
  cases h : Lib.atoiAll s.data.toList
  · rename_i v
    refine (Go.Proofs.Any.strconv_Atoi_ok Go.Proofs.Tryz.atoiL s (by omega) v h w).mono ?_
    rintro e w' ⟨rfl, hw⟩
    refine ⟨_, rfl, ?_, ?_⟩
    · rw [show atV s = v by rw [atV, h], show atB s = true by rw [atB, h]]
      exact tup2 (.val _) (.err (fun _ => rfl) (fun h => by cases h))
    · rcases hw with rfl | ⟨t, rfl⟩
      · exact below_same _
      · exact below_of (Lib.bytesWorld_below w 5 t)
  · obtain ⟨te, pe, hc⟩ := err_of hg (.inl rfl)
    refine (Go.Proofs.Any.strconv_Atoi_syntax Go.Proofs.Tryz.atoiL s (by omega) h _ w hc (.inr ⟨te, pe, rfl⟩)).mono ?_
    rintro e w' ⟨N, rfl, _, _, hb⟩
    refine ⟨_, rfl, ?_, below_of hb⟩
    rw [show atV s = 0 by rw [atV, h], show atB s = false by rw [atB, h]]
    exact tup2 (.val _) (.err (fun h => by cases h) (fun _ => ⟨_, _, rfl⟩))
  · obtain ⟨te, pe, hc⟩ := err_of hg (.inr rfl)
    refine (Go.Proofs.Any.strconv_Atoi_range Go.Proofs.Tryz.atoiL s (by omega) h _ w hc (.inr ⟨te, pe, rfl⟩)).mono ?_
    rintro e w' ⟨N, rfl, _, _, hb⟩
    refine ⟨_, rfl, ?_, below_of hb⟩
    rw [show atV s = Lib.atoiSat s.data.toList by rw [atV, h], show atB s = false by rw [atB, h]]
    exact tup2 (.val _) (.err (fun h => by cases h) (fun _ => ⟨_, _, rfl⟩))
theorem atV_bd (s : ByteArray) : -9223372036854775808 ≤ atV s ∧ atV s ≤ 9223372036854775807 := by
  unfold atV
  cases h : Lib.atoiAll s.data.toList
  · exact Lib.atoiAll_bounds h
  · exact (show (-9223372036854775808:Int) ≤ 0 ∧ (0:Int) ≤ 9223372036854775807 from by decide)
  · exact Lib.atoiSat_bounds _
theorem dd_lt {u : Nat} (h : u < 10) : Lib.decDigits u = [UInt8.ofNat (48 + u)] := Lib.decDigits_one h
theorem dd_ge {u : Nat} (h : ¬ u < 10) : Lib.decDigits u = Lib.decDigits (u / 10) ++ [UInt8.ofNat (48 + u % 10)] := by rw [Lib.decDigits, dif_neg h]
theorem u8n {d : Nat} (h : d < 10) : (UInt8.ofNat (48 + d)).toNat = 48 + d := by
  rw [UInt8.toNat_ofNat']; omega
theorem dd_len1 (u : Nat) : 1 ≤ (Lib.decDigits u).length := by
  by_cases h : u < 10
  · rw [dd_lt h]; exact Nat.le_refl _
  · rw [dd_ge h, List.length_append]; exact Nat.le_add_left _ _
theorem dd_len : ∀ (k : Nat) {u : Nat}, u < 10 ^ (k + 1) → (Lib.decDigits u).length ≤ k + 1
  | 0, u, h => by rw [dd_lt (by omega)]; exact Nat.le_refl _
  | k + 1, u, h => by
    by_cases h1 : u < 10
    · rw [dd_lt h1]; exact Nat.le_add_left _ _
    · rw [dd_ge h1, List.length_append]
      have := dd_len k (u := u / 10) (by rw [Nat.pow_succ] at h; omega)
      show _ + 1 ≤ _
      omega
theorem dd_pow (u : Nat) : u < 10 ^ (Lib.decDigits u).length := by
  induction u using Nat.strongRecOn with
  | _ u ih =>
    by_cases h1 : u < 10
    · rw [dd_lt h1]; exact h1
    · rw [dd_ge h1, List.length_append]
      have := ih (u / 10) (by omega)
      show _ < 10 ^ (_ + 1)
      rw [Nat.pow_succ]
      omega
theorem dd_head (u : Nat) : ∃ (d : Nat) (r : List UInt8), d < 10 ∧ Lib.decDigits u = UInt8.ofNat (48 + d) :: r := by
  induction u using Nat.strongRecOn with
  | _ u ih =>
    by_cases h1 : u < 10
    · exact ⟨u, [], h1, dd_lt h1⟩
    · obtain ⟨d, r, h2, h3⟩ := ih (u / 10) (by omega)
      exact ⟨d, r ++ [UInt8.ofNat (48 + u % 10)], h2, by rw [dd_ge h1, h3]; rfl⟩
theorem pu_dd (u : Nat) : u < 1000000000 → ∀ tail, Lib.parseUint10 0 (Lib.decDigits u ++ tail) = Lib.parseUint10 u tail := by
  induction u using Nat.strongRecOn with
  | _ u ih =>
    intro hu tail
    by_cases h1 : u < 10
    · rw [dd_lt h1]
      show Lib.parseUint10 0 (_ :: tail) = _
      rw [Lib.parseUint10, u8n h1, if_pos (by omega), if_neg (by omega), if_neg (by omega)]
      congr 1
      omega
    · rw [dd_ge h1, List.append_assoc, ih (u / 10) (by omega) (by omega)]
      show Lib.parseUint10 (u / 10) (_ :: tail) = _
      have h2 : u % 10 < 10 := by omega
      rw [Lib.parseUint10, u8n h2, if_pos (by omega), if_neg (by omega), if_neg (by omega)]
      congr 1
      omega
theorem nac_dd {s : ByteArray} {p : Nat} (u : Nat) : ∀ tail, s.data.toList.drop p = Lib.decDigits u ++ tail → nac s p (p + (Lib.decDigits u).length) = (u : Int) ∧ ∀ j, p ≤ j → j < p + (Lib.decDigits u).length → 48 ≤ bget s j ∧ bget s j ≤ 57 := by
  induction u using Nat.strongRecOn with
  | _ u ih =>
    intro tail h
    by_cases h1 : u < 10
    · rw [dd_lt h1] at h ⊢
      have hb : s.data.toList[p]? = some (UInt8.ofNat (48 + u)) := by
        have : (s.data.toList.drop p)[0]? = some (UInt8.ofNat (48 + u)) := by rw [h]; rfl
        rwa [List.getElem?_drop, Nat.add_zero] at this
      have hg := (bget_some hb).2
      rw [u8n h1] at hg
      refine ⟨?_, fun j h2 h3 => ?_⟩
      · show nac s p (p + 1) = _
        rw [nac, if_pos (Nat.le_refl _), nac_0 _ _ _ (Nat.le_refl _), hg]
        omega
      · obtain rfl : j = p := by simp only [List.length_singleton] at h3; omega
        rw [hg]; omega
    · rw [dd_ge h1] at h ⊢
      rw [List.append_assoc] at h
      obtain ⟨i1, i2⟩ := ih (u / 10) (by omega) _ h
      have hb : s.data.toList[p + (Lib.decDigits (u / 10)).length]? = some (UInt8.ofNat (48 + u % 10)) := by
        have : (s.data.toList.drop p)[(Lib.decDigits (u / 10)).length]? = some (UInt8.ofNat (48 + u % 10)) := by
          rw [h, List.getElem?_append_right (Nat.le_refl _), Nat.sub_self]; rfl
        rwa [List.getElem?_drop] at this
      have hg := (bget_some hb).2
      rw [u8n (by omega)] at hg
      rw [List.length_append, List.length_singleton]
      refine ⟨?_, fun j h2 h3 => ?_⟩
      · rw [← Nat.add_assoc, nac, if_pos (by omega), i1, hg]
        omega
      · by_cases e : j = p + (Lib.decDigits (u / 10)).length
        · rw [e, hg]; omega
        · exact i2 j h2 (by omega)
theorem ndK_all {s : ByteArray} : ∀ i, (∀ j, nfr s ≤ j → j < i → 48 ≤ bget s j ∧ bget s j ≤ 57) → ndK s i = true
  | 0, _ => rfl
  | i + 1, h => by
    rw [ndK, ndK_all i fun j h1 h2 => h j h1 (by omega), Bool.true_and, Bool.or_eq_true, decide_eq_true_eq, decide_eq_true_eq]
    by_cases e : i < nfr s
    · exact .inl e
    · exact .inr (h i (by omega) (by omega))
theorem num_dd {s : ByteArray} {u : Nat} (hu : u < 10000000) (h : s.data.toList.drop (nfr s) = Lib.decDigits u) (hle : nfr s ≤ s.size) : s.size = nfr s + (Lib.decDigits u).length ∧ nln s 7 = true ∧ ndg s = true ∧ nac s (nfr s) s.size = (u : Int) := by
  have hl : s.size - nfr s = (Lib.decDigits u).length := by rw [← h, List.length_drop, ← Lib.size_eq]
  have h1 := dd_len1 u
  have h2 := dd_len 6 (u := u) (by omega)
  have h3 := nac_dd (s := s) (p := nfr s) u [] (by rw [h, List.append_nil])
  have h4 : s.size = nfr s + (Lib.decDigits u).length := by omega
  rw [← h4] at h3
  refine ⟨h4, decide_eq_true (by omega), ndK_all _ fun j a b => h3.2 j a b, h3.1⟩
theorem decB_data (n : Int) : (decB n).data.toList = if n < 0 then 45 :: Lib.decDigits n.natAbs else Lib.decDigits n.natAbs := by
  unfold decB
  show Lib.itoa n = _
  rw [Lib.itoa]
  split
  · rfl
  · rw [show n.natAbs = n.toNat by omega]
theorem nfr_decB (n : Int) : nfr (decB n) = if n < 0 then 1 else 0 := by
  have hd := decB_data n
  by_cases h : n < 0
  · rw [if_pos h] at hd ⊢
    obtain ⟨h1, h2⟩ := bget_some (s := decB n) (i := 0) (b := 45) (by rw [hd]; rfl)
    rw [nfr, if_pos ⟨by omega, h2⟩]
  · rw [if_neg h] at hd ⊢
    obtain ⟨d, r, h3, h4⟩ := dd_head n.natAbs
    obtain ⟨h1, h2⟩ := bget_some (s := decB n) (i := 0) (b := UInt8.ofNat (48 + d)) (by rw [hd, h4]; rfl)
    rw [u8n h3] at h2
    rw [nfr, if_neg (fun h => by have := h.2; omega)]
theorem decB_drop (n : Int) : (decB n).data.toList.drop (nfr (decB n)) = Lib.decDigits n.natAbs := by
  rw [nfr_decB, decB_data]
  by_cases h : n < 0
  · rw [if_pos h, if_pos h]; rfl
  · rw [if_neg h, if_neg h]; rfl
theorem decB_sz (n : Int) : (decB n).size = nfr (decB n) + (Lib.decDigits n.natAbs).length := by
  rw [nfr_decB, Lib.size_eq, decB_data]
  by_cases h : n < 0
  · rw [if_pos h, if_pos h, List.length_cons]; omega
  · rw [if_neg h, if_neg h]; omega
theorem dec_ok {n : Int} (h : n.natAbs < 10000000) : (nuB (decB n) 7 = true ∧ nuV (decB n) 7 = n) ∧ atB (decB n) = true ∧ atV (decB n) = n := by
  obtain ⟨h1, h2, h3, h4⟩ := num_dd h (decB_drop n) (by rw [decB_sz]; omega)
  have hv : nva (decB n) = n := by
    rw [nva, h4, nfr_decB]
    by_cases hn : n < 0
    · rw [if_pos hn, if_pos rfl]; omega
    · rw [if_neg hn, if_neg (by decide)]; omega
  have ha : Lib.atoiAll (decB n).data.toList = .ok n := by
    rw [decB_data]
    have hp := pu_dd n.natAbs (by omega) []
    rw [List.append_nil] at hp
    obtain ⟨d, r, d1, d2⟩ := dd_head n.natAbs
    have hm : Lib.parseMag (Lib.decDigits n.natAbs) = .ok n.natAbs := by
      rw [Lib.parseMag, if_neg (by rw [d2]; exact List.cons_ne_nil _ _), hp]
      rfl
    by_cases hn : n < 0
    · rw [if_pos hn, Lib.atoiAll_minus, hm, Lib.signed, if_neg (by omega), show -((n.natAbs : Nat) : Int) = n by omega]
    · rw [if_neg hn, d2, Lib.atoiAll_plain _ _ (by rw [u8n d1]; omega) (by rw [u8n d1]; omega), ← d2, hm, Lib.signless, if_neg (by omega), show ((n.natAbs : Nat) : Int) = n by omega]
  refine ⟨⟨?_, ?_⟩, by rw [atB, ha], by rw [atV, ha]⟩
  · rw [nuB, h2, h3, hv]; simp
  · rw [nuV, if_pos ⟨h2, h3⟩, hv]
theorem hp_minus (s : ByteArray) : hpB s ⟨#[45]⟩ = true ↔ ((s.size : Int) > 0 ∧ bget s 0 = 45) := by
  have z1 : (⟨#[45]⟩ : ByteArray).size = 1 := rfl
  have e1 : (⟨#[45]⟩ : ByteArray).toList = [45] := by rw [Lib.toList_data]
  rw [hpB, Bool.and_eq_true, decide_eq_true_eq, beq_iff_eq, z1, e1, Lib.extract_toList, List.drop_zero]
  constructor
  · rintro ⟨h1, h2⟩
    refine ⟨by omega, ?_⟩
    have : s.data.toList[0]? = some 45 := by
      have h3 : (s.data.toList.take 1)[0]? = some 45 := by
        rw [show (1:Nat) = 1 - 0 from rfl, h2]; rfl
      rwa [List.getElem?_take, if_pos (by decide)] at h3
    exact (bget_some this).2
  · rintro ⟨h1, h2⟩
    refine ⟨by omega, ?_⟩
    obtain ⟨b, h3, h4⟩ := bget_at (s := s) (i := 0) (by omega)
    have hb : b = 45 := UInt8.toNat_inj.1 (by show b.toNat = 45; omega)
    cases hl : s.data.toList with
    | nil => rw [hl] at h3; cases h3
    | cons x r =>
      rw [hl] at h3
      cases h3
      rw [hb]; rfl
theorem tp_size (s : ByteArray) : (tpS s ⟨#[45]⟩).size = s.size - nfr s := by
  have hh := hp_minus s
  by_cases h : hpB s ⟨#[45]⟩ = true
  · rw [tpS, if_pos h, nfr, if_pos (hh.1 h)]
    have := (hh.1 h).1
    rw [ext_sz s _ (by show 1 ≤ _; omega)]
    rfl
  · rw [tpS, if_neg h, nfr, if_neg (fun h' => h (hh.2 h'))]
    rfl
theorem toList_inj {a b : ByteArray} (h : a.toList = b.toList) : a = b := by
  rw [Lib.toList_data, Lib.toList_data] at h
  exact ByteArray.ext (Array.toList_inj.1 h)
def okN (s : ByteArray) : Bool := atB s && ((decB (atV s)).toList == s.toList) && decide ((tpS s ⟨#[45]⟩).size ≤ 7)
theorem num_eq (s : ByteArray) : nuB s 7 = okN s ∧ (nuB s 7 = true → nuV s 7 = atV s) := by
  have fw : nuB s 7 = true → okN s = true ∧ nuV s 7 = atV s := fun h => by
    have h0 := h
    rw [nuB, Bool.and_eq_true, Bool.and_eq_true, beq_iff_eq] at h
    obtain ⟨⟨h1, h2⟩, h3⟩ := h
    have hl : ¬ ((s.size : Int) - nfr s < 1 ∨ (s.size : Int) - nfr s > 7) := of_decide_eq_true h1
    have hb := nac_bd (s := s) (i := s.size) (by omega) h2
    have hp : 10 ^ (s.size - nfr s) ≤ 10 ^ 7 := Nat.pow_le_pow_right (by decide) (by omega)
    have hv : (nva s).natAbs < 10000000 := by
      rw [nva]
      split <;> omega
    have hs := toList_inj h3
    obtain ⟨⟨_, d2⟩, d3, d4⟩ := dec_ok hv
    have ht := tp_size s
    rw [hs] at d2 d3 d4
    refine ⟨?_, by rw [d2, d4]⟩
    rw [okN, d3, d4, h3, decide_eq_true (by omega)]
    simp
  have bw : okN s = true → nuB s 7 = true := fun h => by
    rw [okN, Bool.and_eq_true, Bool.and_eq_true, beq_iff_eq, decide_eq_true_eq] at h
    obtain ⟨⟨h1, h2⟩, h3⟩ := h
    have hs := toList_inj h2
    have ht := tp_size s
    have hz := decB_sz (atV s)
    rw [hs] at hz
    have hp := dd_pow (atV s).natAbs
    have hq : 10 ^ (Lib.decDigits (atV s).natAbs).length ≤ 10 ^ 7 := Nat.pow_le_pow_right (by decide) (by omega)
    have := (dec_ok (n := atV s) (by omega)).1.1
    rwa [hs] at this
  refine ⟨?_, fun h => (fw h).2⟩
  cases e1 : nuB s 7 with
  | true => exact (fw e1).1.symm
  | false =>
    cases e2 : okN s with
    | false => rfl
    | true => rw [bw e2] at e1; cases e1
theorem no_num {x : ByteArray} (h : (atB x = false ∨ ¬(decB (atV x)).toList = x.toList) ∨ ((tpS x ⟨#[45]⟩).size : Int) > 7) : nuB x 7 = false := by
  rw [(num_eq x).1, okN]
  rcases h with (h | h) | h
  · rw [h]; rfl
  · rw [show ((decB (atV x)).toList == x.toList) = false from by simpa using h, Bool.and_false]; rfl
  · rw [decide_eq_false (by omega), Bool.and_false]
theorem yes_num {x : ByteArray} (h : ¬(atB x = false ∨ ¬(decB (atV x)).toList = x.toList) ∧ ¬((tpS x ⟨#[45]⟩).size : Int) > 7) : nuB x 7 = true ∧ nuV x 7 = atV x := by
  have h1 : atB x = true := by
    cases e : atB x with
    | true => rfl
    | false => exact absurd (.inl e) h.1
  have h2 : (decB (atV x)).toList = x.toList := Decidable.not_not.1 fun e => h.1 (.inr e)
  have e : nuB x 7 = true := by
    rw [(num_eq x).1, okN, h1, h2, decide_eq_true (by omega)]
    simp
  exact ⟨e, (num_eq x).2 e⟩
theorem n_all {x : ByteArray} (hx : x.size ≤ 1000000) : (FnC prog 51 [dS x] (.tup [dI (atV x), .err (atB x)])) ∧ FnC prog 44 [dI (atV x)] (dS (decB (atV x))) ∧ FnC prog 52 [dS x, dS ⟨#[45]⟩] (dS (tpS x ⟨#[45]⟩)) :=
  ⟨atoi_c x hx, itoa_c _ (atV_bd x), trimP_c x _ hx (by decide)⟩
noncomputable def A28_numbers_c (s w : ByteArray) : Ann := { orc := [(2, [(1, .res fun q => .lst (cutN (sO (arg q 0)) 32) [fun j => dS (cutS (sO (arg q 0)) 32 j)])]), (8, [(1, .res fun q => .tup [dI (atV (sO (arg q 0))), .err (atB (sO (arg q 0)))])]), (9, [(4, .res fun q => dS (decB (aI q 0))), (10, .res fun q => dS (tpS (sO (arg q 0)) (sO (arg q 1))))])], loops := [], cuts := [], unroll := [(0, 4)] }
noncomputable abbrev qfb (s : ByteArray) : Bool := !(↑(cutN s (32:Int)) : Int) != (4:Int)
noncomputable abbrev q4b (s : ByteArray) : Bool := !atB (cutS s (32:Int) (Int.toNat (0:Int) + Int.toNat (1:Int)))
noncomputable abbrev q6b (s : ByteArray) : Bool := !atB (cutS s (32:Int) (Int.toNat (1:Int) + Int.toNat (1:Int)))
noncomputable abbrev q2b (s : ByteArray) : Bool := !atB (cutS s (32:Int) (Int.toNat (2:Int) + Int.toNat (1:Int)))
noncomputable abbrev q3b (s : ByteArray) : Bool := !atB (cutS s (32:Int) (Int.toNat (3:Int) + Int.toNat (1:Int)))
noncomputable abbrev qnb (s : ByteArray) : Bool := !!atB (cutS s (32:Int) (Int.toNat (0:Int) + Int.toNat (1:Int)))
noncomputable abbrev qwb (s : ByteArray) : Bool := !!atB (cutS s (32:Int) (Int.toNat (1:Int) + Int.toNat (1:Int)))
noncomputable abbrev qqb (s : ByteArray) : Bool := !!atB (cutS s (32:Int) (Int.toNat (2:Int) + Int.toNat (1:Int)))
noncomputable abbrev qpb (s : ByteArray) : Bool := !!atB (cutS s (32:Int) (Int.toNat (3:Int) + Int.toNat (1:Int)))
noncomputable abbrev qtb (s : ByteArray) : Bool := !if (q4b s) = true then true else !ByteArray.toList (decB (atV (cutS s (32:Int) (Int.toNat (0:Int) + Int.toNat (1:Int))))) == ByteArray.toList (cutS s (32:Int) (Int.toNat (0:Int) + Int.toNat (1:Int)))
noncomputable abbrev qsb (s : ByteArray) : Bool := !if (q6b s) = true then true else !ByteArray.toList (decB (atV (cutS s (32:Int) (Int.toNat (1:Int) + Int.toNat (1:Int))))) == ByteArray.toList (cutS s (32:Int) (Int.toNat (1:Int) + Int.toNat (1:Int)))
noncomputable abbrev qhb (s : ByteArray) : Bool := !if (q2b s) = true then true else !ByteArray.toList (decB (atV (cutS s (32:Int) (Int.toNat (2:Int) + Int.toNat (1:Int))))) == ByteArray.toList (cutS s (32:Int) (Int.toNat (2:Int) + Int.toNat (1:Int)))
noncomputable abbrev qlb (s : ByteArray) : Bool := !if (q3b s) = true then true else !ByteArray.toList (decB (atV (cutS s (32:Int) (Int.toNat (3:Int) + Int.toNat (1:Int))))) == ByteArray.toList (cutS s (32:Int) (Int.toNat (3:Int) + Int.toNat (1:Int)))
theorem numbers_c (s w : ByteArray) (hs : s.size ≤ 1000000) : FnC prog 28 [dS s, dS w] (.tup [.agg [dI (lnX s w 0), dI (lnX s w 1), dI (lnX s w 2)], dB (lnK s w 3)]) := by
  refine FnC_owed hmix (A28_numbers_c s w) (V := .need [FnC prog 50 [.val (.string s), .val (.string (ByteArray.mk #[(32 : UInt8)]))] (.lst (cutN s (32:Int)) [fun j => .val (.string (cutS s (32:Int) j))])] (.need [ri ((qfb s) = true), (qfb s) = true → (0:Int) ≤ 0 ∧ (0:Int) < (↑(cutN s (32:Int)) : Int), ri ((qfb s) = true), ri ((qfb s) = true), ri ((qfb s) = true), ((↑(cutN s (32:Int)) : Int) != 4) = false → (qfb s) = true] (.ite (if ((↑(cutN s (32:Int)) : Int) != 4) = true then true else !ByteArray.toList (cutS s (32:Int) (0:Int).toNat) == ByteArray.toList w) (.done [(0:Int) = lnX s w 0, (0:Int) = lnX s w 1, (0:Int) = lnX s w 2, false = lnK s w 3]) (.need [(0:Int) ≤ 1 ∧ (1:Int) ≤ (↑(cutN s (32:Int)) : Int) ∧ (↑(cutN s (32:Int)) : Int) ≤ (↑(cutN s (32:Int)) : Int)] (.ite (decide ((0:Int) < (↑(Int.toNat (↑(cutN s (32:Int)) : Int) - (1:Int).toNat) : Int))) (.need [(0:Int) ≤ 0 ∧ (0:Int) < (↑(Int.toNat (↑(cutN s (32:Int)) : Int) - (1:Int).toNat) : Int)] (.need [FnC prog 51 [.val (.string (cutS s (32:Int) (Int.toNat (0:Int) + (1:Int).toNat)))] (.tup [(dI (atV (cutS s (32:Int) (Int.toNat (0:Int) + (1:Int).toNat)))), DV.err (atB (cutS s (32:Int) (Int.toNat (0:Int) + (1:Int).toNat)))])] (.need [ri ((qnb s) = true), (qnb s) = true → FnC prog 44 [(dI (atV (cutS s (32:Int) (Int.toNat (0:Int) + (1:Int).toNat))))] (.val (.string (decB (atV (cutS s (32:Int) (Int.toNat (0:Int) + (1:Int).toNat)))))), ri ((qnb s) = true), ri ((qnb s) = true), (q4b s) = false → (qnb s) = true, ri ((qtb s) = true), (qtb s) = true → FnC
     prog 52 [.val (.string (cutS s (32:Int) (Int.toNat (0:Int) + (1:Int).toNat))), .val (.string (ByteArray.mk #[(45 : UInt8)]))] (.val (.string (tpS (cutS s (32:Int) (Int.toNat (0:Int) + (1:Int).toNat)) (ByteArray.mk #[(45 : UInt8)])))), ri ((qtb s) = true), ri ((qtb s) = true), (if (q4b s) = true then true else !ByteArray.toList (decB (atV (cutS s (32:Int) (Int.toNat (0:Int) + (1:Int).toNat)))) == ByteArray.toList (cutS s (32:Int) (Int.toNat (0:Int) + (1:Int).toNat))) = false → (qtb s) = true] (.ite (if (if (q4b s) = true then true else !ByteArray.toList (decB (atV (cutS s (32:Int) (Int.toNat (0:Int) + (1:Int).toNat)))) == ByteArray.toList (cutS s (32:Int) (Int.toNat (0:Int) + (1:Int).toNat))) = true then true else decide ((↑(ByteArray.size (tpS (cutS s (32:Int) (Int.toNat (0:Int) + (1:Int).toNat)) (ByteArray.mk #[(45 : UInt8)]))) : Int) > 7)) (.done [(0:Int) = lnX s w 0, (0:Int) = lnX s w 1, (0:Int) = lnX s w 2, false = lnK s w 3]) (.need [(0:Int) ≤ 0 ∧ (0:Int) < (↑(3:Nat) : Int)] (.need [i64In (1:Int)] (.ite (decide ((1:Int) < (↑(Int.toNat (↑(cutN s (32:Int)) : Int) - (1:Int).toNat) : Int))) (.need [(0:Int) ≤ 1 ∧ (1:Int) < (↑(Int.toNat (↑(cutN s (32:Int)) : Int) - (1:Int).toNat) : Int)] (.need [FnC prog 51 [.val (.string (cutS s (32:Int) (Int.toNat (1:Int) + (1:Int).toNat)))] (.tup [(dI (atV (cutS s (32:Int) (Int.toNat (1:Int) + (1:Int).toNat)))), DV.err (atB (cutS s (32:Int) (Int.toNat (1:Int) + (1:Int).toNat)))])] (.need [ri ((qwb s) = true), (qwb s) = true → FnC prog 44 [(dI (atV (cutS s (32:Int) (Int.toNat (1:Int) + (1:Int).toNat))))] (.val (.string (decB (atV (cutS s (32:Int) (Int.toNat (1:Int) +
     Int.toNat (1:Int))))))), ri ((qwb s) = true), ri ((qwb s) = true), (q6b s) = false → (qwb s) = true, ri ((qsb s) = true), (qsb s) = true → FnC prog 52 [.val (.string (cutS s (32:Int) (Int.toNat (1:Int) + (1:Int).toNat))), .val (.string (ByteArray.mk #[(45 : UInt8)]))] (.val (.string (tpS (cutS s (32:Int) (Int.toNat (1:Int) + (1:Int).toNat)) (ByteArray.mk #[(45 : UInt8)])))), ri ((qsb s) = true), ri ((qsb s) = true), (if (q6b s) = true then true else !ByteArray.toList (decB (atV (cutS s (32:Int) (Int.toNat (1:Int) + (1:Int).toNat)))) == ByteArray.toList (cutS s (32:Int) (Int.toNat (1:Int) + (1:Int).toNat))) = false → (qsb s) = true] (.ite (if (if (q6b s) = true then true else !ByteArray.toList (decB (atV (cutS s (32:Int) (Int.toNat (1:Int) + (1:Int).toNat)))) == ByteArray.toList (cutS s (32:Int) (Int.toNat (1:Int) + (1:Int).toNat))) = true then true else decide ((↑(ByteArray.size (tpS (cutS s (32:Int) (Int.toNat (1:Int) + (1:Int).toNat)) (ByteArray.mk #[(45 : UInt8)]))) : Int) > 7)) (.done [atV (cutS s (32:Int) (Int.toNat (0:Int) + (1:Int).toNat)) = lnX s w 0, (0:Int) = lnX s w 1, (0:Int) = lnX s w 2, false = lnK s w 3]) (.need [(0:Int) ≤ 1 ∧ (1:Int) < (↑(3:Nat) : Int)] (.need [i64In (2:Int)] (.ite (decide ((2:Int) < (↑(Int.toNat (↑(cutN s (32:Int)) : Int) - (1:Int).toNat) : Int))) (.need [(0:Int) ≤ 2 ∧ (2:Int) < (↑(Int.toNat (↑(cutN s (32:Int)) : Int) - (1:Int).toNat) : Int)] (.need [FnC prog 51 [.val (.string (cutS s (32:Int) (Int.toNat (2:Int) + (1:Int).toNat)))] (.tup [(dI (atV (cutS s (32:Int) (Int.toNat (2:Int) + (1:Int).toNat)))),
     DV.err (atB (cutS s (32:Int) (Int.toNat (2:Int) + (1:Int).toNat)))])] (.need [ri ((qqb s) = true), (qqb s) = true → FnC prog 44 [(dI (atV (cutS s (32:Int) (Int.toNat (2:Int) + (1:Int).toNat))))] (.val (.string (decB (atV (cutS s (32:Int) (Int.toNat (2:Int) + (1:Int).toNat)))))), ri ((qqb s) = true), ri ((qqb s) = true), (q2b s) = false → (qqb s) = true, ri ((qhb s) = true), (qhb s) = true → FnC prog 52 [.val (.string (cutS s (32:Int) (Int.toNat (2:Int) + (1:Int).toNat))), .val (.string (ByteArray.mk #[(45 : UInt8)]))] (.val (.string (tpS (cutS s (32:Int) (Int.toNat (2:Int) + (1:Int).toNat)) (ByteArray.mk #[(45 : UInt8)])))), ri ((qhb s) = true), ri ((qhb s) = true), (if (q2b s) = true then true else !ByteArray.toList (decB (atV (cutS s (32:Int) (Int.toNat (2:Int) + (1:Int).toNat)))) == ByteArray.toList (cutS s (32:Int) (Int.toNat (2:Int) + (1:Int).toNat))) = false → (qhb s) = true] (.ite (if (if (q2b s) = true then true else !ByteArray.toList (decB (atV (cutS s (32:Int) (Int.toNat (2:Int) + (1:Int).toNat)))) == ByteArray.toList (cutS s (32:Int) (Int.toNat (2:Int) + (1:Int).toNat))) = true then true else decide ((↑(ByteArray.size (tpS (cutS s (32:Int) (Int.toNat (2:Int) + (1:Int).toNat)) (ByteArray.mk #[(45 : UInt8)]))) : Int) > 7)) (.done [atV (cutS s (32:Int) (Int.toNat (0:Int) + (1:Int).toNat)) = lnX s w 0, atV (cutS s (32:Int) (Int.toNat (1:Int) + (1:Int).toNat)) = lnX s w 1, (0:Int) = lnX s w 2, false = lnK s w 3]) (.need [(0:Int) ≤ 2 ∧ (2:Int) < (↑(3:Nat) : Int)] (.need [i64In (3:Int)] (.ite (decide ((3 :
     Int) < (↑(Int.toNat (↑(cutN s (32:Int)) : Int) - (1:Int).toNat) : Int))) (.need [(0:Int) ≤ 3 ∧ (3:Int) < (↑(Int.toNat (↑(cutN s (32:Int)) : Int) - (1:Int).toNat) : Int)] (.need [FnC prog 51 [.val (.string (cutS s (32:Int) (Int.toNat (3:Int) + (1:Int).toNat)))] (.tup [(dI (atV (cutS s (32:Int) (Int.toNat (3:Int) + (1:Int).toNat)))), DV.err (atB (cutS s (32:Int) (Int.toNat (3:Int) + (1:Int).toNat)))])] (.need [ri ((qpb s) = true), (qpb s) = true → FnC prog 44 [(dI (atV (cutS s (32:Int) (Int.toNat (3:Int) + (1:Int).toNat))))] (.val (.string (decB (atV (cutS s (32:Int) (Int.toNat (3:Int) + (1:Int).toNat)))))), ri ((qpb s) = true), ri ((qpb s) = true), (q3b s) = false → (qpb s) = true, ri ((qlb s) = true), (qlb s) = true → FnC prog 52 [.val (.string (cutS s (32:Int) (Int.toNat (3:Int) + (1:Int).toNat))), .val (.string (ByteArray.mk #[(45 : UInt8)]))] (.val (.string (tpS (cutS s (32:Int) (Int.toNat (3:Int) + (1:Int).toNat)) (ByteArray.mk #[(45 : UInt8)])))), ri ((qlb s) = true), ri ((qlb s) = true), (if (q3b s) = true then true else !ByteArray.toList (decB (atV (cutS s (32:Int) (Int.toNat (3:Int) + (1:Int).toNat)))) == ByteArray.toList (cutS s (32:Int) (Int.toNat (3:Int) + (1:Int).toNat))) = false → (qlb s) = true] (.ite (if (if (q3b s) = true then true else !ByteArray.toList (decB (atV (cutS s (32:Int) (Int.toNat (3:Int) + (1:Int).toNat)))) == ByteArray.toList (cutS s (32:Int) (Int.toNat (3:Int) + (1:Int).toNat))) = true then true else decide ((↑(ByteArray.size (tpS (cutS s (32:Int) (Int.toNat (3:Int) + (1:Int).toNat)) (ByteArray.mk
     #[(45 : UInt8)]))) : Int) > 7)) (.done [atV (cutS s (32:Int) (Int.toNat (0:Int) + (1:Int).toNat)) = lnX s w 0, atV (cutS s (32:Int) (Int.toNat (1:Int) + (1:Int).toNat)) = lnX s w 1, atV (cutS s (32:Int) (Int.toNat (2:Int) + (1:Int).toNat)) = lnX s w 2, false = lnK s w 3]) (.need [(0:Int) ≤ 3 ∧ (3:Int) < (↑(3:Nat) : Int), False] (.need [i64In (4:Int)] (.done [False]))))))) (.done [atV (cutS s (32:Int) (Int.toNat (0:Int) + (1:Int).toNat)) = lnX s w 0, atV (cutS s (32:Int) (Int.toNat (1:Int) + (1:Int).toNat)) = lnX s w 1, atV (cutS s (32:Int) (Int.toNat (2:Int) + (1:Int).toNat)) = lnX s w 2, true = lnK s w 3])))))))) (.done [atV (cutS s (32:Int) (Int.toNat (0:Int) + (1:Int).toNat)) = lnX s w 0, atV (cutS s (32:Int) (Int.toNat (1:Int) + (1:Int).toNat)) = lnX s w 1, (0:Int) = lnX s w 2, true = lnK s w 3])))))))) (.done [atV (cutS s (32:Int) (Int.toNat (0:Int) + (1:Int).toNat)) = lnX s w 0, (0:Int) = lnX s w 1, (0:Int) = lnX s w 2, true = lnK s w 3])))))))) (.done [(0:Int) = lnX s w 0, (0:Int) = lnX s w 1, (0:Int) = lnX s w 2, true = lnK s w 3])))))) (by kernel_rfl) ?_
  simp only [qfb, q4b, q6b, q2b, q3b, qnb, qwb, qqb, qpb, qtb, qsb, qhb, qlb, VT.holds, AllT, Sq]
  have cs : ∀ q, (cutS s 32 q).size ≤ 1000000 := fun q => Nat.le_trans (cutS_size _ _ _) hs
  simp only [show Int.toNat 1 = 1 from rfl, show Int.toNat 2 = 2 from rfl, show Int.toNat 3 = 3 from rfl, Nat.zero_add, Nat.reduceAdd]
  have i1 : i64In 1 := by unfold i64In; omega
  have i2 : i64In 2 := by unfold i64In; omega
  have i3 : i64In 3 := by unfold i64In; omega
  refine ⟨splitO_c s hs, fun h => by omega, fun h => ?_, fun h => ?_⟩
  · have e : lnK s w 0 = false := by
      show lnP s w = false
      unfold lnP
      rcases h with h | h
      · rw [decide_eq_false (by omega)]; rfl
      · rw [show ((cutS s 32 0).toList == w.toList) = false from by simpa using h, Bool.and_false]
    exact ⟨lnX_no e (by omega), lnX_no e (by omega), lnX_no e (by omega), (ln_no e (by omega)).symm⟩
  · have h4 : cutN s 32 = 4 := by omega
    have e : lnK s w 0 = true := by
      show lnP s w = true
      unfold lnP
      rw [decide_eq_true (by omega), show ((cutS s 32 0).toList == w.toList) = true from by simpa using h.2]
      rfl
    rw [h4]
    have A : ∀ j, _ := fun j => n_all (cs j)
    have no : ∀ {j : Nat}, nuB (cutS s 32 (j + 1)) 7 = false → lnK s w (j + 1) = false := fun {j} h => by rw [lnK, h, Bool.and_false]
    have ye : ∀ {j : Nat}, lnK s w j = true → nuB (cutS s 32 (j + 1)) 7 = true → lnK s w (j + 1) = true := fun {j} h1 h2 => by rw [lnK, h1, h2]; rfl
    refine ⟨by omega, fun _ => ⟨by omega, (A 1).1, ⟨fun _ => (A 1).2.1, fun _ => (A 1).2.2⟩, fun f => ?_, fun f => ⟨by omega, i1, fun _ => ⟨by omega, (A 2).1, ⟨fun _ => (A 2).2.1, fun _ => (A 2).2.2⟩, fun f2 => ?_, fun f2 => ⟨by omega, i2, fun _ => ⟨by omega, (A 3).1, ⟨fun _ => (A 3).2.1, fun _ => (A 3).2.2⟩, fun f3 => ?_, fun f3 => ⟨by omega, i3, fun h => by omega, fun _ => ?_⟩⟩, fun h => by omega⟩⟩, fun h => by omega⟩⟩, fun h => by omega⟩
    · have e1 := no (no_num f)
      exact ⟨lnX_no e1 (by omega), lnX_no e1 (by omega), lnX_no e1 (by omega), (ln_no e1 (by omega)).symm⟩
    · have y1 := yes_num f
      have e1 := ye e y1.1
      have e2 := no (no_num f2)
      exact ⟨y1.2.symm.trans (lnX_yes e1), lnX_no e2 (by omega), lnX_no e2 (by omega), (ln_no e2 (by omega)).symm⟩
    · have y1 := yes_num f
      have e1 := ye e y1.1
      have y2 := yes_num f2
      have e2 := ye e1 y2.1
      have e3 := no (no_num f3)
      exact ⟨y1.2.symm.trans (lnX_yes e1), y2.2.symm.trans (lnX_yes e2), lnX_no e3 (by omega), (ln_no e3 (by omega)).symm⟩
    · have y1 := yes_num f
      have e1 := ye e y1.1
      have y2 := yes_num f2
      have e2 := ye e1 y2.1
      have y3 := yes_num f3
      have e3 := ye e2 y3.1
      exact ⟨y1.2.symm.trans (lnX_yes e1), y2.2.symm.trans (lnX_yes e2), y3.2.symm.trans (lnX_yes e3), e3.symm⟩
end Go.Abs
