/- Contracts. -/
import Derived.Test.YtdhnfeoigmeopaaDoorK60
import Derived.Test.YtdhnfeoigmeopaaDoorB1
import Derived.Lib.IndexLaws
set_option maxRecDepth 100000
namespace Go.Abs
open Go
theorem toList_nil : ({ data := #[] } : ByteArray).toList = [] := by
  rw [ByteArray.toList, ByteArray.toList.loop]
  rfl
theorem dig_len : ∀ u : Nat, (Lib.decDigits u).length ≤ u + 1 := fun u => by
  induction u using Nat.strongRecOn with
  | _ u ih =>
    rw [Lib.decDigits]
    split
    · rw [List.length_singleton]; omega
    · rename_i h
      have := ih (u / 10) (by omega)
      rw [List.length_append, List.length_singleton]
      omega
theorem decB_size (n : Int) : (decB n).size ≤ n.natAbs + 2 := by
  show (Lib.itoa n).toArray.size ≤ _
  rw [List.size_toArray, Lib.itoa]
  have h1 := dig_len n.natAbs
  have h2 := dig_len n.toNat
  split
  · rw [List.length_cons]; omega
  · omega
theorem ext_size (s : ByteArray) (i j : Nat) : (s.extract i j).size ≤ s.size := by
  rw [ByteArray.size_extract]
  omega
theorem cuS_size (s : ByteArray) (c : Int) : ∀ k q, (cuS s c k q).size ≤ s.size
  | 0, q => Nat.zero_le _
  | k + 1, q => by
    rw [cuS]
    split
    · exact ext_size _ _ _
    · exact cuS_size s c k q
theorem cutS_size (s : ByteArray) (c : Int) (q : Nat) : (cutS s c q).size ≤ s.size := by
  unfold cutS
  split
  · exact cuS_size _ _ _ _
  · exact ext_size _ _ _
theorem bget_at {s : ByteArray} {i : Nat} (h : i < s.size) : ∃ b : UInt8, s.data.toList[i]? = some b ∧ bget s i = (b.toNat : Int) := by
  have h' : i < s.data.size := h
  refine ⟨s.data[i], by rw [Array.getElem?_toList]; exact Array.getElem?_eq_getElem h', ?_⟩
  unfold bget
  rw [Array.getD_eq_getD_getElem?, Array.getElem?_eq_getElem h']; rfl
theorem bget_some {s : ByteArray} {i : Nat} {b : UInt8} (h : s.data.toList[i]? = some b) : i < s.size ∧ bget s i = (b.toNat : Int) := by
  have hi : i < s.size := by
    have := (List.getElem?_eq_some_iff.1 h).1
    rwa [← Lib.size_eq] at this
  obtain ⟨b', h1, h2⟩ := bget_at hi
  rw [h] at h1
  cases h1
  exact ⟨hi, h2⟩
theorem u8_ne {b c : UInt8} (h : b ≠ c) : (b.toNat : Int) ≠ (c.toNat : Int) := fun e => h (UInt8.toNat_inj.1 (by omega))
theorem idx_spec (r : ByteArray) (c : UInt8) : (Lib.indexByte r.data.toList c = -1 ∧ ∀ j, j < r.size → bget r j ≠ (c.toNat : Int)) ∨ ∃ k : Nat, Lib.indexByte r.data.toList c = (k : Int) ∧ k < r.size ∧ bget r k = (c.toNat : Int) ∧ ∀ j, j < k → bget r j ≠ (c.toNat : Int) := by
  have hge := Lib.indexByte_ge r.data.toList c
  by_cases h : Lib.indexByte r.data.toList c = -1
  · refine .inl ⟨h, fun j hj e => ?_⟩
    obtain ⟨b, h1, h2⟩ := bget_at hj
    have := Lib.indexByte_none h j
    rw [h1] at this
    exact u8_ne (fun e => this (by rw [e])) (h2.symm.trans e)
  · obtain ⟨k, hk⟩ : ∃ k : Nat, Lib.indexByte r.data.toList c = (k : Int) := ⟨(Lib.indexByte r.data.toList c).toNat, by omega⟩
    obtain ⟨h1, h2⟩ := Lib.indexByte_some hk
    obtain ⟨h3, h4⟩ := bget_some h1
    refine .inr ⟨k, hk, h3, h4, fun j hj e => ?_⟩
    obtain ⟨b, h5, h6⟩ := bget_at (s := r) (i := j) (by omega)
    have := h2 j hj
    rw [h5] at this
    exact u8_ne (fun e => this (by rw [e])) (h6.symm.trans e)
theorem cnt_spec (s : ByteArray) (c : UInt8) : Lib.countByte s.data.toList c = cuN s (c.toNat : Int) s.size := by
  have go : ∀ i, i ≤ s.size → (s.data.toList.take i).count c = cuN s (c.toNat : Int) i := fun i => by
    induction i with
    | zero => intro _; rfl
    | succ i ih =>
      intro hi
      obtain ⟨b, h1, h2⟩ := bget_at (s := s) (i := i) (by omega)
      rw [List.take_add_one, List.count_append, ih (by omega), h1, cuN]
      by_cases e : b = c
      · rw [if_pos (by rw [h2, e]), e]; simp
      · rw [if_neg (by rw [h2]; exact u8_ne e)]
        simp [List.count_cons, e]
  have := go s.size (Nat.le_refl _)
  rw [Lib.size_eq, List.take_length] at this
  rw [Lib.countByte, this, Lib.size_eq]
theorem ext_get {s : ByteArray} {p e j : Nat} (h : j < (s.extract p e).size) : bget (s.extract p e) j = bget s (p + j) := by
  obtain ⟨b, h1, h2⟩ := bget_at h
  rw [h2]
  rw [Lib.extract_data, List.getElem?_take] at h1
  split at h1
  · rw [List.getElem?_drop] at h1
    exact (bget_some h1).2.symm
  · cases h1
theorem ext_ext (s : ByteArray) (p a b : Nat) (h1 : p ≤ s.size) (hb : b ≤ s.size - p) : (s.extract p s.size).extract a b = s.extract (p + a) (p + b) := by
  apply ByteArray.ext
  apply Array.toList_inj.1
  rw [Lib.extract_data, Lib.extract_data, Lib.extract_data, show (s.data.toList.drop p).take (s.size - p) = s.data.toList.drop p from List.take_of_length_le (by rw [List.length_drop, ← Lib.size_eq]; exact Nat.le_refl _), List.drop_drop, show p + b - (p + a) = b - a by omega]
theorem ext_sz (s : ByteArray) (p : Nat) (h1 : p ≤ s.size) : (s.extract p s.size).size = s.size - p := by
  rw [ByteArray.size_extract]; omega
theorem cu_run {s : ByteArray} {c : Int} {p : Nat} : ∀ {m : Nat}, (∀ j, j < m → bget s (p + j) ≠ c) → cuF s c (p + m) = cuF s c p ∧ cuN s c (p + m) = cuN s c p
  | 0, _ => ⟨rfl, rfl⟩
  | m + 1, h => by
    obtain ⟨h1, h2⟩ := cu_run (p := p) (m := m) fun j hj => h j (by omega)
    have e := cu_no (h m (by omega))
    exact ⟨e.1.trans h1, e.2.1.trans h2⟩
theorem cuN_mono (s : ByteArray) (c : Int) {i : Nat} : ∀ {j : Nat}, i ≤ j → cuN s c i ≤ cuN s c j
  | 0, h => by obtain rfl : i = 0 := by omega
               exact Nat.le_refl _
  | j + 1, h => by
    rcases Nat.lt_or_ge i (j + 1) with h1 | h1
    · have := cuN_mono s c (i := i) (j := j) (by omega)
      rw [cuN]
      split <;> omega
    · obtain rfl : i = j + 1 := by omega
      exact Nat.le_refl _
theorem cuS_stay (s : ByteArray) (c : Int) {i q : Nat} (hq : q < cuN s c i) : ∀ {j : Nat}, i ≤ j → cuS s c j q = cuS s c i q
  | 0, h => by obtain rfl : i = 0 := by omega
               rfl
  | j + 1, h => by
    rcases Nat.lt_or_ge i (j + 1) with h1 | h1
    · have h2 := cuN_mono s c (i := i) (j := j) (by omega)
      rw [cuS, if_neg (fun h' => by omega), cuS_stay s c hq (by omega)]
    · obtain rfl : i = j + 1 := by omega
      rfl
theorem cut_next {s : ByteArray} {c : UInt8} {p k : Nat} (hp : p ≤ s.size) (h : cuF s (c.toNat : Int) p = p) (hk : k < (s.extract p s.size).size) (hb : bget (s.extract p s.size) k = (c.toNat : Int)) (hj : ∀ j, j < k → bget (s.extract p s.size) j ≠ (c.toNat : Int)) :
    p + k < s.size ∧ cuN s (c.toNat : Int) p < cuN s (c.toNat : Int) s.size ∧ cuF s (c.toNat : Int) (p + k + 1) = p + k + 1 ∧ cuN s (c.toNat : Int) (p + k + 1) = cuN s (c.toNat : Int) p + 1 ∧ cutS s (c.toNat : Int) (cuN s (c.toNat : Int) p) = s.extract p (p + k) := by
  have hsz := ext_sz s p hp
  have hr := cu_run (s := s) (c := (c.toNat : Int)) (p := p) (m := k) fun j hjk => by
    rw [← ext_get (s := s) (p := p) (e := s.size) (j := j) (by omega)]; exact hj j hjk
  have hc := cu_yes (s := s) (c := (c.toNat : Int)) (i := p + k) (by rw [← ext_get hk]; exact hb)
  have hm := cuN_mono s (c.toNat : Int) (i := p + k + 1) (j := s.size) (by omega)
  refine ⟨by omega, by omega, hc.1, by omega, ?_⟩
  rw [cutS, if_pos (by omega), cuS_stay s (c.toNat : Int) (i := p + k + 1) (by omega) (by omega), cuS, if_pos ⟨by rw [← ext_get hk]; exact hb, by omega⟩, hr.1, h]
theorem cut_last {s : ByteArray} {c : UInt8} {p : Nat} (hp : p ≤ s.size) (h : cuF s (c.toNat : Int) p = p) (hn : cuN s (c.toNat : Int) p = cuN s (c.toNat : Int) s.size) : cutS s (c.toNat : Int) (cuN s (c.toNat : Int) p) = s.extract p s.size := by
  have hno : ∀ k, p + k ≤ s.size → cuF s (c.toNat : Int) (p + k) = p ∧ cuN s (c.toNat : Int) (p + k) = cuN s (c.toNat : Int) p := fun k => by
    induction k with
    | zero => intro _; exact ⟨h, rfl⟩
    | succ k ih =>
      intro hk
      obtain ⟨i1, i2⟩ := ih (by omega)
      have hm := cuN_mono s (c.toNat : Int) (i := p + k + 1) (j := s.size) (by omega)
      by_cases e : bget s (p + k) = (c.toNat : Int)
      · have := cu_yes e
        omega
      · have := cu_no e
        exact ⟨this.1.trans i1, this.2.1.trans i2⟩
  have := hno (s.size - p) (by omega)
  rw [show p + (s.size - p) = s.size by omega] at this
  rw [cutS, if_neg (by omega), this.1]
theorem cut_none {s : ByteArray} {c : UInt8} {p : Nat} (hp : p ≤ s.size) (hj : ∀ j, j < (s.extract p s.size).size → bget (s.extract p s.size) j ≠ (c.toNat : Int)) : cuN s (c.toNat : Int) p = cuN s (c.toNat : Int) s.size := by
  have hsz := ext_sz s p hp
  have := (cu_run (s := s) (c := (c.toNat : Int)) (p := p) (m := s.size - p) fun j hjk => by
    rw [← ext_get (s := s) (p := p) (e := s.size) (j := j) (by omega)]; exact hj j (by omega)).2
  rw [show p + (s.size - p) = s.size by omega] at this
  exact this.symm
def pcF (s : ByteArray) : Nat → Nat
  | 0 => 0
  | i + 1 => pcF s i + (Lib.indexByte (s.extract (pcF s i) s.size).data.toList 32).toNat + 1
def pcS (s : ByteArray) (i : Nat) : ByteArray := s.extract (pcF s i) s.size
def ixB (s : ByteArray) : Int := Lib.indexByte s.data.toList 32
def cnB (s : ByteArray) : Int := (cuN s 32 s.size : Int)
theorem one_ne : ¬ (⟨#[32]⟩ : ByteArray).toList = [] := by
  rw [ByteArray.toList, ByteArray.toList.loop, if_pos (by decide), ByteArray.toList.loop, if_neg (by decide)]
  decide
def pcFL (s : ByteArray) : Nat → Nat
  | 0 => 0
  | i + 1 => pcFL s i + (Lib.indexByte (s.extract (pcFL s i) s.size).data.toList 10).toNat + 1
def pcSL (s : ByteArray) (i : Nat) : ByteArray := s.extract (pcFL s i) s.size
def ixBL (s : ByteArray) : Int := Lib.indexByte s.data.toList 10
def cnBL (s : ByteArray) : Int := (cuN s 10 s.size : Int)
theorem one_neL : ¬ (⟨#[10]⟩ : ByteArray).toList = [] := by
  rw [ByteArray.toList, ByteArray.toList.loop, if_pos (by decide), ByteArray.toList.loop, if_neg (by decide)]
  decide
theorem args1 {P : DV → Value → Prop} {d : DV} {vs : Array Value} (hs : vs.size = 1) (hv : ∀ (j : Nat) (e : DV) (v : Value), [d][j]? = some e → vs[j]? = some v → P e v) : ∃ v, vs = #[v] ∧ P d v := by
  match vs, hs with
  | ⟨[v]⟩, _ => exact ⟨v, rfl, hv 0 _ _ rfl rfl⟩
theorem args2 {P : DV → Value → Prop} {d e : DV} {vs : Array Value} (hs : vs.size = 2) (hv : ∀ (j : Nat) (f : DV) (v : Value), [d, e][j]? = some f → vs[j]? = some v → P f v) : ∃ u v, vs = #[u, v] ∧ P d u ∧ P e v := by
  match vs, hs with
  | ⟨[u, v]⟩, _ => exact ⟨u, v, rfl, hv 0 _ _ rfl rfl, hv 1 _ _ rfl rfl⟩
theorem below_same (w : World) : Below w.heap.size w w := Below.refl _ _
theorem below_of {B : Nat} {w w' : World} (h : RowKit.Below B w w') : Below B w w' := ⟨h.os, h.tape, h.output, h.size, h.block, fun h => by cases h⟩
theorem indexS_c (s : ByteArray) (c : UInt8) : FnC prog 40 [dS s, dS ⟨#[c]⟩] (dI (Lib.indexByte s.data.toList c)) := by
  refine ⟨⟨_, Go.Proofs.Tryd.func40, rfl, by kernel_rfl⟩, fun S w vs hs hv _ => ?_⟩
  obtain ⟨u, v, rfl, h1, h2⟩ := args2 hs hv
  cases h1
  cases h2
  refine (Go.Proofs.Any.strings_Index_one Go.Proofs.Tryd.indexL s c w).mono ?_
  rintro e w' ⟨rfl, rfl⟩
  exact ⟨_, rfl, .val _, below_same _⟩
theorem countS_c (s : ByteArray) (c : UInt8) : FnC prog 39 [dS s, dS ⟨#[c]⟩] (dI (cuN s (c.toNat : Int) s.size : Int)) := by
  refine ⟨⟨_, Go.Proofs.Tryd.func39, rfl, by kernel_rfl⟩, fun S w vs hs hv _ => ?_⟩
  obtain ⟨u, v, rfl, h1, h2⟩ := args2 hs hv
  cases h1
  cases h2
  refine (Go.Proofs.Any.strings_Count_one Go.Proofs.Tryd.countL s c w).mono ?_
  rintro e w' ⟨rfl, rfl⟩
  rw [cnt_spec]
  exact ⟨_, rfl, .val _, below_same _⟩
noncomputable def A24_split_c (s : ByteArray) : Ann := { orc := [(6, [(2, .res fun q => dI (cnB (sO (arg q 0))))]), (12, [(2, .res fun q => dI (ixB (sO (arg q 0))))])], loops := [(0, { ι := Nat, keep := [1, 2, 3], boxes := [], ts := fun _ i => [(0, dS (pcS s i)), (10, dI (i : Int))], rw := fun _ i => [(9, 1, cutN s 32, [fun q => dS (if q < i then cutS s 32 q else ⟨#[]⟩)])], inv := fun _ i => pcF s i ≤ s.size ∧ cuF s 32 (pcF s i) = pcF s i ∧ cuN s 32 (pcF s i) = i, mu := fun _ i => cutN s 32 - i, rd := fun _ σ => (iOf (σ.get 10)).toNat })], cuts := [] }
noncomputable abbrev qx (i_1 : Nat) (i : Nat) : Bool := decide (i_1 + ((0:Nat) + Int.toNat (0:Int)) = addN (0:Nat) (Int.toNat (i:Int)))
theorem split_c (s : ByteArray) (hs : s.size ≤ 1000000) : FnC prog 24 [dS s, .val (.string ⟨#[32]⟩), dI 0, dI (-1)] (.lst (cutN s 32) [fun q => dS (cutS s 32 q)]) := by
  refine FnC_owed hmix (A24_split_c s) (V := .ite ((-1:Int) == 0) (.done [cutN s (32:Int) = 0]) (.ite (ByteArray.toList (ByteArray.mk #[(32 : UInt8)]) == ByteArray.toList (ByteArray.mk #[])) (.need [False] (.done [False])) (.ite (decide ((-1:Int) < 0)) (.need [FnC prog 39 [.val (.string s), .val (.string (ByteArray.mk #[(32 : UInt8)]))] ((dI (cnB s))), i64In (cnB s + 1)] (.need [i64In ((↑(ByteArray.size s) : Int) + 1)] (.need [(0:Int) ≤ mins (cnB s + 1) [(↑(ByteArray.size s) : Int) + 1] ∧ mins (cnB s + 1) [(↑(ByteArray.size s) : Int) + 1] = mins (cnB s + 1) [(↑(ByteArray.size s) : Int) + 1] ∧ mins (cnB s + 1) [(↑(ByteArray.size s) : Int) + 1] ≤ 140737488355328 ∧ prog.types[(9:Nat)].4 * Int.toNat (mins (cnB s + 1) [(↑(ByteArray.size s) : Int) + 1]) ≤ 281474976710656] (.need [i64In (mins (cnB s + 1) [(↑(ByteArray.size s) : Int) + 1] - 1)] (.loop Nat (fun a => pcF s a ≤ ByteArray.size s ∧ cuF s (32:Int) (pcF s a) = pcF s a ∧ cuN s (32:Int) (pcF s a) = a) (0:Int).toNat [s = pcS s (0:Int).toNat, (0:Int) = (↑(0:Int).toNat : Int), (0:Nat) = 0, Int.toNat (mins (cnB s + 1) [(↑(ByteArray.size s) : Int) + 1]) = cutN s (32:Int), ByteArray.mk #[(32 : UInt8)] = ByteArray.mk #[(32 : UInt8)], (0:Int) = 0, mins (cnB s + 1) [(↑(ByteArray.size s) : Int) + 1] - 1 = mins (cnB s + 1) [(↑(ByteArray.size s) : Int) + 1] - 1, Int.toNat (mins (cnB s + 1) [(↑(ByteArray.size s) : Int) + 1]) = cutN s (32:Int), ∀ i < cutN s (32:Int), ByteArray.mk #[] = if i < (0:Int).toNat then cutS s (32:Int) i else ByteArray.mk #[]] fun i => .ite (decide ((i:Int) < mins (cnB s + 1) [(↑(ByteArray.size s) : Int) + 1] - 1)) (.need [FnC prog 40 [.val (.string (pcS s i)), .val (.string (ByteArray.mk
     #[(32 : UInt8)]))] ((dI (ixB (pcS s i))))] (.ite (decide (ixB (pcS s i) < 0)) (.need [(0:Int) ≤ (i:Int) ∧ (i:Int) < (↑(cutN s (32:Int)) : Int), addN 0 (i:Int).toNat < cutN s (32:Int)] (.need [i64In ((i:Int) + 1), (0:Int) ≤ 0 ∧ (0:Int) ≤ (i:Int) + 1 ∧ (i:Int) + 1 ≤ (↑(cutN s (32:Int)) : Int)] (.done [Int.toNat ((i:Int) + 1) - (0:Int).toNat + ((0:Nat) + (0:Int).toNat) ≤ cutN s (32:Int), Int.toNat ((i:Int) + 1) - (0:Int).toNat = cutN s (32:Int), ∀ i_1 < cutN s (32:Int), (if (qx i_1 i) = true then pcS s i else if i_1 + ((0:Nat) + (0:Int).toNat) < i then cutS s (32:Int) (i_1 + ((0:Nat) + (0:Int).toNat)) else ByteArray.mk #[]) = cutS s (32:Int) i_1]))) (.need [i64In (ixB (pcS s i) + 0), (0:Int) ≤ 0 ∧ (0:Int) ≤ ixB (pcS s i) + 0 ∧ ixB (pcS s i) + 0 ≤ (↑(ByteArray.size (pcS s i)) : Int), (0:Int) ≤ (i:Int) ∧ (i:Int) < (↑(cutN s (32:Int)) : Int), addN 0 (i:Int).toNat < cutN s (32:Int)] (.need [i64In (ixB (pcS s i) + (↑(ByteArray.size (ByteArray.mk #[(32 : UInt8)])) : Int)), (0:Int) ≤ ixB (pcS s i) + (↑(ByteArray.size (ByteArray.mk #[(32 : UInt8)])) : Int) ∧ ixB (pcS s i) + (↑(ByteArray.size (ByteArray.mk #[(32 : UInt8)])) : Int) ≤ (↑(ByteArray.size (pcS s i)) : Int) ∧ (↑(ByteArray.size (pcS s i)) : Int) ≤ (↑(ByteArray.size (pcS s i)) : Int)] (.need [i64In ((i:Int) + 1)] (.done [ByteArray.extract (pcS s i) (ixB (pcS s i) + (↑(ByteArray.size (ByteArray.mk #[(32 : UInt8)])) : Int)).toNat (↑(ByteArray.size (pcS s i)) : Int).toNat = pcS s ((i:Int) + 1).toNat, (i:Int) + 1 = (↑((i:Int) + 1).toNat : Int), (0:Nat) = 0, cutN s (32:Int) = cutN s (32:Int), ByteArray.mk #[(32 : UInt8)] = ByteArray.mk #[(32 : UInt8)], (0:Int) = 0, mins (cnB s + 1)
     [(↑(ByteArray.size s) : Int) + 1] - 1 = mins (cnB s + 1) [(↑(ByteArray.size s) : Int) + 1] - 1, cutN s (32:Int) = cutN s (32:Int), ∀ i_1 < cutN s (32:Int), (if decide (i_1 = addN 0 (i:Int).toNat) = true then ByteArray.extract (pcS s i) (0:Int).toNat (ixB (pcS s i) + 0).toNat else if i_1 < i then cutS s (32:Int) i_1 else ByteArray.mk #[]) = if i_1 < ((i:Int) + 1).toNat then cutS s (32:Int) i_1 else ByteArray.mk #[], pcF s ((i:Int) + 1).toNat ≤ ByteArray.size s ∧ cuF s (32:Int) (pcF s ((i:Int) + 1).toNat) = pcF s ((i:Int) + 1).toNat ∧ cuN s (32:Int) (pcF s ((i:Int) + 1).toNat) = ((i:Int) + 1).toNat, cutN s (32:Int) - ((i:Int) + 1).toNat < cutN s (32:Int) - i])))))) (.need [(0:Int) ≤ (i:Int) ∧ (i:Int) < (↑(cutN s (32:Int)) : Int), addN 0 (i:Int).toNat < cutN s (32:Int)] (.need [i64In ((i:Int) + 1), (0:Int) ≤ 0 ∧ (0:Int) ≤ (i:Int) + 1 ∧ (i:Int) + 1 ≤ (↑(cutN s (32:Int)) : Int)] (.done [Int.toNat ((i:Int) + 1) - (0:Int).toNat + ((0:Nat) + (0:Int).toNat) ≤ cutN s (32:Int), Int.toNat ((i:Int) + 1) - (0:Int).toNat = cutN s (32:Int), ∀ i_1 < cutN s (32:Int), (if (qx i_1 i) = true then pcS s i else if i_1 + ((0:Nat) + (0:Int).toNat) < i then cutS s (32:Int) (i_1 + ((0:Nat) + (0:Int).toNat)) else ByteArray.mk #[]) = cutS s (32:Int) i_1])))))))) (.need [i64In ((↑(ByteArray.size s) : Int) + 1)] (.need [(0:Int) ≤ (-1:Int) ∧ (-1:Int) = (-1:Int) ∧ (-1:Int) ≤ 140737488355328 ∧ prog.types[(9:Nat)].4 * Int.toNat (-1:Int) ≤ 281474976710656] (.need [i64In ((-1:Int) - 1)] (.loop Nat (fun a => pcF s a ≤ ByteArray.size s ∧ cuF s (32:Int) (pcF s a) = pcF s
     a ∧ cuN s (32:Int) (pcF s a) = a) (0:Int).toNat [s = pcS s (0:Int).toNat, (0:Int) = (↑(0:Int).toNat : Int), (0:Nat) = 0, Int.toNat (-1:Int) = cutN s (32:Int), ByteArray.mk #[(32 : UInt8)] = ByteArray.mk #[(32 : UInt8)], (0:Int) = 0, (-1:Int) - 1 = (-1:Int) - 1, Int.toNat (-1:Int) = cutN s (32:Int), ∀ i < cutN s (32:Int), ByteArray.mk #[] = if i < (0:Int).toNat then cutS s (32:Int) i else ByteArray.mk #[]] fun i => .ite (decide ((i:Int) < (-1:Int) - 1)) (.need [FnC prog 40 [.val (.string (pcS s i)), .val (.string (ByteArray.mk #[(32 : UInt8)]))] ((dI (ixB (pcS s i))))] (.ite (decide (ixB (pcS s i) < 0)) (.need [(0:Int) ≤ (i:Int) ∧ (i:Int) < (↑(cutN s (32:Int)) : Int), addN 0 (i:Int).toNat < cutN s (32:Int)] (.need [i64In ((i:Int) + 1), (0:Int) ≤ 0 ∧ (0:Int) ≤ (i:Int) + 1 ∧ (i:Int) + 1 ≤ (↑(cutN s (32:Int)) : Int)] (.done [Int.toNat ((i:Int) + 1) - (0:Int).toNat + ((0:Nat) + (0:Int).toNat) ≤ cutN s (32:Int), Int.toNat ((i:Int) + 1) - (0:Int).toNat = cutN s (32:Int), ∀ i_1 < cutN s (32:Int), (if (qx i_1 i) = true then pcS s i else if i_1 + ((0:Nat) + (0:Int).toNat) < i then cutS s (32:Int) (i_1 + ((0:Nat) + (0:Int).toNat)) else ByteArray.mk #[]) = cutS s (32:Int) i_1]))) (.need [i64In (ixB (pcS s i) + 0), (0:Int) ≤ 0 ∧ (0:Int) ≤ ixB (pcS s i) + 0 ∧ ixB (pcS s i) + 0 ≤ (↑(ByteArray.size (pcS s i)) : Int), (0:Int) ≤ (i:Int) ∧ (i:Int) < (↑(cutN s (32:Int)) : Int), addN 0 (i:Int).toNat < cutN s (32:Int)] (.need [i64In (ixB (pcS s i) + (↑(ByteArray.size (ByteArray.mk #[(32 : UInt8)])) : Int)), (0:Int) ≤ ixB (pcS s i) + (↑(ByteArray.size (ByteArray.mk #[(32 : UInt8)])) : Int) ∧ ixB (pcS s i) + (↑(ByteArray.size
     (ByteArray.mk #[(32 : UInt8)])) : Int) ≤ (↑(ByteArray.size (pcS s i)) : Int) ∧ (↑(ByteArray.size (pcS s i)) : Int) ≤ (↑(ByteArray.size (pcS s i)) : Int)] (.need [i64In ((i:Int) + 1)] (.done [ByteArray.extract (pcS s i) (ixB (pcS s i) + (↑(ByteArray.size (ByteArray.mk #[(32 : UInt8)])) : Int)).toNat (↑(ByteArray.size (pcS s i)) : Int).toNat = pcS s ((i:Int) + 1).toNat, (i:Int) + 1 = (↑((i:Int) + 1).toNat : Int), (0:Nat) = 0, cutN s (32:Int) = cutN s (32:Int), ByteArray.mk #[(32 : UInt8)] = ByteArray.mk #[(32 : UInt8)], (0:Int) = 0, (-1:Int) - 1 = (-1:Int) - 1, cutN s (32:Int) = cutN s (32:Int), ∀ i_1 < cutN s (32:Int), (if decide (i_1 = addN 0 (i:Int).toNat) = true then ByteArray.extract (pcS s i) (0:Int).toNat (ixB (pcS s i) + 0).toNat else if i_1 < i then cutS s (32:Int) i_1 else ByteArray.mk #[]) = if i_1 < ((i:Int) + 1).toNat then cutS s (32:Int) i_1 else ByteArray.mk #[], pcF s ((i:Int) + 1).toNat ≤ ByteArray.size s ∧ cuF s (32:Int) (pcF s ((i:Int) + 1).toNat) = pcF s ((i:Int) + 1).toNat ∧ cuN s (32:Int) (pcF s ((i:Int) + 1).toNat) = ((i:Int) + 1).toNat, cutN s (32:Int) - ((i:Int) + 1).toNat < cutN s (32:Int) - i])))))) (.need [(0:Int) ≤ (i:Int) ∧ (i:Int) < (↑(cutN s (32:Int)) : Int), addN 0 (i:Int).toNat < cutN s (32:Int)] (.need [i64In ((i:Int) + 1), (0:Int) ≤ 0 ∧ (0:Int) ≤ (i:Int) + 1 ∧ (i:Int) + 1 ≤ (↑(cutN s (32:Int)) : Int)] (.done [Int.toNat ((i:Int) + 1) - (0:Int).toNat + ((0:Nat) + (0:Int).toNat) ≤ cutN s (32:Int), Int.toNat ((i:Int) + 1) - (0:Int).toNat = cutN s (32:Int), ∀ i_1 < cutN s (32:Int), (if (qx i_1 i) =
     true then pcS s i else if i_1 + ((0:Nat) + (0:Int).toNat) < i then cutS s (32:Int) (i_1 + ((0:Nat) + (0:Int).toNat)) else ByteArray.mk #[]) = cutS s (32:Int) i_1])))))))))) (by kernel_rfl) ?_
  simp only [qx, VT.holds, AllT, Sq]
  have hcn := cuN_le s 32 s.size
  have hcu : cutN s 32 = cuN s 32 s.size + 1 := rfl
  have hm : mins (cnB s + 1) [(s.size : Int) + 1] = (cutN s 32 : Int) := by
    unfold mins cnB cutN
    simp [mins]
    omega
  have hb : (prog.types[9]).bytes = 16 := by kernel_rfl
  have ha : ∀ i, addN 0 i = i := fun i => rfl
  have z1 : (⟨#[32]⟩ : ByteArray).size = 1 := rfl
  simp only [hm, hb, ha, z1]
  refine ⟨fun h => absurd h (by decide), fun _ => ⟨fun h => absurd h (by rw [toList_nil]; exact one_ne), fun _ => ⟨fun _ => ?_, fun h => absurd (by decide) h⟩⟩⟩
  refine ⟨⟨countS_c s 32, by unfold i64In cnB; omega⟩, by unfold i64In; omega, ⟨by omega, by omega, by omega⟩, by unfold i64In; omega, ?_⟩
  have e32 : (((32 : UInt8).toNat : Nat) : Int) = 32 := rfl
  have p0 : pcS s 0 = s := by
    apply ByteArray.ext
    apply Array.toList_inj.1
    rw [pcS, pcF, Lib.extract_data, List.drop_zero, Nat.sub_zero, Lib.size_eq, List.take_length]
  refine ⟨⟨p0.symm, rfl, Int.toNat_natCast _, Int.toNat_natCast _, fun q _ => rfl⟩, ⟨Nat.zero_le _, rfl, rfl⟩, fun i ⟨h1, h2, h3⟩ => ?_⟩
  have hmo := cuN_mono s 32 h1
  have hcl : i = cuN s 32 s.size → cutS s 32 i = pcS s i := fun h => by
    have := cut_last (c := 32) h1 h2 (h3.trans h)
    simp only [e32] at this
    rw [h3] at this
    exact this
  have fin : i = cuN s 32 s.size → ((0 ≤ (i : Int) ∧ (i : Int) < (cutN s 32 : Int)) ∧ i < cutN s 32) ∧ (i64In ((i : Int) + 1) ∧ (0:Int) ≤ 0 ∧ 0 ≤ (i : Int) + 1 ∧ (i : Int) + 1 ≤ (cutN s 32 : Int)) ∧ i + 1 - 0 + (0 + 0) ≤ cutN s 32 ∧ i + 1 - 0 = cutN s 32 ∧
      ∀ (q : Nat), q < cutN s 32 → (if q + (0 + 0) = i then pcS s i else if q + (0 + 0) < i then cutS s 32 (q + (0 + 0)) else ⟨#[]⟩) = cutS s 32 q := fun h => by
    refine ⟨⟨⟨by omega, by omega⟩, by omega⟩, ⟨by unfold i64In; omega, by omega, by omega, by omega⟩, by omega, by omega, fun q hq => ?_⟩
    rw [show q + (0 + 0) = q from rfl]
    by_cases e : q = i
    · rw [if_pos e, e, hcl h]
    · rw [if_neg e, if_pos (by omega)]
  rcases idx_spec (pcS s i) 32 with ⟨k1, k2⟩ | ⟨k, k1, k2, k3, k4⟩
  · have := cut_none (c := 32) h1 k2
    simp only [e32] at this
    have hi : i = cuN s 32 s.size := h3.symm.trans this
    exact ⟨fun h => by omega, fun _ => fin hi⟩
  · obtain ⟨a1, a2, a3, a4, a5⟩ := cut_next (c := 32) h1 h2 k2 k3 k4
    simp only [e32] at a2 a3 a4 a5
    rw [h3] at a2 a4 a5
    have hx : ixB (pcS s i) = (k : Int) := k1
    have hsz := ext_sz s (pcF s i) h1
    have hk : (pcS s i).size = s.size - pcF s i := hsz
    have hp : pcF s (i + 1) = pcF s i + k + 1 := by
      rw [pcF]
      show _ + (ixB (pcS s i)).toNat + 1 = _
      rw [hx, Int.toNat_natCast]
    refine ⟨fun hlt => ⟨indexS_c _ 32, fun h => by omega, fun _ => ?_⟩, fun h => fin (by omega)⟩
    rw [hx]
    refine ⟨⟨by unfold i64In; omega, ⟨by omega, by omega, by omega⟩, ⟨by omega, by omega⟩, by omega⟩, ⟨by unfold i64In; omega, by omega, by omega, by omega⟩, by unfold i64In; omega, ?_, by omega, fun q hq => ?_, ⟨by omega, by rw [hp]; exact a3, by rw [hp]; exact a4⟩, by omega⟩
    · rw [show ((k : Int) + ((1:Nat) : Int)).toNat = k + 1 by omega]
      show (s.extract (pcF s i) s.size).extract (k + 1) (pcS s i).size = s.extract (pcF s (i + 1)) s.size
      rw [ext_ext s _ _ _ h1 (by omega), hp, show pcF s i + (pcS s i).size = s.size by omega]
      rfl
    · by_cases e : q = i
      · rw [if_pos e, if_pos (by omega), e, show ((k : Int) + 0).toNat = k by omega, a5]
        show (s.extract (pcF s i) s.size).extract 0 k = _
        rw [ext_ext s _ _ _ h1 (by omega), Nat.add_zero]
      · rw [if_neg e]
        by_cases e2 : q < i
        · rw [if_pos e2, if_pos (by omega)]
        · rw [if_neg e2, if_neg (by omega)]
noncomputable def A13_splitO_c (s : ByteArray) : Ann := { orc := [(1, [(2, .res fun q => .lst (cutN (sO (arg q 0)) 32) [fun j => dS (cutS (sO (arg q 0)) 32 j)])])], loops := [], cuts := [] }
theorem splitO_c (s : ByteArray) (hs : s.size ≤ 1000000) : FnC prog 13 [dS s, .val (.string ⟨#[32]⟩)] (.lst (cutN s 32) [fun q => dS (cutS s 32 q)]) := by
  refine FnC_owed hmix (A13_splitO_c s) (V := .need [FnC prog 24 [.val (.string s), .val (.string (ByteArray.mk #[(32 : UInt8)])), (dI (0:Int)), (dI (-1:Int))] (.lst (cutN s (32:Int)) [fun j => .val (.string (cutS s (32:Int) j))])] (.done [cutN s (32:Int) = cutN s (32:Int), ∀ i < cutN s (32:Int), cutS s (32:Int) i = cutS s (32:Int) i])) (by kernel_rfl) ?_
  simp only [VT.holds, AllT, Sq]
  exact split_c s hs
noncomputable def A24_split_cL (s : ByteArray) : Ann := { orc := [(6, [(2, .res fun q => dI (cnBL (sO (arg q 0))))]), (12, [(2, .res fun q => dI (ixBL (sO (arg q 0))))])], loops := [(0, { ι := Nat, keep := [1, 2, 3], boxes := [], ts := fun _ i => [(0, dS (pcSL s i)), (10, dI (i : Int))], rw := fun _ i => [(9, 1, cutN s 10, [fun q => dS (if q < i then cutS s 10 q else ⟨#[]⟩)])], inv := fun _ i => pcFL s i ≤ s.size ∧ cuF s 10 (pcFL s i) = pcFL s i ∧ cuN s 10 (pcFL s i) = i, mu := fun _ i => cutN s 10 - i, rd := fun _ σ => (iOf (σ.get 10)).toNat })], cuts := [] }
noncomputable abbrev q_split_cL_0 (i_1 : Nat) (i : Nat) : Bool := decide (i_1 + ((0:Nat) + Int.toNat (0:Int)) = addN (0:Nat) (Int.toNat (i:Int)))
theorem split_cL (s : ByteArray) (hs : s.size ≤ 1000000) : FnC prog 24 [dS s, .val (.string ⟨#[10]⟩), dI 0, dI (-1)] (.lst (cutN s 10) [fun q => dS (cutS s 10 q)]) := by
  refine FnC_owed hmix (A24_split_cL s) (V := .ite ((-1:Int) == 0) (.done [cutN s (10:Int) = 0]) (.ite (ByteArray.toList (ByteArray.mk #[(10 : UInt8)]) == ByteArray.toList (ByteArray.mk #[])) (.need [False] (.done [False])) (.ite (decide ((-1:Int) < 0)) (.need [FnC prog 39 [.val (.string s), .val (.string (ByteArray.mk #[(10 : UInt8)]))] ((dI (cnBL s))), i64In (cnBL s + 1)] (.need [i64In ((↑(ByteArray.size s) : Int) + 1)] (.need [(0:Int) ≤ mins (cnBL s + 1) [(↑(ByteArray.size s) : Int) + 1] ∧ mins (cnBL s + 1) [(↑(ByteArray.size s) : Int) + 1] = mins (cnBL s + 1) [(↑(ByteArray.size s) : Int) + 1] ∧ mins (cnBL s + 1) [(↑(ByteArray.size s) : Int) + 1] ≤ 140737488355328 ∧ prog.types[(9:Nat)].4 * Int.toNat (mins (cnBL s + 1) [(↑(ByteArray.size s) : Int) + 1]) ≤ 281474976710656] (.need [i64In (mins (cnBL s + 1) [(↑(ByteArray.size s) : Int) + 1] - 1)] (.loop Nat (fun a => pcFL s a ≤ ByteArray.size s ∧ cuF s (10:Int) (pcFL s a) = pcFL s a ∧ cuN s (10:Int) (pcFL s a) = a) (0:Int).toNat [s = pcSL s (0:Int).toNat, (0:Int) = (↑(0:Int).toNat : Int), (0:Nat) = 0, Int.toNat (mins (cnBL s + 1) [(↑(ByteArray.size s) : Int) + 1]) = cutN s (10:Int), ByteArray.mk #[(10 : UInt8)] = ByteArray.mk #[(10 : UInt8)], (0:Int) = 0, mins (cnBL s + 1) [(↑(ByteArray.size s) : Int) + 1] - 1 = mins (cnBL s + 1) [(↑(ByteArray.size s) : Int) + 1] - 1, Int.toNat (mins (cnBL s + 1) [(↑(ByteArray.size s) : Int) + 1]) = cutN s (10:Int), ∀ i < cutN s (10:Int), ByteArray.mk #[] = if i < (0:Int).toNat then cutS s (10:Int) i else ByteArray.mk #[]] fun i => .ite (decide ((i:Int) < mins (cnBL s + 1) [(↑(ByteArray.size s) : Int) + 1] - 1)) (.need [FnC prog 40 [.val (.string (pcSL s i)), .val
     (.string (ByteArray.mk #[(10 : UInt8)]))] ((dI (ixBL (pcSL s i))))] (.ite (decide (ixBL (pcSL s i) < 0)) (.need [(0:Int) ≤ (i:Int) ∧ (i:Int) < (↑(cutN s (10:Int)) : Int), addN 0 (i:Int).toNat < cutN s (10:Int)] (.need [i64In ((i:Int) + 1), (0:Int) ≤ 0 ∧ (0:Int) ≤ (i:Int) + 1 ∧ (i:Int) + 1 ≤ (↑(cutN s (10:Int)) : Int)] (.done [Int.toNat ((i:Int) + 1) - (0:Int).toNat + ((0:Nat) + (0:Int).toNat) ≤ cutN s (10:Int), Int.toNat ((i:Int) + 1) - (0:Int).toNat = cutN s (10:Int), ∀ i_1 < cutN s (10:Int), (if (q_split_cL_0 i_1 i) = true then pcSL s i else if i_1 + ((0:Nat) + (0:Int).toNat) < i then cutS s (10:Int) (i_1 + ((0:Nat) + (0:Int).toNat)) else ByteArray.mk #[]) = cutS s (10:Int) i_1]))) (.need [i64In (ixBL (pcSL s i) + 0), (0:Int) ≤ 0 ∧ (0:Int) ≤ ixBL (pcSL s i) + 0 ∧ ixBL (pcSL s i) + 0 ≤ (↑(ByteArray.size (pcSL s i)) : Int), (0:Int) ≤ (i:Int) ∧ (i:Int) < (↑(cutN s (10:Int)) : Int), addN 0 (i:Int).toNat < cutN s (10:Int)] (.need [i64In (ixBL (pcSL s i) + (↑(ByteArray.size (ByteArray.mk #[(10 : UInt8)])) : Int)), (0:Int) ≤ ixBL (pcSL s i) + (↑(ByteArray.size (ByteArray.mk #[(10 : UInt8)])) : Int) ∧ ixBL (pcSL s i) + (↑(ByteArray.size (ByteArray.mk #[(10 : UInt8)])) : Int) ≤ (↑(ByteArray.size (pcSL s i)) : Int) ∧ (↑(ByteArray.size (pcSL s i)) : Int) ≤ (↑(ByteArray.size (pcSL s i)) : Int)] (.need [i64In ((i:Int) + 1)] (.done [ByteArray.extract (pcSL s i) (ixBL (pcSL s i) + (↑(ByteArray.size (ByteArray.mk #[(10 : UInt8)])) : Int)).toNat (↑(ByteArray.size (pcSL s i)) : Int).toNat = pcSL s ((i:Int) + 1).toNat, (i:Int) + 1 = (↑((i:Int) + 1).toNat : Int), (0:Nat) = 0, cutN s (10:Int) = cutN s (10:Int), ByteArray.mk #[(10 : UInt8)] = ByteArray.mk #[(10 : UInt8)], (0
     : Int) = 0, mins (cnBL s + 1) [(↑(ByteArray.size s) : Int) + 1] - 1 = mins (cnBL s + 1) [(↑(ByteArray.size s) : Int) + 1] - 1, cutN s (10:Int) = cutN s (10:Int), ∀ i_1 < cutN s (10:Int), (if decide (i_1 = addN 0 (i:Int).toNat) = true then ByteArray.extract (pcSL s i) (0:Int).toNat (ixBL (pcSL s i) + 0).toNat else if i_1 < i then cutS s (10:Int) i_1 else ByteArray.mk #[]) = if i_1 < ((i:Int) + 1).toNat then cutS s (10:Int) i_1 else ByteArray.mk #[], pcFL s ((i:Int) + 1).toNat ≤ ByteArray.size s ∧ cuF s (10:Int) (pcFL s ((i:Int) + 1).toNat) = pcFL s ((i:Int) + 1).toNat ∧ cuN s (10:Int) (pcFL s ((i:Int) + 1).toNat) = ((i:Int) + 1).toNat, cutN s (10:Int) - ((i:Int) + 1).toNat < cutN s (10:Int) - i])))))) (.need [(0:Int) ≤ (i:Int) ∧ (i:Int) < (↑(cutN s (10:Int)) : Int), addN 0 (i:Int).toNat < cutN s (10:Int)] (.need [i64In ((i:Int) + 1), (0:Int) ≤ 0 ∧ (0:Int) ≤ (i:Int) + 1 ∧ (i:Int) + 1 ≤ (↑(cutN s (10:Int)) : Int)] (.done [Int.toNat ((i:Int) + 1) - (0:Int).toNat + ((0:Nat) + (0:Int).toNat) ≤ cutN s (10:Int), Int.toNat ((i:Int) + 1) - (0:Int).toNat = cutN s (10:Int), ∀ i_1 < cutN s (10:Int), (if (q_split_cL_0 i_1 i) = true then pcSL s i else if i_1 + ((0:Nat) + (0:Int).toNat) < i then cutS s (10:Int) (i_1 + ((0:Nat) + (0:Int).toNat)) else ByteArray.mk #[]) = cutS s (10:Int) i_1])))))))) (.need [i64In ((↑(ByteArray.size s) : Int) + 1)] (.need [(0:Int) ≤ (-1:Int) ∧ (-1:Int) = (-1:Int) ∧ (-1:Int) ≤ 140737488355328 ∧ prog.types[(9:Nat)].4 * Int.toNat (-1:Int) ≤ 281474976710656] (.need [i64In ((-1:Int) - 1)] (.loop Nat (fun a => pcFL s a
     ≤ ByteArray.size s ∧ cuF s (10:Int) (pcFL s a) = pcFL s a ∧ cuN s (10:Int) (pcFL s a) = a) (0:Int).toNat [s = pcSL s (0:Int).toNat, (0:Int) = (↑(0:Int).toNat : Int), (0:Nat) = 0, Int.toNat (-1:Int) = cutN s (10:Int), ByteArray.mk #[(10 : UInt8)] = ByteArray.mk #[(10 : UInt8)], (0:Int) = 0, (-1:Int) - 1 = (-1:Int) - 1, Int.toNat (-1:Int) = cutN s (10:Int), ∀ i < cutN s (10:Int), ByteArray.mk #[] = if i < (0:Int).toNat then cutS s (10:Int) i else ByteArray.mk #[]] fun i => .ite (decide ((i:Int) < (-1:Int) - 1)) (.need [FnC prog 40 [.val (.string (pcSL s i)), .val (.string (ByteArray.mk #[(10 : UInt8)]))] ((dI (ixBL (pcSL s i))))] (.ite (decide (ixBL (pcSL s i) < 0)) (.need [(0:Int) ≤ (i:Int) ∧ (i:Int) < (↑(cutN s (10:Int)) : Int), addN 0 (i:Int).toNat < cutN s (10:Int)] (.need [i64In ((i:Int) + 1), (0:Int) ≤ 0 ∧ (0:Int) ≤ (i:Int) + 1 ∧ (i:Int) + 1 ≤ (↑(cutN s (10:Int)) : Int)] (.done [Int.toNat ((i:Int) + 1) - (0:Int).toNat + ((0:Nat) + (0:Int).toNat) ≤ cutN s (10:Int), Int.toNat ((i:Int) + 1) - (0:Int).toNat = cutN s (10:Int), ∀ i_1 < cutN s (10:Int), (if (q_split_cL_0 i_1 i) = true then pcSL s i else if i_1 + ((0:Nat) + (0:Int).toNat) < i then cutS s (10:Int) (i_1 + ((0:Nat) + (0:Int).toNat)) else ByteArray.mk #[]) = cutS s (10:Int) i_1]))) (.need [i64In (ixBL (pcSL s i) + 0), (0:Int) ≤ 0 ∧ (0:Int) ≤ ixBL (pcSL s i) + 0 ∧ ixBL (pcSL s i) + 0 ≤ (↑(ByteArray.size (pcSL s i)) : Int), (0:Int) ≤ (i:Int) ∧ (i:Int) < (↑(cutN s (10:Int)) : Int), addN 0 (i:Int).toNat < cutN s (10:Int)] (.need [i64In (ixBL (pcSL s i) + (↑(ByteArray.size (ByteArray.mk #[(10 : UInt8)])) : Int)), (0:Int) ≤ ixBL (pcSL s i) + (↑(ByteArray.size
     (ByteArray.mk #[(10 : UInt8)])) : Int) ∧ ixBL (pcSL s i) + (↑(ByteArray.size (ByteArray.mk #[(10 : UInt8)])) : Int) ≤ (↑(ByteArray.size (pcSL s i)) : Int) ∧ (↑(ByteArray.size (pcSL s i)) : Int) ≤ (↑(ByteArray.size (pcSL s i)) : Int)] (.need [i64In ((i:Int) + 1)] (.done [ByteArray.extract (pcSL s i) (ixBL (pcSL s i) + (↑(ByteArray.size (ByteArray.mk #[(10 : UInt8)])) : Int)).toNat (↑(ByteArray.size (pcSL s i)) : Int).toNat = pcSL s ((i:Int) + 1).toNat, (i:Int) + 1 = (↑((i:Int) + 1).toNat : Int), (0:Nat) = 0, cutN s (10:Int) = cutN s (10:Int), ByteArray.mk #[(10 : UInt8)] = ByteArray.mk #[(10 : UInt8)], (0:Int) = 0, (-1:Int) - 1 = (-1:Int) - 1, cutN s (10:Int) = cutN s (10:Int), ∀ i_1 < cutN s (10:Int), (if decide (i_1 = addN 0 (i:Int).toNat) = true then ByteArray.extract (pcSL s i) (0:Int).toNat (ixBL (pcSL s i) + 0).toNat else if i_1 < i then cutS s (10:Int) i_1 else ByteArray.mk #[]) = if i_1 < ((i:Int) + 1).toNat then cutS s (10:Int) i_1 else ByteArray.mk #[], pcFL s ((i:Int) + 1).toNat ≤ ByteArray.size s ∧ cuF s (10:Int) (pcFL s ((i:Int) + 1).toNat) = pcFL s ((i:Int) + 1).toNat ∧ cuN s (10:Int) (pcFL s ((i:Int) + 1).toNat) = ((i:Int) + 1).toNat, cutN s (10:Int) - ((i:Int) + 1).toNat < cutN s (10:Int) - i])))))) (.need [(0:Int) ≤ (i:Int) ∧ (i:Int) < (↑(cutN s (10:Int)) : Int), addN 0 (i:Int).toNat < cutN s (10:Int)] (.need [i64In ((i:Int) + 1), (0:Int) ≤ 0 ∧ (0:Int) ≤ (i:Int) + 1 ∧ (i:Int) + 1 ≤ (↑(cutN s (10:Int)) : Int)] (.done [Int.toNat ((i:Int) + 1) - (0:Int).toNat + ((0:Nat) + (0:Int).toNat) ≤ cutN s (10:Int), Int.toNat ((i:Int) + 1) - (0:Int).toNat
     = cutN s (10:Int), ∀ i_1 < cutN s (10:Int), (if (q_split_cL_0 i_1 i) = true then pcSL s i else if i_1 + ((0:Nat) + (0:Int).toNat) < i then cutS s (10:Int) (i_1 + ((0:Nat) + (0:Int).toNat)) else ByteArray.mk #[]) = cutS s (10:Int) i_1])))))))))) (by kernel_rfl) ?_
  simp only [q_split_cL_0, VT.holds, AllT, Sq]
  have hcn := cuN_le s 10 s.size
  have hcu : cutN s 10 = cuN s 10 s.size + 1 := rfl
  have hm : mins (cnBL s + 1) [(s.size : Int) + 1] = (cutN s 10 : Int) := by
    unfold mins cnBL cutN
    simp [mins]
    omega
  have hb : (prog.types[9]).bytes = 16 := by kernel_rfl
  have ha : ∀ i, addN 0 i = i := fun i => rfl
  have z1 : (⟨#[10]⟩ : ByteArray).size = 1 := rfl
  simp only [hm, hb, ha, z1]
  refine ⟨fun h => absurd h (by decide), fun _ => ⟨fun h => absurd h (by rw [toList_nil]; exact one_neL), fun _ => ⟨fun _ => ?_, fun h => absurd (by decide) h⟩⟩⟩
  refine ⟨⟨countS_c s 10, by unfold i64In cnBL; omega⟩, by unfold i64In; omega, ⟨by omega, by omega, by omega⟩, by unfold i64In; omega, ?_⟩
  have e32 : (((10 : UInt8).toNat : Nat) : Int) = 10 := rfl
  have p0 : pcSL s 0 = s := by
    apply ByteArray.ext
    apply Array.toList_inj.1
    rw [pcSL, pcFL, Lib.extract_data, List.drop_zero, Nat.sub_zero, Lib.size_eq, List.take_length]
  refine ⟨⟨p0.symm, rfl, Int.toNat_natCast _, Int.toNat_natCast _, fun q _ => rfl⟩, ⟨Nat.zero_le _, rfl, rfl⟩, fun i ⟨h1, h2, h3⟩ => ?_⟩
  have hmo := cuN_mono s 10 h1
  have hcl : i = cuN s 10 s.size → cutS s 10 i = pcSL s i := fun h => by
    have := cut_last (c := 10) h1 h2 (h3.trans h)
    simp only [e32] at this
    rw [h3] at this
    exact this
  have fin : i = cuN s 10 s.size → ((0 ≤ (i : Int) ∧ (i : Int) < (cutN s 10 : Int)) ∧ i < cutN s 10) ∧ (i64In ((i : Int) + 1) ∧ (0:Int) ≤ 0 ∧ 0 ≤ (i : Int) + 1 ∧ (i : Int) + 1 ≤ (cutN s 10 : Int)) ∧ i + 1 - 0 + (0 + 0) ≤ cutN s 10 ∧ i + 1 - 0 = cutN s 10 ∧
      ∀ (q : Nat), q < cutN s 10 → (if q + (0 + 0) = i then pcSL s i else if q + (0 + 0) < i then cutS s 10 (q + (0 + 0)) else ⟨#[]⟩) = cutS s 10 q := fun h => by
    refine ⟨⟨⟨by omega, by omega⟩, by omega⟩, ⟨by unfold i64In; omega, by omega, by omega, by omega⟩, by omega, by omega, fun q hq => ?_⟩
    rw [show q + (0 + 0) = q from rfl]
    by_cases e : q = i
    · rw [if_pos e, e, hcl h]
    · rw [if_neg e, if_pos (by omega)]
  rcases idx_spec (pcSL s i) 10 with ⟨k1, k2⟩ | ⟨k, k1, k2, k3, k4⟩
  · have := cut_none (c := 10) h1 k2
    simp only [e32] at this
    have hi : i = cuN s 10 s.size := h3.symm.trans this
    exact ⟨fun h => by omega, fun _ => fin hi⟩
  · obtain ⟨a1, a2, a3, a4, a5⟩ := cut_next (c := 10) h1 h2 k2 k3 k4
    simp only [e32] at a2 a3 a4 a5
    rw [h3] at a2 a4 a5
    have hx : ixBL (pcSL s i) = (k : Int) := k1
    have hsz := ext_sz s (pcFL s i) h1
    have hk : (pcSL s i).size = s.size - pcFL s i := hsz
    have hp : pcFL s (i + 1) = pcFL s i + k + 1 := by
      rw [pcFL]
      show _ + (ixBL (pcSL s i)).toNat + 1 = _
      rw [hx, Int.toNat_natCast]
    refine ⟨fun hlt => ⟨indexS_c _ 10, fun h => by omega, fun _ => ?_⟩, fun h => fin (by omega)⟩
    rw [hx]
    refine ⟨⟨by unfold i64In; omega, ⟨by omega, by omega, by omega⟩, ⟨by omega, by omega⟩, by omega⟩, ⟨by unfold i64In; omega, by omega, by omega, by omega⟩, by unfold i64In; omega, ?_, by omega, fun q hq => ?_, ⟨by omega, by rw [hp]; exact a3, by rw [hp]; exact a4⟩, by omega⟩
    · rw [show ((k : Int) + ((1:Nat) : Int)).toNat = k + 1 by omega]
      show (s.extract (pcFL s i) s.size).extract (k + 1) (pcSL s i).size = s.extract (pcFL s (i + 1)) s.size
      rw [ext_ext s _ _ _ h1 (by omega), hp, show pcFL s i + (pcSL s i).size = s.size by omega]
      rfl
    · by_cases e : q = i
      · rw [if_pos e, if_pos (by omega), e, show ((k : Int) + 0).toNat = k by omega, a5]
        show (s.extract (pcFL s i) s.size).extract 0 k = _
        rw [ext_ext s _ _ _ h1 (by omega), Nat.add_zero]
      · rw [if_neg e]
        by_cases e2 : q < i
        · rw [if_pos e2, if_pos (by omega)]
        · rw [if_neg e2, if_neg (by omega)]
noncomputable def A13_splitO_cL (s : ByteArray) : Ann := { orc := [(1, [(2, .res fun q => .lst (cutN (sO (arg q 0)) 10) [fun j => dS (cutS (sO (arg q 0)) 10 j)])])], loops := [], cuts := [] }
theorem splitO_cL (s : ByteArray) (hs : s.size ≤ 1000000) : FnC prog 13 [dS s, .val (.string ⟨#[10]⟩)] (.lst (cutN s 10) [fun q => dS (cutS s 10 q)]) := by
  refine FnC_owed hmix (A13_splitO_cL s) (V := .need [FnC prog 24 [.val (.string s), .val (.string (ByteArray.mk #[(10 : UInt8)])), (dI (0:Int)), (dI (-1:Int))] (.lst (cutN s (10:Int)) [fun j => .val (.string (cutS s (10:Int) j))])] (.done [cutN s (10:Int) = cutN s (10:Int), ∀ i < cutN s (10:Int), cutS s (10:Int) i = cutS s (10:Int) i])) (by kernel_rfl) ?_
  simp only [VT.holds, AllT, Sq]
  exact split_cL s hs
end Go.Abs
