/- Contracts. -/
import Derived.Test.YtdhnfeoigmeopaaDoorL9
import Derived.Lib.ItoaNum
set_option maxRecDepth 100000
namespace Go.Abs
open Go
abbrev dS (s : ByteArray) : DV := .val (.string s)
abbrev dU (z : Int) : DV := .val (.int .u8 z)
abbrev sO (d : DV) : ByteArray := match d with
  | .val (.string s) => s
  | _ => ⟨#[]⟩
def decB (n : Int) : ByteArray := ⟨(Lib.itoa n).toArray⟩
def cuF (s : ByteArray) (c : Int) : Nat → Nat
  | 0 => 0
  | i + 1 => if bget s i = c then i + 1 else cuF s c i
def cuN (s : ByteArray) (c : Int) : Nat → Nat
  | 0 => 0
  | i + 1 => if bget s i = c then cuN s c i + 1 else cuN s c i
def cuS (s : ByteArray) (c : Int) : Nat → Nat → ByteArray
  | 0, _ => ⟨#[]⟩
  | i + 1, q => if bget s i = c ∧ cuN s c i = q then s.extract (cuF s c i) i else cuS s c i q
def cutN (s : ByteArray) (c : Int) : Nat := cuN s c s.size + 1
def cutS (s : ByteArray) (c : Int) (q : Nat) : ByteArray := if q < cuN s c s.size then cuS s c s.size q else s.extract (cuF s c s.size) s.size
theorem cuF_le (s : ByteArray) (c : Int) : ∀ i, cuF s c i ≤ i
  | 0 => Nat.le_refl _
  | i + 1 => by
    have := cuF_le s c i
    rw [cuF]
    split <;> omega
theorem cuN_le (s : ByteArray) (c : Int) : ∀ i, cuN s c i ≤ i
  | 0 => Nat.le_refl _
  | i + 1 => by
    have := cuN_le s c i
    rw [cuN]
    split <;> omega
def dcS (m : Int) (s : ByteArray) : List UInt8 := if m = 0 then s.data.toList else Lib.decDigits m.natAbs ++ s.data.toList
theorem dcS_step {m : Int} {s : ByteArray} (hm : m ≠ 0) (hb : -1000000000000 ≤ m ∧ m ≤ 1000000000000) : dcS (IntKind.i64.wrap (m.tdiv 10)) (strOfNums [IntKind.u8.wrap (48 + ((m.tmod 10).natAbs : Int))] ++ s) = dcS m s ∧ (IntKind.i64.wrap (m.tdiv 10)).natAbs = m.natAbs / 10 ∧ (-1000000000000 ≤ IntKind.i64.wrap (m.tdiv 10) ∧ IntKind.i64.wrap (m.tdiv 10) ≤ 1000000000000) := by
  have e1 : (m.tdiv 10).natAbs = m.natAbs / 10 := by rw [Int.natAbs_tdiv]; rfl
  have e2 : (m.tmod 10).natAbs = m.natAbs % 10 := by rw [Int.natAbs_tmod]; rfl
  have hr : m.natAbs % 10 < 10 := Nat.mod_lt _ (by decide)
  have e3 : IntKind.i64.wrap (m.tdiv 10) = m.tdiv 10 := wrap_in (by unfold i64In; omega)
  have e4 : IntKind.u8.wrap (48 + ((m.tmod 10).natAbs : Int)) = ((48 + m.natAbs % 10 : Nat) : Int) := by
    rw [e2, IntWalk.u8_in _ (by omega)]; omega
  have e5 : (strOfNums [IntKind.u8.wrap (48 + ((m.tmod 10).natAbs : Int))] ++ s).data.toList = UInt8.ofNat (48 + m.natAbs % 10) :: s.data.toList := by
    rw [e4, ByteArray.data_append, Array.toList_append, strOfNums_data]
    rfl
  have e6 : Lib.decDigits m.natAbs = if m.natAbs < 10 then [UInt8.ofNat (48 + m.natAbs)] else Lib.decDigits (m.natAbs / 10) ++ [UInt8.ofNat (48 + m.natAbs % 10)] := by
    rw [Lib.decDigits]
    split <;> rfl
  refine ⟨?_, by rw [e3, e1], by omega⟩
  unfold dcS
  rw [e3, e1, e5, if_neg hm, e6]
  by_cases h : m.natAbs < 10
  · rw [if_pos (by omega), if_pos h, Nat.mod_eq_of_lt h]; rfl
  · rw [if_neg (by omega), if_neg h, List.append_assoc]; rfl
theorem decB_of {n : Int} {s t : ByteArray} (h : dcS 0 s = Lib.decDigits n.natAbs) (ht : t = if n < 0 then ⟨#[45]⟩ else ⟨#[]⟩) : t ++ s = decB n := by
  have e : s.data.toList = Lib.decDigits n.natAbs := h
  apply ByteArray.ext
  rw [ByteArray.data_append, ht]
  apply Array.toList_inj.1
  rw [Array.toList_append, e, decB, Lib.itoa]
  split
  · rfl
  · rw [show n.natAbs = n.toNat by omega]; rfl
theorem decB_0 : (⟨#[48]⟩ : ByteArray) = decB 0 := by
  apply ByteArray.ext
  show #[48] = (Lib.itoa 0).toArray
  rw [Lib.itoa, if_neg (by decide), Lib.decDigits]
  rfl
theorem cu_yes {s : ByteArray} {c : Int} {i : Nat} (h : bget s i = c) : cuF s c (i + 1) = i + 1 ∧ cuN s c (i + 1) = cuN s c i + 1 ∧ ∀ q, q < cuN s c (i + 1) → (if q < cuN s c i then cuS s c i q else s.extract (cuF s c i) i) = cuS s c (i + 1) q := by
  have e : cuN s c (i + 1) = cuN s c i + 1 := by rw [cuN, if_pos h]
  refine ⟨by rw [cuF, if_pos h], e, fun q hq => ?_⟩
  rw [cuS]
  by_cases h1 : q < cuN s c i
  · rw [if_pos h1, if_neg (by omega)]
  · rw [if_neg h1, if_pos ⟨h, by omega⟩]
theorem cu_no {s : ByteArray} {c : Int} {i : Nat} (h : ¬ bget s i = c) : cuF s c (i + 1) = cuF s c i ∧ cuN s c (i + 1) = cuN s c i ∧ ∀ q, cuS s c i q = cuS s c (i + 1) q :=
  ⟨by rw [cuF, if_neg h], by rw [cuN, if_neg h], fun q => by rw [cuS, if_neg (fun h' => h h'.1)]⟩
def nfr (s : ByteArray) : Nat := if (s.size : Int) > 0 ∧ bget s 0 = 45 then 1 else 0
def nac (s : ByteArray) (f : Nat) : Nat → Int
  | 0 => 0
  | i + 1 => if f ≤ i then 10 * nac s f i + (bget s i - 48) else 0
def nln (s : ByteArray) (d : Int) : Bool := decide (¬ ((s.size : Int) - nfr s < 1 ∨ (s.size : Int) - nfr s > d))
def ndK (s : ByteArray) : Nat → Bool
  | 0 => true
  | i + 1 => ndK s i && (decide (i < nfr s) || decide (48 ≤ bget s i ∧ bget s i ≤ 57))
def ndg (s : ByteArray) : Bool := ndK s s.size
def nva (s : ByteArray) : Int := if nfr s = 1 then - nac s (nfr s) s.size else nac s (nfr s) s.size
def nuV (s : ByteArray) (d : Int) : Int := if nln s d = true ∧ ndg s = true then nva s else 0
def nuB (s : ByteArray) (d : Int) : Bool := (nln s d && ndg s) && ((decB (nva s)).toList == s.toList)
theorem ndK_le {s : ByteArray} : ∀ {i j : Nat}, j ≤ i → ndK s i = true → ndK s j = true
  | 0, j, hj, h => by obtain rfl : j = 0 := by omega
                      exact h
  | i + 1, j, hj, h => by
    rcases Nat.lt_or_ge j (i + 1) with h1 | h1
    · rw [ndK, Bool.and_eq_true] at h
      exact ndK_le (by omega) h.1
    · obtain rfl : j = i + 1 := by omega
      exact h
theorem ndK_0 (s : ByteArray) : ∀ i, i ≤ nfr s → ndK s i = true
  | 0, _ => rfl
  | i + 1, h => by rw [ndK, ndK_0 s i (by omega), decide_eq_true (by omega)]; rfl
theorem ndK_bad {s : ByteArray} {i : Nat} (hi : nfr s ≤ i) (hl : i < s.size) (h : bget s i < 48 ∨ bget s i > 57) : ndg s = false := by
  cases e : ndg s with
  | false => rfl
  | true =>
    have := ndK_le (j := i + 1) (by omega) e
    rw [ndK, Bool.and_eq_true, Bool.or_eq_true, decide_eq_true_eq, decide_eq_true_eq] at this
    omega
theorem nac_0 (s : ByteArray) (f : Nat) : ∀ i, i ≤ f → nac s f i = 0
  | 0, _ => rfl
  | i + 1, h => by rw [nac, if_neg (by omega)]
theorem nac_bd {s : ByteArray} : ∀ {i : Nat}, nfr s ≤ i → ndK s i = true → 0 ≤ nac s (nfr s) i ∧ nac s (nfr s) i < ((10 ^ (i - nfr s) : Nat) : Int)
  | 0, _, _ => by rw [nac]; exact ⟨Int.le_refl _, by rw [Nat.zero_sub]; decide⟩
  | i + 1, h, hk => by
    by_cases e : nfr s ≤ i
    · have hk1 := hk
      rw [ndK, Bool.and_eq_true, Bool.or_eq_true, decide_eq_true_eq, decide_eq_true_eq] at hk1
      have ih := nac_bd e hk1.1
      have e2 : 10 ^ (i + 1 - nfr s) = 10 ^ (i - nfr s) * 10 := by rw [show i + 1 - nfr s = i - nfr s + 1 by omega, Nat.pow_succ]
      rw [nac, if_pos e, e2]
      omega
    · rw [nac_0 _ _ _ (by omega), show i + 1 - nfr s = 0 by omega]
      decide
theorem nuN {s : ByteArray} {d : Int} (h : (nln s d && ndg s) = false) : 0 = nuV s d ∧ false = nuB s d := by
  constructor
  · rw [nuV, if_neg (fun h' => by rw [h'.1, h'.2] at h; cases h)]
  · rw [nuB, h]; rfl
noncomputable def A51_absB_c (x : Int) : Ann := { orc := [], loops := [], cuts := [] }
theorem absB_c (x : Int) (h : -9223372036854775807 ≤ x ∧ x ≤ 9223372036854775807) : FnC prog 51 [dI x] (dI (x.natAbs : Int)) := by
  refine FnC_owed hmix (A51_absB_c x) (V := .ite (decide (x < 0)) (.need [i64In (-x)] (.done [-x = (↑(Int.natAbs x) : Int)])) (.done [x = (↑(Int.natAbs x) : Int)])) (by kernel_rfl) ?_
  simp only [VT.holds, AllT, Sq]
  exact ⟨fun h1 => ⟨by unfold i64In; omega, by omega⟩, fun h1 => by omega⟩
noncomputable def A16_cutB_c (s : ByteArray) (c : Int) : Ann := { orc := [], loops := [(0, { ι := Nat, keep := [0, 1], boxes := [], ts := fun _ i => [(7, dI (i : Int)), (6, dI (cuF s c i : Int))], rw := fun _ i => [(5, 1, cuN s c i, [fun q => dS (cuS s c i q)])], inv := fun _ i => i ≤ s.size, mu := fun _ i => s.size - i, rd := fun _ σ => (iOf (σ.get 7)).toNat })], cuts := [] }
theorem cutB_c (s : ByteArray) (c : Int) (hs : s.size ≤ 1000000) : FnC prog 16 [dS s, dU c] (.lst (cutN s c) [fun q => dS (cutS s c q)]) := by
  refine FnC_owed hmix (A16_cutB_c s c) (V := .loop Nat (fun a => a ≤ ByteArray.size s) (0:Int).toNat [(0:Int) = (↑(0:Int).toNat : Int), (0:Int) = (↑(cuF s c (0:Int).toNat) : Int), (0:Nat) = 0, cuN s c (0:Int).toNat = 0, s = s, c = c, cuN s c (0:Int).toNat = 0] fun i => .ite (decide ((i:Int) < (↑(ByteArray.size s) : Int))) (.need [(0:Int) ≤ (i:Int) ∧ (i:Int) < (↑(ByteArray.size s) : Int)] (.ite (bget s (i:Int).toNat == c) (.need [(0:Int) ≤ (↑(cuF s c i) : Int) ∧ (↑(cuF s c i) : Int) ≤ (i:Int) ∧ (i:Int) ≤ (↑(ByteArray.size s) : Int), cuN s c i ≤ cuN s c i, (cuN s c i + 1) * (nat_lit 15 + 1) ≤ 140737488355328, (1:Nat) ≤ 1] (.need [i64In ((i:Int) + 1)] (.need [i64In ((i:Int) + 1)] (.done [(i:Int) + 1 = (↑((i:Int) + 1).toNat : Int), (i:Int) + 1 = (↑(cuF s c ((i:Int) + 1).toNat) : Int), (0:Nat) = 0, cuN s c i + 1 = cuN s c ((i:Int) + 1).toNat, s = s, c = c, cuN s c i + 1 = cuN s c ((i:Int) + 1).toNat, ∀ i_1 < cuN s c ((i:Int) + 1).toNat, (if decide (i_1 < cuN s c i) = true then cuS s c i i_1 else ByteArray.extract s (↑(cuF s c i) : Int).toNat (i:Int).toNat) = cuS s c ((i:Int) + 1).toNat i_1, Int.toNat ((i:Int) + 1) ≤ ByteArray.size s, ByteArray.size s - ((i:Int) + 1).toNat < ByteArray.size s - i])))) (.need [i64In ((i:Int) + 1)] (.done [(i:Int) + 1 = (↑((i:Int) + 1).toNat : Int), (↑(cuF s c i) : Int) = (↑(cuF s c ((i:Int) + 1).toNat) : Int), (0:Nat) = 0, cuN s c i = cuN s c ((i:Int) + 1).toNat, s = s, c = c, cuN s c i = cuN s c ((i:Int) + 1).toNat, ∀ i_1 < cuN s c ((i:Int) + 1).toNat, cuS s c i i_1 = cuS s c ((i:Int) + (1
     : Int)).toNat i_1, Int.toNat ((i:Int) + 1) ≤ ByteArray.size s, ByteArray.size s - ((i:Int) + 1).toNat < ByteArray.size s - i])))) (.need [(0:Int) ≤ (↑(cuF s c i) : Int) ∧ (↑(cuF s c i) : Int) ≤ (↑(ByteArray.size s) : Int) ∧ (↑(ByteArray.size s) : Int) ≤ (↑(ByteArray.size s) : Int), cuN s c i ≤ cuN s c i, (cuN s c i + 1) * (nat_lit 15 + 1) ≤ 140737488355328, (1:Nat) ≤ 1] (.done [cuN s c i + 1 ≤ cuN s c i + 1, cuN s c i + 1 = cutN s c, ∀ i_1 < cutN s c, (if decide (i_1 < cuN s c i) = true then cuS s c i i_1 else ByteArray.extract s (↑(cuF s c i) : Int).toNat (↑(ByteArray.size s) : Int).toNat) = cutS s c i_1]))) (by kernel_rfl) ?_
  simp only [VT.holds, AllT, Sq]
  refine ⟨⟨rfl, rfl, rfl, rfl⟩, Nat.zero_le _, fun i hi => ⟨fun hlt => ⟨by omega, fun h => ?_, fun h => ?_⟩, fun hge => ?_⟩⟩
  · obtain ⟨c1, c2, c3⟩ := cu_yes h
    have f := cuF_le s c i
    have g := cuN_le s c i
    exact ⟨⟨by omega, Nat.le_refl _, by omega, Nat.le_refl _⟩, by unfold i64In; omega, by unfold i64In; omega, by omega, by rw [c1]; omega, c2.symm, c2.symm, c3, by omega, by omega⟩
  · obtain ⟨c1, c2, c3⟩ := cu_no h
    exact ⟨by unfold i64In; omega, by omega, by rw [c1], c2.symm, c2.symm, fun q _ => c3 q, by omega, by omega⟩
  · obtain rfl : i = s.size := by omega
    have f := cuF_le s c s.size
    have g := cuN_le s c s.size
    exact ⟨⟨by omega, Nat.le_refl _, by omega, Nat.le_refl _⟩, Nat.le_refl _, rfl, fun q _ => rfl⟩
noncomputable def A30_decimal_c (n : Int) : Ann := { orc := [(7, [(1, .no), (2, .res fun q => dI ((aI q 0).natAbs : Int))])], loops := [(0, { ι := Int × ByteArray, keep := [4], boxes := [], ts := fun _ i => [(0, dI i.1), (3, dS i.2)], inv := fun _ i => (i.2.size + i.1.natAbs ≤ n.natAbs ∧ -1000000000000 ≤ i.1 ∧ i.1 ≤ 1000000000000) ∧ dcS i.1 i.2 = Lib.decDigits n.natAbs, mu := fun _ i => i.1.natAbs, rd := fun _ σ => (iOf (σ.get 0), sO (σ.get 3)) })], cuts := [] }
theorem decimal_c (n : Int) (hn : -1000000000000 ≤ n ∧ n ≤ 1000000000000) : FnC prog 30 [dI n] (dS (decB n)) := by
  refine FnC_owed hmix (A30_decimal_c n) (V := .ite (n == 0) (.done [ByteArray.mk #[(48 : UInt8)] = decB n]) (.ite (decide (n < 0)) (.loop (Int × ByteArray) (fun (a : Int × ByteArray) => (ByteArray.size a.snd + Int.natAbs a.fst ≤ Int.natAbs n ∧ (-1000000000000:Int) ≤ a.fst ∧ a.fst ≤ 1000000000000) ∧ dcS a.fst a.snd = Lib.decDigits (Int.natAbs n)) (n, ByteArray.mk #[]) [n = n, ByteArray.mk #[] = ByteArray.mk #[], ByteArray.mk #[(45 : UInt8)] = ByteArray.mk #[(45 : UInt8)]] fun (i : Int × ByteArray) => .ite (i.fst != 0) (.need [(10:Int) ≠ 0, FnC prog 51 [(dI (Int.tmod i.fst (10:Int)))] ((dI (↑(Int.natAbs (Int.tmod i.fst (10:Int))) : Int))), i64In ((48:Int) + (↑(Int.natAbs (Int.tmod i.fst (10:Int))) : Int)), (1:Nat) ≤ 1, ByteArray.size (strOfNums [IntKind.wrap IntKind.u8 ((48:Int) + (↑(Int.natAbs (Int.tmod i.fst (10:Int))) : Int))]) + ByteArray.size i.snd ≤ 9223372036854775807] (.need [(10:Int) ≠ 0] (.done [IntKind.wrap IntKind.i64 (Int.tdiv i.fst (10:Int)) = IntKind.wrap IntKind.i64 (Int.tdiv i.fst (10:Int)), strOfNums [IntKind.wrap IntKind.u8 ((48:Int) + (↑(Int.natAbs (Int.tmod i.fst (10:Int))) : Int))] ++ i.snd = strOfNums [IntKind.wrap IntKind.u8 ((48:Int) + (↑(Int.natAbs (Int.tmod i.fst (10:Int))) : Int))] ++ i.snd, ByteArray.mk #[(45 : UInt8)] = ByteArray.mk #[(45 : UInt8)], (ByteArray.size (IntKind.wrap IntKind.i64 (Int.tdiv i.fst (10:Int)), strOfNums [IntKind.wrap IntKind.u8 ((48:Int) + (↑(Int.natAbs (Int.tmod i.fst (10:Int))) : Int))] ++ i.snd).snd + Int.natAbs (IntKind.wrap IntKind.i64 (Int.tdiv i.fst (10:Int))) ≤ Int.natAbs n ∧ (-1000000000000:Int) ≤ IntKind.wrap IntKind.i64 (Int.tdiv i.fst (10:Int)) ∧ IntKind.wrap IntKind.i64 (Int.tdiv i.fst (10:Int)) ≤ 1000000000000) ∧ dcS (IntKind.wrap IntKind.i64 (Int.tdiv i.fst (10:Int))) (strOfNums [IntKind.wrap IntKind.u8 ((48:Int) + (↑(Int.natAbs (Int.tmod i.fst (10:Int))) : Int))] ++ i.snd) = Lib.decDigits (Int.natAbs n), Int.natAbs
     (IntKind.wrap IntKind.i64 (Int.tdiv i.fst (10:Int))) < Int.natAbs i.fst]))) (.need [ByteArray.size (ByteArray.mk #[(45 : UInt8)]) + ByteArray.size i.snd ≤ 9223372036854775807] (.done [ByteArray.mk #[(45 : UInt8)] ++ i.snd = decB n]))) (.loop (Int × ByteArray) (fun (a : Int × ByteArray) => (ByteArray.size a.snd + Int.natAbs a.fst ≤ Int.natAbs n ∧ (-1000000000000:Int) ≤ a.fst ∧ a.fst ≤ 1000000000000) ∧ dcS a.fst a.snd = Lib.decDigits (Int.natAbs n)) (n, ByteArray.mk #[]) [n = n, ByteArray.mk #[] = ByteArray.mk #[], ByteArray.mk #[] = ByteArray.mk #[]] fun (i : Int × ByteArray) => .ite (i.fst != 0) (.need [(10:Int) ≠ 0, FnC prog 51 [(dI (Int.tmod i.fst (10:Int)))] ((dI (↑(Int.natAbs (Int.tmod i.fst (10:Int))) : Int))), i64In ((48:Int) + (↑(Int.natAbs (Int.tmod i.fst (10:Int))) : Int)), (1:Nat) ≤ 1, ByteArray.size (strOfNums [IntKind.wrap IntKind.u8 ((48:Int) + (↑(Int.natAbs (Int.tmod i.fst (10:Int))) : Int))]) + ByteArray.size i.snd ≤ 9223372036854775807] (.need [(10:Int) ≠ 0] (.done [IntKind.wrap IntKind.i64 (Int.tdiv i.fst (10:Int)) = IntKind.wrap IntKind.i64 (Int.tdiv i.fst (10:Int)), strOfNums [IntKind.wrap IntKind.u8 ((48:Int) + (↑(Int.natAbs (Int.tmod i.fst (10:Int))) : Int))] ++ i.snd = strOfNums [IntKind.wrap IntKind.u8 ((48:Int) + (↑(Int.natAbs (Int.tmod i.fst (10:Int))) : Int))] ++ i.snd, ByteArray.mk #[] = ByteArray.mk #[], (ByteArray.size (IntKind.wrap IntKind.i64 (Int.tdiv i.fst (10:Int)), strOfNums [IntKind.wrap IntKind.u8 ((48:Int) + (↑(Int.natAbs (Int.tmod i.fst (10:Int))) : Int))] ++ i.snd).snd + Int.natAbs (IntKind.wrap IntKind.i64 (Int.tdiv i.fst (10:Int))) ≤ Int.natAbs n ∧ (-1000000000000:Int) ≤ IntKind.wrap IntKind.i64 (Int.tdiv i.fst (10:Int)) ∧ IntKind.wrap IntKind.i64 (Int.tdiv i.fst (10:Int)) ≤ 1000000000000) ∧ dcS (IntKind.wrap IntKind.i64 (Int.tdiv i.fst (10:Int))) (strOfNums [IntKind.wrap IntKind.u8 ((48:Int) +
     (↑(Int.natAbs (Int.tmod i.fst (10:Int))) : Int))] ++ i.snd) = Lib.decDigits (Int.natAbs n), Int.natAbs (IntKind.wrap IntKind.i64 (Int.tdiv i.fst (10:Int))) < Int.natAbs i.fst]))) (.need [ByteArray.size (ByteArray.mk #[]) + ByteArray.size i.snd ≤ 9223372036854775807] (.done [ByteArray.mk #[] ++ i.snd = decB n]))))) (by kernel_rfl) ?_
  simp only [VT.holds, AllT, Sq]
  have body : ∀ i : Int × ByteArray, (i.2.size + i.1.natAbs ≤ n.natAbs ∧ -1000000000000 ≤ i.1 ∧ i.1 ≤ 1000000000000) ∧ dcS i.1 i.2 = Lib.decDigits n.natAbs → ¬ i.1 = 0 → FnC prog 51 [dI (i.1.tmod 10)] (dI (i.1.tmod 10).natAbs) ∧ i64In (48 + ((i.1.tmod 10).natAbs : Int)) ∧ (strOfNums [IntKind.u8.wrap (48 + ((i.1.tmod 10).natAbs : Int))]).size + i.2.size ≤ 9223372036854775807 ∧ ((strOfNums [IntKind.u8.wrap (48 + ((i.1.tmod 10).natAbs : Int))] ++ i.2).size + (IntKind.i64.wrap (i.1.tdiv 10)).natAbs ≤ n.natAbs ∧ -1000000000000 ≤ IntKind.i64.wrap (i.1.tdiv 10) ∧ IntKind.i64.wrap (i.1.tdiv 10) ≤ 1000000000000) ∧ dcS (IntKind.i64.wrap (i.1.tdiv 10)) (strOfNums [IntKind.u8.wrap (48 + ((i.1.tmod 10).natAbs : Int))] ++ i.2) = Lib.decDigits n.natAbs ∧ (IntKind.i64.wrap (i.1.tdiv 10)).natAbs < i.1.natAbs := fun i ⟨⟨h1, h2⟩, h3⟩ h0 => by
    obtain ⟨s1, s2, s3⟩ := dcS_step (s := i.2) h0 h2
    have e2 : (i.1.tmod 10).natAbs = i.1.natAbs % 10 := by rw [Int.natAbs_tmod]; rfl
    have hr : i.1.natAbs % 10 < 10 := Nat.mod_lt _ (by decide)
    have z : ∀ y : Int, (strOfNums [y]).size = 1 := fun y => strOfNums_size _
    refine ⟨absB_c _ (by omega), by unfold i64In; omega, by rw [z]; omega, ⟨?_, s3⟩, s1.trans h3, by omega⟩
    rw [ByteArray.size_append, z, s2]
    omega
  have ini : dcS n ⟨#[]⟩ = Lib.decDigits n.natAbs ∨ n = 0 := by
    by_cases h : n = 0
    · exact Or.inr h
    · exact Or.inl (by rw [dcS, if_neg h]; exact List.append_nil _)
  have ini : n ≠ 0 → ((ByteArray.size ⟨#[]⟩ + n.natAbs ≤ n.natAbs ∧ -1000000000000 ≤ n ∧ n ≤ 1000000000000) ∧ dcS n ⟨#[]⟩ = Lib.decDigits n.natAbs) := fun h => by
    rcases ini with h' | h'
    · exact ⟨⟨by rw [show ByteArray.size ⟨#[]⟩ = 0 from rfl]; omega, hn⟩, h'⟩
    · exact absurd h' h
  refine ⟨fun h => by subst h; exact decB_0, fun h0 => ⟨fun h1 => ⟨ini h0, fun i hi => ⟨fun h2 => ?_, fun h2 => ?_⟩⟩, fun h1 => ⟨ini h0, fun i hi => ⟨fun h2 => ?_, fun h2 => ?_⟩⟩⟩⟩
  · obtain ⟨b1, b2, b3, b4, b5, b6⟩ := body i hi h2
    exact ⟨⟨by decide, b1, b2, Nat.le_refl _, b3⟩, by decide, ⟨b4, b5⟩, b6⟩
  · obtain ⟨⟨b1, _⟩, b2⟩ := hi
    rw [h2] at b1 b2
    refine ⟨by rw [show ByteArray.size ⟨#[45]⟩ = 1 from rfl]; omega, decB_of b2 (by rw [if_pos h1])⟩
  · obtain ⟨b1, b2, b3, b4, b5, b6⟩ := body i hi h2
    exact ⟨⟨by decide, b1, b2, Nat.le_refl _, b3⟩, by decide, ⟨b4, b5⟩, b6⟩
  · obtain ⟨⟨b1, _⟩, b2⟩ := hi
    rw [h2] at b1 b2
    refine ⟨by rw [show ByteArray.size ⟨#[]⟩ = 0 from rfl]; omega, decB_of b2 (by rw [if_neg h1])⟩
noncomputable def A17_number_c (s : ByteArray) (d : Int) : Ann := { orc := [(15, [(2, .res fun q => dS (decB (aI q 0)))])], loops := [(0, { ι := Nat, keep := [0, 6], boxes := [], ts := fun _ i => [(8, dI (i : Int)), (7, dI (nac s (nfr s) i))], inv := fun _ i => nfr s ≤ i ∧ i ≤ s.size ∧ ndK s i = true, mu := fun _ i => s.size - i, rd := fun _ σ => (iOf (σ.get 8)).toNat })], cuts := [(4, { ι := Unit, keep := [0, 1], boxes := [], ts := fun _ _ => [(6, dI (nfr s : Int))], inv := fun _ _ => True, mu := fun _ _ => 0, rd := fun _ _ => () })] }
noncomputable abbrev qt (s : ByteArray) : Bool := decide ((↑(ByteArray.size s) : Int) > (0:Int))
noncomputable abbrev qg (s : ByteArray) : Bool := decide ((↑(ByteArray.size s) : Int) - (↑(nfr s) : Int) < (1:Int))
theorem number_c (s : ByteArray) (d : Int) (hs : s.size ≤ 1000000) (hd : 0 ≤ d ∧ d ≤ 9) : FnC prog 17 [dS s, dI d] (.tup [dI (nuV s d), dB (nuB s d)]) := by
  refine FnC_owed hmix (A17_number_c s d) (V := .cut PUnit (fun (a : PUnit) => True) (.need [ri ((qt s) = true), (qt s) = true → (0:Int) ≤ 0 ∧ (0:Int) < (↑(ByteArray.size s) : Int), ri ((qt s) = true), ri ((qt s) = true)] (.ite (if (qt s) = true then bget s (0:Int).toNat == 45 else false) (.done [(1:Int) = (↑(nfr s) : Int), s = s, d = d, True]) (.done [(0:Int) = (↑(nfr s) : Int), s = s, d = d, True]))) fun (i : PUnit) => .need [i64In ((↑(ByteArray.size s) : Int) - (↑(nfr s) : Int)), ri ((!(qg s)) = true), ri ((!(qg s)) = true), ri ((!(qg s)) = true), (!(qg s)) = true → i64In ((↑(ByteArray.size s) : Int) - (↑(nfr s) : Int)), ri ((!(qg s)) = true), ri ((!(qg s)) = true), (qg s) = false → (!(qg s)) = true] (.ite (if (qg s) = true then true else decide ((↑(ByteArray.size s) : Int) - (↑(nfr s) : Int) > d)) (.done [(0:Int) = nuV s d, false = nuB s d]) (.loop Nat (fun a => nfr s ≤ a ∧ a ≤ ByteArray.size s ∧ ndK s a = true) (↑(nfr s) : Int).toNat [(↑(nfr s) : Int) = (↑(↑(nfr s) : Int).toNat : Int), (0:Int) = nac s (nfr s) (↑(nfr s) : Int).toNat, s = s, (↑(nfr s) : Int) = (↑(nfr s) : Int)] fun i => .ite (decide ((i:Int) < (↑(ByteArray.size s) : Int))) (.need [(0:Int) ≤ (i:Int) ∧ (i:Int) < (↑(ByteArray.size s) : Int), ri ((!decide (bget s (i:Int).toNat < 48)) = true), ri ((!decide (bget s (i:Int).toNat < 48)) = true), (!decide (bget s (i:Int).toNat < 48)) = true → (0:Int) ≤ (i:Int) ∧ (i:Int) < (↑(ByteArray.size s) : Int), (!decide (bget s (i:Int).toNat < (48 :
     Int))) = true → (!decide (bget s (i:Int).toNat < 48)) = true, decide (bget s (i:Int).toNat < 48) = false → (!decide (bget s (i:Int).toNat < 48)) = true] (.ite (if decide (bget s (i:Int).toNat < 48) = true then true else decide (bget s (i:Int).toNat > 57)) (.done [(0:Int) = nuV s d, false = nuB s d]) (.need [i64In ((10:Int) * nac s (nfr s) i), (0:Int) ≤ (i:Int) ∧ (i:Int) < (↑(ByteArray.size s) : Int), i64In (IntKind.wrap IntKind.u8 (bget s (i:Int).toNat - 48)), i64In ((10:Int) * nac s (nfr s) i + IntKind.wrap IntKind.u8 (bget s (i:Int).toNat - 48))] (.need [i64In ((i:Int) + 1)] (.done [(i:Int) + 1 = (↑((i:Int) + 1).toNat : Int), (10:Int) * nac s (nfr s) i + IntKind.wrap IntKind.u8 (bget s (i:Int).toNat - 48) = nac s (nfr s) ((i:Int) + 1).toNat, s = s, (↑(nfr s) : Int) = (↑(nfr s) : Int), nfr s ≤ ((i:Int) + 1).toNat ∧ Int.toNat ((i:Int) + 1) ≤ ByteArray.size s ∧ ndK s ((i:Int) + 1).toNat = true, ByteArray.size s - ((i:Int) + 1).toNat < ByteArray.size s - i]))))) (.ite ((↑(nfr s) : Int) == 1) (.need [i64In (-nac s (nfr s) i)] (.need [FnC prog 30 [(dI (-nac s (nfr s) i))] (.val (.string (decB (-nac s (nfr s) i))))] (.done [-nac s (nfr s) i = nuV s d, (ByteArray.toList (decB (-nac s (nfr s) i)) == ByteArray.toList s) = nuB s d]))) (.need [FnC prog 30 [(dI (nac s (nfr s) i))] (.val (.string (decB (nac s (nfr s) i))))] (.done [nac s (nfr s) i = nuV s d, (ByteArray.toList (decB (nac s (nfr s) i)) == ByteArray.toList s) = nuB s d])))))) (by kernel_rfl) ?_
  simp only [qt, qg, VT.holds, AllT, Sq]
  have hf : ((nfr s : Nat) : Int) = 0 ∨ ((nfr s : Nat) : Int) = 1 := by unfold nfr; split <;> simp
  refine ⟨⟨fun h => by omega, fun h => by rw [nfr, if_pos h]; rfl, fun h => by rw [nfr, if_neg (fun h' => h h'.1 h'.2)]; rfl⟩, fun _ _ => ⟨⟨by unfold i64In; omega, fun _ => by unfold i64In; omega⟩, fun h => ?_, fun h => ?_⟩⟩
  · exact nuN (by rw [nln, decide_eq_false (fun h' => h' h)]; rfl)
  · have hl : nln s d = true := decide_eq_true (by omega)
    have hsz : s.size - nfr s ≤ 9 := by omega
    have pw : ∀ i, i ≤ s.size → 10 ^ (i - nfr s) ≤ 10 ^ 9 := fun i hi => Nat.pow_le_pow_right (by decide) (by omega)
    refine ⟨(nac_0 _ _ _ (Nat.le_refl _)).symm, ⟨Nat.le_refl _, by omega, ndK_0 _ _ (Nat.le_refl _)⟩, fun i ⟨h1, h2, h3⟩ => ⟨fun hlt => ?_, fun hge => ?_⟩⟩
    · have bd := nac_bd h1 h3
      have pwi := pw i h2
      refine ⟨⟨by omega, fun _ => by omega⟩, fun h => nuN (by rw [ndK_bad h1 (by omega) h, Bool.and_false]), fun h => ?_⟩
      have w : IntKind.u8.wrap (bget s i - 48) = bget s i - 48 := IntWalk.u8_in _ (by omega)
      rw [w]
      refine ⟨⟨by unfold i64In; omega, by omega, by unfold i64In; omega, by unfold i64In; omega⟩, by unfold i64In; omega, by omega, by rw [nac, if_pos h1], ⟨by omega, by omega, ?_⟩, by omega⟩
      rw [ndK, h3, decide_eq_true (show 48 ≤ bget s i ∧ bget s i ≤ 57 by omega), Bool.or_true]; rfl
    · obtain rfl : i = s.size := by omega
      have bd := nac_bd h1 h3
      have pwi := pw s.size h2
      have hg : ndg s = true := h3
      have hb : (nln s d && ndg s) = true := by rw [hl, hg]; rfl
      refine ⟨fun e => ?_, fun e => ?_⟩
      · have ev : nva s = - nac s (nfr s) s.size := if_pos (by omega)
        exact ⟨by unfold i64In; omega, decimal_c _ (by omega), by rw [nuV, if_pos ⟨hl, hg⟩, ev], by rw [nuB, hb, ev]; rfl⟩
      · have ev : nva s = nac s (nfr s) s.size := if_neg (by omega)
        exact ⟨decimal_c _ (by omega), by rw [nuV, if_pos ⟨hl, hg⟩, ev], by rw [nuB, hb, ev]; rfl⟩
end Go.Abs
