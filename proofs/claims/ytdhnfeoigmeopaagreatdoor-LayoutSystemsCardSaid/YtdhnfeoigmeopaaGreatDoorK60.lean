/- Contracts. -/
import Derived.Test.YtdhnfeoigmeopaaGreatDoorL9
import Derived.Lib.ItoaNum
set_option maxRecDepth 100000
namespace Go.Abs
open Go
abbrev dS (s : ByteArray) : DV := .val (.string s)
abbrev sO (d : DV) : ByteArray := match d with
  | .val (.string s) => s
  | _ => ⟨#[]⟩
def decB (n : Int) : ByteArray := ⟨(Lib.itoa n).toArray⟩
def cuF (s : ByteArray) (c : Int) : Nat → Nat
  | 0 => 0
  | i + 1 => if bget s i = c then i + 1 else cuF s c i
def cuN (s : ByteArray) (c : Int) : Nat → Nat
  | 0 => 0
  | i + 1 => if bget s i = c then cuN s c i + 1 else cuN s c i
def cuS (s : ByteArray) (c : Int) : Nat → Nat → ByteArray
  | 0, _ => ⟨#[]⟩
  | i + 1, q => if bget s i = c ∧ cuN s c i = q then s.extract (cuF s c i) i else cuS s c i q
def cutN (s : ByteArray) (c : Int) : Nat := cuN s c s.size + 1
def cutS (s : ByteArray) (c : Int) (q : Nat) : ByteArray := if q < cuN s c s.size then cuS s c s.size q else s.extract (cuF s c s.size) s.size
theorem cuN_le (s : ByteArray) (c : Int) : ∀ i, cuN s c i ≤ i
  | 0 => Nat.le_refl _
  | i + 1 => by
    have := cuN_le s c i
    rw [cuN]
    split <;> omega
def dcS (m : Int) (s : ByteArray) : List UInt8 := if m = 0 then s.data.toList else Lib.decDigits m.natAbs ++ s.data.toList
theorem dcS_step {m : Int} {s : ByteArray} (hm : m ≠ 0) (hb : -1000000000000 ≤ m ∧ m ≤ 1000000000000) : dcS (IntKind.i64.wrap (m.tdiv 10)) (strOfNums [IntKind.u8.wrap (48 + ((m.tmod 10).natAbs : Int))] ++ s) = dcS m s ∧ (IntKind.i64.wrap (m.tdiv 10)).natAbs = m.natAbs / 10 ∧ (-1000000000000 ≤ IntKind.i64.wrap (m.tdiv 10) ∧ IntKind.i64.wrap (m.tdiv 10) ≤ 1000000000000) := by
  have e1 : (m.tdiv 10).natAbs = m.natAbs / 10 := by rw [Int.natAbs_tdiv]; rfl
  have e2 : (m.tmod 10).natAbs = m.natAbs % 10 := by rw [Int.natAbs_tmod]; rfl
  have hr : m.natAbs % 10 < 10 := Nat.mod_lt _ (by decide)
  have e3 : IntKind.i64.wrap (m.tdiv 10) = m.tdiv 10 := wrap_in (by unfold i64In; omega)
  have e4 : IntKind.u8.wrap (48 + ((m.tmod 10).natAbs : Int)) = ((48 + m.natAbs % 10 : Nat) : Int) := by
    rw [e2, IntWalk.u8_in _ (by omega)]; omega
  have e5 : (strOfNums [IntKind.u8.wrap (48 + ((m.tmod 10).natAbs : Int))] ++ s).data.toList = UInt8.ofNat (48 + m.natAbs % 10) :: s.data.toList := by
    rw [e4, ByteArray.data_append, Array.toList_append, strOfNums_data]
    rfl
  have e6 : Lib.decDigits m.natAbs = if m.natAbs < 10 then [UInt8.ofNat (48 + m.natAbs)] else Lib.decDigits (m.natAbs / 10) ++ [UInt8.ofNat (48 + m.natAbs % 10)] := by
    rw [Lib.decDigits]
    split <;> rfl
  refine ⟨?_, by rw [e3, e1], by omega⟩
  unfold dcS
  rw [e3, e1, e5, if_neg hm, e6]
  by_cases h : m.natAbs < 10
  · rw [if_pos (by omega), if_pos h, Nat.mod_eq_of_lt h]; rfl
  · rw [if_neg (by omega), if_neg h, List.append_assoc]; rfl
theorem decB_of {n : Int} {s t : ByteArray} (h : dcS 0 s = Lib.decDigits n.natAbs) (ht : t = if n < 0 then ⟨#[45]⟩ else ⟨#[]⟩) : t ++ s = decB n := by
  have e : s.data.toList = Lib.decDigits n.natAbs := h
  apply ByteArray.ext
  rw [ByteArray.data_append, ht]
  apply Array.toList_inj.1
  rw [Array.toList_append, e, decB, Lib.itoa]
  split
  · rfl
  · rw [show n.natAbs = n.toNat by omega]; rfl
theorem decB_0 : (⟨#[48]⟩ : ByteArray) = decB 0 := by
  apply ByteArray.ext
  show #[48] = (Lib.itoa 0).toArray
  rw [Lib.itoa, if_neg (by decide), Lib.decDigits]
  rfl
theorem cu_yes {s : ByteArray} {c : Int} {i : Nat} (h : bget s i = c) : cuF s c (i + 1) = i + 1 ∧ cuN s c (i + 1) = cuN s c i + 1 ∧ ∀ q, q < cuN s c (i + 1) → (if q < cuN s c i then cuS s c i q else s.extract (cuF s c i) i) = cuS s c (i + 1) q := by
  have e : cuN s c (i + 1) = cuN s c i + 1 := by rw [cuN, if_pos h]
  refine ⟨by rw [cuF, if_pos h], e, fun q hq => ?_⟩
  rw [cuS]
  by_cases h1 : q < cuN s c i
  · rw [if_pos h1, if_neg (by omega)]
  · rw [if_neg h1, if_pos ⟨h, by omega⟩]
theorem cu_no {s : ByteArray} {c : Int} {i : Nat} (h : ¬ bget s i = c) : cuF s c (i + 1) = cuF s c i ∧ cuN s c (i + 1) = cuN s c i ∧ ∀ q, cuS s c i q = cuS s c (i + 1) q :=
  ⟨by rw [cuF, if_neg h], by rw [cuN, if_neg h], fun q => by rw [cuS, if_neg (fun h' => h h'.1)]⟩
def nfr (s : ByteArray) : Nat := if (s.size : Int) > 0 ∧ bget s 0 = 45 then 1 else 0
def nac (s : ByteArray) (f : Nat) : Nat → Int
  | 0 => 0
  | i + 1 => if f ≤ i then 10 * nac s f i + (bget s i - 48) else 0
def nln (s : ByteArray) (d : Int) : Bool := decide (¬ ((s.size : Int) - nfr s < 1 ∨ (s.size : Int) - nfr s > d))
def ndK (s : ByteArray) : Nat → Bool
  | 0 => true
  | i + 1 => ndK s i && (decide (i < nfr s) || decide (48 ≤ bget s i ∧ bget s i ≤ 57))
def ndg (s : ByteArray) : Bool := ndK s s.size
def nva (s : ByteArray) : Int := if nfr s = 1 then - nac s (nfr s) s.size else nac s (nfr s) s.size
def nuV (s : ByteArray) (d : Int) : Int := if nln s d = true ∧ ndg s = true then nva s else 0
def nuB (s : ByteArray) (d : Int) : Bool := (nln s d && ndg s) && ((decB (nva s)).toList == s.toList)
theorem nac_0 (s : ByteArray) (f : Nat) : ∀ i, i ≤ f → nac s f i = 0
  | 0, _ => rfl
  | i + 1, h => by rw [nac, if_neg (by omega)]
noncomputable def A42_absB_c (x : Int) : Ann := { orc := [], loops := [], cuts := [] }
theorem absB_c (x : Int) (h : -9223372036854775807 ≤ x ∧ x ≤ 9223372036854775807) : FnC prog 42 [dI x] (dI (x.natAbs : Int)) := by
  refine FnC_owed hmix (A42_absB_c x) (V := .ite (decide (x < 0)) (.need [i64In (-x)] (.done [-x = (↑(Int.natAbs x) : Int)])) (.done [x = (↑(Int.natAbs x) : Int)])) (by kernel_rfl) ?_
  simp only [VT.holds, AllT, Sq]
  exact ⟨fun h1 => ⟨by unfold i64In; omega, by omega⟩, fun h1 => by omega⟩
noncomputable def A43_decimal_c (n : Int) : Ann := { orc := [(7, [(1, .no), (2, .res fun q => dI ((aI q 0).natAbs : Int))])], loops := [(0, { ι := Int × ByteArray, keep := [4], boxes := [], ts := fun _ i => [(0, dI i.1), (3, dS i.2)], inv := fun _ i => (i.2.size + i.1.natAbs ≤ n.natAbs ∧ -1000000000000 ≤ i.1 ∧ i.1 ≤ 1000000000000) ∧ dcS i.1 i.2 = Lib.decDigits n.natAbs, mu := fun _ i => i.1.natAbs, rd := fun _ σ => (iOf (σ.get 0), sO (σ.get 3)) })], cuts := [] }
theorem decimal_c (n : Int) (hn : -1000000000000 ≤ n ∧ n ≤ 1000000000000) : FnC prog 43 [dI n] (dS (decB n)) := by
  refine FnC_owed hmix (A43_decimal_c n) (V := .ite (n == 0) (.done [ByteArray.mk #[(48 : UInt8)] = decB n]) (.ite (decide (n < 0)) (.loop (Int × ByteArray) (fun (a : Int × ByteArray) => (ByteArray.size a.snd + Int.natAbs a.fst ≤ Int.natAbs n ∧ (-1000000000000:Int) ≤ a.fst ∧ a.fst ≤ 1000000000000) ∧ dcS a.fst a.snd = Lib.decDigits (Int.natAbs n)) (n, ByteArray.mk #[]) [n = n, ByteArray.mk #[] = ByteArray.mk #[], ByteArray.mk #[(45 : UInt8)] = ByteArray.mk #[(45 : UInt8)]] fun (i : Int × ByteArray) => .ite (i.fst != 0) (.need [(10:Int) ≠ 0, FnC prog 42 [(dI (Int.tmod i.fst (10:Int)))] ((dI (↑(Int.natAbs (Int.tmod i.fst (10:Int))) : Int))), i64In ((48:Int) + (↑(Int.natAbs (Int.tmod i.fst (10:Int))) : Int)), (1:Nat) ≤ 1, ByteArray.size (strOfNums [IntKind.wrap IntKind.u8 ((48:Int) + (↑(Int.natAbs (Int.tmod i.fst (10:Int))) : Int))]) + ByteArray.size i.snd ≤ 9223372036854775807] (.need [(10:Int) ≠ 0] (.done [IntKind.wrap IntKind.i64 (Int.tdiv i.fst (10:Int)) = IntKind.wrap IntKind.i64 (Int.tdiv i.fst (10:Int)), strOfNums [IntKind.wrap IntKind.u8 ((48:Int) + (↑(Int.natAbs (Int.tmod i.fst (10:Int))) : Int))] ++ i.snd = strOfNums [IntKind.wrap IntKind.u8 ((48:Int) + (↑(Int.natAbs (Int.tmod i.fst (10:Int))) : Int))] ++ i.snd, ByteArray.mk #[(45 : UInt8)] = ByteArray.mk #[(45 : UInt8)], (ByteArray.size (IntKind.wrap IntKind.i64 (Int.tdiv i.fst (10:Int)), strOfNums [IntKind.wrap IntKind.u8 ((48:Int) + (↑(Int.natAbs (Int.tmod i.fst (10:Int))) : Int))] ++ i.snd).snd + Int.natAbs (IntKind.wrap IntKind.i64 (Int.tdiv i.fst (10:Int))) ≤ Int.natAbs n ∧ (-1000000000000:Int) ≤ IntKind.wrap IntKind.i64 (Int.tdiv i.fst (10:Int)) ∧ IntKind.wrap IntKind.i64 (Int.tdiv i.fst (10:Int)) ≤ 1000000000000) ∧ dcS (IntKind.wrap IntKind.i64 (Int.tdiv i.fst (10:Int))) (strOfNums [IntKind.wrap IntKind.u8 ((48:Int) + (↑(Int.natAbs (Int.tmod i.fst (10:Int))) : Int))] ++ i.snd) = Lib.decDigits (Int.natAbs n), Int.natAbs
     (IntKind.wrap IntKind.i64 (Int.tdiv i.fst (10:Int))) < Int.natAbs i.fst]))) (.need [ByteArray.size (ByteArray.mk #[(45 : UInt8)]) + ByteArray.size i.snd ≤ 9223372036854775807] (.done [ByteArray.mk #[(45 : UInt8)] ++ i.snd = decB n]))) (.loop (Int × ByteArray) (fun (a : Int × ByteArray) => (ByteArray.size a.snd + Int.natAbs a.fst ≤ Int.natAbs n ∧ (-1000000000000:Int) ≤ a.fst ∧ a.fst ≤ 1000000000000) ∧ dcS a.fst a.snd = Lib.decDigits (Int.natAbs n)) (n, ByteArray.mk #[]) [n = n, ByteArray.mk #[] = ByteArray.mk #[], ByteArray.mk #[] = ByteArray.mk #[]] fun (i : Int × ByteArray) => .ite (i.fst != 0) (.need [(10:Int) ≠ 0, FnC prog 42 [(dI (Int.tmod i.fst (10:Int)))] ((dI (↑(Int.natAbs (Int.tmod i.fst (10:Int))) : Int))), i64In ((48:Int) + (↑(Int.natAbs (Int.tmod i.fst (10:Int))) : Int)), (1:Nat) ≤ 1, ByteArray.size (strOfNums [IntKind.wrap IntKind.u8 ((48:Int) + (↑(Int.natAbs (Int.tmod i.fst (10:Int))) : Int))]) + ByteArray.size i.snd ≤ 9223372036854775807] (.need [(10:Int) ≠ 0] (.done [IntKind.wrap IntKind.i64 (Int.tdiv i.fst (10:Int)) = IntKind.wrap IntKind.i64 (Int.tdiv i.fst (10:Int)), strOfNums [IntKind.wrap IntKind.u8 ((48:Int) + (↑(Int.natAbs (Int.tmod i.fst (10:Int))) : Int))] ++ i.snd = strOfNums [IntKind.wrap IntKind.u8 ((48:Int) + (↑(Int.natAbs (Int.tmod i.fst (10:Int))) : Int))] ++ i.snd, ByteArray.mk #[] = ByteArray.mk #[], (ByteArray.size (IntKind.wrap IntKind.i64 (Int.tdiv i.fst (10:Int)), strOfNums [IntKind.wrap IntKind.u8 ((48:Int) + (↑(Int.natAbs (Int.tmod i.fst (10:Int))) : Int))] ++ i.snd).snd + Int.natAbs (IntKind.wrap IntKind.i64 (Int.tdiv i.fst (10:Int))) ≤ Int.natAbs n ∧ (-1000000000000:Int) ≤ IntKind.wrap IntKind.i64 (Int.tdiv i.fst (10:Int)) ∧ IntKind.wrap IntKind.i64 (Int.tdiv i.fst (10:Int)) ≤ 1000000000000) ∧ dcS (IntKind.wrap IntKind.i64 (Int.tdiv i.fst (10:Int))) (strOfNums [IntKind.wrap IntKind.u8 ((48:Int) +
     (↑(Int.natAbs (Int.tmod i.fst (10:Int))) : Int))] ++ i.snd) = Lib.decDigits (Int.natAbs n), Int.natAbs (IntKind.wrap IntKind.i64 (Int.tdiv i.fst (10:Int))) < Int.natAbs i.fst]))) (.need [ByteArray.size (ByteArray.mk #[]) + ByteArray.size i.snd ≤ 9223372036854775807] (.done [ByteArray.mk #[] ++ i.snd = decB n]))))) (by kernel_rfl) ?_
  simp only [VT.holds, AllT, Sq]
  have body : ∀ i : Int × ByteArray, (i.2.size + i.1.natAbs ≤ n.natAbs ∧ -1000000000000 ≤ i.1 ∧ i.1 ≤ 1000000000000) ∧ dcS i.1 i.2 = Lib.decDigits n.natAbs → ¬ i.1 = 0 → FnC prog 42 [dI (i.1.tmod 10)] (dI (i.1.tmod 10).natAbs) ∧ i64In (48 + ((i.1.tmod 10).natAbs : Int)) ∧ (strOfNums [IntKind.u8.wrap (48 + ((i.1.tmod 10).natAbs : Int))]).size + i.2.size ≤ 9223372036854775807 ∧ ((strOfNums [IntKind.u8.wrap (48 + ((i.1.tmod 10).natAbs : Int))] ++ i.2).size + (IntKind.i64.wrap (i.1.tdiv 10)).natAbs ≤ n.natAbs ∧ -1000000000000 ≤ IntKind.i64.wrap (i.1.tdiv 10) ∧ IntKind.i64.wrap (i.1.tdiv 10) ≤ 1000000000000) ∧ dcS (IntKind.i64.wrap (i.1.tdiv 10)) (strOfNums [IntKind.u8.wrap (48 + ((i.1.tmod 10).natAbs : Int))] ++ i.2) = Lib.decDigits n.natAbs ∧ (IntKind.i64.wrap (i.1.tdiv 10)).natAbs < i.1.natAbs := fun i ⟨⟨h1, h2⟩, h3⟩ h0 => by
    obtain ⟨s1, s2, s3⟩ := dcS_step (s := i.2) h0 h2
    have e2 : (i.1.tmod 10).natAbs = i.1.natAbs % 10 := by rw [Int.natAbs_tmod]; rfl
    have hr : i.1.natAbs % 10 < 10 := Nat.mod_lt _ (by decide)
    have z : ∀ y : Int, (strOfNums [y]).size = 1 := fun y => strOfNums_size _
    refine ⟨absB_c _ (by omega), by unfold i64In; omega, by rw [z]; omega, ⟨?_, s3⟩, s1.trans h3, by omega⟩
    rw [ByteArray.size_append, z, s2]
    omega
  have ini : dcS n ⟨#[]⟩ = Lib.decDigits n.natAbs ∨ n = 0 := by
    by_cases h : n = 0
    · exact Or.inr h
    · exact Or.inl (by rw [dcS, if_neg h]; exact List.append_nil _)
  have ini : n ≠ 0 → ((ByteArray.size ⟨#[]⟩ + n.natAbs ≤ n.natAbs ∧ -1000000000000 ≤ n ∧ n ≤ 1000000000000) ∧ dcS n ⟨#[]⟩ = Lib.decDigits n.natAbs) := fun h => by
    rcases ini with h' | h'
    · exact ⟨⟨by rw [show ByteArray.size ⟨#[]⟩ = 0 from rfl]; omega, hn⟩, h'⟩
    · exact absurd h' h
  refine ⟨fun h => by subst h; exact decB_0, fun h0 => ⟨fun h1 => ⟨ini h0, fun i hi => ⟨fun h2 => ?_, fun h2 => ?_⟩⟩, fun h1 => ⟨ini h0, fun i hi => ⟨fun h2 => ?_, fun h2 => ?_⟩⟩⟩⟩
  · obtain ⟨b1, b2, b3, b4, b5, b6⟩ := body i hi h2
    exact ⟨⟨by decide, b1, b2, Nat.le_refl _, b3⟩, by decide, ⟨b4, b5⟩, b6⟩
  · obtain ⟨⟨b1, _⟩, b2⟩ := hi
    rw [h2] at b1 b2
    refine ⟨by rw [show ByteArray.size ⟨#[45]⟩ = 1 from rfl]; omega, decB_of b2 (by rw [if_pos h1])⟩
  · obtain ⟨b1, b2, b3, b4, b5, b6⟩ := body i hi h2
    exact ⟨⟨by decide, b1, b2, Nat.le_refl _, b3⟩, by decide, ⟨b4, b5⟩, b6⟩
  · obtain ⟨⟨b1, _⟩, b2⟩ := hi
    rw [h2] at b1 b2
    refine ⟨by rw [show ByteArray.size ⟨#[]⟩ = 0 from rfl]; omega, decB_of b2 (by rw [if_neg h1])⟩
end Go.Abs
