/- Contracts. -/
import Derived.Test.YtbemjdppfiabgaaK11
set_option linter.unusedVariables false
set_option linter.unusedSimpArgs false
set_option maxRecDepth 100000
namespace Go.Abs
open Go
abbrev dS (s : ByteArray) : DV := .val (.string s)
/-- A catalogue. -/
structure Cat where
  n : Nat
  nm : Nat → ByteArray
  K : Nat → Int
  Q : Nat → Int
  M : Nat → Int
  T : Nat → Int
  E0 : Nat → Int
  E1 : Nat → Int
  m : Nat
  P0 : Nat → Int
  P1 : Nat → Int
abbrev prtsD (c : Cat) : DV := .lst c.n [fun i => dS (c.nm i), fun i => dI (c.K i), fun i => dI (c.Q i), fun i => dI (c.M i), fun i => dI (c.T i), fun i => dI (c.E0 i), fun i => dI (c.E1 i)]
abbrev prsD (c : Cat) : DV := .lst c.m [fun i => dI (c.P0 i), fun i => dI (c.P1 i)]
abbrev catD (c : Cat) : DV := .agg [prtsD c, prsD c]
abbrev ptD (s : ByteArray) (k q m t e0 e1 : Int) : DV := .val (.agg #[.string s, .int .i64 k, .int .i64 q, .int .i64 m, .int .i64 t, .int .i64 e0, .int .i64 e1])
def inN (n most : Int) : Bool := decide (0 ≤ n) && decide (n ≤ most)
/-- The letter j is no letter of a name. -/
def nmX (s : ByteArray) (j : Nat) : Bool := decide ((¬(bget s j ≥ 97 ∧ bget s j ≤ 122) ∧ (bget s j ≥ 65 → ¬bget s j ≤ 90)) ∧ ((j : Int) = 0 ∨ ¬bget s j = 45 ∧ (bget s j < 48 ∨ bget s j > 57)))
def isNm (s : ByteArray) : Bool := !(decide ((s.size : Int) < 1) || (decide ((s.size : Int) > 12) || anyN (nmX s) s.size))
def pkF (k : Int) : Bool := decide (k = 8) || decide (k = 9)
def ptC (k q m t e0 e1 : Int) : Int := if (inN k 9 && (inN q 20000000000000 && (inN m 1000000 && (inN t 1000000 && (inN e0 20 && inN e1 20))))) = false then 2 else if decide (q = 0) ≠ pkF k then 3 else 0
def nmH (c : Cat) (i : Nat) (l : List Int) : Bool := anyN (fun j => decide (bInts (c.nm j) = l)) i
def ptE (c : Cat) (i : Nat) : Int := if isNm (c.nm i) = false then 4 else if nmH c i (bInts (c.nm i)) = true then 5 else ptC (c.K i) (c.Q i) (c.M i) (c.T i) (c.E0 i) (c.E1 i)
def prE (c : Cat) (i : Nat) : Int := if (inN (c.P0 i) 20 && inN (c.P1 i) 20) = false then 2 else 0
def ctE (c : Cat) : Int := if c.n > 60 then 8 else if firstE (ptE c) c.n ≠ 0 then firstE (ptE c) c.n else if c.m > 200 then 8 else firstE (prE c) c.m
abbrev sA (q : List DV) (j : Nat) : ByteArray := match arg q j with
  | .val (.string s) => s
  | _ => ⟨#[]⟩
abbrev rIn : Orc := .res fun q => dB (inN (aI q 0) (aI q 1))
abbrev rW3 : Orc := .res fun q => dB (inN (aI q 0) (aI q 2))
theorem within3_in (n most : Int) : FnC prog 24 [dI n, dI 0, dI most] (dB (inN n most)) := by
  unfold inN
  rw [← Bool.decide_and]
  exact within3_c n 0 most
abbrev rEnd : Orc := .res fun q => dB (inN (aI q 0) 20)
theorem ct_large {c : Cat} (h : c.n > 60) : ctE c = 8 := by rw [ctE, if_pos h]
theorem ct_part {c : Cat} (hn : c.n ≤ 60) {i : Nat} (hi : i < c.n) (hb : ∀ j, j < i → ptE c j = 0) {e : Int} (he : ptE c i = e) (h0 : e ≠ 0) : ctE c = e := by
  have h1 : firstE (ptE c) c.n = e := by rw [firstE_at hb (by rw [he]; exact h0) hi, he]
  rw [ctE, if_neg (by omega), if_pos (by rw [h1]; exact h0), h1]
theorem ct_pairs {c : Cat} (hn : c.n ≤ 60) (hb : ∀ j, j < c.n → ptE c j = 0) : ctE c = if c.m > 200 then 8 else firstE (prE c) c.m := by
  rw [ctE, if_neg (by omega), if_neg (by rw [firstE_none hb]; decide)]
theorem ct_many {c : Cat} (hn : c.n ≤ 60) (hb : ∀ j, j < c.n → ptE c j = 0) (h : c.m > 200) : ctE c = 8 := by rw [ct_pairs hn hb, if_pos h]
theorem ct_pair {c : Cat} (hn : c.n ≤ 60) (hb : ∀ j, j < c.n → ptE c j = 0) (hm : c.m ≤ 200) {i : Nat} (hi : i < c.m) (hb2 : ∀ j, j < i → prE c j = 0) {e : Int} (he : prE c i = e) (h0 : e ≠ 0) : ctE c = e := by
  rw [ct_pairs hn hb, if_neg (by omega), firstE_at hb2 (by rw [he]; exact h0) hi, he]
theorem ct_ok {c : Cat} (hn : c.n ≤ 60) (hb : ∀ j, j < c.n → ptE c j = 0) (hm : c.m ≤ 200) (hb2 : ∀ j, j < c.m → prE c j = 0) : ctE c = 0 := by
  rw [ct_pairs hn hb, if_neg (by omega), firstE_none hb2]
theorem pt_bad {k q m t e0 e1 : Int} (h : (inN k 9 && (inN q 20000000000000 && (inN m 1000000 && (inN t 1000000 && (inN e0 20 && inN e1 20))))) = false) : ptC k q m t e0 e1 = 2 := by rw [ptC, if_pos h]
theorem pt_form {k q m t e0 e1 : Int} (h : ¬ (inN k 9 && (inN q 20000000000000 && (inN m 1000000 && (inN t 1000000 && (inN e0 20 && inN e1 20))))) = false) (h2 : (!((q == 0) == pkF k)) = true) : ptC k q m t e0 e1 = 3 := by
  rw [ptC, if_neg h, if_pos]
  by_cases hq : q = 0 <;> cases e : pkF k <;> simp_all
theorem pt_ok {k q m t e0 e1 : Int} (h : ¬ (inN k 9 && (inN q 20000000000000 && (inN m 1000000 && (inN t 1000000 && (inN e0 20 && inN e1 20))))) = false) (h2 : (!((q == 0) == pkF k)) = false) : ptC k q m t e0 e1 = 0 := by
  rw [ptC, if_neg h, if_neg]
  by_cases hq : q = 0 <;> cases e : pkF k <;> simp_all
theorem pe_name {c : Cat} {i : Nat} (h : isNm (c.nm i) = false) : ptE c i = 4 := by rw [ptE, if_pos h]
theorem pe_has {c : Cat} {i : Nat} (h : isNm (c.nm i) = true) (h2 : nmH c i (bInts (c.nm i)) = true) : ptE c i = 5 := by rw [ptE, if_neg (by rw [h]; decide), if_pos h2]
theorem pe_pt {c : Cat} {i : Nat} (h : isNm (c.nm i) = true) (h2 : nmH c i (bInts (c.nm i)) = false) : ptE c i = ptC (c.K i) (c.Q i) (c.M i) (c.T i) (c.E0 i) (c.E1 i) := by rw [ptE, if_neg (by rw [h]; decide), if_neg (by rw [h2]; decide)]
theorem str_eq {x y : ByteArray} (h : x.toList = y.toList) : x = y := by
  rw [ByteArray.toList_eq, ByteArray.toList_eq] at h
  exact bInts_inj (by unfold bInts; rw [h])
theorem nmH_put (c : Cat) (i : Nat) (l : List Int) : putHas (bInts (c.nm i)) (nmH c i) l = nmH c (i + 1) l := by
  unfold putHas nmH
  rw [anyN]
  congr 1
  exact decide_eq_decide.2 eq_comm
theorem nmH_no {c : Cat} {i : Nat} (h : ∀ j, j < i → c.nm j ≠ c.nm i) : nmH c i (bInts (c.nm i)) = false := anyN_none fun j hj => decide_eq_false fun e => h j hj (bInts_inj e)
theorem nmH_at {c : Cat} {i j : Nat} (hj : j < i) (h : c.nm j = c.nm i) : nmH c i (bInts (c.nm i)) = true := anyN_iff.2 ⟨j, hj, decide_eq_true (by rw [h])⟩
noncomputable def A104_isName_c (s : ByteArray) : Ann := { orc := [], loops := [(0, { ι := Nat, keep := [0, 14], boxes := [], ts := fun _ i => [(15, dI (i : Int))], inv := fun _ i => i ≤ s.size ∧ ∀ j, j < i → nmX s j = false, mu := fun _ i => s.size - i, rd := fun _ σ => (iOf (σ.get 15)).toNat })], cuts := [] }
noncomputable abbrev q_isName_c_0 (s : ByteArray) : Bool := decide ((↑(ByteArray.size s) : Int) < (1:Int))
noncomputable abbrev q_isName_c_1 (s : ByteArray) (i : Nat) : Bool := decide (bget s (Int.toNat (i:Int)) ≥ (97:Int))
noncomputable abbrev q_isName_c_2 (s : ByteArray) (i : Nat) : Bool := decide (bget s (Int.toNat (i:Int)) ≥ (65:Int))
noncomputable abbrev q_isName_c_3 (s : ByteArray) (i : Nat) : Bool := decide (bget s (Int.toNat (i:Int)) ≤ (90:Int))
noncomputable abbrev q_isName_c_4 (s : ByteArray) (i : Nat) : Bool := decide (bget s (Int.toNat (i:Int)) < (48:Int))
noncomputable abbrev q_isName_c_5 (s : ByteArray) (i : Nat) : Bool := decide (bget s (Int.toNat (i:Int)) ≤ (122:Int))
noncomputable abbrev q_isName_c_6 (s : ByteArray) (i : Nat) : Bool := if (q_isName_c_1 s i) = true then (q_isName_c_5 s i) else false
noncomputable abbrev q_isName_c_7 (s : ByteArray) (i : Nat) : Bool := !if (q_isName_c_1 s i) = true then (q_isName_c_5 s i) else false
noncomputable abbrev q_isName_c_8 (s : ByteArray) (i : Nat) : Bool := !if (q_isName_c_6 s i) = true then true else if (q_isName_c_2 s i) = true then (q_isName_c_3 s i) else false
theorem isName_c (s : ByteArray)  : FnC prog 104 [dS s] (dB (isNm s)) := by
  refine FnC_owed hmix (A104_isName_c s) (V := .need [ri ((!(q_isName_c_0 s)) = true), ri ((!(q_isName_c_0 s)) = true), (q_isName_c_0 s) = false → (!(q_isName_c_0 s)) = true] (.ite (if (q_isName_c_0 s) = true then true else decide ((↑(ByteArray.size s) : Int) > 12)) (.done [false = isNm s]) (.loop Nat (fun a => a ≤ ByteArray.size s ∧ ∀ (j : Nat), j < a → nmX s j = false) (0:Int).toNat [(0:Int) = (↑(0:Int).toNat : Int), s = s, (↑(ByteArray.size s) : Int) = (↑(ByteArray.size s) : Int)] fun i => .ite (decide ((i:Int) < (↑(ByteArray.size s) : Int))) (.need [(0:Int) ≤ (i:Int) ∧ (i:Int) < (↑(ByteArray.size s) : Int), ri ((q_isName_c_1 s i) = true), ri ((q_isName_c_1 s i) = true), (q_isName_c_1 s i) = true → (0:Int) ≤ (i:Int) ∧ (i:Int) < (↑(ByteArray.size s) : Int), ri ((q_isName_c_1 s i) = true), ri ((q_isName_c_1 s i) = true), ri ((q_isName_c_7 s i) = true), ri ((q_isName_c_7 s i) = true), (q_isName_c_7 s i) = true → (0:Int) ≤ (i:Int) ∧ (i:Int) < (↑(ByteArray.size s) : Int), ri ((q_isName_c_7 s i) = true), ri ((q_isName_c_7 s i) = true), ri (((q_isName_c_7 s i) && (q_isName_c_2 s i)) = true), ri (((q_isName_c_7 s i) && (q_isName_c_2 s i)) = true), ((q_isName_c_7 s i) && (q_isName_c_2 s i)) = true → (0:Int) ≤ (i:Int) ∧ (i:Int) < (↑(ByteArray.size s) : Int), ri (((q_isName_c_7 s i) && (q_isName_c_2 s i)) = true), ri ((q_isName_c_7 s i) = true), (q_isName_c_7 s i) = true → (q_isName_c_2 s i) = true → ((q_isName_c_7 s i) && (q_isName_c_2 s i)) = true, (q_isName_c_6 s i) = false → (q_isName_c_7 s i) = true] (.need [ri ((q_isName_c_8 s i) = true), ri ((q_isName_c_8 s i) = true), ri (((q_isName_c_8 s i) && !(i:Int) == 0) = true), ri (((q_isName_c_8 s i) && !(i:Int) == 0) = true), ((q_isName_c_8 s i) && !(i:Int) == 0) = true → (0:Int) ≤ (i:Int) ∧ (i:Int) < (↑(ByteArray.size s) : Int), ri (((q_isName_c_8 s i) && !(i:Int) == 0) = true), ri (((q_isName_c_8 s i) && !(i:Int) == 0) = true), ri (((q_isName_c_8 s i) && !(i:Int) == 0 && bget s (i:Int).toNat != 45) = true), ri (((q_isName_c_8 s i) && !(i:Int) == 0 && bget s (i:Int).toNat != 45) = true), ((q_isName_c_8 s i) && !(i:Int) == 0 && bget s (i:Int).toNat != 45) = true → (0:Int) ≤ (i:Int) ∧ (i:Int) < (↑(ByteArray.size s) : Int), ri (((q_isName_c_8 s i) && !(i:Int) == 0 && bget s (i:Int).toNat != 45) = true), ri (((q_isName_c_8 s i) && !(i:Int) == 0 && bget s (i:Int).toNat != 45) = true), ri (((q_isName_c_8 s i) && !(i:Int) == 0 && bget s (i:Int).toNat != 45 && !(q_isName_c_4 s i)) = true), ri (((q_isName_c_8 s i) && !(i:Int) == 0 && bget s (i:Int).toNat != 45 && !(q_isName_c_4 s i)) = true), ((q_isName_c_8 s i) && !(i:Int) == 0 && bget s (i:Int).toNat != 45 && !(q_isName_c_4 s i)) = true → (0:Int) ≤ (i:Int) ∧ (i:Int) < (↑(ByteArray.size s) : Int), ri (((q_isName_c_8 s i) && !(i:Int) == 0 && bget s (i:Int).toNat != 45 && !(q_isName_c_4 s i)) = true), ri (((q_isName_c_8 s i) && !(i:Int) == 0 && bget s (i:Int).toNat != 45) = true), ((q_isName_c_8 s i) && !(i:Int) == 0 && bget s (i:Int).toNat != 45) = true → (q_isName_c_4 s i) = false → ((q_isName_c_8 s i) && !(i:Int) == 0 && bget s (i:Int).toNat != 45 && !(q_isName_c_4 s i)) = true, ri (((q_isName_c_8 s i) && !(i:Int) == 0) = true), ((q_isName_c_8 s i) && !(i:Int) == 0) = true → (bget s (i:Int).toNat != 45) = true → ((q_isName_c_8 s i) && !(i:Int) == 0 && bget s (i:Int).toNat != 45) = true, ri ((q_isName_c_8 s i) = true), (q_isName_c_8 s i) = true → ((i:Int) == 0) = false → ((q_isName_c_8 s i) && !(i:Int) == 0) = true, ri ((q_isName_c_8 s i) = true)] (.ite (if (q_isName_c_8 s i) = true then if ((i:Int) == 0) = true then true else if (bget s (i:Int).toNat != 45) = true then if (q_isName_c_4 s i) = true then true else decide (bget s (i:Int).toNat > 57) else false else false) (.done [false = isNm s]) (.need [i64In ((i:Int) + 1)] (.done [(i:Int)
     + 1 = (↑((i:Int) + 1).toNat : Int), s = s, (↑(ByteArray.size s) : Int) = (↑(ByteArray.size s) : Int), Int.toNat ((i:Int) + 1) ≤ ByteArray.size s ∧ ∀ (j : Nat), j < ((i:Int) + 1).toNat → nmX s j = false, ByteArray.size s - ((i:Int) + 1).toNat < ByteArray.size s - i]))))) (.done [true = isNm s])))) (by kernel_rfl) ?_
  simp only [q_isName_c_0, q_isName_c_1, q_isName_c_2, q_isName_c_3, q_isName_c_4, q_isName_c_5, q_isName_c_6, q_isName_c_7, q_isName_c_8, VT.holds, AllT, Sq]
  refine ⟨fun h => ?_, fun h => ⟨rfl, ⟨Nat.zero_le _, fun j hj => absurd hj (Nat.not_lt_zero j)⟩, fun i ⟨hi, hb⟩ => ⟨fun hlt => ?_, fun hge => ?_⟩⟩⟩
  · unfold isNm
    rcases h with h | h
    · rw [decide_eq_true h]; rfl
    · rw [decide_eq_true h, Bool.true_or, Bool.or_true]; rfl
  · have hb' : (i : Int) < s.size := hlt
    have hb2 : 0 ≤ (i : Int) ∧ (i : Int) < s.size := by omega
    refine ⟨⟨hb2, fun _ => hb2, fun _ => hb2, fun _ => hb2, fun h1 h2 => ⟨h1, h2⟩⟩, ⟨fun _ => hb2, fun _ => hb2, fun _ => hb2, fun h1 h2 => ⟨h1, h2⟩, fun h1 h2 => ⟨h1, h2⟩, fun h1 h2 => ⟨h1, h2⟩⟩, fun h' => ?_, fun h' => ⟨by unfold i64In; omega, by omega, ⟨by omega, fun j hj => ?_⟩, by omega⟩⟩
    · have : anyN (nmX s) s.size = true := anyN_iff.2 ⟨i, by omega, decide_eq_true h'⟩
      unfold isNm
      rw [this, Bool.or_true, Bool.or_true]; rfl
    · rcases Nat.lt_or_ge j i with h9 | h9
      · exact hb j h9
      · obtain rfl : j = i := by omega
        refine decide_eq_false fun ⟨h1, h2⟩ => ?_
        have h3 := h' h1
        omega
  · obtain rfl : i = s.size := by omega
    unfold isNm
    rw [anyN_none hb, decide_eq_false h.1, decide_eq_false h.2]; rfl
noncomputable def A101_isNameR_c (s : ByteArray) : Ann := { orc := [], loops := [(0, { ι := Nat, keep := [0], boxes := [], ts := fun _ i => [(3, dI (i : Int))], inv := fun _ i => i ≤ s.size ∧ ∀ j, j < i → nmX s j = false, mu := fun _ i => s.size - i, rd := fun _ σ => (iOf (σ.get 3)).toNat })], cuts := [] }
noncomputable abbrev q_isNameR_c_0 (s : ByteArray) : Bool := decide ((↑(ByteArray.size s) : Int) < (1:Int))
noncomputable abbrev q_isNameR_c_1 (s : ByteArray) (i : Nat) : Bool := decide (bget s (Int.toNat (i:Int)) ≥ (97:Int))
noncomputable abbrev q_isNameR_c_2 (s : ByteArray) (i : Nat) : Bool := decide (bget s (Int.toNat (i:Int)) ≥ (65:Int))
noncomputable abbrev q_isNameR_c_3 (s : ByteArray) (i : Nat) : Bool := decide (bget s (Int.toNat (i:Int)) ≤ (90:Int))
noncomputable abbrev q_isNameR_c_4 (s : ByteArray) (i : Nat) : Bool := decide (bget s (Int.toNat (i:Int)) < (48:Int))
noncomputable abbrev q_isNameR_c_5 (s : ByteArray) (i : Nat) : Bool := decide (bget s (Int.toNat (i:Int)) ≤ (122:Int))
noncomputable abbrev q_isNameR_c_6 (s : ByteArray) (i : Nat) : Bool := if (q_isNameR_c_1 s i) = true then (q_isNameR_c_5 s i) else false
noncomputable abbrev q_isNameR_c_7 (s : ByteArray) (i : Nat) : Bool := !if (q_isNameR_c_1 s i) = true then (q_isNameR_c_5 s i) else false
noncomputable abbrev q_isNameR_c_8 (s : ByteArray) (i : Nat) : Bool := !if (q_isNameR_c_6 s i) = true then true else if (q_isNameR_c_2 s i) = true then (q_isNameR_c_3 s i) else false
theorem isNameR_c (s : ByteArray)  : FnC prog 101 [dS s] (dB (isNm s)) := by
  refine FnC_owed hmix (A101_isNameR_c s) (V := .need [ri ((!(q_isNameR_c_0 s)) = true), ri ((!(q_isNameR_c_0 s)) = true), (q_isNameR_c_0 s) = false → (!(q_isNameR_c_0 s)) = true] (.ite (if (q_isNameR_c_0 s) = true then true else decide ((↑(ByteArray.size s) : Int) > 12)) (.done [false = isNm s]) (.loop Nat (fun a => a ≤ ByteArray.size s ∧ ∀ (j : Nat), j < a → nmX s j = false) (0:Int).toNat [(0:Int) = (↑(0:Int).toNat : Int), s = s] fun i => .ite (decide ((i:Int) < (↑(ByteArray.size s) : Int))) (.need [(0:Int) ≤ (i:Int) ∧ (i:Int) < (↑(ByteArray.size s) : Int)] (.need [ri ((q_isNameR_c_1 s i) = true), ri ((q_isNameR_c_1 s i) = true), ri ((q_isNameR_c_7 s i) = true), ri ((q_isNameR_c_7 s i) = true), ri (((q_isNameR_c_7 s i) && (q_isNameR_c_2 s i)) = true), ri ((q_isNameR_c_7 s i) = true), (q_isNameR_c_7 s i) = true → (q_isNameR_c_2 s i) = true → ((q_isNameR_c_7 s i) && (q_isNameR_c_2 s i)) = true, (q_isNameR_c_6 s i) = false → (q_isNameR_c_7 s i) = true] (.need [ri ((q_isNameR_c_8 s i) = true), ri ((q_isNameR_c_8 s i) = true), ri (((q_isNameR_c_8 s i) && !(i:Int) == 0) = true), ri (((q_isNameR_c_8 s i) && !(i:Int) == 0) = true), ri (((q_isNameR_c_8 s i) && !(i:Int) == 0 && bget s (i:Int).toNat != 45) = true), ri (((q_isNameR_c_8 s i) && !(i:Int) == 0 && bget s (i:Int).toNat != 45) = true), ri (((q_isNameR_c_8 s i) && !(i:Int) == 0 && bget s (i:Int).toNat != 45 && !(q_isNameR_c_4 s i)) = true), ri (((q_isNameR_c_8 s i) && !(i:Int) == 0 && bget s (i:Int).toNat != 45) = true), ((q_isNameR_c_8 s i) && !(i:Int) == 0 && bget s (i:Int).toNat != 45) = true → (q_isNameR_c_4 s i) = false → ((q_isNameR_c_8 s i) && !(i:Int) == 0 && bget s (i:Int).toNat != 45 && !(q_isNameR_c_4 s i)) = true, ri (((q_isNameR_c_8 s i) && !(i:Int) == 0) = true), ((q_isNameR_c_8 s i) && !(i:Int) == 0) = true → (bget s (i:Int).toNat != 45) = true → ((q_isNameR_c_8 s i) && !(i:Int) == 0 && bget s (i:Int).toNat != 45) = true, ri ((q_isNameR_c_8 s i) = true), (q_isNameR_c_8 s i) = true → ((i:Int) == 0) = false → ((q_isNameR_c_8 s i) && !(i:Int) == 0) = true, ri ((q_isNameR_c_8 s i) = true)] (.ite (if (q_isNameR_c_8 s i) = true then if ((i:Int) == 0) = true then true else if (bget s (i:Int).toNat != 45) = true then if (q_isNameR_c_4 s i) = true then true else decide (bget s (i:Int).toNat > 57) else false else false) (.done [false = isNm s]) (.need [i64In ((i:Int) + 1)] (.done [(i:Int) + 1 = (↑((i:Int) + 1).toNat : Int), s = s, Int.toNat ((i:Int) + 1) ≤ ByteArray.size s ∧ ∀ (j : Nat), j < ((i:Int) + 1).toNat → nmX s j = false, ByteArray.size s - ((i:Int) + 1).toNat < ByteArray.size s - i])))))) (.done [true = isNm s])))) (by kernel_rfl) ?_
  simp only [q_isNameR_c_0, q_isNameR_c_1, q_isNameR_c_2, q_isNameR_c_3, q_isNameR_c_4, q_isNameR_c_5, q_isNameR_c_6, q_isNameR_c_7, q_isNameR_c_8, VT.holds, AllT, Sq]
  refine ⟨fun h => ?_, fun h => ⟨rfl, ⟨Nat.zero_le _, fun j hj => absurd hj (Nat.not_lt_zero j)⟩, fun i ⟨hi, hb⟩ => ⟨fun hlt => ?_, fun hge => ?_⟩⟩⟩
  · unfold isNm
    rcases h with h | h
    · rw [decide_eq_true h]; rfl
    · rw [decide_eq_true h, Bool.true_or, Bool.or_true]; rfl
  · have hb' : (i : Int) < s.size := hlt
    have hb2 : 0 ≤ (i : Int) ∧ (i : Int) < s.size := by omega
    refine ⟨hb2, fun h1 h2 => ⟨h1, h2⟩, ⟨fun h1 h2 => ⟨h1, h2⟩, fun h1 h2 => ⟨h1, h2⟩, fun h1 h2 => ⟨h1, h2⟩⟩, fun h' => ?_, fun h' => ⟨by unfold i64In; omega, by omega, ⟨by omega, fun j hj => ?_⟩, by omega⟩⟩
    · have : anyN (nmX s) s.size = true := anyN_iff.2 ⟨i, by omega, decide_eq_true h'⟩
      unfold isNm
      rw [this, Bool.or_true, Bool.or_true]; rfl
    · rcases Nat.lt_or_ge j i with h9 | h9
      · exact hb j h9
      · obtain rfl : j = i := by omega
        refine decide_eq_false fun ⟨h1, h2⟩ => ?_
        have h3 := h' h1
        omega
  · obtain rfl : i = s.size := by omega
    unfold isNm
    rw [anyN_none hb, decide_eq_false h.1, decide_eq_false h.2]; rfl
noncomputable def A106_within_cc (n most : Int) : Ann := { orc := [], loops := [], cuts := [] }
theorem within_cc (n most : Int)  : FnC prog 106 [dI n, dI most] (dB (inN n most)) := by
  refine FnC_owed hmix (A106_within_cc n most) (V := .need [ri (decide (n ≥ 0) = true), ri (decide (n ≥ 0) = true), ri (decide (n ≥ 0) = true)] (.done [(if decide (n ≥ 0) = true then decide (n ≤ most) else false) = inN n most])) (by kernel_rfl) ?_
  simp only [VT.holds, AllT, Sq]
  rfl
noncomputable def A139_pointKind_c (k : Int) : Ann := { orc := [], loops := [], cuts := [] }
theorem pointKind_c (k : Int)  : FnC prog 139 [dI k] (dB (pkF k)) := by
  refine FnC_owed hmix (A139_pointKind_c k) (V := .need [ri ((!k == 8) = true), (k == 8) = false → (!k == 8) = true] (.done [(if (k == 8) = true then true else k == 9) = pkF k])) (by kernel_rfl) ?_
  simp only [VT.holds, AllT, Sq]
  rfl
noncomputable def A105_checkPart_c (s : ByteArray) (k q m t e0 e1 : Int) : Ann := { orc := [(1, [(2, .res fun q => dB (inN (aI q 0) (aI q 1)))]), (2, [(2, .res fun q => dB (inN (aI q 0) (aI q 1)))]), (3, [(2, .res fun q => dB (inN (aI q 0) (aI q 1)))]), (4, [(2, .res fun q => dB (inN (aI q 0) (aI q 1)))]), (5, [(3, .res fun q => dB (inN (aI q 0) (aI q 1)))]), (6, [(3, .res fun q => dB (inN (aI q 0) (aI q 1)))]), (8, [(5, .res fun q => dB (pkF (aI q 0)))])], loops := [], cuts := [] }
theorem checkPart_c (s : ByteArray) (k q m t e0 e1 : Int)  : FnC prog 105 [ptD s k q m t e0 e1] (dI (ptC k q m t e0 e1)) := by
  refine FnC_owed hmix (A105_checkPart_c s k q m t e0 e1) (V := .need [FnC prog 106 [(dI k), (dI (9:Int))] ((dB (inN k (9:Int))))] (.ite (!inN k (9:Int)) (.ite (!inN k (9:Int)) (.done [(2:Int) = ptC k q m t e0 e1]) (.need [FnC prog 139 [(dI k)] ((dB (pkF k)))] (.ite (if true = true then !(q == 0) == pkF k else (q == 0) == pkF k) (.done [(3:Int) = ptC k q m t e0 e1]) (.done [(0:Int) = ptC k q m t e0 e1])))) (.need [FnC prog 106 [(dI q), (dI (20000000000000:Int))] ((dB (inN q (20000000000000:Int))))] (.ite (!inN q (20000000000000:Int)) (.ite (!inN q (20000000000000:Int)) (.done [(2:Int) = ptC k q m t e0 e1]) (.need [FnC prog 139 [(dI k)] ((dB (pkF k)))] (.ite (if true = true then !(q == 0) == pkF k else (q == 0) == pkF k) (.done [(3:Int) = ptC k q m t e0 e1]) (.done [(0:Int) = ptC k q m t e0 e1])))) (.need [FnC prog 106 [(dI m), (dI (1000000:Int))] ((dB (inN m (1000000:Int))))] (.ite (!inN m (1000000:Int)) (.ite (!inN m (1000000:Int)) (.done [(2:Int) = ptC k q m t e0 e1]) (.need [FnC prog 139 [(dI k)] ((dB (pkF k)))] (.ite (if true = true then !(q == 0) == pkF k else (q == 0) == pkF k) (.done [(3:Int) = ptC k q m t e0 e1]) (.done [(0:Int) = ptC k q m t e0 e1])))) (.need [FnC prog 106 [(dI t), (dI (1000000:Int))] ((dB (inN t (1000000:Int))))] (.ite (!inN t (1000000:Int)) (.ite (!inN t (1000000:Int)) (.done [(2:Int) = ptC k q m t e0 e1]) (.need [FnC prog 139 [(dI k)] ((dB (pkF k)))] (.ite (if true = true then !(q == 0) == pkF k else (q == 0) == pkF k) (.done [(3:Int) = ptC k q m t e0 e1]) (.done [(0:Int) = ptC k q m t e0 e1])))) (.need [(0:Int) ≤ 0 ∧ (0:Int) < (↑(2:Nat) : Int), FnC prog 106 [(dI e0), (dI (20:Int))] ((dB (inN e0 (20:Int))))] (.ite (!inN e0 (20:Int)) (.ite (!inN e0 (20:Int)) (.done [(2:Int) = ptC k q m t e0 e1]) (.need [FnC prog 139 [(dI k)] ((dB (pkF k)))] (.ite (if true = true then !(q == (0 :
     Int)) == pkF k else (q == 0) == pkF k) (.done [(3:Int) = ptC k q m t e0 e1]) (.done [(0:Int) = ptC k q m t e0 e1])))) (.need [(0:Int) ≤ 1 ∧ (1:Int) < (↑(2:Nat) : Int), FnC prog 106 [(dI e1), (dI (20:Int))] ((dB (inN e1 (20:Int))))] (.ite (!inN e1 (20:Int)) (.done [(2:Int) = ptC k q m t e0 e1]) (.need [FnC prog 139 [(dI k)] ((dB (pkF k)))] (.ite (if true = true then !(q == 0) == pkF k else (q == 0) == pkF k) (.done [(3:Int) = ptC k q m t e0 e1]) (.done [(0:Int) = ptC k q m t e0 e1]))))))))))))))) (by kernel_rfl) ?_
  simp only [VT.holds, AllT, Sq]
  refine ⟨within_cc _ _, fun h0 => ⟨fun _ => by rw [pt_bad (by simp [h0])], fun h => by rw [h0] at h; cases h⟩, fun h0 => ?_⟩
  refine ⟨within_cc _ _, fun h1 => ⟨fun _ => by rw [pt_bad (by simp [h1])], fun h => by rw [h1] at h; cases h⟩, fun h1 => ?_⟩
  refine ⟨within_cc _ _, fun h2 => ⟨fun _ => by rw [pt_bad (by simp [h2])], fun h => by rw [h2] at h; cases h⟩, fun h2 => ?_⟩
  refine ⟨within_cc _ _, fun h3 => ⟨fun _ => by rw [pt_bad (by simp [h3])], fun h => by rw [h3] at h; cases h⟩, fun h3 => ?_⟩
  refine ⟨⟨⟨by decide, by decide⟩, within_cc _ _⟩, fun h4 => ⟨fun _ => by rw [pt_bad (by simp [h4])], fun h => by rw [h4] at h; cases h⟩, fun h4 => ?_⟩
  refine ⟨⟨⟨by decide, by decide⟩, within_cc _ _⟩, fun h5 => by rw [pt_bad (by simp [h5])], fun h5 => ?_⟩
  have h : ¬ (inN k 9 && (inN q 20000000000000 && (inN m 1000000 && (inN t 1000000 && (inN e0 20 && inN e1 20))))) = false := by rw [h0, h1, h2, h3, h4, h5]; decide
  simp only [if_true]
  exact ⟨pointKind_c k, fun h' => (pt_form h h').symm, fun h' => (pt_ok h h').symm⟩
noncomputable def A54_end_c (n : Int) : Ann := { orc := [(1, [(1, rW3)])], loops := [], cuts := [] }
theorem end_c (n : Int)  : FnC prog 54 [dI n] (dB (inN n 20)) := by
  refine FnC_owed hmix (A54_end_c n) (V := .need [FnC prog 24 [(dI n), (dI (0:Int)), (dI (20:Int))] ((dB (inN n (20:Int))))] (.done [inN n (20:Int) = inN n (20:Int)])) (by kernel_rfl) ?_
  simp only [VT.holds, AllT, Sq]
  exact within3_in n 20
noncomputable def A39_short_c (c : Cat) : Ann := { orc := [], loops := [], cuts := [] }
noncomputable abbrev q_short_c_0 (c : Cat) : Bool := decide ((c.n:Int) ≤ (70:Int))
theorem short_c (c : Cat)  : FnC prog 39 [catD c] (dB (decide (c.n ≤ 70 ∧ c.m ≤ 210))) := by
  refine FnC_owed hmix (A39_short_c c) (V := .need [ri ((q_short_c_0 c) = true), ri ((q_short_c_0 c) = true), ri ((q_short_c_0 c) = true), ri ((q_short_c_0 c) = true)] (.done [(if (q_short_c_0 c) = true then decide ((c.m:Int) ≤ 210) else false) = decide (c.n ≤ 70 ∧ c.m ≤ 210)])) (by kernel_rfl) ?_
  simp only [q_short_c_0, VT.holds, AllT, Sq]
  rw [← Bool.decide_and]
  exact decide_eq_decide.2 (by omega)
noncomputable def A42_checkCat_c (c : Cat) : Ann := { orc := [(7, [(2, .res fun q => dB (isNm (sA q 0)))]), (12, [(1, .res fun q => dI (ptC (fI 1 (arg q 0)) (fI 2 (arg q 0)) (fI 3 (arg q 0)) (fI 4 (arg q 0)) (fI 5 (arg q 0)) (fI 6 (arg q 0))))]), (21, [(2, rIn), (7, rIn)])], loops := [(0, { ι := Nat, keep := [1, 3, 15, 16], boxes := [1], ts := fun _ i => [(17, dI (i : Int))], mo := fun _ i => [(3, none, .map .str (nmH c i) (fun _ => dB true) none)], inv := fun _ i => i ≤ c.n ∧ ∀ j, j < i → ptE c j = 0, mu := fun _ i => c.n - i, rd := fun _ σ => (iOf (σ.get 17)).toNat }), (3, { ι := Nat, keep := [1, 45, 46], boxes := [1], ts := fun _ i => [(47, dI (i : Int))], inv := fun _ i => i ≤ c.m ∧ ∀ j, j < i → prE c j = 0, mu := fun _ i => c.m - i, rd := fun _ σ => (iOf (σ.get 47)).toNat })], cuts := [] }
noncomputable abbrev q_checkCat_c_0 (c : Cat) (i : Nat) : Bool := !!inN (c.P0 (Int.toNat (i:Int))) (20:Int)
noncomputable abbrev checkCat_cr0 (c : Cat) (r : List Prop) : List Prop := (c.n = c.n) :: (∀ (i : Nat), i < c.n → c.nm i = c.nm i) :: (∀ (i : Nat), i < c.n → c.K i = c.K i) :: (∀ (i : Nat), i < c.n → c.Q i = c.Q i) :: (∀ (i : Nat), i < c.n → c.M i = c.M i) :: (∀ (i : Nat), i < c.n → c.T i = c.T i) :: (∀ (i : Nat), i < c.n → c.E0 i = c.E0 i) :: (∀ (i : Nat), i < c.n → c.E1 i = c.E1 i) :: r
theorem checkCat_c (c : Cat)  : FnC prog 42 [catD c] (dI (ctE c)) := by
  refine FnC_owed hmix (A42_checkCat_c c) (V := .ite (decide ((c.n:Int) > 60)) (.done [(8:Int) = ctE c]) (.loop Nat (fun a => a ≤ c.n ∧ ∀ (j : Nat), j < a → ptE c j = 0) (0:Int).toNat (((0:Int) = (↑(0:Int).toNat : Int)) :: (checkCat_cr0 c (((c.n:Int) = (c.n:Int)) :: ((∀ (l : List Int), false = nmH c (0:Int).toNat l) :: ((∀ (l : List Int), nmH c (0:Int).toNat l = true → false = true) :: (checkCat_cr0 c [c.m = c.m, ∀ i < c.m, c.P0 i = c.P0 i, ∀ i < c.m, c.P1 i = c.P1 i])))))) fun i => .ite (decide ((i:Int) < (c.n:Int))) (.need [(0:Int) ≤ (i:Int) ∧ (i:Int) < (c.n:Int)] (.need [FnC prog 104 [.val (.string (c.nm (i:Int).toNat))] ((dB (isNm (c.nm (i:Int).toNat))))] (.ite (!isNm (c.nm (i:Int).toNat)) (.done [(4:Int) = ctE c]) (.ite (if nmH c i (bInts (c.nm (i:Int).toNat)) = true then true else false) (.done [(5:Int) = ctE c]) (.need [FnC prog 105 [.val (.agg (Array.mk [.string (c.nm (i:Int).toNat), .int .i64 (c.K (i:Int).toNat), .int .i64 (c.Q (i:Int).toNat), .int .i64 (c.M (i:Int).toNat), .int .i64 (c.T (i:Int).toNat), .int .i64 (c.E0 (i:Int).toNat), .int .i64 (c.E1 (i:Int).toNat)]))] ((dI (ptC (c.K (i:Int).toNat) (c.Q (i:Int).toNat) (c.M (i:Int).toNat) (c.T (i:Int).toNat) (c.E0 (i:Int).toNat) (c.E1 (i:Int).toNat))))] (.ite (ptC (c.K (i:Int).toNat) (c.Q (i:Int).toNat) (c.M (i:Int).toNat) (c.T (i:Int).toNat) (c.E0 (i:Int).toNat) (c.E1 (i:Int).toNat) != 0) (.done [ptC (c.K (i:Int).toNat) (c.Q (i:Int).toNat) (c.M (i:Int).toNat) (c.T (i:Int).toNat) (c.E0 (i:Int).toNat) (c.E1 (i:Int).toNat) = ctE c]) (.need [i64In ((i:Int) + 1)] (.done (((i:Int) + 1 = (↑((i:Int) + 1).toNat : Int)) :: (checkCat_cr0 c
     (((c.n:Int) = (c.n:Int)) :: ((∀ (l : List Int), putHas (bInts (c.nm (i:Int).toNat)) (nmH c i) l = nmH c ((i:Int) + 1).toNat l) :: ((∀ (l : List Int), nmH c ((i:Int) + 1).toNat l = true → (if decide (l = bInts (c.nm (i:Int).toNat)) = true then true else true) = true) :: (checkCat_cr0 c [c.m = c.m, ∀ i < c.m, c.P0 i = c.P0 i, ∀ i < c.m, c.P1 i = c.P1 i, Int.toNat ((i:Int) + 1) ≤ c.n ∧ ∀ (j : Nat), j < ((i:Int) + 1).toNat → ptE c j = 0, c.n - ((i:Int) + 1).toNat < c.n - i])))))))))))))) (.ite (decide ((c.m:Int) > 200)) (.done [(8:Int) = ctE c]) (.loop Nat (fun a => a ≤ c.m ∧ ∀ (j : Nat), j < a → prE c j = 0) (0:Int).toNat (((0:Int) = (↑(0:Int).toNat : Int)) :: ((c.m = c.m) :: ((∀ i < c.m, c.P0 i = c.P0 i) :: ((∀ i < c.m, c.P1 i = c.P1 i) :: (((c.m:Int) = (c.m:Int)) :: (checkCat_cr0 c [c.m = c.m, ∀ i < c.m, c.P0 i = c.P0 i, ∀ i < c.m, c.P1 i = c.P1 i])))))) fun i => .ite (decide ((i:Int) < (c.m:Int))) (.need [(0:Int) ≤ (i:Int) ∧ (i:Int) < (c.m:Int)] (.need [(0:Int) ≤ 0 ∧ (0:Int) < (↑(2:Nat) : Int), FnC prog 106 [(dI (c.P0 (i:Int).toNat)), (dI (20:Int))] ((dB (inN (c.P0 (i:Int).toNat) (20:Int)))), (q_checkCat_c_0 c i) = true → (0:Int) ≤ 1 ∧ (1:Int) < (↑(2:Nat) : Int), ri ((q_checkCat_c_0 c i) = true), ri ((q_checkCat_c_0 c i) = true), (q_checkCat_c_0 c i) = true → FnC prog 106 [(dI (c.P1 (i:Int).toNat)), (dI (20:Int))] ((dB (inN (c.P1 (i:Int).toNat) (20:Int)))), ri ((q_checkCat_c_0 c i) = true), (!inN (c.P0 (i:Int).toNat) (20:Int)) = false → (q_checkCat_c_0 c i) = true] (.ite (if (!inN (c.P0 (i:Int).toNat) (20:Int)) = true then true else !inN (c.P1
     (i:Int).toNat) (20:Int)) (.done [(2:Int) = ctE c]) (.need [i64In ((i:Int) + 1)] (.done (((i:Int) + 1 = (↑((i:Int) + 1).toNat : Int)) :: ((c.m = c.m) :: ((∀ i < c.m, c.P0 i = c.P0 i) :: ((∀ i < c.m, c.P1 i = c.P1 i) :: (((c.m:Int) = (c.m:Int)) :: (checkCat_cr0 c [c.m = c.m, ∀ i < c.m, c.P0 i = c.P0 i, ∀ i < c.m, c.P1 i = c.P1 i, Int.toNat ((i:Int) + 1) ≤ c.m ∧ ∀ (j : Nat), j < ((i:Int) + 1).toNat → prE c j = 0, c.m - ((i:Int) + 1).toNat < c.m - i]))))))))))) (.done [(0:Int) = ctE c]))))) (by kernel_rfl) ?_
  simp only [q_checkCat_c_0, VT.holds, AllT, Sq]
  refine ⟨fun h => (ct_large (by omega)).symm, fun h => ⟨⟨rfl, fun _ => rfl, fun _ h => by cases h⟩, ⟨Nat.zero_le _, fun j hj => absurd hj (Nat.not_lt_zero j)⟩, fun i ⟨hi, hb⟩ => ⟨fun hlt => ?_, fun hge => ?_⟩⟩⟩
  · have hn : c.n ≤ 60 := by omega
    have hlt : i < c.n := by omega
    refine ⟨by omega, isName_c _, fun h1 => (ct_part hn hlt hb (pe_name h1) (by decide)).symm, fun h1 => ⟨fun h2 => (ct_part hn hlt hb (pe_has h1 h2) (by decide)).symm, fun h2 => ?_⟩⟩
    have h2 : nmH c i (bInts (c.nm i)) = false := by
      cases e : nmH c i (bInts (c.nm i)) with
      | false => rfl
      | true => exact absurd (h2 e) (by decide)
    refine ⟨checkPart_c _ _ _ _ _ _ _, fun h3 => (ct_part hn hlt hb (pe_pt h1 h2) h3).symm, fun h3 => ⟨by unfold i64In; omega, by omega, nmH_put c i, fun _ _ => .inr trivial, ⟨by omega, fun j hj => ?_⟩, by omega⟩⟩
    rcases Nat.lt_or_ge j i with h9 | h9
    · exact hb j h9
    · obtain rfl : j = i := by omega
      rw [pe_pt h1 h2, h3]
  · have hn : c.n ≤ 60 := by omega
    obtain rfl : i = c.n := by omega
    refine ⟨fun h => (ct_many hn hb (by omega)).symm, fun h2 => ⟨rfl, ⟨Nat.zero_le _, fun j hj => absurd hj (Nat.not_lt_zero j)⟩, fun i ⟨hi, hb2⟩ => ⟨fun hlt => ?_, fun hge => ?_⟩⟩⟩
    · have hm : c.m ≤ 200 := by omega
      have hlt : i < c.m := by omega
      have ii : 0 ≤ (i : Int) ∧ (i : Int) < c.m := by omega
      refine ⟨ii, ⟨⟨by decide, by decide⟩, within_cc _ _, fun _ => ⟨by decide, by decide⟩, fun _ => within_cc _ _⟩, fun h => ?_, fun h => ?_⟩
      · have h : inN (c.P0 i) 20 = false ∨ inN (c.P1 i) 20 = false := h
        have he : prE c i = 2 := by
          rw [prE, if_pos]
          rcases h with h | h <;> simp [h]
        exact (ct_pair hn hb hm hlt hb2 he (by decide)).symm
      · have h : ¬ inN (c.P0 i) 20 = false ∧ inN (c.P1 i) 20 = true := h
        refine ⟨by unfold i64In; omega, by omega, ⟨by omega, fun j hj => ?_⟩, by omega⟩
        rcases Nat.lt_or_ge j i with h9 | h9
        · exact hb2 j h9
        · obtain rfl : j = i := by omega
          rw [prE, if_neg]
          rw [h.2, Bool.and_true]; exact h.1
    · obtain rfl : i = c.m := by omega
      exact (ct_ok hn hb (by omega) hb2).symm
noncomputable def A40_checkCatR_c (c : Cat) : Ann := { orc := [(7, [(2, .res fun q => dB (isNm (sA q 0)))]), (14, [(2, rW3), (7, rW3), (13, rW3), (19, rW3), (26, rEnd), (33, rEnd)]), (23, [(6, rEnd), (15, rEnd)])], loops := [(0, { ι := Nat, keep := [1], boxes := [1], ts := fun _ i => [(3, dI (i : Int))], inv := fun _ i => i ≤ c.n ∧ ∀ j, j < i → ptE c j = 0, mu := fun _ i => c.n - i, rd := fun _ σ => (iOf (σ.get 3)).toNat }), (2, { ι := Nat, keep := [1, 3, 4], boxes := [1, 4], ts := fun _ k => [(5, dI (k : Int))], inv := fun σ k => k ≤ (iOf (σ.get 3)).toNat ∧ ∀ j, j < k → c.nm j ≠ c.nm (iOf (σ.get 3)).toNat, mu := fun σ k => (iOf (σ.get 3)).toNat - k, rd := fun _ σ => (iOf (σ.get 5)).toNat }), (4, { ι := Nat, keep := [1], boxes := [1], ts := fun _ i => [(6, dI (i : Int))], inv := fun _ i => i ≤ c.m ∧ ∀ j, j < i → prE c j = 0, mu := fun _ i => c.m - i, rd := fun _ σ => (iOf (σ.get 6)).toNat })], cuts := [] }
noncomputable abbrev q_checkCatR_c_0 (c : Cat) (i : Nat) : Bool := !c.K (Int.toNat (i:Int)) == (8:Int)
noncomputable abbrev q_checkCatR_c_1 (c : Cat) (i : Nat) : Bool := !inN (c.K (Int.toNat (i:Int))) (9:Int)
noncomputable abbrev q_checkCatR_c_2 (c : Cat) (i : Nat) : Bool := !!inN (c.K (Int.toNat (i:Int))) (9:Int)
noncomputable abbrev q_checkCatR_c_3 (c : Cat) (i : Nat) : Bool := if (q_checkCatR_c_1 c i) = true then true else !inN (c.Q (Int.toNat (i:Int))) (20000000000000:Int)
noncomputable abbrev q_checkCatR_c_4 (c : Cat) (i : Nat) : Bool := if (q_checkCatR_c_3 c i) = true then true else !inN (c.M (Int.toNat (i:Int))) (1000000:Int)
noncomputable abbrev q_checkCatR_c_5 (c : Cat) (i : Nat) : Bool := if (q_checkCatR_c_4 c i) = true then true else !inN (c.T (Int.toNat (i:Int))) (1000000:Int)
noncomputable abbrev q_checkCatR_c_6 (c : Cat) (i : Nat) : Bool := !if (q_checkCatR_c_5 c i) = true then true else !inN (c.E0 (Int.toNat (i:Int))) (20:Int)
noncomputable abbrev q_checkCatR_c_7 (c : Cat) (i : Nat) : Bool := !if (q_checkCatR_c_3 c i) = true then true else !inN (c.M (Int.toNat (i:Int))) (1000000:Int)
noncomputable abbrev q_checkCatR_c_8 (c : Cat) (i : Nat) : Bool := !if (q_checkCatR_c_4 c i) = true then true else !inN (c.T (Int.toNat (i:Int))) (1000000:Int)
noncomputable abbrev q_checkCatR_c_9 (c : Cat) (i : Nat) : Bool := !if (q_checkCatR_c_1 c i) = true then true else !inN (c.Q (Int.toNat (i:Int))) (20000000000000:Int)
noncomputable abbrev q_checkCatR_c_10 (c : Cat) (i : Nat) : Bool := !!inN (List.getD [c.P0 (Int.toNat (i:Int)), c.P1 (Int.toNat (i:Int))] (Int.toNat (0:Int)) (0:Int)) (20:Int)
noncomputable abbrev checkCatR_cr0 (c : Cat) (r : List Prop) : List Prop := (c.n = c.n) :: (∀ (i : Nat), i < c.n → c.nm i = c.nm i) :: (∀ (i : Nat), i < c.n → c.K i = c.K i) :: (∀ (i : Nat), i < c.n → c.Q i = c.Q i) :: (∀ (i : Nat), i < c.n → c.M i = c.M i) :: (∀ (i : Nat), i < c.n → c.T i = c.T i) :: (∀ (i : Nat), i < c.n → c.E0 i = c.E0 i) :: (∀ (i : Nat), i < c.n → c.E1 i = c.E1 i) :: (c.m = c.m) :: (∀ (i : Nat), i < c.m → c.P0 i = c.P0 i) :: (∀ (i : Nat), i < c.m → c.P1 i = c.P1 i) :: r
noncomputable abbrev checkCatR_cr1 (c : Cat) (i : Nat) (r : List Prop) : List Prop := (c.nm (Int.toNat (i:Int)) = c.nm (Int.toNat (i:Int))) :: (c.K (Int.toNat (i:Int)) = c.K (Int.toNat (i:Int))) :: (c.Q (Int.toNat (i:Int)) = c.Q (Int.toNat (i:Int))) :: (c.M (Int.toNat (i:Int)) = c.M (Int.toNat (i:Int))) :: (c.T (Int.toNat (i:Int)) = c.T (Int.toNat (i:Int))) :: (c.E0 (Int.toNat (i:Int)) = c.E0 (Int.toNat (i:Int))) :: (c.E1 (Int.toNat (i:Int)) = c.E1 (Int.toNat (i:Int))) :: r
theorem checkCatR_c (c : Cat)  : FnC prog 40 [catD c] (dI (ctE c)) := by
  refine FnC_owed hmix (A40_checkCatR_c c) (V := .ite (decide ((c.n:Int) > 60)) (.done [(8:Int) = ctE c]) (.loop Nat (fun a => a ≤ c.n ∧ ∀ (j : Nat), j < a → ptE c j = 0) (0:Int).toNat (((0:Int) = (↑(0:Int).toNat : Int)) :: (checkCatR_cr0 c [])) fun i => .ite (decide ((i:Int) < (c.n:Int))) (.need [(0:Int) ≤ (i:Int) ∧ (i:Int) < (c.n:Int)] (.need [FnC prog 101 [.val (.string (c.nm (i:Int).toNat))] ((dB (isNm (c.nm (i:Int).toNat))))] (.ite (!isNm (c.nm (i:Int).toNat)) (.done [(4:Int) = ctE c]) (.loop Nat (fun a => a ≤ (i:Int).toNat ∧ ∀ (j : Nat), j < a → c.nm j ≠ c.nm (i:Int).toNat) (0:Int).toNat (((0:Int) = (↑(0:Int).toNat : Int)) :: (((i:Int) = (i:Int)) :: (checkCatR_cr0 c (checkCatR_cr1 c i [])))) fun i_1 => .ite (decide ((i_1:Int) < (i:Int))) (.need [(0:Int) ≤ (i_1:Int) ∧ (i_1:Int) < (c.n:Int)] (.ite (ByteArray.toList (c.nm (i_1:Int).toNat) == ByteArray.toList (c.nm (i:Int).toNat)) (.done [(5:Int) = ctE c]) (.need [i64In ((i_1:Int) + 1)] (.done (((i_1:Int) + 1 = (↑((i_1:Int) + 1).toNat : Int)) :: (((i:Int) = (i:Int)) :: (checkCatR_cr0 c (checkCatR_cr1 c i [Int.toNat ((i_1:Int) + 1) ≤ (i:Int).toNat ∧ ∀ (j : Nat), j < ((i_1:Int) + 1).toNat → c.nm j ≠ c.nm (i:Int).toNat, Int.toNat (i:Int) - ((i_1:Int) + 1).toNat < (i:Int).toNat - i_1])))))))) (.need [FnC prog 24 [(dI (c.K (i:Int).toNat)), (dI (0:Int)), (dI (9:Int))] ((dB (inN (c.K (i:Int).toNat) (9:Int)))), ri ((q_checkCatR_c_2 c i) = true), ri ((q_checkCatR_c_2 c i) = true), (q_checkCatR_c_2 c i) = true → FnC prog 24 [(dI (c.Q (i:Int).toNat)), (dI (0:Int)), (dI (20000000000000:Int))] ((dB (inN (c.Q (i:Int).toNat) (20000000000000:Int)))), ri ((q_checkCatR_c_2 c i) = true), (q_checkCatR_c_1 c i) = false → (q_checkCatR_c_2 c i) = true, ri ((q_checkCatR_c_9 c i) = true), ri ((q_checkCatR_c_9 c i) = true), (q_checkCatR_c_9 c i) = true → FnC prog 24 [(dI (c.M (i:Int).toNat)), (dI (0:Int)), (dI (1000000:Int))] ((dB (inN (c.M (i:Int).toNat) (1000000:Int)))), ri ((q_checkCatR_c_9 c i) = true), (q_checkCatR_c_3 c i) = false → (q_checkCatR_c_9 c i) = true, ri ((q_checkCatR_c_7 c i) = true), ri ((q_checkCatR_c_7 c i) = true), (q_checkCatR_c_7 c i) = true → FnC prog 24 [(dI (c.T (i:Int).toNat)), (dI (0:Int)), (dI (1000000:Int))] ((dB (inN (c.T (i:Int).toNat) (1000000:Int)))), ri ((q_checkCatR_c_7 c i) = true), (q_checkCatR_c_4 c i) = false → (q_checkCatR_c_7 c i) = true, ri ((q_checkCatR_c_8 c i) = true), (q_checkCatR_c_8 c i) = true → (0:Int) ≤ 0 ∧ (0:Int) < (↑(2:Nat) : Int), ri ((q_checkCatR_c_8 c i) = true), ri ((q_checkCatR_c_8 c i) = true), (q_checkCatR_c_8 c i) = true → FnC prog 54 [(dI (c.E0 (i:Int).toNat))] ((dB (inN (c.E0 (i:Int).toNat) (20:Int)))), ri ((q_checkCatR_c_8 c i) = true), (q_checkCatR_c_5 c i) = false → (q_checkCatR_c_8 c i) = true, ri ((q_checkCatR_c_6 c i) = true), (q_checkCatR_c_6 c i) = true → (0:Int) ≤ 1 ∧ (1:Int) < (↑(2:Nat) : Int), ri ((q_checkCatR_c_6 c i) = true), ri ((q_checkCatR_c_6 c i) = true), (q_checkCatR_c_6 c i) = true → FnC prog 54 [(dI (c.E1 (i:Int).toNat))] ((dB (inN (c.E1 (i:Int).toNat) (20:Int)))), ri ((q_checkCatR_c_6 c i) = true), (if (q_checkCatR_c_5 c i) = true then
     true else !inN (c.E0 (i:Int).toNat) (20:Int)) = false → (q_checkCatR_c_6 c i) = true] (.ite (if (if (q_checkCatR_c_5 c i) = true then true else !inN (c.E0 (i:Int).toNat) (20:Int)) = true then true else !inN (c.E1 (i:Int).toNat) (20:Int)) (.done [(2:Int) = ctE c]) (.need [ri ((q_checkCatR_c_0 c i) = true), ri ((q_checkCatR_c_0 c i) = true), (c.K (i:Int).toNat == 8) = false → (q_checkCatR_c_0 c i) = true] (.ite (if true = true then !(c.Q (i:Int).toNat == 0) == if (c.K (i:Int).toNat == 8) = true then true else c.K (i:Int).toNat == 9 else (c.Q (i:Int).toNat == 0) == if (c.K (i:Int).toNat == 8) = true then true else c.K (i:Int).toNat == 9) (.done [(3:Int) = ctE c]) (.need [i64In ((i:Int) + 1)] (.done (((i:Int) + 1 = (↑((i:Int) + 1).toNat : Int)) :: (checkCatR_cr0 c [Int.toNat ((i:Int) + 1) ≤ c.n ∧ ∀ (j : Nat), j < ((i:Int) + 1).toNat → ptE c j = 0, c.n - ((i:Int) + 1).toNat < c.n - i])))))))))))) (.ite (decide ((c.m:Int) > 200)) (.done [(8:Int) = ctE c]) (.loop Nat (fun a => a ≤ c.m ∧ ∀ (j : Nat), j < a → prE c j = 0) (0:Int).toNat (((0:Int) = (↑(0:Int).toNat : Int)) :: (checkCatR_cr0 c [])) fun i => .ite (decide ((i:Int) < (c.m:Int))) (.need [(0:Int) ≤ (i:Int) ∧ (i:Int) < (c.m:Int), (0:Int) ≤ 0 ∧ (0:Int) < (↑(2:Nat) : Int), FnC prog 54 [(dI (List.getD [c.P0 (i:Int).toNat, c.P1 (i:Int).toNat] (0:Int).toNat (0:Int)))] ((dB (inN (List.getD [c.P0 (i:Int).toNat, c.P1 (i:Int).toNat] (0:Int).toNat (0:Int)) (20:Int)))), ri ((q_checkCatR_c_10 c i) = true), ri ((q_checkCatR_c_10 c i) = true), ri ((q_checkCatR_c_10 c i) = true), (q_checkCatR_c_10 c i) = true → (0:Int) ≤ (i:Int) ∧ (i:Int) < (c.m:Int), ri ((q_checkCatR_c_10 c i) = true), (q_checkCatR_c_10 c i) = true → (0:Int) ≤ 1 ∧ (1:Int) < (↑(2:Nat) : Int), ri ((q_checkCatR_c_10 c i) = true), ri ((q_checkCatR_c_10 c i) = true), (q_checkCatR_c_10 c i) = true → FnC prog 54 [(dI (List.getD [c.P0 (i:Int).toNat, c.P1 (i:Int).toNat] (1:Int).toNat (0:Int)))] ((dB (inN (List.getD [c.P0 (i:Int).toNat, c.P1 (i:Int).toNat] (1:Int).toNat (0:Int)) (20:Int)))), ri ((q_checkCatR_c_10 c i) = true), (!inN (List.getD [c.P0 (i:Int).toNat, c.P1 (i:Int).toNat] (0:Int).toNat (0:Int)) (20:Int)) = false → (q_checkCatR_c_10 c i) = true] (.ite (if (!inN (List.getD [c.P0 (i:Int).toNat, c.P1 (i:Int).toNat] (0:Int).toNat (0:Int)) (20:Int)) = true then true else !inN (List.getD [c.P0 (i:Int).toNat, c.P1 (i:Int).toNat] (1:Int).toNat (0:Int)) (20:Int)) (.done [(2:Int) = ctE c]) (.need [i64In ((i:Int) + 1)] (.done (((i:Int) + 1 = (↑((i:Int) + 1).toNat : Int)) :: (checkCatR_cr0 c [Int.toNat ((i:Int) + 1) ≤ c.m ∧ ∀ (j : Nat), j < ((i:Int) + 1).toNat → prE c j = 0, c.m - ((i:Int) + 1).toNat < c.m - i])))))) (.done [(0:Int) = ctE c]))))) (by kernel_rfl) ?_
  simp only [q_checkCatR_c_0, q_checkCatR_c_1, q_checkCatR_c_2, q_checkCatR_c_3, q_checkCatR_c_4, q_checkCatR_c_5, q_checkCatR_c_6, q_checkCatR_c_7, q_checkCatR_c_8, q_checkCatR_c_9, q_checkCatR_c_10, VT.holds, AllT, Sq]
  refine ⟨fun h => (ct_large (by omega)).symm, fun h => ⟨rfl, ⟨Nat.zero_le _, fun j hj => absurd hj (Nat.not_lt_zero j)⟩, fun i ⟨hi, hb⟩ => ⟨fun hlt => ?_, fun hge => ?_⟩⟩⟩
  · have hn : c.n ≤ 60 := by omega
    have hlt : i < c.n := by omega
    refine ⟨by omega, isNameR_c _, fun h1 => (ct_part hn hlt hb (pe_name h1) (by decide)).symm, fun h1 => ⟨rfl, ⟨Nat.zero_le _, fun j hj => absurd hj (Nat.not_lt_zero j)⟩, fun k ⟨hk, hk2⟩ => ⟨fun hkl => ?_, fun hkg => ?_⟩⟩⟩
    · have hkl : k < i := by omega
      refine ⟨by omega, fun h2 => (ct_part hn hlt hb (pe_has h1 (nmH_at hkl (str_eq h2))) (by decide)).symm, fun h2 => ⟨by unfold i64In; omega, by omega, ⟨by omega, fun j hj => ?_⟩, by omega⟩⟩
      rcases Nat.lt_or_ge j k with h9 | h9
      · exact hk2 j h9
      · obtain rfl : j = k := by omega
        exact fun e => h2 (by rw [e])
    · obtain rfl : k = i := by omega
      have h2 := nmH_no (c := c) hk2
      refine ⟨⟨within3_in _ _, fun _ => within3_in _ _, fun _ => within3_in _ _, fun _ => within3_in _ _, fun _ => ⟨by decide, by decide⟩, fun _ => end_c _, fun _ => ⟨by decide, by decide⟩, fun _ => end_c _⟩, fun h3 => ?_, fun ⟨h3, h4⟩ => ?_⟩
      · have e : ptE c k = 2 := by
          rw [pe_pt h1 h2, pt_bad]
          rcases h3 with ((((h3 | h3) | h3) | h3) | h3) | h3 <;> simp [h3]
        exact (ct_part hn hlt hb e (by decide)).symm
      · have h5 : ¬ (inN (c.K k) 9 && (inN (c.Q k) 20000000000000 && (inN (c.M k) 1000000 && (inN (c.T k) 1000000 && (inN (c.E0 k) 20 && inN (c.E1 k) 20))))) = false := by
          rw [h4]
          cases e1 : inN (c.K k) 9 <;> cases e2 : inN (c.Q k) 20000000000000 <;> cases e3 : inN (c.M k) 1000000 <;> cases e4 : inN (c.T k) 1000000 <;> cases e5 : inN (c.E0 k) 20 <;> simp_all
        simp only [if_true]
        refine ⟨fun h6 => (ct_part hn hlt hb ((pe_pt h1 h2).trans (pt_form h5 h6)) (by decide)).symm, fun h6 => ⟨by unfold i64In; omega, by omega, ⟨by omega, fun j hj => ?_⟩, by omega⟩⟩
        rcases Nat.lt_or_ge j k with h9 | h9
        · exact hb j h9
        · obtain rfl : j = k := by omega
          exact (pe_pt h1 h2).trans (pt_ok h5 h6)
  · have hn : c.n ≤ 60 := by omega
    obtain rfl : i = c.n := by omega
    refine ⟨fun h => (ct_many hn hb (by omega)).symm, fun h2 => ⟨rfl, ⟨Nat.zero_le _, fun j hj => absurd hj (Nat.not_lt_zero j)⟩, fun i ⟨hi, hb2⟩ => ⟨fun hlt => ?_, fun hge => ?_⟩⟩⟩
    · have hm : c.m ≤ 200 := by omega
      have hlt : i < c.m := by omega
      have ii : 0 ≤ (i : Int) ∧ (i : Int) < c.m := by omega
      refine ⟨⟨ii, ⟨by decide, by decide⟩, end_c _, fun _ => ii, fun _ => ⟨by decide, by decide⟩, fun _ => end_c _⟩, fun h => ?_, fun h => ?_⟩
      · have h : inN (c.P0 i) 20 = false ∨ inN (c.P1 i) 20 = false := h
        have he : prE c i = 2 := by
          rw [prE, if_pos]
          rcases h with h | h <;> simp [h]
        exact (ct_pair hn hb hm hlt hb2 he (by decide)).symm
      · have h : ¬ inN (c.P0 i) 20 = false ∧ inN (c.P1 i) 20 = true := h
        refine ⟨by unfold i64In; omega, by omega, ⟨by omega, fun j hj => ?_⟩, by omega⟩
        rcases Nat.lt_or_ge j i with h9 | h9
        · exact hb2 j h9
        · obtain rfl : j = i := by omega
          rw [prE, if_neg]
          rw [h.2, Bool.and_true]; exact h.1
    · obtain rfl : i = c.m := by omega
      exact (ct_ok hn hb (by omega) hb2).symm
end Go.Abs
