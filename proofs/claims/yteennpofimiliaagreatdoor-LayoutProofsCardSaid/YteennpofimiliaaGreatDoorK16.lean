/- Contracts. -/
import Derived.Test.YteennpofimiliaaGreatDoorK15
import Derived.Test.YteennpofimiliaaGreatDoorK9
set_option linter.unusedVariables false
set_option linter.unusedSimpArgs false
set_option maxRecDepth 100000
namespace Go.Abs
open Go
structure Bld where
  name : ByteArray
  nS : Nat
  fl : Nat → Int
  N : Nat → Nat
  X : Nat → Nat → Int
  Y : Nat → Nat → Int
  roof : Int
  nO : Nat
  O : Nat → Nat → Int
  nB : Nat
  B : Nat → Nat → Int
abbrev stoC (b : Bld) : List (Nat → DV) := [fun i => dI (b.fl i), fun i => pts (b.N i) (b.X i) (b.Y i)]
abbrev opeC (b : Bld) : List (Nat → DV) := [fun i => dI (b.O i 0), fun i => dI (b.O i 1), fun i => dI (b.O i 2), fun i => dI (b.O i 3), fun i => dI (b.O i 4), fun i => dI (b.O i 5)]
abbrev boxC (b : Bld) : List (Nat → DV) := [fun i => dI (b.B i 0), fun i => dI (b.B i 1), fun i => dI (b.B i 2), fun i => dI (b.B i 3), fun i => dI (b.B i 4), fun i => dI (b.B i 5)]
abbrev bld (b : Bld) : DV := .agg [.val (.string b.name), .lst b.nS (stoC b), dI b.roof, .lst b.nO (opeC b), .lst b.nB (boxC b)]
def chB (s : ByteArray) (i : Nat) : Bool := decide ((97 ≤ bget s i ∧ bget s i ≤ 122) ∨ (65 ≤ bget s i ∧ bget s i ≤ 90) ∨ (i ≠ 0 ∧ (bget s i = 45 ∨ (48 ≤ bget s i ∧ bget s i ≤ 57))))
def nameF (s : ByteArray) : Bool := decide (1 ≤ s.size ∧ s.size ≤ 12 ∧ ∀ i, i < s.size → chB s i = true)
def topF (b : Bld) (i : Nat) : Int := if i + 1 < b.nS then b.fl (i + 1) else b.roof
def manyC (n : Nat) : Bool := decide (n > 14 ∧ n ≤ 40 ∨ n > 45)
def smallF (b : Bld) : Bool := decide (¬ (b.nS > 6 ∧ b.nS ≤ 20 ∨ b.nS > 25 ∨ b.nO > 8 ∧ b.nO ≤ 100 ∨ b.nO > 105 ∨ b.nB > 6 ∧ b.nB ≤ 50 ∨ b.nB > 55 ∨ b.name.size > 100) ∧ ∀ i, i < b.nS → manyC (b.N i) = false)
def rTop (b : Bld) : Orc := .res fun l => dI (topF b (aI l 1).toNat)
def rNameF (b : Bld) : Orc := .res fun _ => dB (nameF b.name)
theorem bl_len (bs : ByteArray) : ∀ (k i : Nat) (r : List UInt8), bs.size - i = k → (ByteArray.toList.loop bs i r).length = r.length + k
  | 0, i, r, h => by
    unfold ByteArray.toList.loop
    rw [if_neg (by omega)]; simp
  | k + 1, i, r, h => by
    unfold ByteArray.toList.loop
    rw [if_pos (by omega), bl_len bs k (i + 1) _ (by omega), List.length_cons]; omega
theorem bytes_nil (s : ByteArray) : s.toList = (ByteArray.mk #[]).toList ↔ s.size = 0 := by
  have h1 : s.toList.length = s.size := by
    show (ByteArray.toList.loop s 0 []).length = _
    rw [bl_len s s.size 0 [] (by omega)]; simp
  have h2 : (ByteArray.mk #[]).toList = [] := by
    apply List.eq_nil_of_length_eq_zero
    show (ByteArray.toList.loop (ByteArray.mk #[]) 0 []).length = _
    rw [bl_len _ 0 0 [] (by rfl)]; rfl
  rw [h2]
  constructor
  · intro h; rw [h] at h1; exact h1.symm
  · intro h; exact List.eq_nil_of_length_eq_zero (by omega)
theorem lt_zero_if {α : Type} (i : Nat) (a b : α) : (if i < 0 then a else b) = b := if_neg (Nat.not_lt_zero i)
noncomputable def A83_isName_c (s : ByteArray) : Ann := { orc := [], loops := [(0, { ι := Nat, keep := [0, 14], boxes := [], ts := fun _ i => [(15, dI (i : Int))], inv := fun _ i => i ≤ s.size ∧ ∀ j, j < i → chB s j = true, mu := fun _ i => s.size - i, rd := fun _ σ => (iOf (σ.get 15)).toNat })], cuts := [] }
abbrev q_isName_c_0 (s : ByteArray) (i : Nat) : Bool := decide (bget s (Int.toNat (i:Int)) ≥ (97:Int))
abbrev q_isName_c_1 (s : ByteArray) (i : Nat) : Bool := decide (bget s (Int.toNat (i:Int)) ≥ (65:Int))
abbrev q_isName_c_2 (s : ByteArray) (i : Nat) : Bool := decide (bget s (Int.toNat (i:Int)) ≤ (90:Int))
abbrev q_isName_c_3 (s : ByteArray) (i : Nat) : Bool := decide (bget s (Int.toNat (i:Int)) < (48:Int))
abbrev q_isName_c_4 (s : ByteArray) (i : Nat) : Bool := decide (bget s (Int.toNat (i:Int)) ≤ (122:Int))
abbrev q_isName_c_5 (s : ByteArray) : Bool := !ByteArray.toList s == ByteArray.toList (ByteArray.mk #[])
abbrev q_isName_c_6 (s : ByteArray) (i : Nat) : Bool := if (q_isName_c_0 s i) = true then (q_isName_c_4 s i) else false
abbrev q_isName_c_7 (s : ByteArray) (i : Nat) : Bool := !if (q_isName_c_0 s i) = true then (q_isName_c_4 s i) else false
abbrev q_isName_c_8 (s : ByteArray) (i : Nat) : Bool := !if (q_isName_c_6 s i) = true then true else if (q_isName_c_1 s i) = true then (q_isName_c_2 s i) else false
theorem isName_c (s : ByteArray)  : FnC prog 115 [.val (.string s)] (dB (nameF s)) := by
  refine FnC_owed hmix (A83_isName_c s) (V := .need [(q_isName_c_5 s) = true → (q_isName_c_5 s) = true, (q_isName_c_5 s) = true → (q_isName_c_5 s) = true, (ByteArray.toList s == ByteArray.toList (ByteArray.mk #[])) = false → (q_isName_c_5 s) = true] (.ite (if (ByteArray.toList s == ByteArray.toList (ByteArray.mk #[])) = true then true else decide ((↑(ByteArray.size s) : Int) > (12:Int))) (.done [false = nameF s]) (.loop Nat (fun a => a ≤ ByteArray.size s ∧ ∀ (j : Nat), j < a → chB s j = true) (0:Int).toNat [(0:Int) = (↑(0:Int).toNat : Int), s = s, (↑(ByteArray.size s) : Int) = (↑(ByteArray.size s) : Int)] fun i => .ite (decide ((i:Int) < (↑(ByteArray.size s) : Int))) (.need [(0:Int) ≤ (i:Int) ∧ (i:Int) < (↑(ByteArray.size s) : Int)] (.need [(q_isName_c_0 s i) = true → (q_isName_c_0 s i) = true, (q_isName_c_0 s i) = true → (q_isName_c_0 s i) = true, (q_isName_c_7 s i) = true → (q_isName_c_7 s i) = true, (q_isName_c_7 s i) = true → (q_isName_c_7 s i) = true, ((q_isName_c_7 s i) && (q_isName_c_1 s i)) = true → ((q_isName_c_7 s i) && (q_isName_c_1 s i)) = true, (q_isName_c_7 s i) = true → (q_isName_c_7 s i) = true, (q_isName_c_7 s i) = true → (q_isName_c_1 s i) = true → ((q_isName_c_7 s i) && (q_isName_c_1 s i)) = true, (q_isName_c_6 s i) = false → (q_isName_c_7 s i) = true] (.need [(q_isName_c_8 s i) = true → (q_isName_c_8 s i) = true, (q_isName_c_8 s i) = true → (q_isName_c_8 s i) = true, ((q_isName_c_8 s i) && !(i:Int) == (0:Int)) = true → ((q_isName_c_8 s i) && !(i:Int) == (0:Int)) = true, ((q_isName_c_8 s i) && !(i:Int) == (0:Int)) = true → ((q_isName_c_8 s i) && !(i:Int) == (0:Int)) = true, ((q_isName_c_8 s i) && !(i:Int) == (0:Int) && bget s (i:Int).toNat != (45:Int)) = true → ((q_isName_c_8 s i) && !(i:Int) == (0:Int) && bget s (i:Int).toNat != (45:Int)) = true, ((q_isName_c_8 s i) && !(i:Int) == (0:Int) && bget s (i:Int).toNat != (45:Int)) = true → ((q_isName_c_8 s i) && !(i:Int) == (0:Int) && bget s
     (i:Int).toNat != (45:Int)) = true, ((q_isName_c_8 s i) && !(i:Int) == (0:Int) && bget s (i:Int).toNat != (45:Int) && !(q_isName_c_3 s i)) = true → ((q_isName_c_8 s i) && !(i:Int) == (0:Int) && bget s (i:Int).toNat != (45:Int) && !(q_isName_c_3 s i)) = true, ((q_isName_c_8 s i) && !(i:Int) == (0:Int) && bget s (i:Int).toNat != (45:Int)) = true → ((q_isName_c_8 s i) && !(i:Int) == (0:Int) && bget s (i:Int).toNat != (45:Int)) = true, ((q_isName_c_8 s i) && !(i:Int) == (0:Int) && bget s (i:Int).toNat != (45:Int)) = true → (q_isName_c_3 s i) = false → ((q_isName_c_8 s i) && !(i:Int) == (0:Int) && bget s (i:Int).toNat != (45:Int) && !(q_isName_c_3 s i)) = true, ((q_isName_c_8 s i) && !(i:Int) == (0:Int)) = true → ((q_isName_c_8 s i) && !(i:Int) == (0:Int)) = true, ((q_isName_c_8 s i) && !(i:Int) == (0:Int)) = true → (bget s (i:Int).toNat != (45:Int)) = true → ((q_isName_c_8 s i) && !(i:Int) == (0:Int) && bget s (i:Int).toNat != (45:Int)) = true, (q_isName_c_8 s i) = true → (q_isName_c_8 s i) = true, (q_isName_c_8 s i) = true → ((i:Int) == (0:Int)) = false → ((q_isName_c_8 s i) && !(i:Int) == (0:Int)) = true, (q_isName_c_8 s i) = true → (q_isName_c_8 s i) = true] (.ite (if (q_isName_c_8 s i) = true then if ((i:Int) == (0:Int)) = true then true else if (bget s (i:Int).toNat != (45:Int)) = true then if (q_isName_c_3 s i) = true then true else decide (bget s (i:Int).toNat > (57:Int)) else false else false) (.done [false = nameF s]) (.need [i64In ((i:Int) + (1:Int))] (.done [(i:Int) + (1:Int) = (↑((i:Int) + (1:Int)).toNat : Int), s = s, (↑(ByteArray.size s) : Int) = (↑(ByteArray.size s) : Int), Int.toNat ((i:Int) + (1:Int)) ≤ ByteArray.size s ∧ ∀ (j : Nat), j < ((i:Int) + (1:Int)).toNat → chB s j = true, ByteArray.size s - ((i:Int) + (1:Int)).toNat <
     ByteArray.size s - i])))))) (.done [true = nameF s])))) (by kernel_rfl) ?_
  simp only [q_isName_c_0, q_isName_c_1, q_isName_c_2, q_isName_c_3, q_isName_c_4, q_isName_c_5, q_isName_c_6, q_isName_c_7, q_isName_c_8, VT.holds, AllT, Sq]
  simp only [bytes_nil]
  refine ⟨fun h => by rw [eq_comm, nameF, decide_eq_false_iff_not]; omega, fun h => ⟨rfl, ⟨Nat.zero_le _, fun j hj => absurd hj (Nat.not_lt_zero j)⟩, fun i ⟨hi, hb⟩ => ⟨fun hlt => ?_, fun hge => ?_⟩⟩⟩
  · have hs := bget s i
    have e1 : chB s i = true ↔ ((97 ≤ bget s i ∧ bget s i ≤ 122) ∨ (65 ≤ bget s i ∧ bget s i ≤ 90) ∨ (i ≠ 0 ∧ (bget s i = 45 ∨ (48 ≤ bget s i ∧ bget s i ≤ 57)))) := by unfold chB; rw [decide_eq_true_eq]
    refine ⟨⟨by omega, hlt⟩, fun h1 h2 => ⟨h1, h2⟩, ⟨fun h1 h2 => ⟨h1, h2⟩, fun h1 h2 => ⟨h1, h2⟩, fun h1 h2 => ⟨h1, h2⟩⟩, fun h1 => ?_, fun h1 => ⟨by unfold i64In; omega, by omega, ⟨by omega, fun j hj => ?_⟩, by omega⟩⟩
    · rw [eq_comm, nameF, decide_eq_false_iff_not]
      intro hx
      have h2 := e1.1 (hx.2.2 i (by omega))
      omega
    · rcases Nat.lt_or_ge j i with h | h
      · exact hb j h
      · rw [show j = i by omega, e1]
        omega
  · rw [eq_comm, nameF, decide_eq_true_eq]
    exact ⟨by omega, by omega, fun j hj => hb j (by omega)⟩
noncomputable def A81_isNameR_c (s : ByteArray) : Ann := { orc := [], loops := [(0, { ι := Nat, keep := [0], boxes := [], ts := fun _ i => [(3, dI (i : Int))], inv := fun _ i => i ≤ s.size ∧ ∀ j, j < i → chB s j = true, mu := fun _ i => s.size - i, rd := fun _ σ => (iOf (σ.get 3)).toNat })], cuts := [] }
abbrev q_isNameR_c_0 (s : ByteArray) : Bool := decide ((↑(ByteArray.size s) : Int) < (1:Int))
abbrev q_isNameR_c_1 (s : ByteArray) (i : Nat) : Bool := decide (bget s (Int.toNat (i:Int)) ≥ (97:Int))
abbrev q_isNameR_c_2 (s : ByteArray) (i : Nat) : Bool := decide (bget s (Int.toNat (i:Int)) ≥ (65:Int))
abbrev q_isNameR_c_3 (s : ByteArray) (i : Nat) : Bool := decide (bget s (Int.toNat (i:Int)) ≤ (90:Int))
abbrev q_isNameR_c_4 (s : ByteArray) (i : Nat) : Bool := decide (bget s (Int.toNat (i:Int)) < (48:Int))
abbrev q_isNameR_c_5 (s : ByteArray) (i : Nat) : Bool := decide (bget s (Int.toNat (i:Int)) ≤ (122:Int))
abbrev q_isNameR_c_6 (s : ByteArray) (i : Nat) : Bool := if (q_isNameR_c_1 s i) = true then (q_isNameR_c_5 s i) else false
abbrev q_isNameR_c_7 (s : ByteArray) (i : Nat) : Bool := !if (q_isNameR_c_1 s i) = true then (q_isNameR_c_5 s i) else false
abbrev q_isNameR_c_8 (s : ByteArray) (i : Nat) : Bool := !if (q_isNameR_c_6 s i) = true then true else if (q_isNameR_c_2 s i) = true then (q_isNameR_c_3 s i) else false
theorem isNameR_c (s : ByteArray)  : FnC prog 95 [.val (.string s)] (dB (nameF s)) := by
  refine FnC_owed hmix (A81_isNameR_c s) (V := .need [(!(q_isNameR_c_0 s)) = true → (!(q_isNameR_c_0 s)) = true, (!(q_isNameR_c_0 s)) = true → (!(q_isNameR_c_0 s)) = true, (q_isNameR_c_0 s) = false → (!(q_isNameR_c_0 s)) = true] (.ite (if (q_isNameR_c_0 s) = true then true else decide ((↑(ByteArray.size s) : Int) > (12:Int))) (.done [false = nameF s]) (.loop Nat (fun a => a ≤ ByteArray.size s ∧ ∀ (j : Nat), j < a → chB s j = true) (0:Int).toNat [(0:Int) = (↑(0:Int).toNat : Int), s = s] fun i => .ite (decide ((i:Int) < (↑(ByteArray.size s) : Int))) (.need [(0:Int) ≤ (i:Int) ∧ (i:Int) < (↑(ByteArray.size s) : Int)] (.need [(q_isNameR_c_1 s i) = true → (q_isNameR_c_1 s i) = true, (q_isNameR_c_1 s i) = true → (q_isNameR_c_1 s i) = true, (q_isNameR_c_7 s i) = true → (q_isNameR_c_7 s i) = true, (q_isNameR_c_7 s i) = true → (q_isNameR_c_7 s i) = true, ((q_isNameR_c_7 s i) && (q_isNameR_c_2 s i)) = true → ((q_isNameR_c_7 s i) && (q_isNameR_c_2 s i)) = true, (q_isNameR_c_7 s i) = true → (q_isNameR_c_7 s i) = true, (q_isNameR_c_7 s i) = true → (q_isNameR_c_2 s i) = true → ((q_isNameR_c_7 s i) && (q_isNameR_c_2 s i)) = true, (q_isNameR_c_6 s i) = false → (q_isNameR_c_7 s i) = true] (.need [(q_isNameR_c_8 s i) = true → (q_isNameR_c_8 s i) = true, (q_isNameR_c_8 s i) = true → (q_isNameR_c_8 s i) = true, ((q_isNameR_c_8 s i) && !(i:Int) == (0:Int)) = true → ((q_isNameR_c_8 s i) && !(i:Int) == (0:Int)) = true, ((q_isNameR_c_8 s i) && !(i:Int) == (0:Int)) = true → ((q_isNameR_c_8 s i) && !(i:Int) == (0:Int)) = true, ((q_isNameR_c_8 s i) && !(i:Int) == (0:Int) && bget s (i:Int).toNat != (45:Int)) = true → ((q_isNameR_c_8 s i) && !(i:Int) == (0:Int) && bget s (i:Int).toNat != (45:Int)) = true, ((q_isNameR_c_8 s i) && !(i:Int) == (0:Int) && bget s (i:Int).toNat != (45:Int)) = true → ((q_isNameR_c_8 s i) && !(i:Int) == (0:Int) && bget s (i:Int).toNat != (45:Int)) = true, ((q_isNameR_c_8 s i) && !(i:Int) == (0:Int)
     && bget s (i:Int).toNat != (45:Int) && !(q_isNameR_c_4 s i)) = true → ((q_isNameR_c_8 s i) && !(i:Int) == (0:Int) && bget s (i:Int).toNat != (45:Int) && !(q_isNameR_c_4 s i)) = true, ((q_isNameR_c_8 s i) && !(i:Int) == (0:Int) && bget s (i:Int).toNat != (45:Int)) = true → ((q_isNameR_c_8 s i) && !(i:Int) == (0:Int) && bget s (i:Int).toNat != (45:Int)) = true, ((q_isNameR_c_8 s i) && !(i:Int) == (0:Int) && bget s (i:Int).toNat != (45:Int)) = true → (q_isNameR_c_4 s i) = false → ((q_isNameR_c_8 s i) && !(i:Int) == (0:Int) && bget s (i:Int).toNat != (45:Int) && !(q_isNameR_c_4 s i)) = true, ((q_isNameR_c_8 s i) && !(i:Int) == (0:Int)) = true → ((q_isNameR_c_8 s i) && !(i:Int) == (0:Int)) = true, ((q_isNameR_c_8 s i) && !(i:Int) == (0:Int)) = true → (bget s (i:Int).toNat != (45:Int)) = true → ((q_isNameR_c_8 s i) && !(i:Int) == (0:Int) && bget s (i:Int).toNat != (45:Int)) = true, (q_isNameR_c_8 s i) = true → (q_isNameR_c_8 s i) = true, (q_isNameR_c_8 s i) = true → ((i:Int) == (0:Int)) = false → ((q_isNameR_c_8 s i) && !(i:Int) == (0:Int)) = true, (q_isNameR_c_8 s i) = true → (q_isNameR_c_8 s i) = true] (.ite (if (q_isNameR_c_8 s i) = true then if ((i:Int) == (0:Int)) = true then true else if (bget s (i:Int).toNat != (45:Int)) = true then if (q_isNameR_c_4 s i) = true then true else decide (bget s (i:Int).toNat > (57:Int)) else false else false) (.done [false = nameF s]) (.need [i64In ((i:Int) + (1:Int))] (.done [(i:Int) + (1:Int) = (↑((i:Int) + (1:Int)).toNat : Int), s = s, Int.toNat ((i:Int) + (1:Int)) ≤ ByteArray.size s ∧ ∀ (j : Nat), j < ((i:Int) + (1:Int)).toNat → chB s j = true, ByteArray.size s - ((i:Int) + (1:Int)).toNat < ByteArray.size s - i])))))) (.done [true = nameF s])))) (by kernel_rfl) ?_
  simp only [q_isNameR_c_0, q_isNameR_c_1, q_isNameR_c_2, q_isNameR_c_3, q_isNameR_c_4, q_isNameR_c_5, q_isNameR_c_6, q_isNameR_c_7, q_isNameR_c_8, VT.holds, AllT, Sq]
  refine ⟨fun h => by rw [eq_comm, nameF, decide_eq_false_iff_not]; omega, fun h => ⟨rfl, ⟨Nat.zero_le _, fun j hj => absurd hj (Nat.not_lt_zero j)⟩, fun i ⟨hi, hb⟩ => ⟨fun hlt => ?_, fun hge => ?_⟩⟩⟩
  · have hs := bget s i
    have e1 : chB s i = true ↔ ((97 ≤ bget s i ∧ bget s i ≤ 122) ∨ (65 ≤ bget s i ∧ bget s i ≤ 90) ∨ (i ≠ 0 ∧ (bget s i = 45 ∨ (48 ≤ bget s i ∧ bget s i ≤ 57)))) := by unfold chB; rw [decide_eq_true_eq]
    refine ⟨⟨by omega, hlt⟩, fun h1 h2 => ⟨h1, h2⟩, ⟨fun h1 h2 => ⟨h1, h2⟩, fun h1 h2 => ⟨h1, h2⟩, fun h1 h2 => ⟨h1, h2⟩⟩, fun h1 => ?_, fun h1 => ⟨by unfold i64In; omega, by omega, ⟨by omega, fun j hj => ?_⟩, by omega⟩⟩
    · rw [eq_comm, nameF, decide_eq_false_iff_not]
      intro hx
      have h2 := e1.1 (hx.2.2 i (by omega))
      omega
    · rcases Nat.lt_or_ge j i with h | h
      · exact hb j h
      · rw [show j = i by omega, e1]
        omega
  · rw [eq_comm, nameF, decide_eq_true_eq]
    exact ⟨by omega, by omega, fun j hj => hb j (by omega)⟩
noncomputable def A80_top_c (b : Bld) (i : Nat) : Ann := { orc := [], loops := [], cuts := [] }
theorem top_c (b : Bld) (i : Nat) (hi : i ≤ 1000000) : FnC prog 147 [bld b, dI (i : Int)] (dI (topF b i)) := by
  refine FnC_owed hmix (A80_top_c b i) (V := .need [i64In ((i:Int) + (1:Int))] (.ite (decide ((i:Int) + (1:Int) < (b.nS:Int))) (.need [i64In ((i:Int) + (1:Int)), (0:Int) ≤ (i:Int) + (1:Int) ∧ (i:Int) + (1:Int) < (b.nS:Int)] (.done [b.fl ((i:Int) + (1:Int)).toNat = topF b i])) (.done [b.roof = topF b i]))) (by kernel_rfl) ?_
  simp only [VT.holds, AllT, Sq]
  refine ⟨by unfold i64In; omega, fun h => ⟨⟨by unfold i64In; omega, by omega, h⟩, by rw [topF, if_pos (by omega)]⟩, fun h => by rw [topF, if_neg (by omega)]⟩
noncomputable def A45_topR_c (b : Bld) (i : Nat) : Ann := { orc := [], loops := [], cuts := [] }
theorem topR_c (b : Bld) (i : Nat) (hi : i ≤ 1000000) : FnC prog 143 [bld b, dI (i : Int)] (dI (topF b i)) := by
  refine FnC_owed hmix (A45_topR_c b i) (V := .need [i64In ((i:Int) + (1:Int))] (.ite (decide ((i:Int) + (1:Int) < (b.nS:Int))) (.need [i64In ((i:Int) + (1:Int)), (0:Int) ≤ (i:Int) + (1:Int) ∧ (i:Int) + (1:Int) < (b.nS:Int)] (.done [b.fl ((i:Int) + (1:Int)).toNat = topF b i])) (.done [b.roof = topF b i]))) (by kernel_rfl) ?_
  simp only [VT.holds, AllT, Sq]
  refine ⟨by unfold i64In; omega, fun h => ⟨⟨by unfold i64In; omega, by omega, h⟩, by rw [topF, if_pos (by omega)]⟩, fun h => by rw [topF, if_neg (by omega)]⟩
noncomputable def A37_small_c (b : Bld) : Ann := { orc := [], loops := [(0, { ι := Nat, keep := [1], boxes := [1], ts := fun _ i => [(3, dI (i : Int))], inv := fun _ i => i ≤ b.nS ∧ b.nS ≤ 25 ∧ ∀ j, j < i → manyC (b.N j) = false, mu := fun _ i => b.nS - i, rd := fun _ σ => (iOf (σ.get 3)).toNat })], cuts := [] }
abbrev q_small_c_0 (b : Bld) : Bool := decide ((b.nS:Int) > (6:Int))
abbrev q_small_c_1 (b : Bld) : Bool := decide ((b.nO:Int) > (8:Int))
abbrev q_small_c_2 (b : Bld) : Bool := decide ((b.nB:Int) > (6:Int))
abbrev q_small_c_3 (b : Bld) : Bool := decide ((b.nS:Int) ≤ (20:Int))
abbrev q_small_c_4 (b : Bld) : Bool := decide ((b.nS:Int) > (25:Int))
abbrev q_small_c_5 (b : Bld) : Bool := decide ((b.nB:Int) ≤ (50:Int))
abbrev q_small_c_6 (b : Bld) : Bool := decide ((b.nB:Int) > (55:Int))
abbrev q_small_c_7 (b : Bld) : Bool := decide ((b.nO:Int) ≤ (100:Int))
abbrev q_small_c_8 (b : Bld) : Bool := decide ((b.nO:Int) > (105:Int))
abbrev q_small_c_9 (b : Bld) : Bool := if (q_small_c_0 b) = true then (q_small_c_3 b) else false
abbrev q_small_c_10 (b : Bld) : Bool := if (q_small_c_9 b) = true then true else (q_small_c_4 b)
abbrev q_small_c_11 (b : Bld) : Bool := !if (q_small_c_9 b) = true then true else (q_small_c_4 b)
abbrev q_small_c_12 (b : Bld) (i : Nat) : Bool := decide ((↑(b.N (Int.toNat (i:Int))) : Int) > (14:Int))
abbrev q_small_c_13 (b : Bld) (i : Nat) : Bool := decide ((↑(b.N (Int.toNat (i:Int))) : Int) ≤ (40:Int))
abbrev q_small_c_14 (b : Bld) : Bool := !if (q_small_c_0 b) = true then (q_small_c_3 b) else false
abbrev q_small_c_15 (b : Bld) (i : Nat) : Bool := !if (q_small_c_12 b i) = true then (q_small_c_13 b i) else false
abbrev q_small_c_16 (b : Bld) : Bool := if (q_small_c_10 b) = true then true else if (q_small_c_1 b) = true then (q_small_c_7 b) else false
abbrev q_small_c_17 (b : Bld) : Bool := if (q_small_c_16 b) = true then true else (q_small_c_8 b)
abbrev q_small_c_18 (b : Bld) : Bool := !if (q_small_c_16 b) = true then true else (q_small_c_8 b)
abbrev q_small_c_19 (b : Bld) : Bool := if (q_small_c_17 b) = true then true else if (q_small_c_2 b) = true then (q_small_c_5 b) else false
abbrev q_small_c_20 (b : Bld) : Bool := !if (q_small_c_19 b) = true then true else (q_small_c_6 b)
abbrev q_small_c_21 (b : Bld) : Bool := !if (q_small_c_10 b) = true then true else if (q_small_c_1 b) = true then (q_small_c_7 b) else false
abbrev q_small_c_22 (b : Bld) : Bool := !if (q_small_c_17 b) = true then true else if (q_small_c_2 b) = true then (q_small_c_5 b) else false
abbrev small_cr0 (b : Bld) (r : List Prop) : List Prop := (b.name = b.name) :: (b.nS = b.nS) :: (∀ i < b.nS, b.fl i = b.fl i) :: (∀ i < b.nS, b.N i = b.N i ∧ (∀ i_1 < b.N i, b.X i i_1 = b.X i i_1) ∧ ∀ i_1 < b.N i, b.Y i i_1 = b.Y i i_1) :: (b.roof = b.roof) :: (b.nO = b.nO) :: (∀ i < b.nO, b.O i (0:Nat) = b.O i (0:Nat)) :: (∀ i < b.nO, b.O i (1:Nat) = b.O i (1:Nat)) :: (∀ i < b.nO, b.O i (2:Nat) = b.O i (2:Nat)) :: (∀ i < b.nO, b.O i (3:Nat) = b.O i (3:Nat)) :: (∀ i < b.nO, b.O i (4:Nat) = b.O i (4:Nat)) :: (∀ i < b.nO, b.O i (5:Nat) = b.O i (5:Nat)) :: (b.nB = b.nB) :: (∀ i < b.nB, b.B i (0:Nat) = b.B i (0:Nat)) :: (∀ i < b.nB, b.B i (1:Nat) = b.B i (1:Nat)) :: (∀ i < b.nB, b.B i (2:Nat) = b.B i (2:Nat)) :: (∀ i < b.nB, b.B i (3:Nat) = b.B i (3:Nat)) :: (∀ i < b.nB, b.B i (4:Nat) = b.B i (4:Nat)) :: (∀ i < b.nB, b.B i (5:Nat) = b.B i (5:Nat)) :: r
theorem small_c (b : Bld)  : FnC prog 29 [bld b] (dB (smallF b)) := by
  refine FnC_owed hmix (A37_small_c b) (V := .need [(q_small_c_0 b) = true → (q_small_c_0 b) = true, (q_small_c_0 b) = true → (q_small_c_0 b) = true, (q_small_c_0 b) = true → (q_small_c_0 b) = true, (q_small_c_0 b) = true → (q_small_c_0 b) = true, (q_small_c_14 b) = true → (q_small_c_14 b) = true, (q_small_c_14 b) = true → (q_small_c_14 b) = true, (q_small_c_14 b) = true → (q_small_c_14 b) = true, (q_small_c_9 b) = false → (q_small_c_14 b) = true, (q_small_c_11 b) = true → (q_small_c_11 b) = true, (q_small_c_11 b) = true → (q_small_c_11 b) = true, (q_small_c_11 b) = true → (q_small_c_11 b) = true, (q_small_c_11 b) = true → (q_small_c_11 b) = true, ((q_small_c_11 b) && (q_small_c_1 b)) = true → ((q_small_c_11 b) && (q_small_c_1 b)) = true, ((q_small_c_11 b) && (q_small_c_1 b)) = true → ((q_small_c_11 b) && (q_small_c_1 b)) = true, ((q_small_c_11 b) && (q_small_c_1 b)) = true → ((q_small_c_11 b) && (q_small_c_1 b)) = true, (q_small_c_11 b) = true → (q_small_c_11 b) = true, (q_small_c_11 b) = true → (q_small_c_1 b) = true → ((q_small_c_11 b) && (q_small_c_1 b)) = true, (q_small_c_10 b) = false → (q_small_c_11 b) = true, (q_small_c_21 b) = true → (q_small_c_21 b) = true, (q_small_c_21 b) = true → (q_small_c_21 b) = true, (q_small_c_21 b) = true → (q_small_c_21 b) = true, (q_small_c_16 b) = false → (q_small_c_21 b) = true, (q_small_c_18 b) = true → (q_small_c_18 b) = true, (q_small_c_18 b) = true → (q_small_c_18 b) = true, (q_small_c_18 b) = true → (q_small_c_18 b) = true, (q_small_c_18 b) = true → (q_small_c_18 b) = true, ((q_small_c_18 b) && (q_small_c_2 b)) = true → ((q_small_c_18 b) && (q_small_c_2 b)) = true, ((q_small_c_18 b) && (q_small_c_2 b)) = true → ((q_small_c_18 b) && (q_small_c_2 b)) = true, ((q_small_c_18 b) && (q_small_c_2 b)) = true → ((q_small_c_18 b) && (q_small_c_2 b)) = true, (q_small_c_18 b) = true → (q_small_c_18 b) = true, (q_small_c_18 b) = true → (q_small_c_2 b) = true → ((q_small_c_18 b) && (q_small_c_2 b)) = true, (q_small_c_17 b) = false → (q_small_c_18 b) = true, (q_small_c_22 b) = true
     → (q_small_c_22 b) = true, (q_small_c_22 b) = true → (q_small_c_22 b) = true, (q_small_c_22 b) = true → (q_small_c_22 b) = true, (q_small_c_19 b) = false → (q_small_c_22 b) = true, (q_small_c_20 b) = true → (q_small_c_20 b) = true, (q_small_c_20 b) = true → (q_small_c_20 b) = true, (q_small_c_20 b) = true → (q_small_c_20 b) = true, (if (q_small_c_19 b) = true then true else (q_small_c_6 b)) = false → (q_small_c_20 b) = true] (.ite (if (if (q_small_c_19 b) = true then true else (q_small_c_6 b)) = true then true else decide ((↑(ByteArray.size b.name) : Int) > (100:Int))) (.done [false = smallF b]) (.loop Nat (fun a => a ≤ b.nS ∧ b.nS ≤ (25:Nat) ∧ ∀ (j : Nat), j < a → manyC (b.N j) = false) (0:Int).toNat (((0:Int) = (↑(0:Int).toNat : Int)) :: (small_cr0 b [])) fun i => .ite (decide ((i:Int) < (b.nS:Int))) (.need [(0:Int) ≤ (i:Int) ∧ (i:Int) < (b.nS:Int)] (.need [(q_small_c_12 b i) = true → (q_small_c_12 b i) = true, (q_small_c_12 b i) = true → (q_small_c_12 b i) = true, (q_small_c_15 b i) = true → (q_small_c_15 b i) = true, (if (q_small_c_12 b i) = true then (q_small_c_13 b i) else false) = false → (q_small_c_15 b i) = true] (.ite (if (if (q_small_c_12 b i) = true then (q_small_c_13 b i) else false) = true then true else decide ((↑(b.N (i:Int).toNat) : Int) > (45:Int))) (.done [false = smallF b]) (.need [i64In ((i:Int) + (1:Int))] (.done (((i:Int) + (1:Int) = (↑((i:Int) + (1:Int)).toNat : Int)) :: (small_cr0 b [Int.toNat ((i:Int) + (1:Int)) ≤ b.nS ∧ b.nS ≤ (25:Nat) ∧ ∀ (j : Nat), j < ((i:Int) + (1:Int)).toNat → manyC (b.N j) = false, b.nS - ((i:Int) + (1:Int)).toNat < b.nS - i]))))))) (.done [true = smallF b])))) (by kernel_rfl) ?_
  simp only [q_small_c_0, q_small_c_1, q_small_c_2, q_small_c_3, q_small_c_4, q_small_c_5, q_small_c_6, q_small_c_7, q_small_c_8, q_small_c_9, q_small_c_10, q_small_c_11, q_small_c_12, q_small_c_13, q_small_c_14, q_small_c_15, q_small_c_16, q_small_c_17, q_small_c_18, q_small_c_19, q_small_c_20, q_small_c_21, q_small_c_22, VT.holds, AllT, Sq]
  refine ⟨⟨fun h1 h2 => ⟨h1, h2⟩, fun h1 h2 => ⟨h1, h2⟩⟩, fun h => ?_, fun h => ⟨rfl, ⟨Nat.zero_le _, by omega, fun j hj => absurd hj (Nat.not_lt_zero j)⟩, fun i ⟨hi, h25, hb⟩ => ⟨fun hlt => ⟨⟨by omega, hlt⟩, fun h1 => ?_, fun h1 => ⟨by unfold i64In; omega, by omega, ⟨by omega, h25, fun j hj => ?_⟩, by omega⟩⟩, fun hge => ?_⟩⟩⟩
  · rw [eq_comm, smallF, decide_eq_false_iff_not]
    intro hx
    have := hx.1
    omega
  · rw [eq_comm, smallF, decide_eq_false_iff_not]
    intro hx
    have h2 := hx.2 i (by omega)
    rw [manyC, decide_eq_false_iff_not] at h2
    omega
  · rcases Nat.lt_or_ge j i with h2 | h2
    · exact hb j h2
    · rw [show j = i by omega, manyC, decide_eq_false_iff_not]
      omega
  · rw [eq_comm, smallF, decide_eq_true_eq]
    exact ⟨by omega, fun j hj => hb j (by omega)⟩
noncomputable def A39_copied_c (b : Bld) : Ann := { orc := [(5, [(14, rPts)])], loops := [(0, { ι := Nat, keep := [1, 2, 3], boxes := [1, 2], ts := fun _ i => [(4, dI (i : Int))], bx := fun σ i => [(3, [.val (.string b.name), .row 2 (σ.nx + 50) 0 i, dI b.roof, .row 6 (σ.nx + 51) 0 b.nO, .row 6 (σ.nx + 52) 0 b.nB])], rb := fun _ i => [(3, 1, 2, i, stoC b), (3, 3, 6, b.nO, opeC b), (3, 4, 6, b.nB, boxC b)], inv := fun _ i => i ≤ b.nS, mu := fun _ i => b.nS - i, rd := fun _ σ => (iOf (σ.get 4)).toNat })], cuts := [] }
abbrev copied_cr0 (b : Bld) (r : List Prop) : List Prop := (b.nO = b.nO) :: (∀ i < b.nO, b.O i (0:Nat) = b.O i (0:Nat)) :: (∀ i < b.nO, b.O i (1:Nat) = b.O i (1:Nat)) :: (∀ i < b.nO, b.O i (2:Nat) = b.O i (2:Nat)) :: (∀ i < b.nO, b.O i (3:Nat) = b.O i (3:Nat)) :: (∀ i < b.nO, b.O i (4:Nat) = b.O i (4:Nat)) :: (∀ i < b.nO, b.O i (5:Nat) = b.O i (5:Nat)) :: (b.nB = b.nB) :: (∀ i < b.nB, b.B i (0:Nat) = b.B i (0:Nat)) :: (∀ i < b.nB, b.B i (1:Nat) = b.B i (1:Nat)) :: (∀ i < b.nB, b.B i (2:Nat) = b.B i (2:Nat)) :: (∀ i < b.nB, b.B i (3:Nat) = b.B i (3:Nat)) :: (∀ i < b.nB, b.B i (4:Nat) = b.B i (4:Nat)) :: (∀ i < b.nB, b.B i (5:Nat) = b.B i (5:Nat)) :: r
abbrev copied_cr1 (b : Bld) (r : List Prop) : List Prop := (∀ i < b.nS, b.fl i = b.fl i) :: (∀ i < b.nS, b.N i = b.N i ∧ (∀ i_1 < b.N i, b.X i i_1 = b.X i i_1) ∧ ∀ i_1 < b.N i, b.Y i i_1 = b.Y i i_1) :: (b.roof = b.roof) :: r
abbrev copied_cr2 (r : List Prop) : List Prop := (ByteArray.mk #[] = ByteArray.mk #[]) :: (Value.slice none (0:Nat) (0:Nat) = Value.slice none (0:Nat) (0:Nat)) :: ((0:Int) = (0:Int)) :: (Value.slice none (0:Nat) (0:Nat) = Value.slice none (0:Nat) (0:Nat)) :: (Value.slice none (0:Nat) (0:Nat) = Value.slice none (0:Nat) (0:Nat)) :: r
theorem copied_c (b : Bld) (hS : b.nS ≤ 1000) (hO : b.nO ≤ 1000) (hB : b.nB ≤ 1000) (hN : ∀ i, i < b.nS → b.N i ≤ 1000) : FnC prog 13 [bld b] (bld b) := by
  refine FnC_owed hmix (A39_copied_c b) (V := .need [(0:Nat) ≤ (0:Nat), ((0:Nat) + b.nO) * (nat_lit 47 + (1:Nat)) ≤ (140737488355328:Nat), (0:Nat) ≤ (0:Nat), ((0:Nat) + b.nB) * (nat_lit 47 + (1:Nat)) ≤ (140737488355328:Nat)] (.loop Nat (fun a => a ≤ b.nS) (0:Int).toNat (((0:Int) = (↑(0:Int).toNat : Int)) :: ((Int.toNat (0:Int) = (0:Nat)) :: (((0:Nat) + b.nO = b.nO) :: ((∀ i < b.nO, (if decide (i < (0:Nat)) = true then (0:Int) else b.O (i - (0:Nat)) (0:Nat)) = b.O i (0:Nat)) :: ((∀ i < b.nO, (if decide (i < (0:Nat)) = true then (0:Int) else b.O (i - (0:Nat)) (1:Nat)) = b.O i (1:Nat)) :: ((∀ i < b.nO, (if decide (i < (0:Nat)) = true then (0:Int) else b.O (i - (0:Nat)) (2:Nat)) = b.O i (2:Nat)) :: ((∀ i < b.nO, (if decide (i < (0:Nat)) = true then (0:Int) else b.O (i - (0:Nat)) (3:Nat)) = b.O i (3:Nat)) :: ((∀ i < b.nO, (if decide (i < (0:Nat)) = true then (0:Int) else b.O (i - (0:Nat)) (4:Nat)) = b.O i (4:Nat)) :: ((∀ i < b.nO, (if decide (i < (0:Nat)) = true then (0:Int) else b.O (i - (0:Nat)) (5:Nat)) = b.O i (5:Nat)) :: (((0:Nat) + b.nB = b.nB) :: ((∀ i < b.nB, (if decide (i < (0:Nat)) = true then (0:Int) else b.B (i - (0:Nat)) (0:Nat)) = b.B i (0:Nat)) :: ((∀ i < b.nB, (if decide (i < (0:Nat)) = true then (0:Int) else b.B (i - (0:Nat)) (1:Nat)) = b.B i (1:Nat)) :: ((∀ i < b.nB, (if decide (i < (0:Nat)) = true then (0:Int) else b.B (i - (0:Nat)) (2:Nat)) = b.B i (2:Nat)) :: ((∀ i < b.nB, (if decide (i < (0:Nat)) = true then (0:Int) else b.B (i - (0:Nat)) (3:Nat)) = b.B i (3:Nat)) :: ((∀ i < b.nB, (if decide (i < (0:Nat)) = true then (0:Int) else b.B (i - (0:Nat)) (4:Nat)) = b.B i (4:Nat)) :: ((∀ i < b.nB, (if decide (i < (0:Nat)) = true then (0:Int) else b.B (i - (0:Nat)) (5:Nat)) = b.B i (5:Nat)) ::
     ((b.name = b.name) :: (((0:Nat) = (0:Nat)) :: ((Int.toNat (0:Int) = (0:Nat)) :: ((b.roof = b.roof) :: (((0:Nat) = (0:Nat)) :: (((0:Nat) + b.nO = b.nO) :: (((0:Nat) = (0:Nat)) :: (((0:Nat) + b.nB = b.nB) :: ((b.name = b.name) :: ((b.nS = b.nS) :: (copied_cr1 b (copied_cr0 b (copied_cr2 []))))))))))))))))))))))))))))) fun i => .ite (decide ((i:Int) < (b.nS:Int))) (.need [(0:Int) ≤ (i:Int) ∧ (i:Int) < (b.nS:Int), (0:Int) ≤ (i:Int) ∧ (i:Int) < (b.nS:Int), FnC prog 46 [.lst (b.N (i:Int).toNat) [fun i_1 => (dI (b.X (i:Int).toNat i_1)), fun i_1 => (dI (b.Y (i:Int).toNat i_1))]] (.lst (b.N (i:Int).toNat) [fun i_1 => (dI (b.X (i:Int).toNat i_1)), fun i_1 => (dI (b.Y (i:Int).toNat i_1))]), i ≤ i, (i + (1:Nat)) * (nat_lit 31 + (1:Nat)) ≤ (140737488355328:Nat), (1:Nat) ≤ (1:Nat)] (.need [i64In ((i:Int) + (1:Int))] (.done (((i:Int) + (1:Int) = (↑((i:Int) + (1:Int)).toNat : Int)) :: ((i + (1:Nat) = ((i:Int) + (1:Int)).toNat) :: ((∀ i_1 < ((i:Int) + (1:Int)).toNat, (if decide (i_1 < i) = true then b.fl i_1 else b.fl (i:Int).toNat) = b.fl i_1) :: ((∀ i_1 < ((i:Int) + (1:Int)).toNat, (if decide (i_1 < i) = true then b.N i_1 else b.N (i:Int).toNat) = b.N i_1 ∧ (∀ i_2 < b.N i_1, (if decide (i_1 < i) = true then b.X i_1 i_2 else b.X (i:Int).toNat i_2) = b.X i_1 i_2) ∧ ∀ i_2 < b.N i_1, (if decide (i_1 < i) = true then b.Y i_1 i_2 else b.Y (i:Int).toNat i_2) = b.Y i_1 i_2) :: (copied_cr0 b ((b.name = b.name) :: (((0:Nat) = (0:Nat)) :: ((i + (1:Nat) = ((i:Int) + (1:Int)).toNat) :: ((b.roof = b.roof) :: (((0:Nat) = (0:Nat)) :: ((b.nO = b.nO) :: (((0:Nat) = (0:Nat)) :: ((b.nB = b.nB) :: ((b.name = b.name) :: ((b.nS = b.nS) :: (copied_cr1 b (copied_cr0 b (copied_cr2 [Int.toNat ((i:Int) + (1:Int)) ≤ b.nS,
     b.nS - ((i:Int) + (1:Int)).toNat < b.nS - i]))))))))))))))))))))) (.done ((i ≤ i) :: ((b.nO ≤ b.nO) :: ((b.nB ≤ b.nB) :: ((b.name = b.name) :: ((i = b.nS) :: (copied_cr1 b (copied_cr0 b [])))))))))) (by kernel_rfl) ?_
  simp only [VT.holds, AllT, copied_cr0, copied_cr1, copied_cr2, Sq]
  simp only [lt_zero_if, Nat.sub_zero, Nat.zero_add, implies_true, and_true, true_and]
  refine ⟨⟨Nat.le_refl _, by omega, Nat.le_refl _, by omega⟩, rfl, Nat.zero_le _, fun i hi => ⟨fun hlt => ?_, fun hge => by omega⟩⟩
  have hNi := hN i (by omega)
  refine ⟨⟨⟨by omega, hlt⟩, ⟨by omega, hlt⟩, points_c _ _ _ (by omega), Nat.le_refl _, by omega, Nat.le_refl _⟩, by unfold i64In; omega, by omega, last_if (f := b.fl) rfl, fun j hj => ?_, by omega, by omega⟩
  by_cases h : j < i
  · simp only [if_pos h, implies_true, and_true]
  · have : j = i := by omega
    subst this
    simp only [Nat.lt_irrefl, if_false, implies_true, and_true]
end Go.Abs
