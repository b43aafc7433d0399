/- Contracts. -/
import Derived.Test.YtmcgfoacmalbjaaGreatDoorK61
set_option maxRecDepth 100000
namespace Go.Abs
open Go
def nodW : ByteArray := ⟨#[110, 111, 100, 101]⟩
def memW : ByteArray := ⟨#[109, 101, 109, 98, 101, 114]⟩
def isM (R : Nat → ByteArray) : Nat → Nat
  | 0 => 0
  | i + 1 => if lnK (R i) nodW 3 = true ∧ isM R i = 0 then isM R i else if lnK (R i) memW 3 = true then isM R i + 1 else isM R i
def tkN (R : Nat → ByteArray) (i : Nat) : Bool := lnK (R i) nodW 3 && decide (isM R i = 0)
def tkM (R : Nat → ByteArray) (i : Nat) : Bool := !tkN R i && lnK (R i) memW 3
def paN (R : Nat → ByteArray) (i : Nat) : Nat := flN (tkN R) i
def paM (R : Nat → ByteArray) (i : Nat) : Nat := flN (tkM R) i
def paS (R : Nat → ByteArray) (i : Nat) : Scf where
  nN := flN (tkN R) i
  X q := lnX (R (flI (tkN R) i q)) nodW 0
  Y q := lnX (R (flI (tkN R) i q)) nodW 1
  Z q := lnX (R (flI (tkN R) i q)) nodW 2
  nM := flN (tkM R) i
  K q := lnX (R (flI (tkM R) i q)) memW 0
  A q := lnX (R (flI (tkM R) i q)) memW 1
  B q := lnX (R (flI (tkM R) i q)) memW 2
def badR (R : Nat → ByteArray) (i : Nat) : Bool := !tkN R i && !tkM R i
def paF (R : Nat → ByteArray) : Nat → Nat
  | 0 => 0
  | i + 1 => if paF R i ≠ 0 then paF R i else if badR R i = true then i + 1 else 0
def paE (t : ByteArray) : Int := if (t.size : Int) > 60000 then 8 else if paF (cutS t 10) (cutN t 10 - 1) ≠ 0 then 7 else if (cutS t 10 (cutN t 10 - 1)).toList = [] then chkE (paS (cutS t 10) (cutN t 10 - 1)) else 7
def paL (t : ByteArray) : Int := if (t.size : Int) > 60000 then 0 else if paF (cutS t 10) (cutN t 10 - 1) ≠ 0 then paF (cutS t 10) (cutN t 10 - 1) else if (cutS t 10 (cutN t 10 - 1)).toList = [] then 0 else cutN t 10
def paR (t : ByteArray) : Scf := if paE t = 0 then paS (cutS t 10) (cutN t 10 - 1) else ⟨0, fun _ => 0, fun _ => 0, fun _ => 0, 0, fun _ => 0, fun _ => 0, fun _ => 0⟩
abbrev nodC (s : Scf) : List (Nat → DV) := [fun i => dI (s.X i), fun i => dI (s.Y i), fun i => dI (s.Z i)]
abbrev memC (s : Scf) : List (Nat → DV) := [fun i => dI (s.K i), fun i => dI (s.A i), fun i => dI (s.B i)]
abbrev lnD (s w : ByteArray) : DV := .tup [.agg [dI (lnX s w 0), dI (lnX s w 1), dI (lnX s w 2)], dB (lnK s w 3)]
theorem toList_nil : ({ data := #[] } : ByteArray).toList = [] := by
  rw [ByteArray.toList, ByteArray.toList.loop]
  rfl
theorem isM_is (R : Nat → ByteArray) : ∀ i, isM R i = paM R i
  | 0 => rfl
  | i + 1 => by
    have ih := isM_is R i
    show _ = flN (tkM R) (i + 1)
    rw [isM, flN, tkM, tkN, ih]
    cases e1 : lnK (R i) nodW 3 <;> cases e2 : lnK (R i) memW 3 <;> by_cases e3 : paM R i = 0 <;> simp [e3] <;> (unfold paM at *; omega)
theorem flI_get {p : Nat → Bool} {k : Nat} (h : p k = true) {α : Type} (f : Nat → α) {j : Nat} (hj : j < flN p (k + 1)) : (if j < flN p k then f (flI p k j) else f k) = f (flI p (k + 1) j) := by
  have := flI_yes h f hj
  simpa only [decide_eq_true_eq] using this
theorem tk_node {R : Nat → ByteArray} {i : Nat} (h : lnK (R i) nodW 3 = true) (h2 : ((paM R i : Nat) : Int) = 0) : tkN R i = true ∧ ¬ tkM R i = true ∧ badR R i = false := by
  have e : tkN R i = true := by rw [tkN, h, isM_is, decide_eq_true (by omega)]; rfl
  refine ⟨e, ?_, ?_⟩
  · rw [tkM, e]; simp
  · rw [badR, e]; rfl
theorem tk_memb {R : Nat → ByteArray} {i : Nat} (h : lnK (R i) nodW 3 = true → ¬ ((paM R i : Nat) : Int) = 0) (h2 : lnK (R i) memW 3 = true) : (¬ tkN R i = true) ∧ tkM R i = true ∧ badR R i = false := by
  have e : tkN R i = false := by
    rw [tkN, isM_is]
    cases e : lnK (R i) nodW 3 with
    | false => rfl
    | true => rw [decide_eq_false (by have := h e; omega)]; rfl
  have e2 : tkM R i = true := by rw [tkM, e, h2]; rfl
  exact ⟨by rw [e]; decide, e2, by rw [badR, e, e2]; rfl⟩
theorem tk_bad {R : Nat → ByteArray} {i : Nat} (h : lnK (R i) nodW 3 = true → ¬ ((paM R i : Nat) : Int) = 0) (h2 : lnK (R i) memW 3 = false) : badR R i = true := by
  have e : tkN R i = false := by
    rw [tkN, isM_is]
    cases e : lnK (R i) nodW 3 with
    | false => rfl
    | true => rw [decide_eq_false (by have := h e; omega)]; rfl
  rw [badR, e, tkM, e, h2]; rfl
theorem paF_ok {R : Nat → ByteArray} {i : Nat} (h : paF R i = 0) (h2 : badR R i = false) : paF R (i + 1) = 0 := by
  rw [paF, if_neg (fun h' => h' h), h2]; rfl
theorem paF_bad {R : Nat → ByteArray} {i : Nat} (h : paF R i = 0) (h2 : badR R i = true) : ∀ {n : Nat}, i < n → paF R n = i + 1
  | 0, hn => absurd hn (Nat.not_lt_zero _)
  | n + 1, hn => by
    rcases Nat.lt_or_ge i n with h1 | h1
    · have := paF_bad h h2 h1
      rw [paF, if_pos (by omega), this]
    · obtain rfl : n = i := by omega
      rw [paF, if_neg (fun h' => h' h), if_pos h2]
theorem paR_bad {t : ByteArray} (h : paE t ≠ 0) : (paR t).nN = 0 ∧ (paR t).nM = 0 := by
  rw [paR, if_neg h]; exact ⟨rfl, rfl⟩
theorem paR_ok {t : ByteArray} (h : paE t = 0) : paR t = paS (cutS t 10) (cutN t 10 - 1) := by
  rw [paR, if_pos h]
theorem paN_le (R : Nat → ByteArray) (i : Nat) : paN R i ≤ i := flN_le _ _
theorem paM_le (R : Nat → ByteArray) (i : Nat) : paM R i ≤ i := flN_le _ _
noncomputable def A11_parseR_c (t : ByteArray) : Ann := { orc := [(3, [(1, .res fun q => .lst (cutN (sO (arg q 0)) (aI q 1)) [fun j => dS (cutS (sO (arg q 0)) (aI q 1) j)])]), (8, [(4, .res fun q => lnD (sO (arg q 0)) (sO (arg q 1)))]), (9, [(4, .res fun q => lnD (sO (arg q 0)) (sO (arg q 1)))]), (17, [(1, .res fun _ => dI (chkE (paS (cutS t 10) (cutN t 10 - 1))))])], loops := [(0, { ι := Nat, keep := [2, 5, 6], boxes := [2], ts := fun _ i => [(7, dI (i : Int))], bx := fun σ i => [(6, [.row 3 (σ.nx + 50) 0 (paN (cutS t 10) i), .row 3 (σ.nx + 51) 0 (paM (cutS t 10) i)])], rb := fun _ i => [(6, 0, 3, paN (cutS t 10) i, nodC (paS (cutS t 10) i)), (6, 1, 3, paM (cutS t 10) i, memC (paS (cutS t 10) i))], inv := fun _ i => i ≤ cutN t 10 - 1 ∧ paF (cutS t 10) i = 0, mu := fun _ i => cutN t 10 - 1 - i, rd := fun _ σ => (iOf (σ.get 7)).toNat })], cuts := [] }
noncomputable abbrev qbc (i_1 : Nat) (t : ByteArray) (i : Nat) : Bool := decide (i_1 < paN (cutS t (10:Int)) i)
noncomputable abbrev q7b (i_1 : Nat) (t : ByteArray) (i : Nat) : Bool := decide (i_1 < paM (cutS t (10:Int)) i)
noncomputable abbrev parseR_cr0 (r : List Prop) : List Prop := (Value.slice none (0:Nat) (0:Nat) = Value.slice none (0:Nat) (0:Nat)) :: (Value.slice none (0:Nat) (0:Nat) = Value.slice none (0:Nat) (0:Nat)) :: r
theorem parseR_c (t : ByteArray) (ht : t.size ≤ 1000000) : FnC prog 11 [dS t] (.tup [scfD (paR t), dI (paL t), dI (paE t)]) := by
  refine FnC_owed hmix (A11_parseR_c t) (V := .ite (decide ((↑(ByteArray.size t) : Int) > 60000)) (.done [(paR t).nN = 0, (paR t).nM = 0, (0:Int) = paL t, (8:Int) = paE t]) (.need [FnC prog 30 [.val (.string t), .val (Value.int IntKind.u8 (10:Int))] (.lst (cutN t (10:Int)) [fun j => .val (.string (cutS t (10:Int) j))])] (.loop Nat (fun a => a ≤ cutN t (10:Int) - 1 ∧ paF (cutS t (10:Int)) a = 0) (0:Int).toNat (((0:Int) = (↑(0:Int).toNat : Int)) :: ((cutN t (10:Int) = cutN t (10:Int)) :: ((∀ i < cutN t (10:Int), cutS t (10:Int) i = cutS t (10:Int) i) :: ((paN (cutS t (10:Int)) (0:Int).toNat = 0) :: ((paM (cutS t (10:Int)) (0:Int).toNat = 0) :: (((0:Nat) = 0) :: ((paN (cutS t (10:Int)) (0:Int).toNat = 0) :: (((0:Nat) = 0) :: ((paM (cutS t (10:Int)) (0:Int).toNat = 0) :: (parseR_cr0 [])))))))))) fun i => .need [i64In ((↑(cutN t (10:Int)) : Int) - 1)] (.ite (decide ((i:Int) < (↑(cutN t (10:Int)) : Int) - 1)) (.need [(0:Int) ≤ (i:Int) ∧ (i:Int) < (↑(cutN t (10:Int)) : Int), FnC prog 31 [.val (.string (cutS t (10:Int) (i:Int).toNat)), .val (.string (ByteArray.mk #[(110 : UInt8), (111 : UInt8), (100 : UInt8), (101 : UInt8)]))] (.tup [.agg [(dI (lnX (cutS t (10:Int) (i:Int).toNat) (ByteArray.mk #[(110 : UInt8), (111 : UInt8), (100 : UInt8), (101 : UInt8)]) (0:Nat))), (dI (lnX (cutS t (10:Int) (i:Int).toNat) (ByteArray.mk #[(110 : UInt8), (111 : UInt8), (100 : UInt8), (101 : UInt8)]) (1:Nat))), (dI (lnX (cutS t (10:Int) (i:Int).toNat) (ByteArray.mk #[(110 : UInt8), (111 : UInt8), (100 : UInt8), (101 : UInt8)]) (2:Nat)))], (dB (lnK (cutS t (10:Int) (i:Int).toNat) (ByteArray.mk #[(110 : UInt8), (111 : UInt8), (100 : UInt8), (101 : UInt8)]) (3:Nat)))])] (.need [(0:Int) ≤ (i:Int) ∧ (i:Int) < (↑(cutN t (10:Int)) : Int), FnC
     prog 31 [.val (.string (cutS t (10:Int) (i:Int).toNat)), .val (.string (ByteArray.mk #[(109 : UInt8), (101 : UInt8), (109 : UInt8), (98 : UInt8), (101 : UInt8), (114 : UInt8)]))] (.tup [.agg [(dI (lnX (cutS t (10:Int) (i:Int).toNat) (ByteArray.mk #[(109 : UInt8), (101 : UInt8), (109 : UInt8), (98 : UInt8), (101 : UInt8), (114 : UInt8)]) (0:Nat))), (dI (lnX (cutS t (10:Int) (i:Int).toNat) (ByteArray.mk #[(109 : UInt8), (101 : UInt8), (109 : UInt8), (98 : UInt8), (101 : UInt8), (114 : UInt8)]) (1:Nat))), (dI (lnX (cutS t (10:Int) (i:Int).toNat) (ByteArray.mk #[(109 : UInt8), (101 : UInt8), (109 : UInt8), (98 : UInt8), (101 : UInt8), (114 : UInt8)]) (2:Nat)))], (dB (lnK (cutS t (10:Int) (i:Int).toNat) (ByteArray.mk #[(109 : UInt8), (101 : UInt8), (109 : UInt8), (98 : UInt8), (101 : UInt8), (114 : UInt8)]) (3:Nat)))])] (.need [ri (lnK (cutS t (10:Int) (i:Int).toNat) (ByteArray.mk #[(110 : UInt8), (111 : UInt8), (100 : UInt8), (101 : UInt8)]) (3:Nat) = true), ri (lnK (cutS t (10:Int) (i:Int).toNat) (ByteArray.mk #[(110 : UInt8), (111 : UInt8), (100 : UInt8), (101 : UInt8)]) (3:Nat) = true), ri (lnK (cutS t (10:Int) (i:Int).toNat) (ByteArray.mk #[(110 : UInt8), (111 : UInt8), (100 : UInt8), (101 : UInt8)]) (3:Nat) = true), ri (lnK (cutS t (10:Int) (i:Int).toNat) (ByteArray.mk #[(110 : UInt8), (111 : UInt8), (100 : UInt8), (101 : UInt8)]) (3:Nat) = true)] (.ite (if lnK (cutS t (10:Int) (i:Int).toNat) (ByteArray.mk #[(110 : UInt8), (111 : UInt8), (100 : UInt8), (101 : UInt8)]) (3:Nat) = true then (↑(paM (cutS t (10:Int)) i) : Int) == 0 else false) (.need [(0:Int) ≤ 0 ∧ (0:Int) < (↑(3:Nat) : Int), (0:Int) ≤ 1 ∧ (1:Int) < (↑(3:Nat) : Int), (0:Int) ≤ 2 ∧ (2:Int) < (↑(3:Nat) : Int), paN (cutS t (10:Int)) i ≤ paN (cutS t (10:Int)) i, (paN (cutS t (10:Int)) i + 1) * (nat_lit 23 + 1) ≤ 140737488355328, (1:Nat) ≤ 1] (.need [i64In ((i:Int) + 1)] (.done (((i:Int) + 1 = (↑((i:Int) + 1).toNat : Int)) :: ((cutN t (10:Int) = cutN t (10:Int)) :: ((∀ i < cutN t (10:Int), cutS t (10:Int) i = cutS t (10:Int) i) :: ((paN (cutS t (10:Int)) i + 1 = paN (cutS t (10:Int)) ((i:Int) + 1).toNat) :: ((∀ i_1 < paN (cutS t (10:Int)) ((i:Int) + 1).toNat, (if (qbc i_1 t i) = true then (paS (cutS t (10:Int)) i).2 i_1 else lnX (cutS t (10:Int) (i:Int).toNat) (ByteArray.mk #[(110 : UInt8), (111 : UInt8), (100 : UInt8), (101 : UInt8)]) (0:Nat)) = (paS (cutS t (10:Int)) ((i:Int) + 1).toNat).2 i_1) :: ((∀ i_1 < paN (cutS t (10:Int)) ((i:Int) + 1).toNat, (if (qbc i_1 t i) = true then (paS (cutS t (10:Int)) i).3 i_1 else lnX (cutS t (10:Int) (i:Int).toNat) (ByteArray.mk #[(110 : UInt8), (111 : UInt8), (100 : UInt8), (101 : UInt8)]) (1:Nat)) = (paS (cutS t (10:Int)) ((i:Int) + 1).toNat).3 i_1) :: ((∀ i_1 < paN (cutS t (10:Int)) ((i:Int) + 1).toNat, (if (qbc i_1 t i) = true then (paS (cutS t (10:Int)) i).4 i_1 else lnX (cutS t (10:Int) (i:Int).toNat) (ByteArray.mk #[(110 : UInt8), (111 : UInt8), (100 : UInt8), (101
     : UInt8)]) (2:Nat)) = (paS (cutS t (10:Int)) ((i:Int) + 1).toNat).4 i_1) :: ((paM (cutS t (10:Int)) i = paM (cutS t (10:Int)) ((i:Int) + 1).toNat) :: ((∀ i_1 < paM (cutS t (10:Int)) ((i:Int) + 1).toNat, (paS (cutS t (10:Int)) i).6 i_1 = (paS (cutS t (10:Int)) ((i:Int) + 1).toNat).6 i_1) :: ((∀ i_1 < paM (cutS t (10:Int)) ((i:Int) + 1).toNat, (paS (cutS t (10:Int)) i).7 i_1 = (paS (cutS t (10:Int)) ((i:Int) + 1).toNat).7 i_1) :: ((∀ i_1 < paM (cutS t (10:Int)) ((i:Int) + 1).toNat, (paS (cutS t (10:Int)) i).8 i_1 = (paS (cutS t (10:Int)) ((i:Int) + 1).toNat).8 i_1) :: (((0:Nat) = 0) :: ((paN (cutS t (10:Int)) i + 1 = paN (cutS t (10:Int)) ((i:Int) + 1).toNat) :: (((0:Nat) = 0) :: ((paM (cutS t (10:Int)) i = paM (cutS t (10:Int)) ((i:Int) + 1).toNat) :: (parseR_cr0 [Int.toNat ((i:Int) + 1) ≤ cutN t (10:Int) - 1 ∧ paF (cutS t (10:Int)) ((i:Int) + 1).toNat = 0, cutN t (10:Int) - 1 - ((i:Int) + 1).toNat < cutN t (10:Int) - 1 - i]))))))))))))))))))) (.ite (lnK (cutS t (10:Int) (i:Int).toNat) (ByteArray.mk #[(109 : UInt8), (101 : UInt8), (109 : UInt8), (98 : UInt8), (101 : UInt8), (114 : UInt8)]) (3:Nat)) (.need [(0:Int) ≤ 0 ∧ (0:Int) < (↑(3:Nat) : Int), (0:Int) ≤ 1 ∧ (1:Int) < (↑(3:Nat) : Int), (0:Int) ≤ 2 ∧ (2:Int) < (↑(3:Nat) : Int), paM (cutS t (10:Int)) i ≤ paM (cutS t (10:Int)) i, (paM (cutS t (10:Int)) i + 1) * (nat_lit 23 + 1) ≤ 140737488355328, (1:Nat) ≤ 1] (.need [i64In ((i:Int) + 1)] (.done (((i:Int) + 1 = (↑((i:Int) + 1).toNat : Int)) :: ((cutN t (10:Int) = cutN t (10:Int))
     :: ((∀ i < cutN t (10:Int), cutS t (10:Int) i = cutS t (10:Int) i) :: ((paN (cutS t (10:Int)) i = paN (cutS t (10:Int)) ((i:Int) + 1).toNat) :: ((∀ i_1 < paN (cutS t (10:Int)) ((i:Int) + 1).toNat, (paS (cutS t (10:Int)) i).2 i_1 = (paS (cutS t (10:Int)) ((i:Int) + 1).toNat).2 i_1) :: ((∀ i_1 < paN (cutS t (10:Int)) ((i:Int) + 1).toNat, (paS (cutS t (10:Int)) i).3 i_1 = (paS (cutS t (10:Int)) ((i:Int) + 1).toNat).3 i_1) :: ((∀ i_1 < paN (cutS t (10:Int)) ((i:Int) + 1).toNat, (paS (cutS t (10:Int)) i).4 i_1 = (paS (cutS t (10:Int)) ((i:Int) + 1).toNat).4 i_1) :: ((paM (cutS t (10:Int)) i + 1 = paM (cutS t (10:Int)) ((i:Int) + 1).toNat) :: ((∀ i_1 < paM (cutS t (10:Int)) ((i:Int) + 1).toNat, (if (q7b i_1 t i) = true then (paS (cutS t (10:Int)) i).6 i_1 else lnX (cutS t (10:Int) (i:Int).toNat) (ByteArray.mk #[(109 : UInt8), (101 : UInt8), (109 : UInt8), (98 : UInt8), (101 : UInt8), (114 : UInt8)]) (0:Nat)) = (paS (cutS t (10:Int)) ((i:Int) + 1).toNat).6 i_1) :: ((∀ i_1 < paM (cutS t (10:Int)) ((i:Int) + 1).toNat, (if (q7b i_1 t i) = true then (paS (cutS t (10:Int)) i).7 i_1 else lnX (cutS t (10:Int) (i:Int).toNat) (ByteArray.mk #[(109 : UInt8), (101 : UInt8), (109 : UInt8), (98 : UInt8), (101 : UInt8), (114 : UInt8)]) (1:Nat)) = (paS (cutS t (10:Int)) ((i:Int) + 1).toNat).7 i_1) :: ((∀ i_1 < paM (cutS t (10:Int)) ((i:Int) + 1).toNat, (if (q7b i_1 t i) = true then (paS (cutS t (10:Int)) i).8 i_1 else lnX (cutS t (10:Int) (i:Int).toNat) (ByteArray.mk #[(109 : UInt8), (101 : UInt8), (109 : UInt8), (98 : UInt8), (101 : UInt8), (114 : UInt8)])
     (2:Nat)) = (paS (cutS t (10:Int)) ((i:Int) + 1).toNat).8 i_1) :: (((0:Nat) = 0) :: ((paN (cutS t (10:Int)) i = paN (cutS t (10:Int)) ((i:Int) + 1).toNat) :: (((0:Nat) = 0) :: ((paM (cutS t (10:Int)) i + 1 = paM (cutS t (10:Int)) ((i:Int) + 1).toNat) :: (parseR_cr0 [Int.toNat ((i:Int) + 1) ≤ cutN t (10:Int) - 1 ∧ paF (cutS t (10:Int)) ((i:Int) + 1).toNat = 0, cutN t (10:Int) - 1 - ((i:Int) + 1).toNat < cutN t (10:Int) - 1 - i]))))))))))))))))))) (.need [i64In ((i:Int) + 1)] (.done [(paR t).nN = 0, (paR t).nM = 0, (i:Int) + 1 = paL t, (7:Int) = paE t]))))))) (.need [i64In ((↑(cutN t (10:Int)) : Int) - 1), (0:Int) ≤ (↑(cutN t (10:Int)) : Int) - 1 ∧ (↑(cutN t (10:Int)) : Int) - 1 < (↑(cutN t (10:Int)) : Int)] (.ite (!ByteArray.toList (cutS t (10:Int) ((↑(cutN t (10:Int)) : Int) - 1).toNat) == ByteArray.toList (ByteArray.mk #[])) (.done [(paR t).nN = 0, (paR t).nM = 0, (↑(cutN t (10:Int)) : Int) = paL t, (7:Int) = paE t]) (.need [paN (cutS t (10:Int)) i ≤ paN (cutS t (10:Int)) i, paM (cutS t (10:Int)) i ≤ paM (cutS t (10:Int)) i, FnC prog 7 [.agg [.lst (paN (cutS t (10:Int)) i) [fun i_1 => (dI ((paS (cutS t (10:Int)) i).2 (i_1 + 0))), fun i_1 => (dI ((paS (cutS t (10:Int)) i).3 (i_1 + 0))), fun i_1 => (dI ((paS (cutS t (10:Int)) i).4 (i_1 + 0)))], .lst (paM (cutS t (10:Int)) i) [fun i_1 => (dI ((paS (cutS t (10:Int)) i).6 (i_1 + 0))), fun i_1 => (dI ((paS (cutS t (10:Int)) i).7 (i_1 + 0))), fun i_1 => (dI ((paS (cutS t (10:Int)) i).8 (i_1 + 0)))]]] ((dI (chkE (paS (cutS t (10:Int)) (cutN t (10:Int) - 1)))))] (.ite (chkE (paS (cutS t (10:Int)) (cutN t (10:Int) - 1)) != 0) (.done
     [(paR t).nN = 0, (paR t).nM = 0, (0:Int) = paL t, chkE (paS (cutS t (10:Int)) (cutN t (10:Int) - 1)) = paE t]) (.done [paN (cutS t (10:Int)) i ≤ paN (cutS t (10:Int)) i, paM (cutS t (10:Int)) i ≤ paM (cutS t (10:Int)) i, paN (cutS t (10:Int)) i = (paR t).nN, ∀ i_1 < (paR t).nN, (paS (cutS t (10:Int)) i).2 (i_1 + 0) = (paR t).X i_1, ∀ i_1 < (paR t).nN, (paS (cutS t (10:Int)) i).3 (i_1 + 0) = (paR t).Y i_1, ∀ i_1 < (paR t).nN, (paS (cutS t (10:Int)) i).4 (i_1 + 0) = (paR t).Z i_1, paM (cutS t (10:Int)) i = (paR t).nM, ∀ i_1 < (paR t).nM, (paS (cutS t (10:Int)) i).6 (i_1 + 0) = (paR t).K i_1, ∀ i_1 < (paR t).nM, (paS (cutS t (10:Int)) i).7 (i_1 + 0) = (paR t).A i_1, ∀ i_1 < (paR t).nM, (paS (cutS t (10:Int)) i).8 (i_1 + 0) = (paR t).B i_1, (0:Int) = paL t, (0:Int) = paE t]))))))))) (by kernel_rfl) ?_
  simp only [qbc, q7b, VT.holds, AllT, Sq]
  have hcn := cuN_le t 10 t.size
  have hc1 : cutN t 10 = cuN t 10 t.size + 1 := rfl
  have i8 : paE t = 8 → (paR t).nN = 0 ∧ (paR t).nM = 0 := fun h => paR_bad (by omega)
  refine ⟨fun h => ?_, fun h => ?_⟩
  · have e : paE t = 8 := by rw [paE, if_pos h]
    exact ⟨(i8 e).1, (i8 e).2, by rw [paL, if_pos h], e.symm⟩
  refine ⟨cutB_c t 10 ht, ⟨rfl, rfl, rfl, rfl, rfl⟩, ⟨Nat.zero_le _, rfl⟩, fun i ⟨hi, hf⟩ => ⟨by unfold i64In; omega, fun hlt => ?_, fun hge => ?_⟩⟩
  · have hs : (cutS t 10 i).size ≤ 1000000 := Nat.le_trans (cutS_size _ _ _) ht
    have n1 := paN_le (cutS t 10) i
    have n2 := paM_le (cutS t 10) i
    refine ⟨⟨by omega, line_c _ _ hs⟩, ⟨by omega, line_c _ _ hs⟩, fun ⟨h1, h2⟩ => ?_, fun h1 => ⟨fun h2 => ?_, fun h2 => ?_⟩⟩
    · obtain ⟨t1, t2, t3⟩ := tk_node h1 h2
      have e1 : paN (cutS t 10) (i + 1) = paN (cutS t 10) i + 1 := flN_yes t1
      have e2 : paM (cutS t 10) (i + 1) = paM (cutS t 10) i := flN_no t2
      refine ⟨⟨by decide, by decide, by decide, Nat.le_refl _, by omega, Nat.le_refl _⟩, by unfold i64In; omega, by omega, e1.symm, fun q hq => ?_, fun q hq => ?_, fun q hq => ?_, e2.symm, fun q hq => ?_, fun q hq => ?_, fun q hq => ?_, e1.symm, e2.symm, ⟨by omega, paF_ok hf t3⟩, by omega⟩
      · exact flI_get t1 (fun q => lnX (cutS t 10 q) nodW 0) hq
      · exact flI_get t1 (fun q => lnX (cutS t 10 q) nodW 1) hq
      · exact flI_get t1 (fun q => lnX (cutS t 10 q) nodW 2) hq
      · exact congrArg (fun q => lnX (cutS t 10 q) memW 0) (flI_no t2 q).symm
      · exact congrArg (fun q => lnX (cutS t 10 q) memW 1) (flI_no t2 q).symm
      · exact congrArg (fun q => lnX (cutS t 10 q) memW 2) (flI_no t2 q).symm
    · obtain ⟨t1, t2, t3⟩ := tk_memb h1 h2
      have e1 : paN (cutS t 10) (i + 1) = paN (cutS t 10) i := flN_no t1
      have e2 : paM (cutS t 10) (i + 1) = paM (cutS t 10) i + 1 := flN_yes t2
      refine ⟨⟨by decide, by decide, by decide, Nat.le_refl _, by omega, Nat.le_refl _⟩, by unfold i64In; omega, by omega, e1.symm, fun q hq => ?_, fun q hq => ?_, fun q hq => ?_, e2.symm, fun q hq => ?_, fun q hq => ?_, fun q hq => ?_, e1.symm, e2.symm, ⟨by omega, paF_ok hf t3⟩, by omega⟩
      · exact congrArg (fun q => lnX (cutS t 10 q) nodW 0) (flI_no t1 q).symm
      · exact congrArg (fun q => lnX (cutS t 10 q) nodW 1) (flI_no t1 q).symm
      · exact congrArg (fun q => lnX (cutS t 10 q) nodW 2) (flI_no t1 q).symm
      · exact flI_get t2 (fun q => lnX (cutS t 10 q) memW 0) hq
      · exact flI_get t2 (fun q => lnX (cutS t 10 q) memW 1) hq
      · exact flI_get t2 (fun q => lnX (cutS t 10 q) memW 2) hq
    · have t1 := tk_bad h1 h2
      have e := paF_bad hf t1 (n := cutN t 10 - 1) (by omega)
      have e7 : paE t = 7 := by rw [paE, if_neg h, if_pos (by omega)]
      obtain ⟨r1, r2⟩ := paR_bad (t := t) (by omega)
      exact ⟨by unfold i64In; omega, r1, r2, by rw [paL, if_neg h, if_pos (by omega), e]; omega, e7.symm⟩
  · obtain rfl : i = cutN t 10 - 1 := by omega
    have n1 := paN_le (cutS t 10) (cutN t 10 - 1)
    have n2 := paM_le (cutS t 10) (cutN t 10 - 1)
    have e1 : ((cutN t 10 : Int) - 1).toNat = cutN t 10 - 1 := by omega
    rw [e1]
    rw [show ({ data := #[] } : ByteArray).toList = [] from toList_nil]
    refine ⟨⟨by unfold i64In; omega, by omega, by omega⟩, fun hn => ?_, fun hn => ⟨⟨Nat.le_refl _, Nat.le_refl _, check_c (paS (cutS t 10) (cutN t 10 - 1))⟩, fun h2 => ?_, fun h2 => ?_⟩⟩
    · have e7 : paE t = 7 := by rw [paE, if_neg h, if_neg (fun h' => h' hf), if_neg hn]
      obtain ⟨r1, r2⟩ := paR_bad (t := t) (by omega)
      exact ⟨r1, r2, by rw [paL, if_neg h, if_neg (fun h' => h' hf), if_neg hn], e7.symm⟩
    · have e7 : paE t = chkE (paS (cutS t 10) (cutN t 10 - 1)) := by rw [paE, if_neg h, if_neg (fun h' => h' hf), if_pos hn]
      obtain ⟨r1, r2⟩ := paR_bad (t := t) (by rw [e7]; exact h2)
      exact ⟨r1, r2, by rw [paL, if_neg h, if_neg (fun h' => h' hf), if_pos hn], e7.symm⟩
    · have e7 : paE t = chkE (paS (cutS t 10) (cutN t 10 - 1)) := by rw [paE, if_neg h, if_neg (fun h' => h' hf), if_pos hn]
      have e8 := paR_ok (t := t) (by rw [e7]; exact h2)
      rw [e8]
      refine ⟨Nat.le_refl _, Nat.le_refl _, rfl, fun q hq => rfl, fun q hq => rfl, fun q hq => rfl, rfl, fun q hq => rfl, fun q hq => rfl, fun q hq => rfl, by rw [paL, if_neg h, if_neg (fun h' => h' hf), if_pos hn], by rw [e7]; exact h2.symm⟩
end Go.Abs
