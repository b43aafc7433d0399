/- Contracts. -/
import Derived.Test.YtmcgfoacmalbjaaGreatDoorK65
import Derived.Test.YtmcgfoacmalbjaaGreatDoorB6
set_option maxRecDepth 100000
namespace Go.Abs
open Go
def nlW : ByteArray := ⟨#[10]⟩
theorem ext_ext2 (s : ByteArray) {p e a b : Nat} (he : e ≤ s.size) (hb : p + b ≤ e) : (s.extract p e).extract a b = s.extract (p + a) (p + b) := by
  apply ByteArray.ext
  apply Array.toList_inj.1
  rw [Lib.extract_data, Lib.extract_data, Lib.extract_data, List.drop_take, List.take_take, List.drop_drop, show p + b - (p + a) = b - a by omega, show min (b - a) (e - p - a) = b - a by omega]
theorem ext_one {s : ByteArray} {j : Nat} {c : UInt8} (hj : j < s.size) (h : bget s j = (c.toNat : Int)) : s.extract j (j + 1) = ⟨#[c]⟩ := by
  obtain ⟨b, h1, h2⟩ := bget_at hj
  have hbc : b = c := UInt8.toNat_inj.1 (by omega)
  apply ByteArray.ext
  apply Array.toList_inj.1
  rw [Lib.extract_data, show j + 1 - j = 1 by omega, List.take_one, List.head?_drop, h1, hbc]
  rfl
theorem ln_ends {t : ByteArray} {k : Nat} (hk : k < cuN t 10 t.size) : hsB (lnT t k) nlW = true ∧ csS (lnT t k) nlW = cutS t 10 k := by
  obtain ⟨i, _, _, h1, h2, h3, h4⟩ := ln_full t hk
  have hT : lnT t k = t.extract (lnQ t k) (lnQ t k + i + 1) := by rw [lnT, h1]
  have hs : (lnT t k).size = i + 1 := by rw [hT, ByteArray.size_extract]; omega
  have e1 : (lnT t k).extract ((lnT t k).size - 1) (lnT t k).size = nlW := by
    rw [hs, hT, ext_ext2 t (by omega) (by omega)]
    exact ext_one (c := 10) h2 h4
  have hb : hsB (lnT t k) nlW = true := by
    unfold hsB
    rw [show nlW.size = 1 from rfl, e1, decide_eq_true (by omega)]
    simp
  refine ⟨hb, ?_⟩
  rw [csS, if_pos hb, h3, show nlW.size = 1 from rfl, hs, hT, ext_ext2 t (by omega) (by omega)]
  rfl
theorem ln_open {t : ByteArray} {k : Nat} (hk : k = cuN t 10 t.size) (hN : k < lnN t) : hsB (lnT t k) nlW = false ∧ ¬ (cutS t 10 k).toList = [] := by
  obtain ⟨_, h1, h2, h3, h4⟩ := ln_part t hk
  have hT : lnT t k = lnR t k := by rw [lnT, h1]; rfl
  have hz : (lnR t k).size ≠ 0 := fun e => by have := (lnR_size t (by omega)).1 e; omega
  constructor
  · cases hb : hsB (lnT t k) nlW with
    | false => rfl
    | true =>
      exfalso
      unfold hsB at hb
      rw [Bool.and_eq_true, beq_iff_eq, hT, show nlW.size = 1 from rfl] at hb
      have e := toList_inj hb.2
      obtain ⟨b, h5, h6⟩ := bget_at (s := lnR t k) (i := (lnR t k).size - 1) (by omega)
      have e1 := ext_one (s := lnR t k) (j := (lnR t k).size - 1) (c := b) (by omega) h6
      rw [show (lnR t k).size - 1 + 1 = (lnR t k).size by omega, e] at e1
      have hb : (10 : UInt8) = b := by
        have := congrArg (fun x : ByteArray => x.data.toList) e1
        simpa [nlW] using this
      exact h4 ((lnR t k).size - 1) (by omega) (by rw [h6, ← hb]; rfl)
  · intro e
    rw [h2] at e
    have : lnR t k = ⟨#[]⟩ := toList_inj (e.trans toList_nil.symm)
    rw [this] at hz
    exact hz rfl
theorem ln_all {t : ByteArray} (h : lnN t ≤ cuN t 10 t.size) : lnN t = cutN t 10 - 1 ∧ (cutS t 10 (cutN t 10 - 1)).toList = [] := by
  have hc : cutN t 10 - 1 = cuN t 10 t.size := rfl
  rw [hc]
  unfold lnN at h ⊢
  by_cases hz : (cutS t 10 (cuN t 10 t.size)).size = 0
  · rw [if_pos hz]
    refine ⟨rfl, ?_⟩
    have : cutS t 10 (cuN t 10 t.size) = ⟨#[]⟩ := by
      apply ByteArray.ext
      exact Array.eq_empty_of_size_eq_zero hz
    rw [this]; exact toList_nil
  · rw [if_neg hz] at h; omega
theorem lnT_size {t : ByteArray} (k : Nat) : (lnT t k).size ≤ t.size := ext_size _ _ _
theorem csS_size (s p : ByteArray) : (csS s p).size ≤ s.size := by
  unfold csS
  split
  · exact ext_size _ _ _
  · exact Nat.le_refl _
noncomputable def A8_parse_c (t : ByteArray) : Ann := { orc := [(18, [(1, .res fun _ => dI (chkE (paS (cutS t 10) (lnN t))))])], loops := [], cuts := [], exts := [(5, lvE prog { orc := [(8, [(1, .res fun q => .tup [dS (csS (sO (arg q 0)) (sO (arg q 1))), dB (hsB (sO (arg q 0)) (sO (arg q 1)))])]), (9, [(1, .res fun q => lnD (sO (arg q 0)) (sO (arg q 1)))]), (10, [(1, .res fun q => lnD (sO (arg q 0)) (sO (arg q 1)))])], loops := [], cuts := [] } { gf := 47, N := lnN t, enc := fun k => [Value.string (lnT t k)], rest := fun k => Value.string (lnR t k), keep := [2, 3, 4, 5, 6], boxes := [2, 3, 4], bx := fun σ x => [(5, [.row 3 (σ.nx + 50) 0 (paN (cutS t 10) x), .row 3 (σ.nx + 51) 0 (paM (cutS t 10) x)]), (6, [dI (x : Int)])], rb := fun _ x => [(5, 0, 3, paN (cutS t 10) x, nodC (paS (cutS t 10) x)), (5, 1, 3, paM (cutS t 10) x, memC (paS (cutS t 10) x))], inv := fun _ x => x ≤ cuN t 10 t.size ∧ paF (cutS t 10) x = 0 })] }
noncomputable abbrev q8b (i : Nat) (t : ByteArray) (x : Nat) : Bool := decide (i < paN (cutS t (10:Int)) x)
noncomputable abbrev qhc (i : Nat) (t : ByteArray) (x : Nat) : Bool := decide (i < paM (cutS t (10:Int)) x)
noncomputable abbrev parse_cr0 (r : List Prop) : List Prop := (Value.slice none (0:Nat) (0:Nat) = Value.slice none (0:Nat) (0:Nat)) :: (Value.slice none (0:Nat) (0:Nat) = Value.slice none (0:Nat) (0:Nat)) :: ((0:Int) = (0:Int)) :: ((0:Int) = (0:Int)) :: r
theorem parse_c (t : ByteArray) (ht : t.size ≤ 1000000) : FnC prog 8 [dS t] (.tup [scfD (paR t), dI (paL t), dI (paE t)]) := by
  refine FnC_owed hmix (A8_parse_c t) (V := .ite (decide ((↑(ByteArray.size t) : Int) > 60000)) (.done [(paR t).nN = 0, (paR t).nM = 0, (0:Int) = paL t, (8:Int) = paE t]) (.need ((LvF prog 26 (47:Nat) (.string t) (.string (lnR t 0))) :: ((SeqV prog 47 (lnN t) (fun k => [.string (lnT t k)]) fun k => .string (lnR t k)) :: ((∀ (k : Nat), k < lnN t → (1:Nat) = 1) :: ((∀ (k : Nat), oneV (.string (lnR t k)) = true) :: ((lnR t 0 = lnR t 0) :: ((paN (cutS t (10:Int)) (0:Nat) = 0) :: ((paM (cutS t (10:Int)) (0:Nat) = 0) :: (((0:Nat) = 0) :: ((paN (cutS t (10:Int)) (0:Nat) = 0) :: (((0:Nat) = 0) :: ((paM (cutS t (10:Int)) (0:Nat) = 0) :: (((0:Int) = (↑(0:Nat) : Int)) :: (parse_cr0 [(0:Nat) ≤ cuN t (10:Int) (ByteArray.size t) ∧ paF (cutS t (10:Int)) (0:Nat) = 0]))))))))))))) (.cut Nat (fun x => (x ≤ cuN t (10:Int) (ByteArray.size t) ∧ paF (cutS t (10:Int)) x = 0) ∧ x < lnN t) (.cut Unit (fun (u : Unit) => lnN t ≤ cuN t (10:Int) (ByteArray.size t) ∧ paF (cutS t (10:Int)) (lnN t) = 0) (.done []) fun (u : Unit) => .need [paN (cutS t (10:Int)) (lnN t) ≤ paN (cutS t (10:Int)) (lnN t), paM (cutS t (10:Int)) (lnN t) ≤ paM (cutS t (10:Int)) (lnN t), FnC prog 19 [.agg [.lst (paN (cutS t (10:Int)) (lnN t)) [fun i => (dI ((paS (cutS t (10:Int)) (lnN t)).2 (i + 0))), fun i => (dI ((paS (cutS t (10:Int)) (lnN t)).3 (i + 0))), fun i => (dI ((paS (cutS t (10:Int)) (lnN t)).4 (i + 0)))], .lst (paM (cutS t (10:Int)) (lnN t)) [fun i => (dI ((paS (cutS t (10:Int)) (lnN t)).6 (i + 0))), fun i => (dI ((paS (cutS t (10:Int)) (lnN t)).7 (i + 0))), fun i => (dI ((paS (cutS t (10:Int)) (lnN t)).8 (i + 0)))]]] ((dI (chkE (paS (cutS t (10:Int)) (lnN t)))))] (.ite (chkE (paS (cutS t (10:Int)) (lnN t)) != 0) (.done [(paR t).nN = 0, (paR t).nM = 0, (0 :
     Int) = paL t, chkE (paS (cutS t (10:Int)) (lnN t)) = paE t]) (.done [paN (cutS t (10:Int)) (lnN t) ≤ paN (cutS t (10:Int)) (lnN t), paM (cutS t (10:Int)) (lnN t) ≤ paM (cutS t (10:Int)) (lnN t), paN (cutS t (10:Int)) (lnN t) = (paR t).nN, ∀ i < (paR t).nN, (paS (cutS t (10:Int)) (lnN t)).2 (i + 0) = (paR t).X i, ∀ i < (paR t).nN, (paS (cutS t (10:Int)) (lnN t)).3 (i + 0) = (paR t).Y i, ∀ i < (paR t).nN, (paS (cutS t (10:Int)) (lnN t)).4 (i + 0) = (paR t).Z i, paM (cutS t (10:Int)) (lnN t) = (paR t).nM, ∀ i < (paR t).nM, (paS (cutS t (10:Int)) (lnN t)).6 (i + 0) = (paR t).K i, ∀ i < (paR t).nM, (paS (cutS t (10:Int)) (lnN t)).7 (i + 0) = (paR t).A i, ∀ i < (paR t).nM, (paS (cutS t (10:Int)) (lnN t)).8 (i + 0) = (paR t).B i, (0:Int) = paL t, (0:Int) = paE t]))) fun x => .need [i64In ((x:Int) + 1)] (.need [FnC prog 27 [.val (.string (lnT t x)), .val (.string (ByteArray.mk #[(10 : UInt8)]))] (.tup [.val (.string (csS (lnT t x) (ByteArray.mk #[(10 : UInt8)]))), (dB (hsB (lnT t x) (ByteArray.mk #[(10 : UInt8)])))])] (.need [FnC prog 28 [.val (.string (csS (lnT t x) (ByteArray.mk #[(10 : UInt8)]))), .val (.string (ByteArray.mk #[(110 : UInt8), (111 : UInt8), (100 : UInt8), (101 : UInt8)]))] (.tup [.agg [(dI (lnX (csS (lnT t x) (ByteArray.mk #[(10 : UInt8)])) (ByteArray.mk #[(110 : UInt8), (111 : UInt8), (100 : UInt8), (101 : UInt8)]) (0:Nat))), (dI (lnX (csS (lnT t x) (ByteArray.mk #[(10 : UInt8)])) (ByteArray.mk #[(110 : UInt8), (111 : UInt8), (100 : UInt8), (101 : UInt8)]) (1:Nat))), (dI (lnX (csS (lnT t x) (ByteArray.mk #[(10 : UInt8)])) (ByteArray.mk #[(110 : UInt8), (111 : UInt8), (100 : UInt8), (101 : UInt8)]) (2:Nat)))], (dB (lnK (csS (lnT t x) (ByteArray.mk #[(10 : UInt8)])) (ByteArray.mk #[(110 : UInt8), (111 : UInt8), (100 : UInt8), (101 : UInt8)]) (3:Nat)))])] (.need [FnC prog
     (28:Nat) [.val (.string (csS (lnT t x) (ByteArray.mk #[(10 : UInt8)]))), .val (.string (ByteArray.mk #[(109 : UInt8), (101 : UInt8), (109 : UInt8), (98 : UInt8), (101 : UInt8), (114 : UInt8)]))] (.tup [.agg [(dI (lnX (csS (lnT t x) (ByteArray.mk #[(10 : UInt8)])) (ByteArray.mk #[(109 : UInt8), (101 : UInt8), (109 : UInt8), (98 : UInt8), (101 : UInt8), (114 : UInt8)]) (0:Nat))), (dI (lnX (csS (lnT t x) (ByteArray.mk #[(10 : UInt8)])) (ByteArray.mk #[(109 : UInt8), (101 : UInt8), (109 : UInt8), (98 : UInt8), (101 : UInt8), (114 : UInt8)]) (1:Nat))), (dI (lnX (csS (lnT t x) (ByteArray.mk #[(10 : UInt8)])) (ByteArray.mk #[(109 : UInt8), (101 : UInt8), (109 : UInt8), (98 : UInt8), (101 : UInt8), (114 : UInt8)]) (2:Nat)))], (dB (lnK (csS (lnT t x) (ByteArray.mk #[(10 : UInt8)])) (ByteArray.mk #[(109 : UInt8), (101 : UInt8), (109 : UInt8), (98 : UInt8), (101 : UInt8), (114 : UInt8)]) (3:Nat)))])] (.ite (!hsB (lnT t x) (ByteArray.mk #[(10 : UInt8)])) (.done [(paR t).nN = 0, (paR t).nM = 0, (x:Int) + 1 = paL t, (7:Int) = paE t]) (.need [ri (lnK (csS (lnT t x) (ByteArray.mk #[(10 : UInt8)])) (ByteArray.mk #[(110 : UInt8), (111 : UInt8), (100 : UInt8), (101 : UInt8)]) (3:Nat) = true), ri (lnK (csS (lnT t x) (ByteArray.mk #[(10 : UInt8)])) (ByteArray.mk #[(110 : UInt8), (111 : UInt8), (100 : UInt8), (101 : UInt8)]) (3:Nat) = true), ri (lnK (csS (lnT t x) (ByteArray.mk #[(10 : UInt8)])) (ByteArray.mk #[(110 : UInt8), (111 : UInt8), (100 : UInt8), (101 : UInt8)]) (3:Nat) = true), ri (lnK (csS (lnT t x) (ByteArray.mk #[(10 : UInt8)])) (ByteArray.mk #[(110 : UInt8), (111 : UInt8), (100 : UInt8), (101 : UInt8)]) (3:Nat) = true)] (.ite (if lnK (csS (lnT t x) (ByteArray.mk #[(10 : UInt8)])) (ByteArray.mk #[(110 : UInt8), (111 : UInt8), (100 : UInt8), (101 : UInt8)]) (3:Nat) = true then (↑(paM (cutS t (10:Int)) x) : Int) == 0 else false) (.need [(0:Int) ≤ 0 ∧ (0:Int) < (↑(3:Nat) : Int), (0:Int) ≤ 1 ∧ (1:Int) < (↑(3:Nat) : Int), (0:Int) ≤ 2 ∧ (2:Int) < (↑(3:Nat) : Int), paN (cutS t (10:Int)) x ≤ paN (cutS t (10:Int)) x, (paN (cutS t (10:Int)) x + 1) * (nat_lit 23 + 1) ≤ 140737488355328, (1:Nat) ≤ 1] (.done ((lnR t (x + 1) = lnR t (x + 1)) :: ((paN (cutS t (10:Int)) x + 1 = paN (cutS t (10:Int)) (x + 1)) :: ((∀ i < paN (cutS t (10:Int)) (x + 1), (if (q8b i t x) = true then (paS (cutS t (10:Int)) x).2 i else lnX (csS (lnT t x) (ByteArray.mk #[(10 : UInt8)])) (ByteArray.mk #[(110 : UInt8), (111 : UInt8), (100 : UInt8), (101 : UInt8)]) (0:Nat)) = (paS (cutS t (10:Int)) (x + 1)).2 i) :: ((∀ i < paN (cutS t (10:Int)) (x + 1), (if (q8b i t x) = true then (paS (cutS t (10:Int)) x).3 i else lnX (csS (lnT t x) (ByteArray.mk #[(10 : UInt8)])) (ByteArray.mk #[(110 : UInt8), (111 : UInt8), (100 : UInt8), (101 : UInt8)]) (1:Nat)) = (paS (cutS t (10:Int)) (x + 1)).3 i) :: ((∀ i < paN (cutS t (10:Int)) (x + 1), (if (q8b i t x) = true then (paS (cutS t (10:Int)) x).4 i else lnX (csS (lnT t x) (ByteArray.mk #[(10 : UInt8)])) (ByteArray.mk #[(110 : UInt8), (111 : UInt8), (100 : UInt8), (101 : UInt8)]) (2:Nat)) = (paS (cutS t (10:Int)) (x + 1)).4 i) :: ((paM (cutS t (10:Int)) x = paM (cutS t (10 :
     Int)) (x + 1)) :: ((∀ i < paM (cutS t (10:Int)) (x + 1), (paS (cutS t (10:Int)) x).6 i = (paS (cutS t (10:Int)) (x + 1)).6 i) :: ((∀ i < paM (cutS t (10:Int)) (x + 1), (paS (cutS t (10:Int)) x).7 i = (paS (cutS t (10:Int)) (x + 1)).7 i) :: ((∀ i < paM (cutS t (10:Int)) (x + 1), (paS (cutS t (10:Int)) x).8 i = (paS (cutS t (10:Int)) (x + 1)).8 i) :: (((0:Nat) = 0) :: ((paN (cutS t (10:Int)) x + 1 = paN (cutS t (10:Int)) (x + 1)) :: (((0:Nat) = 0) :: ((paM (cutS t (10:Int)) x = paM (cutS t (10:Int)) (x + 1)) :: (((x:Int) + 1 = (↑(x + 1) : Int)) :: (parse_cr0 [x + 1 ≤ cuN t (10:Int) (ByteArray.size t) ∧ paF (cutS t (10:Int)) (x + 1) = 0]))))))))))))))))) (.ite (lnK (csS (lnT t x) (ByteArray.mk #[(10 : UInt8)])) (ByteArray.mk #[(109 : UInt8), (101 : UInt8), (109 : UInt8), (98 : UInt8), (101 : UInt8), (114 : UInt8)]) (3:Nat)) (.need [(0:Int) ≤ 0 ∧ (0:Int) < (↑(3:Nat) : Int), (0:Int) ≤ 1 ∧ (1:Int) < (↑(3:Nat) : Int), (0:Int) ≤ 2 ∧ (2:Int) < (↑(3:Nat) : Int), paM (cutS t (10:Int)) x ≤ paM (cutS t (10:Int)) x, (paM (cutS t (10:Int)) x + 1) * (nat_lit 23 + 1) ≤ 140737488355328, (1:Nat) ≤ 1] (.done ((lnR t (x + 1) = lnR t (x + 1)) :: ((paN (cutS t (10:Int)) x = paN (cutS t (10:Int)) (x + 1)) :: ((∀ i < paN (cutS t (10:Int)) (x + 1), (paS (cutS t (10:Int)) x).2 i = (paS (cutS t (10:Int)) (x + 1)).2 i) :: ((∀ i < paN (cutS t (10:Int)) (x + 1), (paS (cutS t (10:Int)) x).3 i = (paS (cutS t (10:Int)) (x + 1)).3 i) :: ((∀ i < paN (cutS t (10:Int)) (x + 1), (paS (cutS t (10:Int)) x).4 i = (paS (cutS t (10:Int)) (x + 1)).4 i) :: ((paM (cutS t (10:Int)) x + 1
     = paM (cutS t (10:Int)) (x + 1)) :: ((∀ i < paM (cutS t (10:Int)) (x + 1), (if (qhc i t x) = true then (paS (cutS t (10:Int)) x).6 i else lnX (csS (lnT t x) (ByteArray.mk #[(10 : UInt8)])) (ByteArray.mk #[(109 : UInt8), (101 : UInt8), (109 : UInt8), (98 : UInt8), (101 : UInt8), (114 : UInt8)]) (0:Nat)) = (paS (cutS t (10:Int)) (x + 1)).6 i) :: ((∀ i < paM (cutS t (10:Int)) (x + 1), (if (qhc i t x) = true then (paS (cutS t (10:Int)) x).7 i else lnX (csS (lnT t x) (ByteArray.mk #[(10 : UInt8)])) (ByteArray.mk #[(109 : UInt8), (101 : UInt8), (109 : UInt8), (98 : UInt8), (101 : UInt8), (114 : UInt8)]) (1:Nat)) = (paS (cutS t (10:Int)) (x + 1)).7 i) :: ((∀ i < paM (cutS t (10:Int)) (x + 1), (if (qhc i t x) = true then (paS (cutS t (10:Int)) x).8 i else lnX (csS (lnT t x) (ByteArray.mk #[(10 : UInt8)])) (ByteArray.mk #[(109 : UInt8), (101 : UInt8), (109 : UInt8), (98 : UInt8), (101 : UInt8), (114 : UInt8)]) (2:Nat)) = (paS (cutS t (10:Int)) (x + 1)).8 i) :: (((0:Nat) = 0) :: ((paN (cutS t (10:Int)) x = paN (cutS t (10:Int)) (x + 1)) :: (((0:Nat) = 0) :: ((paM (cutS t (10:Int)) x + 1 = paM (cutS t (10:Int)) (x + 1)) :: (((x:Int) + 1 = (↑(x + 1) : Int)) :: (parse_cr0 [x + 1 ≤ cuN t (10:Int) (ByteArray.size t) ∧ paF (cutS t (10:Int)) (x + 1) = 0]))))))))))))))))) (.done [(paR t).nN = 0, (paR t).nM = 0, (x:Int) + 1 = paL t, (7:Int) = paE t]))))))))))) (by kernel_rfl) ?_ (hx0 := extsOK_one rfl (lvE_ok hmix (extsOK_nil rfl) _))
  simp only [q8b, qhc, VT.holds, AllT, Sq]
  have hcn := cuN_le t 10 t.size
  have hc1 : cutN t 10 = cuN t 10 t.size + 1 := rfl
  refine ⟨fun h => ?_, fun h => ⟨⟨lines_f t, lines_v t ht, fun _ => rfl, rfl, rfl, rfl, rfl, rfl, Nat.zero_le _, rfl⟩, fun _ ⟨hN, hF⟩ => ?_, fun i ⟨⟨hi, hf⟩, hlt⟩ => ?_⟩⟩
  · have e : paE t = 8 := by rw [paE, if_pos h]
    obtain ⟨r1, r2⟩ := paR_bad (t := t) (by omega)
    exact ⟨r1, r2, by rw [paL, if_pos h], e.symm⟩
  · obtain ⟨eN, hn⟩ := ln_all hN
    rw [eN] at hF ⊢
    have hf : paF (cutS t 10) (cutN t 10 - 1) = 0 := hF
    have n1 := paN_le (cutS t 10) (cutN t 10 - 1)
    have n2 := paM_le (cutS t 10) (cutN t 10 - 1)
    have e7 : paE t = chkE (paS (cutS t 10) (cutN t 10 - 1)) := by rw [paE, if_neg h, if_neg (fun h' => h' hf), if_pos hn]
    refine ⟨⟨Nat.le_refl _, Nat.le_refl _, checkP_c (paS (cutS t 10) (cutN t 10 - 1))⟩, fun h2 => ?_, fun h2 => ?_⟩
    · obtain ⟨r1, r2⟩ := paR_bad (t := t) (by rw [e7]; exact h2)
      exact ⟨r1, r2, by rw [paL, if_neg h, if_neg (fun h' => h' hf), if_pos hn], e7.symm⟩
    · have e8 := paR_ok (t := t) (by rw [e7]; exact h2)
      rw [e8]
      refine ⟨Nat.le_refl _, Nat.le_refl _, rfl, fun q hq => rfl, fun q hq => rfl, fun q hq => rfl, rfl, fun q hq => rfl, fun q hq => rfl, fun q hq => rfl, by rw [paL, if_neg h, if_neg (fun h' => h' hf), if_pos hn], by rw [e7]; exact h2.symm⟩
  · have hs1 := lnT_size (t := t) i
    have hs2 := csS_size (lnT t i) nlW
    have n1 := paN_le (cutS t 10) i
    have n2 := paM_le (cutS t 10) i
    refine ⟨by unfold i64In; omega, cutP_c (lnT t i) nlW (by omega) (by decide), numbers_c (csS (lnT t i) nlW) nodW (by omega), numbers_c (csS (lnT t i) nlW) memW (by omega), fun h1 => ?_, fun h1 => ?_⟩
    · have hic : i = cuN t 10 t.size := by
        rcases Nat.lt_or_ge i (cuN t 10 t.size) with h2 | h2
        · have := (ln_ends h2).1
          exact absurd (this.symm.trans h1) (by decide)
        · omega
      have hn := (ln_open hic hlt).2
      have hi1 : cutN t 10 - 1 = i := by omega
      have e7 : paE t = 7 := by rw [paE, if_neg h, hi1, if_neg (fun h' => h' hf), if_neg hn]
      obtain ⟨r1, r2⟩ := paR_bad (t := t) (by omega)
      exact ⟨r1, r2, by rw [paL, if_neg h, hi1, if_neg (fun h' => h' hf), if_neg hn]; omega, e7.symm⟩
    · have hic : i < cuN t 10 t.size := by
        rcases Nat.lt_or_ge i (cuN t 10 t.size) with h2 | h2
        · exact h2
        · have := (ln_open (t := t) (k := i) (by omega) hlt).1
          exact absurd (this.symm.trans h1) (by decide)
      have hcs : csS (lnT t i) ⟨#[10]⟩ = cutS t 10 i := (ln_ends hic).2
      rw [hcs]
      refine ⟨fun ⟨h1, h2⟩ => ?_, fun h1 => ⟨fun h2 => ?_, fun h2 => ?_⟩⟩
      · obtain ⟨t1, t2, t3⟩ := tk_node h1 h2
        have e1 : paN (cutS t 10) (i + 1) = paN (cutS t 10) i + 1 := flN_yes t1
        have e2 : paM (cutS t 10) (i + 1) = paM (cutS t 10) i := flN_no t2
        refine ⟨⟨by decide, by decide, by decide, Nat.le_refl _, by omega, Nat.le_refl _⟩, e1.symm, fun q hq => ?_, fun q hq => ?_, fun q hq => ?_, e2.symm, fun q hq => ?_, fun q hq => ?_, fun q hq => ?_, e1.symm, e2.symm, by omega, by omega, paF_ok hf t3⟩
        · exact flI_get t1 (fun q => lnX (cutS t 10 q) nodW 0) hq
        · exact flI_get t1 (fun q => lnX (cutS t 10 q) nodW 1) hq
        · exact flI_get t1 (fun q => lnX (cutS t 10 q) nodW 2) hq
        · exact congrArg (fun q => lnX (cutS t 10 q) memW 0) (flI_no t2 q).symm
        · exact congrArg (fun q => lnX (cutS t 10 q) memW 1) (flI_no t2 q).symm
        · exact congrArg (fun q => lnX (cutS t 10 q) memW 2) (flI_no t2 q).symm
      · obtain ⟨t1, t2, t3⟩ := tk_memb h1 h2
        have e1 : paN (cutS t 10) (i + 1) = paN (cutS t 10) i := flN_no t1
        have e2 : paM (cutS t 10) (i + 1) = paM (cutS t 10) i + 1 := flN_yes t2
        refine ⟨⟨by decide, by decide, by decide, Nat.le_refl _, by omega, Nat.le_refl _⟩, e1.symm, fun q hq => ?_, fun q hq => ?_, fun q hq => ?_, e2.symm, fun q hq => ?_, fun q hq => ?_, fun q hq => ?_, e1.symm, e2.symm, by omega, by omega, paF_ok hf t3⟩
        · exact congrArg (fun q => lnX (cutS t 10 q) nodW 0) (flI_no t1 q).symm
        · exact congrArg (fun q => lnX (cutS t 10 q) nodW 1) (flI_no t1 q).symm
        · exact congrArg (fun q => lnX (cutS t 10 q) nodW 2) (flI_no t1 q).symm
        · exact flI_get t2 (fun q => lnX (cutS t 10 q) memW 0) hq
        · exact flI_get t2 (fun q => lnX (cutS t 10 q) memW 1) hq
        · exact flI_get t2 (fun q => lnX (cutS t 10 q) memW 2) hq
      · have t1 := tk_bad h1 h2
        have e := paF_bad hf t1 (n := cutN t 10 - 1) (by omega)
        have e7 : paE t = 7 := by rw [paE, if_neg h, if_pos (by omega)]
        obtain ⟨r1, r2⟩ := paR_bad (t := t) (by omega)
        exact ⟨r1, r2, by rw [paL, if_neg h, if_pos (by omega), e]; omega, e7.symm⟩
end Go.Abs
