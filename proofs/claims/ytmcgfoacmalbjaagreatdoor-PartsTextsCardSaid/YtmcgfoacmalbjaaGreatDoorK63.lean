/- Contracts. -/
import Derived.Test.YtmcgfoacmalbjaaGreatDoorK62
import Derived.Test.YtmcgfoacmalbjaaGreatDoorK3
set_option maxRecDepth 100000
namespace Go.Abs
open Go
def sameS (s t : Scf) : Bool := decide ((s.nN = t.nN ∧ s.nM = t.nM) ∧ (∀ j, j < s.nN → s.X j = t.X j ∧ s.Y j = t.Y j ∧ s.Z j = t.Z j) ∧ ∀ j, j < s.nM → s.K j = t.K j ∧ s.A j = t.A j ∧ s.B j = t.B j)
theorem sameS_no {s t : Scf} (h : ¬ ((s.nN = t.nN ∧ s.nM = t.nM) ∧ (∀ j, j < s.nN → s.X j = t.X j ∧ s.Y j = t.Y j ∧ s.Z j = t.Z j) ∧ ∀ j, j < s.nM → s.K j = t.K j ∧ s.A j = t.A j ∧ s.B j = t.B j)) : false = sameS s t := (decide_eq_false h).symm
theorem lt_step {p : Nat → Prop} {i : Nat} (h : ∀ j, j < i → p j) (hi : p i) : ∀ j, j < i + 1 → p j := fun j hj => by
  by_cases e : j = i
  · rw [e]; exact hi
  · exact h j (by omega)
def hpB (s p : ByteArray) : Bool := decide ((s.size : Int) ≥ (p.size : Int)) && ((s.extract 0 p.size).toList == p.toList)
def tpS (s p : ByteArray) : ByteArray := if hpB s p = true then s.extract p.size s.size else s
def hsB (s p : ByteArray) : Bool := decide ((s.size : Int) ≥ (p.size : Int)) && ((s.extract (s.size - p.size) s.size).toList == p.toList)
def csS (s p : ByteArray) : ByteArray := if hsB s p = true then s.extract 0 (s.size - p.size) else s
theorem hpB_le {s p : ByteArray} (h : hpB s p = true) : p.size ≤ s.size := by
  unfold hpB at h
  rw [Bool.and_eq_true, decide_eq_true_eq] at h
  omega
theorem hsB_le {s p : ByteArray} (h : hsB s p = true) : p.size ≤ s.size := by
  unfold hsB at h
  rw [Bool.and_eq_true, decide_eq_true_eq] at h
  omega
noncomputable def A19_checkP_c (s : Scf) : Ann := { orc := [(1, [(1, .res fun q => rdD s)])], loops := [], cuts := [] }
theorem checkP_c (s : Scf)  : FnC prog 19 [scfD s] (dI (chkE s)) := by
  refine FnC_owed hmix (A19_checkP_c s) (V := .need [FnC prog 32 [scfD s] (.tup [.agg [.lst s.nN [fun i => (dI (s.X i)), fun i => (dI (s.Y i)), fun i => (dI (s.Z i))], .lst s.nM [fun i => (dI (s.K i)), fun i => (dI (s.A i)), fun i => (dI (s.B i))], DV.mp (KS.ints 3) (fun (l : List Int) => atH s (rdN s) l) fun (l : List Int) => (dI (atL s (rdN s) l))], (dI (chkE s))])] (.done [chkE s = chkE s])) (by kernel_rfl) ?_
  simp only [VT.holds, AllT, Sq]
  exact read_c s
noncomputable def A10_sameS_c (s t : Scf) : Ann := { orc := [], loops := [(0, { ι := Nat, keep := [2, 3], boxes := [2, 3], ts := fun _ i => [(5, dI (i : Int))], inv := fun _ i => i ≤ s.nN ∧ ∀ j, j < i → s.X j = t.X j ∧ s.Y j = t.Y j ∧ s.Z j = t.Z j, mu := fun _ i => s.nN - i, rd := fun _ σ => (iOf (σ.get 5)).toNat }), (2, { ι := Nat, keep := [2, 3], boxes := [2, 3], ts := fun _ i => [(6, dI (i : Int))], inv := fun _ i => (i ≤ s.nM ∧ ∀ j, j < s.nN → s.X j = t.X j ∧ s.Y j = t.Y j ∧ s.Z j = t.Z j) ∧ ∀ j, j < i → s.K j = t.K j ∧ s.A j = t.A j ∧ s.B j = t.B j, mu := fun _ i => s.nM - i, rd := fun _ σ => (iOf (σ.get 6)).toNat })], cuts := [] }
noncomputable abbrev sameS_cr0 (s : Scf) (t : Scf) (r : List Prop) : List Prop := (s.nN = s.nN) :: (∀ (i : Nat), i < s.nN → s.X i = s.X i) :: (∀ (i : Nat), i < s.nN → s.Y i = s.Y i) :: (∀ (i : Nat), i < s.nN → s.Z i = s.Z i) :: (s.nM = s.nM) :: (∀ (i : Nat), i < s.nM → s.K i = s.K i) :: (∀ (i : Nat), i < s.nM → s.A i = s.A i) :: (∀ (i : Nat), i < s.nM → s.B i = s.B i) :: (t.nN = t.nN) :: (∀ (i : Nat), i < t.nN → t.X i = t.X i) :: (∀ (i : Nat), i < t.nN → t.Y i = t.Y i) :: (∀ (i : Nat), i < t.nN → t.Z i = t.Z i) :: (t.nM = t.nM) :: (∀ (i : Nat), i < t.nM → t.K i = t.K i) :: (∀ (i : Nat), i < t.nM → t.A i = t.A i) :: (∀ (i : Nat), i < t.nM → t.B i = t.B i) :: r
theorem sameS_c (s t : Scf) (hn : s.nN ≤ 1000000) (hm : s.nM ≤ 1000000) : FnC prog 10 [scfD s, scfD t] (dB (sameS s t)) := by
  refine FnC_owed hmix (A10_sameS_c s t) (V := .need [ri ((!(s.nN:Int) != (t.nN:Int)) = true), ri ((!(s.nN:Int) != (t.nN:Int)) = true), ri ((!(s.nN:Int) != (t.nN:Int)) = true), ri ((!(s.nN:Int) != (t.nN:Int)) = true), ri ((!(s.nN:Int) != (t.nN:Int)) = true), ri ((!(s.nN:Int) != (t.nN:Int)) = true), ((s.nN:Int) != (t.nN:Int)) = false → (!(s.nN:Int) != (t.nN:Int)) = true] (.ite (if ((s.nN:Int) != (t.nN:Int)) = true then true else (s.nM:Int) != (t.nM:Int)) (.done [false = sameS s t]) (.loop Nat (fun a => a ≤ s.nN ∧ ∀ (j : Nat), j < a → s.X j = t.X j ∧ s.Y j = t.Y j ∧ s.Z j = t.Z j) (0:Int).toNat (((0:Int) = (↑(0:Int).toNat : Int)) :: (sameS_cr0 s t [])) fun i => .ite (decide ((i:Int) < (s.nN:Int))) (.need [(0:Int) ≤ (i:Int) ∧ (i:Int) < (s.nN:Int), (0:Int) ≤ (i:Int) ∧ (i:Int) < (t.nN:Int)] (.ite (!(s.X (i:Int).toNat == t.X (i:Int).toNat && (s.Y (i:Int).toNat == t.Y (i:Int).toNat && (s.Z (i:Int).toNat == t.Z (i:Int).toNat && true)))) (.done [false = sameS s t]) (.need [i64In ((i:Int) + 1)] (.done (((i:Int) + 1 = (↑((i:Int) + 1).toNat : Int)) :: (sameS_cr0 s t [Int.toNat ((i:Int) + 1) ≤ s.nN ∧ ∀ (j : Nat), j < ((i:Int) + 1).toNat → s.X j = t.X j ∧ s.Y j = t.Y j ∧ s.Z j = t.Z j, s.nN - ((i:Int) + 1).toNat < s.nN - i])))))) (.loop Nat (fun a => (a ≤ s.nM ∧ ∀ (j : Nat), j < s.nN → s.X j = t.X j ∧ s.Y j = t.Y j ∧ s.Z j = t.Z j) ∧ ∀ (j : Nat), j < a → s.K j = t.K j ∧ s.A j = t.A j ∧ s.B j = t.B j) (0:Int).toNat (((0:Int) = (↑(0:Int).toNat : Int)) :: (sameS_cr0 s t [])) fun i => .ite (decide ((i:Int) < (s.nM:Int))) (.need [(0:Int) ≤ (↑i :
     Int) ∧ (i:Int) < (s.nM:Int), (0:Int) ≤ (i:Int) ∧ (i:Int) < (t.nM:Int)] (.ite (!(s.K (i:Int).toNat == t.K (i:Int).toNat && (s.A (i:Int).toNat == t.A (i:Int).toNat && (s.B (i:Int).toNat == t.B (i:Int).toNat && true)))) (.done [false = sameS s t]) (.need [i64In ((i:Int) + 1)] (.done (((i:Int) + 1 = (↑((i:Int) + 1).toNat : Int)) :: (sameS_cr0 s t [(Int.toNat ((i:Int) + 1) ≤ s.nM ∧ ∀ (j : Nat), j < s.nN → s.X j = t.X j ∧ s.Y j = t.Y j ∧ s.Z j = t.Z j) ∧ ∀ (j : Nat), j < ((i:Int) + 1).toNat → s.K j = t.K j ∧ s.A j = t.A j ∧ s.B j = t.B j, s.nM - ((i:Int) + 1).toNat < s.nM - i])))))) (.done [true = sameS s t]))))) (by kernel_rfl) ?_
  simp only [VT.holds, AllT, sameS_cr0, Sq]
  refine ⟨fun h => sameS_no fun h2 => by omega, fun ⟨h1, h2⟩ => ⟨rfl, ⟨Nat.zero_le _, fun j hj => absurd hj (Nat.not_lt_zero j)⟩, fun i ⟨hi, hb⟩ => ⟨fun hlt => ⟨⟨by omega, by omega⟩, fun hne => ?_, fun he => ⟨by unfold i64In; omega, by omega, ⟨by omega, lt_step hb he⟩, by omega⟩⟩, fun hge => ⟨rfl, ⟨⟨Nat.zero_le _, fun j hj => hb j (by omega)⟩, fun j hj => absurd hj (Nat.not_lt_zero j)⟩, fun k ⟨⟨hk, hn2⟩, hb2⟩ => ⟨fun hlt => ⟨⟨by omega, by omega⟩, fun hne => ?_, fun he => ⟨by unfold i64In; omega, by omega, ⟨⟨by omega, hn2⟩, lt_step hb2 he⟩, by omega⟩⟩, fun hge2 => ?_⟩⟩⟩⟩⟩
  · refine sameS_no fun h3 => ?_
    obtain ⟨a, b, c⟩ := h3.2.1 i (by omega)
    exact absurd (hne a b c) (by decide)
  · refine sameS_no fun h3 => ?_
    obtain ⟨a, b, c⟩ := h3.2.2 k (by omega)
    exact absurd (hne a b c) (by decide)
  · exact (decide_eq_true ⟨⟨by omega, by omega⟩, hn2, fun j hj => hb2 j (by omega)⟩).symm
noncomputable def A82_hasP_c (s p : ByteArray) : Ann := { orc := [], loops := [], cuts := [] }
noncomputable abbrev qw (s : ByteArray) (p : ByteArray) : Bool := decide ((↑(ByteArray.size s) : Int) ≥ (↑(ByteArray.size p) : Int))
theorem hasP_c (s p : ByteArray) (hs : s.size ≤ 1000000) (hp : p.size ≤ 1000000) : FnC prog 82 [dS s, dS p] (dB (hpB s p)) := by
  refine FnC_owed hmix (A82_hasP_c s p) (V := .need [ri ((qw s p) = true), ri ((qw s p) = true), ri ((qw s p) = true), (qw s p) = true → (0:Int) ≤ 0 ∧ (0:Int) ≤ (↑(ByteArray.size p) : Int) ∧ (↑(ByteArray.size p) : Int) ≤ (↑(ByteArray.size s) : Int), ri ((qw s p) = true), ri ((qw s p) = true), ri ((qw s p) = true)] (.done [(if (qw s p) = true then ByteArray.toList (ByteArray.extract s (0:Int).toNat (↑(ByteArray.size p) : Int).toNat) == ByteArray.toList p else false) = hpB s p])) (by kernel_rfl) ?_
  simp only [qw, VT.holds, AllT, Sq]
  exact ⟨fun h => by omega, rfl⟩
noncomputable def A68_trimI_c (s p : ByteArray) : Ann := { orc := [(1, [(2, .res fun q => dB (hpB (sO (arg q 0)) (sO (arg q 1))))])], loops := [], cuts := [] }
theorem trimI_c (s p : ByteArray) (hs : s.size ≤ 1000000) (hp : p.size ≤ 1000000) : FnC prog 68 [dS s, dS p] (dS (tpS s p)) := by
  refine FnC_owed hmix (A68_trimI_c s p) (V := .need [FnC prog 82 [.val (.string s), .val (.string p)] ((dB (hpB s p)))] (.ite (hpB s p) (.need [(0:Int) ≤ (↑(ByteArray.size p) : Int) ∧ (↑(ByteArray.size p) : Int) ≤ (↑(ByteArray.size s) : Int) ∧ (↑(ByteArray.size s) : Int) ≤ (↑(ByteArray.size s) : Int)] (.done [ByteArray.extract s (↑(ByteArray.size p) : Int).toNat (↑(ByteArray.size s) : Int).toNat = tpS s p])) (.done [s = tpS s p]))) (by kernel_rfl) ?_
  simp only [VT.holds, AllT, Sq]
  exact ⟨hasP_c s p hs hp, fun h => ⟨by have := hpB_le h; omega, by rw [tpS, if_pos h]⟩, fun h => by rw [tpS, if_neg (by rw [h]; decide)]⟩
noncomputable def A52_trimP_c (s p : ByteArray) : Ann := { orc := [(1, [(2, .res fun q => dS (tpS (sO (arg q 0)) (sO (arg q 1))))])], loops := [], cuts := [] }
theorem trimP_c (s p : ByteArray) (hs : s.size ≤ 1000000) (hp : p.size ≤ 1000000) : FnC prog 52 [dS s, dS p] (dS (tpS s p)) := by
  refine FnC_owed hmix (A52_trimP_c s p) (V := .need [FnC prog 68 [.val (.string s), .val (.string p)] (.val (.string (tpS s p)))] (.done [tpS s p = tpS s p])) (by kernel_rfl) ?_
  simp only [VT.holds, AllT, Sq]
  exact trimI_c s p hs hp
noncomputable def A64_hasS_c (s p : ByteArray) : Ann := { orc := [], loops := [], cuts := [] }
noncomputable abbrev qh (s : ByteArray) (p : ByteArray) : Bool := decide ((↑(ByteArray.size s) : Int) ≥ (↑(ByteArray.size p) : Int))
theorem hasS_c (s p : ByteArray) (hs : s.size ≤ 1000000) (hp : p.size ≤ 1000000) : FnC prog 64 [dS s, dS p] (dB (hsB s p)) := by
  refine FnC_owed hmix (A64_hasS_c s p) (V := .need [ri ((qh s p) = true), ri ((qh s p) = true), ri ((qh s p) = true), ri ((qh s p) = true), (qh s p) = true → i64In ((↑(ByteArray.size s) : Int) - (↑(ByteArray.size p) : Int)), ri ((qh s p) = true), ri ((qh s p) = true), (qh s p) = true → (0:Int) ≤ (↑(ByteArray.size s) : Int) - (↑(ByteArray.size p) : Int) ∧ (↑(ByteArray.size s) : Int) - (↑(ByteArray.size p) : Int) ≤ (↑(ByteArray.size s) : Int) ∧ (↑(ByteArray.size s) : Int) ≤ (↑(ByteArray.size s) : Int), ri ((qh s p) = true), ri ((qh s p) = true), ri ((qh s p) = true)] (.done [(if (qh s p) = true then ByteArray.toList (ByteArray.extract s ((↑(ByteArray.size s) : Int) - (↑(ByteArray.size p) : Int)).toNat (↑(ByteArray.size s) : Int).toNat) == ByteArray.toList p else false) = hsB s p])) (by kernel_rfl) ?_
  simp only [qh, VT.holds, AllT, Sq]
  refine ⟨⟨fun h => by unfold i64In; omega, fun h => by omega⟩, ?_⟩
  rw [show ((s.size : Int) - (p.size : Int)).toNat = s.size - p.size by omega]
  rfl
noncomputable def A49_cutI_c (s p : ByteArray) : Ann := { orc := [(1, [(2, .res fun q => dB (hsB (sO (arg q 0)) (sO (arg q 1))))])], loops := [], cuts := [] }
theorem cutI_c (s p : ByteArray) (hs : s.size ≤ 1000000) (hp : p.size ≤ 1000000) : FnC prog 49 [dS s, dS p] (.tup [dS (csS s p), dB (hsB s p)]) := by
  refine FnC_owed hmix (A49_cutI_c s p) (V := .need [FnC prog 64 [.val (.string s), .val (.string p)] ((dB (hsB s p)))] (.ite (!hsB s p) (.done [s = csS s p, false = hsB s p]) (.need [i64In ((↑(ByteArray.size s) : Int) - (↑(ByteArray.size p) : Int)), (0:Int) ≤ 0 ∧ (0:Int) ≤ (↑(ByteArray.size s) : Int) - (↑(ByteArray.size p) : Int) ∧ (↑(ByteArray.size s) : Int) - (↑(ByteArray.size p) : Int) ≤ (↑(ByteArray.size s) : Int)] (.done [ByteArray.extract s (0:Int).toNat ((↑(ByteArray.size s) : Int) - (↑(ByteArray.size p) : Int)).toNat = csS s p, true = hsB s p])))) (by kernel_rfl) ?_
  simp only [VT.holds, AllT, Sq]
  rw [show ((s.size : Int) - (p.size : Int)).toNat = s.size - p.size by omega]
  exact ⟨hasS_c s p hs hp, fun h => ⟨by rw [csS, if_neg (by rw [h]; decide)], h.symm⟩, fun h => ⟨by have := hsB_le h; unfold i64In; omega, by rw [csS, if_pos h], h.symm⟩⟩
noncomputable def A27_cutP_c (s p : ByteArray) : Ann := { orc := [(1, [(2, .res fun q => .tup [dS (csS (sO (arg q 0)) (sO (arg q 1))), dB (hsB (sO (arg q 0)) (sO (arg q 1)))])])], loops := [], cuts := [] }
theorem cutP_c (s p : ByteArray) (hs : s.size ≤ 1000000) (hp : p.size ≤ 1000000) : FnC prog 27 [dS s, dS p] (.tup [dS (csS s p), dB (hsB s p)]) := by
  refine FnC_owed hmix (A27_cutP_c s p) (V := .need [FnC prog 49 [.val (.string s), .val (.string p)] (.tup [.val (.string (csS s p)), (dB (hsB s p))])] (.done [csS s p = csS s p, hsB s p = hsB s p])) (by kernel_rfl) ?_
  simp only [VT.holds, AllT, Sq]
  exact cutI_c s p hs hp
end Go.Abs
