/- Contracts. -/
import Derived.Test.YtbemjdppfiabgaaK30
import Derived.Test.YtbemjdppfiabgaaK10
set_option linter.unusedVariables false
set_option linter.unusedSimpArgs false
set_option maxRecDepth 100000
namespace Go.Abs
open Go
theorem pls_len (s : Scf) : (pls s).length = s.nM := (srt_len _).trans (plL_len s)
def zeroS : Scf := ⟨0, fun _ => 0, fun _ => 0, fun _ => 0, 0, fun _ => 0, fun _ => 0, fun _ => 0⟩
def sameS (s t : Scf) : Bool := decide ((s.nN = t.nN ∧ s.nM = t.nM) ∧ (∀ j, j < s.nN → s.X j = t.X j ∧ s.Y j = t.Y j ∧ s.Z j = t.Z j) ∧ ∀ j, j < s.nM → s.K j = t.K j ∧ s.A j = t.A j ∧ s.B j = t.B j)
abbrev colF7 (A : Nat → Nat → Int) : List (Nat → DV) := [fun j => dI (A 0 j), fun j => dI (A 1 j), fun j => dI (A 2 j), fun j => dI (A 3 j), fun j => dI (A 4 j), fun j => dI (A 5 j), fun j => dI (A 6 j)]
def eq7 (A B : Nat → Nat → Int) (j : Nat) : Prop := A 0 j = B 0 j ∧ A 1 j = B 1 j ∧ A 2 j = B 2 j ∧ A 3 j = B 3 j ∧ A 4 j = B 4 j ∧ A 5 j = B 5 j ∧ A 6 j = B 6 j
instance (A B : Nat → Nat → Int) (j : Nat) : Decidable (eq7 A B j) := by unfold eq7; infer_instance
theorem sameS_no {s t : Scf} (h : ¬ ((s.nN = t.nN ∧ s.nM = t.nM) ∧ (∀ j, j < s.nN → s.X j = t.X j ∧ s.Y j = t.Y j ∧ s.Z j = t.Z j) ∧ ∀ j, j < s.nM → s.K j = t.K j ∧ s.A j = t.A j ∧ s.B j = t.B j)) : false = sameS s t := (decide_eq_false h).symm
theorem lt_step {p : Nat → Prop} {i : Nat} (h : ∀ j, j < i → p j) (hi : p i) : ∀ j, j < i + 1 → p j := fun j hj => by
  by_cases e : j = i
  · rw [e]; exact hi
  · exact h j (by omega)
noncomputable def A63_none_c (s : Scf) : Ann := { orc := [], loops := [], cuts := [] }
theorem none_c (s : Scf)  : FnC prog 63 [scfD s] (dB (decide (s.nN = 0 ∧ s.nM = 0))) := by
  refine FnC_owed hmix (A63_none_c s) (V := .need [((s.nN:Int) == 0) = true → ((s.nN:Int) == 0) = true, ((s.nN:Int) == 0) = true → ((s.nN:Int) == 0) = true, ((s.nN:Int) == 0) = true → ((s.nN:Int) == 0) = true, ((s.nN:Int) == 0) = true → ((s.nN:Int) == 0) = true] (.done [(if ((s.nN:Int) == 0) = true then (s.nM:Int) == 0 else false) = decide (s.nN = 0 ∧ s.nM = 0)])) (by kernel_rfl) ?_
  simp only [VT.holds, AllT, Sq]
  rw [Bool.eq_iff_iff]
  simp
noncomputable def A64_sameS_c (s t : Scf) : Ann := { orc := [], loops := [(0, { ι := Nat, keep := [2, 3], boxes := [2, 3], ts := fun _ i => [(5, dI (i : Int))], inv := fun _ i => i ≤ s.nN ∧ ∀ j, j < i → s.X j = t.X j ∧ s.Y j = t.Y j ∧ s.Z j = t.Z j, mu := fun _ i => s.nN - i, rd := fun _ σ => (iOf (σ.get 5)).toNat }), (2, { ι := Nat, keep := [2, 3], boxes := [2, 3], ts := fun _ i => [(6, dI (i : Int))], inv := fun _ i => (i ≤ s.nM ∧ ∀ j, j < s.nN → s.X j = t.X j ∧ s.Y j = t.Y j ∧ s.Z j = t.Z j) ∧ ∀ j, j < i → s.K j = t.K j ∧ s.A j = t.A j ∧ s.B j = t.B j, mu := fun _ i => s.nM - i, rd := fun _ σ => (iOf (σ.get 6)).toNat })], cuts := [] }
noncomputable abbrev sameS_cr0 (s : Scf) (t : Scf) (r : List Prop) : List Prop := (s.nN = s.nN) :: (∀ (i : Nat), i < s.nN → s.X i = s.X i) :: (∀ (i : Nat), i < s.nN → s.Y i = s.Y i) :: (∀ (i : Nat), i < s.nN → s.Z i = s.Z i) :: (s.nM = s.nM) :: (∀ (i : Nat), i < s.nM → s.K i = s.K i) :: (∀ (i : Nat), i < s.nM → s.A i = s.A i) :: (∀ (i : Nat), i < s.nM → s.B i = s.B i) :: (t.nN = t.nN) :: (∀ (i : Nat), i < t.nN → t.X i = t.X i) :: (∀ (i : Nat), i < t.nN → t.Y i = t.Y i) :: (∀ (i : Nat), i < t.nN → t.Z i = t.Z i) :: (t.nM = t.nM) :: (∀ (i : Nat), i < t.nM → t.K i = t.K i) :: (∀ (i : Nat), i < t.nM → t.A i = t.A i) :: (∀ (i : Nat), i < t.nM → t.B i = t.B i) :: r
theorem sameS_c (s t : Scf) (hn : s.nN ≤ 1000000) (hm : s.nM ≤ 1000000) : FnC prog 64 [scfD s, scfD t] (dB (sameS s t)) := by
  refine FnC_owed hmix (A64_sameS_c s t) (V := .need [(!(s.nN:Int) != (t.nN:Int)) = true → (!(s.nN:Int) != (t.nN:Int)) = true, (!(s.nN:Int) != (t.nN:Int)) = true → (!(s.nN:Int) != (t.nN:Int)) = true, (!(s.nN:Int) != (t.nN:Int)) = true → (!(s.nN:Int) != (t.nN:Int)) = true, (!(s.nN:Int) != (t.nN:Int)) = true → (!(s.nN:Int) != (t.nN:Int)) = true, (!(s.nN:Int) != (t.nN:Int)) = true → (!(s.nN:Int) != (t.nN:Int)) = true, (!(s.nN:Int) != (t.nN:Int)) = true → (!(s.nN:Int) != (t.nN:Int)) = true, ((s.nN:Int) != (t.nN:Int)) = false → (!(s.nN:Int) != (t.nN:Int)) = true] (.ite (if ((s.nN:Int) != (t.nN:Int)) = true then true else (s.nM:Int) != (t.nM:Int)) (.done [false = sameS s t]) (.loop Nat (fun a => a ≤ s.nN ∧ ∀ (j : Nat), j < a → s.X j = t.X j ∧ s.Y j = t.Y j ∧ s.Z j = t.Z j) (0:Int).toNat (((0:Int) = (↑(0:Int).toNat : Int)) :: (sameS_cr0 s t [])) fun i => .ite (decide ((i:Int) < (s.nN:Int))) (.need [(0:Int) ≤ (i:Int) ∧ (i:Int) < (s.nN:Int), (0:Int) ≤ (i:Int) ∧ (i:Int) < (t.nN:Int)] (.ite (!(s.X (i:Int).toNat == t.X (i:Int).toNat && (s.Y (i:Int).toNat == t.Y (i:Int).toNat && (s.Z (i:Int).toNat == t.Z (i:Int).toNat && true)))) (.done [false = sameS s t]) (.need [i64In ((i:Int) + 1)] (.done (((i:Int) + 1 = (↑((i:Int) + 1).toNat : Int)) :: (sameS_cr0 s t [Int.toNat ((i:Int) + 1) ≤ s.nN ∧ ∀ (j : Nat), j < ((i:Int) + 1).toNat → s.X j = t.X j ∧ s.Y j = t.Y j ∧ s.Z j = t.Z j, s.nN - ((i:Int) + 1).toNat < s.nN - i])))))) (.loop Nat (fun a => (a ≤ s.nM ∧ ∀ (j : Nat), j < s.nN → s.X j = t.X j ∧ s.Y j = t.Y j ∧ s.Z j = t.Z j) ∧ ∀ (j : Nat), j < a → s.K j = t.K j ∧ s.A j = t.A j ∧ s.B j = t.B j) (0:Int).toNat (((0:Int) = (↑(0:Int).toNat : Int)) :: (sameS_cr0 s t [])) fun i => .ite (decide ((i:Int) < (s.nM:Int))) (.need [(0:Int) ≤ (↑i :
     Int) ∧ (i:Int) < (s.nM:Int), (0:Int) ≤ (i:Int) ∧ (i:Int) < (t.nM:Int)] (.ite (!(s.K (i:Int).toNat == t.K (i:Int).toNat && (s.A (i:Int).toNat == t.A (i:Int).toNat && (s.B (i:Int).toNat == t.B (i:Int).toNat && true)))) (.done [false = sameS s t]) (.need [i64In ((i:Int) + 1)] (.done (((i:Int) + 1 = (↑((i:Int) + 1).toNat : Int)) :: (sameS_cr0 s t [(Int.toNat ((i:Int) + 1) ≤ s.nM ∧ ∀ (j : Nat), j < s.nN → s.X j = t.X j ∧ s.Y j = t.Y j ∧ s.Z j = t.Z j) ∧ ∀ (j : Nat), j < ((i:Int) + 1).toNat → s.K j = t.K j ∧ s.A j = t.A j ∧ s.B j = t.B j, s.nM - ((i:Int) + 1).toNat < s.nM - i])))))) (.done [true = sameS s t]))))) (by kernel_rfl) ?_
  simp only [VT.holds, AllT, sameS_cr0, Sq]
  refine ⟨fun h => sameS_no fun h2 => by omega, fun ⟨h1, h2⟩ => ⟨rfl, ⟨Nat.zero_le _, fun j hj => absurd hj (Nat.not_lt_zero j)⟩, fun i ⟨hi, hb⟩ => ⟨fun hlt => ⟨⟨by omega, by omega⟩, fun hne => ?_, fun he => ⟨by unfold i64In; omega, by omega, ⟨by omega, lt_step hb he⟩, by omega⟩⟩, fun hge => ⟨rfl, ⟨⟨Nat.zero_le _, fun j hj => hb j (by omega)⟩, fun j hj => absurd hj (Nat.not_lt_zero j)⟩, fun k ⟨⟨hk, hn2⟩, hb2⟩ => ⟨fun hlt => ⟨⟨by omega, by omega⟩, fun hne => ?_, fun he => ⟨by unfold i64In; omega, by omega, ⟨⟨by omega, hn2⟩, lt_step hb2 he⟩, by omega⟩⟩, fun hge2 => ?_⟩⟩⟩⟩⟩
  · refine sameS_no fun h3 => ?_
    obtain ⟨a, b, c⟩ := h3.2.1 i (by omega)
    exact absurd (hne a b c) (by decide)
  · refine sameS_no fun h3 => ?_
    obtain ⟨a, b, c⟩ := h3.2.2 k (by omega)
    exact absurd (hne a b c) (by decide)
  · exact (decide_eq_true ⟨⟨by omega, by omega⟩, hn2, fun j hj => hb2 j (by omega)⟩).symm
end Go.Abs
