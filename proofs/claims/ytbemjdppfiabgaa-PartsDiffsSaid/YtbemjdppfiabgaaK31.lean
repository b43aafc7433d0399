/- Contracts. -/
import Derived.Test.YtbemjdppfiabgaaK30
import Derived.Test.YtbemjdppfiabgaaK10
set_option linter.unusedVariables false
set_option linter.unusedSimpArgs false
set_option maxRecDepth 100000
namespace Go.Abs
open Go
theorem pls_len (s : Scf) : (pls s).length = s.nM := (srt_len _).trans (plL_len s)
def zeroS : Scf := ⟨0, fun _ => 0, fun _ => 0, fun _ => 0, 0, fun _ => 0, fun _ => 0, fun _ => 0⟩
/-- The normal form of a scaffold. -/
def nmS (s : Scf) : Scf := if chkE s = 0 then bldS (pls s) else zeroS
def sameS (s t : Scf) : Bool := decide ((s.nN = t.nN ∧ s.nM = t.nM) ∧ (∀ j, j < s.nN → s.X j = t.X j ∧ s.Y j = t.Y j ∧ s.Z j = t.Z j) ∧ ∀ j, j < s.nM → s.K j = t.K j ∧ s.A j = t.A j ∧ s.B j = t.B j)
abbrev colF7 (A : Nat → Nat → Int) : List (Nat → DV) := [fun j => dI (A 0 j), fun j => dI (A 1 j), fun j => dI (A 2 j), fun j => dI (A 3 j), fun j => dI (A 4 j), fun j => dI (A 5 j), fun j => dI (A 6 j)]
def eq7 (A B : Nat → Nat → Int) (j : Nat) : Prop := A 0 j = B 0 j ∧ A 1 j = B 1 j ∧ A 2 j = B 2 j ∧ A 3 j = B 3 j ∧ A 4 j = B 4 j ∧ A 5 j = B 5 j ∧ A 6 j = B 6 j
instance (A B : Nat → Nat → Int) (j : Nat) : Decidable (eq7 A B j) := by unfold eq7; infer_instance
def sameP (n : Nat) (A : Nat → Nat → Int) (m : Nat) (B : Nat → Nat → Int) : Bool := decide (n = m ∧ ∀ j, j < n → eq7 A B j)
theorem sameS_no {s t : Scf} (h : ¬ ((s.nN = t.nN ∧ s.nM = t.nM) ∧ (∀ j, j < s.nN → s.X j = t.X j ∧ s.Y j = t.Y j ∧ s.Z j = t.Z j) ∧ ∀ j, j < s.nM → s.K j = t.K j ∧ s.A j = t.A j ∧ s.B j = t.B j)) : false = sameS s t := (decide_eq_false h).symm
theorem lt_step {p : Nat → Prop} {i : Nat} (h : ∀ j, j < i → p j) (hi : p i) : ∀ j, j < i + 1 → p j := fun j hj => by
  by_cases e : j = i
  · rw [e]; exact hi
  · exact h j (by omega)
noncomputable def A61_Normal_c (s : Scf) : Ann := { orc := [(1, [(1, .res fun q => rdD s)]), (4, [(1, .row fun _ => (s.nM, cols7 (pls s))), (2, .res fun _ => scfD (bldS (pls s)))])], loops := [], cuts := [] }
noncomputable abbrev Normal_cd0 (s : Scf) : DV := .agg [.lst s.nN [fun i => (dI (s.X i)), fun i => (dI (s.Y i)), fun i => (dI (s.Z i))], .lst s.nM [fun i => (dI (s.K i)), fun i => (dI (s.A i)), fun i => (dI (s.B i))], DV.mp (KS.ints (3:Nat)) (fun (l : List Int) => atH s (rdN s) l) fun (l : List Int) => (dI (atL s (rdN s) l))]
theorem Normal_c (s : Scf)  : FnC prog 61 [scfD s] (.tup [scfD (nmS s), dI (chkE s)]) := by
  refine FnC_owed hmix (A61_Normal_c s) (V := .need [FnC prog 74 [.agg [.lst s.nN [fun i => (dI (s.X i)), fun i => (dI (s.Y i)), fun i => (dI (s.Z i))], .lst s.nM [fun i => (dI (s.K i)), fun i => (dI (s.A i)), fun i => (dI (s.B i))]]] (.tup [(Normal_cd0 s), (dI (chkE s))])] (.ite (chkE s != 0) (.done [(nmS s).nN = 0, (nmS s).nM = 0, chkE s = chkE s]) (.need [FnR prog 116 [(Normal_cd0 s)] s.nM [fun j => (dI (col (pls s) (0:Nat) j)), fun j => (dI (col (pls s) (1:Nat) j)), fun j => (dI (col (pls s) (2:Nat) j)), fun j => (dI (col (pls s) (3:Nat) j)), fun j => (dI (col (pls s) (4:Nat) j)), fun j => (dI (col (pls s) (5:Nat) j)), fun j => (dI (col (pls s) (6:Nat) j))], s.nM ≤ s.nM, FnC prog 115 [.lst s.nM [fun i => (dI (col (pls s) (0:Nat) i)), fun i => (dI (col (pls s) (1:Nat) i)), fun i => (dI (col (pls s) (2:Nat) i)), fun i => (dI (col (pls s) (3:Nat) i)), fun i => (dI (col (pls s) (4:Nat) i)), fun i => (dI (col (pls s) (5:Nat) i)), fun i => (dI (col (pls s) (6:Nat) i))]] (.agg [.lst (bldS (pls s)).1 [fun i => (dI ((bldS (pls s)).2 i)), fun i => (dI ((bldS (pls s)).3 i)), fun i => (dI ((bldS (pls s)).4 i))], .lst (bldS (pls s)).5 [fun i => (dI ((bldS (pls s)).6 i)), fun i => (dI ((bldS (pls s)).7 i)), fun i => (dI ((bldS (pls s)).8 i))]])] (.done [(bldS (pls s)).1 = (nmS s).nN, ∀ i < (nmS s).nN, (bldS (pls s)).2 i = (nmS s).X i, ∀ i < (nmS s).nN, (bldS (pls s)).3 i = (nmS s).Y i, ∀ i < (nmS s).nN, (bldS (pls s)).4 i = (nmS s).Z i, (bldS (pls s)).5 = (nmS s).nM, ∀ i < (nmS s).nM, (bldS (pls s)).6 i = (nmS s).K i, ∀ i < (nmS s).nM, (bldS (pls s)).7 i = (nmS s).A i, ∀ i < (nmS s).nM, (bldS (pls s)).8 i = (nmS s).B i, (0:Int) = chkE s])))) (by kernel_rfl) ?_
  simp only [VT.holds, AllT, Normal_cd0, Sq]
  refine ⟨read_c s, fun h => ?_, fun h => ?_⟩
  · have e : nmS s = zeroS := if_neg h
    rw [e]; exact ⟨rfl, rfl⟩
  · have e : nmS s = bldS (pls s) := if_pos h
    have hc := chk_facts h
    have hb := built_c (pls s) (by rw [pls_len]; exact hc.nM)
    rw [pls_len] at hb
    rw [e, rdN_ok h]
    exact ⟨⟨places_c s hc, Nat.le_refl _, hb⟩, rfl, fun _ _ => rfl, fun _ _ => rfl, fun _ _ => rfl, rfl, fun _ _ => rfl, fun _ _ => rfl, fun _ _ => rfl, h.symm⟩
noncomputable def A64_sameS_c (s t : Scf) : Ann := { orc := [], loops := [(0, { ι := Nat, keep := [2, 3], boxes := [2, 3], ts := fun _ i => [(5, dI (i : Int))], inv := fun _ i => i ≤ s.nN ∧ ∀ j, j < i → s.X j = t.X j ∧ s.Y j = t.Y j ∧ s.Z j = t.Z j, mu := fun _ i => s.nN - i, rd := fun _ σ => (iOf (σ.get 5)).toNat }), (2, { ι := Nat, keep := [2, 3], boxes := [2, 3], ts := fun _ i => [(6, dI (i : Int))], inv := fun _ i => (i ≤ s.nM ∧ ∀ j, j < s.nN → s.X j = t.X j ∧ s.Y j = t.Y j ∧ s.Z j = t.Z j) ∧ ∀ j, j < i → s.K j = t.K j ∧ s.A j = t.A j ∧ s.B j = t.B j, mu := fun _ i => s.nM - i, rd := fun _ σ => (iOf (σ.get 6)).toNat })], cuts := [] }
noncomputable abbrev sameS_cr0 (s : Scf) (t : Scf) (r : List Prop) : List Prop := (s.nN = s.nN) :: (∀ (i : Nat), i < s.nN → s.X i = s.X i) :: (∀ (i : Nat), i < s.nN → s.Y i = s.Y i) :: (∀ (i : Nat), i < s.nN → s.Z i = s.Z i) :: (s.nM = s.nM) :: (∀ (i : Nat), i < s.nM → s.K i = s.K i) :: (∀ (i : Nat), i < s.nM → s.A i = s.A i) :: (∀ (i : Nat), i < s.nM → s.B i = s.B i) :: (t.nN = t.nN) :: (∀ (i : Nat), i < t.nN → t.X i = t.X i) :: (∀ (i : Nat), i < t.nN → t.Y i = t.Y i) :: (∀ (i : Nat), i < t.nN → t.Z i = t.Z i) :: (t.nM = t.nM) :: (∀ (i : Nat), i < t.nM → t.K i = t.K i) :: (∀ (i : Nat), i < t.nM → t.A i = t.A i) :: (∀ (i : Nat), i < t.nM → t.B i = t.B i) :: r
theorem sameS_c (s t : Scf) (hn : s.nN ≤ 1000000) (hm : s.nM ≤ 1000000) : FnC prog 64 [scfD s, scfD t] (dB (sameS s t)) := by
  refine FnC_owed hmix (A64_sameS_c s t) (V := .need [ri ((!(s.nN:Int) != (t.nN:Int)) = true), ri ((!(s.nN:Int) != (t.nN:Int)) = true), ri ((!(s.nN:Int) != (t.nN:Int)) = true), ri ((!(s.nN:Int) != (t.nN:Int)) = true), ri ((!(s.nN:Int) != (t.nN:Int)) = true), ri ((!(s.nN:Int) != (t.nN:Int)) = true), ((s.nN:Int) != (t.nN:Int)) = false → (!(s.nN:Int) != (t.nN:Int)) = true] (.ite (if ((s.nN:Int) != (t.nN:Int)) = true then true else (s.nM:Int) != (t.nM:Int)) (.done [false = sameS s t]) (.loop Nat (fun a => a ≤ s.nN ∧ ∀ (j : Nat), j < a → s.X j = t.X j ∧ s.Y j = t.Y j ∧ s.Z j = t.Z j) (0:Int).toNat (((0:Int) = (↑(0:Int).toNat : Int)) :: (sameS_cr0 s t [])) fun i => .ite (decide ((i:Int) < (s.nN:Int))) (.need [(0:Int) ≤ (i:Int) ∧ (i:Int) < (s.nN:Int), (0:Int) ≤ (i:Int) ∧ (i:Int) < (t.nN:Int)] (.ite (!(s.X (i:Int).toNat == t.X (i:Int).toNat && (s.Y (i:Int).toNat == t.Y (i:Int).toNat && (s.Z (i:Int).toNat == t.Z (i:Int).toNat && true)))) (.done [false = sameS s t]) (.need [i64In ((i:Int) + 1)] (.done (((i:Int) + 1 = (↑((i:Int) + 1).toNat : Int)) :: (sameS_cr0 s t [Int.toNat ((i:Int) + 1) ≤ s.nN ∧ ∀ (j : Nat), j < ((i:Int) + 1).toNat → s.X j = t.X j ∧ s.Y j = t.Y j ∧ s.Z j = t.Z j, s.nN - ((i:Int) + 1).toNat < s.nN - i])))))) (.loop Nat (fun a => (a ≤ s.nM ∧ ∀ (j : Nat), j < s.nN → s.X j = t.X j ∧ s.Y j = t.Y j ∧ s.Z j = t.Z j) ∧ ∀ (j : Nat), j < a → s.K j = t.K j ∧ s.A j = t.A j ∧ s.B j = t.B j) (0:Int).toNat (((0:Int) = (↑(0:Int).toNat : Int)) :: (sameS_cr0 s t [])) fun i => .ite (decide ((i:Int) < (s.nM:Int))) (.need [(0:Int) ≤ (↑i :
     Int) ∧ (i:Int) < (s.nM:Int), (0:Int) ≤ (i:Int) ∧ (i:Int) < (t.nM:Int)] (.ite (!(s.K (i:Int).toNat == t.K (i:Int).toNat && (s.A (i:Int).toNat == t.A (i:Int).toNat && (s.B (i:Int).toNat == t.B (i:Int).toNat && true)))) (.done [false = sameS s t]) (.need [i64In ((i:Int) + 1)] (.done (((i:Int) + 1 = (↑((i:Int) + 1).toNat : Int)) :: (sameS_cr0 s t [(Int.toNat ((i:Int) + 1) ≤ s.nM ∧ ∀ (j : Nat), j < s.nN → s.X j = t.X j ∧ s.Y j = t.Y j ∧ s.Z j = t.Z j) ∧ ∀ (j : Nat), j < ((i:Int) + 1).toNat → s.K j = t.K j ∧ s.A j = t.A j ∧ s.B j = t.B j, s.nM - ((i:Int) + 1).toNat < s.nM - i])))))) (.done [true = sameS s t]))))) (by kernel_rfl) ?_
  simp only [VT.holds, AllT, sameS_cr0, Sq]
  refine ⟨fun h => sameS_no fun h2 => by omega, fun ⟨h1, h2⟩ => ⟨rfl, ⟨Nat.zero_le _, fun j hj => absurd hj (Nat.not_lt_zero j)⟩, fun i ⟨hi, hb⟩ => ⟨fun hlt => ⟨⟨by omega, by omega⟩, fun hne => ?_, fun he => ⟨by unfold i64In; omega, by omega, ⟨by omega, lt_step hb he⟩, by omega⟩⟩, fun hge => ⟨rfl, ⟨⟨Nat.zero_le _, fun j hj => hb j (by omega)⟩, fun j hj => absurd hj (Nat.not_lt_zero j)⟩, fun k ⟨⟨hk, hn2⟩, hb2⟩ => ⟨fun hlt => ⟨⟨by omega, by omega⟩, fun hne => ?_, fun he => ⟨by unfold i64In; omega, by omega, ⟨⟨by omega, hn2⟩, lt_step hb2 he⟩, by omega⟩⟩, fun hge2 => ?_⟩⟩⟩⟩⟩
  · refine sameS_no fun h3 => ?_
    obtain ⟨a, b, c⟩ := h3.2.1 i (by omega)
    exact absurd (hne a b c) (by decide)
  · refine sameS_no fun h3 => ?_
    obtain ⟨a, b, c⟩ := h3.2.2 k (by omega)
    exact absurd (hne a b c) (by decide)
  · exact (decide_eq_true ⟨⟨by omega, by omega⟩, hn2, fun j hj => hb2 j (by omega)⟩).symm
noncomputable def A66_sameP_c (n : Nat) (A : Nat → Nat → Int) (m : Nat) (B : Nat → Nat → Int) : Ann := { orc := [], loops := [(0, { ι := Nat, keep := [0, 1], boxes := [], ts := fun _ i => [(5, dI (i : Int))], inv := fun _ i => i ≤ n ∧ ∀ j, j < i → eq7 A B j, mu := fun _ i => n - i, rd := fun _ σ => (iOf (σ.get 5)).toNat })], cuts := [] }
noncomputable abbrev sameP_cr0 (n : Nat) (A : Nat → Nat → Int) (m : Nat) (B : Nat → Nat → Int) (r : List Prop) : List Prop := (n = n) :: (∀ (i : Nat), i < n → A (0:Nat) i = A (0:Nat) i) :: (∀ (i : Nat), i < n → A (1:Nat) i = A (1:Nat) i) :: (∀ (i : Nat), i < n → A (2:Nat) i = A (2:Nat) i) :: (∀ (i : Nat), i < n → A (3:Nat) i = A (3:Nat) i) :: (∀ (i : Nat), i < n → A (4:Nat) i = A (4:Nat) i) :: (∀ (i : Nat), i < n → A (5:Nat) i = A (5:Nat) i) :: (∀ (i : Nat), i < n → A (6:Nat) i = A (6:Nat) i) :: (m = m) :: (∀ (i : Nat), i < m → B (0:Nat) i = B (0:Nat) i) :: (∀ (i : Nat), i < m → B (1:Nat) i = B (1:Nat) i) :: (∀ (i : Nat), i < m → B (2:Nat) i = B (2:Nat) i) :: (∀ (i : Nat), i < m → B (3:Nat) i = B (3:Nat) i) :: (∀ (i : Nat), i < m → B (4:Nat) i = B (4:Nat) i) :: (∀ (i : Nat), i < m → B (5:Nat) i = B (5:Nat) i) :: (∀ (i : Nat), i < m → B (6:Nat) i = B (6:Nat) i) :: r
theorem sameP_c (n : Nat) (A : Nat → Nat → Int) (m : Nat) (B : Nat → Nat → Int) (hn : n ≤ 1000000) : FnC prog 66 [.lst n (colF7 A), .lst m (colF7 B)] (dB (sameP n A m B)) := by
  refine FnC_owed hmix (A66_sameP_c n A m B) (V := .ite ((n:Int) != (m:Int)) (.done [false = sameP n A m B]) (.loop Nat (fun a => a ≤ n ∧ ∀ (j : Nat), j < a → eq7 A B j) (0:Int).toNat (((0:Int) = (↑(0:Int).toNat : Int)) :: (sameP_cr0 n A m B [])) fun i => .ite (decide ((i:Int) < (n:Int))) (.need [(0:Int) ≤ (i:Int) ∧ (i:Int) < (n:Int), (0:Int) ≤ (i:Int) ∧ (i:Int) < (m:Int)] (.ite (!(A 0 (i:Int).toNat == B 0 (i:Int).toNat && (A 1 (i:Int).toNat == B 1 (i:Int).toNat && (A 2 (i:Int).toNat == B 2 (i:Int).toNat && (A 3 (i:Int).toNat == B 3 (i:Int).toNat && true)) && (A 4 (i:Int).toNat == B 4 (i:Int).toNat && (A 5 (i:Int).toNat == B 5 (i:Int).toNat && (A 6 (i:Int).toNat == B 6 (i:Int).toNat && true)) && true)))) (.done [false = sameP n A m B]) (.need [i64In ((i:Int) + 1)] (.done (((i:Int) + 1 = (↑((i:Int) + 1).toNat : Int)) :: (sameP_cr0 n A m B [Int.toNat ((i:Int) + 1) ≤ n ∧ ∀ (j : Nat), j < ((i:Int) + 1).toNat → eq7 A B j, n - ((i:Int) + 1).toNat < n - i])))))) (.done [true = sameP n A m B]))) (by kernel_rfl) ?_
  simp only [VT.holds, AllT, sameP_cr0, Sq]
  refine ⟨fun h => (decide_eq_false fun h2 => by omega).symm, fun h => ⟨rfl, ⟨Nat.zero_le _, fun j hj => absurd hj (Nat.not_lt_zero j)⟩, fun i ⟨hi, hb⟩ => ⟨fun hlt => ⟨⟨by omega, by omega⟩, fun hne => ?_, fun ⟨e0, ⟨e1, e2, e3⟩, e4, e5, e6⟩ => ⟨by unfold i64In; omega, by omega, ⟨by omega, lt_step hb ⟨e0, e1, e2, e3, e4, e5, e6⟩⟩, by omega⟩⟩, fun hge => ?_⟩⟩⟩
  · refine (decide_eq_false fun h2 => ?_).symm
    obtain ⟨a, b, c, d, e, f, g⟩ := h2.2 i (by omega)
    exact absurd (hne a ⟨b, c, d⟩ ⟨e, f, g⟩) (by decide)
  · exact (decide_eq_true ⟨by omega, fun j hj => hb j (by omega)⟩).symm
end Go.Abs
