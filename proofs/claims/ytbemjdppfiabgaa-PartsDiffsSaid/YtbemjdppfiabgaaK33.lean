/- Contracts. -/
import Derived.Test.YtbemjdppfiabgaaK32
import Derived.Test.YtbemjdppfiabgaaK11
set_option linter.unusedVariables false
set_option linter.unusedSimpArgs false
set_option maxRecDepth 100000
namespace Go.Abs
open Go
abbrev wS (L : List (List Int)) (n : Nat) : Scf := ⟨L.length, col L 0, col L 1, col L 2, n, fun _ => 0, fun _ => 0, fun _ => 0⟩
def nIx (L : List (List Int)) (q : List Int) : Int := nAt (wS L 0) L.length (q.getD 0 0) (q.getD 1 0) (q.getD 2 0)
theorem nAt_congr {s t : Scf} (hX : s.X = t.X) (hY : s.Y = t.Y) (hZ : s.Z = t.Z) : ∀ n x y z, nAt s n x y z = nAt t n x y z
  | 0, _, _, _ => rfl
  | n + 1, x, y, z => by rw [nAt, nAt, nAt_congr hX hY hZ n, hX, hY, hZ]
noncomputable def A67_placesR_c (s : Scf) : Ann := { orc := [(5, [(7, .res fun q => dP (fI 0 (arg q 1)) (s.X (fI 1 (arg q 1)).toNat) (s.Y (fI 1 (arg q 1)).toNat) (s.Z (fI 1 (arg q 1)).toNat) (s.X (fI 2 (arg q 1)).toNat) (s.Y (fI 2 (arg q 1)).toNat) (s.Z (fI 2 (arg q 1)).toNat))]), (6, [(1, .row fun _ => (s.nM, cols7 (pls s)))])], loops := [(0, { ι := Nat, keep := [1], boxes := [1], ts := fun _ i => [(4, dI (i : Int))], rw := fun _ i => [(3, 7, i, cols7 (plL s))], inv := fun _ i => i ≤ s.nM, mu := fun _ i => s.nM - i, rd := fun _ σ => (iOf (σ.get 4)).toNat })], cuts := [] }
theorem placesR_c (s : Scf) (hc : ScfOK s) : FnR prog 67 [scfD s] s.nM (cols7 (pls s)) := by
  refine FnR_owed hmix (A67_placesR_c s) (V := .loop Nat (fun a => a ≤ s.nM) (0:Int).toNat [(0:Int) = (↑(0:Int).toNat : Int), (0:Nat) = 0, Int.toNat (0:Int) = 0, Int.toNat (0:Int) = 0, s.nN = s.nN, ∀ i < s.nN, s.X i = s.X i, ∀ i < s.nN, s.Y i = s.Y i, ∀ i < s.nN, s.Z i = s.Z i, s.nM = s.nM, ∀ i < s.nM, s.K i = s.K i, ∀ i < s.nM, s.A i = s.A i, ∀ i < s.nM, s.B i = s.B i] fun i => .ite (decide ((i:Int) < (s.nM:Int))) (.need [(0:Int) ≤ (i:Int) ∧ (i:Int) < (s.nM:Int), FnC prog 118 [.agg [.lst s.nN [fun i => (dI (s.X i)), fun i => (dI (s.Y i)), fun i => (dI (s.Z i))], .lst s.nM [fun i => (dI (s.K i)), fun i => (dI (s.A i)), fun i => (dI (s.B i))]], .val (.agg (Array.mk [.int .i64 (s.K (i:Int).toNat), .int .i64 (s.A (i:Int).toNat), .int .i64 (s.B (i:Int).toNat)]))] (.val (.agg (Array.mk [.int .i64 (s.K (i:Int).toNat), .int .i64 (s.X (s.A (i:Int).toNat).toNat), .int .i64 (s.Y (s.A (i:Int).toNat).toNat), .int .i64 (s.Z (s.A (i:Int).toNat).toNat), .int .i64 (s.X (s.B (i:Int).toNat).toNat), .int .i64 (s.Y (s.B (i:Int).toNat).toNat), .int .i64 (s.Z (s.B (i:Int).toNat).toNat)]))), i ≤ i, (i + 1) * (nat_lit 55 + 1) ≤ 140737488355328, (1:Nat) ≤ 1] (.need [i64In ((i:Int) + 1)] (.done [(i:Int) + 1 = (↑((i:Int) + 1).toNat : Int), (0:Nat) = 0, i + 1 = ((i:Int) + 1).toNat, i + 1 = ((i:Int) + 1).toNat, ∀ i_1 < ((i:Int) + 1).toNat, (if decide (i_1 < i) = true then col (plL s) (0:Nat) i_1 else s.K (i:Int).toNat) = col (plL s) (0:Nat) i_1, ∀ i_1 < ((i:Int) + 1).toNat, (if decide (i_1 < i) = true then col (plL s) (1:Nat) i_1 else s.X (s.A (↑i :
     Int).toNat).toNat) = col (plL s) (1:Nat) i_1, ∀ i_1 < ((i:Int) + 1).toNat, (if decide (i_1 < i) = true then col (plL s) (2:Nat) i_1 else s.Y (s.A (i:Int).toNat).toNat) = col (plL s) (2:Nat) i_1, ∀ i_1 < ((i:Int) + 1).toNat, (if decide (i_1 < i) = true then col (plL s) (3:Nat) i_1 else s.Z (s.A (i:Int).toNat).toNat) = col (plL s) (3:Nat) i_1, ∀ i_1 < ((i:Int) + 1).toNat, (if decide (i_1 < i) = true then col (plL s) (4:Nat) i_1 else s.X (s.B (i:Int).toNat).toNat) = col (plL s) (4:Nat) i_1, ∀ i_1 < ((i:Int) + 1).toNat, (if decide (i_1 < i) = true then col (plL s) (5:Nat) i_1 else s.Y (s.B (i:Int).toNat).toNat) = col (plL s) (5:Nat) i_1, ∀ i_1 < ((i:Int) + 1).toNat, (if decide (i_1 < i) = true then col (plL s) (6:Nat) i_1 else s.Z (s.B (i:Int).toNat).toNat) = col (plL s) (6:Nat) i_1, s.nN = s.nN, ∀ i < s.nN, s.X i = s.X i, ∀ i < s.nN, s.Y i = s.Y i, ∀ i < s.nN, s.Z i = s.Z i, s.nM = s.nM, ∀ i < s.nM, s.K i = s.K i, ∀ i < s.nM, s.A i = s.A i, ∀ i < s.nM, s.B i = s.B i, Int.toNat ((i:Int) + 1) ≤ s.nM, s.nM - ((i:Int) + 1).toNat < s.nM - i]))) (.need [i ≤ i, FnR prog 119 [.lst i [fun i => (dI (col (plL s) (0:Nat) i)), fun i => (dI (col (plL s) (1:Nat) i)), fun i => (dI (col (plL s) (2:Nat) i)), fun i => (dI (col (plL s) (3:Nat) i)), fun i => (dI (col (plL s) (4:Nat) i)), fun i => (dI (col (plL s) (5:Nat) i)), fun i => (dI (col (plL s) (6:Nat) i))]] s.nM [fun j => (dI (col (pls s) (0:Nat) j)), fun j => (dI (col (pls s) (1:Nat) j)), fun j => (dI (col (pls s) (2:Nat) j)), fun j => (dI (col (pls s) (3:Nat) j)), fun j => (dI (col (pls s) (4:Nat) j)), fun j => (dI (col (pls s) (5:Nat) j)), fun j => (dI (col (pls s) (6 :
     Nat) j))]] (.done [s.nM = s.nM ∧ s.nM ≤ s.nM, ∀ i < s.nM, col (pls s) (0:Nat) i = col (pls s) (0:Nat) i, ∀ i < s.nM, col (pls s) (1:Nat) i = col (pls s) (1:Nat) i, ∀ i < s.nM, col (pls s) (2:Nat) i = col (pls s) (2:Nat) i, ∀ i < s.nM, col (pls s) (3:Nat) i = col (pls s) (3:Nat) i, ∀ i < s.nM, col (pls s) (4:Nat) i = col (pls s) (4:Nat) i, ∀ i < s.nM, col (pls s) (5:Nat) i = col (pls s) (5:Nat) i, ∀ i < s.nM, col (pls s) (6:Nat) i = col (pls s) (6:Nat) i]))) (by kernel_rfl) ?_
  simp only [VT.holds, AllT, Sq]
  have hm := hc.nM
  refine ⟨rfl, Nat.zero_le _, fun i hi => ⟨fun hlt => ?_, fun hge => ?_⟩⟩
  · have hlt : i < s.nM := by omega
    obtain ⟨hA, hB⟩ := hc.ends i hlt
    have c : ∀ c, col (plL s) c i = (plc s i).getD c 0 := plL_col hlt
    exact ⟨⟨by omega, placeOf_c s _ _ _ hA hB, Nat.le_refl _, by omega, Nat.le_refl _⟩, by unfold i64In; omega, by omega, app_col (c 0), app_col (c 1), app_col (c 2), app_col (c 3), app_col (c 4), app_col (c 5), app_col (c 6), by omega, by omega⟩
  · obtain rfl : i = s.nM := by omega
    have h := sorted_c (plL s) (plL_seven s) (by rw [plL_len]; omega)
    rw [plL_len] at h
    exact ⟨⟨Nat.le_refl _, h⟩, Nat.le_refl _⟩
end Go.Abs
