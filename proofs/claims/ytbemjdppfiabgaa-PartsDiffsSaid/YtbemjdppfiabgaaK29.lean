/- Contracts. -/
import Derived.Test.YtbemjdppfiabgaaLs
import Derived.Test.YtbemjdppfiabgaaK4
set_option linter.unusedVariables false
set_option linter.unusedSimpArgs false
set_option maxRecDepth 100000
namespace Go.Abs
open Go
/-- The place of a member; the places of all, in order. -/
def plc (s : Scf) (i : Nat) : List Int := [s.K i, s.X (s.A i).toNat, s.Y (s.A i).toNat, s.Z (s.A i).toNat, s.X (s.B i).toNat, s.Y (s.B i).toNat, s.Z (s.B i).toNat]
def plL (s : Scf) : List (List Int) := lsOf s.nM (plc s)
def pls (s : Scf) : List (List Int) := srt (plL s)
abbrev tup0 : DV := .val (.tuple #[])
theorem plL_len (s : Scf) : (plL s).length = s.nM := lsOf_len _ _
theorem plL_seven (s : Scf) : ∀ x ∈ plL s, x.length = 7 := fun x hx => by
  obtain ⟨j, _, rfl⟩ := mem_lsOf.1 hx
  rfl
theorem plL_col {s : Scf} {j : Nat} (h : j < s.nM) (c : Nat) : col (plL s) c j = (plc s j).getD c 0 := by rw [col, plL, lsOf_get h]
theorem app_col {X : Nat → Int} {i : Nat} {v : Int} (h : X i = v) : ∀ j, j < i + 1 → (if j < i then X j else v) = X j := fun j hj => by
  by_cases e : j < i
  · rw [if_pos e]
  · rw [if_neg e, show j = i by omega, h]
noncomputable def A116_places_c (s : Scf) : Ann := { orc := [(7, [(1, .wr fun _ => ([.row (cols7 (pls s)), .no], tup0))])], loops := [(0, { ι := Nat, keep := [1, 8, 9], boxes := [1], ts := fun _ i => [(10, dI (i : Int))], rw := fun _ i => [(3, 7, i, cols7 (plL s))], inv := fun _ i => i ≤ s.nM, mu := fun _ i => s.nM - i, rd := fun _ σ => (iOf (σ.get 10)).toNat })], cuts := [] }
noncomputable abbrev places_cr0 (s : Scf) (r : List Prop) : List Prop := (s.nM = s.nM) :: (∀ (i : Nat), i < s.nM → s.K i = s.K i) :: (∀ (i : Nat), i < s.nM → s.A i = s.A i) :: (∀ (i : Nat), i < s.nM → s.B i = s.B i) :: r
theorem places_c (s : Scf) (hc : ScfOK s) : FnR prog 116 [frmD s s.nN] s.nM (cols7 (pls s)) := by
  refine FnR_owed hmix (A116_places_c s) (V := .loop Nat (fun a => a ≤ s.nM) (0:Int).toNat (((0:Int) = (↑(0:Int).toNat : Int)) :: (((0:Nat) = 0) :: ((Int.toNat (0:Int) = 0) :: (places_cr0 s (((s.nM:Int) = (s.nM:Int)) :: ((Int.toNat (0:Int) = 0) :: ((s.nN = s.nN) :: ((∀ i < s.nN, s.X i = s.X i) :: ((∀ i < s.nN, s.Y i = s.Y i) :: ((∀ i < s.nN, s.Z i = s.Z i) :: (places_cr0 s [∀ (l : List Int), atH s s.nN l = atH s s.nN l, ∀ (l : List Int), atH s s.nN l = true → atL s s.nN l = atL s s.nN l]))))))))))) fun i => .ite (decide ((i:Int) < (s.nM:Int))) (.need [(0:Int) ≤ (i:Int) ∧ (i:Int) < (s.nM:Int)] (.need [(0:Int) ≤ s.A (i:Int).toNat ∧ s.A (i:Int).toNat < (s.nN:Int), (0:Int) ≤ s.B (i:Int).toNat ∧ s.B (i:Int).toNat < (s.nN:Int), i ≤ i, (i + 1) * (nat_lit 55 + 1) ≤ 140737488355328, (1:Nat) ≤ 1] (.need [i64In ((i:Int) + 1)] (.done (((i:Int) + 1 = (↑((i:Int) + 1).toNat : Int)) :: (((0:Nat) = 0) :: ((i + 1 = ((i:Int) + 1).toNat) :: (places_cr0 s (((s.nM:Int) = (s.nM:Int)) :: ((i + 1 = ((i:Int) + 1).toNat) :: ((∀ i_1 < ((i:Int) + 1).toNat, (if decide (i_1 < i) = true then col (plL s) (0:Nat) i_1 else s.K (i:Int).toNat) = col (plL s) (0:Nat) i_1) :: ((∀ i_1 < ((i:Int) + 1).toNat, (if decide (i_1 < i) = true then col (plL s) (1:Nat) i_1 else s.X (s.A (i:Int).toNat).toNat) = col (plL s) (1:Nat) i_1) :: ((∀ i_1 < ((i:Int) + 1).toNat, (if decide (i_1 < i) = true then col (plL s) (2:Nat) i_1 else s.Y (s.A (i:Int).toNat).toNat) = col (plL s) (2:Nat) i_1) :: ((∀ i_1 < ((i:Int) + 1).toNat, (if decide (i_1 < i) = true then col (plL s) (3:Nat) i_1 else s.Z (s.A (↑i
     : Int).toNat).toNat) = col (plL s) (3:Nat) i_1) :: ((∀ i_1 < ((i:Int) + 1).toNat, (if decide (i_1 < i) = true then col (plL s) (4:Nat) i_1 else s.X (s.B (i:Int).toNat).toNat) = col (plL s) (4:Nat) i_1) :: ((∀ i_1 < ((i:Int) + 1).toNat, (if decide (i_1 < i) = true then col (plL s) (5:Nat) i_1 else s.Y (s.B (i:Int).toNat).toNat) = col (plL s) (5:Nat) i_1) :: ((∀ i_1 < ((i:Int) + 1).toNat, (if decide (i_1 < i) = true then col (plL s) (6:Nat) i_1 else s.Z (s.B (i:Int).toNat).toNat) = col (plL s) (6:Nat) i_1) :: ((s.nN = s.nN) :: ((∀ i < s.nN, s.X i = s.X i) :: ((∀ i < s.nN, s.Y i = s.Y i) :: ((∀ i < s.nN, s.Z i = s.Z i) :: (places_cr0 s [∀ (l : List Int), atH s s.nN l = atH s s.nN l, ∀ (l : List Int), atH s s.nN l = true → atL s s.nN l = atL s s.nN l, Int.toNat ((i:Int) + 1) ≤ s.nM, s.nM - ((i:Int) + 1).toNat < s.nM - i])))))))))))))))))))))) (.need [i = i, valCol fun j => dI (col (pls s) (0:Nat) j), valCol fun j => dI (col (pls s) (1:Nat) j), valCol fun j => dI (col (pls s) (2:Nat) j), valCol fun j => dI (col (pls s) (3:Nat) j), valCol fun j => dI (col (pls s) (4:Nat) j), valCol fun j => dI (col (pls s) (5:Nat) j), valCol fun j => dI (col (pls s) (6:Nat) j), FnW prog 120 [WA.row i [fun j => (dI (col (plL s) (0:Nat) j)), fun j => (dI (col (plL s) (1:Nat) j)), fun j => (dI (col (plL s) (2:Nat) j)), fun j => (dI (col (plL s) (3:Nat) j)), fun j => (dI (col (plL s) (4:Nat) j)), fun j => (dI (col (plL s) (5:Nat) j)), fun j => (dI (col (plL s) (6:Nat) j))] [fun j => (dI (col (pls s) (0:Nat) j)), fun j => (dI (col (pls s) (1:Nat) j)), fun j => (dI (col (pls s) (2:Nat) j)), fun j => (dI (col (pls s) (3:Nat) j)), fun j => (dI (col (pls s) (4:Nat) j)), fun j => (dI (col (pls s) (5:Nat) j)), fun j => (dI (col (pls s) (6:Nat) j))],
     WA.arg (.val (Value.func (Fn.func 121) (Array.mk []) (Array.mk [])))] (.val (Value.tuple (Array.mk [])))] (.done [i = s.nM ∧ i ≤ i, ∀ i < s.nM, col (pls s) (0:Nat) i = col (pls s) (0:Nat) i, ∀ i < s.nM, col (pls s) (1:Nat) i = col (pls s) (1:Nat) i, ∀ i < s.nM, col (pls s) (2:Nat) i = col (pls s) (2:Nat) i, ∀ i < s.nM, col (pls s) (3:Nat) i = col (pls s) (3:Nat) i, ∀ i < s.nM, col (pls s) (4:Nat) i = col (pls s) (4:Nat) i, ∀ i < s.nM, col (pls s) (5:Nat) i = col (pls s) (5:Nat) i, ∀ i < s.nM, col (pls s) (6:Nat) i = col (pls s) (6:Nat) i]))) (by kernel_rfl) ?_
  simp only [VT.holds, AllT, places_cr0, Sq]
  have hm := hc.nM
  refine ⟨rfl, Nat.zero_le _, fun i hi => ⟨fun hlt => ?_, fun hge => ?_⟩⟩
  · have hlt : i < s.nM := by omega
    obtain ⟨hA, hB⟩ := hc.ends i hlt
    have c : ∀ c, col (plL s) c i = (plc s i).getD c 0 := plL_col hlt
    exact ⟨by omega, ⟨hA, hB, Nat.le_refl _, by omega, Nat.le_refl _⟩, by unfold i64In; omega, by omega, app_col (c 0), app_col (c 1), app_col (c 2), app_col (c 3), app_col (c 4), app_col (c 5), app_col (c 6), by omega, by omega⟩
  · obtain rfl : i = s.nM := by omega
    have h := sortP_c (plL s) (plL_seven s) (by rw [plL_len]; omega)
    rw [plL_len] at h
    exact ⟨⟨fun _ => trivial, fun _ => trivial, fun _ => trivial, fun _ => trivial, fun _ => trivial, fun _ => trivial, fun _ => trivial, h⟩, rfl, Nat.le_refl _⟩
end Go.Abs
