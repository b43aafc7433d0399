/- The amount of any number. Contracts. -/
import Derived.Test.YtomkiggacimmaaaGreatK1
import Derived.WalkKit
import Derived.Deep.LoopGhost
import Derived.Lib.Walk
import Derived.Test.YtomkiggacimmaaaGreatK52
section
set_option linter.unusedVariables false
set_option linter.unusedSimpArgs false
set_option maxRecDepth 100000
namespace Go.Abs
open Go Go.RowKit Go.Lib
attribute [local go_sem] Oper.semAt_some
/-- The amount, as the machine has it. -/
def abW (x : Int) : Int := max x (wrap64 (-x))
theorem abs_walk (x : Int) (w : World) : Calls prog 20 #[.int .i64 x] w fun e w' => e = .returned (.int .i64 (abW x)) ∧ w' = w := by
  have mixed := hmix
  go_enter Go.Proofs.Tryz.func20, Go.Proofs.Tryz.ntmps20
  go_wp2
  go_ret
  exact ⟨rfl, rfl⟩
theorem absW_c (x : Int) : FnC prog 20 [dI x] (dI (abW x)) := by
  refine ⟨⟨_, Go.Proofs.Tryz.func20, rfl, by kernel_rfl⟩, fun S w vs hs hv _ => ?_⟩
  obtain ⟨⟨l⟩, rfl⟩ : ∃ v : Array Value, vs = v := ⟨vs, rfl⟩
  match l, hs with
  | [u0], _ =>
    have r0 := hv 0 _ _ rfl rfl
    cases r0
    exact (abs_walk x w).mono fun e w' ⟨he, hw⟩ => ⟨_, he, .val _, by rw [hw]; exact Below.refl _ _⟩
theorem abW_in {x : Int} (h : -2000000 ≤ x ∧ x ≤ 2000000) : abW x ≤ 2000000 := by
  have e : wrap64 (-x) = -x := by unfold wrap64; omega
  rw [abW, e]
  omega
theorem abW_out {x : Int} (h : x > 2000000) : abW x > 2000000 := by
  have : x ≤ abW x := Int.le_max_left _ _
  omega
end Go.Abs
end
section
set_option linter.unusedVariables false
set_option linter.unusedSimpArgs false
set_option maxRecDepth 100000
namespace Go.Abs
open Go
def zB : Bld := ⟨⟨#[]⟩, 0, fun _ => 0, fun _ => 0, fun _ _ => 0, fun _ _ => 0, 0, 0, fun _ _ => 0, 0, fun _ _ => 0⟩
def mvR (dx dy : Int) : Bool := decide (-2000000 ≤ dx ∧ dx ≤ 2000000) && decide (-2000000 ≤ dy ∧ dy ≤ 2000000)
/-- The error of a movement; the moved building; the turned one. -/
def mvX (b : Bld) (dx dy : Int) : Int := if mvR dx dy = true then (if mvG b dx dy = true then 0 else 2) else 2
def mvE (b : Bld) (dx dy : Int) : Int := if chkB b = 0 then mvX b dx dy else chkB b
def mvS (b : Bld) (dx dy : Int) : Bld := if mvE b dx dy = 0 then mvB b dx dy else zB
def tnS (b : Bld) : Bld := if chkB b = 0 then tB b else zB
theorem mvR_iff {dx dy : Int} : mvR dx dy = true ↔ (-2000000 ≤ dx ∧ dx ≤ 2000000) ∧ (-2000000 ≤ dy ∧ dy ≤ 2000000) := by
  unfold mvR
  rw [Bool.and_eq_true, decide_eq_true_iff, decide_eq_true_iff]
theorem mv_chk {b : Bld} {dx dy : Int} (h : ¬ chkB b = 0) : mvE b dx dy = chkB b ∧ mvS b dx dy = zB := by
  have e : mvE b dx dy = chkB b := if_neg h
  exact ⟨e, by rw [mvS, e, if_neg h]⟩
theorem mv_rng {b : Bld} {dx dy : Int} (h : chkB b = 0) (hr : ¬ mvR dx dy = true) : mvE b dx dy = 2 ∧ mvS b dx dy = zB := by
  have e : mvE b dx dy = 2 := by rw [mvE, if_pos h, mvX, if_neg hr]
  exact ⟨e, by rw [mvS, e, if_neg (by decide)]⟩
theorem mv_bad {b : Bld} {dx dy : Int} (h : chkB b = 0) (hr : mvR dx dy = true) (hg : mvG b dx dy = false) : mvE b dx dy = 2 ∧ mvS b dx dy = zB := by
  have e : mvE b dx dy = 2 := by rw [mvE, if_pos h, mvX, if_pos hr, if_neg (by rw [hg]; decide)]
  exact ⟨e, by rw [mvS, e, if_neg (by decide)]⟩
theorem mv_ok {b : Bld} {dx dy : Int} (h : chkB b = 0) (hr : mvR dx dy = true) (hg : mvG b dx dy = true) : mvE b dx dy = 0 ∧ mvS b dx dy = mvB b dx dy := by
  have e : mvE b dx dy = 0 := by rw [mvE, if_pos h, mvX, if_pos hr, if_pos hg]
  exact ⟨e, by rw [mvS, if_pos e]⟩
/-- What a right building says of its numbers. -/
theorem chk_bds {b : Bld} (h : chkB b = 0) : (b.nS ≤ 20 ∧ b.nO ≤ 100 ∧ b.nB ≤ 50) ∧ (∀ i, i < b.nS → inB (b.N i) (b.X i) ∧ inB (b.N i) (b.Y i)) ∧ ∀ i, i < b.nB → ∀ j, j < 6 → -1000000 ≤ b.B i j ∧ b.B i j ≤ 1000000 := by
  have hs := shp_no (chkB_zero h).2.1
  obtain ⟨c1, c2, c3, c4, c5, c6⟩ := chkB_zero h
  obtain ⟨f1, f2, f3⟩ := floors_ok c2 c3 c4
  refine ⟨by omega, fun i hi => chk_inB (f1 i hi), fun i hi => ?_⟩
  have hb := c6 i hi
  unfold bxE at hb
  split at hb
  · rename_i h2; exact absurd hb h2
  · rename_i h2
    have h3 := ckB_zero (Decidable.not_not.1 h2)
    intro j hj
    match j, hj with
    | 0, _ => exact h3.1
    | 1, _ => exact h3.2.1
    | 2, _ => exact h3.2.2.1
    | 3, _ => exact h3.2.2.2.1
    | 4, _ => exact h3.2.2.2.2.1
    | 5, _ => have := h3.2.2.2.2.2; omega
noncomputable def A6_Move_c (b : Bld) (dx dy : Int) : Ann := { orc := [(1, [(1, rChkB b)]), (4, [(1, .res fun _ => dI (abW dx)), (5, .res fun _ => dI (abW dy))]), (7, [(3, .sh 1 2 fun _ => ([dB (mvG b dx dy)], bldV b dx dy))])], loops := [], cuts := [] }
noncomputable abbrev q_Move_c_0 (dx : Int) : Bool := !decide (abW dx > (2000000:Int))
noncomputable abbrev q_Move_c_1 (dx : Int) (dy : Int) : Bool := if decide (abW dx > (2000000:Int)) = true then true else decide (abW dy > (2000000:Int))
noncomputable abbrev q_Move_c_2 (dx : Int) (dy : Int) : Bool := !if (q_Move_c_1 dx dy) = true then true else decide (dx < (-2000000:Int))
noncomputable abbrev q_Move_c_3 (dx : Int) (dy : Int) : Bool := !if decide (abW dx > (2000000:Int)) = true then true else decide (abW dy > (2000000:Int))
theorem Move_c (b : Bld) (dx dy : Int) (hN : ∀ i, i < b.nS → b.N i ≤ 1000) : FnC prog 6 [bld b, dI dx, dI dy] (.tup [bld (mvS b dx dy), dI (mvE b dx dy)]) := by
  refine FnC_owed hmix (A6_Move_c b dx dy) (V := .need [FnC prog 19 [(bld b)] ((dI (chkB b)))] (.ite (chkB b != 0) (.done [ByteArray.mk #[] = (mvS b dx dy).name, (mvS b dx dy).nS = 0, (0:Int) = (mvS b dx dy).roof, (mvS b dx dy).nO = 0, (mvS b dx dy).nB = 0, chkB b = mvE b dx dy]) (.need [FnC prog 20 [(dI dx)] ((dI (abW dx))), ri ((q_Move_c_0 dx) = true), (q_Move_c_0 dx) = true → FnC prog 20 [(dI dy)] ((dI (abW dy))), ri ((q_Move_c_0 dx) = true), decide (abW dx > 2000000) = false → (q_Move_c_0 dx) = true, ri ((q_Move_c_3 dx dy) = true), (q_Move_c_1 dx dy) = false → (q_Move_c_3 dx dy) = true, ri ((q_Move_c_2 dx dy) = true), (if (q_Move_c_1 dx dy) = true then true else decide (dx < (-2000000:Int))) = false → (q_Move_c_2 dx dy) = true] (.ite (if (if (q_Move_c_1 dx dy) = true then true else decide (dx < (-2000000:Int))) = true then true else decide (dy < (-2000000:Int))) (.done [ByteArray.mk #[] = (mvS b dx dy).name, (mvS b dx dy).nS = 0, (0:Int) = (mvS b dx dy).roof, (mvS b dx dy).nO = 0, (mvS b dx dy).nB = 0, (2:Int) = mvE b dx dy]) (.need [FnS prog 21 [(bld b), .clo (22:Nat) [.cptr [(dI dx)], .cptr [(dI dy)], DV.ptr 0 (0:Nat)], .clo (24:Nat) [.cptr [(dI dx)], .cptr [(dI dy)], DV.ptr 0 (0:Nat)]] [(dB true)] [(dB (mvG b dx dy))] (.agg [.val (.string b.name), .lst b.nS [fun i => (dI (b.fl i)), fun i => .lst (b.N i) [fun i_1 => (dI (b.X i i_1 + dx)), fun i_1 => (dI (b.Y i i_1 + dy))]], (dI b.roof), .lst b.nO [fun i => (dI (b.O i 0)), fun i => (dI (b.O i 1)), fun i => (dI (b.O i 2)), fun i => (dI (b.O i 3)), fun i => (dI (b.O i 4)), fun i => (dI (b.O i 5))], .lst b.nB [fun i => (dI (b.B i 0 + dx)), fun i => (dI (b.B i 1 + dy)), fun i => (dI (b.B i 2)), fun i => (dI (b.B i 3 + dx)), fun i => (dI (b.B i 4 + dy)), fun i =>
     (dI (b.B i 5))]])] (.ite (!mvG b dx dy) (.done [ByteArray.mk #[] = (mvS b dx dy).name, (mvS b dx dy).nS = 0, (0:Int) = (mvS b dx dy).roof, (mvS b dx dy).nO = 0, (mvS b dx dy).nB = 0, (2:Int) = mvE b dx dy]) (.done [b.name = (mvS b dx dy).name, b.nS = (mvS b dx dy).nS, ∀ i < (mvS b dx dy).nS, b.fl i = (mvS b dx dy).fl i, ∀ i < (mvS b dx dy).nS, b.N i = (mvS b dx dy).N i ∧ (∀ i_1 < (mvS b dx dy).N i, b.X i i_1 + dx = (mvS b dx dy).X i i_1) ∧ ∀ i_1 < (mvS b dx dy).N i, b.Y i i_1 + dy = (mvS b dx dy).Y i i_1, b.roof = (mvS b dx dy).roof, b.nO = (mvS b dx dy).nO, ∀ i < (mvS b dx dy).nO, b.O i 0 = (mvS b dx dy).O i 0, ∀ i < (mvS b dx dy).nO, b.O i 1 = (mvS b dx dy).O i 1, ∀ i < (mvS b dx dy).nO, b.O i 2 = (mvS b dx dy).O i 2, ∀ i < (mvS b dx dy).nO, b.O i 3 = (mvS b dx dy).O i 3, ∀ i < (mvS b dx dy).nO, b.O i 4 = (mvS b dx dy).O i 4, ∀ i < (mvS b dx dy).nO, b.O i 5 = (mvS b dx dy).O i 5, b.nB = (mvS b dx dy).nB, ∀ i < (mvS b dx dy).nB, b.B i 0 + dx = (mvS b dx dy).B i 0, ∀ i < (mvS b dx dy).nB, b.B i 1 + dy = (mvS b dx dy).B i 1, ∀ i < (mvS b dx dy).nB, b.B i 2 = (mvS b dx dy).B i 2, ∀ i < (mvS b dx dy).nB, b.B i 3 + dx = (mvS b dx dy).B i 3, ∀ i < (mvS b dx dy).nB, b.B i 4 + dy = (mvS b dx dy).B i 4, ∀ i < (mvS b dx dy).nB, b.B i 5 = (mvS b dx dy).B i 5, (0:Int) = mvE b dx dy]))))))) (by kernel_rfl) ?_
  simp only [q_Move_c_0, q_Move_c_1, q_Move_c_2, q_Move_c_3, VT.holds, AllT, Sq]
  refine ⟨check_b b hN, fun h => ?_, fun h => ⟨⟨absW_c _, fun _ => absW_c _⟩, fun ho => ?_, fun ho => ?_⟩⟩
  · obtain ⟨e1, e2⟩ := mv_chk (dx := dx) (dy := dy) h
    rw [e1, e2]; exact ⟨rfl, rfl, rfl, rfl, rfl, rfl⟩
  · obtain ⟨e1, e2⟩ := mv_rng (dx := dx) (dy := dy) h (fun hr => by
      obtain ⟨hx, hy⟩ := mvR_iff.1 hr
      have := abW_in hx
      have := abW_in hy
      omega)
    rw [e1, e2]; exact ⟨rfl, rfl, rfl, rfl, rfl, rfl⟩
  · have hx : -2000000 ≤ dx ∧ dx ≤ 2000000 := by
      refine ⟨by omega, ?_⟩
      rcases Int.lt_or_le 2000000 dx with h9 | h9
      · have := abW_out h9; omega
      · exact h9
    have hy : -2000000 ≤ dy ∧ dy ≤ 2000000 := by
      refine ⟨by omega, ?_⟩
      rcases Int.lt_or_le 2000000 dy with h9 | h9
      · have := abW_out h9; omega
      · exact h9
    have hr := mvR_iff.2 ⟨hx, hy⟩
    obtain ⟨k1, k2, k3⟩ := chk_bds h
    refine ⟨changedM_c b dx dy (by omega) (by omega) (by omega) hN (fun i hi => (k2 i hi).2) (fun i hi => (k2 i hi).1) k3 hx hy, fun hg => ?_, fun hg => ?_⟩
    · obtain ⟨e1, e2⟩ := mv_bad h hr hg
      rw [e1, e2]; exact ⟨rfl, rfl, rfl, rfl, rfl, rfl⟩
    · obtain ⟨e1, e2⟩ := mv_ok h hr hg
      rw [e1, e2]
      exact ⟨rfl, rfl, fun _ _ => rfl, fun _ _ => ⟨rfl, fun _ _ => rfl, fun _ _ => rfl⟩, rfl, rfl, fun _ _ => rfl, fun _ _ => rfl, fun _ _ => rfl, fun _ _ => rfl, fun _ _ => rfl, fun _ _ => rfl, rfl, fun _ _ => rfl, fun _ _ => rfl, fun _ _ => rfl, fun _ _ => rfl, fun _ _ => rfl, fun _ _ => rfl, rfl⟩
noncomputable def A8_turnS_c (b : Bld) : Ann := { orc := [(1, [(1, rChkB b)]), (4, [(1, .res fun _ => bldT b)])], loops := [], cuts := [] }
theorem turnS_c (b : Bld) (hN : ∀ i, i < b.nS → b.N i ≤ 1000) : FnC prog 8 [bld b] (.tup [bld (tnS b), dI (chkB b)]) := by
  refine FnC_owed hmix (A8_turnS_c b) (V := .need [FnC prog 19 [(bld b)] ((dI (chkB b)))] (.ite (chkB b != 0) (.done [ByteArray.mk #[] = (tnS b).name, (tnS b).nS = 0, (0:Int) = (tnS b).roof, (tnS b).nO = 0, (tnS b).nB = 0, chkB b = chkB b]) (.need [FnC prog 21 [(bld b), .val (Value.func (Fn.func 27) (Array.mk []) (Array.mk [])), .val (Value.func (Fn.func 28) (Array.mk []) (Array.mk []))] (.agg [.val (.string b.name), .lst b.nS [fun i => (dI (b.fl i)), fun i => .lst (b.N i) [fun i_1 => (dI (-b.Y i i_1)), fun i_1 => (dI (b.X i i_1))]], (dI b.roof), .lst b.nO [fun i => (dI (b.O i 0)), fun i => (dI (b.O i 1)), fun i => (dI (b.O i 2)), fun i => (dI (b.O i 3)), fun i => (dI (b.O i 4)), fun i => (dI (b.O i 5))], .lst b.nB [fun i => (dI (-b.B i 4)), fun i => (dI (b.B i 0)), fun i => (dI (b.B i 2)), fun i => (dI (-b.B i 1)), fun i => (dI (b.B i 3)), fun i => (dI (b.B i 5))]])] (.done [b.name = (tnS b).name, b.nS = (tnS b).nS, ∀ i < (tnS b).nS, b.fl i = (tnS b).fl i, ∀ i < (tnS b).nS, b.N i = (tnS b).N i ∧ (∀ i_1 < (tnS b).N i, -b.Y i i_1 = (tnS b).X i i_1) ∧ ∀ i_1 < (tnS b).N i, b.X i i_1 = (tnS b).Y i i_1, b.roof = (tnS b).roof, b.nO = (tnS b).nO, ∀ i < (tnS b).nO, b.O i 0 = (tnS b).O i 0, ∀ i < (tnS b).nO, b.O i 1 = (tnS b).O i 1, ∀ i < (tnS b).nO, b.O i 2 = (tnS b).O i 2, ∀ i < (tnS b).nO, b.O i 3 = (tnS b).O i 3, ∀ i < (tnS b).nO, b.O i 4 = (tnS b).O i 4, ∀ i < (tnS b).nO, b.O i 5 = (tnS b).O i 5, b.nB = (tnS b).nB, ∀ i < (tnS b).nB, -b.B i 4 = (tnS b).B i 0, ∀ i < (tnS b).nB, b.B i 0 = (tnS b).B i 1, ∀ i < (tnS b).nB, b.B i 2 = (tnS b).B i 2, ∀ (i : Nat), i
     < (tnS b).nB → -b.B i 1 = (tnS b).B i 3, ∀ i < (tnS b).nB, b.B i 3 = (tnS b).B i 4, ∀ i < (tnS b).nB, b.B i 5 = (tnS b).B i 5, (0:Int) = chkB b])))) (by kernel_rfl) ?_
  simp only [VT.holds, AllT, Sq]
  refine ⟨check_b b hN, fun h => ?_, fun h => ?_⟩
  · have e2 : tnS b = zB := if_neg h
    rw [e2]; exact ⟨rfl, rfl, rfl, rfl, rfl⟩
  · have e2 : tnS b = tB b := if_pos h
    obtain ⟨k1, k2, k3⟩ := chk_bds h
    rw [e2]
    exact ⟨changed_c b (by omega) (by omega) (by omega) hN (fun i hi => (k2 i hi).2) (fun i hi => (k2 i hi).1) (fun i hi => ⟨k3 i hi 1 (by decide), k3 i hi 4 (by decide)⟩), rfl, rfl, fun _ _ => rfl, fun _ _ => ⟨rfl, fun _ _ => rfl, fun _ _ => rfl⟩, rfl, rfl, fun _ _ => rfl, fun _ _ => rfl, fun _ _ => rfl, fun _ _ => rfl, fun _ _ => rfl, fun _ _ => rfl, rfl, fun _ _ => rfl, fun _ _ => rfl, fun _ _ => rfl, fun _ _ => rfl, fun _ _ => rfl, fun _ _ => rfl, h.symm⟩
end Go.Abs
end
