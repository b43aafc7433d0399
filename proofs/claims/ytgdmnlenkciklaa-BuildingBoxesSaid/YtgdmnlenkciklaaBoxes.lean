/- For every two boxes the law BuildingBoxes returns true and its arguments read as before. No conditions. -/
import Derived.Test.YtgdmnlenkciklaaRows
import Derived.Test.YtgdmnlenkciklaaRowL
import Derived.Test.YtgdmnlenkciklaaK9
import Derived.WalkKit
import Derived.ProofKit
import Derived.OpenShut
namespace Go.Proofs.Ytgdmnlenkciklaa.boxes
open Go.ChangeShapes Go.WideShapes Go.ChangeAt Go.RowKit Go.Abs Go.Joins

theorem own : ownKnob Try.prog.godebug = none := by kernel_rfl
theorem laidOut : laidOutB Try.prog = true := by kernel_rfl
theorem cells49 : Try.prog.cellsOf 49 = 6 := by kernel_rfl

set_option maxRecDepth 100000 in
theorem lifted (os : Os) (started : os.Started) (H : Type) (enc : TypeId × Value → H) :
    ReturnsInHanded {} Try.checked os 5 .any (Rows.buildingBoxesSpec.pre6 enc Try.prog Try.f5 Rows.buildingBoxesRow.domain false) (Rows.buildingBoxesSpec.post enc Try.prog Try.f5 false true false false) := by
  refine returnsInHanded_of_change (C := Try.checked) own started (by kernel_rfl) Try.func5
    (ChangeSpec.witness6 (enc := enc) (C := Try.checked) false ⟨#[], #[.agg #[.int .i64 0, .int .i64 0, .int .i64 0, .int .i64 0, .int .i64 0, .int .i64 0], .agg #[.int .i64 0, .int .i64 0, .int .i64 0, .int .i64 0, .int .i64 0, .int .i64 0]], []⟩ 8 (by kernel_rfl) (by kernel_rfl) (by kernel_rfl) (by kernel_rfl)) ?_
  intro W base args ds gs before hval0 hW hcnd _
  have hval : ∀ (j : Nat) t v, Try.f5.params[j]? = some t → args[j]? = some v → Value.okWide Try.prog W .any base t v := hval0
  have hW' := hW
  obtain ⟨p, q, hA0, hV, rfl, hfz, hnd⟩ := hW
  have hA : DataW.TrodAll enc Try.prog W 0 (fun _ => true) true Try.f5.params.toList args.toList ds p := hA0
  have hlt : ∀ x ∈ p, x.block < W.heap.size := fun x hx => hW'.lt x (List.mem_append_left _ hx)
  have hAk := hA
  rw [Try.params5] at hA hval
  obtain ⟨v0, vs0, d0, ds0, p0, q0, hargs, rfl, rfl, h0, r0⟩ := trodAll_cons hA
  obtain ⟨v1, vs1, d1, ds1, p1, q1, rfl, rfl, rfl, h1, r1⟩ := trodAll_cons r0
  obtain ⟨rfl, rfl, rfl⟩ := trodAll_nil r1
  obtain rfl : args = #[v0, v1] := by cases args; simp_all
  obtain ⟨rfl, rfl⟩ := trodVars_none hV
  clear hA0 hval0
  simp only [List.append_nil] at hW'
  obtain ⟨a1, b1, c1, d1, e1, f1, hv0⟩ := open_six (fs := _) Try.underlying49 (by kernel_rfl) cells49 rfl (fun j f hj => by
      match j, hj with
      | 0, hj => cases hj; exact Try.underlying3
      | 1, hj => cases hj; exact Try.underlying3
      | 2, hj => cases hj; exact Try.underlying3
      | 3, hj => cases hj; exact Try.underlying3
      | 4, hj => cases hj; exact Try.underlying3
      | 5, hj => cases hj; exact Try.underlying3) (hval 0 49 v0 rfl rfl) h0
  subst hv0
  obtain ⟨a2, b2, c2, d2, e2, f2, hv1⟩ := open_six (fs := _) Try.underlying49 (by kernel_rfl) cells49 rfl (fun j f hj => by
      match j, hj with
      | 0, hj => cases hj; exact Try.underlying3
      | 1, hj => cases hj; exact Try.underlying3
      | 2, hj => cases hj; exact Try.underlying3
      | 3, hj => cases hj; exact Try.underlying3
      | 4, hj => cases hj; exact Try.underlying3
      | 5, hj => cases hj; exact Try.underlying3) (hval 1 49 v1 rfl rfl) h1
  subst hv1
  have hc := (boxes_c a1 b1 c1 d1 e1 f1 a2 b2 c2 d2 e2 f2).2 (fun _ => True) W #[.agg #[.int .i64 a1, .int .i64 b1, .int .i64 c1, .int .i64 d1, .int .i64 e1, .int .i64 f1], .agg #[.int .i64 a2, .int .i64 b2, .int .i64 c2, .int .i64 d2, .int .i64 e2, .int .i64 f2]] rfl (fun j d v hd hv => by
    match j, hd, hv with
    | 0, hd, hv => cases hd; cases hv; exact .val _
    | 1, hd, hv => cases hd; cases hv; exact .val _)
  refine Calls.mono hc fun e W' ⟨v, he, hr, hb⟩ => ?_
  cases hr
  subst he
  exact ⟨_, rfl, post_of_below (pa := p0 ++ (p1 ++ [])) (pv := []) hW' (fun _ _ _ => trodAll_mk1 (shut_bool Try.underlying4 _)) (fun sp hs => args_stay laidOut hb (by kernel_rfl) hAk hlt fun x hx => hs x (by simpa using hx)) (fun _ _ => rfl) (by simp) hb
    (ok_one (by kernel_rfl) rfl (okWide_bool_mk Try.underlying4 _))⟩

theorem over : Rows.buildingBoxesRow.holds Try.pinned (OpenSpec.ofChange Rows.buildingBoxesSpec) :=
  OpenClaim.holds_of_wide 5 Try.f5 rfl rfl rfl rfl rfl rfl rfl ⟨rfl, rfl, rfl, rfl, rfl⟩ rfl rfl rfl rfl rfl (by kernel_rfl) Try.func5 (by kernel_rfl)
    (of_decide_eq_true (by kernel_rfl)) (by unfold Func.isWrapper; rw [if_neg (of_decide_eq_false (by kernel_rfl))]; exact ⟨rfl, rfl⟩)
    (fun os started H enc _ => lifted os started H enc)

/-- The statement. -/
theorem proved : Rows.BuildingBoxesSaid := over
#print axioms proved
end Go.Proofs.Ytgdmnlenkciklaa.boxes
