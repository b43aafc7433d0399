/- For every box and every two places in space the law BuildingPierces returns true and its arguments read as before. No conditions. -/
import Derived.Test.YtgdmnlenkciklaaRows
import Derived.Test.YtgdmnlenkciklaaRowL
import Derived.Test.YtgdmnlenkciklaaK11
import Derived.WalkKit
import Derived.ProofKit
import Derived.OpenShut
namespace Go.Proofs.Ytgdmnlenkciklaa.pierces
open Go.ChangeShapes Go.WideShapes Go.ChangeAt Go.RowKit Go.Abs Go.Joins

theorem own : ownKnob Try.prog.godebug = none := by kernel_rfl
theorem laidOut : laidOutB Try.prog = true := by kernel_rfl
theorem cells49 : Try.prog.cellsOf 49 = 6 := by kernel_rfl
theorem cells60 : Try.prog.cellsOf 60 = 3 := by kernel_rfl

set_option maxRecDepth 100000 in
theorem lifted (os : Os) (started : os.Started) (H : Type) (enc : TypeId × Value → H) :
    ReturnsInHanded {} Try.checked os 6 .any (Rows.buildingPiercesSpec.pre6 enc Try.prog Try.f6 Rows.buildingPiercesRow.domain false) (Rows.buildingPiercesSpec.post enc Try.prog Try.f6 false true false false) := by
  refine returnsInHanded_of_change (C := Try.checked) own started (by kernel_rfl) Try.func6
    (ChangeSpec.witness6 (enc := enc) (C := Try.checked) false ⟨#[], #[.agg #[.int .i64 0, .int .i64 0, .int .i64 0, .int .i64 0, .int .i64 0, .int .i64 0], .agg #[.int .i64 0, .int .i64 0, .int .i64 0], .agg #[.int .i64 0, .int .i64 0, .int .i64 0]], []⟩ 8 (by kernel_rfl) (by kernel_rfl) (by kernel_rfl) (by kernel_rfl)) ?_
  intro W base args ds gs before hval0 hW hcnd _
  have hval : ∀ (j : Nat) t v, Try.f6.params[j]? = some t → args[j]? = some v → Value.okWide Try.prog W .any base t v := hval0
  have hW' := hW
  obtain ⟨p, q, hA0, hV, rfl, hfz, hnd⟩ := hW
  have hA : DataW.TrodAll enc Try.prog W 0 (fun _ => true) true Try.f6.params.toList args.toList ds p := hA0
  have hlt : ∀ x ∈ p, x.block < W.heap.size := fun x hx => hW'.lt x (List.mem_append_left _ hx)
  have hAk := hA
  rw [Try.params6] at hA hval
  obtain ⟨v0, vs0, d0, ds0, p0, q0, hargs, rfl, rfl, h0, r0⟩ := trodAll_cons hA
  obtain ⟨v1, vs1, d1, ds1, p1, q1, rfl, rfl, rfl, h1, r1⟩ := trodAll_cons r0
  obtain ⟨v2, vs2, d2, ds2, p2, q2, rfl, rfl, rfl, h2, r2⟩ := trodAll_cons r1
  obtain ⟨rfl, rfl, rfl⟩ := trodAll_nil r2
  obtain rfl : args = #[v0, v1, v2] := by cases args; simp_all
  obtain ⟨rfl, rfl⟩ := trodVars_none hV
  clear hA0 hval0
  simp only [List.append_nil] at hW'
  obtain ⟨u1, u2, u3, w1, w2, w3, hv0⟩ := open_six (fs := _) Try.underlying49 (by kernel_rfl) cells49 rfl (fun j f hj => by
      match j, hj with
      | 0, hj => cases hj; exact Try.underlying3
      | 1, hj => cases hj; exact Try.underlying3
      | 2, hj => cases hj; exact Try.underlying3
      | 3, hj => cases hj; exact Try.underlying3
      | 4, hj => cases hj; exact Try.underlying3
      | 5, hj => cases hj; exact Try.underlying3) (hval 0 49 v0 rfl rfl) h0
  subst hv0
  obtain ⟨a1, a2, a3, hv1⟩ := open_three (fs := _) Try.underlying60 (by kernel_rfl) cells60 rfl (fun j f hj => by
      match j, hj with
      | 0, hj => cases hj; exact Try.underlying3
      | 1, hj => cases hj; exact Try.underlying3
      | 2, hj => cases hj; exact Try.underlying3) (hval 1 60 v1 rfl rfl) h1
  subst hv1
  obtain ⟨b1, b2, b3, hv2⟩ := open_three (fs := _) Try.underlying60 (by kernel_rfl) cells60 rfl (fun j f hj => by
      match j, hj with
      | 0, hj => cases hj; exact Try.underlying3
      | 1, hj => cases hj; exact Try.underlying3
      | 2, hj => cases hj; exact Try.underlying3) (hval 2 60 v2 rfl rfl) h2
  subst hv2
  have hc := (pierceLaw_c u1 u2 u3 w1 w2 w3 a1 a2 a3 b1 b2 b3).2 (fun _ => True) W #[.agg #[.int .i64 u1, .int .i64 u2, .int .i64 u3, .int .i64 w1, .int .i64 w2, .int .i64 w3], .agg #[.int .i64 a1, .int .i64 a2, .int .i64 a3], .agg #[.int .i64 b1, .int .i64 b2, .int .i64 b3]] rfl (fun j d v hd hv => by
    match j, hd, hv with
    | 0, hd, hv => cases hd; cases hv; exact .val _
    | 1, hd, hv => cases hd; cases hv; exact .val _
    | 2, hd, hv => cases hd; cases hv; exact .val _)
  refine Calls.mono hc fun e W' ⟨v, he, hr, hb⟩ => ?_
  cases hr
  subst he
  exact ⟨_, rfl, post_of_below (pa := p0 ++ (p1 ++ (p2 ++ []))) (pv := []) hW' (fun _ _ _ => trodAll_mk1 (shut_bool Try.underlying4 _)) (fun sp hs => args_stay laidOut hb (by kernel_rfl) hAk hlt fun x hx => hs x (by simpa using hx)) (fun _ _ => rfl) (by simp) hb
    (ok_one (by kernel_rfl) rfl (okWide_bool_mk Try.underlying4 _))⟩

theorem over : Rows.buildingPiercesRow.holds Try.pinned (OpenSpec.ofChange Rows.buildingPiercesSpec) :=
  OpenClaim.holds_of_wide 6 Try.f6 rfl rfl rfl rfl rfl rfl rfl ⟨rfl, rfl, rfl, rfl, rfl⟩ rfl rfl rfl rfl rfl (by kernel_rfl) Try.func6 (by kernel_rfl)
    (of_decide_eq_true (by kernel_rfl)) (by unfold Func.isWrapper; rw [if_neg (of_decide_eq_false (by kernel_rfl))]; exact ⟨rfl, rfl⟩)
    (fun os started H enc _ => lifted os started H enc)

/-- The statement. -/
theorem proved : Rows.BuildingPiercesSaid := over
#print axioms proved
end Go.Proofs.Ytgdmnlenkciklaa.pierces
