/- For every two outlines the law BuildingCovers returns true and its arguments read as before. No conditions. -/
import Derived.Test.YtgdmnlenkciklaaRows
import Derived.Test.YtgdmnlenkciklaaRowL
import Derived.Test.YtgdmnlenkciklaaK15
import Derived.WalkKit
import Derived.ProofKit
import Derived.OpenShut
namespace Go.Proofs.Ytgdmnlenkciklaa.covers
open Go.ChangeShapes Go.WideShapes Go.ChangeAt Go.RowKit Go.Abs Go.Joins

theorem own : ownKnob Try.prog.godebug = none := by kernel_rfl
theorem laidOut : laidOutB Try.prog = true := by kernel_rfl
theorem cells24 : Try.prog.cellsOf 24 = 2 := by kernel_rfl

set_option maxRecDepth 100000 in
theorem lifted (os : Os) (started : os.Started) (H : Type) (enc : TypeId × Value → H) :
    ReturnsInHanded {} Try.checked os 7 .any (Rows.buildingCoversSpec.pre6 enc Try.prog Try.f7 Rows.buildingCoversRow.domain false) (Rows.buildingCoversSpec.post enc Try.prog Try.f7 false true false false) := by
  refine returnsInHanded_of_change (C := Try.checked) own started (by kernel_rfl) Try.func7
    (ChangeSpec.witness6 (enc := enc) (C := Try.checked) false ⟨#[], #[.slice none 0 0, .slice none 0 0], []⟩ 8 (by kernel_rfl) (by kernel_rfl) (by kernel_rfl) (by kernel_rfl)) ?_
  intro W base args ds gs before hval0 hW hcnd _
  have hval : ∀ (j : Nat) t v, Try.f7.params[j]? = some t → args[j]? = some v → Value.okWide Try.prog W .any base t v := hval0
  have hW' := hW
  obtain ⟨p, q, hA0, hV, rfl, hfz, hnd⟩ := hW
  have hA : DataW.TrodAll enc Try.prog W 0 (fun _ => true) true Try.f7.params.toList args.toList ds p := hA0
  have hlt : ∀ x ∈ p, x.block < W.heap.size := fun x hx => hW'.lt x (List.mem_append_left _ hx)
  have hAk := hA
  rw [Try.params7] at hA hval
  obtain ⟨v0, vs0, d0, ds0, p0, q0, hargs, rfl, rfl, h0, r0⟩ := trodAll_cons hA
  obtain ⟨v1, vs1, d1, ds1, p1, q1, rfl, rfl, rfl, h1, r1⟩ := trodAll_cons r0
  obtain ⟨rfl, rfl, rfl⟩ := trodAll_nil r1
  obtain rfl : args = #[v0, v1] := by cases args; simp_all
  obtain ⟨rfl, rfl⟩ := trodVars_none hV
  clear hA0 hval0
  simp only [List.append_nil] at hW'
  obtain ⟨n0, X0, Y0, rel0⟩ : ∃ n X Y, RelC (rdArg W fun _ => True) (pts n X Y) v0 := by
    obtain ⟨a0, len, cap, rfl⟩ := okWide_slice Try.underlying22 (hval 0 22 v0 rfl rfl)
    obtain ⟨fuel, hf⟩ := h0
    rcases open_rows Try.underlying22 Try.underlying24 (by kernel_rfl) cells24 (fun j f hj => by
      match j, hj with
      | 0, hj => cases hj; exact Try.underlying3
      | 1, hj => cases hj; exact Try.underlying3) hf with hc | ⟨a, len', cap', hc, hl, hcell⟩
    · cases hc
      exact ⟨0, fun _ => 0, fun _ => 0, rel_none _⟩
    · cases hc
      obtain ⟨X, Y, h⟩ := rel_pairs (S := fun _ => True) (fun _ => trivial) hl hcell
      exact ⟨_, X, Y, h⟩
  obtain ⟨n1, X1, Y1, rel1⟩ : ∃ n X Y, RelC (rdArg W fun _ => True) (pts n X Y) v1 := by
    obtain ⟨a0, len, cap, rfl⟩ := okWide_slice Try.underlying22 (hval 1 22 v1 rfl rfl)
    obtain ⟨fuel, hf⟩ := h1
    rcases open_rows Try.underlying22 Try.underlying24 (by kernel_rfl) cells24 (fun j f hj => by
      match j, hj with
      | 0, hj => cases hj; exact Try.underlying3
      | 1, hj => cases hj; exact Try.underlying3) hf with hc | ⟨a, len', cap', hc, hl, hcell⟩
    · cases hc
      exact ⟨0, fun _ => 0, fun _ => 0, rel_none _⟩
    · cases hc
      obtain ⟨X, Y, h⟩ := rel_pairs (S := fun _ => True) (fun _ => trivial) hl hcell
      exact ⟨_, X, Y, h⟩
  have hc := (covers_law n0 X0 Y0 n1 X1 Y1).2 (fun _ => True) W #[v0, v1] rfl (fun j d v hd hv => by
    match j, hd, hv with
    | 0, hd, hv => cases hd; cases hv; exact rel0
    | 1, hd, hv => cases hd; cases hv; exact rel1)
  refine Calls.mono hc fun e W' ⟨v, he, hr, hb⟩ => ?_
  cases hr
  subst he
  exact ⟨_, rfl, post_of_below (pa := p0 ++ (p1 ++ [])) (pv := []) hW' (fun _ _ _ => trodAll_mk1 (shut_bool Try.underlying4 _)) (fun sp hs => args_stay laidOut hb (by kernel_rfl) hAk hlt fun x hx => hs x (by simpa using hx)) (fun _ _ => rfl) (by simp) hb
    (ok_one (by kernel_rfl) rfl (okWide_bool_mk Try.underlying4 _))⟩

theorem over : Rows.buildingCoversRow.holds Try.pinned (OpenSpec.ofChange Rows.buildingCoversSpec) :=
  OpenClaim.holds_of_wide 7 Try.f7 rfl rfl rfl rfl rfl rfl rfl ⟨rfl, rfl, rfl, rfl, rfl⟩ rfl rfl rfl rfl rfl (by kernel_rfl) Try.func7 (by kernel_rfl)
    (of_decide_eq_true (by kernel_rfl)) (by unfold Func.isWrapper; rw [if_neg (of_decide_eq_false (by kernel_rfl))]; exact ⟨rfl, rfl⟩)
    (fun os started H enc _ => lifted os started H enc)

/-- The statement. -/
theorem proved : Rows.BuildingCoversSaid := over
#print axioms proved
end Go.Proofs.Ytgdmnlenkciklaa.covers
