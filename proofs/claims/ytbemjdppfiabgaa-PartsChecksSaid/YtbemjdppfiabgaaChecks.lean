/- For every input the law PartsChecks returns true and its arguments read as before. No conditions. -/
import Derived.Test.YtbemjdppfiabgaaRows
import Derived.Test.YtbemjdppfiabgaaRowE
import Derived.Test.YtbemjdppfiabgaaK50
import Derived.WalkKit
import Derived.ProofKit
import Derived.OpenShut
namespace Go.Proofs.Ytbemjdppfiabgaa.checks
open Go.ChangeShapes Go.WideShapes Go.ChangeAt Go.RowKit Go.Abs Go.Joins

theorem own : ownKnob Try.prog.godebug = none := by kernel_rfl
theorem laidOut : laidOutB Try.prog = true := by kernel_rfl

set_option maxRecDepth 100000 in
theorem lifted (os : Os) (started : os.Started) (H : Type) (enc : TypeId × Value → H) :
    ReturnsInHanded {} Try.checked os 5 .any (Rows.partsChecksSpec.pre6 enc Try.prog Try.f5 Rows.partsChecksRow.domain false) (Rows.partsChecksSpec.post enc Try.prog Try.f5 false true false false) := by
  refine returnsInHanded_of_change (C := Try.checked) own started (by kernel_rfl) Try.func5
    (ChangeSpec.witness6 (enc := enc) (C := Try.checked) false ⟨#[], #[.agg #[.slice none 0 0, .slice none 0 0], .int .i64 0], []⟩ 8 (by kernel_rfl) (by kernel_rfl) (by kernel_rfl) (by kernel_rfl)) ?_
  intro W base args ds gs before hval0 hW hcnd _
  have hval : ∀ (j : Nat) t v, Try.f5.params[j]? = some t → args[j]? = some v → Value.okWide Try.prog W .any base t v := hval0
  have hW' := hW
  obtain ⟨p, q, hA0, hV, rfl, hfz, hnd⟩ := hW
  have hA : DataW.TrodAll enc Try.prog W 0 (fun _ => true) true Try.f5.params.toList args.toList ds p := hA0
  have hlt : ∀ x ∈ p, x.block < W.heap.size := fun x hx => hW'.lt x (List.mem_append_left _ hx)
  have hAk := hA
  rw [Try.params5] at hA hval
  obtain ⟨v0, vs0, d0, ds0, p0, q0, hargs, rfl, rfl, h0, r0⟩ := trodAll_cons hA
  obtain ⟨v1, vs1, d1, ds1, p1, q1, rfl, rfl, rfl, h1, r1⟩ := trodAll_cons r0
  obtain ⟨rfl, rfl, rfl⟩ := trodAll_nil r1
  obtain rfl : args = #[v0, v1] := by cases args; simp_all
  obtain ⟨rfl, rfl⟩ := trodVars_none hV
  clear hA0 hval0
  simp only [List.append_nil] at hW'
  obtain ⟨s0, rel0⟩ : ∃ s : Scf, RelC (rdArg W fun _ => True) (scfD s) v0 := by
    obtain ⟨⟨l⟩, n, rfl, hsz, hf⟩ := open_fields (fs := _) Try.underlying25 (by kernel_rfl) (by kernel_rfl) (hval 0 25 v0 rfl rfl) h0
    obtain ⟨u0, x0, e0, t0⟩ := hf 0 _ rfl
    obtain ⟨u1, x1, e1, t1⟩ := hf 1 _ rfl
    obtain ⟨n0, C, r0⟩ := open_cols (S := fun _ => True) (fun _ => trivial) (fs := _) Try.underlying22 Try.underlying61 (by kernel_rfl) (by kernel_rfl) (fun j f hj => by
      match j, hj with
      | 0, hj => cases hj; exact Try.underlying3
      | 1, hj => cases hj; exact Try.underlying3
      | 2, hj => cases hj; exact Try.underlying3) t0
    obtain ⟨n1, D, r1⟩ := open_cols (S := fun _ => True) (fun _ => trivial) (fs := _) Try.underlying23 Try.underlying41 (by kernel_rfl) (by kernel_rfl) (fun j f hj => by
      match j, hj with
      | 0, hj => cases hj; exact Try.underlying3
      | 1, hj => cases hj; exact Try.underlying3
      | 2, hj => cases hj; exact Try.underlying3) t1
    refine ⟨⟨n0, C 0, C 1, C 2, n1, D 0, D 1, D 2⟩, agg_rel hsz fun j d u hd hu => ?_⟩
    match j, hd with
    | 0, hd => cases hd; rw [e0] at hu; cases hu; exact r0
    | 1, hd => cases hd; rw [e1] at hu; cases hu; exact r1
  obtain ⟨z1, rfl⟩ : ∃ z, v1 = .int .i64 z := by
    obtain ⟨z, hz⟩ := okWide_int Try.underlying3 (hval 1 3 v1 rfl rfl)
    exact ⟨z, hz⟩
  have hc := (checks_c s0 z1).2 (fun _ => True) W #[v0, .int .i64 z1] rfl (fun j d v hd hv => by
    match j, hd, hv with
    | 0, hd, hv => cases hd; cases hv; exact rel0
    | 1, hd, hv => cases hd; cases hv; exact .val _) (fun _ _ h => by cases h)
  refine Calls.mono hc fun e W' ⟨v, he, hr, hb⟩ => ?_
  cases hr
  subst he
  exact ⟨_, rfl, post_of_below (pa := p0 ++ (p1 ++ [])) (pv := []) hW' (fun _ _ _ => trodAll_mk1 (shut_bool Try.underlying4 _)) (fun sp hs => args_stay laidOut hb (by kernel_rfl) hAk hlt fun x hx => hs x (by simpa using hx)) (fun _ _ => rfl) (by simp) hb
    (ok_one (by kernel_rfl) rfl (okWide_bool_mk Try.underlying4 _))⟩

theorem over : Rows.partsChecksRow.holds Try.pinned (OpenSpec.ofChange Rows.partsChecksSpec) :=
  OpenClaim.holds_of_wide 5 Try.f5 rfl rfl rfl rfl rfl rfl rfl ⟨rfl, rfl, rfl, rfl, rfl⟩ rfl rfl rfl rfl rfl (by kernel_rfl) Try.func5 (by kernel_rfl)
    (of_decide_eq_true (by kernel_rfl)) (by unfold Func.isWrapper; rw [if_neg (of_decide_eq_false (by kernel_rfl))]; exact ⟨rfl, rfl⟩)
    (fun os started H enc _ => lifted os started H enc)

/-- The statement. -/
theorem proved : Rows.PartsChecksSaid := over
#print axioms proved
end Go.Proofs.Ytbemjdppfiabgaa.checks
