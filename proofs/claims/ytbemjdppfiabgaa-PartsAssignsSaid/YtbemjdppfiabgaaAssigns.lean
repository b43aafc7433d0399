/- For every input the law PartsAssigns returns true and its arguments read as before. No conditions. -/
import Derived.Test.YtbemjdppfiabgaaRows
import Derived.Test.YtbemjdppfiabgaaRowE
import Derived.Test.YtbemjdppfiabgaaK57
import Derived.WalkKit
import Derived.ProofKit
import Derived.OpenShut
namespace Go.Proofs.Ytbemjdppfiabgaa.assigns
open Go.ChangeShapes Go.WideShapes Go.ChangeAt Go.RowKit Go.Abs Go.Joins

theorem own : ownKnob Try.prog.godebug = none := by kernel_rfl
theorem laidOut : laidOutB Try.prog = true := by kernel_rfl

set_option maxRecDepth 100000 in
theorem lifted (os : Os) (started : os.Started) (H : Type) (enc : TypeId × Value → H) :
    ReturnsInHanded {} Try.checked os 11 .any (Rows.partsAssignsSpec.pre6 enc Try.prog Try.f11 Rows.partsAssignsRow.domain false) (Rows.partsAssignsSpec.post enc Try.prog Try.f11 false true false false) := by
  refine returnsInHanded_of_change (C := Try.checked) own started (by kernel_rfl) Try.func11
    (ChangeSpec.witness6 (enc := enc) (C := Try.checked) false ⟨#[], #[.agg #[.slice none 0 0, .slice none 0 0], .agg #[.slice none 0 0, .slice none 0 0], .slice none 0 0], []⟩ 8 (by kernel_rfl) (by kernel_rfl) (by kernel_rfl) (by kernel_rfl)) ?_
  intro W base args ds gs before hval0 hW hcnd _
  have hval : ∀ (j : Nat) t v, Try.f11.params[j]? = some t → args[j]? = some v → Value.okWide Try.prog W .any base t v := hval0
  have hW' := hW
  obtain ⟨p, q, hA0, hV, rfl, hfz, hnd⟩ := hW
  have hA : DataW.TrodAll enc Try.prog W 0 (fun _ => true) true Try.f11.params.toList args.toList ds p := hA0
  have hlt : ∀ x ∈ p, x.block < W.heap.size := fun x hx => hW'.lt x (List.mem_append_left _ hx)
  have hAk := hA
  rw [Try.params11] at hA hval
  obtain ⟨v0, vs0, d0, ds0, p0, q0, hargs, rfl, rfl, h0, r0⟩ := trodAll_cons hA
  obtain ⟨v1, vs1, d1, ds1, p1, q1, rfl, rfl, rfl, h1, r1⟩ := trodAll_cons r0
  obtain ⟨v2, vs2, d2, ds2, p2, q2, rfl, rfl, rfl, h2, r2⟩ := trodAll_cons r1
  obtain ⟨rfl, rfl, rfl⟩ := trodAll_nil r2
  obtain rfl : args = #[v0, v1, v2] := by cases args; simp_all
  obtain ⟨rfl, rfl⟩ := trodVars_none hV
  clear hA0 hval0
  simp only [List.append_nil] at hW'
  obtain ⟨c0, rel0⟩ : ∃ c : Cat, RelC (rdArg W fun _ => True) (catD c) v0 := by
    obtain ⟨⟨l⟩, n, rfl, hsz, hf⟩ := open_fields (fs := _) Try.underlying67 (by kernel_rfl) (by kernel_rfl) (hval 0 67 v0 rfl rfl) h0
    obtain ⟨u0, x0, e0, t0⟩ := hf 0 _ rfl
    obtain ⟨u1, x1, e1, t1⟩ := hf 1 _ rfl
    obtain ⟨n0, N, C, r0⟩ := open_parts (S := fun _ => True) (fun _ => trivial) (fs := _) Try.underlying64 Try.underlying83 (by kernel_rfl) ⟨_, rfl, rfl, rfl⟩ ⟨_, rfl, rfl, rfl⟩ ⟨_, rfl, rfl, rfl⟩ ⟨_, rfl, rfl, rfl⟩ ⟨_, rfl, rfl, rfl⟩ ⟨_, rfl, rfl, rfl⟩ Try.underlying9 (by kernel_rfl) Try.underlying81 Try.underlying3 (by kernel_rfl) (by kernel_rfl) t0
    obtain ⟨n1, D, r1⟩ := open_pairs (S := fun _ => True) (fun _ => trivial) Try.underlying65 Try.underlying81 Try.underlying3 (by kernel_rfl) (by kernel_rfl) t1
    refine ⟨⟨n0, N, fun i => C i 0, fun i => C i 1, fun i => C i 2, fun i => C i 3, fun i => C i 4, fun i => C i 5, n1, D 0, D 1⟩, agg_rel hsz fun j d u hd hu => ?_⟩
    match j, hd with
    | 0, hd => cases hd; rw [e0] at hu; cases hu; exact r0
    | 1, hd => cases hd; rw [e1] at hu; cases hu; exact r1
  obtain ⟨s1, rel1⟩ : ∃ s : Scf, RelC (rdArg W fun _ => True) (scfD s) v1 := by
    obtain ⟨⟨l⟩, n, rfl, hsz, hf⟩ := open_fields (fs := _) Try.underlying25 (by kernel_rfl) (by kernel_rfl) (hval 1 25 v1 rfl rfl) h1
    obtain ⟨u0, x0, e0, t0⟩ := hf 0 _ rfl
    obtain ⟨u1, x1, e1, t1⟩ := hf 1 _ rfl
    obtain ⟨n0, C, r0⟩ := open_cols (S := fun _ => True) (fun _ => trivial) (fs := _) Try.underlying22 Try.underlying61 (by kernel_rfl) (by kernel_rfl) (fun j f hj => by
      match j, hj with
      | 0, hj => cases hj; exact Try.underlying3
      | 1, hj => cases hj; exact Try.underlying3
      | 2, hj => cases hj; exact Try.underlying3) t0
    obtain ⟨n1, D, r1⟩ := open_cols (S := fun _ => True) (fun _ => trivial) (fs := _) Try.underlying23 Try.underlying41 (by kernel_rfl) (by kernel_rfl) (fun j f hj => by
      match j, hj with
      | 0, hj => cases hj; exact Try.underlying3
      | 1, hj => cases hj; exact Try.underlying3
      | 2, hj => cases hj; exact Try.underlying3) t1
    refine ⟨⟨n0, C 0, C 1, C 2, n1, D 0, D 1, D 2⟩, agg_rel hsz fun j d u hd hu => ?_⟩
    match j, hd with
    | 0, hd => cases hd; rw [e0] at hu; cases hu; exact r0
    | 1, hd => cases hd; rw [e1] at hu; cases hu; exact r1
  obtain ⟨n2, A2, rel2⟩ : ∃ n A, RelC (rdArg W fun _ => True) (nums n A) v2 := by
    obtain ⟨a0, len, cap, rfl⟩ := okWide_slice Try.underlying29 (hval 2 29 v2 rfl rfl)
    obtain ⟨fuel, hf⟩ := h2
    exact open_ints (S := fun _ => True) (fun _ => trivial) (v := .slice a0 len cap) Try.underlying29 Try.underlying3 (by kernel_rfl) hf
  have hc := (assigns_c c0 s1 n2 A2).2 (fun _ => True) W #[v0, v1, v2] rfl (fun j d v hd hv => by
    match j, hd, hv with
    | 0, hd, hv => cases hd; cases hv; exact rel0
    | 1, hd, hv => cases hd; cases hv; exact rel1
    | 2, hd, hv => cases hd; cases hv; exact rel2) (fun _ _ h => by cases h)
  refine Calls.mono hc fun e W' ⟨v, he, hr, hb⟩ => ?_
  cases hr
  subst he
  exact ⟨_, rfl, post_of_below (pa := p0 ++ (p1 ++ (p2 ++ []))) (pv := []) hW' (fun _ _ _ => trodAll_mk1 (shut_bool Try.underlying4 _)) (fun sp hs => args_stay laidOut hb (by kernel_rfl) hAk hlt fun x hx => hs x (by simpa using hx)) (fun _ _ => rfl) (by simp) hb
    (ok_one (by kernel_rfl) rfl (okWide_bool_mk Try.underlying4 _))⟩

theorem over : Rows.partsAssignsRow.holds Try.pinned (OpenSpec.ofChange Rows.partsAssignsSpec) :=
  OpenClaim.holds_of_wide 11 Try.f11 rfl rfl rfl rfl rfl rfl rfl ⟨rfl, rfl, rfl, rfl, rfl⟩ rfl rfl rfl rfl rfl (by kernel_rfl) Try.func11 (by kernel_rfl)
    (of_decide_eq_true (by kernel_rfl)) (by unfold Func.isWrapper; rw [if_neg (of_decide_eq_false (by kernel_rfl))]; exact ⟨rfl, rfl⟩)
    (fun os started H enc _ => lifted os started H enc)

/-- The statement. -/
theorem proved : Rows.PartsAssignsSaid := over
#print axioms proved
end Go.Proofs.Ytbemjdppfiabgaa.assigns
