/- For every input the law BuildingMoves returns true and its arguments read as before. No conditions. -/
import Derived.Test.YtomkiggacimmaaaGreatRows
import Derived.Test.YtomkiggacimmaaaGreatRowB
import Derived.Test.YtomkiggacimmaaaGreatK55
import Derived.WalkKit
import Derived.ProofKit
import Derived.OpenShut
namespace Go.Proofs.YtomkiggacimmaaaGreat.moves
open Go.ChangeShapes Go.WideShapes Go.ChangeAt Go.RowKit Go.Abs Go.Joins

theorem own : ownKnob Tryz.prog.godebug = none := by kernel_rfl
theorem laidOut : laidOutB Tryz.prog = true := by kernel_rfl

set_option maxRecDepth 100000 in
theorem open_bld {H : Type} {enc : TypeId × Value → H} {W : World} {r : Reach} {b0 base : Nat} {sp : Nat → Bool} {held : Bool} {v0 : Value} {d : DataW H} {p : List MemPlace} (hv : Value.okWide Tryz.prog W r b0 26 v0) (h0 : DataW.Trod enc Tryz.prog W base sp held 26 v0 d p) :
    ∃ b : Bld, RelC (rdArg W fun _ => True) (bld b) v0 := by
  obtain ⟨⟨l⟩, n, rfl, hsz, hf⟩ := open_fields (fs := _) Tryz.underlying26 (by kernel_rfl) (by kernel_rfl) hv h0
  obtain ⟨u0, x0, e0, t0⟩ := hf 0 _ rfl
  obtain ⟨u1, x1, e1, t1⟩ := hf 1 _ rfl
  obtain ⟨u2, x2, e2, t2⟩ := hf 2 _ rfl
  obtain ⟨u3, x3, e3, t3⟩ := hf 3 _ rfl
  obtain ⟨u4, x4, e4, t4⟩ := hf 4 _ rfl
  obtain ⟨s, hs, _⟩ := DataW.trod_string Tryz.underlying9 t0
  cases hs
  obtain ⟨nS, fl, N, X, Y, r1⟩ := open_storeys (S := fun _ => True) (fun _ => trivial) Tryz.underlying22 Tryz.underlying51 (by kernel_rfl) (by kernel_rfl) Tryz.underlying3 rfl Tryz.underlying41 Tryz.underlying48 (by kernel_rfl) (by kernel_rfl) rfl (fun j f hj => by
    match j, hj with
    | 0, hj => cases hj; exact Tryz.underlying3
    | 1, hj => cases hj; exact Tryz.underlying3) t1
  obtain ⟨roof, rfl⟩ := open_int Tryz.underlying3 t2
  obtain ⟨nO, O, r3⟩ := open_sixes (S := fun _ => True) (fun _ => trivial) Tryz.underlying23 Tryz.underlying72 (by kernel_rfl) (by kernel_rfl) rfl (fun j f hj => by
    match j, hj with
    | 0, hj => cases hj; exact Tryz.underlying3
    | 1, hj => cases hj; exact Tryz.underlying3
    | 2, hj => cases hj; exact Tryz.underlying3
    | 3, hj => cases hj; exact Tryz.underlying3
    | 4, hj => cases hj; exact Tryz.underlying3
    | 5, hj => cases hj; exact Tryz.underlying3) t3
  obtain ⟨nB, B, r4⟩ := open_sixes (S := fun _ => True) (fun _ => trivial) Tryz.underlying24 Tryz.underlying58 (by kernel_rfl) (by kernel_rfl) rfl (fun j f hj => by
    match j, hj with
    | 0, hj => cases hj; exact Tryz.underlying3
    | 1, hj => cases hj; exact Tryz.underlying3
    | 2, hj => cases hj; exact Tryz.underlying3
    | 3, hj => cases hj; exact Tryz.underlying3
    | 4, hj => cases hj; exact Tryz.underlying3
    | 5, hj => cases hj; exact Tryz.underlying3) t4
  refine ⟨⟨s, nS, fl, N, X, Y, roof, nO, O, nB, B⟩, .agg hsz fun j d u hd hu => ?_⟩
  match j, hd with
  | 0, hd => cases hd; rw [e0] at hu; cases hu; exact .val _
  | 1, hd => cases hd; rw [e1] at hu; cases hu; exact r1
  | 2, hd => cases hd; rw [e2] at hu; cases hu; exact .val _
  | 3, hd => cases hd; rw [e3] at hu; cases hu; exact r3
  | 4, hd => cases hd; rw [e4] at hu; cases hu; exact r4

set_option maxRecDepth 100000 in
theorem lifted (os : Os) (started : os.Started) (H : Type) (enc : TypeId × Value → H) :
    ReturnsInHanded {} Tryz.checked os 3 .any (Rows.buildingMovesSpec.pre6 enc Tryz.prog Tryz.f3 Rows.buildingMovesRow.domain false) (Rows.buildingMovesSpec.post enc Tryz.prog Tryz.f3 false true false false) := by
  refine returnsInHanded_of_change (C := Tryz.checked) own started (by kernel_rfl) Tryz.func3
    (ChangeSpec.witness6 (enc := enc) (C := Tryz.checked) false ⟨#[], #[.agg #[.string ⟨#[]⟩, .slice none 0 0, .int .i64 0, .slice none 0 0, .slice none 0 0], .int .i64 0, .int .i64 0], []⟩ 8 (by kernel_rfl) (by kernel_rfl) (by kernel_rfl) (by kernel_rfl)) ?_
  intro W base args ds gs before hval0 hW hcnd _
  have hval : ∀ (j : Nat) t v, Tryz.f3.params[j]? = some t → args[j]? = some v → Value.okWide Tryz.prog W .any base t v := hval0
  have hW' := hW
  obtain ⟨p, q, hA0, hV, rfl, hfz, hnd⟩ := hW
  have hA : DataW.TrodAll enc Tryz.prog W 0 (fun _ => true) true Tryz.f3.params.toList args.toList ds p := hA0
  have hlt : ∀ x ∈ p, x.block < W.heap.size := fun x hx => hW'.lt x (List.mem_append_left _ hx)
  have hAk := hA
  rw [Tryz.params3] at hA hval
  obtain ⟨v0, vs0, d0, ds0, p0, q0, hargs, rfl, rfl, h0, r0⟩ := trodAll_cons hA
  obtain ⟨v1, vs1, d1, ds1, p1, q1, rfl, rfl, rfl, h1, r1⟩ := trodAll_cons r0
  obtain ⟨v2, vs2, d2, ds2, p2, q2, rfl, rfl, rfl, h2, r2⟩ := trodAll_cons r1
  obtain ⟨rfl, rfl, rfl⟩ := trodAll_nil r2
  obtain rfl : args = #[v0, v1, v2] := by cases args; simp_all
  obtain ⟨rfl, rfl⟩ := trodVars_none hV
  clear hA0 hval0
  simp only [List.append_nil] at hW'
  obtain ⟨b0, rel0⟩ := open_bld (hval 0 26 v0 rfl rfl) h0
  obtain ⟨z1, rfl⟩ : ∃ z, v1 = .int .i64 z := by
    obtain ⟨z, hz⟩ := okWide_int Tryz.underlying3 (hval 1 3 v1 rfl rfl)
    exact ⟨z, hz⟩
  obtain ⟨z2, rfl⟩ : ∃ z, v2 = .int .i64 z := by
    obtain ⟨z, hz⟩ := okWide_int Tryz.underlying3 (hval 2 3 v2 rfl rfl)
    exact ⟨z, hz⟩
  have hc := (moves_c b0 z1 z2).2 (fun _ => True) W #[v0, .int .i64 z1, .int .i64 z2] rfl (fun j d v hd hv => by
    match j, hd, hv with
    | 0, hd, hv => cases hd; cases hv; exact rel0
    | 1, hd, hv => cases hd; cases hv; exact .val _
    | 2, hd, hv => cases hd; cases hv; exact .val _) (fun _ _ h => by cases h)
  refine Calls.mono hc fun e W' ⟨v, he, hr, hb⟩ => ?_
  cases hr
  subst he
  exact ⟨_, rfl, post_of_below (pa := p0 ++ (p1 ++ (p2 ++ []))) (pv := []) hW' (fun _ _ _ => trodAll_mk1 (shut_bool Tryz.underlying4 _)) (fun sp hs => args_stay laidOut hb (by kernel_rfl) hAk hlt fun x hx => hs x (by simpa using hx)) (fun _ _ => rfl) (by simp) hb
    (ok_one (by kernel_rfl) rfl (okWide_bool_mk Tryz.underlying4 _))⟩

theorem over : Rows.buildingMovesRow.holds Tryz.pinned (OpenSpec.ofChange Rows.buildingMovesSpec) :=
  OpenClaim.holds_of_wide 3 Tryz.f3 rfl rfl rfl rfl rfl rfl rfl ⟨rfl, rfl, rfl, rfl, rfl⟩ rfl rfl rfl rfl rfl (by kernel_rfl) Tryz.func3 (by kernel_rfl)
    (of_decide_eq_true (by kernel_rfl)) (by unfold Func.isWrapper; rw [if_neg (of_decide_eq_false (by kernel_rfl))]; exact ⟨rfl, rfl⟩)
    (fun os started H enc _ => lifted os started H enc)

/-- The statement. -/
theorem proved : Rows.BuildingMovesSaid := over
#print axioms proved
end Go.Proofs.YtomkiggacimmaaaGreat.moves
