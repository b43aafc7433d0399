/- For every list of points and every further argument the law BuildingDistances returns true and its arguments read as before; the package variable that it reads is tied to the program's text. No conditions. -/
import Derived.Test.YtcgfcahljfmipaaDoorRows
import Derived.Test.YtcgfcahljfmipaaDoorTie
import Derived.Test.YtcgfcahljfmipaaDoorCards
import Derived.Test.YtcgfcahljfmipaaDoorRowL
import Derived.Test.YtcgfcahljfmipaaDoorGlo
import Derived.Test.YtcgfcahljfmipaaDoorK42
import Derived.WalkKit
import Derived.ProofKit
import Derived.OpenShut
import Derived.SevenTiedAt
namespace Go.Proofs.YtcgfcahljfmipaaDoor.distances
open Go.ChangeShapes Go.WideShapes Go.ChangeAt Go.RowKit Go.Abs Go.Joins

theorem own : ownKnob Tryd.prog.godebug = none := by kernel_rfl
theorem laidOut : laidOutB Tryd.prog = true := by kernel_rfl

/-- The door's own heap meets the condition. -/
theorem door_met (os : Os) (args : Array Value) : laidMetH Tryd.prog laidL ((World.doorLaid Tryd.prog 400 os).forCall (fun _ _ => 0) ⟨#[], args, []⟩).memory :=
  laidMetH_of_parts3 (fuel := 8) (laidMet_of_run' 8 (by kernel_rfl) (by kernel_rfl)) (by kernel_rfl) (by kernel_rfl)

set_option maxRecDepth 100000 in
theorem lifted (os : Os) (started : os.Started) (H : Type) (enc : TypeId × Value → H) :
    ReturnsInHanded {} Tryd.checked os 4 .any (fun w args => (Rows.buildingDistancesSpec.pre enc Tryd.prog Tryd.f4 [] false w args ∧ laidMetH Tryd.prog laidL w) ∧ sizedMet enc Tryd.prog Tryd.f4 (OpenSpec.ofChange Rows.buildingDistancesSpec) false w args)
      (Rows.buildingDistancesSpec.post enc Tryd.prog Tryd.f4 false true false false) := by
  refine returnsInHanded_of_change_and (C := Tryd.checked) (X := fun w _ => laidMetH Tryd.prog laidL w) (fun _ _ _ hh h => h.of_heap hh) own started (by kernel_rfl) Tryd.func4
    (ChangeSpec.witness_shaped (enc := enc) (C := Tryd.checked) (os := os) (X := fun w _ => laidMetH Tryd.prog laidL w) false (World.doorLaid Tryd.prog 400 os) #[.slice none 0 0, .agg #[.int .i64 0, .int .i64 0], .int .i64 0] 8 rfl (World.shaped_of_RefB (by kernel_rfl) (by kernel_rfl)) (by kernel_rfl) (by kernel_rfl) (by kernel_rfl) (door_met os _)) ?_
  intro W base args ds gs before hval0 hW _ _ hL _
  have hval : ∀ (j : Nat) t v, Tryd.f4.params[j]? = some t → args[j]? = some v → Value.okWide Tryd.prog W .any base t v := hval0
  have hW' := hW
  obtain ⟨p, q, hA0, hV, rfl, hfz, hnd⟩ := hW
  have hA : DataW.TrodAll enc Tryd.prog W 0 (fun _ => true) true Tryd.f4.params.toList args.toList ds p := hA0
  have hlt : ∀ x ∈ p, x.block < W.heap.size := fun x hx => hW'.lt x (List.mem_append_left _ hx)
  have hAk := hA
  rw [Tryd.params4] at hA hval
  obtain ⟨v0, vs0, d0, ds0, p0, q0, hargs, rfl, rfl, h0, r0⟩ := trodAll_cons hA
  obtain ⟨v1, vs1, d1, ds1, p1, q1, rfl, rfl, rfl, h1, r1⟩ := trodAll_cons r0
  obtain ⟨v2, vs2, d2, ds2, p2, q2, rfl, rfl, rfl, h2, r2⟩ := trodAll_cons r1
  obtain ⟨rfl, rfl, rfl⟩ := trodAll_nil r2
  obtain rfl : args = #[v0, v1, v2] := by cases args; simp_all
  obtain ⟨rfl, rfl⟩ := trodVars_none hV
  clear hA0 hval0
  simp only [List.append_nil] at hW'
  obtain ⟨n, X, Y, rel0⟩ : ∃ n X Y, RelC (rdArg W fun _ => True) (pts n X Y) v0 := by
    obtain ⟨a0, len, cap, rfl⟩ := okWide_slice Tryd.underlying22 (hval 0 22 v0 rfl rfl)
    obtain ⟨fuel, hf⟩ := h0
    rcases open_rows Tryd.underlying22 Tryd.underlying36 (by kernel_rfl) (by kernel_rfl) (fun j f hj => by
      match j, hj with
      | 0, hj => cases hj; exact Tryd.underlying3
      | 1, hj => cases hj; exact Tryd.underlying3) hf with hc | ⟨a, len', cap', hc, hl, hcell⟩
    · cases hc
      exact ⟨0, fun _ => 0, fun _ => 0, rel_none _⟩
    · cases hc
      obtain ⟨X, Y, h⟩ := rel_pairs (S := fun _ => True) (fun _ => trivial) hl hcell
      exact ⟨_, X, Y, h⟩
  obtain ⟨x1, y1, rfl⟩ : ∃ x y, v1 = .agg #[.int .i64 x, .int .i64 y] := by
    obtain ⟨c0, c1, y0, y1, m, rfl, _, _, hy0, hy1⟩ := open_agg2 Tryd.underlying36 (by kernel_rfl) (by kernel_rfl) (hval 1 36 v1 rfl rfl) h1
    obtain ⟨a, e0, _, _⟩ := DataW.trod_int Tryd.underlying3 hy0
    obtain ⟨b, e1, _, _⟩ := DataW.trod_int Tryd.underlying3 hy1
    cases e0; cases e1
    exact ⟨a, b, rfl⟩
  obtain ⟨z2, rfl⟩ : ∃ z, v2 = .int .i64 z := by
    obtain ⟨z, hz⟩ := okWide_int Tryd.underlying3 (hval 2 3 v2 rfl rfl)
    exact ⟨z, hz⟩
  have hc := (distances_c n X Y x1 y1 z2).2 (fun _ => True) W #[v0, .agg #[.int .i64 x1, .int .i64 y1], .int .i64 z2] rfl (fun j d v hd hv => by
    match j, hd, hv with
    | 0, hd, hv => cases hd; cases hv; exact rel0
    | 1, hd, hv => cases hd; cases hv; exact .val _
    | 2, hd, hv => cases hd; cases hv; exact .val _) (glob_of_laid hL)
  refine Calls.mono hc fun e W' ⟨v, he, hr, hb⟩ => ?_
  cases hr
  subst he
  exact ⟨_, rfl, post_of_below (pa := p0 ++ (p1 ++ (p2 ++ []))) (pv := []) hW' (fun _ _ _ => trodAll_mk1 (shut_bool Tryd.underlying4 _)) (fun sp hs => args_stay laidOut hb (by kernel_rfl) hAk hlt fun x hx => hs x (by simpa using hx)) (fun _ _ => rfl) (by simp) hb
    (ok_one (by kernel_rfl) rfl (okWide_bool_mk Tryd.underlying4 _))⟩

theorem over : Rows.BuildingDistancesSaid :=
  OpenClaim.holds_of_wide 4 Tryd.f4 rfl rfl rfl rfl rfl rfl rfl ⟨rfl, rfl, rfl, rfl, rfl⟩ rfl rfl rfl rfl rfl (by kernel_rfl) Tryd.func4 (by kernel_rfl)
    (of_decide_eq_true (by kernel_rfl)) (by unfold Func.isWrapper; rw [if_neg (of_decide_eq_false (by kernel_rfl))]; exact ⟨rfl, rfl⟩)
    (fun os started H enc _ => lifted os started H enc)

/-- The statement. -/
theorem proved : Rows.BuildingDistancesCardSaid :=
  Claim7.holds_tied_plain_at .later [] [.data] true (true, "10fbb091405f8351d059c0e5252b1a23414230bc3c5653e0b370f335659449df") false
    over (fun _ h => by cases h) (by kernel_rfl) (fun _ h => by cases h) buildingDistances_row_tie rfl ⟨rfl, rfl⟩ (by kernel_rfl) rfl
    (fun f fn hf hfn => by
      obtain rfl : f = 4 := Option.some.inj ((show Tryd.prog.funcNamed "putlog/putloglaw02.BuildingDistances" = some 4 by kernel_rfl).symm.trans hf) |>.symm
      obtain rfl : fn = Tryd.f4 := (Option.some.inj (Tryd.func4.symm.trans hfn)).symm
      exact ⟨by kernel_rfl, fun j t ht => by
        rw [Tryd.params4] at ht
        have hm : t ∈ [22, 36, 3] := by simpa using Array.mem_of_getElem? ht
        have hall : ([22, 36, 3].all fun u => !Tryd.prog.wantsStandIn u) = true := by kernel_rfl
        exact (show Tryd.prog.wantsStandIn t = false by simpa using List.all_eq_true.1 hall t hm)⟩)
    (by kernel_rfl)
#print axioms proved
end Go.Proofs.YtcgfcahljfmipaaDoor.distances
