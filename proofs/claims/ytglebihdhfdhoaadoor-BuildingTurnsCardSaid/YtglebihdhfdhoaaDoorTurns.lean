/- For every building and every further argument the law BuildingTurns returns true and its arguments read as before; the package variable that it reads is tied to the program's text. No conditions. -/
import Derived.Test.YtglebihdhfdhoaaDoorRows
import Derived.Test.YtglebihdhfdhoaaDoorTie
import Derived.Test.YtglebihdhfdhoaaDoorCards
import Derived.Test.YtglebihdhfdhoaaDoorRowB
import Derived.Test.YtglebihdhfdhoaaDoorGlo
import Derived.Test.YtglebihdhfdhoaaDoorK30
import Derived.WalkKit
import Derived.ProofKit
import Derived.OpenShut
import Derived.SevenTiedAt
namespace Go.Proofs.YtglebihdhfdhoaaDoor.turns
open Go.ChangeShapes Go.WideShapes Go.ChangeAt Go.RowKit Go.Abs Go.Joins

theorem own : ownKnob Tryd.prog.godebug = none := by kernel_rfl
theorem laidOut : laidOutB Tryd.prog = true := by kernel_rfl

set_option maxRecDepth 100000 in
theorem open_bld {H : Type} {enc : TypeId × Value → H} {W : World} {r : Reach} {b0 base : Nat} {sp : Nat → Bool} {held : Bool} {v0 : Value} {d : DataW H} {p : List MemPlace} (hv : Value.okWide Tryd.prog W r b0 26 v0) (h0 : DataW.Trod enc Tryd.prog W base sp held 26 v0 d p) :
    ∃ b : Bld, RelC (rdArg W fun _ => True) (bld b) v0 := by
  obtain ⟨⟨l⟩, n, rfl, hsz, hf⟩ := open_fields (fs := _) Tryd.underlying26 (by kernel_rfl) (by kernel_rfl) hv h0
  obtain ⟨u0, x0, e0, t0⟩ := hf 0 _ rfl
  obtain ⟨u1, x1, e1, t1⟩ := hf 1 _ rfl
  obtain ⟨u2, x2, e2, t2⟩ := hf 2 _ rfl
  obtain ⟨u3, x3, e3, t3⟩ := hf 3 _ rfl
  obtain ⟨u4, x4, e4, t4⟩ := hf 4 _ rfl
  obtain ⟨s, hs, _⟩ := DataW.trod_string Tryd.underlying9 t0
  cases hs
  obtain ⟨nS, fl, N, X, Y, r1⟩ := open_storeys (S := fun _ => True) (fun _ => trivial) Tryd.underlying22 Tryd.underlying39 (by kernel_rfl) (by kernel_rfl) Tryd.underlying3 rfl Tryd.underlying37 Tryd.underlying41 (by kernel_rfl) (by kernel_rfl) rfl (fun j f hj => by
    match j, hj with
    | 0, hj => cases hj; exact Tryd.underlying3
    | 1, hj => cases hj; exact Tryd.underlying3) t1
  obtain ⟨roof, rfl⟩ := open_int Tryd.underlying3 t2
  obtain ⟨nO, O, r3⟩ := open_sixes (S := fun _ => True) (fun _ => trivial) Tryd.underlying23 Tryd.underlying98 (by kernel_rfl) (by kernel_rfl) rfl (fun j f hj => by
    match j, hj with
    | 0, hj => cases hj; exact Tryd.underlying3
    | 1, hj => cases hj; exact Tryd.underlying3
    | 2, hj => cases hj; exact Tryd.underlying3
    | 3, hj => cases hj; exact Tryd.underlying3
    | 4, hj => cases hj; exact Tryd.underlying3
    | 5, hj => cases hj; exact Tryd.underlying3) t3
  obtain ⟨nB, B, r4⟩ := open_sixes (S := fun _ => True) (fun _ => trivial) Tryd.underlying24 Tryd.underlying61 (by kernel_rfl) (by kernel_rfl) rfl (fun j f hj => by
    match j, hj with
    | 0, hj => cases hj; exact Tryd.underlying3
    | 1, hj => cases hj; exact Tryd.underlying3
    | 2, hj => cases hj; exact Tryd.underlying3
    | 3, hj => cases hj; exact Tryd.underlying3
    | 4, hj => cases hj; exact Tryd.underlying3
    | 5, hj => cases hj; exact Tryd.underlying3) t4
  refine ⟨⟨s, nS, fl, N, X, Y, roof, nO, O, nB, B⟩, .agg hsz fun j d u hd hu => ?_⟩
  match j, hd with
  | 0, hd => cases hd; rw [e0] at hu; cases hu; exact .val _
  | 1, hd => cases hd; rw [e1] at hu; cases hu; exact r1
  | 2, hd => cases hd; rw [e2] at hu; cases hu; exact .val _
  | 3, hd => cases hd; rw [e3] at hu; cases hu; exact r3
  | 4, hd => cases hd; rw [e4] at hu; cases hu; exact r4

/-- The door's own heap meets the condition. -/
theorem door_met (os : Os) (args : Array Value) : laidMetH Tryd.prog laidL ((World.doorLaid Tryd.prog 400 os).forCall (fun _ _ => 0) ⟨#[], args, []⟩).memory :=
  laidMetH_of_parts3 (fuel := 8) (laidMet_of_run' 8 (by kernel_rfl) (by kernel_rfl)) (by kernel_rfl) (by kernel_rfl)

set_option maxRecDepth 100000 in
theorem lifted (os : Os) (started : os.Started) (H : Type) (enc : TypeId × Value → H) :
    ReturnsInHanded {} Tryd.checked os 5 .any (fun w args => (Rows.buildingTurnsSpec.pre enc Tryd.prog Tryd.f5 [] false w args ∧ laidMetH Tryd.prog laidL w) ∧ sizedMet enc Tryd.prog Tryd.f5 (OpenSpec.ofChange Rows.buildingTurnsSpec) false w args)
      (Rows.buildingTurnsSpec.post enc Tryd.prog Tryd.f5 false true false false) := by
  refine returnsInHanded_of_change_and (C := Tryd.checked) (X := fun w _ => laidMetH Tryd.prog laidL w) (fun _ _ _ hh h => h.of_heap hh) own started (by kernel_rfl) Tryd.func5
    (ChangeSpec.witness_shaped (enc := enc) (C := Tryd.checked) (os := os) (X := fun w _ => laidMetH Tryd.prog laidL w) false (World.doorLaid Tryd.prog 400 os) #[.agg #[.string ⟨#[]⟩, .slice none 0 0, .int .i64 0, .slice none 0 0, .slice none 0 0], .agg #[.int .i64 0, .int .i64 0, .int .i64 0], .agg #[.int .i64 0, .int .i64 0, .int .i64 0, .int .i64 0, .int .i64 0, .int .i64 0]] 8 rfl (World.shaped_of_RefB (by kernel_rfl) (by kernel_rfl)) (by kernel_rfl) (by kernel_rfl) (by kernel_rfl) (door_met os _)) ?_
  intro W base args ds gs before hval0 hW _ _ hL _
  have hval : ∀ (j : Nat) t v, Tryd.f5.params[j]? = some t → args[j]? = some v → Value.okWide Tryd.prog W .any base t v := hval0
  have hW' := hW
  obtain ⟨p, q, hA0, hV, rfl, hfz, hnd⟩ := hW
  have hA : DataW.TrodAll enc Tryd.prog W 0 (fun _ => true) true Tryd.f5.params.toList args.toList ds p := hA0
  have hlt : ∀ x ∈ p, x.block < W.heap.size := fun x hx => hW'.lt x (List.mem_append_left _ hx)
  have hAk := hA
  rw [Tryd.params5] at hA hval
  obtain ⟨v0, vs0, d0, ds0, p0, q0, hargs, rfl, rfl, h0, r0⟩ := trodAll_cons hA
  obtain ⟨v1, vs1, d1, ds1, p1, q1, rfl, rfl, rfl, h1, r1⟩ := trodAll_cons r0
  obtain ⟨v2, vs2, d2, ds2, p2, q2, rfl, rfl, rfl, h2, r2⟩ := trodAll_cons r1
  obtain ⟨rfl, rfl, rfl⟩ := trodAll_nil r2
  obtain rfl : args = #[v0, v1, v2] := by cases args; simp_all
  obtain ⟨rfl, rfl⟩ := trodVars_none hV
  clear hA0 hval0
  simp only [List.append_nil] at hW'
  obtain ⟨b, rel0⟩ := open_bld (hval 0 26 v0 rfl rfl) h0
  obtain ⟨z1a, z1b, z1c, rfl⟩ := open_three (fs := _) Tryd.underlying28 (by kernel_rfl) (by kernel_rfl) rfl (fun j f hj => by
    match j, hj with
    | 0, hj => cases hj; exact Tryd.underlying3
    | 1, hj => cases hj; exact Tryd.underlying3
    | 2, hj => cases hj; exact Tryd.underlying3) (hval 1 28 v1 rfl rfl) h1
  obtain ⟨z2a, z2b, z2c, z2d, z2e, z2f, rfl⟩ := open_six (fs := _) Tryd.underlying61 (by kernel_rfl) (by kernel_rfl) rfl (fun j f hj => by
    match j, hj with
    | 0, hj => cases hj; exact Tryd.underlying3
    | 1, hj => cases hj; exact Tryd.underlying3
    | 2, hj => cases hj; exact Tryd.underlying3
    | 3, hj => cases hj; exact Tryd.underlying3
    | 4, hj => cases hj; exact Tryd.underlying3
    | 5, hj => cases hj; exact Tryd.underlying3) (hval 2 61 v2 rfl rfl) h2
  have hc := (turns_law b z1a z1b z1c z2a z2b z2c z2d z2e z2f).2 (fun _ => True) W #[v0, .agg #[.int .i64 z1a, .int .i64 z1b, .int .i64 z1c], .agg #[.int .i64 z2a, .int .i64 z2b, .int .i64 z2c, .int .i64 z2d, .int .i64 z2e, .int .i64 z2f]] rfl (fun j d v hd hv => by
    match j, hd, hv with
    | 0, hd, hv => cases hd; cases hv; exact rel0
    | 1, hd, hv => cases hd; cases hv; exact .val _
    | 2, hd, hv => cases hd; cases hv; exact .val _) (glob_of_laid hL)
  refine Calls.mono hc fun e W' ⟨v, he, hr, hb⟩ => ?_
  cases hr
  subst he
  exact ⟨_, rfl, post_of_below (pa := p0 ++ (p1 ++ (p2 ++ []))) (pv := []) hW' (fun _ _ _ => trodAll_mk1 (shut_bool Tryd.underlying4 _)) (fun sp hs => args_stay laidOut hb (by kernel_rfl) hAk hlt fun x hx => hs x (by simpa using hx)) (fun _ _ => rfl) (by simp) hb
    (ok_one (by kernel_rfl) rfl (okWide_bool_mk Tryd.underlying4 _))⟩

theorem over : Rows.BuildingTurnsSaid :=
  OpenClaim.holds_of_wide 5 Tryd.f5 rfl rfl rfl rfl rfl rfl rfl ⟨rfl, rfl, rfl, rfl, rfl⟩ rfl rfl rfl rfl rfl (by kernel_rfl) Tryd.func5 (by kernel_rfl)
    (of_decide_eq_true (by kernel_rfl)) (by unfold Func.isWrapper; rw [if_neg (of_decide_eq_false (by kernel_rfl))]; exact ⟨rfl, rfl⟩)
    (fun os started H enc _ => lifted os started H enc)

/-- The statement. -/
theorem proved : Rows.BuildingTurnsCardSaid :=
  Claim7.holds_tied_plain_at .later [] [.data] true (true, "4ffd9f3953f0b0746e4bbb9a29470249bf87a741e5ccd5554ce098adb09acb37") false
    over (fun _ h => by cases h) (by kernel_rfl) (fun _ h => by cases h) buildingTurns_row_tie rfl ⟨rfl, rfl⟩ (by kernel_rfl) rfl
    (fun f fn hf hfn => by
      obtain rfl : f = 5 := Option.some.inj ((show Tryd.prog.funcNamed "putlog/putloglaw02.BuildingTurns" = some 5 by kernel_rfl).symm.trans hf) |>.symm
      obtain rfl : fn = Tryd.f5 := (Option.some.inj (Tryd.func5.symm.trans hfn)).symm
      exact ⟨by kernel_rfl, fun j t ht => by
        rw [Tryd.params5] at ht
        have hm : t ∈ [26, 28, 61] := by simpa using Array.mem_of_getElem? ht
        have hall : ([26, 28, 61].all fun u => !Tryd.prog.wantsStandIn u) = true := by kernel_rfl
        exact (show Tryd.prog.wantsStandIn t = false by simpa using List.all_eq_true.1 hall t hm)⟩)
    (by kernel_rfl)
#print axioms proved
end Go.Proofs.YtglebihdhfdhoaaDoor.turns
