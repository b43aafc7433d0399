/- For every input the law LayoutSystems returns true and its arguments read as before; the package variables that it reads are tied to the program's text. No conditions. -/
import Derived.Test.YtdhnfeoigmeopaaGreatDoorRows
import Derived.Test.YtdhnfeoigmeopaaGreatDoorTie
import Derived.Test.YtdhnfeoigmeopaaGreatDoorCards
import Derived.Test.YtdhnfeoigmeopaaGreatDoorRowE
import Derived.Test.YtdhnfeoigmeopaaGreatDoorGlo
import Derived.Test.YtdhnfeoigmeopaaGreatDoorK73
import Derived.WalkKit
import Derived.ProofKit
import Derived.OpenShut
import Derived.SevenTiedAt
import Derived.Lay
namespace Go.Proofs.YtdhnfeoigmeopaaGreatDoor.systems
open Go.ChangeShapes Go.WideShapes Go.ChangeAt Go.RowKit Go.Abs Go.Joins
theorem own : ownKnob Tryz.prog.godebug = none := by kernel_rfl
theorem laidOut : laidOutB Tryz.prog = true := by kernel_rfl
theorem door_met (os : Os) (args : Array Value) : laidMetH Tryz.prog laidL ((World.laidAll Tryz.prog os laidL).forCall (fun _ _ => 0) ⟨#[], args, []⟩).memory := by
  rw [MakeChecks.laidMetH_plain _ _ _ (by kernel_rfl)]
  exact laidMet_laidAll _ (by kernel_rfl) (by kernel_rfl)
set_option maxRecDepth 100000 in
theorem lifted (os : Os) (started : os.Started) (H : Type) (enc : TypeId × Value → H) :
    ReturnsInHanded {} Tryz.checked os 3 .any (fun w args => (Rows.layoutSystemsSpec.pre enc Tryz.prog Tryz.f3 [] false w args ∧ laidMetH Tryz.prog laidL w) ∧ sizedMet enc Tryz.prog Tryz.f3 (OpenSpec.ofChange Rows.layoutSystemsSpec) false w args)
      (Rows.layoutSystemsSpec.post enc Tryz.prog Tryz.f3 false true false false) := by
  refine returnsInHanded_of_change_and (C := Tryz.checked) (X := fun w _ => laidMetH Tryz.prog laidL w) (fun _ _ _ hh h => h.of_heap hh) own started (by kernel_rfl) Tryz.func3
    (ChangeSpec.witness_shaped (enc := enc) (C := Tryz.checked) (os := os) (X := fun w _ => laidMetH Tryz.prog laidL w) false (World.laidAll Tryz.prog os laidL) #[.agg #[.slice none 0 0, .slice none 0 0, .int .i64 0, .int .i64 0, .int .i64 0]] 8 (World.laidAll_os _ _ _) (World.shaped_of_ZipB (by kernel_rfl) (by kernel_rfl)) (by kernel_rfl) (by kernel_rfl) (by kernel_rfl) (door_met os _)) ?_
  intro W base args ds gs before hval0 hW _ _ hL _
  have hval : ∀ (j : Nat) t v, Tryz.f3.params[j]? = some t → args[j]? = some v → Value.okWide Tryz.prog W .any base t v := hval0
  have hW' := hW
  obtain ⟨p, q, hA0, hV, rfl, hfz, hnd⟩ := hW
  have hA : DataW.TrodAll enc Tryz.prog W 0 (fun _ => true) true Tryz.f3.params.toList args.toList ds p := hA0
  have hlt : ∀ x ∈ p, x.block < W.heap.size := fun x hx => hW'.lt x (List.mem_append_left _ hx)
  have hAk := hA
  rw [Tryz.params3] at hA hval
  obtain ⟨v0, vs0, d0, ds0, p0, q0, hargs, rfl, rfl, h0, r0⟩ := trodAll_cons hA
  obtain ⟨rfl, rfl, rfl⟩ := trodAll_nil r0
  obtain rfl : args = #[v0] := by cases args; simp_all
  obtain ⟨rfl, rfl⟩ := trodVars_none hV
  clear hA0 hval0
  simp only [List.append_nil] at hW'
  obtain ⟨nB, B, nO, O, z2, z3, z4, rel0⟩ : ∃ (nB : Nat) (B : Nat → Int) (nO : Nat) (O : Nat → Int) (z2 z3 z4 : Int), RelC (rdArg W fun _ => True) (.agg [nums nB B, nums nO O, dI z2, dI z3, dI z4]) v0 := by
    obtain ⟨⟨l⟩, n, rfl, hsz, hf⟩ := open_fields (fs := _) Tryz.underlying24 (by kernel_rfl) (by kernel_rfl) (hval 0 24 v0 rfl rfl) h0
    obtain ⟨u0, x0, e0, t0⟩ := hf 0 _ rfl
    obtain ⟨u1, x1, e1, t1⟩ := hf 1 _ rfl
    obtain ⟨u2, x2, e2, t2⟩ := hf 2 _ rfl
    obtain ⟨u3, x3, e3, t3⟩ := hf 3 _ rfl
    obtain ⟨u4, x4, e4, t4⟩ := hf 4 _ rfl
    obtain ⟨nB, B, r0⟩ := open_ints (S := fun _ => True) (fun _ => trivial) Tryz.underlying22 Tryz.underlying3 (by kernel_rfl) t0
    obtain ⟨nO, O, r1⟩ := open_ints (S := fun _ => True) (fun _ => trivial) Tryz.underlying22 Tryz.underlying3 (by kernel_rfl) t1
    obtain ⟨z2, rfl⟩ := open_int Tryz.underlying3 t2
    obtain ⟨z3, rfl⟩ := open_int Tryz.underlying3 t3
    obtain ⟨z4, rfl⟩ := open_int Tryz.underlying3 t4
    refine ⟨nB, B, nO, O, z2, z3, z4, agg_rel hsz fun j d u hd hu => ?_⟩
    match j, hd with
    | 0, hd => cases hd; rw [e0] at hu; cases hu; exact r0
    | 1, hd => cases hd; rw [e1] at hu; cases hu; exact r1
    | 2, hd => cases hd; rw [e2] at hu; cases hu; exact .val _
    | 3, hd => cases hd; rw [e3] at hu; cases hu; exact .val _
    | 4, hd => cases hd; rw [e4] at hu; cases hu; exact .val _
  have hc := (systems_c nB B nO O z2 z3 z4).2 (fun _ => True) W #[v0] rfl (fun j d v hd hv => by
    match j, hd, hv with
    | 0, hd, hv => cases hd; cases hv; exact rel0) (glob_of_laid hL)
  refine Calls.mono hc fun e W' ⟨v, he, hr, hb⟩ => ?_
  cases hr
  subst he
  exact ⟨_, rfl, post_of_below (pa := p0 ++ []) (pv := []) hW' (fun _ _ _ => trodAll_mk1 (shut_bool Tryz.underlying4 _)) (fun sp hs => args_stay laidOut hb (by kernel_rfl) hAk hlt fun x hx => hs x (by simpa using hx)) (fun _ _ => rfl) (by simp) hb
    (ok_one (by kernel_rfl) rfl (okWide_bool_mk Tryz.underlying4 _))⟩
theorem over : Rows.LayoutSystemsSaid :=
  OpenClaim.holds_of_wide 3 Tryz.f3 rfl rfl rfl rfl rfl rfl rfl ⟨rfl, rfl, rfl, rfl, rfl⟩ rfl rfl rfl rfl rfl (by kernel_rfl) Tryz.func3 (by kernel_rfl)
    (of_decide_eq_true (by kernel_rfl)) (by unfold Func.isWrapper; rw [if_neg (of_decide_eq_false (by kernel_rfl))]; exact ⟨rfl, rfl⟩)
    (fun os started H enc _ => lifted os started H enc)
theorem proved : Rows.LayoutSystemsCardSaid :=
  Claim7.holds_tied_plain_at .later [] [.data, .data, .data, .data, .sentinel, .sentinel, .pinned] true (true, "91ae9a7327924eebe0fc4f147326e600b9d3bdaf2b0fe733f24a9d19ca685a05") true
    over (fun _ h => by cases h) (by kernel_rfl) (fun _ h => by cases h) layoutSystems_row_tie rfl ⟨rfl, rfl⟩ (by kernel_rfl) rfl
    (fun f fn hf hfn => by
      obtain rfl : f = 3 := Option.some.inj ((show Tryz.prog.funcNamed "putlog/putloglaw03.LayoutSystems" = some 3 by kernel_rfl).symm.trans hf) |>.symm
      obtain rfl : fn = Tryz.f3 := (Option.some.inj (Tryz.func3.symm.trans hfn)).symm
      exact ⟨by kernel_rfl, fun j t ht => by
        rw [Tryz.params3] at ht
        have hm : t ∈ [24] := by simpa using Array.mem_of_getElem? ht
        have hall : ([24].all fun u => !Tryz.prog.wantsStandIn u) = true := by kernel_rfl
        exact (show Tryz.prog.wantsStandIn t = false by simpa using List.all_eq_true.1 hall t hm)⟩)
    (by kernel_rfl)
#print axioms proved
end Go.Proofs.YtdhnfeoigmeopaaGreatDoor.systems
