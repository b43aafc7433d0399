/- For every input the law PartsTexts returns true and its arguments read as before; the package variables that it reads are tied to the program's text. No conditions. -/
import Derived.Test.YtmcgfoacmalbjaaGreatDoorRows
import Derived.Test.YtmcgfoacmalbjaaGreatDoorTie
import Derived.Test.YtmcgfoacmalbjaaGreatDoorCards
import Derived.Test.YtmcgfoacmalbjaaGreatDoorRowE
import Derived.Test.YtmcgfoacmalbjaaGreatDoorGlo
import Derived.Test.YtmcgfoacmalbjaaGreatDoorK68
import Derived.WalkKit
import Derived.ProofKit
import Derived.OpenShut
import Derived.SevenTiedAt
import Derived.Lay
namespace Go.Proofs.YtmcgfoacmalbjaaGreatDoor.texts
open Go.ChangeShapes Go.WideShapes Go.ChangeAt Go.RowKit Go.Abs Go.Joins
theorem own : ownKnob Tryz.prog.godebug = none := by kernel_rfl
theorem laidOut : laidOutB Tryz.prog = true := by kernel_rfl
theorem door_met (os : Os) (args : Array Value) : laidMetH Tryz.prog laidL ((World.laidAll Tryz.prog os laidL).forCall (fun _ _ => 0) ⟨#[], args, []⟩).memory := by
  rw [MakeChecks.laidMetH_plain _ _ _ (by kernel_rfl)]
  exact laidMet_laidAll _ (by kernel_rfl) (by kernel_rfl)
set_option maxRecDepth 100000 in
theorem lifted (os : Os) (started : os.Started) (H : Type) (enc : TypeId × Value → H) :
    ReturnsInHanded {} Tryz.checked os 3 .any (fun w args => (Rows.partsTextsSpec.pre enc Tryz.prog Tryz.f3 [] false w args ∧ laidMetH Tryz.prog laidL w) ∧ sizedMet enc Tryz.prog Tryz.f3 (OpenSpec.ofChange Rows.partsTextsSpec) false w args)
      (Rows.partsTextsSpec.post enc Tryz.prog Tryz.f3 false true false false) := by
  refine returnsInHanded_of_change_and (C := Tryz.checked) (X := fun w _ => laidMetH Tryz.prog laidL w) (fun _ _ _ hh h => h.of_heap hh) own started (by kernel_rfl) Tryz.func3
    (ChangeSpec.witness_shaped (enc := enc) (C := Tryz.checked) (os := os) (X := fun w _ => laidMetH Tryz.prog laidL w) false (World.laidAll Tryz.prog os laidL) #[.agg #[.slice none 0 0, .slice none 0 0], .string ⟨#[]⟩] 8 (World.laidAll_os _ _ _) (World.shaped_of_ZipB (by kernel_rfl) (by kernel_rfl)) (by kernel_rfl) (by kernel_rfl) (by kernel_rfl) (door_met os _)) ?_
  intro W base args ds gs before hval0 hW _ _ hL _
  have hval : ∀ (j : Nat) t v, Tryz.f3.params[j]? = some t → args[j]? = some v → Value.okWide Tryz.prog W .any base t v := hval0
  have hW' := hW
  obtain ⟨p, q, hA0, hV, rfl, hfz, hnd⟩ := hW
  have hA : DataW.TrodAll enc Tryz.prog W 0 (fun _ => true) true Tryz.f3.params.toList args.toList ds p := hA0
  have hlt : ∀ x ∈ p, x.block < W.heap.size := fun x hx => hW'.lt x (List.mem_append_left _ hx)
  have hAk := hA
  rw [Tryz.params3] at hA hval
  obtain ⟨v0, vs0, d0, ds0, p0, q0, hargs, rfl, rfl, h0, r0⟩ := trodAll_cons hA
  obtain ⟨v1, vs1, d1, ds1, p1, q1, rfl, rfl, rfl, h1, r1⟩ := trodAll_cons r0
  obtain ⟨rfl, rfl, rfl⟩ := trodAll_nil r1
  obtain rfl : args = #[v0, v1] := by cases args; simp_all
  obtain ⟨rfl, rfl⟩ := trodVars_none hV
  clear hA0 hval0
  simp only [List.append_nil] at hW'
  obtain ⟨s0, rel0⟩ : ∃ s : Scf, RelC (rdArg W fun _ => True) (scfD s) v0 := by
    obtain ⟨⟨l⟩, n, rfl, hsz, hf⟩ := open_fields (fs := _) Tryz.underlying25 (by kernel_rfl) (by kernel_rfl) (hval 0 25 v0 rfl rfl) h0
    obtain ⟨u0, x0, e0, t0⟩ := hf 0 _ rfl
    obtain ⟨u1, x1, e1, t1⟩ := hf 1 _ rfl
    obtain ⟨n0, C, r0⟩ := open_cols (S := fun _ => True) (fun _ => trivial) (fs := _) Tryz.underlying22 Tryz.underlying61 (by kernel_rfl) (by kernel_rfl) (fun j f hj => by
      match j, hj with
      | 0, hj => cases hj; exact Tryz.underlying3
      | 1, hj => cases hj; exact Tryz.underlying3
      | 2, hj => cases hj; exact Tryz.underlying3) t0
    obtain ⟨n1, D, r1⟩ := open_cols (S := fun _ => True) (fun _ => trivial) (fs := _) Tryz.underlying23 Tryz.underlying65 (by kernel_rfl) (by kernel_rfl) (fun j f hj => by
      match j, hj with
      | 0, hj => cases hj; exact Tryz.underlying3
      | 1, hj => cases hj; exact Tryz.underlying3
      | 2, hj => cases hj; exact Tryz.underlying3) t1
    refine ⟨⟨n0, C 0, C 1, C 2, n1, D 0, D 1, D 2⟩, agg_rel hsz fun j d u hd hu => ?_⟩
    match j, hd with
    | 0, hd => cases hd; rw [e0] at hu; cases hu; exact r0
    | 1, hd => cases hd; rw [e1] at hu; cases hu; exact r1
  obtain ⟨s1, rfl⟩ : ∃ s : ByteArray, v1 = .string s := okWide_string Tryz.underlying9 (hval 1 9 v1 rfl rfl)
  have hc := (texts_c s0 s1).2 (fun _ => True) W #[v0, .string s1] rfl (fun j d v hd hv => by
    match j, hd, hv with
    | 0, hd, hv => cases hd; cases hv; exact rel0
    | 1, hd, hv => cases hd; cases hv; exact .val _) (glob_of_laid hL)
  refine Calls.mono hc fun e W' ⟨v, he, hr, hb⟩ => ?_
  cases hr
  subst he
  exact ⟨_, rfl, post_of_below (pa := p0 ++ (p1 ++ [])) (pv := []) hW' (fun _ _ _ => trodAll_mk1 (shut_bool Tryz.underlying4 _)) (fun sp hs => args_stay laidOut hb (by kernel_rfl) hAk hlt fun x hx => hs x (by simpa using hx)) (fun _ _ => rfl) (by simp) hb
    (ok_one (by kernel_rfl) rfl (okWide_bool_mk Tryz.underlying4 _))⟩
theorem over : Rows.PartsTextsSaid :=
  OpenClaim.holds_of_wide 3 Tryz.f3 rfl rfl rfl rfl rfl rfl rfl ⟨rfl, rfl, rfl, rfl, rfl⟩ rfl rfl rfl rfl rfl (by kernel_rfl) Tryz.func3 (by kernel_rfl)
    (of_decide_eq_true (by kernel_rfl)) (by unfold Func.isWrapper; rw [if_neg (of_decide_eq_false (by kernel_rfl))]; exact ⟨rfl, rfl⟩)
    (fun os started H enc _ => lifted os started H enc)
theorem proved : Rows.PartsTextsCardSaid :=
  Claim7.holds_tied_plain_at .later [] [.data, .data, .data, .data, .sentinel, .sentinel, .pinned] true (true, "9ca1a0df938d4af4fc501225b38e417244b70841cf4518253c314ded53fa942a") true
    over (fun _ h => by cases h) (by kernel_rfl) (fun _ h => by cases h) partsTexts_row_tie rfl ⟨rfl, rfl⟩ (by kernel_rfl) rfl
    (fun f fn hf hfn => by
      obtain rfl : f = 3 := Option.some.inj ((show Tryz.prog.funcNamed "putlog/putloglaw04.PartsTexts" = some 3 by kernel_rfl).symm.trans hf) |>.symm
      obtain rfl : fn = Tryz.f3 := (Option.some.inj (Tryz.func3.symm.trans hfn)).symm
      exact ⟨by kernel_rfl, fun j t ht => by
        rw [Tryz.params3] at ht
        have hm : t ∈ [25, 9] := by simpa using Array.mem_of_getElem? ht
        have hall : ([25, 9].all fun u => !Tryz.prog.wantsStandIn u) = true := by kernel_rfl
        exact (show Tryz.prog.wantsStandIn t = false by simpa using List.all_eq_true.1 hall t hm)⟩)
    (by kernel_rfl)
#print axioms proved
end Go.Proofs.YtmcgfoacmalbjaaGreatDoor.texts
