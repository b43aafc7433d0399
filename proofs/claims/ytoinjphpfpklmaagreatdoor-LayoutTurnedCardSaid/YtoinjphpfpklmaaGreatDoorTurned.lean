/- For every building with a system and every further argument the law LayoutTurned returns true and its arguments read as before; the package variable that it reads is tied to the program's text. No conditions. -/
import Derived.Test.YtoinjphpfpklmaaGreatDoorTie
import Derived.Test.YtoinjphpfpklmaaGreatDoorCards
import Derived.Test.YtoinjphpfpklmaaGreatDoorK71
import Derived.SevenTiedAt
set_option linter.unusedVariables false
set_option linter.unusedSimpArgs false
namespace Go.Proofs.YtoinjphpfpklmaaGreatDoor.turned
open Go.ChangeShapes Go.WideShapes Go.ChangeAt Go.RowKit Go.Abs Go.Joins
theorem own:ownKnob Tryz.prog.godebug=none:=by kernel_rfl
theorem laidOut:laidOutB Tryz.prog=true:=by kernel_rfl
theorem R1 (os:Os) (args:Array Value):laidMetH Tryz.prog Hs ((World.doorLaid Tryz.prog 400 os).forCall (fun _ _=>0) ⟨#[],args,[]⟩).memory:=
 laidMetH_of_parts3 (fuel:=8) (laidMet_of_run' 8 (by kernel_rfl) (by kernel_rfl)) (by kernel_rfl) (by kernel_rfl)
set_option maxRecDepth 100000 in
theorem lifted (os:Os) (started:os.Started) (H:Type) (enc:TypeId×Value->H):
 ReturnsInHanded {} Tryz.checked os 5 .any (fun w args=>(Rows.layoutTurnedSpec.pre enc Tryz.prog Tryz.f5 [] false w args/\laidMetH Tryz.prog Hs w)/\sizedMet enc Tryz.prog Tryz.f5 (OpenSpec.ofChange Rows.layoutTurnedSpec) false w args)
  (Rows.layoutTurnedSpec.post enc Tryz.prog Tryz.f5 false true false false):=by
 refine returnsInHanded_of_change_and (C:=Tryz.checked) (X:=fun w _=>laidMetH Tryz.prog Hs w) (fun _ _ _ hh h=>h.of_heap hh) own started (by kernel_rfl) Tryz.func5
  (ChangeSpec.witness_shaped (enc:=enc) (C:=Tryz.checked) (os:=os) (X:=fun w _=>laidMetH Tryz.prog Hs w) false (World.doorLaid Tryz.prog 400 os) #[.agg #[.string ⟨#[]⟩,.slice none 0 0,.int .i64 0,.slice none 0 0,.slice none 0 0,.slice none 0 0,.slice none 0 0,.int .i64 0,.int .i64 0,.int .i64 0],.int .i64 0,.int .i64 0] 8 rfl (World.shaped_of_RefB (by kernel_rfl) (by kernel_rfl)) (by kernel_rfl) (by kernel_rfl) (by kernel_rfl) (R1 os _)) ?_
 intro W base args ds gs before Wf hW _ _ hL _
 have ud: ∀(j:Nat) t v,Tryz.f5.params[j]? =some t->args[j]? =some v->Value.okWide Tryz.prog W .any base t v:=Wf
 have hW':=hW
 obtain ⟨p,q,hA0,hV,rfl,hfz,qW⟩:=hW
 have hA:DataW.TrodAll enc Tryz.prog W 0 (fun _=>true) true Tryz.f5.params.toList args.toList ds p:=hA0
 have dR: ∀x∈p,x.block<W.heap.size:=fun x hx=>hW'.lt x (aP _ hx)
 have hAk:=hA
 rw [Tryz.params5] at hA ud
 obtain ⟨v0,vs0,d0,ds0,p0,q0,gK,rfl,rfl,h0,r0⟩:=trodAll_cons hA
 obtain ⟨v1,vs1,d1,ds1,p1,q1,rfl,rfl,rfl,h1,r1⟩:=trodAll_cons r0
 obtain ⟨v2,vs2,d2,ds2,p2,q2,rfl,rfl,rfl,h2,r2⟩:=trodAll_cons r1
 obtain ⟨rfl,rfl,rfl⟩:=trodAll_nil r2
 obtain rfl:args= #[v0,v1,v2]:=by cases args;simp_all
 obtain ⟨rfl,rfl⟩:=trodVars_none hV
 clear hA0 Wf
 simp only [List.append_nil] at hW'
 obtain ⟨b,nB,B,nO,O,X,G,L,rel0⟩:=Qo (ud 0 31 v0 rfl rfl) h0
 obtain ⟨z1,rfl⟩: ∃z,v1= .int .i64 z:=by
  obtain ⟨z,hz⟩:=okWide_int Tryz.underlying3 (ud 1 3 v1 rfl rfl)
  exact ⟨z,hz⟩
 obtain ⟨z2,rfl⟩: ∃z,v2= .int .i64 z:=by
  obtain ⟨z,hz⟩:=okWide_int Tryz.underlying3 (ud 2 3 v2 rfl rfl)
  exact ⟨z,hz⟩
 have hc:=(Ck b nB B nO O X G L z1 z2).2 (fun _=>True) W #[v0,.int .i64 z1,.int .i64 z2] rfl (fun j d v hd hv=>by
  match j,hd,hv with
  |0,hd,hv=>cases hd;cases hv;exact rel0
  |1,hd,hv=>cases hd;cases hv;exact .val _
  |2,hd,hv=>cases hd;cases hv;exact .val _) (Fk hL)
 refine Calls.mono hc fun e W' ⟨v,he,hr,hb⟩=> ?_
 cases hr
 subst he
 exact ⟨_,rfl,Cf (pa:=p0++(p1++(p2++[]))) (pv:=[]) hW' (fun _ _ _=>trodAll_mk1 (shut_bool Tryz.underlying4 _)) (fun sp hs=>Eo laidOut hb (by kernel_rfl) hAk dR fun x hx=>hs x (by simpa using hx)) (fun _ _=>rfl) (by simp) hb
  (ok_one (by kernel_rfl) rfl (okWide_bool_mk Tryz.underlying4 _))⟩
theorem over:Rows.LayoutTurnedSaid:=
 OpenClaim.holds_of_wide 5 Tryz.f5 rfl rfl rfl rfl rfl rfl rfl ⟨rfl,rfl,rfl,rfl,rfl⟩ rfl rfl rfl rfl rfl (by kernel_rfl) Tryz.func5 (by kernel_rfl)
  (of_decide_eq_true (by kernel_rfl)) (by unfold Func.isWrapper;rw [ab (of_decide_eq_false (by kernel_rfl))];exact ⟨rfl,rfl⟩)
  (fun os started H enc _=>lifted os started H enc)
theorem proved:Rows.LayoutTurnedCardSaid:=
 Claim7.holds_tied_plain_at .later [] [.data] true (true, "7a6432057ff91c4ff75eaa129e458eb4eeabbdeb62f38c8e3e275ceeba956eea") false
  over (fun _ h=>by cases h) (by kernel_rfl) (fun _ h=>by cases h) layoutTurned_row_tie rfl ⟨rfl,rfl⟩ (by kernel_rfl) rfl
  (fun f fn hf S4=>by
    obtain rfl:f=5:=bc ((show Tryz.prog.funcNamed "putlog/putloglaw03.LayoutTurned" =some 5 by kernel_rfl).symm.trans hf) |>.symm
    obtain rfl:fn=Tryz.f5:=(bc (Tryz.func5.symm.trans S4)).symm
    exact ⟨by kernel_rfl,fun j t ht=>by
     rw [Tryz.params5] at ht
     have hm:t∈[31,3,3]:=by simpa using cz ht
     have fp:([31,3,3].all fun u=> !Tryz.prog.wantsStandIn u)=true:=by kernel_rfl
     exact (show Tryz.prog.wantsStandIn t=false by simpa using b9.1 fp t hm)⟩)
  (by kernel_rfl)
#print axioms proved
end Go.Proofs.YtoinjphpfpklmaaGreatDoor.turned
