/- For every building with a system and every further argument the law TopRunsClose returns true and its arguments read as before; the package variable that it reads is tied to the program's text. No conditions. -/
import Derived.Test.YtoinjphpfpklmaaGreatDoorTie
import Derived.Test.YtoinjphpfpklmaaGreatDoorCards
import Derived.Test.YtoinjphpfpklmaaGreatDoorK76
import Derived.SevenTiedAt
set_option linter.unusedVariables false
set_option linter.unusedSimpArgs false
namespace Go.Proofs.YtoinjphpfpklmaaGreatDoor.close
open Go.ChangeShapes Go.WideShapes Go.ChangeAt Go.RowKit Go.Abs Go.Joins
theorem own:ownKnob Tryz.prog.godebug=none:=by kernel_rfl
theorem laidOut:laidOutB Tryz.prog=true:=by kernel_rfl
theorem Rz (os:Os) (args:Array Value):laidMetH Tryz.prog Hp ((World.doorLaid Tryz.prog 400 os).forCall (fun _ _=>0) ⟨#[],args,[]⟩).memory:=
 laidMetH_of_parts3 (fuel:=8) (laidMet_of_run' 8 (by kernel_rfl) (by kernel_rfl)) (by kernel_rfl) (by kernel_rfl)
set_option maxRecDepth 100000 in
theorem lifted (os:Os) (started:os.Started) (H:Type) (enc:TypeId×Value->H):
 ReturnsInHanded {} Tryz.checked os 3 .any (fun w args=>(Rows.topRunsCloseSpec.pre enc Tryz.prog Tryz.f3 [] false w args/\laidMetH Tryz.prog Hp w)/\sizedMet enc Tryz.prog Tryz.f3 (OpenSpec.ofChange Rows.topRunsCloseSpec) false w args)
  (Rows.topRunsCloseSpec.post enc Tryz.prog Tryz.f3 false true false false):=by
 refine returnsInHanded_of_change_and (C:=Tryz.checked) (X:=fun w _=>laidMetH Tryz.prog Hp w) (fun _ _ _ hh h=>h.of_heap hh) own started (by kernel_rfl) Tryz.func3
  (ChangeSpec.witness_shaped (enc:=enc) (C:=Tryz.checked) (os:=os) (X:=fun w _=>laidMetH Tryz.prog Hp w) false (World.doorLaid Tryz.prog 400 os) #[.agg #[.string ⟨#[]⟩,.slice none 0 0,.int .i64 0,.slice none 0 0,.slice none 0 0,.slice none 0 0,.slice none 0 0,.int .i64 0,.int .i64 0,.int .i64 0]] 8 rfl (World.shaped_of_RefB (by kernel_rfl) (by kernel_rfl)) (by kernel_rfl) (by kernel_rfl) (by kernel_rfl) (Rz os _)) ?_
 intro W base args ds gs before VO hW _ _ hL _
 have Nh: ∀(j:Nat) t v,Tryz.f3.params[j]? =some t->args[j]? =some v->Value.okWide Tryz.prog W .any base t v:=VO
 have hW':=hW
 obtain ⟨p,q,hA0,hV,rfl,hfz,vC⟩:=hW
 have hA:DataW.TrodAll enc Tryz.prog W 0 (fun _=>true) true Tryz.f3.params.toList args.toList ds p:=hA0
 have dK: ∀x∈p,x.block<W.heap.size:=fun x hx=>hW'.lt x (aR _ hx)
 have hAk:=hA
 rw [Tryz.params3] at hA Nh
 obtain ⟨v0,vs0,d0,ds0,p0,q0,iK,rfl,rfl,h0,r0⟩:=trodAll_cons hA
 obtain ⟨rfl,rfl,rfl⟩:=trodAll_nil r0
 obtain rfl:args= #[v0]:=by cases args;simp_all
 obtain ⟨rfl,rfl⟩:=trodVars_none hV
 clear hA0 VO
 simp only [List.append_nil] at hW'
 obtain ⟨b,nB,B,nO,O,X,G,L,rel0⟩:=PR (Nh 0 31 v0 rfl rfl) h0
 have hc:=(BM b nB B nO O X G L ).2 (fun _=>True) W #[v0] rfl (fun j d v hd hv=>by
  match j,hd,hv with
  |0,hd,hv=>cases hd;cases hv;exact rel0) (E5 hL)
 refine Calls.mono hc fun e W' ⟨v,he,hr,hb⟩=> ?_
 cases hr
 subst he
 exact ⟨_,rfl,BO (pa:=p0++[]) (pv:=[]) hW' (fun _ _ _=>trodAll_mk1 (shut_bool Tryz.underlying4 _)) (fun sp hs=>D2 laidOut hb (by kernel_rfl) hAk dK fun x hx=>hs x (by simpa using hx)) (fun _ _=>rfl) (by simp) hb
  (ok_one (by kernel_rfl) rfl (okWide_bool_mk Tryz.underlying4 _))⟩
theorem over:Rows.TopRunsCloseSaid:=
 OpenClaim.holds_of_wide 3 Tryz.f3 rfl rfl rfl rfl rfl rfl rfl ⟨rfl,rfl,rfl,rfl,rfl⟩ rfl rfl rfl rfl rfl (by kernel_rfl) Tryz.func3 (by kernel_rfl)
  (of_decide_eq_true (by kernel_rfl)) (by unfold Func.isWrapper;rw [ae (of_decide_eq_false (by kernel_rfl))];exact ⟨rfl,rfl⟩)
  (fun os started H enc _=>lifted os started H enc)
theorem proved:Rows.TopRunsCloseCardSaid:=
 Claim7.holds_tied_plain_at .later [] [.data] true (true, "7a6432057ff91c4ff75eaa129e458eb4eeabbdeb62f38c8e3e275ceeba956eea") false
  over (fun _ h=>by cases h) (by kernel_rfl) (fun _ h=>by cases h) topRunsClose_row_tie rfl ⟨rfl,rfl⟩ (by kernel_rfl) rfl
  (fun f fn hf VW=>by
    obtain rfl:f=3:=bF ((show Tryz.prog.funcNamed "putlog/putlogtop.TopRunsClose" =some 3 by kernel_rfl).symm.trans hf) |>.symm
    obtain rfl:fn=Tryz.f3:=(bF (Tryz.func3.symm.trans VW)).symm
    exact ⟨by kernel_rfl,fun j t ht=>by
     rw [Tryz.params3] at ht
     have hm:t∈[31]:=by simpa using b9 ht
     have fh:([31].all fun u=> !Tryz.prog.wantsStandIn u)=true:=by kernel_rfl
     exact (show Tryz.prog.wantsStandIn t=false by simpa using bV.1 fh t hm)⟩)
  (by kernel_rfl)
#print axioms proved
end Go.Proofs.YtoinjphpfpklmaaGreatDoor.close
