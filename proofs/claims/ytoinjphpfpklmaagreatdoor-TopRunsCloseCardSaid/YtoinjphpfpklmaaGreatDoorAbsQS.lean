/- Contracts and what they stand on. -/
import Derived.Test.YtoinjphpfpklmaaGreatDoorAbsS
set_option linter.unusedVariables false
set_option linter.unusedSimpArgs false
section
namespace Go.Abs
open Go.RowKit
def rdF (F:Nat->Prop) (w:World):Rd:=fun a u=>BC w a u/\F a.block
def EL (F:Nat->Prop) (A B:World):Nat->Prop:=fun k=>F k\/(A.heap.size<=k/\k<B.heap.size)
def nN (F:Nat->Prop) (A B:World):Prop:=A.heap.size<=B.heap.size/\ ∀k,F k->k<A.heap.size/\B.heap[k]? =A.heap[k]?
def Wd (P:Program) (m:Nat) (gf:FuncId) (vs:Array Value) (N:Nat) (enc:Nat->List Value) (F0:Nat->Prop) (W0:World):Prop:=
 ∀(l:Nat) (J:Nat->(Nat->Prop)->World->Prop) (Jx:World->Prop),(∀x F A B,J x F A->Below A.heap.size A B->J x (EL F A B) B)->(∀A B,Jx A->Below A.heap.size A B->Jx B)->
  (∀x F W1,J x F W1->x<N->YieldAt Fence.wide (m - 1) P l (enc x).toArray W1 fun e W'=>(e= .returned (.bool true)/\J (x+1) F W'/\nN F W1 W')\/(e= .returned (.bool false)/\Jx W'/\nN F W1 W'))->
  J 0 F0 W0->CallsIn Fence.wide m P gf (vs++ #[.func (.yield l) #[] #[]]) W0 fun e W'=>(∃v,e= .returned v)/\((∃F,J N F W')\/Jx W')
def SeqB (P:Program) (gf:FuncId) (fs:List DV) (N:Nat) (enc:Nat->List Value):Prop:=
 gC P gf/\ ∀(m:Nat) (vs:Array Value) (F0:Nat->Prop) (W0:World),vs.size=fs.length->(∀(j:Nat) (d:DV) (v:Value),fs[j]? =some d->vs[j]? =some v->du (rdF F0 W0) d v)->ju (rdF F0 W0)->Wd P m gf vs N enc F0 W0
def postB (B:Nat) (I:Nat->(Nat->Prop)->World->Prop) (Ix:Code->World->Prop) (x:Nat) (F:Nat->Prop) (W:World):Exit->Act->World->Prop
 |.normal,_,W'=>KeepsFrom B W W'/\I (x+1) F W'/\nN F W W'
 |.ret,_,W'=>KeepsFrom B W W'/\Ix .ret W'/\nN F W W'
 |.exit id,_,W'=>KeepsFrom B W W'/\Ix (.exit id) W'/\nN F W W'
 |.goto t,_,W'=>KeepsFrom B W W'/\Ix (.goto t) W'/\nN F W W'
 |_,_,_=>False
theorem Gs {P:Program} {n:Nat} {g:Operand} {ps:Array Tmp} {assign body:Code} {Q:Exit->Act->World->Prop} {a:Act} {w:World}
 (h1:1<=n) {gf:Nat} {vs:Array Value} (hg:a.eval g= .func (.func gf) vs #[]) (eg: ∀args w,(callFunc gf args).run P w= .ok (.enter gf args) w)
 {N:Nat} {enc:Nat->List Value} {F0:Nat->Prop} (hF0: ∀k,F0 k->k<w.heap.size) (AD: ∀W,Below w.heap.size w W->Wd P (n - 1) gf vs N enc F0 W) (DC: ∀x,x<N->(enc x).length=ps.size)
 (I:Nat->(Nat->Prop)->World->Prop) (Ix:Code->World->Prop)
 (hIF: ∀x F W,I x F W->w.heap.size<=W.heap.size/\ ∀k,F k->k<W.heap.size)
 (hI: ∀x F A B,I x F A->Below A.heap.size A B->I x (EL F A B) B)
 (hIp: ∀x F W l st Pk,I x F W->w.heap.size<=l-> ¬F l->W.heap[l]? =some (.loop st)->I x F (W.putObj l (.loop Pk)))
 (hIx: ∀c A B,Ix c A->Below A.heap.size A B->Ix c B)
 (Ul: ∀c W l st Pk,Ix c W->w.heap.size<=l->W.heap[l]? =some (.loop st)->Ix c (W.putObj l (.loop Pk)))
 (h0: ∀W,Below w.heap.size w W->I 0 F0 W) (Mid:Nat->(Nat->Prop)->Act->World->Prop)
 (Uj: ∀(l x:Nat) (F:Nat->Prop) (W:World),I x F W->x<N->
   assign.wpIn (FW (some l)) (n - 1 - 1) P (Exit.then (fun a' W'=>KeepsFrom w.heap.size W W'/\nN F W W'/\Mid x F a' W') (fun _ _ _=>False)) { tmps:=(ps.zip (enc x).toArray).foldl (fun t (p,v)=>t.setIfInBounds p v) a.tmps,defers:=[] } W)
 (hMp: ∀x F a' W l st Pk,Mid x F a' W->w.heap.size<=l-> ¬F l->W.heap[l]? =some (.loop st)->Mid x F a' (W.putObj l (.loop Pk)))
 (HE: ∀(l x:Nat) (F:Nat->Prop) (a':Act) (W:World),Mid x F a' W->x<N->body.wpIn (FW (some l)) (n - 1 - 1) P (postB w.heap.size I Ix x F W) a' W)
 (hdone: ∀(D:Nat) (F:Nat->Prop) (W:World),w.heap.size<=D->I N F W->W.heap[D]? =some (.deferred (some []))->Q .normal { a with defers:={ target:= .collected D,args:= #[] }::a.defers } W)
 (hstop: ∀(D:Nat) (c:Code) (W:World),w.heap.size<=D->Ix c W->W.heap[D]? =some (.deferred (some []))->c.wpIn (FW none) n P Q { a with defers:={ target:= .collected D,args:= #[] }::a.defers } W):
 (Code.rangeFunc g ps assign body).wpIn (FW none) n P Q a w:=by
 refine wpIn_rangeFunc fun fn VW=> ?_
 obtain ⟨rec,BZ⟩: ∃rec:LoopState->Option Code->Loop,rec=fun st pe=>{ state:=st,pending:=pe,fn,tmps:=a.tmps,params:=ps,assign,body,defers:=w.heap.size }:=⟨_,rfl⟩
 obtain ⟨W1,hW1⟩: ∃W1,(w.alloc (.deferred (some []))).alloc (.loop (rec .ready none))=W1:=⟨_,rfl⟩
 have fq:W1.heap.size=w.heap.size+2:=by rw [<-hW1];simp
 have hL1:W1.heap[w.heap.size+1]? =some (.loop (rec .ready none)):=by
  rw [<-hW1];have:=World.alloc_heap_new (w.alloc (.deferred (some []))) (.loop (rec .ready none));rwa [World.size_alloc] at this
 have hK1:W1.heap[w.heap.size]? =some (.deferred (some [])):=by
  rw [<-hW1];exact (Below.heap_alloc _ _ _ (by simp)).trans (World.alloc_heap_new w _)
 have qx:Below w.heap.size w W1:=by
  rw [<-hW1];exact ((Below.refl _ w).alloc (af _) _).trans (((Below.refl _ _).alloc (af _) _).mono (by simp))
 refine ⟨w.heap.size+1,[{ target:= .collected w.heap.size,args:= #[] }],W1,{ target:= .fn (.func gf) #[],args:=vs++ #[.func (.yield (w.heap.size+1)) #[] #[]] },W1,gf,
  vs++ #[.func (.yield (w.heap.size+1)) #[] #[]],W1,?_,?_,fun f' lT=>trivial,?_,fun _=>h1,?_⟩
 ·rw [<-hW1,BZ];exact run_enterLoop_outer _ _ _ _ _
 ·simp only [resolve,hg]
  simp [go_sem]
 ·simp [invoke,go_sem,eg]
 have nF: ∀{F:Nat->Prop} {A B:World},(¬F (w.heap.size+1)/\ ¬F w.heap.size)->w.heap.size+1<A.heap.size->(¬EL F A B (w.heap.size+1)/\ ¬EL F A B w.heap.size):=fun h hs=>⟨fun h'=>h'.elim h.1 fun h'=>by omega,fun h'=>h'.elim h.2 fun h'=>by omega⟩
 refine (AD W1 qx (w.heap.size+1)
  (fun x F W=>I x F W/\W.heap[w.heap.size+1]? =some (.loop (rec .ready none))/\W.heap[w.heap.size]? =some (.deferred (some []))/\(¬F (w.heap.size+1)/\ ¬F w.heap.size))
  (fun W=> ∃c,Ix c W/\W.heap[w.heap.size+1]? =some (.loop (rec .done (some c)))/\W.heap[w.heap.size]? =some (.deferred (some [])))
  (fun x F A B ⟨hi,hl,hk,hn⟩ hb=>⟨hI x F A B hi hb,(hb.block _ (dY hl)).trans hl,(hb.block _ (dY hk)).trans hk,nF hn (dY hl)⟩)
  (fun A B ⟨c,hc,hl,hk⟩ hb=>⟨c,hIx c A B hc hb,(hb.block _ (dY hl)).trans hl,(hb.block _ (dY hk)).trans hk⟩)
  ?_ ⟨h0 W1 qx,hL1,hK1,fun h=>by have:=hF0 _ h;omega,fun h=>by have:=hF0 _ h;omega⟩).mono ?_
 ·rintro x F W ⟨hi,hl,hk,hn⟩ dK
  have hlW:=dY hl
  have hy:=run_yield (P:=P) (args:=(enc x).toArray) hl (by rw [BZ];simpa using DC x dK)
  rw [BZ] at hy
  refine ⟨fn,_,assign,body,hy,roundIn_of_wpIn VW (wpIn_mono (Uj (w.heap.size+1) x F W hi dK) ?_)⟩
  rintro e a1 V hq
  cases e with
  |normal=> ?_
  |_=>exact hq.elim
  obtain ⟨wJ,Nq,YN⟩:=hq
  have hlV:=wJ.same _ _ (by omega) hl rfl
  have hkV:=wJ.same _ _ (af _) hk rfl
  refine ⟨_,run_beginRound hlV (by rw [BZ]),?_⟩
  have yE:(V.putObj (w.heap.size+1) (.loop { rec .ready none with state:= .busy })).heap[w.heap.size+1]? =some (.loop { rec .ready none with state:= .busy }):=World.putObj_heap_same (dY hlV)
  have qz:(V.putObj (w.heap.size+1) (.loop { rec .ready none with state:= .busy })).heap[w.heap.size]? =some (.deferred (some [])):=(World.putObj_heap_other (by omega)).trans hkV
  have put: ∀(V:World) (st:Loop),nN F V (V.putObj (w.heap.size+1) (.loop st))\/ ¬ ∀k,F k->k<V.heap.size:=fun V st=>by
   by_cases h: ∀k,F k->k<V.heap.size
   ·exact .inl ⟨(grownBy_putObj' V _ _).size,fun k hk=>⟨h k hk,World.putObj_heap_other (fun e=>hn.1 (e▸hk))⟩⟩
   ·exact .inr h
  have kt: ∀{A B C:World},nN F A B->nN F B C->nN F A C:=fun h k=>⟨aV h.1 k.1,fun i hi=>⟨(h.2 i hi).1,(k.2 i hi).2.trans (h.2 i hi).2⟩⟩
  have kp: ∀{V:World} {y:Nat} (st:Loop),I y F V->nN F V (V.putObj (w.heap.size+1) (.loop st)):=fun {V y} st h=>(put V st).resolve_right (fun h'=>h' (hIF _ _ _ h).2)
  have Nq:nN F W (V.putObj (w.heap.size+1) (.loop { rec .ready none with state:= .busy })):=kt Nq ((put V _).resolve_right fun h'=>h' fun k hk=>bz (Nq.2 k hk).1 Nq.1)
  refine wpIn_mono (HE (w.heap.size+1) x F a1 _ (hMp _ _ _ _ _ _ { rec .ready none with state:= .busy } YN (by omega) hn.1 hlV) dK) ?_
  have fin: ∀(jump:Option Code) (W3:World),KeepsFrom w.heap.size (V.putObj (w.heap.size+1) (.loop { rec .ready none with state:= .busy })) W3->
   (Instr.endRound (w.heap.size+1) jump).run P W3= .ok (.bool jump.isNone) (W3.putObj (w.heap.size+1) (.loop (rec (if jump.isNone then .ready else .done) jump)))/\
   W3.heap[w.heap.size+1]? =some (.loop { rec .ready none with state:= .busy })/\
   (W3.putObj (w.heap.size+1) (.loop (rec (if jump.isNone then .ready else .done) jump))).heap[w.heap.size+1]? =some (.loop (rec (if jump.isNone then .ready else .done) jump))/\
   (W3.putObj (w.heap.size+1) (.loop (rec (if jump.isNone then .ready else .done) jump))).heap[w.heap.size]? =some (.deferred (some [])):=fun jump W3 Gj=>by
   have Om:=Gj.same _ _ (by omega) yE rfl
   have:=run_endRound (P:=P) jump Om
   rw [BZ] at this ⊢
   exact ⟨this,by rw [BZ] at Om;exact Om,World.putObj_heap_same (dY Om),(World.putObj_heap_other (by omega)).trans (Gj.same _ _ (af _) qz rfl)⟩
  rintro e a3 W3 hp
  cases e with
  |normal=>
   obtain ⟨Gj,VS,Np⟩:=hp
   obtain ⟨hr,Om,YR,YT⟩:=fin none W3 Gj
   exact ⟨_,_,hr,.inl ⟨rfl,⟨hIp _ _ _ _ _ _ VS (by omega) hn.1 Om,YR,YT,hn⟩,kt Nq (kt Np (kp _ VS))⟩⟩
  |ret=>
   obtain ⟨Gj,VS,Np⟩:=hp
   obtain ⟨hr,Om,YR,YT⟩:=fin (some .ret) W3 Gj
   exact ⟨_,_,hr,.inr ⟨rfl,⟨.ret,Ul _ _ _ _ _ VS (by omega) Om,YR,YT⟩,kt Nq (kt Np ((put W3 _).resolve_right fun h'=>h' fun k hk=>bz ((Np.2 k hk).1) Np.1))⟩⟩
  |exit id=>
   obtain ⟨Gj,VS,Np⟩:=hp
   obtain ⟨hr,Om,YR,YT⟩:=fin (some (.exit id)) W3 Gj
   exact ⟨_,_,hr,.inr ⟨rfl,⟨.exit id,Ul _ _ _ _ _ VS (by omega) Om,YR,YT⟩,kt Nq (kt Np ((put W3 _).resolve_right fun h'=>h' fun k hk=>bz ((Np.2 k hk).1) Np.1))⟩⟩
  |goto t=>
   obtain ⟨Gj,VS,Np⟩:=hp
   obtain ⟨hr,Om,YR,YT⟩:=fin (some (.goto t)) W3 Gj
   exact ⟨_,_,hr,.inr ⟨rfl,⟨.goto t,Ul _ _ _ _ _ VS (by omega) Om,YR,YT⟩,kt Nq (kt Np ((put W3 _).resolve_right fun h'=>h' fun k hk=>bz ((Np.2 k hk).1) Np.1))⟩⟩
  |panic ch=>exact hp.elim
  |outgrown=>exact hp.elim
 ·rintro e W2 ⟨⟨v,rfl⟩,(⟨F,hi,hl,hk,hn⟩|⟨c,hi,hl,hk⟩)⟩
  ·exact ⟨none,_,by have:=run_endLoop (P:=P) hl (by rw [BZ];simp);rw [BZ] at this;exact this,hdone _ _ _ (af _) (hIp _ _ _ _ _ _ hi (by omega) hn.1 hl) ((World.putObj_heap_other (by omega)).trans hk)⟩
  ·exact ⟨some c,_,by have:=run_endLoop (P:=P) hl (by rw [BZ];simp);rw [BZ] at this;exact this,hstop _ c _ (af _) (Ul _ _ _ _ _ hi (by omega) hl) ((World.putObj_heap_other (by omega)).trans hk)⟩
end Go.Abs
end
section
namespace Go.Abs
open Go.RowKit
def yG (σ:St) (t j:Nat):St×List Prop:=match σ.get t with
 |.ptr id _=>match σ.obj id with
  |some (.box cs)=>match cs[j]? with
   |some d=>match mP σ.obj d with
    |some (e,vc)=>({ σ with h:=(id,some (.box (cs.set j e)))::(dV [d]++σ.h) },vc)
    |none=>(σ,[])
   |none=>(σ,[])
  |_=>(σ,[])
 |_=>(σ,[])
def AL (σ:St):List (Nat×Nat)->St×List Prop
 |[]=>(σ,[])
 |(t,j)::r=>match yG σ t j with
  |(σ',vc)=>match AL σ' r with
   |(σ2,XP)=>(σ2,vc++XP)
section
variable {base:Nat} {w0 w:World} {S0:Env} {σ:St} {kn:Nat->Prop} {c9:Nat->Option Loc} {a:Act}
theorem Hk {id:Nat} {cs:List DV} (gR:σ.obj id=some (.box cs)) {d:DV} {p:DV×List Prop} (h:mP σ.obj d=some p):id∉gu d:=by
 intro hi
 cases d with
 |row s i off len=>
  obtain rfl:=au.1 hi
  simp only [mP,gR] at h;cases h
 |pB i=>
  obtain rfl:=au.1 hi
  simp only [mP,gR] at h;cases h
 |_=>simp [gu] at hi
theorem R.yG (r:R base w0 S0 σ kn c9 a w) (t j:Nat) (dg:dp (yG σ t j).2): ∃dk,R base w0 S0 (yG σ t j).1 kn dk a w:=by
 unfold Abs.yG at dg ⊢
 split
 ·rename_i id o ht
  split
  ·rename_i cs gR
   split
   ·rename_i d hj
    split
    ·rename_i e vc hle
     have dg:dp vc:=by
      simp only [ht,gR,hj,hle] at dg
      exact dg
     have hnb:=Hk gR hle
     obtain ⟨dk,r',kN,mV⟩:=r.dV [d] (fun d' i v hd hi=>by
      obtain rfl:=au.1 hd
      exact zb r hle i v hi)
     have YK:St.obj { σ with h:=Abs.dV [d]++σ.h } id=some (.box cs):=by
      unfold St.obj
      simp only [sf]
      rw [ae (fun h=>by
       obtain ⟨d',hd,hi⟩:=oC.1 h
       obtain rfl:=au.1 hd
       exact hnb hi)]
      exact gR
     obtain ⟨hk,g0,C,cv,T,hl,hh,fq,eZ,jR⟩:=r'.fg _ _ YK
     have HC:=kN _ _ hl
     obtain ⟨g1,C1,cv1,T1,hl1,hh1,_,tI,_⟩:=(r.fg _ _ gR).2
     rw [HC] at hl1
     cases hl1
     rw [hh] at hh1
     cases hh1
     have eP: ∀ad u,df w base S0 c9 ad u->df w base S0 dk ad u:=fun ad u ⟨x,y,z,q⟩=>⟨x,fun id l e=>y id l (kN _ _ e),z,q⟩
     have gQ: ∀m l g,m∈gu d->c9 m=some l->l.has g-> ∀ad u,ad.block=g->BC w ad u->df w base S0 dk ad u:=fun m l g' hm lg hg ad u e hu=>⟨hu,fun kG l' e' om=>(by
      have e3:=kN _ _ e'
      rw [e] at om
      have:=r.inj _ _ _ _ _ e3 lg om hg
      rw [this,mV d m ay hm] at e'
      cases e'),e▸oG r lg hg,e▸sb r lg hg⟩
     refine ⟨dk,r'.Vb hl rfl rfl rfl rfl (fun _ _=>rfl) fun _ _=>⟨g0,C,cv,T,rfl,hh,by rw [fq,List.length_set],fun k d' u hd hu=> ?_,jR⟩⟩
     rw [List.getElem?_set] at hd
     split at hd
     ·rename_i hjk
      subst hjk
      split at hd
      ·cases hd
       exact ew (vl r eP gQ hle dg (tI j _ u hj hu)).1
      ·cases hd
     ·exact eZ k d' u hd hu
    ·exact ⟨c9,r⟩
   ·exact ⟨c9,r⟩
  ·exact ⟨c9,r⟩
 ·exact ⟨c9,r⟩
theorem Uq (t j:Nat):(yG σ t j).1.nx=σ.nx:=by
 unfold yG
 repeat' split
 all_goals rfl
theorem Fits.yG (h:Fits base w0 S0 σ a w) (t j:Nat) (dg:dp (yG σ t j).2):Fits base w0 S0 (Abs.yG σ t j).1 a w:=by
 obtain ⟨kn,c9,r,hn⟩:=h
 obtain ⟨dk,r'⟩:=r.yG t j dg
 exact ⟨kn,dk,r',fun i hi=>by rw [Uq];exact hn i hi⟩
theorem Fits.AL: ∀(l:List (Nat×Nat)) {σ:St},Fits base w0 S0 σ a w->dp (AL σ l).2->Fits base w0 S0 (Abs.AL σ l).1 a w
 |[],_,h,_=>h
 |(t,j)::r,σ,h,dg=>by
  simp only [Abs.AL] at dg ⊢
  obtain ⟨h1,h2⟩:=dp.app dg
  exact Fits.AL r (h.yG t j h1) h2
end
end Go.Abs
end
section
namespace Go.Abs
open Go.RowKit
def Lq (b:Bool) (g:j9):j9:={ tr:=g.tr,tw:=g.tw,hr:=bif b then [] else g.hr,hw:=g.hw }
def lD (x:Nat) (f:j9) (b:Nat):List j9->Nat->Bool
 |[],_=>true
 |g::r,i=>bif meets (Lq (Nat.beq i x) g) f then (bif b.testBit i then lD x f b r (i+1) else false) else lD x f b r (i+1)
def lE (k0 j0:Nat) (rX:List Nat) (fs:List j9):List Oper->List j9->Nat->Bool
 |o::r,f::q,j=>lD (bif Nat.beq j j0 then k0 else fs.length) f (rX.getD j 0) (fs.take j) 0&&(lJ rX o (rX.getD j 0) fs.length&&(pQ j o.after.toList&&lE k0 j0 rX fs r q (j+1)))
 |[],[],_=>true
 |_,_,_=>false
theorem sQ {x:Nat} {f:j9} {b:Nat}: ∀{l:List j9} {i0:Nat},lD x f b l i0=true-> ∀(i:Nat) (g:j9),l[i]? =some g->meets (Lq (Nat.beq (i0+i) x) g) f=true->b.testBit (i0+i)=true
 |[],_,_,i,g,h,_=>by simp at h
 |g'::r,i0,j7,0,g,h,hm=>by
  simp only [aP,aa] at h
  subst h
  rw [bU] at hm
  simp only [lD,hm,aq] at j7
  cases hb:b.testBit i0 with
  |true=>simp
  |false=>simp [hb] at j7
 |g'::r,i0,j7,i+1,g,h,hm=>by
  simp only [aK] at h
  have hr:lD x f b r (i0+1)=true:=by
   simp only [lD] at j7
   cases Sp:meets (Lq (Nat.beq i0 x) g') f with
   |false=>simpa [Sp] using j7
   |true=>
    simp only [Sp,aq] at j7
    cases hb:b.testBit i0 with
    |true=>simpa [hb] using j7
    |false=>simp [hb] at j7
  have:=sQ hr i g h (by rw [show i0+1+i=i0+(i+1) by omega];exact hm)
  rwa [show i0+1+i=i0+(i+1) by omega] at this
theorem oe {k0 j0:Nat} {rX:List Nat} {fs:List j9}: ∀{l:List Oper} {q:List j9} {Z8:Nat},lE k0 j0 rX fs l q Z8=true-> ∀(j:Nat) (o:Oper) (f:j9),l[j]? =some o->q[j]? =some f->
 lD (bif Nat.beq (Z8+j) j0 then k0 else fs.length) f (rX.getD (Z8+j) 0) (fs.take (Z8+j)) 0=true/\lJ rX o (rX.getD (Z8+j) 0) fs.length=true/\pQ (Z8+j) o.after.toList=true
 |[],q,_,_,j,o,f,h,_=>by simp at h
 |o'::r,[],_,_,j,o,f,_,h=>by simp at h
 |o'::r,f'::q,a,j7,0,o,f,h,h'=>by
  simp only [aP,aa] at h h'
  subst h h'
  simp only [lE,av] at j7
  exact ⟨j7.1,j7.2.1,j7.2.2.1⟩
 |o'::r,f'::q,a,j7,j+1,o,f,h,h'=>by
  simp only [aK] at h h'
  simp only [lE,av] at j7
  have:=oe j7.2.2.2 j o f h h'
  rwa [show a+1+j=a+(j+1) by omega] at this
theorem Av {α:Type} (L:Nat->Bool) (v:α): ∀(ws:List (Option α)) (k:Nat) (init:α) (J:Nat),ws[J]? =some (some v)->L (k+J)=true->(∀j u,ws[j]? =some (some u)->J<j->L (k+j)=false)->jD ws L k init=v
 |[],_,_,J,h,_,_=>by simp at h
 |x::r,k,init,0,h,hL,ho=>by
  simp only [aP,aa] at h
  subst h
  rw [bU] at hL
  simp only [jD,hL,uS]
  exact jn _ _ _ _ fun j u hj=>by have:=ho (j+1) u (by simpa using hj) (by omega);rwa [show k+1+j=k+(j+1) by omega]
 |x::r,k,init,J+1,h,hL,ho=>by
  simp only [jD]
  exact Av L v r (k+1) _ J (by simpa using h) (by rwa [show k+1+J=k+(J+1) by omega]) fun j u hj dK=>by
   have:=ho (j+1) u (by simpa using hj) (by omega)
   rwa [show k+1+j=k+(j+1) by omega]
theorem Ai {σ:St} {h:List (Nat×Option fK)}: ∀{l:List Operand},iW { σ with h } l=iW σ l
 |[]=>rfl
 |y::r=>by
  simp only [iW]
  rw [Ai (l:=r)]
  rfl
section
variable {P:Program} {ro:Option Nat} {m:Nat} {ops:Array Oper} {dq:List (Nat×fE)} {base:Nat} {w0:World} {S0:Env} {Q:Exit->Act->World->Prop} {k0 j0:Nat}
structure pX (k0 j0:Nat) (P:Program) (ops:Array Oper) (dq:List (Nat×fE)) (base:Nat) (w0:World) (S0:Env) (Q:Exit->Act->World->Prop) (n0:Nat) (σ:St):Prop where
 vc: ∀(j:Nat) (d:Option Tmp) (e:eW),(trace P ops dq n0 ops.toList 0 σ)[j]? =some (d,e)->kQ σ.nt σ.lo d=true/\dp e.vc
 ord:lE k0 j0 (rU ops.toList []) (kI P ops dq n0 ops.toList 0 σ) ops.toList (kI P ops dq n0 ops.toList 0 σ) 0=true
 lt:k0<j0
 soft: ∀(o:Oper) (d dj:Option Tmp) (e ej:eW),ops.toList[k0]? =some o->(trace P ops dq n0 ops.toList 0 σ)[k0]? =some (d,e)->(trace P ops dq n0 ops.toList 0 σ)[j0]? =some (dj,ej)->
  jl P ops (ma dq k0) (n0+k0) { canon ((trace P ops dq n0 ops.toList 0 σ).take k0) (fun _=>true) 0 σ with h:=ej.hw++(canon ((trace P ops dq n0 ops.toList 0 σ).take k0) (fun _=>true) 0 σ).h } o=e
 fin: ∀kn c9 a w,R base w0 S0 (canon (trace P ops dq n0 ops.toList 0 σ) (fun _=>true) 0 σ) kn c9 a w->(∀i,kn i->i<n0+ops.size)->Q .normal a w
variable {n0:Nat} {σ:St}
theorem pX.down (s:pX k0 j0 P ops dq base w0 S0 Q n0 σ) {j:Nat} {o:Oper} (ho:ops[j]? =some o):(∀e∈o.after.toList,Region.binds .any e=true->e.on<j)/\
 (∀i,i<ops.size->pre ops j i=true-> ∃e∈o.after.toList,Region.binds .any e=true/\(e.on=i\/pre ops e.on i=true)):=by
 have oQ:ops.toList[j]? =some o:=by simpa using ho
 have hj:j<ops.size:=(aJ.1 ho).1
 have hf:(kI P ops dq n0 ops.toList 0 σ)[j]? =some ((kI P ops dq n0 ops.toList 0 σ)[j]'(by rw [lI];simpa using hj)):=ak _
 obtain ⟨_,h2,h3⟩:=oe s.ord j o _ oQ hf
 rw [aE] at h2 h3
 refine ⟨rG h3,fun i hi hp=> ?_⟩
 rw [lI] at h2
 obtain ⟨e,he,hb,h⟩:=pO (ll h2 i (by simpa using hi) hp)
 exact ⟨e,he,hb,h⟩
theorem pX.pair (s:pX k0 j0 P ops dq base w0 S0 Q n0 σ) {i j:Nat} {f g:j9} (L6:i<j) (hf:(kI P ops dq n0 ops.toList 0 σ)[i]? =some f) (hg:(kI P ops dq n0 ops.toList 0 σ)[j]? =some g) (hm:meets (Lq (Nat.beq i (bif Nat.beq j j0 then k0 else (kI P ops dq n0 ops.toList 0 σ).length)) f) g=true):
 pre ops j i=true:=by
 have hj:j<ops.toList.length:=by rw [<-lI (P:=P) (ops:=ops) (dq:=dq) (n0:=n0) ops.toList 0 σ];exact (aj.1 hg).1
 obtain ⟨h1,_,_⟩:=oe s.ord j _ g (ak hj) hg
 rw [aE] at h1
 have:=sQ h1 i f (by rw [bG,ah L6];exact hf) (by rw [aE];exact hm)
 rwa [aE] at this
theorem pX.step (s:pX k0 j0 P ops dq base w0 S0 Q n0 σ) {L:Nat->Bool} (oT: ∀j,j<ops.size->L j=true-> ∀i,i<ops.size->pre ops j i=true->L i=true) {K:Nat} {o:Oper} (ho:ops[K]? =some o) (hK:L K=false)
 (jq: ∀i,i<ops.size->pre ops K i=true->L i=true) {d:Option Tmp} {e:eW} (he:(trace P ops dq n0 ops.toList 0 σ)[K]? =some (d,e)):
 d=o.dst/\jl P ops (ma dq K) (n0+K) (canon (trace P ops dq n0 ops.toList 0 σ) L 0 σ) o=e/\
 (∀t,((canon (trace P ops dq n0 ops.toList 0 σ) L 0 σ).ui d e).get t=(canon (trace P ops dq n0 ops.toList 0 σ) (fun i=>L i||decide (i=K)) 0 σ).get t)/\
 (∀i,((canon (trace P ops dq n0 ops.toList 0 σ) L 0 σ).ui d e).obj i=(canon (trace P ops dq n0 ops.toList 0 σ) (fun i=>L i||decide (i=K)) 0 σ).obj i):=by
 have oQ:ops.toList[K]? =some o:=by simpa using ho
 have Kn:K<ops.size:=(aJ.1 ho).1
 have E0:=mH (P:=P) (ops:=ops) (dq:=dq) (n0:=n0) ops.toList 0 σ K o oQ
 rw [E0] at he
 simp only [aE,aa,aB] at he
 obtain ⟨rfl,he⟩:=he
 have Ug:=oV (P:=P) (ops:=ops) (dq:=dq) (n0:=n0) ops.toList 0 σ K o oQ
 simp only [aE] at Ug E0
 rw [he] at Ug E0
 -- a place that K reads or writes: whoever else writes it is on the right side
 have side: ∀(j:Nat) (dj:Option Tmp) (ej:eW),(trace P ops dq n0 ops.toList 0 σ)[j]? =some (dj,ej)->j≠K->
  ((∃t,dj=some t/\(o.dst=some t\/t∈kA ops o))\/(∃i,i∈ej.hw.map (·.1)/\(i∈e.hw.map (·.1)\/(i∈iW (canon ((trace P ops dq n0 ops.toList 0 σ).take K) (fun _=>true) 0 σ) (mj o.op)/\ ¬(K=k0/\j=j0)))))->
  (j<K->L j=true)/\(K<j->L j=false):=by
  intro j dj ej hj nj hm
  have Ue:j<ops.toList.length:=by
   have:=(aj.1 hj).1
   rwa [gT] at this
  have T6:ops.toList[j]? =some ops.toList[j]:=ak Ue
  have Yz:=mH (P:=P) (ops:=ops) (dq:=dq) (n0:=n0) ops.toList 0 σ j _ T6
  rw [Yz] at hj
  simp only [aE,aa,aB] at hj
  obtain ⟨rfl,hej⟩:=hj
  have B5:=oV (P:=P) (ops:=ops) (dq:=dq) (n0:=n0) ops.toList 0 σ j _ T6
  simp only [aE] at B5
  rw [hej] at B5
  refine ⟨fun dK=> ?_,fun dK=> ?_⟩
  ·refine jq j (by simpa using Ue) (s.pair dK B5 Ug ?_)
   rcases hm with ⟨t,h1,h2⟩|⟨i,h1,h2⟩
   ·exact y8 (t:=t) h1 h2
   ·exact y9 (i:=i) h1 (h2.imp id fun h=>h.1)
  ·have hp:pre ops j K=true:=by
    refine s.pair dK Ug B5 ?_
    rcases hm with ⟨t,h1,h2|h2⟩|⟨i,h1,h2|h2⟩
    ·exact y8 (t:=t) h2 (.inl h1)
    ·exact He (t:=t) h1 h2
    ·exact y9 (i:=i) h2 (.inl h1)
    ·refine Hf (i:=i) h1 ?_
     have hb:Nat.beq K (bif Nat.beq j j0 then k0 else (kI P ops dq n0 ops.toList 0 σ).length)=false:=by
      cases hj:Nat.beq j j0 with
      |true=>
       simp only [aq]
       cases hK0:Nat.beq K k0 with
       |false=>rfl
       |true=>exact absurd ⟨ag hK0,ag hj⟩ h2.2
      |false=>
       simp only [ax]
       cases hK0:Nat.beq K (kI P ops dq n0 ops.toList 0 σ).length with
       |false=>rfl
       |true=>
        have:=ag hK0
        rw [lI] at this
        simp at this
        omega
     rw [hb]
     exact h2.1
   cases hLj:L j with
   |false=>rfl
   |true=>
    have:=oT j (by simpa using Ue) hLj K Kn hp
    rw [hK] at this;cases this
 have LF: ∀t,(o.dst=some t\/t∈kA ops o)->(canon (trace P ops dq n0 ops.toList 0 σ) L 0 σ).get t=(canon ((trace P ops dq n0 ops.toList 0 σ).take K) (fun _=>true) 0 σ).get t:=by
  intro t ht
  rw [iD,iD,List.map_take]
  refine mQ K L hK _ 0 _ (ao _) fun j v hj=> ?_
  rw [aE]
  rw [aw] at hj
  cases hx:(trace P ops dq n0 ops.toList 0 σ)[j]? with
  |none=>simp [hx] at hj
  |some x=>
   obtain ⟨dj,ej⟩:=x
   simp only [hx,aA,aa,tW] at hj
   by_cases QI:j=K
   ·subst QI;exact ⟨fun h=>by omega,fun h=>by omega⟩
   ·split at hj
    ·rename_i hd
     exact side j dj ej hx QI (.inl ⟨t,hd,ht⟩)
    ·cases hj
 have zU: ∀i,(∀ej dj,K=k0->(trace P ops dq n0 ops.toList 0 σ)[j0]? =some (dj,ej)->i∈ej.hw.map (·.1)->L j0=false)->(i∈e.hw.map (·.1)\/i∈iW (canon ((trace P ops dq n0 ops.toList 0 σ).take K) (fun _=>true) 0 σ) (mj o.op))->(canon (trace P ops dq n0 ops.toList 0 σ) L 0 σ).obj i=(canon ((trace P ops dq n0 ops.toList 0 σ).take K) (fun _=>true) 0 σ).obj i:=by
  intro i hcond hi
  rw [gU,gU,List.map_take]
  refine mQ K L hK _ 0 _ (ao _) fun j v hj=> ?_
  rw [aE]
  rw [aw] at hj
  cases hx:(trace P ops dq n0 ops.toList 0 σ)[j]? with
  |none=>simp [hx] at hj
  |some x=>
   obtain ⟨dj,ej⟩:=x
   simp only [hx,aA,aa,hW] at hj
   by_cases QI:j=K
   ·subst QI;exact ⟨fun h=>by omega,fun h=>by omega⟩
   ·by_cases hs:K=k0/\j=j0
    ·obtain ⟨Ni,Oj⟩:=hs
     have dK:=s.lt
     subst Ni Oj
     exact ⟨fun h=>by omega,fun _=>hcond ej dj rfl hx (jP hj)⟩
    ·exact side j dj ej hx QI (.inr ⟨i,jP hj,hi.imp id fun h=>⟨h,hs⟩⟩)
 refine ⟨rfl,?_,fun t=> ?_,fun i=> ?_⟩
 ·by_cases hs:K=k0/\L j0=true/\j0<ops.size
  ·obtain ⟨rfl,hL,hj0⟩:=hs
   have hlen:j0<(trace P ops dq n0 ops.toList 0 σ).length:=by rw [gT];simpa using hj0
   have QB:(trace P ops dq n0 ops.toList 0 σ)[j0]? =some ((trace P ops dq n0 ops.toList 0 σ)[j0].1,(trace P ops dq n0 ops.toList 0 σ)[j0].2):=ak hlen
   have DB:=s.soft o _ _ _ _ oQ E0 QB
   rw [<-DB]
   refine Eq.symm (qX (σ':=canon (trace P ops dq n0 ops.toList 0 σ) L 0 σ) (fun t ht=>(LF t (.inr ht)).symm) (fun i hi=> ?_) ((fm ((trace P ops dq n0 ops.toList 0 σ).take K) (fun _=>true) 0 σ).1.trans (fm _ _ _ _).1.symm) (fun i hi=> ?_))
   rotate_left
   ·rw [DB] at hi
    have hno:i∉(trace P ops dq n0 ops.toList 0 σ)[j0].2.hw.map (·.1):=fun h9=>by
     have dK:=s.lt
     have h8:=(side j0 _ _ QB (by omega) (.inr ⟨i,h9,.inl hi⟩)).2 dK
     rw [hL] at h8;cases h8
    show (match look ((trace P ops dq n0 ops.toList 0 σ)[j0].2.hw++_) i with|some x=>x|none=>none)=_
    rw [nL]
    cases hl:look (trace P ops dq n0 ops.toList 0 σ)[j0].2.hw i with
    |some v=>exact absurd (jP hl) hno
    |none=>
     refine (zU i (fun ej dj _ h1 h2=> ?_) (.inl hi)).symm
     rw [QB] at h1
     simp only [aa,aB] at h1
     obtain ⟨_,rfl⟩:=h1
     exact absurd h2 hno
   rw [Ai] at hi
   show (match look ((trace P ops dq n0 ops.toList 0 σ)[j0].2.hw++_) i with|some x=>x|none=>none)=_
   rw [nL]
   cases hl:look (trace P ops dq n0 ops.toList 0 σ)[j0].2.hw i with
   |none=>
    refine (zU i (fun ej dj _ h1 h2=> ?_) (.inr hi)).symm
    rw [QB] at h1
    simp only [aa,aB] at h1
    obtain ⟨_,rfl⟩:=h1
    exfalso
    have: ∀{l:List (Nat×Option fK)},i∈l.map (·.1)->look l i≠none:=by
     intro l
     induction l with
     |nil=>intro h;cases h
     |cons x r ih=>
      intro h
      rw [dH]
      by_cases e:x.1=i
      ·rw [ah e];simp
      ·rw [ae e]
       exact ih ((aS.1 h).resolve_left fun h=>e h.symm)
    exact this h2 hl
   |some v=>
    refine Eq.symm ?_
    rw [gU]
    refine Av L v _ 0 _ j0 (by rw [aw,QB];simp only [aA,hW,hl]) (by rw [aE];exact hL) fun j u hj dK=> ?_
    rw [aE]
    rw [aw] at hj
    cases hx:(trace P ops dq n0 ops.toList 0 σ)[j]? with
    |none=>simp [hx] at hj
    |some x=>
     obtain ⟨dj,ej⟩:=x
     simp only [hx,aA,aa,hW] at hj
     have xw:=s.lt
     exact (side j dj ej hx (by omega) (.inr ⟨i,jP hj,.inr ⟨hi,fun h=>by omega⟩⟩)).2 (by omega)
  ·rw [<-he]
   exact (qX (fun t ht=>(LF t (.inr ht)).symm) (fun i hi=>(zU i (fun ej dj h1 h2 _=>by
    cases hL:L j0 with
    |false=>rfl
    |true=>
     have:=(aj.1 h2).1
     rw [gT] at this
     exact absurd ⟨h1,hL,by simpa using this⟩ hs) (.inr hi)).symm) ((fm _ _ _ _).1.trans (fm _ _ _ _).1.symm) (fun i hi=>(zU i (fun ej dj h1 h2 _=>by
    cases hL:L j0 with
    |false=>rfl
    |true=>
     have:=(aj.1 h2).1
     rw [gT] at this
     exact absurd ⟨h1,hL,by simpa using this⟩ hs) (.inl (by rw [he] at hi;exact hi))).symm)).symm
 ·rw [St.E6,iD t _ (fun i=>L i||decide (i=K))]
  have Ke:=oM K L ((trace P ops dq n0 ops.toList 0 σ).map (tW t)) 0 (σ.get t) (ao _) (fun v hv j u hj dK=>by
   rw [aE] at dK ⊢
   rw [bM,aw,E0] at hv
   simp only [aA,aa,tW] at hv
   split at hv
   ·rename_i hd
    rw [aw] at hj
    cases hx:(trace P ops dq n0 ops.toList 0 σ)[j]? with
    |none=>simp [hx] at hj
    |some x=>
     obtain ⟨dj,ej⟩:=x
     simp only [hx,aA,aa,tW] at hj
     split at hj
     ·rename_i Y2
      exact (side j dj ej hx (by omega) (.inl ⟨t,Y2,.inl hd⟩)).2 dK
     ·cases hj
   ·cases hv)
  rw [Ke,bM,aw,E0]
  simp only [aA,tW]
  by_cases hd:o.dst=some t
  ·simp [hd]
  ·simp only [hd,cg,iD]
 ·rw [St.EK,gU i _ (fun i=>L i||decide (i=K))]
  have Ke:=oM K L ((trace P ops dq n0 ops.toList 0 σ).map (hW i)) 0 (σ.obj i) (ao _) (fun v hv j u hj dK=>by
   rw [aE] at dK ⊢
   rw [bM,aw,E0] at hv
   simp only [aA,aa,hW] at hv
   rw [aw] at hj
   cases hx:(trace P ops dq n0 ops.toList 0 σ)[j]? with
   |none=>simp [hx] at hj
   |some x=>
    obtain ⟨dj,ej⟩:=x
    simp only [hx,aA,aa,hW] at hj
    exact (side j dj ej hx (by omega) (.inr ⟨i,jP hj,.inl (jP hv)⟩)).2 dK)
  rw [Ke,bM,aw,E0]
  simp only [aA,hW]
  cases hl:look e.hw i with
  |some v=>rfl
  |none=>simp only [gU]
theorem pX.any (s:pX k0 j0 P ops dq base w0 S0 Q n0 σ): ∀(n:Nat) (listed:Array Bool) (kn:Nat->Prop) (c9:Nat->Option Loc) (a:Act) (w:World),listed.size=ops.size->
 (List.range ops.size).countP (fun i=> !listed.getD i true)<=n->
 (∀j,j<ops.size->listed.getD j true=true-> ∀i,i<ops.size->pre ops j i=true->listed.getD i true=true)->
 R base w0 S0 (canon (trace P ops dq n0 ops.toList 0 σ) (fun i=>listed.getD i true) 0 σ) kn c9 a w->(∀i,kn i->i<n0\/ ∃j,j<ops.size/\listed.getD j true=true/\i=n0+j)->
 wpAnyIn (FW ro) m P .any ops Q n listed a w:=by
 -- when none is ready, all are listed
 have FE: ∀(listed:Array Bool),listed.size=ops.size->Region.ready .any ops listed=[]-> ∀i,i<ops.size->listed.getD i true=true:=by
  intro listed fq hr i
  induction i using Nat.strongRecOn with
  |_ i ih=>
   intro hi
   cases QH:listed.getD i true with
   |true=>rfl
   |false=>
    exfalso
    have B3:i∈Region.ready .any ops listed:=by
     unfold Region.ready
     refine bR.2 ⟨a8.2 hi,?_⟩
     have ho:ops[i]? =some ops[i]:=aD hi
     simp only [QH,ho,Bool.not_false,Bool.true_and,aA,cK]
     rw [bS]
     intro e he
     have hd:=(s.down ho).1 e (bJ.2 he)
     cases hb:Region.binds .any e with
     |false=>rfl
     |true=>
      have dK:=hd hb
      have h1:=ih e.on dK (by omega)
      have:listed.getD e.on false=true:=by
       rw [aC] at h1 ⊢
       have hx:listed[e.on]? =some listed[e.on]:=aD (by omega)
       rw [hx] at h1 ⊢
       simpa using h1
      simp [this]
    rw [hr] at B3
    cases B3
 have last: ∀(listed:Array Bool) (kn:Nat->Prop) (c9:Nat->Option Loc) (a:Act) (w:World),listed.size=ops.size->Region.ready .any ops listed=[]->
  R base w0 S0 (canon (trace P ops dq n0 ops.toList 0 σ) (fun i=>listed.getD i true) 0 σ) kn c9 a w->(∀i,kn i->i<n0\/ ∃j,j<ops.size/\listed.getD j true=true/\i=n0+j)->Q .normal a w:=by
  intro listed kn c9 a w fq hr hR kL
  have fh:=FE listed fq hr
  have same:(fun i=>listed.getD i true)=fun _=>true:=by
   funext i
   by_cases hi:i<ops.size
   ·exact fh i hi
   ·rw [aC,Array.getElem?_eq_none (by omega)];rfl
  rw [same] at hR
  refine s.fin kn c9 a w hR fun i hi=> ?_
  rcases kL i hi with h|⟨j,hj,_,rfl⟩
  ·omega
  ·omega
 intro n
 induction n with
 |zero=>
  intro listed kn c9 a w fq QR oT hR kL
  have hr:Region.ready .any ops listed=[]:=by
   have h0: ∀i∈List.range ops.size,¬((!listed.getD i true)=true):=by
    have:(List.range ops.size).countP (fun i=> !listed.getD i true)=0:=Nat.le_zero.1 QR
    exact List.countP_eq_zero.1 this
   unfold Region.ready
   refine List.filter_eq_nil_iff.2 fun i hi h=> ?_
   simp only [av] at h
   exact h0 i hi h.1
  exact ⟨hr,last listed kn c9 a w fq hr hR kL⟩
 |succ n ih=>
  intro listed kn c9 a w fq QR oT hR kL
  refine ⟨fun hr=>last listed kn c9 a w fq hr hR kL,fun K hK=> ?_⟩
  unfold Region.ready at hK
  obtain ⟨hK1,Sx⟩:=bR.1 hK
  have Kn:K<ops.size:=a8.1 hK1
  have ho:ops[K]? =some ops[K]:=aD Kn
  simp only [av,ho,aA,cK] at Sx
  have Za:listed.getD K true=false:=by simpa using Sx.1
  have Kh: ∀e∈ops[K].after.toList,Region.binds .any e=true->listed.getD e.on true=true:=by
   intro e he hb
   have:=(bS.1 Sx.2) e (bJ.1 he)
   simp only [hb,Bool.not_true,Bool.false_or] at this
   rw [aC] at this ⊢
   cases hx:listed[e.on]? with
   |some v=>rw [hx] at this;simpa using this
   |none=>rfl
  have jq: ∀i,i<ops.size->pre ops K i=true->listed.getD i true=true:=by
   intro i hi hp
   obtain ⟨e,he,hb,h⟩:=(s.down ho).2 i hi hp
   have h1:=Kh e he hb
   rcases h with rfl|h
   ·exact h1
   ·exact oT e.on (by have:=(s.down ho).1 e he hb;omega) h1 i hi h
  have hlen:K<(trace P ops dq n0 ops.toList 0 σ).length:=by rw [gT];simpa using Kn
  have QB:(trace P ops dq n0 ops.toList 0 σ)[K]? =some ((trace P ops dq n0 ops.toList 0 σ)[K].1,(trace P ops dq n0 ops.toList 0 σ)[K].2):=ak hlen
  obtain ⟨hd,QN,sF,oP⟩:=s.step (L:=fun i=>listed.getD i true) (fun j hj hL i hi hp=>oT j hj hL i hi hp) ho Za jq QB
  obtain ⟨eS,dg⟩:=s.vc K _ _ QB
  rw [<-QN] at dg
  have T7:=(mL (trace P ops dq n0 ops.toList 0 σ) (fun i=>listed.getD i true) 0 σ).2
  have fS: ¬kn (n0+K):=fun h=>by
   rcases kL _ h with h|⟨j,_,hj,e⟩
   ·omega
   ·have:j=K:=by omega
    subst this
    rw [Za] at hj;cases hj
  unfold wpOpIn
  simp only [ho]
  refine qW hR fS dg (by rw [T7,(fm _ _ _ _).2,<-hd];exact eS) fun a' w' ⟨eL,dk,hR',kZ⟩=> ?_
  have oU: ∀i,(listed.setIfInBounds K true).getD i true=(listed.getD i true||decide (i=K)):=by
   intro i
   simp only [aC,bo]
   by_cases e:K=i
   ·subst e
    simp [fq,Kn]
   ·have: ¬(i=K):=fun h=>e h.symm
    simp [e,this]
  refine ih (listed.setIfInBounds K true) eL dk a' w' (by simpa using fq) ?_ ?_ ?_ ?_
  ·have:=rK (fun i=> !listed.getD i true) (fun i=> !(listed.setIfInBounds K true).getD i true) (fun x hx=>by
    rw [oU] at hx;simp at hx;simpa using hx.1) (List.range ops.size) K (a8.2 Kn) (by simp [Za]) (by simp [oU])
   omega
  ·intro j hj hL i hi hp
   rw [oU] at hL ⊢
   simp only [cC,ai] at hL ⊢
   rcases hL with hL|rfl
   ·exact .inl (oT j hj hL i hi hp)
   ·exact .inl (jq i hi hp)
  ·have e1:(fun i=>(listed.setIfInBounds K true).getD i true)=fun i=>listed.getD i true||decide (i=K):=funext oU
   rw [e1]
   rw [QN,<-hd] at hR'
   exact hR'.congr (fun t=>(sF t).symm) (fun i=>(oP i).symm) ((mL _ _ _ _).2.trans T7.symm) ((fm _ _ _ _).1.trans (fm _ _ _ _).1.symm) ((fm _ _ _ _).2.trans (fm _ _ _ _).2.symm)
  ·intro i hi
   rcases kZ i hi with h|h
   ·rcases kL i h with h|⟨j,h1,h2,h3⟩
    ·exact .inl h
    ·exact .inr ⟨j,h1,by rw [oU,h2];rfl,h3⟩
   ·exact .inr ⟨K,Kn,by rw [oU];simp,h⟩
def Qt (o:Oper):Bool:=match o.op with
 |.lookup _ _ _ ok=> !ok
 |_=>false
def T0 (o:Oper):Bool:=match o.op with
 |.mapEntry .. =>true
 |_=>false
def Ks (p:Oper->Bool):List Oper->Nat->Option Nat
 |[],_=>none
 |o::r,k=>bif p o then some k else Ks p r (k+1)
def JO (P:Program) (ops:Array Oper) (dq:List (Nat×fE)) (σ:St) (k0 j0:Nat):Prop:=match ops.toList[k0]?,(trace P ops dq σ.nx ops.toList 0 { σ with nx:=σ.nx+ops.size })[k0]?,(trace P ops dq σ.nx ops.toList 0 { σ with nx:=σ.nx+ops.size })[j0]? with
 |some o,some (_,e),some (_,ej)=>jl P ops (ma dq k0) (σ.nx+k0) { canon ((trace P ops dq σ.nx ops.toList 0 { σ with nx:=σ.nx+ops.size }).take k0) (fun _=>true) 0 { σ with nx:=σ.nx+ops.size } with h:=ej.hw++(canon ((trace P ops dq σ.nx ops.toList 0 { σ with nx:=σ.nx+ops.size }).take k0) (fun _=>true) 0 { σ with nx:=σ.nx+ops.size }).h } o=e
 |_,_,_=>False
def vQ (P:Program) (ops:Array Oper) (dq:List (Nat×fE)) (σ:St):Option Prop:=match Ks Qt ops.toList 0,Ks T0 ops.toList 0 with
 |some k0,some j0=>bif Nat.blt k0 j0&&lE k0 j0 (rU ops.toList []) (kI P ops dq σ.nx ops.toList 0 { σ with nx:=σ.nx+ops.size }) ops.toList (kI P ops dq σ.nx ops.toList 0 { σ with nx:=σ.nx+ops.size }) 0 then some (JO P ops dq σ k0 j0) else none
 |_,_=>none
theorem yz {σ:St} {a:Act} {w:World} (h:Fits base w0 S0 σ a w) (dg:dp (fi P ops dq σ).2) {p:Prop} (mU:vQ P ops dq σ=some p) (hp:p)
 (hQ: ∀a' w',Fits base w0 S0 (fi P ops dq σ).1 a' w'->Q .normal a' w'):wpAnyIn (FW ro) m P .any ops Q ops.size (Array.replicate ops.size false) a { w with drawn:=w.drawn+1 }:=by
 obtain ⟨kn,c9,r,hk⟩:=h
 have hnx:=r7 (P:=P) ops dq σ.nx ops.toList 0 { σ with nx:=σ.nx+ops.size } []
 obtain ⟨k0,j0,dK,mU,DB⟩: ∃k0 j0,k0<j0/\lE k0 j0 (rU ops.toList []) (kI P ops dq σ.nx ops.toList 0 { σ with nx:=σ.nx+ops.size }) ops.toList (kI P ops dq σ.nx ops.toList 0 { σ with nx:=σ.nx+ops.size }) 0=true/\JO P ops dq σ k0 j0:=by
  unfold vQ at mU
  split at mU
  ·rename_i k0 j0 _ _
   cases hb:Nat.blt k0 j0&&lE k0 j0 (rU ops.toList []) (kI P ops dq σ.nx ops.toList 0 { σ with nx:=σ.nx+ops.size }) ops.toList (kI P ops dq σ.nx ops.toList 0 { σ with nx:=σ.nx+ops.size }) 0 with
   |false=>simp only [hb,ax] at mU;cases mU
   |true=>
    simp only [hb,aq,aa] at mU
    simp only [av] at hb
    subst mU
    exact ⟨k0,j0,aH hb.1,hb.2,hp⟩
  ·cases mU
 have s:pX k0 j0 P ops dq base w0 S0 Q σ.nx { σ with nx:=σ.nx+ops.size }:=by
  refine ⟨qM ops.toList 0 _ [] dg,mU,dK,fun o d dj e ej h1 h2 h3=>by unfold JO at DB;simp only [h1,h2,h3] at DB;exact DB,fun eL dk a' w' hR kZ=>hQ a' w' ⟨eL,dk,?_,fun i hi=> ?_⟩⟩
  ·unfold fi
   rw [pj];exact hR
  ·have:=kZ i hi
   show i<(jb P ops dq σ.nx ops.toList 0 { σ with nx:=σ.nx+ops.size } []).1.nx
   rw [hnx.1];exact this
 have QD: ∀i,(Array.replicate ops.size false).getD i true=decide (ops.size<=i):=by
  intro i
  rw [aC,Array.getElem?_replicate]
  by_cases hi:i<ops.size
  ·rw [ah hi]
   have:decide (ops.size<=i)=false:=by simp;omega
   rw [this];rfl
  ·rw [ae hi]
   have:decide (ops.size<=i)=true:=by simp;omega
   rw [this];rfl
 refine s.any ops.size (Array.replicate ops.size false) kn c9 a _ (by simp) (aV List.countP_le_length (by simp)) (fun j hj hL=> ?_) ?_ fun i hi=> .inl (hk i hi)
 ·rw [QD] at hL;simp at hL;omega
 ·have e1:(fun i=>(Array.replicate ops.size false).getD i true)=fun i=>decide (ops.size<=i):=funext QD
  rw [e1]
  have sF: ∀t,(canon (trace P ops dq σ.nx ops.toList 0 { σ with nx:=σ.nx+ops.size }) (fun i=>decide (ops.size<=i)) 0 { σ with nx:=σ.nx+ops.size }).get t=σ.get t:=by
   intro t
   rw [iD]
   refine jn _ _ _ _ fun j v hj=> ?_
   have:=(aj.1 hj).1
   rw [b6,gT] at this
   simp at this ⊢;omega
  have oP: ∀t,(canon (trace P ops dq σ.nx ops.toList 0 { σ with nx:=σ.nx+ops.size }) (fun i=>decide (ops.size<=i)) 0 { σ with nx:=σ.nx+ops.size }).obj t=σ.obj t:=by
   intro t
   rw [gU]
   refine jn _ _ _ _ fun j v hj=> ?_
   have:=(aj.1 hj).1
   rw [b6,gT] at this
   simp at this ⊢;omega
  exact r.drew.congr sF oP (mL _ _ _ _).2 (fm _ _ _ _).1 (fm _ _ _ _).2
theorem uH {σ:St} {a:Act} {w:World} {id:Nat} (hm:P.follows .mixedOrders=true) (h:Fits base w0 S0 σ a w) (dg:dp (fi P ops dq σ).2) {p:Prop} (mU:vQ P ops dq σ=some p) (hp:p)
 (hQ: ∀a' w',Fits base w0 S0 (fi P ops dq σ).1 a' w'->Q .normal a' w'):(Code.region id ops true).wpIn (FW ro) m P Q a w:=
 wpIn_region_any hm (yz h dg mU hp hQ)
end
end Go.Abs
end
