/- Contracts and what they stand on. -/
import Derived.Test.YtoinjphpfpklmaaGreatDoorAbsS
set_option linter.unusedVariables false
set_option linter.unusedSimpArgs false
section
namespace Go.Abs
open Go.RowKit
def rdF (F:Nat->Prop) (w:World):Rd:=fun a u=>Ar w a u/\F a.block
def EX (F:Nat->Prop) (A B:World):Nat->Prop:=fun k=>F k\/(A.heap.size<=k/\k<B.heap.size)
def om (F:Nat->Prop) (A B:World):Prop:=A.heap.size<=B.heap.size/\ ∀k,F k->k<A.heap.size/\B.heap[k]? =A.heap[k]?
def WM (P:Program) (m:Nat) (gf:FuncId) (vs:Array Value) (N:Nat) (enc:Nat->List Value) (F0:Nat->Prop) (W0:World):Prop:=
 ∀(l:Nat) (J:Nat->(Nat->Prop)->World->Prop) (Jx:World->Prop),(∀x F A B,J x F A->Below A.heap.size A B->J x (EX F A B) B)->(∀A B,Jx A->Below A.heap.size A B->Jx B)->
  (∀x F W1,J x F W1->x<N->YieldAt Fence.wide (m - 1) P l (enc x).toArray W1 fun e W'=>(e= .returned (.bool true)/\J (x+1) F W'/\om F W1 W')\/(e= .returned (.bool false)/\Jx W'/\om F W1 W'))->
  J 0 F0 W0->CallsIn Fence.wide m P gf (vs++ #[.func (.yield l) #[] #[]]) W0 fun e W'=>(∃v,e= .returned v)/\((∃F,J N F W')\/Jx W')
def SeqB (P:Program) (gf:FuncId) (fs:List DV) (N:Nat) (enc:Nat->List Value):Prop:=
 gA P gf/\ ∀(m:Nat) (vs:Array Value) (F0:Nat->Prop) (W0:World),vs.size=fs.length->(∀(j:Nat) (d:DV) (v:Value),fs[j]? =some d->vs[j]? =some v->dA (rdF F0 W0) d v)->jv (rdF F0 W0)->WM P m gf vs N enc F0 W0
def postB (B:Nat) (I:Nat->(Nat->Prop)->World->Prop) (Ix:Code->World->Prop) (x:Nat) (F:Nat->Prop) (W:World):Exit->Act->World->Prop
 |.normal,_,W'=>KeepsFrom B W W'/\I (x+1) F W'/\om F W W'
 |.ret,_,W'=>KeepsFrom B W W'/\Ix .ret W'/\om F W W'
 |.exit id,_,W'=>KeepsFrom B W W'/\Ix (.exit id) W'/\om F W W'
 |.goto t,_,W'=>KeepsFrom B W W'/\Ix (.goto t) W'/\om F W W'
 |_,_,_=>False
theorem Gw {P:Program} {n:Nat} {g:Operand} {ps:Array Tmp} {assign body:Code} {Q:Exit->Act->World->Prop} {a:Act} {w:World}
 (h1:1<=n) {gf:Nat} {vs:Array Value} (hg:a.eval g= .func (.func gf) vs #[]) (eg: ∀args w,(callFunc gf args).run P w= .ok (.enter gf args) w)
 {N:Nat} {enc:Nat->List Value} {F0:Nat->Prop} (hF0: ∀k,F0 k->k<w.heap.size) (A6: ∀W,Below w.heap.size w W->WM P (n - 1) gf vs N enc F0 W) (D2: ∀x,x<N->(enc x).length=ps.size)
 (I:Nat->(Nat->Prop)->World->Prop) (Ix:Code->World->Prop)
 (hIF: ∀x F W,I x F W->w.heap.size<=W.heap.size/\ ∀k,F k->k<W.heap.size)
 (hI: ∀x F A B,I x F A->Below A.heap.size A B->I x (EX F A B) B)
 (hIp: ∀x F W l st P2,I x F W->w.heap.size<=l-> ¬F l->W.heap[l]? =some (.loop st)->I x F (W.putObj l (.loop P2)))
 (hIx: ∀c A B,Ix c A->Below A.heap.size A B->Ix c B)
 (UN: ∀c W l st P2,Ix c W->w.heap.size<=l->W.heap[l]? =some (.loop st)->Ix c (W.putObj l (.loop P2)))
 (h0: ∀W,Below w.heap.size w W->I 0 F0 W) (Mid:Nat->(Nat->Prop)->Act->World->Prop)
 (UM: ∀(l x:Nat) (F:Nat->Prop) (W:World),I x F W->x<N->
   assign.wpIn (FW (some l)) (n - 1 - 1) P (Exit.then (fun a' W'=>KeepsFrom w.heap.size W W'/\om F W W'/\Mid x F a' W') (fun _ _ _=>False)) { tmps:=(ps.zip (enc x).toArray).foldl (fun t (p,v)=>t.setIfInBounds p v) a.tmps,defers:=[] } W)
 (hMp: ∀x F a' W l st P2,Mid x F a' W->w.heap.size<=l-> ¬F l->W.heap[l]? =some (.loop st)->Mid x F a' (W.putObj l (.loop P2)))
 (HF: ∀(l x:Nat) (F:Nat->Prop) (a':Act) (W:World),Mid x F a' W->x<N->body.wpIn (FW (some l)) (n - 1 - 1) P (postB w.heap.size I Ix x F W) a' W)
 (hdone: ∀(D:Nat) (F:Nat->Prop) (W:World),w.heap.size<=D->I N F W->W.heap[D]? =some (.deferred (some []))->Q .normal { a with defers:={ target:= .collected D,args:= #[] }::a.defers } W)
 (hstop: ∀(D:Nat) (c:Code) (W:World),w.heap.size<=D->Ix c W->W.heap[D]? =some (.deferred (some []))->c.wpIn (FW none) n P Q { a with defers:={ target:= .collected D,args:= #[] }::a.defers } W):
 (Code.rangeFunc g ps assign body).wpIn (FW none) n P Q a w:=by
 refine wpIn_rangeFunc fun fn S4=> ?_
 obtain ⟨rec,Co⟩: ∃rec:LoopState->Option Code->Loop,rec=fun st pe=>{ state:=st,pending:=pe,fn,tmps:=a.tmps,params:=ps,assign,body,defers:=w.heap.size }:=⟨_,rfl⟩
 obtain ⟨W1,hW1⟩: ∃W1,(w.alloc (.deferred (some []))).alloc (.loop (rec .ready none))=W1:=⟨_,rfl⟩
 have eW:W1.heap.size=w.heap.size+2:=by rw [<-hW1];simp
 have hL1:W1.heap[w.heap.size+1]? =some (.loop (rec .ready none)):=by
  rw [<-hW1];have:=World.alloc_heap_new (w.alloc (.deferred (some []))) (.loop (rec .ready none));rwa [World.size_alloc] at this
 have hK1:W1.heap[w.heap.size]? =some (.deferred (some [])):=by
  rw [<-hW1];exact (Below.heap_alloc _ _ _ (by simp)).trans (World.alloc_heap_new w _)
 have pw:Below w.heap.size w W1:=by
  rw [<-hW1];exact ((Below.refl _ w).alloc (ae _) _).trans (((Below.refl _ _).alloc (ae _) _).mono (by simp))
 refine ⟨w.heap.size+1,[{ target:= .collected w.heap.size,args:= #[] }],W1,{ target:= .fn (.func gf) #[],args:=vs++ #[.func (.yield (w.heap.size+1)) #[] #[]] },W1,gf,
  vs++ #[.func (.yield (w.heap.size+1)) #[] #[]],W1,?_,?_,fun f' ll=>trivial,?_,fun _=>h1,?_⟩
 ·rw [<-hW1,Co];exact run_enterLoop_outer _ _ _ _ _
 ·simp only [resolve,hg]
  simp [go_sem]
 ·simp [invoke,go_sem,eg]
 have nF: ∀{F:Nat->Prop} {A B:World},(¬F (w.heap.size+1)/\ ¬F w.heap.size)->w.heap.size+1<A.heap.size->(¬EX F A B (w.heap.size+1)/\ ¬EX F A B w.heap.size):=fun h hs=>⟨fun h'=>h'.elim h.1 fun h'=>by omega,fun h'=>h'.elim h.2 fun h'=>by omega⟩
 refine (A6 W1 pw (w.heap.size+1)
  (fun x F W=>I x F W/\W.heap[w.heap.size+1]? =some (.loop (rec .ready none))/\W.heap[w.heap.size]? =some (.deferred (some []))/\(¬F (w.heap.size+1)/\ ¬F w.heap.size))
  (fun W=> ∃c,Ix c W/\W.heap[w.heap.size+1]? =some (.loop (rec .done (some c)))/\W.heap[w.heap.size]? =some (.deferred (some [])))
  (fun x F A B ⟨hi,hl,hk,hn⟩ hb=>⟨hI x F A B hi hb,(hb.block _ (ef hl)).trans hl,(hb.block _ (ef hk)).trans hk,nF hn (ef hl)⟩)
  (fun A B ⟨c,hc,hl,hk⟩ hb=>⟨c,hIx c A B hc hb,(hb.block _ (ef hl)).trans hl,(hb.block _ (ef hk)).trans hk⟩)
  ?_ ⟨h0 W1 pw,hL1,hK1,fun h=>by have:=hF0 _ h;omega,fun h=>by have:=hF0 _ h;omega⟩).mono ?_
 ·rintro x F W ⟨hi,hl,hk,hn⟩ dR
  have hlW:=ef hl
  have hy:=run_yield (P:=P) (args:=(enc x).toArray) hl (by rw [Co];simpa using D2 x dR)
  rw [Co] at hy
  refine ⟨fn,_,assign,body,hy,roundIn_of_wpIn S4 (wpIn_mono (UM (w.heap.size+1) x F W hi dR) ?_)⟩
  rintro e a1 V hq
  cases e with
  |normal=> ?_
  |_=>exact hq.elim
  obtain ⟨uf,NZ,HC⟩:=hq
  have hlV:=uf.same _ _ (by omega) hl rfl
  have hkV:=uf.same _ _ (ae _) hk rfl
  refine ⟨_,run_beginRound hlV (by rw [Co]),?_⟩
  have oI:(V.putObj (w.heap.size+1) (.loop { rec .ready none with state:= .busy })).heap[w.heap.size+1]? =some (.loop { rec .ready none with state:= .busy }):=World.putObj_heap_same (ef hlV)
  have oo:(V.putObj (w.heap.size+1) (.loop { rec .ready none with state:= .busy })).heap[w.heap.size]? =some (.deferred (some [])):=(World.putObj_heap_other (by omega)).trans hkV
  have put: ∀(V:World) (st:Loop),om F V (V.putObj (w.heap.size+1) (.loop st))\/ ¬ ∀k,F k->k<V.heap.size:=fun V st=>by
   by_cases h: ∀k,F k->k<V.heap.size
   ·exact .inl ⟨(grownBy_putObj' V _ _).size,fun k hk=>⟨h k hk,World.putObj_heap_other (fun e=>hn.1 (e▸hk))⟩⟩
   ·exact .inr h
  have kt: ∀{A B C:World},om F A B->om F B C->om F A C:=fun h k=>⟨aV h.1 k.1,fun i hi=>⟨(h.2 i hi).1,(k.2 i hi).2.trans (h.2 i hi).2⟩⟩
  have kp: ∀{V:World} {y:Nat} (st:Loop),I y F V->om F V (V.putObj (w.heap.size+1) (.loop st)):=fun {V y} st h=>(put V st).resolve_right (fun h'=>h' (hIF _ _ _ h).2)
  have NZ:om F W (V.putObj (w.heap.size+1) (.loop { rec .ready none with state:= .busy })):=kt NZ ((put V _).resolve_right fun h'=>h' fun k hk=>bt (NZ.2 k hk).1 NZ.1)
  refine wpIn_mono (HF (w.heap.size+1) x F a1 _ (hMp _ _ _ _ _ _ { rec .ready none with state:= .busy } HC (by omega) hn.1 hlV) dR) ?_
  have fin: ∀(jump:Option Code) (W3:World),KeepsFrom w.heap.size (V.putObj (w.heap.size+1) (.loop { rec .ready none with state:= .busy })) W3->
   (Instr.endRound (w.heap.size+1) jump).run P W3= .ok (.bool jump.isNone) (W3.putObj (w.heap.size+1) (.loop (rec (if jump.isNone then .ready else .done) jump)))/\
   W3.heap[w.heap.size+1]? =some (.loop { rec .ready none with state:= .busy })/\
   (W3.putObj (w.heap.size+1) (.loop (rec (if jump.isNone then .ready else .done) jump))).heap[w.heap.size+1]? =some (.loop (rec (if jump.isNone then .ready else .done) jump))/\
   (W3.putObj (w.heap.size+1) (.loop (rec (if jump.isNone then .ready else .done) jump))).heap[w.heap.size]? =some (.deferred (some [])):=fun jump W3 Gm=>by
   have O7:=Gm.same _ _ (by omega) oI rfl
   have:=run_endRound (P:=P) jump O7
   rw [Co] at this ⊢
   exact ⟨this,by rw [Co] at O7;exact O7,World.putObj_heap_same (ef O7),(World.putObj_heap_other (by omega)).trans (Gm.same _ _ (ae _) oo rfl)⟩
  rintro e a3 W3 hp
  cases e with
  |normal=>
   obtain ⟨Gm,Wl,NY⟩:=hp
   obtain ⟨hr,O7,Zt,Zu⟩:=fin none W3 Gm
   exact ⟨_,_,hr,.inl ⟨rfl,⟨hIp _ _ _ _ _ _ Wl (by omega) hn.1 O7,Zt,Zu,hn⟩,kt NZ (kt NY (kp _ Wl))⟩⟩
  |ret=>
   obtain ⟨Gm,Wl,NY⟩:=hp
   obtain ⟨hr,O7,Zt,Zu⟩:=fin (some .ret) W3 Gm
   exact ⟨_,_,hr,.inr ⟨rfl,⟨.ret,UN _ _ _ _ _ Wl (by omega) O7,Zt,Zu⟩,kt NZ (kt NY ((put W3 _).resolve_right fun h'=>h' fun k hk=>bt ((NY.2 k hk).1) NY.1))⟩⟩
  |exit id=>
   obtain ⟨Gm,Wl,NY⟩:=hp
   obtain ⟨hr,O7,Zt,Zu⟩:=fin (some (.exit id)) W3 Gm
   exact ⟨_,_,hr,.inr ⟨rfl,⟨.exit id,UN _ _ _ _ _ Wl (by omega) O7,Zt,Zu⟩,kt NZ (kt NY ((put W3 _).resolve_right fun h'=>h' fun k hk=>bt ((NY.2 k hk).1) NY.1))⟩⟩
  |goto t=>
   obtain ⟨Gm,Wl,NY⟩:=hp
   obtain ⟨hr,O7,Zt,Zu⟩:=fin (some (.goto t)) W3 Gm
   exact ⟨_,_,hr,.inr ⟨rfl,⟨.goto t,UN _ _ _ _ _ Wl (by omega) O7,Zt,Zu⟩,kt NZ (kt NY ((put W3 _).resolve_right fun h'=>h' fun k hk=>bt ((NY.2 k hk).1) NY.1))⟩⟩
  |panic ch=>exact hp.elim
  |outgrown=>exact hp.elim
 ·rintro e W2 ⟨⟨v,rfl⟩,(⟨F,hi,hl,hk,hn⟩|⟨c,hi,hl,hk⟩)⟩
  ·exact ⟨none,_,by have:=run_endLoop (P:=P) hl (by rw [Co];simp);rw [Co] at this;exact this,hdone _ _ _ (ae _) (hIp _ _ _ _ _ _ hi (by omega) hn.1 hl) ((World.putObj_heap_other (by omega)).trans hk)⟩
  ·exact ⟨some c,_,by have:=run_endLoop (P:=P) hl (by rw [Co];simp);rw [Co] at this;exact this,hstop _ c _ (ae _) (UN _ _ _ _ _ hi (by omega) hl) ((World.putObj_heap_other (by omega)).trans hk)⟩
end Go.Abs
end
section
namespace Go.Abs
open Go.RowKit
def yZ (σ:St) (t j:Nat):St×List Prop:=match σ.get t with
 |.ptr id _=>match σ.obj id with
  |some (.box cs)=>match cs[j]? with
   |some d=>match nh σ.obj d with
    |some (e,vc)=>({ σ with h:=(id,some (.box (cs.set j e)))::(eu [d]++σ.h) },vc)
    |none=>(σ,[])
   |none=>(σ,[])
  |_=>(σ,[])
 |_=>(σ,[])
def Ct (σ:St):List (Nat×Nat)->St×List Prop
 |[]=>(σ,[])
 |(t,j)::r=>match yZ σ t j with
  |(σ',vc)=>match Ct σ' r with
   |(σ2,Yo)=>(σ2,vc++Yo)
section
variable {base:Nat} {w0 w:World} {S0:Env} {σ:St} {kn:Nat->Prop} {di:Nat->Option Loc} {a:Act}
theorem Ho {id:Nat} {cs:List DV} (fE:σ.obj id=some (.box cs)) {d:DV} {p:DV×List Prop} (h:nh σ.obj d=some p):id∉gn d:=by
 intro hi
 cases d with
 |row s i off len=>
  obtain rfl:=au.1 hi
  simp only [nh,fE] at h;cases h
 |lg i=>
  obtain rfl:=au.1 hi
  simp only [nh,fE] at h;cases h
 |_=>simp [gn] at hi
theorem R.yZ (r:R base w0 S0 σ kn di a w) (t j:Nat) (dr:dw (yZ σ t j).2): ∃du,R base w0 S0 (yZ σ t j).1 kn du a w:=by
 unfold Abs.yZ at dr ⊢
 split
 ·rename_i id o ht
  split
  ·rename_i cs fE
   split
   ·rename_i d hj
    split
    ·rename_i e vc hle
     have dr:dw vc:=by
      simp only [ht,fE,hj,hle] at dr
      exact dr
     have hnb:=Ho fE hle
     obtain ⟨du,r',jC,nm⟩:=r.eu [d] (fun d' i v hd hi=>by
      obtain rfl:=au.1 hd
      exact zu r hle i v hi)
     have Zl:St.obj { σ with h:=Abs.eu [d]++σ.h } id=some (.box cs):=by
      unfold St.obj
      simp only [sG]
      rw [ab (fun h=>by
       obtain ⟨d',hd,hi⟩:=o4.1 h
       obtain rfl:=au.1 hd
       exact hnb hi)]
      exact fE
     obtain ⟨hk,g0,C,cv,T,hl,hh,eW,fe,jh⟩:=r'.eC _ _ Zl
     have Fc:=jC _ _ hl
     obtain ⟨g1,C1,cv1,T1,Rk,hh1,_,uh,_⟩:=(r.eC _ _ fE).2
     rw [Fc] at Rk
     cases Rk
     rw [hh] at hh1
     cases hh1
     have fc: ∀ad u,dq w base S0 di ad u->dq w base S0 du ad u:=fun ad u ⟨x,y,z,q⟩=>⟨x,fun id l e=>y id l (jC _ _ e),z,q⟩
     have gu: ∀m l g,m∈gn d->di m=some l->l.has g-> ∀ad u,ad.block=g->Ar w ad u->dq w base S0 du ad u:=fun m l g' hm lH hg ad u e hu=>⟨hu,fun kN l' e' nJ=>(by
      have e3:=jC _ _ e'
      rw [e] at nJ
      have:=r.inj _ _ _ _ _ e3 lH nJ hg
      rw [this,nm d m ax hm] at e'
      cases e'),e▸o8 r lH hg,e▸sD r lH hg⟩
     refine ⟨du,r'.zT hl rfl rfl rfl rfl (fun _ _=>rfl) fun _ _=>⟨g0,C,cv,T,rfl,hh,by rw [eW,List.length_set],fun k d' u hd hu=> ?_,jh⟩⟩
     rw [cW] at hd
     split at hd
     ·rename_i hjk
      subst hjk
      split at hd
      ·cases hd
       exact ee (vD r fc gu hle dr (uh j _ u hj hu)).1
      ·cases hd
     ·exact fe k d' u hd hu
    ·exact ⟨di,r⟩
   ·exact ⟨di,r⟩
  ·exact ⟨di,r⟩
 ·exact ⟨di,r⟩
theorem UU (t j:Nat):(yZ σ t j).1.nx=σ.nx:=by
 unfold yZ
 repeat' split
 all_goals rfl
theorem Fits.yZ (h:Fits base w0 S0 σ a w) (t j:Nat) (dr:dw (yZ σ t j).2):Fits base w0 S0 (Abs.yZ σ t j).1 a w:=by
 obtain ⟨kn,di,r,hn⟩:=h
 obtain ⟨du,r'⟩:=r.yZ t j dr
 exact ⟨kn,du,r',fun i hi=>by rw [UU];exact hn i hi⟩
theorem Fits.Ct: ∀(l:List (Nat×Nat)) {σ:St},Fits base w0 S0 σ a w->dw (Ct σ l).2->Fits base w0 S0 (Abs.Ct σ l).1 a w
 |[],_,h,_=>h
 |(t,j)::r,σ,h,dr=>by
  simp only [Abs.Ct] at dr ⊢
  obtain ⟨h1,h2⟩:=dw.app dr
  exact Fits.Ct r (h.yZ t j h1) h2
end
end Go.Abs
end
section
namespace Go.Abs
open Go.RowKit
def LF (b:Bool) (g:kk):kk:={ tr:=g.tr,tw:=g.tw,hr:=bif b then [] else g.hr,hw:=g.hw }
def lP (x:Nat) (f:kk) (b:Nat):List kk->Nat->Bool
 |[],_=>true
 |g::r,i=>bif meets (LF (Nat.beq i x) g) f then (bif b.testBit i then lP x f b r (i+1) else false) else lP x f b r (i+1)
def lQ (k0 j0:Nat) (ss:List Nat) (fs:List kk):List Oper->List kk->Nat->Bool
 |o::r,f::q,j=>lP (bif Nat.beq j j0 then k0 else fs.length) f (ss.getD j 0) (fs.take j) 0&&(lY ss o (ss.getD j 0) fs.length&&(qC j o.after.toList&&lQ k0 j0 ss fs r q (j+1)))
 |[],[],_=>true
 |_,_,_=>false
theorem tq {x:Nat} {f:kk} {b:Nat}: ∀{l:List kk} {i0:Nat},lP x f b l i0=true-> ∀(i:Nat) (g:kk),l[i]? =some g->meets (LF (Nat.beq (i0+i) x) g) f=true->b.testBit (i0+i)=true
 |[],_,_,i,g,h,_=>by simp at h
 |g'::r,i0,ke,0,g,h,hm=>by
  simp only [aL,aa] at h
  subst h
  rw [bV] at hm
  simp only [lP,hm,ao] at ke
  cases hb:b.testBit i0 with
  |true=>simp
  |false=>simp [hb] at ke
 |g'::r,i0,ke,i+1,g,h,hm=>by
  simp only [aJ] at h
  have hr:lP x f b r (i0+1)=true:=by
   simp only [lP] at ke
   cases Zq:meets (LF (Nat.beq i0 x) g') f with
   |false=>simpa [Zq] using ke
   |true=>
    simp only [Zq,ao] at ke
    cases hb:b.testBit i0 with
    |true=>simpa [hb] using ke
    |false=>simp [hb] at ke
  have:=tq hr i g h (by rw [show i0+1+i=i0+(i+1) by omega];exact hm)
  rwa [show i0+1+i=i0+(i+1) by omega] at this
theorem oF {k0 j0:Nat} {ss:List Nat} {fs:List kk}: ∀{l:List Oper} {q:List kk} {j0':Nat},lQ k0 j0 ss fs l q j0'=true-> ∀(j:Nat) (o:Oper) (f:kk),l[j]? =some o->q[j]? =some f->
 lP (bif Nat.beq (j0'+j) j0 then k0 else fs.length) f (ss.getD (j0'+j) 0) (fs.take (j0'+j)) 0=true/\lY ss o (ss.getD (j0'+j) 0) fs.length=true/\qC (j0'+j) o.after.toList=true
 |[],q,_,_,j,o,f,h,_=>by simp at h
 |o'::r,[],_,_,j,o,f,_,h=>by simp at h
 |o'::r,f'::q,a,ke,0,o,f,h,h'=>by
  simp only [aL,aa] at h h'
  subst h h'
  simp only [lQ,an] at ke
  exact ⟨ke.1,ke.2.1,ke.2.2.1⟩
 |o'::r,f'::q,a,ke,j+1,o,f,h,h'=>by
  simp only [aJ] at h h'
  simp only [lQ,an] at ke
  have:=oF ke.2.2.2 j o f h h'
  rwa [show a+1+j=a+(j+1) by omega] at this
theorem AZ {α:Type} (L:Nat->Bool) (v:α): ∀(ws:List (Option α)) (k:Nat) (init:α) (J:Nat),ws[J]? =some (some v)->L (k+J)=true->(∀j u,ws[j]? =some (some u)->J<j->L (k+j)=false)->jG ws L k init=v
 |[],_,_,J,h,_,_=>by simp at h
 |x::r,k,init,0,h,hL,ho=>by
  simp only [aL,aa] at h
  subst h
  rw [bV] at hL
  simp only [jG,hL,vo]
  exact jo _ _ _ _ fun j u hj=>by have:=ho (j+1) u (by simpa using hj) (by omega);rwa [show k+1+j=k+(j+1) by omega]
 |x::r,k,init,J+1,h,hL,ho=>by
  simp only [jG]
  exact AZ L v r (k+1) _ J (by simpa using h) (by rwa [show k+1+J=k+(J+1) by omega]) fun j u hj dR=>by
   have:=ho (j+1) u (by simpa using hj) (by omega)
   rwa [show k+1+j=k+(j+1) by omega]
theorem AH {σ:St} {h:List (Nat×Option fF)}: ∀{l:List Operand},iU { σ with h } l=iU σ l
 |[]=>rfl
 |y::r=>by
  simp only [iU]
  rw [AH (l:=r)]
  rfl
section
variable {P:Program} {ro:Option Nat} {m:Nat} {ops:Array Oper} {dz:List (Nat×fx)} {base:Nat} {w0:World} {S0:Env} {Q:Exit->Act->World->Prop} {k0 j0:Nat}
structure qI (k0 j0:Nat) (P:Program) (ops:Array Oper) (dz:List (Nat×fx)) (base:Nat) (w0:World) (S0:Env) (Q:Exit->Act->World->Prop) (n0:Nat) (σ:St):Prop where
 vc: ∀(j:Nat) (d:Option Tmp) (e:fg),(trace P ops dz n0 ops.toList 0 σ)[j]? =some (d,e)->jH σ.nt σ.lo d=true/\dw e.vc
 ord:lQ k0 j0 (sl ops.toList []) (kQ P ops dz n0 ops.toList 0 σ) ops.toList (kQ P ops dz n0 ops.toList 0 σ) 0=true
 lt:k0<j0
 soft: ∀(o:Oper) (d dj:Option Tmp) (e ej:fg),ops.toList[k0]? =some o->(trace P ops dz n0 ops.toList 0 σ)[k0]? =some (d,e)->(trace P ops dz n0 ops.toList 0 σ)[j0]? =some (dj,ej)->
  jl P ops (mA dz k0) (n0+k0) { canon ((trace P ops dz n0 ops.toList 0 σ).take k0) (fun _=>true) 0 σ with h:=ej.hw++(canon ((trace P ops dz n0 ops.toList 0 σ).take k0) (fun _=>true) 0 σ).h } o=e
 fin: ∀kn di a w,R base w0 S0 (canon (trace P ops dz n0 ops.toList 0 σ) (fun _=>true) 0 σ) kn di a w->(∀i,kn i->i<n0+ops.size)->Q .normal a w
variable {n0:Nat} {σ:St}
theorem qI.down (s:qI k0 j0 P ops dz base w0 S0 Q n0 σ) {j:Nat} {o:Oper} (ho:ops[j]? =some o):(∀e∈o.after.toList,Region.binds .any e=true->e.on<j)/\
 (∀i,i<ops.size->pre ops j i=true-> ∃e∈o.after.toList,Region.binds .any e=true/\(e.on=i\/pre ops e.on i=true)):=by
 have mJ:ops.toList[j]? =some o:=by simpa using ho
 have hj:j<ops.size:=(aF.1 ho).1
 have hf:(kQ P ops dz n0 ops.toList 0 σ)[j]? =some ((kQ P ops dz n0 ops.toList 0 σ)[j]'(by rw [lX];simpa using hj)):=ak _
 obtain ⟨_,h2,h3⟩:=oF s.ord j o _ mJ hf
 rw [aE] at h2 h3
 refine ⟨r8 h3,fun i hi hp=> ?_⟩
 rw [lX] at h2
 obtain ⟨e,he,hb,h⟩:=qA (lL h2 i (by simpa using hi) hp)
 exact ⟨e,he,hb,h⟩
theorem qI.pair (s:qI k0 j0 P ops dz base w0 S0 Q n0 σ) {i j:Nat} {f g:kk} (Kk:i<j) (hf:(kQ P ops dz n0 ops.toList 0 σ)[i]? =some f) (hg:(kQ P ops dz n0 ops.toList 0 σ)[j]? =some g) (hm:meets (LF (Nat.beq i (bif Nat.beq j j0 then k0 else (kQ P ops dz n0 ops.toList 0 σ).length)) f) g=true):
 pre ops j i=true:=by
 have hj:j<ops.toList.length:=by rw [<-lX (P:=P) (ops:=ops) (dz:=dz) (n0:=n0) ops.toList 0 σ];exact (ai.1 hg).1
 obtain ⟨h1,_,_⟩:=oF s.ord j _ g (ak hj) hg
 rw [aE] at h1
 have:=tq h1 i f (by rw [bS,ag Kk];exact hf) (by rw [aE];exact hm)
 rwa [aE] at this
theorem qI.step (s:qI k0 j0 P ops dz base w0 S0 Q n0 σ) {L:Nat->Bool} (pt: ∀j,j<ops.size->L j=true-> ∀i,i<ops.size->pre ops j i=true->L i=true) {K:Nat} {o:Oper} (ho:ops[K]? =some o) (hK:L K=false)
 (jq: ∀i,i<ops.size->pre ops K i=true->L i=true) {d:Option Tmp} {e:fg} (he:(trace P ops dz n0 ops.toList 0 σ)[K]? =some (d,e)):
 d=o.dst/\jl P ops (mA dz K) (n0+K) (canon (trace P ops dz n0 ops.toList 0 σ) L 0 σ) o=e/\
 (∀t,((canon (trace P ops dz n0 ops.toList 0 σ) L 0 σ).uG d e).get t=(canon (trace P ops dz n0 ops.toList 0 σ) (fun i=>L i||decide (i=K)) 0 σ).get t)/\
 (∀i,((canon (trace P ops dz n0 ops.toList 0 σ) L 0 σ).uG d e).obj i=(canon (trace P ops dz n0 ops.toList 0 σ) (fun i=>L i||decide (i=K)) 0 σ).obj i):=by
 have mJ:ops.toList[K]? =some o:=by simpa using ho
 have Kt:K<ops.size:=(aF.1 ho).1
 have Fb:=mW (P:=P) (ops:=ops) (dz:=dz) (n0:=n0) ops.toList 0 σ K o mJ
 rw [Fb] at he
 simp only [aE,aa,aB] at he
 obtain ⟨rfl,he⟩:=he
 have UJ:=py (P:=P) (ops:=ops) (dz:=dz) (n0:=n0) ops.toList 0 σ K o mJ
 simp only [aE] at UJ Fb
 rw [he] at UJ Fb
 -- a place that K reads or writes: whoever else writes it is on the right side
 have side: ∀(j:Nat) (dj:Option Tmp) (ej:fg),(trace P ops dz n0 ops.toList 0 σ)[j]? =some (dj,ej)->j≠K->
  ((∃t,dj=some t/\(o.dst=some t\/t∈kH ops o))\/(∃i,i∈ej.hw.map (·.1)/\(i∈e.hw.map (·.1)\/(i∈iU (canon ((trace P ops dz n0 ops.toList 0 σ).take K) (fun _=>true) 0 σ) (mG o.op)/\ ¬(K=k0/\j=j0)))))->
  (j<K->L j=true)/\(K<j->L j=false):=by
  intro j dj ej hj ji hm
  have Rl:j<ops.toList.length:=by
   have:=(ai.1 hj).1
   rwa [gT] at this
  have Uz:ops.toList[j]? =some ops.toList[j]:=ak Rl
  have Zb:=mW (P:=P) (ops:=ops) (dz:=dz) (n0:=n0) ops.toList 0 σ j _ Uz
  rw [Zb] at hj
  simp only [aE,aa,aB] at hj
  obtain ⟨rfl,hej⟩:=hj
  have Cq:=py (P:=P) (ops:=ops) (dz:=dz) (n0:=n0) ops.toList 0 σ j _ Uz
  simp only [aE] at Cq
  rw [hej] at Cq
  refine ⟨fun dR=> ?_,fun dR=> ?_⟩
  ·refine jq j (by simpa using Rl) (s.pair dR Cq UJ ?_)
   rcases hm with ⟨t,h1,h2⟩|⟨i,h1,h2⟩
   ·exact zq (t:=t) h1 h2
   ·exact zr (i:=i) h1 (h2.imp id fun h=>h.1)
  ·have hp:pre ops j K=true:=by
    refine s.pair dR UJ Cq ?_
    rcases hm with ⟨t,h1,h2|h2⟩|⟨i,h1,h2|h2⟩
    ·exact zq (t:=t) h2 (.inl h1)
    ·exact Hj (t:=t) h1 h2
    ·exact zr (i:=i) h2 (.inl h1)
    ·refine Hk (i:=i) h1 ?_
     have hb:Nat.beq K (bif Nat.beq j j0 then k0 else (kQ P ops dz n0 ops.toList 0 σ).length)=false:=by
      cases hj:Nat.beq j j0 with
      |true=>
       simp only [ao]
       cases hK0:Nat.beq K k0 with
       |false=>rfl
       |true=>exact absurd ⟨af hK0,af hj⟩ h2.2
      |false=>
       simp only [ar]
       cases hK0:Nat.beq K (kQ P ops dz n0 ops.toList 0 σ).length with
       |false=>rfl
       |true=>
        have:=af hK0
        rw [lX] at this
        simp at this
        omega
     rw [hb]
     exact h2.1
   cases hLj:L j with
   |false=>rfl
   |true=>
    have:=pt j (by simpa using Rl) hLj K Kt hp
    rw [hK] at this;cases this
 have LR: ∀t,(o.dst=some t\/t∈kH ops o)->(canon (trace P ops dz n0 ops.toList 0 σ) L 0 σ).get t=(canon ((trace P ops dz n0 ops.toList 0 σ).take K) (fun _=>true) 0 σ).get t:=by
  intro t ht
  rw [iI,iI,List.map_take]
  refine ni K L hK _ 0 _ (aq _) fun j v hj=> ?_
  rw [aE]
  rw [aw] at hj
  cases hx:(trace P ops dz n0 ops.toList 0 σ)[j]? with
  |none=>simp [hx] at hj
  |some x=>
   obtain ⟨dj,ej⟩:=x
   simp only [hx,aA,aa,tW] at hj
   by_cases Rm:j=K
   ·subst Rm;exact ⟨fun h=>by omega,fun h=>by omega⟩
   ·split at hj
    ·rename_i hd
     exact side j dj ej hx Rm (.inl ⟨t,hd,ht⟩)
    ·cases hj
 have Aq: ∀i,(∀ej dj,K=k0->(trace P ops dz n0 ops.toList 0 σ)[j0]? =some (dj,ej)->i∈ej.hw.map (·.1)->L j0=false)->(i∈e.hw.map (·.1)\/i∈iU (canon ((trace P ops dz n0 ops.toList 0 σ).take K) (fun _=>true) 0 σ) (mG o.op))->(canon (trace P ops dz n0 ops.toList 0 σ) L 0 σ).obj i=(canon ((trace P ops dz n0 ops.toList 0 σ).take K) (fun _=>true) 0 σ).obj i:=by
  intro i hcond hi
  rw [gU,gU,List.map_take]
  refine ni K L hK _ 0 _ (aq _) fun j v hj=> ?_
  rw [aE]
  rw [aw] at hj
  cases hx:(trace P ops dz n0 ops.toList 0 σ)[j]? with
  |none=>simp [hx] at hj
  |some x=>
   obtain ⟨dj,ej⟩:=x
   simp only [hx,aA,aa,hW] at hj
   by_cases Rm:j=K
   ·subst Rm;exact ⟨fun h=>by omega,fun h=>by omega⟩
   ·by_cases hs:K=k0/\j=j0
    ·obtain ⟨Jr,Q7⟩:=hs
     have dR:=s.lt
     subst Jr Q7
     exact ⟨fun h=>by omega,fun _=>hcond ej dj rfl hx (jS hj)⟩
    ·exact side j dj ej hx Rm (.inr ⟨i,jS hj,hi.imp id fun h=>⟨h,hs⟩⟩)
 refine ⟨rfl,?_,fun t=> ?_,fun i=> ?_⟩
 ·by_cases hs:K=k0/\L j0=true/\j0<ops.size
  ·obtain ⟨rfl,hL,hj0⟩:=hs
   have hlen:j0<(trace P ops dz n0 ops.toList 0 σ).length:=by rw [gT];simpa using hj0
   have Q3:(trace P ops dz n0 ops.toList 0 σ)[j0]? =some ((trace P ops dz n0 ops.toList 0 σ)[j0].1,(trace P ops dz n0 ops.toList 0 σ)[j0].2):=ak hlen
   have DZ:=s.soft o _ _ _ _ mJ Fb Q3
   rw [<-DZ]
   refine Eq.symm (rE (σ':=canon (trace P ops dz n0 ops.toList 0 σ) L 0 σ) (fun t ht=>(LR t (.inr ht)).symm) (fun i hi=> ?_) ((ft ((trace P ops dz n0 ops.toList 0 σ).take K) (fun _=>true) 0 σ).1.trans (ft _ _ _ _).1.symm) (fun i hi=> ?_))
   rotate_left
   ·rw [DZ] at hi
    have NS:i∉(trace P ops dz n0 ops.toList 0 σ)[j0].2.hw.map (·.1):=fun h9=>by
     have dR:=s.lt
     have h8:=(side j0 _ _ Q3 (by omega) (.inr ⟨i,h9,.inl hi⟩)).2 dR
     rw [hL] at h8;cases h8
    show (match look ((trace P ops dz n0 ops.toList 0 σ)[j0].2.hw++_) i with|some x=>x|none=>none)=_
    rw [og]
    cases hl:look (trace P ops dz n0 ops.toList 0 σ)[j0].2.hw i with
    |some v=>exact absurd (jS hl) NS
    |none=>
     refine (Aq i (fun ej dj _ h1 h2=> ?_) (.inl hi)).symm
     rw [Q3] at h1
     simp only [aa,aB] at h1
     obtain ⟨_,rfl⟩:=h1
     exact absurd h2 NS
   rw [AH] at hi
   show (match look ((trace P ops dz n0 ops.toList 0 σ)[j0].2.hw++_) i with|some x=>x|none=>none)=_
   rw [og]
   cases hl:look (trace P ops dz n0 ops.toList 0 σ)[j0].2.hw i with
   |none=>
    refine (Aq i (fun ej dj _ h1 h2=> ?_) (.inr hi)).symm
    rw [Q3] at h1
    simp only [aa,aB] at h1
    obtain ⟨_,rfl⟩:=h1
    exfalso
    have: ∀{l:List (Nat×Option fF)},i∈l.map (·.1)->look l i≠none:=by
     intro l
     induction l with
     |nil=>intro h;cases h
     |cons x r ih=>
      intro h
      rw [dG]
      by_cases e:x.1=i
      ·rw [ag e];simp
      ·rw [ab e]
       exact ih ((aR.1 h).resolve_left fun h=>e h.symm)
    exact this h2 hl
   |some v=>
    refine Eq.symm ?_
    rw [gU]
    refine AZ L v _ 0 _ j0 (by rw [aw,Q3];simp only [aA,hW,hl]) (by rw [aE];exact hL) fun j u hj dR=> ?_
    rw [aE]
    rw [aw] at hj
    cases hx:(trace P ops dz n0 ops.toList 0 σ)[j]? with
    |none=>simp [hx] at hj
    |some x=>
     obtain ⟨dj,ej⟩:=x
     simp only [hx,aA,aa,hW] at hj
     have xC:=s.lt
     exact (side j dj ej hx (by omega) (.inr ⟨i,jS hj,.inr ⟨hi,fun h=>by omega⟩⟩)).2 (by omega)
  ·rw [<-he]
   exact (rE (fun t ht=>(LR t (.inr ht)).symm) (fun i hi=>(Aq i (fun ej dj h1 h2 _=>by
    cases hL:L j0 with
    |false=>rfl
    |true=>
     have:=(ai.1 h2).1
     rw [gT] at this
     exact absurd ⟨h1,hL,by simpa using this⟩ hs) (.inr hi)).symm) ((ft _ _ _ _).1.trans (ft _ _ _ _).1.symm) (fun i hi=>(Aq i (fun ej dj h1 h2 _=>by
    cases hL:L j0 with
    |false=>rfl
    |true=>
     have:=(ai.1 h2).1
     rw [gT] at this
     exact absurd ⟨h1,hL,by simpa using this⟩ hs) (.inl (by rw [he] at hi;exact hi))).symm)).symm
 ·rw [St.Fl,iI t _ (fun i=>L i||decide (i=K))]
  have Ki:=ph K L ((trace P ops dz n0 ops.toList 0 σ).map (tW t)) 0 (σ.get t) (aq _) (fun v hv j u hj dR=>by
   rw [aE] at dR ⊢
   rw [bJ,aw,Fb] at hv
   simp only [aA,aa,tW] at hv
   split at hv
   ·rename_i hd
    rw [aw] at hj
    cases hx:(trace P ops dz n0 ops.toList 0 σ)[j]? with
    |none=>simp [hx] at hj
    |some x=>
     obtain ⟨dj,ej⟩:=x
     simp only [hx,aA,aa,tW] at hj
     split at hj
     ·rename_i ZE
      exact (side j dj ej hx (by omega) (.inl ⟨t,ZE,.inl hd⟩)).2 dR
     ·cases hj
   ·cases hv)
  rw [Ki,bJ,aw,Fb]
  simp only [aA,tW]
  by_cases hd:o.dst=some t
  ·simp [hd]
  ·simp only [hd,cE,iI]
 ·rw [St.EV,gU i _ (fun i=>L i||decide (i=K))]
  have Ki:=ph K L ((trace P ops dz n0 ops.toList 0 σ).map (hW i)) 0 (σ.obj i) (aq _) (fun v hv j u hj dR=>by
   rw [aE] at dR ⊢
   rw [bJ,aw,Fb] at hv
   simp only [aA,aa,hW] at hv
   rw [aw] at hj
   cases hx:(trace P ops dz n0 ops.toList 0 σ)[j]? with
   |none=>simp [hx] at hj
   |some x=>
    obtain ⟨dj,ej⟩:=x
    simp only [hx,aA,aa,hW] at hj
    exact (side j dj ej hx (by omega) (.inr ⟨i,jS hj,.inl (jS hv)⟩)).2 dR)
  rw [Ki,bJ,aw,Fb]
  simp only [aA,hW]
  cases hl:look e.hw i with
  |some v=>rfl
  |none=>simp only [gU]
theorem qI.any (s:qI k0 j0 P ops dz base w0 S0 Q n0 σ): ∀(n:Nat) (listed:Array Bool) (kn:Nat->Prop) (di:Nat->Option Loc) (a:Act) (w:World),listed.size=ops.size->
 (List.range ops.size).countP (fun i=> !listed.getD i true)<=n->
 (∀j,j<ops.size->listed.getD j true=true-> ∀i,i<ops.size->pre ops j i=true->listed.getD i true=true)->
 R base w0 S0 (canon (trace P ops dz n0 ops.toList 0 σ) (fun i=>listed.getD i true) 0 σ) kn di a w->(∀i,kn i->i<n0\/ ∃j,j<ops.size/\listed.getD j true=true/\i=n0+j)->
 wpAnyIn (FW ro) m P .any ops Q n listed a w:=by
 -- when none is ready, all are listed
 have FK: ∀(listed:Array Bool),listed.size=ops.size->Region.ready .any ops listed=[]-> ∀i,i<ops.size->listed.getD i true=true:=by
  intro listed eW hr i
  induction i using Nat.strongRecOn with
  |_ i ih=>
   intro hi
   cases Rj:listed.getD i true with
   |true=>rfl
   |false=>
    exfalso
    have qt:i∈Region.ready .any ops listed:=by
     unfold Region.ready
     refine bH.2 ⟨bg.2 hi,?_⟩
     have ho:ops[i]? =some ops[i]:=az hi
     simp only [Rj,ho,Bool.not_false,Bool.true_and,aA,cD]
     rw [b6]
     intro e he
     have hd:=(s.down ho).1 e (bw.2 he)
     cases hb:Region.binds .any e with
     |false=>rfl
     |true=>
      have dR:=hd hb
      have h1:=ih e.on dR (by omega)
      have:listed.getD e.on false=true:=by
       rw [av] at h1 ⊢
       have hx:listed[e.on]? =some listed[e.on]:=az (by omega)
       rw [hx] at h1 ⊢
       simpa using h1
      simp [this]
    rw [hr] at qt
    cases qt
 have last: ∀(listed:Array Bool) (kn:Nat->Prop) (di:Nat->Option Loc) (a:Act) (w:World),listed.size=ops.size->Region.ready .any ops listed=[]->
  R base w0 S0 (canon (trace P ops dz n0 ops.toList 0 σ) (fun i=>listed.getD i true) 0 σ) kn di a w->(∀i,kn i->i<n0\/ ∃j,j<ops.size/\listed.getD j true=true/\i=n0+j)->Q .normal a w:=by
  intro listed kn di a w eW hr hR kr
  have fp:=FK listed eW hr
  have same:(fun i=>listed.getD i true)=fun _=>true:=by
   funext i
   by_cases hi:i<ops.size
   ·exact fp i hi
   ·rw [av,Array.getElem?_eq_none (by omega)];rfl
  rw [same] at hR
  refine s.fin kn di a w hR fun i hi=> ?_
  rcases kr i hi with h|⟨j,hj,_,rfl⟩
  ·omega
  ·omega
 intro n
 induction n with
 |zero=>
  intro listed kn di a w eW Rw pt hR kr
  have hr:Region.ready .any ops listed=[]:=by
   have h0: ∀i∈List.range ops.size,¬((!listed.getD i true)=true):=by
    have:(List.range ops.size).countP (fun i=> !listed.getD i true)=0:=Nat.le_zero.1 Rw
    exact List.countP_eq_zero.1 this
   unfold Region.ready
   refine List.filter_eq_nil_iff.2 fun i hi h=> ?_
   simp only [an] at h
   exact h0 i hi h.1
  exact ⟨hr,last listed kn di a w eW hr hR kr⟩
 |succ n ih=>
  intro listed kn di a w eW Rw pt hR kr
  refine ⟨fun hr=>last listed kn di a w eW hr hR kr,fun K hK=> ?_⟩
  unfold Region.ready at hK
  obtain ⟨hK1,S8⟩:=bH.1 hK
  have Kt:K<ops.size:=bg.1 hK1
  have ho:ops[K]? =some ops[K]:=az Kt
  simp only [an,ho,aA,cD] at S8
  have ZL:listed.getD K true=false:=by simpa using S8.1
  have Km: ∀e∈ops[K].after.toList,Region.binds .any e=true->listed.getD e.on true=true:=by
   intro e he hb
   have:=(b6.1 S8.2) e (bw.1 he)
   simp only [hb,Bool.not_true,Bool.false_or] at this
   rw [av] at this ⊢
   cases hx:listed[e.on]? with
   |some v=>rw [hx] at this;simpa using this
   |none=>rfl
  have jq: ∀i,i<ops.size->pre ops K i=true->listed.getD i true=true:=by
   intro i hi hp
   obtain ⟨e,he,hb,h⟩:=(s.down ho).2 i hi hp
   have h1:=Km e he hb
   rcases h with rfl|h
   ·exact h1
   ·exact pt e.on (by have:=(s.down ho).1 e he hb;omega) h1 i hi h
  have hlen:K<(trace P ops dz n0 ops.toList 0 σ).length:=by rw [gT];simpa using Kt
  have Q3:(trace P ops dz n0 ops.toList 0 σ)[K]? =some ((trace P ops dz n0 ops.toList 0 σ)[K].1,(trace P ops dz n0 ops.toList 0 σ)[K].2):=ak hlen
  obtain ⟨hd,Rr,qu,nk⟩:=s.step (L:=fun i=>listed.getD i true) (fun j hj hL i hi hp=>pt j hj hL i hi hp) ho ZL jq Q3
  obtain ⟨ff,dr⟩:=s.vc K _ _ Q3
  rw [<-Rr] at dr
  have UB:=(nb (trace P ops dz n0 ops.toList 0 σ) (fun i=>listed.getD i true) 0 σ).2
  have fJ: ¬kn (n0+K):=fun h=>by
   rcases kr _ h with h|⟨j,_,hj,e⟩
   ·omega
   ·have:j=K:=by omega
    subst this
    rw [ZL] at hj;cases hj
  unfold wpOpIn
  simp only [ho]
  refine rD hR fJ dr (by rw [UB,(ft _ _ _ _).2,<-hd];exact ff) fun a' w' ⟨eV,du,hR',kE⟩=> ?_
  have px: ∀i,(listed.setIfInBounds K true).getD i true=(listed.getD i true||decide (i=K)):=by
   intro i
   simp only [av,bp]
   by_cases e:K=i
   ·subst e
    simp [eW,Kt]
   ·have: ¬(i=K):=fun h=>e h.symm
    simp [e,this]
  refine ih (listed.setIfInBounds K true) eV du a' w' (by simpa using eW) ?_ ?_ ?_ ?_
  ·have:=sa (fun i=> !listed.getD i true) (fun i=> !(listed.setIfInBounds K true).getD i true) (fun x hx=>by
    rw [px] at hx;simp at hx;simpa using hx.1) (List.range ops.size) K (bg.2 Kt) (by simp [ZL]) (by simp [px])
   omega
  ·intro j hj hL i hi hp
   rw [px] at hL ⊢
   simp only [bA,ah] at hL ⊢
   rcases hL with hL|rfl
   ·exact .inl (pt j hj hL i hi hp)
   ·exact .inl (jq i hi hp)
  ·have e1:(fun i=>(listed.setIfInBounds K true).getD i true)=fun i=>listed.getD i true||decide (i=K):=funext px
   rw [e1]
   rw [Rr,<-hd] at hR'
   exact hR'.congr (fun t=>(qu t).symm) (fun i=>(nk i).symm) ((nb _ _ _ _).2.trans UB.symm) ((ft _ _ _ _).1.trans (ft _ _ _ _).1.symm) ((ft _ _ _ _).2.trans (ft _ _ _ _).2.symm)
  ·intro i hi
   rcases kE i hi with h|h
   ·rcases kr i h with h|⟨j,h1,h2,h3⟩
    ·exact .inl h
    ·exact .inr ⟨j,h1,by rw [px,h2];rfl,h3⟩
   ·exact .inr ⟨K,Kt,by rw [px];simp,h⟩
def QR (o:Oper):Bool:=match o.op with
 |.lookup _ _ _ ok=> !ok
 |_=>false
def Uw (o:Oper):Bool:=match o.op with
 |.mapEntry .. =>true
 |_=>false
def Kz (p:Oper->Bool):List Oper->Nat->Option Nat
 |[],_=>none
 |o::r,k=>bif p o then some k else Kz p r (k+1)
def JW (P:Program) (ops:Array Oper) (dz:List (Nat×fx)) (σ:St) (k0 j0:Nat):Prop:=match ops.toList[k0]?,(trace P ops dz σ.nx ops.toList 0 { σ with nx:=σ.nx+ops.size })[k0]?,(trace P ops dz σ.nx ops.toList 0 { σ with nx:=σ.nx+ops.size })[j0]? with
 |some o,some (_,e),some (_,ej)=>jl P ops (mA dz k0) (σ.nx+k0) { canon ((trace P ops dz σ.nx ops.toList 0 { σ with nx:=σ.nx+ops.size }).take k0) (fun _=>true) 0 { σ with nx:=σ.nx+ops.size } with h:=ej.hw++(canon ((trace P ops dz σ.nx ops.toList 0 { σ with nx:=σ.nx+ops.size }).take k0) (fun _=>true) 0 { σ with nx:=σ.nx+ops.size }).h } o=e
 |_,_,_=>False
def vY (P:Program) (ops:Array Oper) (dz:List (Nat×fx)) (σ:St):Option Prop:=match Kz QR ops.toList 0,Kz Uw ops.toList 0 with
 |some k0,some j0=>bif Nat.blt k0 j0&&lQ k0 j0 (sl ops.toList []) (kQ P ops dz σ.nx ops.toList 0 { σ with nx:=σ.nx+ops.size }) ops.toList (kQ P ops dz σ.nx ops.toList 0 { σ with nx:=σ.nx+ops.size }) 0 then some (JW P ops dz σ k0 j0) else none
 |_,_=>none
theorem yP {σ:St} {a:Act} {w:World} (h:Fits base w0 S0 σ a w) (dr:dw (fq P ops dz σ).2) {p:Prop} (nj:vY P ops dz σ=some p) (hp:p)
 (hQ: ∀a' w',Fits base w0 S0 (fq P ops dz σ).1 a' w'->Q .normal a' w'):wpAnyIn (FW ro) m P .any ops Q ops.size (Array.replicate ops.size false) a { w with drawn:=w.drawn+1 }:=by
 obtain ⟨kn,di,r,hk⟩:=h
 have hnx:=sy (P:=P) ops dz σ.nx ops.toList 0 { σ with nx:=σ.nx+ops.size } []
 obtain ⟨k0,j0,dR,nj,DZ⟩: ∃k0 j0,k0<j0/\lQ k0 j0 (sl ops.toList []) (kQ P ops dz σ.nx ops.toList 0 { σ with nx:=σ.nx+ops.size }) ops.toList (kQ P ops dz σ.nx ops.toList 0 { σ with nx:=σ.nx+ops.size }) 0=true/\JW P ops dz σ k0 j0:=by
  unfold vY at nj
  split at nj
  ·rename_i k0 j0 _ _
   cases hb:Nat.blt k0 j0&&lQ k0 j0 (sl ops.toList []) (kQ P ops dz σ.nx ops.toList 0 { σ with nx:=σ.nx+ops.size }) ops.toList (kQ P ops dz σ.nx ops.toList 0 { σ with nx:=σ.nx+ops.size }) 0 with
   |false=>simp only [hb,ar] at nj;cases nj
   |true=>
    simp only [hb,ao,aa] at nj
    simp only [an] at hb
    subst nj
    exact ⟨k0,j0,aC hb.1,hb.2,hp⟩
  ·cases nj
 have s:qI k0 j0 P ops dz base w0 S0 Q σ.nx { σ with nx:=σ.nx+ops.size }:=by
  refine ⟨rp ops.toList 0 _ [] dr,nj,dR,fun o d dj e ej h1 h2 h3=>by unfold JW at DZ;simp only [h1,h2,h3] at DZ;exact DZ,fun eV du a' w' hR kE=>hQ a' w' ⟨eV,du,?_,fun i hi=> ?_⟩⟩
  ·unfold fq
   rw [pS];exact hR
  ·have:=kE i hi
   show i<(ja P ops dz σ.nx ops.toList 0 { σ with nx:=σ.nx+ops.size } []).1.nx
   rw [hnx.1];exact this
 have Q8: ∀i,(Array.replicate ops.size false).getD i true=decide (ops.size<=i):=by
  intro i
  rw [av,Array.getElem?_replicate]
  by_cases hi:i<ops.size
  ·rw [ag hi]
   have:decide (ops.size<=i)=false:=by simp;omega
   rw [this];rfl
  ·rw [ab hi]
   have:decide (ops.size<=i)=true:=by simp;omega
   rw [this];rfl
 refine s.any ops.size (Array.replicate ops.size false) kn di a _ (by simp) (aV List.countP_le_length (by simp)) (fun j hj hL=> ?_) ?_ fun i hi=> .inl (hk i hi)
 ·rw [Q8] at hL;simp at hL;omega
 ·have e1:(fun i=>(Array.replicate ops.size false).getD i true)=fun i=>decide (ops.size<=i):=funext Q8
  rw [e1]
  have qu: ∀t,(canon (trace P ops dz σ.nx ops.toList 0 { σ with nx:=σ.nx+ops.size }) (fun i=>decide (ops.size<=i)) 0 { σ with nx:=σ.nx+ops.size }).get t=σ.get t:=by
   intro t
   rw [iI]
   refine jo _ _ _ _ fun j v hj=> ?_
   have:=(ai.1 hj).1
   rw [cp,gT] at this
   simp at this ⊢;omega
  have nk: ∀t,(canon (trace P ops dz σ.nx ops.toList 0 { σ with nx:=σ.nx+ops.size }) (fun i=>decide (ops.size<=i)) 0 { σ with nx:=σ.nx+ops.size }).obj t=σ.obj t:=by
   intro t
   rw [gU]
   refine jo _ _ _ _ fun j v hj=> ?_
   have:=(ai.1 hj).1
   rw [cp,gT] at this
   simp at this ⊢;omega
  exact r.drew.congr qu nk (nb _ _ _ _).2 (ft _ _ _ _).1 (ft _ _ _ _).2
theorem va {σ:St} {a:Act} {w:World} {id:Nat} (hm:P.follows .mixedOrders=true) (h:Fits base w0 S0 σ a w) (dr:dw (fq P ops dz σ).2) {p:Prop} (nj:vY P ops dz σ=some p) (hp:p)
 (hQ: ∀a' w',Fits base w0 S0 (fq P ops dz σ).1 a' w'->Q .normal a' w'):(Code.region id ops true).wpIn (FW ro) m P Q a w:=
 wpIn_region_any hm (yP h dr nj hp hQ)
end
end Go.Abs
end
