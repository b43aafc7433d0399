/- Contracts and what they stand on. -/
import Derived.Maps.RangeRun
import Derived.Lib.LazyBuf
import Derived.Test.YtoinjphpfpklmaaGreatDoorK23
set_option linter.unusedVariables false
set_option linter.unusedSimpArgs false
section
namespace Go.Abs
open Go Go.RowKit
def nK:List WA->Nat->Nat->Nat
 |[],_,acc=>acc
 |.arg _::r,k,acc=>nK r (k+1) acc
 |_::r,k,_=>nK r (k+1) (k+1)
theorem na: ∀(l:List WA) (k acc:Nat),acc<=k->acc<=nK l k acc/\nK l k acc<=k+l.length
 |[],k,acc,h=>⟨ae _,by simpa [nK] using h⟩
 |a::r,k,acc,h=>by
  cases a with
  |arg d=>have:=na r (k+1) acc (by omega);simp only [nK,aH];omega
  |row n c c'=>have:=na r (k+1) (k+1) (ae _);simp only [nK,aH];omega
  |box c c'=>have:=na r (k+1) (k+1) (ae _);simp only [nK,aH];omega
theorem vn: ∀{l:List WA} {k acc j:Nat} {a:WA},acc<=k->l[j]? =some a->(∀d,a≠ .arg d)->k+j<nK l k acc
 |x::r,k,acc,0,a,hk,h,hn=>by
  simp only [aL,aa] at h
  subst h
  cases x with
  |arg d=>exact absurd rfl (hn d)
  |row n c c'=>have:=na r (k+1) (k+1) (ae _);simp only [nK];omega
  |box c c'=>have:=na r (k+1) (k+1) (ae _);simp only [nK];omega
 |x::r,k,acc,j+1,a,hk,h,hn=>by
  simp only [aJ] at h
  cases x with
  |arg d=>have:=vn (l:=r) (k:=k+1) (acc:=acc) (by omega) h hn;simp only [nK];omega
  |row n c c'=>have:=vn (l:=r) (k:=k+1) (acc:=k+1) (ae _) h hn;simp only [nK];omega
  |box c c'=>have:=vn (l:=r) (k:=k+1) (acc:=k+1) (ae _) h hn;simp only [nK];omega
def wT:List WA->Nat->List (Nat×DV)
 |[],_=>[]
 |.arg d::r,k=>(k,d)::wT r (k+1)
 |.row n dp _::r,k=>(k,.row dp.length k 0 n)::wT r (k+1)
 |.box _ _::r,k=>(k,.ptr k 0)::wT r (k+1)
def wH:List WA->Nat->List (Nat×Option fF)
 |[],_=>[]
 |.arg _::r,k=>wH r (k+1)
 |.row n dp _::r,k=>(k,some (.row n dp))::wH r (k+1)
 |.box cs _::r,k=>(k,some (.box cs))::wH r (k+1)
def wD:WA->Nat->DV
 |.arg d,_=>d
 |.row n dp _,k=> .row dp.length k 0 n
 |.box _ _,k=> .ptr k 0
def wO:WA->Option fF
 |.arg _=>none
 |.row n dp _=>some (.row n dp)
 |.box cs _=>some (.box cs)
theorem Mc: ∀(l:List WA) (k t:Nat),look (wT l k) t=if k<=t then (l[t - k]?).map fun a=>wD a t else none
 |[],k,t=>by simp [wT,look]
 |a::r,k,t=>by
  have e:look (wT (a::r) k) t=if k=t then some (wD a t) else look (wT r (k+1)) t:=by
   cases a<;>simp only [wT,dG]<;>(by_cases h:k=t<;>simp [h,wD])
  rw [e,Mc r (k+1) t]
  by_cases h:k=t
  ·subst h;simp
  ·rw [ab h]
   by_cases hk:k<=t
   ·rw [ag (by omega),ag hk,show t - k=(t - (k+1))+1 by omega,aJ]
   ·rw [ab (by omega),ab hk]
theorem E4: ∀(l:List WA) (k t:Nat),look (wH l k) t=if k<=t then (l[t - k]?).bind fun a=>(wO a).map some else none
 |[],k,t=>by simp [wH,look]
 |a::r,k,t=>by
  have e:look (wH (a::r) k) t=if k=t then (match wO a with|some o=>some (some o)|none=>look (wH r (k+1)) t) else look (wH r (k+1)) t:=by
   cases a<;>simp only [wH,dG,wO]<;>(by_cases h:k=t<;>simp [h])
  have h0: ∀t,t<=k->look (wH r (k+1)) t=none:=fun t ht=>by rw [E4 r (k+1) t,ab (by omega)]
  rw [e]
  by_cases h:k=t
  ·subst h
   cases ho:wO a<;>simp [ho,h0 k (ae _)]
  ·rw [ab h,E4 r (k+1) t]
   by_cases hk:k<=t
   ·rw [ag (by omega),ag hk,show t - k=(t - (k+1))+1 by omega,aJ]
   ·rw [ab (by omega),ab hk]
def Lk (σ:St) (k:Nat):WA->List Prop
 |.arg _=>[]
 |.row n _ eB=>match σ.get k with
  |.row s id off _=>match off,σ.obj id with
   |0,some (.row n2 c2)=>bif Nat.beq c2.length s then (n<=n2)::QJ (yy 2) c2 eB n else [False]
   |_,_=>[False]
  |_=>[False]
 |.box _ kS=>match σ.get k with
  |.ptr id 0=>match σ.obj id with
   |some (.box c2)=>bif DV.closed.go c2 then E6 (yy 2) c2 kS else [False]
   |_=>[False]
  |_=>[False]
def Yn (σ:St):List WA->Nat->List Prop
 |[],_=>[]
 |a::r,k=>Lk σ k a++Yn σ r (k+1)
theorem Ev {σ:St}: ∀{l:List WA} {k:Nat},dw (Yn σ l k)-> ∀j a,l[j]? =some a->dw (Lk σ (k+j) a)
 |a::r,k,h,0,a',ha=>by cases ha;exact (dw.app h).1
 |a::r,k,h,j+1,a',ha=>by
  have:=Ev (dw.app h).2 j a' (by simpa using ha)
  rwa [show k+1+j=k+(j+1) by omega] at this
 |[],_,_,_,_,ha=>by simp at ha
def Ym (P:Program) (fn:Func) (σ:St):DV->List Prop
 |.row s p off n=>match off,fn.results.toList with
  |0,[rv]=>match DF P σ rv,σ.get p with
   |some (.row s1 id1 off1 len1,vc),.row s2 Wa off2 _=>match off1,off2 with
    |0,0=>bif Nat.beq id1 Wa&&(Nat.beq s1 s2&&(je σ.obj id1 s1&&Nat.blt p σ.lo)) then vc++[len1=n] else [False]
    |_,_=>[False]
   |_,_=>[False]
  |_,_=>[False]
 |d=>bif d.plain then (match lC P σ fn.results.toList with
  |some (ds,vc)=>vc++yy 4 (DG ds) d
  |none=>[False]) else [False]
def LN (P:Program) (fn:Func) (args:List WA) (res:DV) (σ:St):VT:=bif Nat.beq σ.lo (nK args 0 0) then .done (Yn σ args 0++Ym P fn σ res) else .done [False]
def VI (P:Program) (fn:Func) (args:List WA) (res:DV):Exit->St->VT
 |.ret,σ=>LN P fn args res σ
 |.normal,σ=>LN P fn args res σ
 |_,_=> .done [False]
section
variable {P:Program} {base:Nat} {w0 w:World} {S0:Env} {σ:St} {kn:Nat->Prop} {di:Nat->Option Loc} {a:Act}
theorem tZ {fn:Func} {Post:World->Value->Prop} (hwr:S0.wr.heap.size<=base) (jb: ∀a w,R base w0 S0 σ kn di a w-> ∃v,(results fn a.tmps).run P w= .ok v w/\Post w v):
 ∀{ds:List Deferred} {a:Act} {w:World},a.defers=ds->R base w0 S0 σ kn di a w->LeavesInM Fence.wide 1 P fn a.tmps (fun e w'=> ∃v,e= .returned v/\Post w' v) ds .returning w
 |[],a,w,hd,r=>by
  obtain ⟨v,dN,hp⟩:=jb a w r
  exact ⟨v,dN,v,rfl,hp⟩
 |d::ds,a,w,hd,r=>by
  obtain ⟨D,e,hD,hh⟩:=r.qD.2 d (by rw [hd];exact ax)
  have qW:=r.qD.1.1
  rw [hd,cY] at qW
  refine ⟨(by intro h;cases h),.inl ⟨D,_,by rw [e],run_takeDeferred hh,?_⟩⟩
  have r':R base w0 S0 σ kn di { a with defers:=ds } w:=
   ⟨r.below,r.xs,r.fv,⟨⟨qW.2,fun h=>by have h9:=r.qD.1.2 h;rw [hd] at h9;cases h9⟩,fun x hx=>r.qD.2 x (by rw [hd];exact ay _ hx)⟩,r.nM,r.J2,r.lh,r.yk,r.size,r.tmps,r.eC,r.inj,r.ge,r.live,r.yr⟩
  refine tZ hwr jb (a:={ a with defers:=ds }) rfl (r'.grown (grownBy_putObj' w D _) fun k hk=> ?_)
  cases hk
  exact ⟨hD,.inr (nc hh),aV hwr hD,⟨_,hh,rfl⟩,fun x hx e2=>qW.1 (by rw [e,<-e2];exact hx)⟩
def yN:WA->Value->Option Loc
 |.row ..,.slice (some a) _ C=>some (.at_ a.block C)
 |.row ..,_=>some .nil
 |.box ..,.pointer (some a)=>some (.at_ a.block 0)
 |_,_=>none
theorem FnW_of (hm:P.follows .mixedOrders=true) {A:eA} {f:FuncId} {fn:Func} {c:Code} {args:List WA} {res:DV} (hf:P.funcs[f]? =some fn) (hb:fn.body=some c) (hn:(fn.name== "runtime.NumGoroutine")=false) (hlen:args.length<=fn.ntmps)
 (h:(evalCode P A c { t:=wT args 0,h:=wH args 0,nx:=args.length,nt:=fn.ntmps,lo:=nK args 0 0 } (VI P fn args res)).holds) (yU:lB P A:=by exact iQ rfl):WR P f args res:=by
 refine ⟨⟨fn,hf,by rw [hb];rfl,hn⟩,fun S w vs b zz gK hbn N5 hbS A8=>callsIn_wide.1 (callsIn_of_wp_marks (F:=Fence.wide) (n:=1) hf hb trivial ?_)⟩
 have ud: ∀(j:Nat) (x:WA),args[j]? =some x-> ∃v,vs[j]? =some v/\x.pre w S v (b j):=fun j x hx=>by
  have dR:j<vs.size:=by rw [zz];exact (ai.1 hx).1
  exact ⟨_,az dR,gK j x _ hx (az dR)⟩
 -- the blocks that may turn are below
 have Fg: ∀j g,b j=some g->g<w.heap.size:=fun j g hg=>by
  rcases a8 j args.length with hj|hj
  ·obtain ⟨v,_,hp⟩:=ud j _ (ak hj)
   generalize args[j]=x at hp
   cases x with
   |arg d=>rw [hp.1] at hg;cases hg
   |row n dp eB=>
    rcases hp.2 with ⟨_,_,e⟩|⟨g',C,e,_,cv,T,hh,_⟩
    ·rw [e] at hg;cases hg
    ·rw [e] at hg;cases hg;exact ef hh
   |box cs kS=>
    obtain ⟨_,g',e,_,cv,T,hh,_⟩:=hp
    rw [e] at hg;cases hg;exact ef hh
  ·rw [hbn j hj] at hg;cases hg
 let X:Nat->Prop:=fun k=> ∃j,b j=some k
 let S0:Env:=⟨fun k=>S k\/X k,[],w,none,X,fun t=>vs.getD t undef⟩
 let di:Nat->Option Loc:=fun id=>match args[id]?,vs[id]? with
  |some x,some v=>yN x v
  |_,_=>none
 have hblk: ∀id x v,args[id]? =some x->vs[id]? =some v->di id=yN x v:=fun id x v h1 h2=>by simp only [di,h1,h2]
 -- who owns what
 have gu: ∀id l g,di id=some l->l.has g->b id=some g:=fun id l g e hg=>by
  cases hx:args[id]? with
  |none=>simp only [di,hx] at e;cases e
  |some x=>
   obtain ⟨v,hv,hp⟩:=ud id x hx
   rw [hblk id x v hx hv] at e
   cases x with
   |arg d=>cases v<;>simp [yN] at e
   |row n dp eB=>
    rcases hp.2 with ⟨rfl,_,_⟩|⟨g',C,e2,rfl,_⟩
    ·simp only [yN,aa] at e;subst e;exact hg.elim
    ·simp only [yN,aa] at e;subst e;cases hg;exact e2
   |box cs kS=>
    obtain ⟨_,g',e2,rfl,_⟩:=hp
    simp only [yN,aa] at e;subst e;cases hg;exact e2
 have HA: ∀ad u,fu w S ad u->dq w w.heap.size S0 di ad u:=fun ad u ⟨x,y⟩=>⟨x,fun id l e hg=>hbS id _ (gu id l _ e hg) y,.inl (.inl y),fun B h=>by cases h⟩
 have rel: ∀{d:DV} {v:Value} (kn:Nat->Prop),dA (fu w S) d v->Rel (dq w w.heap.size S0 di) kn di d v:=fun {d v} kn h=>ee (h.mono HA (fun _ h=>h) fun _ _ h=>h.elim)
 let kn:Nat->Prop:=fun id=> ∃x,args[id]? =some x/\(wO x).isSome=true
 have nk: ∀id,St.obj { t:=wT args 0,h:=wH args 0,nx:=args.length,nt:=fn.ntmps,lo:=nK args 0 0 } id=(args[id]?).bind wO:=fun id=>by
  unfold St.obj
  simp only [E4,aq,ba,bJ]
  cases args[id]? with
  |none=>rfl
  |some x=>cases hx:wO x<;>simp [hx]
 refine js (A:=A) (ro:=none) (m:=1) (base:=w.heap.size) (w0:=w) (S0:=S0) hm yU c (.inl ⟨⟨rfl,rfl⟩,rfl,ae 1⟩) _ _ _ h (fun e σ' hh a' w' ll=> ?_) _ _ ⟨kn,di,⟨gM.refl _ _ _,fun _ h=> .inr h,ae _,⟨by simp,fun d hd=>by cases hd⟩,⟨ae _,(fun B h=>by cases h),fun _ _ h _ _=>h⟩,(fun h=>absurd rfl h),(fun B h=>by cases h),(fun d v hd=>rel kn (A8 d v (by
  have hd:(d,v)∈SL++([]:List (DV×Value)):=hd
  simpa using hd))),?_,fun t=> ?_,fun id o ho=> ?_,fun i i' l l' g e1 e2 g1 g2=>N5 _ _ _ (gu i l g e1 g1) (gu i' l' g e2 g2),fun i l g e hg=>⟨.inr ⟨i,gu i l g e hg⟩,Fg _ _ (gu i l g e hg)⟩,fun i l e=> ?_,fun t ht=> ?_⟩,fun i ⟨x,hx,_⟩=>(ai.1 hx).1⟩
 ·-- the end
  have fin:(LN P fn args res σ').holds->LeavesInM Fence.wide 1 P fn a'.tmps (fun e w'=> ∃v,e= .returned v/\IB (iC w' S w.heap.size) vs v res/\gM w.heap.size (fun k=> ∃j,b j=some k) w w'/\ ∀(j:Nat) (x:WA) (v:Value),args[j]? =some x->vs[j]? =some v->x.post w' (iC w' S w.heap.size) v) a'.defers .returning w':=by
   intro hh
   obtain ⟨eV,du,r,_⟩:=ll
   unfold LN at hh
   cases j5:Nat.beq σ'.lo (nK args 0 0) with
   |false=>simp only [j5,ar] at hh;exact hh.elim
   |true=>
    simp only [j5,ao] at hh
    have j5:=af j5
    obtain ⟨h1,h2⟩:=dw.app (dC.all hh)
    refine tZ (S0:=S0) (base:=w.heap.size) (w0:=w) (ae w.heap.size) (fun a w' r=> ?_) rfl r
    have Zi:=(na args 0 0 (ae _)).2
    have yr: ∀j v,j<nK args 0 0->vs[j]? =some v->a.tmps.getD j undef=v:=fun j v hj hv=>by
     rw [r.yr j (by rw [j5];exact hj)]
     show vs.getD j undef=v
     rw [av,hv];rfl
    -- each argument's own object
    have row: ∀(j n:Nat) (dp eB:List (Nat->DV)) (v:Value) (g C:Nat),args[j]? =some (.row n dp eB)->vs[j]? =some v->v= .slice (some ⟨g,0,none⟩) n C-> ∃id n2 c2,du id=some (.at_ g C)/\σ'.obj id=some (.row n2 c2)/\n<=n2/\dw (QJ (yy 2) c2 eB n):=fun j n dp eB v g C hx hv Q1=>by
     have he:=Ev h1 j _ hx
     rw [aE] at he
     have ht:=r.tmps j
     rw [yr j v (by have:=vn (k:=0) (acc:=0) (ae _) hx (fun d h=>by cases h);omega) hv,Q1] at ht
     simp only [Lk] at he
     split at he
     ·rename_i s id off len hg
      rw [hg] at ht
      split at he
      ·rename_i n2 c2 fE
       cases Cs:Nat.beq c2.length s with
       |false=>simp only [Cs,ar] at he;exact he.one.elim
       |true=>
        simp only [Cs,ao] at he
        cases ht with
        |row hk hp h0 h=>
         obtain ⟨_,lU⟩:=r.eC _ _ fE
         rcases lU with ⟨hl,_⟩|⟨g',C',cv,T,hl,_⟩
         ·have:=(h0 hl).1;cases this
         ·rcases h g' C' hl with ⟨e1,_⟩|⟨e1,_⟩
          ·simp at e1
           obtain ⟨rfl,rfl,rfl⟩:=e1
           exact ⟨id,n2,c2,hl,fE,he.hd,he.tl⟩
          ·omega
      ·exact he.one.elim
     ·exact he.one.elim
    have box: ∀(j:Nat) (cs kS:List DV) (v:Value) (g:Nat),args[j]? =some (.box cs kS)->vs[j]? =some v->v= .pointer (some ⟨g,0,none⟩)-> ∃id C c2,du id=some (.at_ g C)/\σ'.obj id=some (.box c2)/\DV.closed.go c2=true/\dw (E6 (yy 2) c2 kS):=fun j cs kS v g hx hv Q1=>by
     have he:=Ev h1 j _ hx
     rw [aE] at he
     have ht:=r.tmps j
     rw [yr j v (by have:=vn (k:=0) (acc:=0) (ae _) hx (fun d h=>by cases h);omega) hv,Q1] at ht
     simp only [Lk] at he
     split at he
     ·rename_i id hg
      rw [hg] at ht
      split at he
      ·rename_i c2 fE
       cases Cs:DV.closed.go c2 with
       |false=>simp only [Cs,ar] at he;exact he.one.elim
       |true=>
        simp only [Cs,ao] at he
        cases ht with
        |ptr hk hp h=>
         obtain ⟨_,g',C',cv,T,hl,_⟩:=r.eC _ _ fE
         have:=h g' C' hl
         simp at this
         subst this
         exact ⟨id,C',c2,hl,fE,Cs,he⟩
      ·exact he.one.elim
     ·exact he.one.elim
    have owned: ∀g,X g-> ∃id l,du id=some l/\l.has g:=fun g ⟨j,hj⟩=>by
     have Rl:j<args.length:=by
      rcases a8 j args.length with h|h
      ·exact h
      ·rw [hbn j h] at hj;cases hj
     have hx:=ak Rl
     obtain ⟨v,hv,hp⟩:=ud j _ hx
     generalize args[j]=x at hx hp
     cases x with
     |arg d=>rw [hp.1] at hj;cases hj
     |row n dp eB=>
      rcases hp.2 with ⟨_,_,e⟩|⟨g',C,e,Q1,_⟩
      ·rw [e] at hj;cases hj
      ·rw [e] at hj;cases hj
       obtain ⟨id,_,_,hl,_⟩:=row j n dp eB v g C hx hv Q1
       exact ⟨id,_,hl,rfl⟩
     |box cs kS=>
      obtain ⟨_,g',e,Q1,_⟩:=hp
      rw [e] at hj;cases hj
      obtain ⟨id,C,_,hl,_⟩:=box j cs kS v g hx hv Q1
      exact ⟨id,_,hl,rfl⟩
    have Mo: ∀ad u,dq w' w.heap.size S0 du ad u->iC w' S w.heap.size ad u:=fun ad u ⟨x,y,z,_⟩=>⟨x,by
     rcases z with (z|z)|z
     ·exact .inl z
     ·obtain ⟨id,l,e,hg⟩:=owned _ z
      exact absurd hg (y id l e)
     ·exact .inr z⟩
    have relr: ∀{d:DV} {v:Value},dA (dq w' w.heap.size S0 du) d v->dA (iC w' S w.heap.size) d v:=fun h=>h.mono Mo (fun _ h=>h) fun _ _ h=>h.elim
    have post: ∀(j:Nat) (x:WA) (v:Value),args[j]? =some x->vs[j]? =some v->x.post w' (iC w' S w.heap.size) v:=fun j x v hx hv=>by
     cases x with
     |arg d=>trivial
     |row n dp eB=>
      intro g C Q1
      obtain ⟨id,n2,c2,hl,fE,Rg,hle⟩:=row j n dp eB v g C hx hv Q1
      obtain ⟨_,lU⟩:=r.eC _ _ fE
      rcases lU with ⟨oI,_⟩|⟨g',C',cv,T,oI,hh,eW,jO,kf⟩
      ·rw [hl] at oI;cases oI
      ·rw [hl] at oI
       cases oI
       obtain ⟨k1,k2⟩:=jB hle
       refine ⟨cv,T,hh,by rw [<-k1];exact eW,by omega,fun i q f hi hq=> ?_⟩
       have hql:q<c2.length:=by rw [k1];exact (ai.1 hq).1
       have S6:=ak hql
       obtain ⟨u,hu,ho,hr⟩:=kf i q _ (by omega) S6
       exact ⟨u,by rw [<-k1];exact hu,ho,fG 2 (k2 q _ f S6 hq i hi) (relr hr)⟩
     |box cs kS=>
      intro g Q1
      obtain ⟨id,C,c2,hl,fE,iH,hle⟩:=box j cs kS v g hx hv Q1
      obtain ⟨_,g',C',cv,T,oI,hh,eW,hr,ho⟩:=r.eC _ _ fE
      rw [hl] at oI
      cases oI
      obtain ⟨k1,k2⟩:=pg hle
      refine ⟨cv,T,hh,by rw [<-k1];exact eW,fun q d u hd hu=> ?_,ho⟩
      have hql:q<c2.length:=by rw [k1];exact (ai.1 hd).1
      have S6:=ak hql
      exact fG 2 (k2 q _ d S6 hd) (relr ((hr q _ u S6 hu).close (fH iH _ (aD S6))))
    have plain: ∀d0:DV,d0=res->(∀s p off n,d0≠ .row s p off n)-> ∃v,(results fn a.tmps).run P w'= .ok v w'/\IB (iC w' S w.heap.size) vs v d0:=fun d0 Rt ji=>by
     rw [<-Rt] at h2
     have h3:dw (bif d0.plain then (match lC P σ' fn.results.toList with
      |some (ds,vc)=>vc++yy 4 (DG ds) d0
      |none=>[False]) else [False]):=by
      unfold Ym at h2
      split at h2
      ·exact absurd rfl (ji _ _ _ _)
      ·exact h2
     cases NP:d0.plain with
     |false=>simp only [NP,ar] at h3;exact h3.one.elim
     |true=>
      simp only [NP,ao] at h3
      split at h3
      ·rename_i ds vc Wo
       obtain ⟨k1,k2⟩:=dw.app h3
       obtain ⟨v,dN,hrel⟩:=ry r Wo k1
       refine ⟨v,dN,?_⟩
       have hrel2:dA (iC w' S w.heap.size) d0 v:=(fG 4 k2 hrel).plain NP
       unfold IB
       split
       ·exact absurd rfl (ji _ _ _ _)
       ·exact hrel2
      ·exact h3.one.elim
    have done: ∃v,(results fn a.tmps).run P w'= .ok v w'/\IB (iC w' S w.heap.size) vs v res:=by
     generalize Rt:res=d0 at h2
     cases d0 with
     |row s p off n=>
      simp only [Ym] at h2
      split at h2
      ·rename_i rv S4
       split at h2
       ·rename_i s1 id1 off1 len1 vc s2 Wa off2 len2 jb hp
        split at h2
        ·cases hq:(Nat.beq id1 Wa&&(Nat.beq s1 s2&&(je σ'.obj id1 s1&&Nat.blt p σ'.lo))) with
         |false=>simp only [hq,ar] at h2;exact h2.one.elim
         |true=>
          simp only [hq,ao] at h2
          simp only [an] at hq
          obtain ⟨q1,q2,q3,q4⟩:=hq
          obtain rfl:=af q1
          obtain rfl:=af q2
          obtain ⟨k1,k2⟩:=dw.app h2
          have lk:=k2.one
          obtain ⟨v,dN,hrel⟩:=rz r S4 jb k1
          have hpp:p<nK args 0 0:=by rw [<-j5];exact aC q4
          have NP:p<vs.size:=by omega
          have hvp:=az NP
          have ht:=r.tmps p
          rw [yr p _ hpp hvp,hp] at ht
          refine ⟨v,dN,?_⟩
          unfold IB
          simp only
          obtain ⟨_,a1⟩:=kJ r q3 hrel
          obtain ⟨_,a2⟩:=kJ r q3 ht
          rcases a1 with ⟨e1,_,e2,Rk⟩|⟨g,C,e1,e2,Rk⟩|⟨e0,_⟩
          ·rcases a2 with ⟨f1,_,f2,_⟩|⟨g',C',f1,f2,oI⟩|⟨f0,_⟩
           ·exact .inl ⟨by rw [hvp,f1],e1,by omega⟩
           ·rw [Rk] at oI;cases oI
           ·omega
          ·rcases a2 with ⟨f1,_,f2,oI⟩|⟨g',C',f1,f2,oI⟩|⟨f0,_⟩
           ·rw [Rk] at oI;cases oI
           ·rw [Rk] at oI
            cases oI
            exact .inr ⟨g,len2,C,by rw [hvp,f1];simp,by rw [e1,<-lk];simp,by omega⟩
           ·omega
          ·omega
        ·exact h2.one.elim
       ·exact h2.one.elim
      ·exact h2.one.elim
     |_=>exact plain _ Rt.symm (by simp)
    obtain ⟨v,dN,jb⟩:=done
    exact ⟨v,dN,jb,r.below,post⟩
  cases e with
  |ret=>exact fin hh
  |normal=>exact fin hh
  |_=>exact hh.elim
 ·simp;omega
 ·unfold St.get
  simp only [Mc,aq,ba,bJ]
  cases ht:args[t]? with
  |none=>exact .any _
  |some x=>
   obtain ⟨v,hv,hp⟩:=ud t x ht
   have dR:=(aF.1 hv).1
   have e:(vs++Array.replicate (fn.ntmps - vs.size) undef).getD t undef=v:=by
    simp only [av,cS,dR,ba,hv,cD]
   show Rel _ _ _ (wD x t) _
   first|rw [e]|skip
   have kr:(wO x).isSome=true->kn t:=fun h=>⟨x,ht,h⟩
   have hb:=hblk t x v ht hv
   cases x with
   |arg d=>exact rel kn hp.2
   |row n dp eB=>
    rcases hp.2 with ⟨rfl,h0,_⟩|⟨g,C,_,rfl,cv,T,_,_,hn,_⟩
    ·subst h0
     refine .row (kr rfl) ⟨_,_,rfl,fun _=>rfl⟩ (fun _=>⟨rfl,rfl,rfl⟩) (fun g C e=> ?_) fun g o C e=> ?_<;>(rw [hb] at e;simp [yN] at e)
    ·refine .row (kr rfl) ⟨_,_,rfl,fun h=>by cases h⟩ (fun e=> ?_) (fun g' C' e=> ?_) fun g' o' C' e=> ?_
     ·rw [hb] at e;simp [yN] at e
     rotate_left
     ·rw [hb] at e;simp [yN] at e
     ·rw [hb] at e
      simp only [yN,aa,Loc.at_.injEq] at e
      obtain ⟨rfl,rfl⟩:=e
      exact .inl ⟨by simp,by omega⟩
   |box cs kS=>
    obtain ⟨_,g,_,rfl,_⟩:=hp
    refine .ptr (kr rfl) ⟨_,rfl⟩ fun g' C' e=> ?_
    rw [hb] at e
    simp only [yN,aa,Loc.at_.injEq] at e
    rw [e.1]
 ·rw [nk] at ho
  cases hx:args[id]? with
  |none=>simp [hx] at ho
  |some x=>
   simp only [hx,Option.bind_some] at ho
   obtain ⟨v,hv,hp⟩:=ud id x hx
   have hb:=hblk id x v hx hv
   refine ⟨⟨x,hx,by rw [ho];rfl⟩,?_⟩
   rw [hb]
   cases x with
   |arg d=>cases ho
   |row n dp eB=>
    cases ho
    rcases hp.2 with ⟨rfl,h0,_⟩|⟨g,C,_,rfl,cv,T,hh,eW,hn,hc⟩
    ·exact .inl ⟨rfl,h0⟩
    ·exact .inr ⟨g,C,cv,T,rfl,hh,eW,hn,fun i j f hi hj=>let ⟨u,a,b,c⟩:=hc i j f hi hj;⟨u,a,b,c.mono HA (fun _ h=>h) fun _ _ h=>h.elim⟩⟩
   |box cs kS=>
    cases ho
    obtain ⟨_,g,_,rfl,cv,T,hh,eW,hr,h1⟩:=hp
    exact ⟨g,0,cv,T,rfl,hh,eW,fun j d u hd hu=>rel kn (hr j d u hd hu),h1⟩
 ·rw [nk]
  cases hx:args[i]? with
  |none=>simp only [di,hx] at e;cases e
  |some x=>
   obtain ⟨v,hv,hp⟩:=ud i x hx
   rw [hblk i x v hx hv] at e
   cases x with
   |arg d=>cases v<;>simp [yN] at e
   |row n dp eB=>exact ⟨_,rfl⟩
   |box cs kS=>exact ⟨_,rfl⟩
 ·show _=vs.getD t undef
  have ht:t<nK args 0 0:=ht
  have Zi:=(na args 0 0 (ae _)).2
  have dR:t<vs.size:=by omega
  simp only [av,cS,dR,ba]
def VR (P:Program) (A:eA) (f:FuncId) (args:List WA) (res:DV):VT:=match P.funcs[f]? with
 |some fn=>match fn.body with
  |some c=>bif (!(fn.name== "runtime.NumGoroutine"))&&Nat.ble args.length fn.ntmps then
    evalCode P A c { t:=wT args 0,h:=wH args 0,nx:=args.length,nt:=fn.ntmps,lo:=nK args 0 0 } (VI P fn args res) else .done [False]
  |none=> .done [False]
 |none=> .done [False]
theorem ID (hm:P.follows .mixedOrders=true) {f:FuncId} {args:List WA} {res:DV} {V:VT} (A:eA) (e:VR P A f args res=V) (h:V.holds) (yU:lB P A:=by exact iQ rfl):WR P f args res:=by
 subst e
 unfold VR at h
 split at h
 ·rename_i fn hf
  split at h
  ·rename_i c hb
   cases hx:((!(fn.name== "runtime.NumGoroutine"))&&Nat.ble args.length fn.ntmps) with
   |false=>simp only [hx,ar] at h;exact h.elim
   |true=>
    simp only [hx,ao] at h
    simp only [an,aM] at hx
    exact FnW_of hm hf hb hx.1 (aC hx.2) h yU
  ·exact h.elim
 ·exact h.elim
end
end Go.Abs
end
section
namespace Go.Abs
open Go.RowKit
def LP (P:Program) (fn:Func) (n k c:Nat) (kS:List DV) (res:DV) (σ:St):VT:=bif Nat.beq σ.lo n then (match σ.get k with
 |.jt _ kj=>match kj[c]? with
  |some (.ptr id 0)=>match σ.obj id,lC P (σ.setObj id none) fn.results.toList with
   |some (.box c2),some (ds,vc)=>bif DV.closed.go c2 then .done (E6 (yy 2) c2 kS++(vc++yy 4 (DG ds) res)) else .done [False]
   |_,_=> .done [False]
  |_=> .done [False]
 |_=> .done [False]) else .done [False]
def VJ (P:Program) (fn:Func) (n k c:Nat) (kS:List DV) (res:DV):Exit->St->VT
 |.ret,σ=>LP P fn n k c kS res σ
 |.normal,σ=>LP P fn n k c kS res σ
 |_,_=> .done [False]
def ML (args:List DV) (k c:Nat):Bool:=match args[k]? with
 |some (.jt _ kj)=>match kj[c]? with
  |some (.ptr 0 0)=>true
  |_=>false
 |_=>false
section
variable {P:Program} {base:Nat} {w0 w:World} {σ:St} {kn:Nat->Prop} {di:Nat->Option Loc} {a:Act}
theorem R.yield {S:Nat->Prop} {wr:World} {pv:Nat->Value} {g:Nat} (r:R base w0 ⟨fun k=>S k\/k=g,[],wr,none,fun k=>k=g,pv⟩ σ kn di a w) {id C:Nat} (fJ:di id=some (.at_ g C)) (nk: ∃o,w.heap[g]? =some o) (hw0:base<=w0.heap.size):
 ∃w1,R base w1 ⟨S,[],wr,none,fun _=>False,pv⟩ (σ.setObj id none) kn (fun i=>if i=id then none else di i) a w:=by
 obtain ⟨o,hh⟩:=nk
 have Mo: ∀ad u,dq w base ⟨fun k=>S k\/k=g,[],wr,none,fun k=>k=g,pv⟩ di ad u->dq w base ⟨S,[],wr,none,fun _=>False,pv⟩ (fun i=>if i=id then none else di i) ad u:=fun ad u ⟨x,y,z,_⟩=>⟨x,fun i l e hg=>by
  have e:(if i=id then none else di i)=some l:=e
  split at e
  ·cases e
  ·exact y i l e hg,by
  rcases z with (z|z)|z
  ·exact .inl z
  ·exact absurd z (y id _ fJ)
  ·exact .inr z,fun B hB=>by cases hB⟩
 have HG: ∀(i:Nat) (l:Loc),kn i->(if i=id then none else di i)=some l-> ∃l0,di i=some l0/\l0.core=l.core:=fun i l _ e=>by
  split at e
  ·cases e
  ·exact ⟨l,e,rfl⟩
 have c:SF w w kn kn di (fun i=>if i=id then none else di i):=⟨ae _,fun _ _ _=>rfl,fun i l k e hg=>by
  have e:(if i=id then none else di i)=some l:=e
  split at e
  ·cases e
  ·exact .inl ⟨i,l,e,hg⟩,fun _ h=>h,HG,fun i v hi e=>by
  show (if i=id then none else di i)=_
  split
  ·rename_i h;subst h;rw [fJ] at e;cases e
  ·exact e⟩
 have rel: ∀{d v},Rel (dq w base ⟨fun k=>S k\/k=g,[],wr,none,fun k=>k=g,pv⟩ di) kn di d v->Rel (dq w base ⟨S,[],wr,none,fun _=>False,pv⟩ (fun i=>if i=id then none else di i)) kn (fun i=>if i=id then none else di i) d v:=fun h=>h.mono Mo (fun _ h=>h) HG
 have tL: ∀{d v},dA (dq w base ⟨fun k=>S k\/k=g,[],wr,none,fun k=>k=g,pv⟩ di) d v->dA (dq w base ⟨S,[],wr,none,fun _=>False,pv⟩ (fun i=>if i=id then none else di i)) d v:=fun h=>h.mono Mo (fun _ h=>h) fun _ _ h=>h.elim
 have obj: ∀{l:Option Loc} {o:fF},iu w (dq w base ⟨fun k=>S k\/k=g,[],wr,none,fun k=>k=g,pv⟩ di) kn di l o->iu w (dq w base ⟨S,[],wr,none,fun _=>False,pv⟩ (fun i=>if i=id then none else di i)) kn (fun i=>if i=id then none else di i) l o:=fun {l o} h=>by
  have h:=h.rd Mo
  have qY: ∀t v,di t=some (.is v)->(if t=id then none else di t)=some (.is v):=fun t v e=>by
   rw [ab (fun h=>by rw [h,fJ] at e;cases e)];exact e
  cases o with
  |box cs=>
   obtain ⟨g,C,cv,T,hl,hh,hs,hr,h1⟩:=h
   exact ⟨g,C,cv,T,hl,hh,hs,fun j d u a b=>(hr j d u a b).mono (fun _ _ h=>h) (fun _ h=>h) HG,h1⟩
  |map ks has eQ hot'=>
   obtain ⟨g,es,clock,h1,h2,h3,h4,h5⟩:=h
   exact ⟨g,es,clock,h1,h2,h3,h4,fun t k e=>let ⟨e',a,b,c⟩:=h5 t k e;⟨e',a,b,qY _ _ c⟩⟩
  |np ks len eQ hot' sV=>
   obtain ⟨g,bs,es,clock,h1,h2,h3,h4,h5⟩:=h
   exact ⟨g,bs,es,clock,h1,h2,h3,h4,fun t k e=>let ⟨v,a,b⟩:=h5 t k e;⟨v,qY _ _ a,b⟩⟩
  |_=>exact h
 have UC: ∀{i:Nat} {l:Loc},(if i=id then none else di i)=some l->i≠id/\di i=some l:=fun {i l} e=>by
  split at e
  ·cases e
  ·rename_i h;exact ⟨h,e⟩
 have hgs:=ef hh
 refine ⟨{ w0 with heap:=w0.heap.setIfInBounds g o },⟨⟨r.below.os,r.below.tape,r.below.output,by simpa using r.below.size,fun k hk _=> ?_,r.below.drawn⟩,fun _ h=>h.elim,r.fv,⟨⟨r.qD.1.1,fun h=>by cases h⟩,r.qD.2⟩,⟨r.nM.1,(fun B h=>by cases h),r.nM.2.2⟩,(fun h=>absurd rfl h),(fun B h=>by cases h),fun d v h=>rel (r.yk d v h),r.size,fun t=>rel (r.tmps t),fun i o' h=> ?_,fun i i' l l' k h1 h2 h3 h4=>r.inj _ _ _ _ _ (UC h1).2 (UC h2).2 h3 h4,fun i l k e hg=> ?_,fun i l e=> ?_,r.yr⟩⟩
 ·show w.heap[k]? =(w0.heap.setIfInBounds g o)[k]?
  rw [bp]
  by_cases e:g=k
  ·subst e
   rw [ag rfl]
   split
   ·exact hh
   ·rename_i h9
    exact absurd (bt hk hw0) h9
  ·rw [ab e]
   exact r.below.block k hk fun h=>e h.symm
 ·rw [St.dH] at h
  by_cases e:id=i
  ·rw [ag e] at h;cases h
  ·rw [ab e] at h
   obtain ⟨k1,k2⟩:=r.eC i o' h
   refine ⟨k1,?_⟩
   rw [ab (fun h=>e h.symm)]
   exact obj k2
 ·obtain ⟨ji,e⟩:=UC e
  obtain ⟨h1,h2⟩:=r.ge _ _ _ e hg
  refine ⟨.inl (h1.elim (fun h=>h) fun h=> ?_),h2⟩
  have h:k=g:=h
  subst h
  exact absurd (r.inj _ _ _ _ k e fJ hg rfl) ji
 ·obtain ⟨ji,e⟩:=UC e
  obtain ⟨o',mJ⟩:=r.live i l e
  exact ⟨o',by rw [St.dH,ab (fun h=>ji h.symm)];exact mJ⟩
theorem FnS_of (hm:P.follows .mixedOrders=true) {A:eA} {f:FuncId} {fn:Func} {c:Code} {args:List DV} {k cc:Nat} {cs kS:List DV} {res:DV} (hf:P.funcs[f]? =some fn) (hb:fn.body=some c) (hn:(fn.name== "runtime.NumGoroutine")=false) (hlen:args.length<=fn.ntmps) (Kn:ML args k cc=true)
 (h:(evalCode P A c { t:=entry args 0,h:=[(0,some (.box cs))],nx:=1,nt:=fn.ntmps,lo:=args.length } (VJ P fn args.length k cc kS res)).holds) (yU:lB P A:=by exact iQ rfl):FnS P f args cs kS res:=by
 refine ⟨⟨fn,hf,by rw [hb];rfl,hn⟩,fun S w vs g zz gK ZG hSg A8=>callsIn_wide.1 (callsIn_of_wp_marks (F:=Fence.wide) (n:=1) hf hb trivial ?_)⟩
 obtain ⟨cv,T,hh,eW,kf,ho⟩:=ZG
 have Gn: ∀{i:Nat} {l:Loc},td g i=some l->i=0/\l= .at_ g 0:=fun {i l} e=>by
  unfold td at e
  split at e
  ·rename_i h;cases e;exact ⟨h,rfl⟩
  ·cases e
 have HA: ∀ad u,fu w S ad u->dq w w.heap.size ⟨fun k=>S k\/k=g,[],w,none,fun k=>k=g,fun t=>vs.getD t undef⟩ (td g) ad u:=fun ad u ⟨x,y⟩=>⟨x,fun id l e hg=>(by
  obtain ⟨_,rfl⟩:=Gn e
  have hg:ad.block=g:=hg
  exact hSg (hg▸y)),.inl (.inl y),fun B h=>by cases h⟩
 have rel: ∀{d:DV} {v:Value},Rel (fu w S) (fun i=>i=0) (td g) d v->Rel (dq w w.heap.size ⟨fun k=>S k\/k=g,[],w,none,fun k=>k=g,fun t=>vs.getD t undef⟩ (td g)) (fun i=>i=0) (td g) d v:=fun h=>h.mono HA (fun _ h=>h) fun _ l _ e=>⟨l,e,rfl⟩
 have tL: ∀{d:DV} {v:Value},dA (fu w S) d v->Rel (dq w w.heap.size ⟨fun k=>S k\/k=g,[],w,none,fun k=>k=g,fun t=>vs.getD t undef⟩ (td g)) (fun i=>i=0) (td g) d v:=fun h=>ee (h.mono HA (fun _ h=>h) fun _ _ h=>h.elim)
 refine js (A:=A) (ro:=none) (m:=1) (base:=w.heap.size) (w0:=w) (S0:=⟨fun k=>S k\/k=g,[],w,none,fun k=>k=g,fun t=>vs.getD t undef⟩) hm yU c (.inl ⟨⟨rfl,rfl⟩,rfl,ae 1⟩) _ _ _ h (fun e σ' SV a' w' ll=> ?_) _ _ ⟨fun i=>i=0,td g,⟨gM.refl _ _ _,fun _ h=> .inr h,ae _,⟨by simp,fun d hd=>by cases hd⟩,⟨ae _,(fun B h=>by cases h),fun _ _ h _ _=>h⟩,(fun h=>absurd rfl h),(fun B h=>by cases h),(fun d v hd=>tL (A8 d v (by
  have hd:(d,v)∈SL++([]:List (DV×Value)):=hd
  simpa using hd))),?_,fun t=> ?_,fun id o mJ=> ?_,fun i i' l l' k e1 e2 g1 g2=>by rw [(Gn e1).1,(Gn e2).1],fun i l k e hg=> ?_,fun i l e=> ?_,fun t ht=> ?_⟩,fun i hi=> ?_⟩
 ·-- the end
  have fin:(LP P fn args.length k cc kS res σ').holds->LeavesInM Fence.wide 1 P fn a'.tmps (fun e w'=> ∃v,e= .returned v/\dA (iC w' S w.heap.size) res v/\gM w.heap.size (fun k=>k=g) w w'/\IF w' (iC w' S w.heap.size) g kS) a'.defers .returning w':=by
   intro hh
   obtain ⟨eV,du,r,_⟩:=ll
   unfold LP at hh
   cases j5:Nat.beq σ'.lo args.length with
   |false=>simp only [j5,ar] at hh;exact hh.elim
   |true=>
    simp only [j5,ao] at hh
    have j5:=af j5
    split at hh
    ·rename_i f1 caps1 hg1
     split at hh
     ·rename_i id UL
      split at hh
      ·rename_i c2 ds vc fE jb
       cases iH:DV.closed.go c2 with
       |false=>simp only [iH,ar] at hh;exact hh.elim
       |true=>
        simp only [iH,ao] at hh
        obtain ⟨h1,h2⟩:=dw.app (dC.all hh)
        obtain ⟨h2,h3⟩:=dw.app h2
        refine tZ (base:=w.heap.size) (w0:=w) (ae w.heap.size) (fun a w' r=> ?_) rfl r
        -- the captured pointer
        obtain ⟨f0,Ih,NW,Ff⟩: ∃f0 Ih,args[k]? =some (.jt f0 Ih)/\Ih[cc]? =some (.ptr 0 0):=by
         unfold ML at Kn
         split at Kn
         ·rename_i f0 Ih NW
          split at Kn
          ·rename_i Ff;exact ⟨f0,Ih,NW,Ff⟩
          ·cases Kn
         ·cases Kn
        have pq:k<vs.size:=by rw [zz];exact (ai.1 NW).1
        have hvk:=az pq
        have Ra:=gK k _ _ NW hvk
        have ht:=r.tmps k
        rw [r.yr k (by rw [j5,<-zz];exact pq),hg1] at ht
        have e0:(⟨fun k=>S k\/k=g,[],w,none,fun k=>k=g,fun t=>vs.getD t undef⟩:Env).pv k=vs[k]:=by
         show vs.getD k undef=_
         rw [av,hvk];rfl
        rw [e0] at ht
        generalize vs[k]=vk at Ra ht
        have hpt: ∃u,Rel (fu w S) (fun i=>i=0) (td g) (.ptr 0 0) u/\Rel (dq w' w.heap.size ⟨fun k=>S k\/k=g,[],w,none,fun k=>k=g,fun t=>vs.getD t undef⟩ du) eV du (.ptr id 0) u:=by
         cases Ra with
         |jt Wh Ra=>
          cases ht with
          |jt Jr hr1=>
           rename_i us
           have Fc:cc<us.size:=by rw [Wh];exact (ai.1 Ff).1
           have hu:=az Fc
           exact ⟨_,Ra cc _ _ Ff hu,hr1 cc _ _ UL hu⟩
        obtain ⟨u,Y9,hu1⟩:=hpt
        obtain ⟨_,g',C',s9,T',lG,SV,rR,O5,mJ⟩:=r.eC _ _ fE
        have hgg:g'=g:=by
         cases Y9 with
         |ptr _ _ q0=>
          have q0:=q0 g 0 rfl
          cases hu1 with
          |ptr _ _ q1=>
           have q1:=q1 g' C' lG
           rw [q0] at q1
           simp at q1
           exact q1.symm
        subst hgg
        obtain ⟨w1,r1⟩:=r.yield lG ⟨_,SV⟩ (ae _)
        obtain ⟨v,dN,hrel⟩:=ry r1 jb h2
        have hrd2: ∀ad u,dq w' w.heap.size ⟨fun k=>S k\/k=g',[],w,none,fun k=>k=g',fun t=>vs.getD t undef⟩ du ad u->iC w' S w.heap.size ad u:=fun ad u ⟨x,y,z,_⟩=>⟨x,by
         rcases z with (z|z)|z
         ·exact .inl z
         ·exact absurd z (y id _ lG)
         ·exact .inr z⟩
        obtain ⟨k1,k2⟩:=pg h1
        refine ⟨v,dN,fG 4 h3 hrel,r.below,s9,T',SV,by rw [<-k1];exact rR,fun q d u hd hu=> ?_,mJ⟩
        have hql:q<c2.length:=by rw [k1];exact (ai.1 hd).1
        have S6:=ak hql
        exact fG 2 (k2 q _ d S6 hd) (((O5 q _ u S6 hu).close (fH iH _ (aD S6))).mono hrd2 (fun _ h=>h) fun _ _ h=>h.elim)
      ·exact hh.elim
     ·exact hh.elim
    ·exact hh.elim
  cases e with
  |ret=>exact fin SV
  |normal=>exact fin SV
  |_=>exact SV.elim
 ·simp;omega
 ·unfold St.get
  simp only [p7,aq,ba,bJ]
  cases ht:args[t]? with
  |none=>exact .any _
  |some d=>
   have dR:t<vs.size:=by rw [zz];exact (ai.1 ht).1
   have hv:vs[t]? =some vs[t]:=az dR
   have:=rel (gK t d _ ht hv)
   simp only [av,cS,dR,ba,hv,cD]
   exact this
 ·unfold St.obj at mJ
  simp only [dG] at mJ
  by_cases e:(0:Nat)=id
  ·subst e
   simp only [ba,aa] at mJ
   subst mJ
   exact ⟨rfl,g,0,cv,T,rfl,hh,eW,fun j d u hd hu=>tL (kf j d u hd hu),ho⟩
  ·simp [e,look] at mJ
 ·obtain ⟨_,rfl⟩:=Gn e
  have hg:k=g:=hg
  subst hg
  exact ⟨.inr rfl,ef hh⟩
 ·obtain ⟨rfl,_⟩:=Gn e
  exact ⟨.box cs,rfl⟩
 ·show _=vs.getD t undef
  have ht:t<args.length:=ht
  have dR:t<vs.size:=by omega
  simp only [av,cS,dR,ba]
 ·have hi:i=0:=hi
  show i<1
  omega
def VS (P:Program) (A:eA) (f:FuncId) (args:List DV) (k c:Nat) (cs kS:List DV) (res:DV):VT:=match P.funcs[f]? with
 |some fn=>match fn.body with
  |some code=>bif (!(fn.name== "runtime.NumGoroutine"))&&(Nat.ble args.length fn.ntmps&&ML args k c) then
    evalCode P A code { t:=entry args 0,h:=[(0,some (.box cs))],nx:=1,nt:=fn.ntmps,lo:=args.length } (VJ P fn args.length k c kS res) else .done [False]
  |none=> .done [False]
 |none=> .done [False]
theorem SD (hm:P.follows .mixedOrders=true) {f:FuncId} {args:List DV} {k c:Nat} {cs kS:List DV} {res:DV} {V:VT} (A:eA) (e:VS P A f args k c cs kS res=V) (h:V.holds) (yU:lB P A:=by exact iQ rfl):FnS P f args cs kS res:=by
 subst e
 unfold VS at h
 split at h
 ·rename_i fn hf
  split at h
  ·rename_i code hb
   cases hx:((!(fn.name== "runtime.NumGoroutine"))&&(Nat.ble args.length fn.ntmps&&ML args k c)) with
   |false=>simp only [hx,ar] at h;exact h.elim
   |true=>
    simp only [hx,ao] at h
    simp only [an,aM] at hx
    exact FnS_of hm hf hb hx.1 (aC hx.2.1) hx.2.2 h yU
  ·exact h.elim
 ·exact h.elim
end
end Go.Abs
end
section
namespace Go.Abs
open Go.RowKit
open Go.ChangeMaps (setBlock)
structure Jw where
 i0:Nat
 tm:Tmp
 t1:Tmp
 ty:TypeId
 it:Tmp
 id:Nat
 i1:Nat
 tn:Tmp
 tc:Tmp
 Wa:Nat
 i2:Nat
 te:Tmp
 tl:List Oper
 rest:Code
 x0:TypeId×String×Array Edge
 x1:TypeId×String×Array Edge
 x2:TypeId×String×Array Edge
 x3:TypeId×String×Array Edge
 x4:TypeId×String×Array Edge
def Jw.mv (s:Jw):Oper:={ dst:=some s.t1,op:= .move (.tmp s.tm),type:=s.x0.1,pos:=s.x0.2.1,after:=s.x0.2.2,guard:=none }
def Jw.rg (s:Jw):Oper:={ dst:=some s.it,op:= .range s.ty (.tmp s.t1),type:=s.x1.1,pos:=s.x1.2.1,after:=s.x1.2.2,guard:=none }
def Jw.nxt (s:Jw):Oper:={ dst:=some s.tn,op:= .next (.tmp s.it) false,type:=s.x2.1,pos:=s.x2.2.1,after:=s.x2.2.2,guard:=none }
def Jw.ex (s:Jw):Oper:={ dst:=some s.tc,op:= .extract (.tmp s.tn) 0,type:=s.x3.1,pos:=s.x3.2.1,after:=s.x3.2.2,guard:=none }
def Jw.en (s:Jw):Oper:={ dst:=some s.te,op:= .entry (.tmp s.it),type:=s.x4.1,pos:=s.x4.2.1,after:=s.x4.2.2,guard:=none }
def Jw.a (s:Jw):Code:= .region s.i0 #[s.mv,s.rg] false
def Jw.body (s:Jw):Code:= .seq (.region s.i1 #[s.nxt,s.ex] false) (.seq (.cond (.tmp s.tc) .skip (.exit s.id)) (.block s.Wa (.seq (.region s.i2 (s.en::s.tl).toArray false) s.rest)))
def Jw.b (s:Jw):Code:= .block s.id (.loop s.body)
structure WQ:Type 1 where
 β:Type
 dec:β->List Int
 keyD:β->Value
 keep:List Nat
 boxes:List Nat
 ts:St->List (List Int)->List (Nat×DV):=fun _ _=>[]
 bx:St->List (List Int)->List (Nat×List DV):=fun _ _=>[]
 rw:St->List (List Int)->List (Nat×Nat×Nat×List (Nat->DV)):=fun _ _=>[]
 rb:St->List (List Int)->List (Nat×Nat×Nat×Nat×List (Nat->DV)):=fun _ _=>[]
 mo:St->List (List Int)->List (Nat×Option Nat×fF):=fun _ _=>[]
 inv:St->List (List Int)->Prop
def WQ.note (C:WQ):BM:={ ι:=List (List Int),keep:=C.keep,boxes:=C.boxes,ts:=C.ts,bx:=C.bx,rw:=C.rw,rb:=C.rb,mo:=C.mo,inv:=C.inv,mu:=fun _ _=>0,rd:=fun _ _=>[] }
structure MG where
 r:Nat
 b:Nat
 es:Array MapEntry
 clock:Nat
def MG.ptr (g:MG):Value:= .pointer (some ⟨g.r,0,none⟩)
structure MrX (β:Type) where
 L:List (List Int)
 z:β
 vv:Value
 seen:Array Nat
section
variable {P:Program} {A:eA} {m:Nat} {base:Nat} {w0 w:World} {S0:Env} {a:Act} {Q:Exit->Act->World->Prop}
theorem G9 {ops:Array Oper} {i:Nat} {rest:List Nat} {o:Oper} {ro:Option Nat} (h0:ops[i]? =some o) (hg:o.guard=none) (h:o.wpIn (FW ro) m P a w (wpOpsIn (FW ro) m P ops Q rest) Q):wpOpsIn (FW ro) m P ops Q (i::rest) a w:=by
 simp only [wpOpsIn,h0]
 rw [ag (by simp [Region.wanted,hg])]
 exact h
theorem YP {o:Oper} {ro:Option Nat} (qW: ∀c,o.op≠ .defer c) {K:Act->World->Prop} {s:Sem Value} {v:Value} {w':World} (hex:execOp a.eval o=(do pure (.value (<-s)))) (hr:s.run P w= .ok v w') (hK:K (a.put o.dst v) w'):o.wpIn (FW ro) m P a w K Q:=by
 unfold Oper.wpIn
 refine ⟨fun _ _=>trivial,?_⟩
 rw [Oper.semAt_eq _ _ _ qW,hex]
 simp only [Sem.run_bind,hr,Result.andThen_ok,Sem.run_pure]
 exact hK
theorem RW {nt lo t:Nat} (h:jH nt lo (some t)=true):t<nt/\lo<=t:=by
 simp only [jH] at h
 cases h1:Nat.ble lo t
 ·simp [h1] at h
 ·simp only [h1,ao] at h
  exact ⟨aC (show Nat.ble (t+1) nt=true from h),aC h1⟩
theorem rX (t:Nat) (v:Value) (h:t<a.tmps.size):(a.put (some t) v).tmps.getD t undef=v:=by
 rw [Act.rX a t v t h,ag rfl]
theorem YO {o:Oper} {ro:Option Nat} (qW: ∀c,o.op≠ .defer c) {K:Act->World->Prop} {v:Value} (hex:execOp a.eval o=pure (.value v)) (hK:K (a.put o.dst v) w):o.wpIn (FW ro) m P a w K Q:=by
 unfold Oper.wpIn
 refine ⟨fun _ _=>trivial,?_⟩
 rw [Oper.semAt_eq _ _ _ qW,hex]
 exact hK
theorem KA {A:eA} {k:Nat} {E:Code->Code->St->(Exit->St->VT)->VT} (h:A.exts=[(k,E)]) (hE:SE P E):lB P A:=fun id E' e=>by
 rw [h] at e
 unfold AS at e
 cases hb:Nat.beq k id
 ·rw [hb] at e;cases e
 ·rw [hb] at e;cases e;exact hE
end
end Go.Abs
end
section
namespace Go.Abs
open Go.RowKit
structure S9 where
 i0:Nat
 tx:Tmp
 t3:Tmp
 t4:Tmp
 ty:TypeId
 ty2:TypeId
 x0:TypeId×String×Array Edge
 x1:TypeId×String×Array Edge
def S9.mv (s:S9):Oper:={ dst:=some s.t3,op:= .move (.tmp s.tx),type:=s.x0.1,pos:=s.x0.2.1,after:=s.x0.2.2,guard:=none }
def S9.eq (s:S9):Oper:={ dst:=some s.t4,op:= .binOp .eql s.ty (.tmp s.t3) (.const (.slice none 0 0)) s.ty2,type:=s.x1.1,pos:=s.x1.2.1,after:=s.x1.2.2,guard:=none }
def S9.a (s:S9):Code:= .region s.i0 #[s.mv,s.eq] false
def EW:Code->Option S9
 |.region i0 ⟨[⟨some t3,.move (.tmp tx),a0,b0,c0,none⟩,⟨some t4,.binOp .eql ty (.tmp t3') (.const (.slice none 0 0)) ty2,a1,b1,c1,none⟩]⟩ false=>
  bif Nat.beq t3 t3' then some ⟨i0,tx,t3,t4,ty,ty2,(a0,b0,c0),(a1,b1,c1)⟩ else none
 |_=>none
theorem J6 {a:Code} {s:S9} (h:EW a=some s):a=s.a:=by
 unfold EW at h
 split at h
 ·rename_i i0 t3 tx a0 b0 c0 t4 ty t3' ty2 a1 b1 c1
  cases hb:Nat.beq t3 t3'
  ·rw [hb] at h;cases h
  ·rw [hb] at h
   have h1:=af hb
   subst h1
   cases h
   rfl
 ·cases h
def Qu (P:Program) (σ:St) (s:S9):Bool:=jH σ.nt σ.lo (some s.t3)&&(jH σ.nt σ.lo (some s.t4)&&(match P.underlying s.ty with|some (.slice _)=>true|_=>false))
def nlE (P:Program) (A:eA):Code->Code->St->(Exit->St->VT)->VT:=fun a b σ K=>match EW a with
 |none=> .done [False]
 |some s=>match σ.get s.tx with
  |.dt n dp=>bif Qu P σ s then .cut Bool (fun c=>c=true->n=0) (.done []) fun c=>evalCode P A b ((σ.put s.t3 (.dt n dp)).put s.t4 (.val (.bool c))) K else .done [False]
  |_=> .done [False]
theorem YU {P:Program} {A:eA} (hm:P.follows .mixedOrders=true) (hx:lB P A):SE P (nlE P A):=by
 intro m base w0 S0 sY rQ O6 ca cb σ K Q h hK ac w hf
 unfold nlE at h
 split at h
 ·exact h.elim
 ·rename_i s hs
  obtain rfl:=J6 hs
  split at h
  ·rename_i n dp htx
   cases hd:Qu P σ s with
   |false=>simp only [hd,ar] at h;exact h.elim
   |true=>
    simp only [hd,ao] at h
    simp only [Qu,an] at hd
    obtain ⟨d3,d4,d5⟩:=hd
    split at d5
    ·rename_i e hty
     obtain ⟨kn,di,r,hk⟩:=hf
     have l3:=RW d3
     have l4:=RW d4
     have hv:=r.tmps s.tx
     rw [htx] at hv
     generalize Wg:ac.tmps.getD s.tx undef=v0 at hv
     have r1:=r.put l3.1 l3.2 hv
     refine wpIn_seq ?_
     unfold S9.a
     refine wpIn_region ?_
     show wpOpsIn (FW none) m P #[s.mv,s.eq] _ [0,1] ac w
     refine G9 (o:=s.mv) rfl rfl (YO (fun c h=>by cases h) (v:=v0) (by rw [<-Wg];rfl) ?_)
     cases hv with
     |dt U hc ha hn ho hr=>
      rename_i B c
      have e1:(ac.put (some s.t3) (.slice B n c)).tmps.getD s.t3 undef= .slice B n c:=rX _ _ (by rw [r.size];exact l3.1)
      refine G9 (o:=s.eq) rfl rfl (YP (fun c h=>by cases h) (s:=do eqGuard .eql s.ty (.tmp s.t3) (.const (.slice none 0 0)) ((ac.put (some s.t3) (.slice B n c)).tmps.getD s.t3 undef) (.slice none 0 0);binOp .eql s.ty ((ac.put (some s.t3) (.slice B n c)).tmps.getD s.t3 undef) (.slice none 0 0)) rfl (v:= .bool B.isNone) (w':=w) (by rw [e1];simp [eqGuard,run_eql_slice_nil w s.ty e B n c hty]) ?_)
      have r2:=r1.put (d:= .val (.bool B.isNone)) (v:= .bool B.isNone) l4.1 l4.2 (.val _)
      show cb.wpIn (FW none) m P _ _ w
      obtain ⟨-,h⟩:=h
      have h2:=h B.isNone (fun e9=>by
       cases B with
       |none=>
        rcases cg n with h9|h9
        ·exact h9
        ·exact absurd rfl (hn h9)
       |some _=>cases e9)
      exact js hm hx cb (.inl ⟨⟨sY,rQ⟩,rfl,O6⟩) _ _ _ h2 hK _ _ ⟨kn,di,r2,hk⟩
    ·cases d5
  ·exact h.elim
end Go.Abs
end
section
set_option maxRecDepth 100000
namespace Go.Abs
open Go
def mvB (b:dL) (dx dy:Int):dL:=⟨b.name,b.nS,b.fl,b.N,fun i k=>b.X i k+dx,fun i k=>b.Y i k+dy,b.dE,b.nO,b.O,b.nB,fun i j=>if j=0 then b.B i 0+dx else if j=1 then b.B i 1+dy else if j=3 then b.B i 3+dx else if j=4 then b.B i 4+dy else b.B i j⟩
abbrev TJ (b:dL) (dx dy:Int):List (Nat->DV):=[fun i=>dI (b.fl i),fun i=>my (b.N i) (fun k=>b.X i k+dx) (fun k=>b.Y i k+dy)]
abbrev boxV (b:dL) (dx dy:Int):List (Nat->DV):=[fun i=>dI (b.B i 0+dx),fun i=>dI (b.B i 1+dy),fun i=>dI (b.B i 2),fun i=>dI (b.B i 3+dx),fun i=>dI (b.B i 4+dy),fun i=>dI (b.B i 5)]
abbrev bldV (b:dL) (dx dy:Int):DV:= .agg [.val (.string b.name),.dt b.nS (TJ b dx dy),dI b.dE,.dt b.nO (o9 b),.dt b.nB (boxV b dx dy)]
def Y7 (x y:Int):Bool:=gN x&&gN y
def gP (b:dL) (dx dy:Int) (i:Nat):Nat->Bool
 |0=>true
 |k+1=>gP b dx dy i k&&Y7 (b.X i k+dx) (b.Y i k+dy)
def gS (b:dL) (dx dy:Int):Nat->Bool
 |0=>true
 |i+1=>gS b dx dy i&&gP b dx dy i (b.N i)
def bxG (a b c d e f:Int):Bool:=decide (nA a b c d e f=0)
def gB (b:dL) (dx dy:Int):Nat->Bool
 |0=>true
 |j+1=>gB b dx dy j&&bxG (b.B j 0+dx) (b.B j 1+dy) (b.B j 2) (b.B j 3+dx) (b.B j 4+dy) (b.B j 5)
def V2 (b:dL) (dx dy:Int):Bool:=gS b dx dy b.nS&&gB b dx dy b.nB
def gO (d:DV):Bool:=match d with
 |.dV [.val (.bool b)]=>b
 |_=>false
abbrev rM1 (dx dy:Int):fx:= .wr fun l=>([.no,.no,.no,.box [dB (gO (arg l 3)&&Y7 (fI 0 (arg l 0)+dx) (fI 1 (arg l 0)+dy))]],dP (fI 0 (arg l 0)+dx) (fI 1 (arg l 0)+dy))
abbrev rM2 (dx dy:Int):fx:= .wr fun l=>([.no,.no,.no,.box [dB (gO (arg l 3)&&bxG (fI 0 (arg l 0)+dx) (fI 1 (arg l 0)+dy) (fI 2 (arg l 0)) (fI 3 (arg l 0)+dx) (fI 4 (arg l 0)+dy) (fI 5 (arg l 0)))]],bx (fI 0 (arg l 0)+dx) (fI 1 (arg l 0)+dy) (fI 2 (arg l 0)) (fI 3 (arg l 0)+dx) (fI 4 (arg l 0)+dy) (fI 5 (arg l 0)))
abbrev cloM (f:Nat) (dx dy:Int):DV:= .jt f [.dV [dI dx],.dV [dI dy],.ptr 0 0]
theorem IA (g k:Nat):(⟨g,0,none⟩:Addr).add k=⟨g,k,none⟩:=by rw [eF,aE]
theorem Vy {P:Program} {f:FuncId} {args:List DV} {n:Nat} {dp:List (Nat->DV)} (h:Vz P f args n dp):dv P f args (.dt n dp):=
 ⟨h.1,fun S w vs h1 h2 h3=>Calls.mono (h.2 S w vs h1 h2 h3) fun e w' ⟨v,he,hb,hr⟩=>⟨v,he,by
   rcases hr with ⟨rfl,rfl⟩|⟨g,C,cv,T,rfl,hg,hh,eW,hn,hc⟩
   ·exact .dt (fun _ _=>undef) (ae _) (fun i j f hi=>absurd hi (aG i)) (fun h=>absurd h (Nat.lt_irrefl 0)) (fun i j f hi=>absurd hi (aG i)) fun i j f hi=>absurd hi (aG i)
   ·refine .dt (fun i j=>(cv[i*dp.length+j]?).getD undef) hn (fun i j f hi hj=> ?_) (fun _=>by simp) (fun i j f hi hj=> ?_) fun i j f hi hj=> ?_
    all_goals obtain ⟨u,hu,ho,hr⟩:=hc i j f hi hj
    ·refine ⟨_,rfl,.inl ⟨?_,by rw [hu];exact ho⟩,.inr (by rw [IA];exact hg)⟩
     rw [IA,hu]
     show (match w'.heap[g]? with|some (.cells c _ _)=>_|_=>none)=_
     rw [hh]
     simpa using hu
    ·rw [hu];exact ho
    ·rw [hu];exact hr.mono (fun a u ⟨x,_,y⟩=>⟨x,y⟩) (fun _ h=>h) fun _ _ h=>h.elim,hb⟩⟩
abbrev clO:eA:={ dz:=[],loops:=[],dK:=[] }
noncomputable def I2 (b:dL):eA:={ dz:=[],loops:=[],dK:=[],exts:=[(1,nlE prog clO)] }
theorem Va (b:dL) (hO:b.nO<=1000):Vz prog 123 [.dt b.nO (o9 b)] b.nO (o9 b):=by
 refine IE dJ (I2 b) (V:= .cut Bool (fun (c:Bool)=>c=true->b.nO=nat_lit 0) (.done []) fun (c:Bool)=> .ite c (.done [b.nO=(0:Nat)]) (.dk [(0:Nat)<=(0:Nat),((0:Nat)+b.nO)*(nat_lit 47+(1:Nat))<=(140737488355328:Nat)] (.done [(0:Nat)+b.nO=b.nO/\(0:Nat)+b.nO<=(0:Nat)+b.nO,∀(i:Nat),i<b.nO->(if decide (i<(0:Nat))=true then (0:Int) else b.O (i - (0:Nat)) (0:Nat))=b.O i (0:Nat),∀(i:Nat),i<b.nO->(if decide (i<(0:Nat))=true then (0:Int) else b.O (i - (0:Nat)) (1:Nat))=b.O i (1:Nat),∀(i:Nat),i<b.nO->(if decide (i<(0:Nat))=true then (0:Int) else b.O (i - (0:Nat)) (2:Nat))=b.O i (2:Nat),∀(i:Nat),i<b.nO->(if decide (i<(0:Nat))=true then (0:Int) else b.O (i - (0:Nat)) (3:Nat))=b.O i (3:Nat),∀(i:Nat),i<b.nO->(if decide (i<(0:Nat))=true then (0:Int) else b.O (i - (0:Nat)) (4:Nat))=b.O i (4:Nat),∀(i:Nat),i<b.nO->(if decide (i<(0:Nat))=true then (0:Int) else b.O (i - (0:Nat)) (5:Nat))=b.O i (5:Nat)]))) (by kernel_rfl) ?_ (yU:=KA rfl (YU dJ (iQ rfl)))
 simp only [VT.holds,dC,imp_self,bO,b8,ck,gj,il,fN,bU,cL,bW,ct,bA,cf,an,bQ,aM,bj,df,dg,cw,beq_iff_eq,cx,ah,aj,ne_eq]
 refine fun i h=>⟨h,fun _=>⟨⟨ae _,by omega⟩,⟨aE _,ae _⟩,?_,?_,?_,?_,?_,?_⟩⟩
 all_goals intro j _;rw [ab (aG j),bJ]
noncomputable def Ja (x y dx dy:Int) (g:Bool):eA:={ dz:=[(2,[(4,yq),(9,yq)])],loops:=[],dK:=[] }
namespace w37
noncomputable section
structure Z where
 x:Int
 y:Int
 dx:Int
 dy:Int
 g:Bool
variable (z:Z) (a:Int) (g:Bool)
abbrev x0:=if z.g=true then (gN (z.x+z.dx)) else false
abbrev x1:=dv prog 79 [DV.val (Value.int IntKind.i64 a)] (DV.val (Value.bool g))
abbrev xt:VT:=VT.dk [dh (z.x+z.dx),dh (z.y+z.dy)] (VT.dk [ri (z.g=true),ri (z.g=true),z.g=true->x1 (z.x+z.dx) (gN (z.x+z.dx)),ri (z.g=true),ri (x0 z=true),ri (x0 z=true),x0 z=true->x1 (z.y+z.dy) (gN (z.y+z.dy)),ri (x0 z=true)] (VT.done [(if (x0 z)=true then (gN (z.y+z.dy)) else false)=(z.g&&(Y7 (z.x+z.dx) (z.y+z.dy))),rf (z.x+z.dx),rf (z.y+z.dy)]))
end
end w37
open w37 in
theorem Ue (x y dx dy:Int) (g:Bool) (hx:dh (x+dx)) (hy:dh (y+dy)):WR prog 78 [.arg (dP x y),.arg (.dV [dI dx]),.arg (.dV [dI dy]),.box [dB g] [dB (g&&Y7 (x+dx) (y+dy))]] (dP (x+dx) (y+dy)):=by
 refine ID dJ (Ja x y dx dy g) (V:=xt ⟨x,y,dx,dy,g⟩) (by kernel_rfl) ?_
 simp only [xt,x0,x1,Rf,VT.holds,dC,imp_self,bO,b8,ck,gj,il,fN,bU,cL,bW,ct,bA,cf,an,bQ,aM,bj,df,dg,cw,beq_iff_eq,cx,ah,aj,ne_eq]
 refine ⟨⟨hx,hy⟩,⟨fun _=>rP _,fun _=>rP _⟩,?_⟩
 unfold Y7
 cases g<;>cases gN (x+dx)<;>cases gN (y+dy)<;>rfl
noncomputable def I8 (a b c d e f dx dy:Int) (g:Bool):eA:={ dz:=[(2,[(3,.res fun l=>dI (nA (fI 0 (arg l 0)) (fI 1 (arg l 0)) (fI 2 (arg l 0)) (fI 3 (arg l 0)) (fI 4 (arg l 0)) (fI 5 (arg l 0))))])],loops:=[],dK:=[] }
theorem Ud (a b c d e f dx dy:Int) (g:Bool) (ha:dh (a+dx)) (hb:dh (b+dy)) (hd:dh (d+dx)) (he:dh (e+dy)):WR prog 80 [.arg (bx a b c d e f),.arg (.dV [dI dx]),.arg (.dV [dI dy]),.box [dB g] [dB (g&&bxG (a+dx) (b+dy) c (d+dx) (e+dy) f)]] (bx (a+dx) (b+dy) c (d+dx) (e+dy) f):=by
 refine ID dJ (I8 a b c d e f dx dy g) (V:=VT.dk [dh (a+dx),dh (d+dx),dh (b+dy),dh (e+dy)]
  (VT.dk
    [g=true->g=true,
     g=true->
      dv prog (42:Nat)
       [DV.val
        (Value.agg
          (Array.mk
            [Value.int IntKind.i64 (a+dx),Value.int IntKind.i64 (b+dy),Value.int IntKind.i64 c,
             Value.int IntKind.i64 (d+dx),Value.int IntKind.i64 (e+dy),Value.int IntKind.i64 f]))]
       (DV.val (Value.int IntKind.i64 (nA (a+dx) (b+dy) c (d+dx) (e+dy) f))),
     g=true->g=true,g=true->g=true]
    (VT.done
      [(if g=true then nA (a+dx) (b+dy) c (d+dx) (e+dy) f==(0:Int) else false)=
       (g&&bxG (a+dx) (b+dy) c (d+dx) (e+dy) f),
       a+dx=a+dx,b+dy=b+dy,c=c,d+dx=d+dx,e+dy=e+dy,f=f]))) (by kernel_rfl) ?_
 simp only [VT.holds,dC,imp_self,bO,b8,ck,gj,il,fN,bU,cL,bW,ct,bA,cf,an,bQ,aM,bj,df,dg,cw,beq_iff_eq,cx,ah,aj,ne_eq]
 refine ⟨⟨ha,hd,hb,he⟩,fun _=>uA _ _ _ _ _ _,?_⟩
 unfold bxG
 rw [Bool.eq_iff_iff]
 simp
theorem MH (b:dL) (hO:b.nO<=1000):dv prog 123 [.dt b.nO (o9 b)] (.dt b.nO (o9 b)):=Vy (Va b hO)
noncomputable def BX (b:dL) (dx dy:Int):eA:={ dz:=[(1,[(6,.res fun _=> .dt b.nO (o9 b))]),(9,[(4,rM1 dx dy)]),(11,[(3,.frp)]),(16,[(4,rM2 dx dy)])],loops:=[(0,{ ι:=Nat,keep:=[1,2,3,6,7,24,25],boxes:=[3,6],ts:=fun _ i=>[(26,dI (i:Int))],bx:=fun σ i=>[(1,[dB (gS b dx dy i)]),(7,[.val (.string b.name),.row 2 (σ.nx+50) 0 i,dI b.dE,.dt b.nO (o9 b),.val (.slice none 0 0)])],rb:=fun _ i=>[(7,1,2,i,TJ b dx dy)],inv:=fun _ i=>i<=b.nS,mu:=fun _ i=>b.nS - i,rd:=fun _ σ=>(ez (σ.get 26)).toNat }),(2,{ ι:=Nat,keep:=[1,2,3,6,7,10,24,25,26,34,35],boxes:=[3,6],ts:=fun _ k=>[(36,dI (k:Int))],bx:=fun σ k=>[(1,[dB (gS b dx dy (ez (σ.get 26)).toNat&&gP b dx dy (ez (σ.get 26)).toNat k)]),(10,[dI (b.fl (ez (σ.get 26)).toNat),.row 2 (σ.nx+50) 0 k]),(7,[.val (.string b.name),.row 2 (σ.nx+51) 0 (ez (σ.get 26)).toNat,dI b.dE,.dt b.nO (o9 b),.val (.slice none 0 0)])],rb:=fun σ k=>[(10,1,2,k,[fun j=>dI (b.X (ez (σ.get 26)).toNat j+dx),fun j=>dI (b.Y (ez (σ.get 26)).toNat j+dy)]),(7,1,2,(ez (σ.get 26)).toNat,TJ b dx dy)],inv:=fun σ k=>k<=b.N (ez (σ.get 26)).toNat,mu:=fun σ k=>b.N (ez (σ.get 26)).toNat - k,rd:=fun _ σ=>(ez (σ.get 36)).toNat }),(4,{ ι:=Nat,keep:=[1,2,3,6,7,57,58],boxes:=[3,6],ts:=fun _ i=>[(59,dI (i:Int))],bx:=fun σ i=>[(1,[dB (gS b dx dy b.nS&&gB b dx dy i)]),(7,[.val (.string b.name),.row 2 (σ.nx+50) 0 b.nS,dI b.dE,.dt b.nO (o9 b),.row 6 (σ.nx+51) 0 i])],rb:=fun _ i=>[(7,1,2,b.nS,TJ b dx dy),(7,4,6,i,boxV b dx dy)],inv:=fun _ i=>i<=b.nB,mu:=fun _ i=>b.nB - i,rd:=fun _ σ=>(ez (σ.get 59)).toNat })],dK:=[] }
namespace w39
noncomputable section
structure Z where
 b:dL
 dx:Int
 dy:Int
variable (z:Z) (i0 i1 i2:Nat) (p:Prop) (P Q:List Prop) (a b:Int) (k:Nat) (g h:Bool) (A:DV) (U V:VT) (yR:Nat->Prop) (sX:Nat->VT) (Y4:List WA) (QO:List Value)
abbrev x0:=Int.toNat (↑i0:Int)
abbrev x1:=i0<z.b.nO->rf (z.b.O i0 k)
abbrev x2:=i0<z.b.nB->rf (z.b.B i0 k)
abbrev x3:List Prop:=rf (Value.slice none 0 0)::P
abbrev x4:=Int.toNat ((↑i0:Int)+1)
abbrev x5:=DV.val (Value.int IntKind.i64 a)
abbrev x6:List Value:=Value.int IntKind.i64 a::QO
abbrev x7:=Int.toNat 0
abbrev x8:=z.b.N (x0 i0)
abbrev x9:List Prop:=rf z.b.dE::rf z.b.nO::(∀(i0:Nat),x1 z i0 (0:Nat))::(∀(i0:Nat),x1 z i0 (1:Nat))::(∀(i0:Nat),x1 z i0 (2:Nat))::(∀(i0:Nat),x1 z i0 (3:Nat))::(∀(i0:Nat),x1 z i0 (4:Nat))::(∀(i0:Nat),x1 z i0 (5:Nat))::P
abbrev dM:List Prop:=rf z.b.nS::(∀i0<z.b.nS,rf (z.b.fl i0))::p::P
abbrev dQ:=Int.toNat (↑i1:Int)
abbrev dS:=dM z (∀i0<z.b.nS,rf (z.b.N i0)/\(∀i1<z.b.N i0,rf (z.b.X i0 i1))/\(∀i1<z.b.N i0,rf (z.b.Y i0 i1))) P
abbrev dT:= ∀(i0:Nat),x2 z i0 (5:Nat)
abbrev dU:=Int.toNat ((↑i1:Int)+1)
abbrev dY:=x6 (z.b.B (x0 i0) k) QO
abbrev eb:List Prop:=rf z.b.nB::(∀(i0:Nat),x2 z i0 (0:Nat))::(∀(i0:Nat),x2 z i0 (1:Nat))::(∀(i0:Nat),x2 z i0 (2:Nat))::(∀(i0:Nat),x2 z i0 (3:Nat))::(∀(i0:Nat),x2 z i0 (4:Nat))::dT z::P
abbrev eE:List Prop:=p::rf z.b.name::rf (0:Nat)::P
abbrev eH:=if (decide (i1<i0))=true then a else b
abbrev eT:List Prop:=p::rf z.dx::rf z.dy::rf z.dx::rf z.dy::P
abbrev eG:=(gS z.b z.dx z.dy z.b.nS)&&(gB z.b z.dx z.dy k)
abbrev eZ:=dS z (x9 z (eb z (rf (ByteArray.mk (List.toArray []))::x3 (rf (0:Int)::x3 (x3 P)))))
abbrev fi:=(gS z.b z.dx z.dy (x0 i0))&&(gP z.b z.dx z.dy (x0 i0) k)
abbrev fR:=z.b.B (x0 i0) 0+z.dx
abbrev fU:=z.b.B (x0 i0) 3+z.dx
abbrev fS:=z.b.B (x0 i0) 1+z.dy
abbrev fz:=z.b.B (x0 i0) 4+z.dy
abbrev gi:=z.b.X (x0 i0) (dQ i1)+z.dx
abbrev iA:=z.b.Y (x0 i0) (dQ i1)+z.dy
abbrev jw:=DV.val (Value.agg (Array.mk QO))
abbrev iw:=(gO (DV.dV [DV.val (Value.bool g)]))&&h
abbrev jk:=x9 z (x3 (rf z.b.name::eZ z P))
abbrev jj:=eT z p (dS z (rf (↑z.b.nS:Int)::P))
abbrev gQ:= ∀i0<z.b.nS,rf (z.b.N i0)/\(∀i1<z.b.N i0,rf (z.b.X i0 i1+z.dx))/\(∀i1<z.b.N i0,rf (z.b.Y i0 i1+z.dy))
abbrev iz:List Prop:=[p,k<=140737488355328,(1:Nat)<=(1:Nat)]
abbrev mc:=eT z p (eb z (rf (↑z.b.nB:Int)::P))
abbrev kB:=if (decide (i2<(x0 i0)))=true then a else b
abbrev j8:=VT.loop Nat yR x7 (jj z (0=(↑x7:Int)) P) sX
abbrev oO:=VT.ite (decide ((↑i0:Int)<(↑k:Int))) U V
abbrev mq:=VT.dk P (VT.dk [dh ((↑i0:Int)+1)] (VT.done Q))
abbrev nH:=x9 z (rf (0:Nat)::p::rf z.b.name::eZ z P)
abbrev sS:=(↑i0:Int)+1=(↑(x4 i0):Int)
abbrev yb:List WA:=WA.arg A::WA.arg (DV.dV [x5 z.dx])::WA.arg (DV.dV [x5 z.dy])::Y4
abbrev wR:=VT.dk [0<=(↑i0:Int)/\(↑i0:Int)<(↑k:Int)] U
abbrev mU:List Prop:=rf (↑i0:Int)::rf (x8 z i0)::(∀i1<x8 z i0,rf (z.b.X (x0 i0) i1))::(∀i1<x8 z i0,rf (z.b.Y (x0 i0) i1))::rf (↑(x8 z i0):Int)::P
abbrev so:=DV.dt z.b.nO [fun i0=>x5 (z.b.O i0 0),fun i0=>x5 (z.b.O i0 1),fun i0=>x5 (z.b.O i0 2),fun i0=>x5 (z.b.O i0 3),fun i0=>x5 (z.b.O i0 4),fun i0=>x5 (z.b.O i0 5)]
abbrev xb:List Prop:=(∀i1<x0 i0,rf (z.b.fl i1))::(∀i1<x0 i0,rf (z.b.N i1)/\(∀i0<z.b.N i1,rf (z.b.X i1 i0+z.dx))/\(∀i0<z.b.N i1,rf (z.b.Y i1 i0+z.dy)))::p::rf (z.b.fl (x0 i0))::P
abbrev qJ:=bxG (fR z i0) (fS z i0) (z.b.B (x0 i0) 2) (fU z i0) (fz z i0) (z.b.B (x0 i0) 5)
abbrev xt:VT:=VT.dk [dv prog 123 [so z] (so z)] (j8 z ((x7=0)::eE z (true=gS z.b z.dx z.dy x7) ((x7=0)::jk z [])) (fun i0=>i0<=z.b.nS) (fun i0=>oO i0 z.b.nS (wR i0 z.b.nS (j8 z (mU z i0 ((x7=0)::(i0=x0 i0)::xb z i0 (gS z.b z.dx z.dy i0=fi z i0 x7) (rf (0:Nat)::eE z (x7=0) ((i0=x0 i0)::jk z [])))) (fun i1=>i1<=x8 z i0) (fun i1=>VT.ite (decide ((↑i1:Int)<(↑(x8 z i0):Int))) (VT.dk [0<=(↑i1:Int)/\(↑i1:Int)<(↑(x8 z i0):Int)] (VT.dk (WR prog 78 (yb z (jw (x6 (z.b.X (x0 i0) (dQ i1)) (x6 (z.b.Y (x0 i0) (dQ i1)) []))) [WA.box [DV.val (Value.bool (fi z i0 i1))] [DV.val (Value.bool (iw (fi z i0 i1) (Y7 (gi z i0 i1) (iA z i0 i1))))]]) (jw (x6 (gi z i0 i1) (x6 (iA z i0 i1) [])))::iz (i1<=i1) ((i1+1)*((nat_lit 15)+1))) (VT.dk [dh ((↑i1:Int)+1)] (VT.done (jj z ((↑i1:Int)+1=(↑(dU i1):Int)) (mU z i0 ((i1+1=dU i1)::(∀i2<dU i1,(if (decide (i2<i1))=true then (z.b.X (x0 i0) i2+z.dx) else (gi z i0 i1))=z.b.X (x0 i0) i2+z.dx)::(∀i2<dU i1,(if (decide (i2<i1))=true then (z.b.Y (x0 i0) i2+z.dy) else (iA z i0 i1))=z.b.Y (x0 i0) i2+z.dy)::rf (x0 i0)::xb z i0 (iw (fi z i0 i1) (Y7 (gi z i0 i1) (iA z i0 i1))=fi z i0 (dU i1)) (rf (0:Nat)::eE z (i1+1=dU i1) (rf (x0 i0)::jk z [dU i1<=x8 z i0,x8 z i0 - dU i1<x8 z i0 - i1]))))))))) (mq i0 ((i1<=i1)::iz (x0 i0<=x0 i0) ((x0 i0+1)*((nat_lit 31)+1))) (jj z (sS i0) ((x0 i0+1=x4 i0)::(∀i1<x4 i0,(if (decide (i1<(x0 i0)))=true then (z.b.fl i1) else (z.b.fl (x0 i0)))=z.b.fl i1)::(∀i2<x4 i0,(if (decide (i2<(x0 i0)))=true then (z.b.N i2) else i1)=z.b.N i2/\(∀i1<z.b.N i2,kB i0 i2 (z.b.X i2 i1+z.dx) (z.b.X (x0 i0) i1+z.dx)=z.b.X i2 i1+z.dx)/\(∀i1<z.b.N i2,kB i0 i2 (z.b.Y i2 i1+z.dy) (z.b.Y (x0 i0) i1+z.dy)=z.b.Y i2 i1+z.dy))::eE z (fi z i0 i1=gS z.b z.dx z.dy (x4 i0)) ((x0 i0+1=x4 i0)::jk z [x4 i0<=z.b.nS,z.b.nS - x4 i0<z.b.nS - i0]))))))) (VT.loop Nat (fun i0=>i0<=z.b.nB) x7 (mc z (0=(↑x7:Int)) ((i0=z.b.nS)::(∀i0<z.b.nS,rf (z.b.fl i0))::gQ z::(x7=0)::eE z (gS z.b z.dx z.dy i0=eG z x7) ((i0=z.b.nS)::nH z (x7=0) []))) (fun i0=>oO i0 z.b.nB (wR i0 z.b.nB (mq i0 (WR prog 80 (yb z (jw (dY z i0 (0:Nat) (dY z i0 (1:Nat) (dY z i0 (2:Nat) (dY z i0 (3:Nat) (dY z i0 (4:Nat) (dY z i0 (5:Nat) []))))))) [WA.box [DV.val (Value.bool (eG z i0))] [DV.val (Value.bool (iw (eG z i0) (qJ z i0)))]]) (jw (x6 (fR z i0) (x6 (fS z i0) (dY z i0 (2:Nat) (x6 (fU z i0) (x6 (fz z i0) (dY z i0 (5:Nat) [])))))))::iz (i0<=i0) ((i0+1)*((nat_lit 47)+1))) (mc z (sS i0) (dM z (gQ z) ((i0+1=x4 i0)::(∀i1<x4 i0,eH i0 i1 (z.b.B i1 0+z.dx) (fR z i0)=z.b.B i1 0+z.dx)::(∀i1<x4 i0,eH i0 i1 (z.b.B i1 1+z.dy) (fS z i0)=z.b.B i1 1+z.dy)::(∀i1<x4 i0,eH i0 i1 (z.b.B i1 2) (z.b.B (x0 i0) 2)=z.b.B i1 2)::(∀i1<x4 i0,eH i0 i1 (z.b.B i1 3+z.dx) (fU z i0)=z.b.B i1 3+z.dx)::(∀i1<x4 i0,eH i0 i1 (z.b.B i1 4+z.dy) (fz z i0)=z.b.B i1 4+z.dy)::(∀i1<x4 i0,eH i0 i1 (z.b.B i1 5) (z.b.B (x0 i0) 5)=z.b.B i1 5)::eE z (iw (eG z i0) (qJ z i0)=eG z (x4 i0)) (rf z.b.nS::nH z (i0+1=x4 i0) [x4 i0<=z.b.nB,z.b.nB - x4 i0<z.b.nB - i0])))))) (VT.done ((eG z i0=V2 z.b z.dx z.dy)::(z.b.nS<=z.b.nS)::(i0<=i0)::rf z.b.name::dM z (gQ z) (x9 z [i0=z.b.nB,∀i0<z.b.nB,rf (z.b.B i0 0+z.dx),∀i0<z.b.nB,rf (z.b.B i0 1+z.dy),∀(i0:Nat),x2 z i0 (2:Nat),∀i0<z.b.nB,rf (z.b.B i0 3+z.dx),∀i0<z.b.nB,rf (z.b.B i0 4+z.dy),dT z])))))))
end
end w39
open w39 in
theorem KO (b:dL) (dx dy:Int) (hS:b.nS<=1000) (hO:b.nO<=1000) (hB:b.nB<=1000) (hN: ∀i,i<b.nS->b.N i<=1000) (hY: ∀i,i<b.nS->kd (b.N i) (b.Y i)) (hX: ∀i,i<b.nS->kd (b.N i) (b.X i)) (hC: ∀i,i<b.nB-> ∀j,j<6-> -1000000<=b.B i j/\b.B i j<=1000000) (hdx: -2000000<=dx/\dx<=2000000) (hdy: -2000000<=dy/\dy<=2000000):FnS prog 74 [kz b,cloM 78 dx dy,cloM 80 dx dy] [dB true] [dB (V2 b dx dy)] (bldV b dx dy):=by
 refine SD dJ (BX b dx dy) (k:=1) (c:=2) (V:=xt ⟨b,dx,dy⟩) (by kernel_rfl) ?_
 simp only [xt,x0,x1,x2,x3,x4,x5,x6,x7,x8,x9,dM,dQ,dS,dT,dU,dY,eb,eE,eH,eT,eG,eZ,fi,fR,fU,fS,fz,gi,iA,jw,iw,jk,jj,gQ,iz,mc,kB,j8,oO,mq,nH,sS,yb,wR,mU,so,xb,qJ,Rf,VT.holds,dC,imp_self,bO,b8,ck,gj,il,fN,bU,cL,bW,ct,bA,cf,an,bQ,aM,bj,df,dg,cw,beq_iff_eq,cx,ah,aj,ne_eq]
 refine ⟨MH b hO,⟨rfl,rfl⟩,aq _,fun i hi=>⟨fun dR=>⟨⟨by omega,dR⟩,⟨rfl,(Bool.and_true _).symm⟩,aq _,fun k hk=>⟨fun oo=> ?_,fun oo=> ?_⟩⟩,fun iG=> ?_⟩⟩
 ·have hx:=hX i (by omega) k (by omega)
  have hy:=hY i (by omega) k (by omega)
  have hNi:=hN i (by omega)
  exact ⟨⟨by omega,oo⟩,⟨Ue _ _ dx dy _ (by unfold dh;omega) (by unfold dh;omega),ae _,by omega,ae _⟩,by unfold dh;omega,by omega,eh (f:=fun j=>b.X i j+dx) rfl,eh (f:=fun j=>b.Y i j+dy) rfl,Bool.and_assoc _ _ _,by omega,by omega⟩
 ·have e:k=b.N i:=by omega
  subst e
  refine ⟨⟨ae _,ae _,by omega,ae _⟩,by unfold dh;omega,by omega,eh (f:=b.fl) rfl,fun j hj=> ?_,rfl,by omega,by omega⟩
  by_cases h:j<i
  ·simp only [ag h,bO,b8]
  ·have:j=i:=by omega
   subst this
   simp only [Nat.lt_irrefl,cE,bO,b8]
 ·have e:i=b.nS:=by omega
  subst e
  refine ⟨⟨rfl,rfl,(Bool.and_true _).symm,rfl⟩,aq _,fun j hj=>⟨fun O8=> ?_,fun O8=> ?_⟩⟩
  ·have O8:j<b.nB:=by omega
   have q:=hC j O8
   have q0:=q 0 (by decide)
   have q1:=q 1 (by decide)
   have q3:=q 3 (by decide)
   have q4:=q 4 (by decide)
   exact ⟨⟨by omega,by omega⟩,⟨Ud _ _ _ _ _ _ dx dy _ (by unfold dh;omega) (by unfold dh;omega) (by unfold dh;omega) (by unfold dh;omega),ae _,by omega,ae _⟩,by unfold dh;omega,by omega,eh (f:=fun m=>b.B m 0+dx) rfl,eh (f:=fun m=>b.B m 1+dy) rfl,eh (f:=fun m=>b.B m 2) rfl,eh (f:=fun m=>b.B m 3+dx) rfl,eh (f:=fun m=>b.B m 4+dy) rfl,eh (f:=fun m=>b.B m 5) rfl,Bool.and_assoc _ _ _,by omega,by omega⟩
  ·have e:j=b.nB:=by omega
   subst e
   exact ⟨rfl,ae _,ae _,rfl⟩
end Go.Abs
end
