/- Contracts and what they stand on. -/
import Derived.Test.YtoinjphpfpklmaaGreatDoorAbsC
import Derived.Laws.CopyRow
import Derived.Laws.Cells
import Derived.Laws.Entries
import Derived.IntWalk
import Derived.ChangeKeysEq
set_option linter.unusedVariables false
set_option linter.unusedSimpArgs false
section
namespace Go.Abs
open Go.RowKit
def St.ev (σ:St):Operand->DV
 |.tmp t=>σ.get t
 |.const v=> .val v
 |.func f=> .val (.func (.func f) #[] #[])
 |.global g=>match look gl g with
  |some cs=> .dN cs
  |none=> .any
def pS (σ:St):List Operand->List Prop
 |[]=>[]
 |y::r=>match (σ.ev y).mZ with
  |none=>pS σ r
  |some b=>(b=true)::pS σ r
inductive Grd where
 |always
 |when (b:Bool)
 |unknown
def tL (ops:Array Oper) (σ:St) (o:Oper):Grd:=match o.guard with
 |none=> .always
 |some (j,want)=>match (ops[j]?).bind (·.dst) with
  |some t=>match (σ.get t).un with
   |.val (.bool p)=>match (σ.get t).mZ with
    |none=> .when (match want with|true=>p|false=> !p)
    |some q=> .when (q&&(match want with|true=>p|false=> !p))
   |_=> .unknown
  |none=> .unknown
def rB (P:Program) (oc:fE) (id:Nat) (o:Oper) (x:Operand->DV) (ob:Heap):Bool->eW
 |false=>tR P oc id o x ob
 |true=>match o.op with
  |.makeMap _ _=>bad
  |.call c=>match c.callee with
   |.value _=>match tR P oc id o x ob with
    |{ d,hw,vc }=>bif d.plain then { d,hw,vc } else { hw,vc:=[False] }
   |_=>tR P oc id o x ob
  |_=>tR P oc id o x ob
def qY (P:Program) (oc:fE) (id:Nat) (σ:St) (o:Oper):eW:=match pS σ o.op.operands.toList with
 |[]=>rB P oc id o (fun y=>(σ.ev y).un) σ.obj σ.rn
 |p::ps=>match rB P oc id o (fun y=>(σ.ev y).un) σ.obj σ.rn with
  |{ d,hw,vc }=>{ d,hw,vc:=(p::ps)++vc }
def eM (P:Program) (oc:fE) (id:Nat) (σ:St) (o:Oper):eW:=match o.op with
 |.pick c a b=>Ku (σ.ev c) (σ.ev a) (σ.ev b)
 |_=>qY P oc id σ o
def lP (b:Bool):List DV->List DV->Option (List DV)
 |[],[]=>some []
 |.val v::r,.val u::q=>match GM b v u,lP b r q with
  |some x,some l=>some (.val x::l)
  |_,_=>none
 |_,_=>none
def jN (b:Bool) (ob:Heap):List (Nat×Option fK)->Option (List (Nat×Option fK))
 |[]=>some []
 |(id,some (.box cs))::r=>match ob id with
  |some (.box cs0)=>match lP b cs cs0,jN b ob r with
   |some l,some t=>some ((id,some (.box l))::t)
   |_,_=>none
  |_=>none
 |(id,some (.row n [c]))::r=>match ob id with
  |some (.row _ [c0])=>match jN b ob r with
   |some t=>some ((id,some (.row n [fun i=> .val (.int .i64 (if b=true then vz (c i) else vz (c0 i)))]))::t)
   |none=>none
  |_=>none
 |_=>none
def kc (ob:Heap):List (Nat×Option fK)->List Prop
 |[]=>[]
 |(id,some (.row n [c]))::r=>match ob id with
  |some (.row n0 [c0])=>(n=n0)::kF c::kF c0::kc ob r
  |_=>kc ob r
 |_::r=>kc ob r
theorem AA {c:Nat->DV} (h:kF c):(fun i=> .val (.int .i64 (vz (c i))))=c:=by
 funext i
 have:=h i
 split at this
 ·rename_i n e
  rw [e];rfl
 ·exact this.elim
theorem MP {v u x:Value} (h:GM true v u=some x):x=v:=by
 unfold GM at h
 split at h
 ·split at h
  ·simp only [bn,aa] at h;exact h.symm
  ·cases h
 ·simp only [bn,aa] at h;exact h.symm
 ·simp only [bn,aa] at h;exact h.symm
 ·cases h
theorem JU {v u x:Value} (h:GM false v u=some x):x=u:=by
 unfold GM at h
 split at h
 ·split at h
  ·rename_i hk;subst hk;simp only [bB,cg,aa] at h;exact h.symm
  ·cases h
 ·simp only [bB,cg,aa] at h;exact h.symm
 ·simp only [bB,cg,aa] at h;exact h.symm
 ·cases h
theorem yc: ∀{cs ds l:List DV},lP true cs ds=some l->l=cs
 |[],[],l,h=>by simp only [lP,aa] at h;exact h.symm
 |[],_::_,l,h=>by simp [lP] at h
 |c::r,[],l,h=>by cases c<;>simp [lP] at h
 |c::r,d::q,l,h=>by
  cases c<;>cases d<;>simp only [lP] at h<;>first|(cases h;done)|skip
  split at h
  ·rename_i x l' h1 h2
   simp only [aa] at h
   rw [<-h,MP h1,yc h2]
  ·cases h
theorem uC: ∀{cs ds l:List DV},lP false cs ds=some l->l=ds
 |[],[],l,h=>by simp only [lP,aa] at h;exact h.symm
 |[],_::_,l,h=>by simp [lP] at h
 |c::r,[],l,h=>by cases c<;>simp [lP] at h
 |c::r,d::q,l,h=>by
  cases c<;>cases d<;>simp only [lP] at h<;>first|(cases h;done)|skip
  split at h
  ·rename_i x l' h1 h2
   simp only [aa] at h
   rw [<-h,JU h1,uC h2]
  ·cases h
theorem s7 {ob:Heap}: ∀{hw wI:List (Nat×Option fK)},(∀p∈kc ob hw,p)->jN true ob hw=some wI->wI=hw
 |[],wI,_,h=>by simp only [jN,aa] at h;exact h.symm
 |(id,none)::r,wI,_,h=>by simp [jN] at h
 |(id,some o)::r,wI,hv,h=>by
  unfold jN at h
  split at h
  ·rename_i e;cases e
  ·rename_i kG cs r' e
   cases e
   split at h
   ·split at h
    ·rename_i l t h1 h2
     simp only [aa] at h
     rw [<-h,yc h1,s7 (fun p hp=>hv p (by simpa only [kc] using hp)) h2]
    ·cases h
   ·cases h
  ·rename_i kG n c r' e
   cases e
   split at h
   ·rename_i n0 c0 ho
    simp only [kc,ho] at hv
    split at h
    ·rename_i t h2
     simp only [aa] at h
     rw [<-h,s7 (fun p hp=>hv p (az _ (az _ (az _ hp)))) h2]
     simp only [bn]
     rw [AA (hv _ (az _ ay))]
    ·cases h
   ·cases h
  ·cases h
theorem qL {ob:Heap} {id:Nat} {o:Option fK}: ∀{hw wI:List (Nat×Option fK)},(∀p∈kc ob hw,p)->jN false ob hw=some wI->look wI id=some o->o=ob id
 |[],wI,_,h,hl=>by simp only [jN,aa] at h;subst h;simp [look] at hl
 |(i,none)::r,wI,_,h,hl=>by simp [jN] at h
 |(i,some x)::r,wI,hv,h,hl=>by
  unfold jN at h
  split at h
  ·rename_i e;cases e
  ·rename_i kG cs r' e
   cases e
   split at h
   ·rename_i cs0 ho
    split at h
    ·rename_i l t h1 h2
     simp only [aa] at h
     subst h
     rw [dH] at hl
     by_cases hi:i=id
     ·rw [ah hi] at hl
      subst hi
      rw [ho,<-bF hl,uC h1]
     ·rw [ae hi] at hl
      exact qL (fun p hp=>hv p (by simpa only [kc] using hp)) h2 hl
    ·cases h
   ·cases h
  ·rename_i kG n c r' e
   cases e
   split at h
   ·rename_i n0 c0 ho
    simp only [kc,ho] at hv
    split at h
    ·rename_i t h2
     simp only [aa] at h
     have hn:n=n0:=hv _ ay
     subst hn
     subst h
     rw [dH] at hl
     by_cases hi:i=id
     ·rw [ah hi] at hl
      subst hi
      rw [ho,<-bF hl]
      simp only [bB,cg]
      rw [AA (hv _ (az _ (az _ ay)))]
     ·rw [ae hi] at hl
      exact qL (fun p hp=>hv p (az _ (az _ (az _ hp)))) h2 hl
    ·cases h
   ·cases h
  ·cases h
theorem r6 {b:Bool} {ob:Heap}: ∀{hw wI:List (Nat×Option fK)},jN b ob hw=some wI->wI.map (·.1)=hw.map (·.1)
 |[],wI,h=>by simp only [jN,aa] at h;rw [<-h]
 |(i,none)::r,wI,h=>by simp [jN] at h
 |(i,some x)::r,wI,h=>by
  unfold jN at h
  split at h
  ·rename_i e;cases e
  ·rename_i kG cs r' e
   cases e
   split at h
   ·split at h
    ·rename_i l t h1 h2
     simp only [aa] at h
     rw [<-h,bO,bO,r6 h2]
    ·cases h
   ·cases h
  ·rename_i kG n c r' e
   cases e
   split at h
   ·rename_i n0 c0 ho
    split at h
    ·rename_i t h2
     simp only [aa] at h
     rw [<-h,bO,bO,r6 h2]
    ·cases h
   ·cases h
  ·cases h
theorem yb {b:Bool} {ob fF:Heap}: ∀{hw:List (Nat×Option fK)},(∀i∈hw.map (·.1),ob i=fF i)->jN b ob hw=jN b fF hw/\kc ob hw=kc fF hw
 |[],_=>⟨rfl,rfl⟩
 |(i,x)::r,h=>by
  have h1:=h i (by simp)
  obtain ⟨h2,h3⟩:=yb (b:=b) (hw:=r) fun j hj=>h j (az _ hj)
  cases x with
  |none=>exact ⟨rfl,by simp only [kc,h3]⟩
  |some o=>
   cases o with
   |row n de=>
    cases de with
    |nil=>exact ⟨rfl,by simp only [kc,h3]⟩
    |cons c cs=>cases cs<;>exact ⟨by simp only [jN,h1,h2],by simp only [kc,h1,h3]⟩
   |_=>exact ⟨by simp only [jN,h1,h2],by simp only [kc,h3]⟩
def jl (P:Program) (ops:Array Oper) (oc:fE) (id:Nat) (σ:St) (o:Oper):eW:=match tL ops σ o with
 |.always=>eM P oc id σ o
 |.when b=>let e:=eM P oc id σ o
  match e.hw with
  |[]=>{ d:= .opt b e.d,vc:=e.vc.map fun p=>(b=true->p) }
  |hw=>match jN b σ.obj hw with
   |some wI=>{ d:= .opt b e.d,hw:=wI,vc:=kc σ.obj hw++e.vc.map fun p=>(b=true->p) }
   |none=>{ d:= .opt b e.d,hw:=hw,vc:=(b=true)::e.vc }
 |.unknown=>bad
def St.ui (σ:St) (dst:Option Tmp) (e:eW):St:={ σ with t:=match dst with|some t=>(t,e.d)::σ.t|none=>σ.t,h:=e.hw++σ.h }
def kQ (nt lo:Nat):Option Tmp->Bool
 |some t=>bif Nat.ble lo t then Nat.blt t nt else false
 |none=>true
def ma:List (Nat×fE)->Nat->fE
 |l,k=>match look l k with
  |some o=>o
  |none=> .no
def jb (P:Program) (ops:Array Oper) (dq:List (Nat×fE)) (n0:Nat):List Oper->Nat->St->List Prop->St×List Prop
 |[],_,σ,vc=>(σ,vc)
 |o::r,k,σ,vc=>let e:=jl P ops (ma dq k) (n0+k) σ o
  jb P ops dq n0 r (k+1) (σ.ui o.dst e) (vc++(bif kQ σ.nt σ.lo o.dst then e.vc else [False]))
def dt:List Prop->Prop
 |[]=>True
 |[p]=>p
 |p::r=>p/\dt r
def fi (P:Program) (ops:Array Oper) (dq:List (Nat×fE)) (σ:St):St×List Prop:=
 jb P ops dq σ.nx ops.toList 0 { σ with nx:=σ.nx+ops.size } []
end Go.Abs
end
section
namespace Go.Abs
open Go.RowKit
def dp (l:List Prop):Prop:= ∀p∈l,p
theorem dp.app {l m:List Prop} (h:dp (l++m)):dp l/\dp m:=⟨fun p hp=>h p (aR _ hp),fun p hp=>h p (aW _ hp)⟩
theorem dp.one {p:Prop} (h:dp [p]):p:=h p (au.2 rfl)
theorem dp.hd {p:Prop} {l:List Prop} (h:dp (p::l)):p:=h p ay
theorem dp.tl {p:Prop} {l:List Prop} (h:dp (p::l)):dp l:=fun q hq=>h q (az _ hq)
theorem dc {q:Prop} (h:dp bad.vc):q:=(h False (au.2 rfl)).elim
theorem dt.all: ∀{l:List Prop},dt l->dp l
 |[],_=>fun _ hp=>by cases hp
 |[p],h=>fun q hq=>by rw [au.1 hq];exact h
 |p::q::r,h=>fun x hx=>by
  rcases aS.1 hx with rfl|hx
  ·exact h.1
  ·exact dt.all h.2 x hx
def St.iu (σ:St) (e:eW):St:={ σ with h:=e.hw++σ.h }
theorem eE (g o n:Nat):(⟨g,o,none⟩:Addr).add n=⟨g,o+n,none⟩:=by unfold Addr.add;split<;>simp_all
section
variable {P:Program} {base:Nat} {w0 w:World} {S0:Env} {σ:St} {kn:Nat->Prop} {c9:Nat->Option Loc} {a:Act}
def lV (P:Program) (base:Nat) (w0:World) (S0:Env) (σ:St) (kn:Nat->Prop) (a:Act) (w:World) (id:Nat) (s:Sem Value) (e:eW):Prop:=
 ∃v w',s.run P w= .ok v w'/\ ∃eL dk,R base w0 S0 (σ.iu e) eL dk a w'/\Rel (df w' base S0 dk) eL dk e.d v/\ ∀i,eL i->kn i\/i=id
def Still (P:Program) (base:Nat) (S0:Env) (kn:Nat->Prop) (c9:Nat->Option Loc) (w:World) (s:Sem Value) (e:eW):Prop:=
 e.hw=[]/\ ∃v,s.run P w= .ok v w/\Rel (df w base S0 c9) kn c9 e.d v
theorem Still.runs (r:R base w0 S0 σ kn c9 a w) {id:Nat} {s:Sem Value} {e:eW} (h:Still P base S0 kn c9 w s e):lV P base w0 S0 σ kn a w id s e:=by
 obtain ⟨hw,v,hr,hv⟩:=h
 refine ⟨v,w,hr,kn,c9,?_,hv,fun i hi=> .inl hi⟩
 have:σ.iu e=σ:=by unfold St.iu;rw [hw];rfl
 rw [this];exact r
theorem ew {rd:Rd} {d:DV} {v:Value} (h:du rd d v) {kn:Nat->Prop} {c9:Nat->Option Loc}:Rel rd kn c9 d v:=
 h.mono (fun _ _ h=>h) (fun _ h=>h.elim) fun _ _ h=>h.elim
theorem po (r:R base w0 S0 σ kn c9 a w) {p:DV} {cs:List DV} {vc:List Prop} {v:Value} (h:pq σ.obj p=some (cs,vc)) (dg:dp vc)
 (hv:Rel (df w base S0 c9) kn c9 p v): ∃ad,v= .pointer (some ad)/\ ∀(j:Nat) (d:DV),cs[j]? =some d-> ∃u,w.cell? (ad.add j)=some u/\Rel (df w base S0 c9) kn c9 d u:=by
 unfold pq at h
 split at h
 ·rename_i id j
  split at h
  ·rename_i cs0 ho
   simp only [aa,aB] at h
   obtain ⟨rfl,rfl⟩:=h
   obtain ⟨_,g,C,cv,T,hl,hh,hs,hr,_⟩:=r.fg _ _ ho
   cases hv with
   |ptr hk _ hp=>
    refine ⟨_,hp g C hl,fun j' d hd=> ?_⟩
    rw [bu] at hd
    have dK:j+j'<cv.size:=by
     rw [hs];exact (aj.1 hd).1
    refine ⟨cv[j+j'],?_,hr _ _ _ hd (aD dK)⟩
    rw [eE]
    simp [World.cell?,hh,dK]
  ·cases h
 ·rename_i s id i j
  split at h
  ·rename_i n de ho
   cases hb:Nat.beq de.length s
   ·simp [hb] at h
   ·simp only [hb,aq,aa,aB] at h
    obtain ⟨rfl,rfl⟩:=h
    have YC:de.length=s:=ag hb
    subst YC
    have hi:i<n:=dg.one
    obtain ⟨_,oQ⟩:=r.fg _ _ ho
    rcases oQ with ⟨_,hn⟩|⟨g,C,cv,T,hl,hh,hs,hn,hr⟩
    ·omega
    ·cases hv with
     |jZ hk _ hp=>
      refine ⟨_,hp g C hl,fun j' d hd=> ?_⟩
      rw [aw,bu] at hd
      cases hc:de[j+j']? with
      |none=>simp [hc] at hd
      |some f=>
       simp only [hc,aA,aa] at hd
       subst hd
       obtain ⟨u,hu,_,hrel⟩:=hr i (j+j') f hi hc
       refine ⟨u,?_,ew hrel⟩
       rw [eE]
       simp only [World.cell?,hh]
       rw [show i*de.length+j+j'=i*de.length+(j+j') by omega,hu]
       rfl
  ·rename_i n de ho
   cases hb:Nat.beq de.length s
   ·simp [hb] at h
   ·simp only [hb,aq,aa,aB] at h
    obtain ⟨rfl,rfl⟩:=h
    have YC:de.length=s:=ag hb
    subst YC
    have hi:i<n:=dg.one
    obtain ⟨_,oQ⟩:=r.fg _ _ ho
    rcases oQ with ⟨_,hn⟩|⟨g,o,C,cv,T,hl,hh,hs,hn,hr⟩
    ·omega
    ·cases hv with
     |jZ hk _ hp hp2=>
      have Sk:v= .pointer (some ⟨g,o+(i*de.length+j),none⟩):=by
       rcases hl with hl|⟨hl,rfl⟩
       ·exact hp2 g o C hl
       ·rw [aE];exact hp g C hl
      refine ⟨_,Sk,fun j' d hd=> ?_⟩
      rw [aw,bu] at hd
      cases hc:de[j+j']? with
      |none=>simp [hc] at hd
      |some f=>
       simp only [hc,aA,aa] at hd
       subst hd
       obtain ⟨u,hu,_,hrel⟩:=hr i (j+j') f hi hc
       refine ⟨u,?_,ew hrel⟩
       rw [eE]
       simp only [World.cell?,hh]
       rw [show o+(i*de.length+j)+j'=o+(i*de.length+(j+j')) by omega,hu]
       rfl
  ·cases h
 ·rename_i cs0
  simp only [aa,aB] at h
  obtain ⟨rfl,rfl⟩:=h
  cases hv with
  |dN U ha ho hr=>exact ⟨_,rfl,fun j d hd=>⟨U j,oE (ha j d hd).1 (ho j d hd),ew (hr j d hd)⟩⟩
 ·cases h
theorem oA {t:TypeId} {b:Bool} (h:zD P t=some b) (w:World):(isAgg t).run P w= .ok b w:=by
 unfold zD at h
 split at h
 ·rename_i hu;cases h;simp [isAgg,run_underlying hu]
 ·rename_i hu;cases h;simp [isAgg,run_underlying hu]
 ·rename_i d h1 h2 hu
  cases h
  simp only [isAgg,Sem.run_bind,run_underlying hu,Result.andThen_ok]
  rfl
 ·cases h
theorem fJ {t:TypeId} {n:Nat} (h:iS P t=some n) (w:World):(sizeOf t).run P w= .ok n w:=by
 unfold iS at h
 split at h
 ·rename_i i hi;cases h;simp [sizeOf,typeInfo,hi]
 ·cases h
theorem vL (r:R base w0 S0 σ kn c9 a w) {t:TypeId} {p:DV} {v:Value} (dg:dp (rD P σ.obj t p).vc)
 (hv:Rel (df w base S0 c9) kn c9 p v):Still P base S0 kn c9 w (Instr.loadAt t v) (rD P σ.obj t p):=by
 unfold rD at dg ⊢
 split at dg
 ·rename_i n cs vc h1 h2 h3
  cases hb:Nat.ble n cs.length
  ·simp only [hb,ax] at dg;exact dc dg
  ·simp only [hb,aq] at dg ⊢
   have hn:n<=cs.length:=aH hb
   obtain ⟨ad,rfl,hc⟩:=po r h3 dg hv
   refine ⟨rfl,.agg ((List.range n).map fun j=>(w.cell? (ad.add j)).getD undef).toArray,?_,?_⟩
   ·have hl:=run_loadCells (P:=P) w ad n (fun j=>(w.cell? (ad.add j)).getD undef) (fun j hj=>by
     obtain ⟨u,hu,_⟩:=hc j cs[j] (ak (by omega))
     rw [hu];rfl)
    simp only [Instr.loadAt,Instr.sureAddr,loadVar,Sem.run_bind,Sem.run_pure,Result.andThen_ok,oA h1,bn,fJ h2,hl]
   ·refine Rel.mM (by simp;omega) fun j d u hd hu=> ?_
    rw [bG] at hd
    split at hd
    ·rename_i hj
     obtain ⟨u',DA,hrel⟩:=hc j d hd
     simp [hj,DA] at hu
     subst hu;exact hrel
    ·cases hd
 ·rename_i n d rest vc h1 h2 h3
  obtain ⟨ad,rfl,hc⟩:=po r h3 dg hv
  obtain ⟨u,hu,hrel⟩:=hc 0 d rfl
  refine ⟨rfl,u,?_,hrel⟩
  have DA:w.cell? ad=some u:=by simpa [Addr.add] using hu
  simp [Instr.loadAt,Instr.sureAddr,loadVar,oA h1,DA]
 ·exact dc dg
theorem AQ {ad:Addr} {fd:Field} {k:Nat} (h:iS P fd.type=some (k+1)) (w:World):(fieldPlace ad fd).run P w= .ok (ad.add fd.offset) w:=by
 simp [fieldPlace,fJ h]
theorem add_add (ad:Addr) (i j:Nat):(ad.add i).add j=ad.add (i+j):=by
 unfold Addr.add
 by_cases hi:i=0<;>by_cases hj:j=0<;>simp [hi,hj,bT]
theorem G1 {id j:Nat} {v:Value} {rd:Rd} (hv:Rel rd kn c9 (.ptr id j) v):kn id/\(∃p,v= .pointer (some p))/\ ∀g C,c9 id=some (.at_ g C)->v= .pointer (some ⟨g,j,none⟩):=by
 cases hv with|ptr hk hv h=>exact ⟨hk,hv,h⟩
theorem vN {s:TypeId} {x:DV} {f:Nat} {v:Value} {e:eW} (he:rE P s x f=e) (dg:dp e.vc)
 (hv:Rel (df w base S0 c9) kn c9 x v):Still P base S0 kn c9 w (Instr.fieldAt s v f) e:=by
 unfold rE at he
 split at he
 ·rename_i fs hu
  split at he
  ·rename_i fd hf
   split at he
   ·rename_i k hk
    have run: ∀ad,(Instr.fieldAt s (.pointer (some ad)) f).run P w= .ok (.pointer (some (ad.add fd.offset))) w:=fun ad=>by
     simp [Instr.fieldAt,run_underlying hu,hf,Instr.sureAddr,AQ hk]
    split at he
    ·rename_i id j
     subst he
     cases hv with
     |ptr kL hp h=>
      obtain ⟨ad,rfl⟩:=hp
      refine ⟨rfl,_,run ad,.ptr kL ⟨_,rfl⟩ fun g C hb=> ?_⟩
      have:=h g C hb
      simp only [Value.pointer.injEq,aa] at this
      rw [this,eE]
    ·rename_i s' id i j
     subst he
     cases hv with
     |jZ kL hp h h2=>
      obtain ⟨ad,rfl⟩:=hp
      refine ⟨rfl,_,run ad,.jZ kL ⟨_,rfl⟩ (fun g C hb=> ?_) fun g o C hb=> ?_⟩
      ·have:=h g C hb
       simp only [Value.pointer.injEq,aa] at this
       rw [this,eE,bT]
      ·have:=h2 g o C hb
       simp only [Value.pointer.injEq,aa] at this
       rw [this,eE,bT,bT]
    ·rename_i s' id i j
     have key: ∀q,j+fd.offset=q->({ d:= .k5 s' id i q }:eW)=e->Still P base S0 kn c9 w (Instr.fieldAt s v f) e:=fun q hq he=>by
      subst he
      cases hv with
      |k5 kL hp h=>
       obtain ⟨ad,rfl⟩:=hp
       refine ⟨rfl,_,run ad,.k5 kL ⟨_,rfl⟩ fun g C bs hb=> ?_⟩
       have:=h g C bs hb
       simp only [Value.pointer.injEq,aa] at this
       rw [this,eE,bT,hq]
     split at he
     ·rename_i hq;exact key 0 hq he
     ·rename_i hq;exact key 1 hq he
     ·rename_i hq;exact key 2 hq he
     ·rename_i hq;exact key 3 hq he
     ·subst he;exact dc dg
    ·rename_i cs
     subst he
     cases hv with
     |dN U ha ho hr=>
      refine ⟨rfl,_,run _,.dN (fun j=>U (fd.offset+j)) (fun j d hd=> ?_) (fun j d hd=> ?_) fun j d hd=> ?_⟩
      ·rw [bu] at hd
       rw [add_add];exact ha _ _ hd
      ·rw [bu] at hd
       exact ho _ _ hd
      ·rw [bu] at hd
       exact hr _ _ hd
    ·subst he;exact dc dg
   ·subst he;exact dc dg
  ·subst he;exact dc dg
 ·subst he;exact dc dg
theorem eK {x:DV} {v:Value} {cs:List DV} {rd:Rd} (hv:Rel rd kn c9 x v) (h:jt x=some cs):
 ∃vs,v= .agg vs/\vs.size=cs.length/\ ∀(j:Nat) (d:DV) (u:Value),cs[j]? =some d->vs[j]? =some u->Rel rd kn c9 d u:=by
 unfold jt at h
 split at h
 ·cases h
  cases hv with
  |agg hs hr=>exact ⟨_,rfl,hs,hr⟩
 ·cases h
  cases hv
  refine ⟨_,rfl,by simp,fun j d u hd hu=> ?_⟩
  simp only [aw,bt,hu,aA,aa] at hd
  subst hd;exact .val u
 ·cases h
theorem Ad {t:TypeId} {cs:List DV} {vs:Array Value} {rd:Rd} {off n:Nat} (h1:zD P t=some true) (h2:iS P t=some n) (hn:off+n<=cs.length) (hs:vs.size=cs.length)
 (hr: ∀(j:Nat) (d:DV) (u:Value),cs[j]? =some d->vs[j]? =some u->Rel rd kn c9 d u):
 ∃v,(part t vs off).run P w= .ok v w/\Rel rd kn c9 (mM ((cs.drop off).take n)) v:=by
 refine ⟨.agg (vs.extract off (off+n)),by simp [part,oA h1,fJ h2],?_⟩
 refine Rel.mM (by simp;omega) fun j d u hd hu=> ?_
 rw [bG] at hd
 split at hd
 ·rename_i hj
  rw [bu] at hd
  rw [Array.getElem?_extract] at hu
  split at hu
  ·exact hr _ _ _ hd hu
  ·cases hu
 ·cases hd
theorem Ae {t:TypeId} {cs:List DV} {vs:Array Value} {rd:Rd} {off:Nat} {d:DV} (h1:zD P t=some false) (hd:cs[off]? =some d) (hs:vs.size=cs.length)
 (hr: ∀(j:Nat) (d:DV) (u:Value),cs[j]? =some d->vs[j]? =some u->Rel rd kn c9 d u):
 ∃v,(part t vs off).run P w= .ok v w/\Rel rd kn c9 d v:=by
 have dK:off<vs.size:=by rw [hs];exact (aj.1 hd).1
 have hu:vs[off]? =some vs[off]:=aD dK
 exact ⟨vs[off],by simp [part,oA h1,hu],hr _ _ _ hd hu⟩
theorem Cg {t:TypeId} {x:DV} {f:Nat} {v:Value} {e:eW} (he:Fe P t x f=e) (dg:dp e.vc)
 (hv:Rel (df w base S0 c9) kn c9 x v):Still P base S0 kn c9 w (Instr.field t v f) e:=by
 unfold Fe at he
 split at he
 ·rename_i fs hu
  split at he
  ·rename_i fd hf
   split at he
   ·rename_i n cs h1 h2 h3
    cases hb:Nat.ble (fd.offset+n) cs.length
    ·simp only [hb,ax] at he;subst he;exact dc dg
    ·simp only [hb,aq] at he
     subst he
     obtain ⟨vs,rfl,hs,hr⟩:=eK hv h3
     obtain ⟨v,ef,hrel⟩:=Ad (w:=w) h1 h2 (aH hb) hs hr
     exact ⟨rfl,v,by simp [Instr.field,run_underlying hu,hf,asAgg,ef],hrel⟩
   ·rename_i n cs h1 h2 h3
    split at he
    ·rename_i d hd
     subst he
     obtain ⟨vs,rfl,hs,hr⟩:=eK hv h3
     obtain ⟨v,ef,hrel⟩:=Ae (w:=w) h1 hd hs hr
     exact ⟨rfl,v,by simp [Instr.field,run_underlying hu,hf,asAgg,ef],hrel⟩
    ·subst he;exact dc dg
   ·subst he;exact dc dg
  ·subst he;exact dc dg
 ·subst he;exact dc dg
theorem yL {x:DV} {i:Nat} {v:Value} {e:eW} (he:xJ x i=e) (dg:dp e.vc)
 (hv:Rel (df w base S0 c9) kn c9 x v):Still P base S0 kn c9 w (Instr.extract v i) e:=by
 unfold xJ at he
 split at he
 ·split at he
  ·rename_i d hd
   subst he
   cases hv with
   |fy hs hr=>
    rename_i vs
    have dK:i<vs.size:=by rw [hs];exact (aj.1 hd).1
    have hu:vs[i]? =some vs[i]:=aD dK
    exact ⟨rfl,vs[i],by simp [Instr.extract,hu],hr _ _ _ hd hu⟩
  ·subst he;exact dc dg
 ·split at he
  ·rename_i u hu
   subst he
   cases hv
   exact ⟨rfl,u,by simp [Instr.extract,hu],.val u⟩
  ·subst he;exact dc dg
 ·subst he;exact dc dg
theorem Hu (_r:R base w0 S0 σ kn c9 a w) {id s:Nat} (h:ke σ.obj id s=true): ∃n de,σ.obj id=some (.row n de)/\de.length=s:=by
 unfold ke at h
 split at h
 ·rename_i n de ho;exact ⟨n,de,ho,ag h⟩
 ·cases h
theorem nG (r:R base w0 S0 σ kn c9 a w) {s id off len:Nat} {v:Value} (h:ke σ.obj id s=true) (hv:Rel (df w base S0 c9) kn c9 (.row s id off len) v):
 kn id/\((v= .slice none 0 0/\off=0/\len=0/\c9 id=some .nil)\/(∃g C,v= .slice (some ⟨g,off*s,none⟩) len (C - off)/\off+len<=C/\c9 id=some (.at_ g C))\/(0<off/\len=0/\ ∃p c,v= .slice p 0 c)):=by
 obtain ⟨n,de,ho,hs⟩:=Hu r h
 obtain ⟨_,pG⟩:=r.fg _ _ ho
 cases hv with
 |row hk hp h0 h=>
  refine ⟨hk,?_⟩
  rcases pG with ⟨hl,_⟩|⟨g,C,cv,T,hl,_⟩
  ·obtain ⟨e1,e2,e3⟩:=h0 hl;exact .inl ⟨e1,e2,e3,hl⟩
  ·rcases h g C hl with ⟨e1,e2⟩|⟨e1,rfl⟩
   ·exact .inr (.inl ⟨g,C,e1,e2,hl⟩)
   ·exact .inr (.inr ⟨e1,rfl,let ⟨p,c,e,_⟩:=hp;⟨p,c,e⟩⟩)
theorem GQ (r:R base w0 S0 σ kn c9 a w) {s id off len:Nat} {v:Value} (h:xu σ.obj id s=true) (hv:Rel (df w base S0 c9) kn c9 (.row s id off len) v):
 kn id/\((v= .slice none 0 0/\off=0/\len=0/\c9 id=some .nil)\/(∃g o C,v= .slice (some ⟨g,o+off*s,none⟩) len (C - off)/\off+len<=C/\(c9 id=some (.sub g o C)\/(c9 id=some (.at_ g C)/\o=0)))\/(0<off/\len=0/\ ∃p c,v= .slice p 0 c)):=by
 cases hb:ke σ.obj id s with
 |true=>
  obtain ⟨hk,h1|⟨g,C,e,hC,hl⟩|h1⟩:=nG r hb hv
  ·exact ⟨hk,.inl h1⟩
  ·exact ⟨hk,.inr (.inl ⟨g,0,C,by rw [aE];exact e,hC,.inr ⟨hl,rfl⟩⟩)⟩
  ·exact ⟨hk,.inr (.inr h1)⟩
 |false=>
  unfold xu at h
  split at h
  ·rename_i n de ho;unfold ke at hb;rw [ho] at hb;simp only at hb;rw [hb] at h;cases h
  ·rename_i n de ho
   obtain ⟨_,pG⟩:=r.fg _ _ ho
   cases hv with
   |row hk hp h0 h1 h2=>
    refine ⟨hk,?_⟩
    rcases pG with ⟨hl,_⟩|⟨g,o,C,cv,T,hl,_⟩
    ·obtain ⟨e1,e2,e3⟩:=h0 hl;exact .inl ⟨e1,e2,e3,hl⟩
    ·rcases hl with hl|⟨hl,rfl⟩
     ·rcases h2 g o C hl with ⟨e1,e2⟩|⟨e1,rfl⟩
      ·exact .inr (.inl ⟨g,o,C,e1,e2,.inl hl⟩)
      ·exact .inr (.inr ⟨e1,rfl,let ⟨p,c,e,_⟩:=hp;⟨p,c,e⟩⟩)
     ·rcases h1 g C hl with ⟨e1,e2⟩|⟨e1,rfl⟩
      ·exact .inr (.inl ⟨g,0,C,by rw [aE];exact e1,e2,.inr ⟨hl,rfl⟩⟩)
      ·exact .inr (.inr ⟨e1,rfl,let ⟨p,c,e,_⟩:=hp;⟨p,c,e⟩⟩)
  ·cases h
theorem FF (off i:Nat):ng off i=off+i:=by cases off<;>simp [ng]
theorem HP (r:R base w0 S0 σ kn c9 a w) {t ty:TypeId} {x:DV} {v:Value} {e:eW} (he:DM P σ.obj t x=e) (dg:dp e.vc)
 (hv:Rel (df w base S0 c9) kn c9 x v):Still P base S0 kn c9 w (Builtin.len_ #[t] ty #[v]) e:=by
 unfold DM at he
 split at he
 ·rename_i s id off len
  split at he
  ·rename_i el hu
   subst he
   cases hv with
   |row hk hp _ _ _=>
    obtain ⟨p,c,rfl,_⟩:=hp
    exact ⟨rfl,_,by simp [Builtin.len_,run_underlying hu];rfl,.val _⟩
  ·subst he;exact dc dg
 ·rename_i s id len
  split at he
  ·rename_i el hu
   subst he
   cases hv with
   |tL hk hp _=>
    obtain ⟨p,c,rfl,_⟩:=hp
    exact ⟨rfl,_,by simp [Builtin.len_,run_underlying hu];rfl,.val _⟩
  ·subst he;exact dc dg
 ·unfold Rl at he
  split at he
  ·split at he
   ·rename_i el hu
    subst he
    cases hv with
    |di U hc ha hn _ hr=>exact ⟨rfl,_,by simp [Builtin.len_,run_underlying hu];rfl,.val _⟩
   ·subst he;exact dc dg
  ·split at he
   ·rename_i el hu
    subst he
    cases hv
    exact ⟨rfl,_,by simp [Builtin.len_,run_underlying hu];rfl,.val _⟩
   ·subst he;exact dc dg
  ·split at he
   ·rename_i hu
    subst he
    cases hv
    exact ⟨rfl,_,by simp [Builtin.len_,run_underlying hu];rfl,.val _⟩
   ·subst he;exact dc dg
  ·subst he;exact dc dg
end
end Go.Abs
end
section
namespace Go.Abs
open Go.RowKit
section
variable {P:Program} {base:Nat} {w0 w:World} {S0:Env} {σ:St} {kn:Nat->Prop} {c9:Nat->Option Loc} {a:Act}
theorem pc {n:Int} (h:cZ n):IntKind.i64.wrap n=n:=IntWalk.i64_in n h
theorem and3 {x:Int} (h0:0<=x) (h1:x<=9223372036854775807):IntKind.i64.wrap ((BitVec.ofInt 64 x&&&BitVec.ofInt 64 3).toNat:Int)=x%4:=by
 have e:(BitVec.ofInt 64 x&&&BitVec.ofInt 64 3).toNat=(x%4).toNat:=by
  obtain ⟨n,rfl⟩:=Int.eq_ofNat_of_zero_le h0
  have h3:(BitVec.ofInt 64 3).toNat=3:=by decide
  have hn:(BitVec.ofInt 64 (n:Int)).toNat=n:=by
   rw [BitVec.ofInt_natCast,BitVec.toNat_ofNat,cG (by omega)]
  rw [BitVec.toNat_and,h3,hn]
  have:=Nat.and_two_pow_sub_one_eq_mod n 2
  simp only [Nat.reducePow,Nat.reduceSub] at this
  rw [this]
  omega
 rw [e]
 exact (pc (n:=((x%4).toNat:Int)) ⟨by omega,by omega⟩).trans (by omega)
theorem HQ {oc:fE} {op:BinOp} {k:IntKind} {x y:Int} {e:eW} {t:TypeId} {ox oy:Operand} (he:Rm oc op k x y=e) (dg:dp e.vc):
 Still P base S0 kn c9 w (do eqGuard op t ox oy (.int k x) (.int k y);binOp op t (.int k x) (.int k y)) e:=by
 have ok: ∀u,e.d= .val u->e.hw=[]->(do eqGuard op t ox oy (.int k x) (.int k y);binOp op t (.int k x) (.int k y):Sem Value).run P w= .ok u w->Still P base S0 kn c9 w (do eqGuard op t ox oy (.int k x) (.int k y);binOp op t (.int k x) (.int k y)) e:=by
  intro u hd hw hr
  exact ⟨hw,u,hr,by rw [hd];exact .val u⟩
 unfold Rm at he
 split at he
 ·subst he;exact ok _ rfl rfl (by simp [eqGuard,binOp,Op.intCmp])
 ·subst he;exact ok _ rfl rfl (by simp [eqGuard,binOp,Op.intCmp])
 ·subst he;exact ok _ rfl rfl (by simp [eqGuard,binOp,Op.intCmp])
 ·subst he;exact ok _ rfl rfl (by simp [eqGuard,binOp,Op.intCmp])
 ·subst he;exact ok _ rfl rfl (by simp [eqGuard,binOp,Op.intCmp])
 ·subst he;exact ok _ rfl rfl (by simp [eqGuard,binOp,Op.intCmp])
 ·split at he
  ·subst he;exact ok _ rfl rfl (by simp [eqGuard,binOp,Op.intArith,pc dg.one])
  ·subst he;exact ok _ rfl rfl (by simp [eqGuard,binOp,Op.intArith])
 ·subst he;exact ok _ rfl rfl (by simp [eqGuard,binOp,Op.intArith])
 ·split at he
  ·subst he;exact ok _ rfl rfl (by simp [eqGuard,binOp,Op.intArith,pc dg.one])
  ·subst he;exact ok _ rfl rfl (by simp [eqGuard,binOp,Op.intArith])
 ·subst he;exact ok _ rfl rfl (by simp [eqGuard,binOp,Op.intArith])
 ·split at he
  ·subst he;exact ok _ rfl rfl (by simp [eqGuard,binOp,Op.intArith,pc dg.one])
  ·subst he;exact ok _ rfl rfl (by simp [eqGuard,binOp,Op.intArith])
 ·subst he;exact ok _ rfl rfl (by simp [eqGuard,binOp,Op.intArith])
 ·split at he
  ·subst he
   obtain ⟨h1,h2,h3⟩:=dg.one
   have hq:x.tdiv y=x/y:=Int.tdiv_eq_ediv_of_nonneg h1
   have sj:cZ (x/y):=⟨by have:=bZ h1 (Int.le_of_lt h2);omega,by have:=Int.ediv_le_self y h1;omega⟩
   exact ok _ rfl rfl (by simp [eqGuard,binOp,Op.intDiv,show y≠0 by omega,hq,pc sj])
  ·subst he;exact dc dg
 ·subst he;exact ok _ rfl rfl (by simp [eqGuard,binOp,Op.intDiv,dg.one])
 ·subst he
  obtain ⟨h1,h2⟩:=dg.one
  exact ok _ rfl rfl (by simp [eqGuard,binOp,Op.intDiv,show y≠0 by omega,Int.tmod_eq_emod_of_nonneg h1])
 ·subst he;exact ok _ rfl rfl (by simp [eqGuard,binOp,Op.intDiv,dg.one])
 ·split at he
  ·subst he
   obtain ⟨h1,h2,rfl⟩:=dg.one
   have h3:=and3 h1 h2
   rw [show BitVec.ofInt 64 3=3#64 from rfl] at h3
   exact ok _ rfl rfl (by
    simp only [eqGuard,binOp,Op.intBits,IntKind.bits]
    simp
    exact h3)
  ·subst he;exact dc dg
 ·subst he;exact dc dg
theorem HN {op:BinOp} {x y:ByteArray} {e:eW} {t:TypeId} {ox oy:Operand} (he:Rj op x y=e) (dg:dp e.vc):
 Still P base S0 kn c9 w (do eqGuard op t ox oy (.string x) (.string y);binOp op t (.string x) (.string y)) e:=by
 have ok: ∀u,e.d= .val u->e.hw=[]->(do eqGuard op t ox oy (.string x) (.string y);binOp op t (.string x) (.string y):Sem Value).run P w= .ok u w->Still P base S0 kn c9 w (do eqGuard op t ox oy (.string x) (.string y);binOp op t (.string x) (.string y)) e:=by
  intro u hd hw hr
  exact ⟨hw,u,hr,by rw [hd];exact .val u⟩
 unfold Rj at he
 split at he
 ·subst he
  have h:=dg.one
  exact ok _ rfl rfl (by simp [eqGuard,binOp,Op.stringOp];omega)
 ·subst he;exact ok _ rfl rfl (by simp [eqGuard,binOp,Op.stringOp])
 ·subst he;exact ok _ rfl rfl (by simp [eqGuard,binOp,Op.stringOp])
 ·subst he;exact ok _ rfl rfl (by simp [eqGuard,binOp,Op.stringOp])
 ·subst he;exact dc dg
theorem HV {oc:fE} {op:BinOp} {d1 d2:DV} {v1 v2:Value} {e:eW} {t:TypeId} {ox oy:Operand} (he:Rq oc op d1 d2=e) (dg:dp e.vc)
 (h1:Rel (df w base S0 c9) kn c9 d1 v1) (h2:Rel (df w base S0 c9) kn c9 d2 v2):
 Still P base S0 kn c9 w (do eqGuard op t ox oy v1 v2;binOp op t v1 v2) e:=by
 unfold Rq at he
 split at he
 ·cases h1;cases h2
  split at he
  ·rename_i hk;subst hk;exact HQ he dg
  ·subst he;exact dc dg
 ·cases h1;cases h2;exact HN he dg
 ·subst he;exact dc dg
theorem AX {neg:Bool} {op:BinOp} {d1 d2:DV} {v1 v2:Value} {e:eW} {t:TypeId} {ox oy:Operand} (np:op=if neg then .neq else .eql) (he:Ux P neg t d1 d2=e) (dg:dp e.vc)
 (h1:Rel (df w base S0 c9) kn c9 d1 v1) (h2:Rel (df w base S0 c9) kn c9 d2 v2):
 Still P base S0 kn c9 w (do eqGuard op t ox oy v1 v2;binOp op t v1 v2) e:=by
 unfold Ux at he
 split at he
 ·rename_i x y
  cases h1;cases h2
  split at he
  ·rename_i hu
   subst he;subst np
   have he: ∀d,(Op.equalIn (d+1) t (.bool x) (.bool y)).run P w= .ok (x==y) w:=fun d=>by simp [Op.equalIn,run_underlying hu]
   have he':(Op.equal t (.bool x) (.bool y)).run P w= .ok (x==y) w:=he 9999
   refine ⟨rfl,_,?_,.val _⟩
   cases neg
   ·have hb:binOp .eql t (.bool x) (.bool y)=(do pure (.bool (<-Op.equal t (.bool x) (.bool y)))):=rfl
    have hg:(eqGuard .eql t ox oy (.bool x) (.bool y)).run P w= .ok () w:=by simp [eqGuard]
    simp only [Sem.run_bind,ae Bool.false_ne_true,hg,hb,he',Result.andThen_ok,Sem.run_pure]
   ·have hb:binOp .neq t (.bool x) (.bool y)=(do pure (.bool (!(<-Op.equal t (.bool x) (.bool y))))):=rfl
    have hg:(eqGuard .neq t ox oy (.bool x) (.bool y)).run P w= .ok () w:=by simp [eqGuard]
    simp only [Sem.run_bind,bn,hg,hb,he',Result.andThen_ok,Sem.run_pure]
  ·subst he;exact dc dg
 ·subst he;exact dc dg
theorem nI {t:TypeId} {cs:List DV} {vs:Array Value} {rd:Rd} {off:Nat} {d:DV} (h:Dj P t cs off=some d) (hs:vs.size=cs.length)
 (hr: ∀(j:Nat) (d:DV) (u:Value),cs[j]? =some d->vs[j]? =some u->Rel rd kn c9 d u):
 ∃v,(part t vs off).run P w= .ok v w/\Rel rd kn c9 d v:=by
 unfold Dj at h
 split at h
 ·rename_i n h1 h2
  cases hb:Nat.ble (off+n) cs.length
  ·simp [hb] at h
  ·simp only [hb,aq,aa] at h
   subst h
   exact Ad h1 h2 (aH hb) hs hr
 ·rename_i h1
  exact Ae h1 h hs hr
 ·cases h
theorem pN {rd:Rd}: ∀(d:Nat) {t:TypeId} {x y:DV} {u v:Value} {b:Bool},Rs P d t x y=some b->Rel rd kn c9 x u->Rel rd kn c9 y v->
 ∀k,(Op.equalIn (k+d) t u v).run P w= .ok b w
 |0,t,x,y,u,v,b,h,_,_=>by cases h
 |d+1,t,x,y,u,v,b,h,hx,hy=>by
  intro k
  rw [show k+(d+1)=(k+d)+1 from rfl]
  unfold Rs at h
  split at h
  ·rename_i q hu
   split at h
   ·split at h
    ·rename_i hk
     cases h;cases hx;cases hy
     subst hk
     exact run_equalIn_int w (k+d) t _ _ _ _ hu
    ·cases h
   ·cases h
  ·rename_i hu
   split at h
   ·cases h;cases hx;cases hy
    exact run_equalIn_bool' w (k+d) t _ _ hu
   ·cases h
  ·rename_i hu
   split at h
   ·cases h;cases hx;cases hy
    exact run_equalIn_string w (k+d) t _ _ hu
   ·cases h
  ·rename_i fs hu
   split at h
   ·rename_i xs ys h1 h2
    cases hp:P.stoodInHeld t
    ·simp only [hp,ax] at h
     obtain ⟨us,rfl,hus,hur⟩:=eK hx h1
     obtain ⟨vs,rfl,Ji,hvr⟩:=eK hy h2
     have hf:P.fieldsOf t=fs:=by simp [Program.fieldsOf,hu]
     rw [run_equalIn_struct w (k+d) t us vs (by rw [hf];exact hu) hp,hf]
     generalize fs.toList=l at h
     clear hf hu hx hy h1 h2
     induction l generalizing b with
     |nil=>cases h;simp [Op.eqFields]
     |cons f l ih=>
      simp only [Ky] at h
      cases hn:f.name== "_"
      ·simp only [hn,ax] at h
       split at h
       ·rename_i a1 a2 g1 g2
        split at h
        ·rename_i c1 c2 e1 e2
         cases h
         obtain ⟨u1,r1,MT⟩:=nI (w:=w) g1 hus hur
         obtain ⟨u2,r2,Ew⟩:=nI (w:=w) g2 Ji hvr
         have h3:=pN d e1 MT Ew k
         have h4:=ih _ e2
         simp only [Op.eqFields,show f.name≠ "_" from by simpa using hn,ne_eq,not_false_eq_true,bn,Sem.run_bind,r1,r2,h3,Result.andThen_ok]
         cases c1
         ·simp
         ·simpa using h4
        ·cases h
       ·cases h
      ·simp [hn] at h
    ·simp [hp] at h
   ·cases h
  ·rename_i n e hu
   split at h
   ·rename_i xs ys sz h1 h2 fq
    obtain ⟨us,rfl,hus,hur⟩:=eK hx h1
    obtain ⟨vs,rfl,Ji,hvr⟩:=eK hy h2
    obtain ⟨i,hi,rfl⟩: ∃i,P.info? e=some i/\i.size=sz:=by
     unfold iS at fq
     split at fq
     ·rename_i i hi;exact ⟨i,hi,bF fq⟩
     ·cases fq
    have hc:P.cellsOf e=i.size:=by simp [Program.cellsOf,hi]
    rw [run_equalIn_array w (k+d) us vs hu hi,hc]
    generalize List.range n=l at h
    clear hx hy h1 h2
    induction l generalizing b with
    |nil=>cases h;simp [Op.eqItems]
    |cons q l ih=>
     simp only [Kx] at h
     split at h
     ·rename_i a1 a2 g1 g2
      split at h
      ·rename_i c1 c2 e1 e2
       cases h
       obtain ⟨u1,r1,MT⟩:=nI (w:=w) g1 hus hur
       obtain ⟨u2,r2,Ew⟩:=nI (w:=w) g2 Ji hvr
       have h3:=pN d e1 MT Ew k
       have h4:=ih _ e2
       simp only [Op.eqItems,Sem.run_bind,r1,r2,h3,Result.andThen_ok]
       cases c1
       ·simp
       ·simpa using h4
      ·cases h
     ·cases h
   ·cases h
  ·cases h
theorem HT {op:BinOp} {d1 d2:DV} {v1 v2:Value} {e:eW} {t:TypeId} {ox oy:Operand} (he:Ro P op t d1 d2=e) (dg:dp e.vc)
 (h1:Rel (df w base S0 c9) kn c9 d1 v1) (h2:Rel (df w base S0 c9) kn c9 d2 v2):
 Still P base S0 kn c9 w (do eqGuard op t ox oy v1 v2;binOp op t v1 v2) e:=by
 unfold Ro at he
 cases hg:P.eqGuardType P.depth t
 ·simp only [hg,ax] at he
  split at he
  ·rename_i xs ys b g1 g2 hb
   subst he
   obtain ⟨us,rfl,_,_⟩:=eK h1 g1
   obtain ⟨vs,rfl,_,_⟩:=eK h2 g2
   have:=pN (w:=w) 8 hb h1 h2 9992
   exact ⟨rfl,.bool b,by simp only [Sem.run_bind,run_eqGuard_agg w _ t ox oy us vs hg,Result.andThen_ok,run_eql_struct,this],.val _⟩
  ·rename_i xs ys b g1 g2 hb
   subst he
   obtain ⟨us,rfl,_,_⟩:=eK h1 g1
   obtain ⟨vs,rfl,_,_⟩:=eK h2 g2
   have:=pN (w:=w) 8 hb h1 h2 9992
   exact ⟨rfl,.bool !b,by simp only [Sem.run_bind,run_eqGuard_agg w _ t ox oy us vs hg,Result.andThen_ok,run_neq_struct,this],.val _⟩
  ·subst he;exact dc dg
 ·simp only [hg,aq] at he;subst he;exact dc dg
theorem HS {b:Bool} {v1:Value} {e:eW} {t:TypeId} {ox oy:Operand} (he:Rn P t oy b=e) (dg:dp e.vc) (h1:Rel (df w base S0 c9) kn c9 (.err b) v1):
 Still P base S0 kn c9 w (do eqGuard .neq t ox oy v1 .nilIface;binOp .neq t v1 .nilIface) e:=by
 unfold Rn at he
 cases hi:P.isIface t
 ·simp only [hi,ax] at he;subst he;exact dc dg
 ·simp only [hi,aq] at he
  cases oy with
  |const c=>
   simp only [PS,aq] at he
   subst he
   cases h1 with
   |err a1 a2=>
    cases b with
    |true=>
     obtain rfl:=a1 rfl
     exact ⟨rfl,.bool false,by simp [eqGuard,run_neq_nil_nil_at w t hi],.val _⟩
    |false=>
     obtain ⟨u,p,rfl⟩:=a2 rfl
     exact ⟨rfl,.bool true,by simp [eqGuard,run_neq_iface_nil w t hi u p],.val _⟩
  |tmp c=>simp only [PS,ax] at he;subst he;exact dc dg
  |global c=>simp only [PS,ax] at he;subst he;exact dc dg
  |func c=>simp only [PS,ax] at he;subst he;exact dc dg
theorem Kt {op:UnOp} {d:DV} {v:Value} {e:eW} (he:Zh op d=e) (dg:dp e.vc) (h:Rel (df w base S0 c9) kn c9 d v):
 Still P base S0 kn c9 w (Op.unary op v) e:=by
 unfold Zh at he
 split at he
 ·cases h
  split at he
  ·subst he;exact ⟨rfl,.bool _,by simp [Op.unary],.val _⟩
  ·subst he;exact dc dg
 ·cases h
  split at he
  ·subst he
   refine ⟨rfl,_,?_,.val _⟩
   simp [Op.unary,Op.intArith,pc dg.one]
  ·subst he;exact dc dg
 ·subst he;exact dc dg
theorem Ff {src dst:TypeId} {d:DV} {v:Value} {e:eW} (hs: ∃q,P.underlying src=some q) (he:Kw P dst d=e) (dg:dp e.vc) (h:Rel (df w base S0 c9) kn c9 d v):
 Still P base S0 kn c9 w (convert src dst v) e:=by
 obtain ⟨q,hq⟩:=hs
 unfold Kw at he
 split at he
 ·cases h
  split at he
  ·rename_i hu
   subst he
   exact ⟨rfl,.int .i64 _,by simp [convert,run_underlying hq,run_underlying hu,Conv.intToInt,pc dg.one],.val _⟩
  ·rename_i k _ hu
   subst he
   exact ⟨rfl,.int k _,by simp [convert,run_underlying hq,run_underlying hu,Conv.intToInt],.val _⟩
  ·subst he;exact dc dg
 ·subst he;exact dc dg
theorem lp: ∀{cs:List DV} {k:IntKind} {l:List Int},ij cs=some (k,l)->cs=l.map fun n=> .val (.int k n):=by
 intro cs
 induction cs with
 |nil=>intro k l h;simp [ij] at h
 |cons d r ih=>
  intro k l h
  cases d with
  |val v=>
   cases v with
   |int k0 x=>
    cases r with
    |nil=>
     simp only [ij,aa,aB] at h
     obtain ⟨rfl,rfl⟩:=h;rfl
    |cons d' r'=>
     simp only [ij] at h
     cases hr:ij (d'::r') with
     |none=>simp [hr] at h
     |some q=>
      obtain ⟨k',l'⟩:=q
      simp only [hr] at h
      split at h
      ·rename_i hk
       subst hk
       simp only [aa,aB] at h
       obtain ⟨rfl,rfl⟩:=h
       rw [ih hr];rfl
      ·cases h
   |_=>cases r<;>simp [ij] at h
  |_=>cases r<;>simp [ij] at h
theorem yh {cs:List DV} {i:Nat} {d:DV} (h:cs[i]? =some d) {rd:Rd} {v:Value} (hr:Rel rd kn c9 d v):Rel rd kn c9 (LR cs i) v:=by
 match cs,h with
 |[],h=>simp at h
 |[d'],h=>
  match i,h with
  |0,h=>simp at h;subst h;exact hr
  |i+1,h=>simp at h
 |c1::c2::r,h=>
  simp only [LR]
  generalize c1::c2::r=cs at h
  cases hl:ij cs with
  |some q=>
   obtain ⟨k,l⟩:=q
   have:=lp hl
   subst this
   rw [aw] at h
   cases QH:l[i]? with
   |none=>simp [QH] at h
   |some n=>
    simp only [QH,aA,aa] at h
    subst h
    simpa [List.getD,QH] using hr
  |none=>simpa [List.getD,h] using hr
theorem sk: ∀(s j n:Nat) (cs:List DV) (i:Nat),i<n->(n - 1)*s+j<cs.length->(every s j n cs)[i]? =cs[i*s+j]?
 |_,_,0,_,_,h,_=>by omega
 |s,j,n+1,cs,i,hi,hl=>by
  have hj:j<cs.length:=by
   have:0<=(n+1 - 1)*s:=ao _
   omega
  simp only [every,ak hj]
  cases i with
  |zero=>simp [ak hj]
  |succ i=>
   simp only [aK]
   have hn:n - 1+1=n:=by omega
   have hmul:(n - 1)*s+s=n*s:=by
    rw [<-cq];congr 1
   rw [sk s j n (cs.drop s) i (by omega) (by simp only [Nat.add_sub_cancel] at hl;rw [bq];omega),bu]
   congr 1
   rw [cq];omega
theorem Cf {t:TypeId} {x i:DV} {v vi:Value} {e:eW} (he:Fa P t x i=e) (dg:dp e.vc)
 (hv:Rel (df w base S0 c9) kn c9 x v) (hi:Rel (df w base S0 c9) kn c9 i vi):Still P base S0 kn c9 w (Instr.index t v vi) e:=by
 unfold Fa at he
 split at he
 ·rename_i s k q hu
  cases hv;cases hi
  subst he
  have hk:0<=q/\q<(s.size:Int):=dg.one
  refine ⟨rfl,_,?_,.val _⟩
  have dK:q.toNat<s.size:=by omega
  have h2:s[q.toNat]? =some s[q.toNat]:=by simp [dK]
  have h3:s.data.getD q.toNat 0=s[q.toNat]:=by
   have:q.toNat<s.data.size:=dK
   unfold Array.getD
   rw [dif_pos this];rfl
  simp only [Instr.index,asIntOf,Sem.run_bind,Sem.run_pure,Result.andThen_ok,run_underlying hu,ah hk.1,h2]
  unfold k8
  rw [h3]
 ·rename_i len el k q hu
  cases hi
  split at he
  ·rename_i cs h1 h2 h3
   cases hb:Nat.beq cs.length len
   ·simp only [hb,ax] at he;subst he;exact dc dg
   ·simp only [hb,aq] at he
    subst he
    have hl:=ag hb
    have hk:0<=q/\q<(len:Int):=dg.one
    obtain ⟨vs,rfl,hs,hr⟩:=eK hv h3
    have dK:q.toNat<cs.length:=by omega
    obtain ⟨u,ef,hrel⟩:=Ae (w:=w) (off:=q.toNat) h1 (ak dK) hs hr
    exact ⟨rfl,u,by simp [Instr.index,asIntOf,run_underlying hu,hk,fJ h2,ef],yh (ak dK) hrel⟩
  ·rename_i s cs h1 h2 h3
   cases hb:Nat.beq cs.length (len*s)
   ·simp only [hb,ax] at he;subst he;exact dc dg
   ·simp only [hb,aq] at he
    subst he
    have hl:=ag hb
    have hk:0<=q/\q<(len:Int):=dg.one
    obtain ⟨vs,rfl,hs,hr⟩:=eK hv h3
    have hq:q.toNat<len:=by omega
    have hle:q.toNat*s+s<=cs.length:=by
     rw [hl,<-cq];exact ba _ hq
    refine ⟨rfl,.agg (vs.extract (q.toNat*s) (q.toNat*s+s)),by simp [Instr.index,asIntOf,run_underlying hu,hk,fJ h2,part,oA h1],Rel.mM (by simp;omega) fun j d u hd DA=> ?_⟩
    have hj:j<s:=by
     have:=(aj.1 hd).1
     simpa using this
    rw [aw,List.getElem?_range hj] at hd
    simp only [aA,aa] at hd
    subst hd
    rw [Array.getElem?_extract] at DA
    split at DA
    ·have hlen:(len - 1)*s+j<cs.length:=by
      rw [hl]
      have:(len - 1)*s+s=len*s:=by rw [<-cq];congr 1;omega
      omega
     have e1:=sk s j len cs q.toNat hq hlen
     have dK:q.toNat*s+j<cs.length:=by omega
     rw [ak dK] at e1
     exact yh e1 (hr _ _ _ (ak dK) DA)
    ·cases DA
  ·subst he;exact dc dg
 ·subst he;exact dc dg
end
end Go.Abs
end
section
namespace Go.Abs
open Go.RowKit
theorem EI:fc=Value.oneCell':=by funext v;cases v<;>rfl
theorem yU {α:Type} (l m:List α) (j k:Nat) (h:j+m.length<=l.length):
 (l.take j++(m++l.drop (j+m.length)))[k]? =if k<j then l[k]? else if k<j+m.length then m[k - j]? else l[k]? :=by
 by_cases h1:k<j
 ·rw [ah h1,aM (by rw [aQ];omega),bG,ah h1]
 ·rw [ae h1,a7 (by rw [aQ];omega),aQ]
  have hm:min j l.length=j:=by omega
  rw [hm]
  by_cases h2:k<j+m.length
  ·rw [ah h2,aM (by omega)]
  ·rw [ae h2,a7 (by omega),bu]
   congr 1;omega
theorem GA {P:Program} {t:TypeId} {z:List DV} (h:sM P t=some z): ∃v,(∀w:World,(zeroValue t).run P w= .ok v w)/\v.cells.size=z.length/\
 (∀(rd:Rd) (kn:Nat->Prop) (c9:Nat->Option Loc) (j:Nat) (d:DV) (u:Value),z[j]? =some d->v.cells[j]? =some u->Rel rd kn c9 d u)/\ ∀u∈v.cells.toList,fc u=true:=by
 unfold sM at h
 split at h
 ·rename_i i hi
  split at h
  ·rename_i v hz
   refine ⟨v,fun w=>by simp [zeroValue,typeInfo,hi,hz],?_,?_,?_⟩
   ·exact (Rel.cells (rd:=fun _ _=>True) (kn:=fun _=>True) (c9:=fun _=>none) (.val v) h).1
   ·exact fun rd kn c9=>(Rel.cells (rd:=rd) (kn:=kn) (c9:=c9) (.val v) h).2.1
   ·exact (Rel.cells (rd:=fun _ _=>True) (kn:=fun _=>True) (c9:=fun _=>none) (.val v) h).2.2
  ·cases h
 ·cases h
def VA:DV->Prop
 |.ptr .. | .jZ .. | .dN _| .jL .. | .nZ .. | .val (.func (.func _) _ _)=>True
 |_=>False
section
variable {P:Program} {base:Nat} {w0 w:World} {S0:Env} {σ:St} {kn:Nat->Prop} {c9:Nat->Option Loc} {a:Act}
theorem P5 (r:R base w0 S0 σ kn c9 a w) {id:Nat} (fS: ¬kn id) {T:TypeId} {v:Value} {cs:List DV} (hs:v.cells.size=cs.length)
 (hr: ∀(j:Nat) (d:DV) (u:Value),cs[j]? =some d->v.cells[j]? =some u->Rel (df w base S0 c9) kn c9 d u) (h1: ∀u∈v.cells.toList,fc u=true) {s:Sem Value}
 (ef:s.run P w= .ok (.pointer (some ⟨w.heap.size,0,none⟩)) (w.alloc (.cells v.cells T))):
 lV P base w0 S0 σ kn a w id s { d:= .ptr id 0,hw:=[(id,some (.box cs))] }:=by
 have q:=r.new (C:=0) (T:=T) fS (o:= .box cs) (cv:=v.cells) (.inl ⟨_,rfl⟩) ⟨w.heap.size,0,v.cells,T,rfl,heap_alloc_new w _,hs,hr,h1⟩
 refine ⟨_,_,ef,_,_,q,.ptr (.inr rfl) ⟨_,rfl⟩ fun g C hb=> ?_,fun i hi=>hi⟩
 simp only [bn,aa,Loc.at_.injEq] at hb
 rw [<-hb.1]
theorem Cm (r:R base w0 S0 σ kn c9 a w) {id:Nat} (fS: ¬kn id) {t:TypeId} {e:eW} {Dm:Value} (he:Fh P id t=e) (dg:dp e.vc):
 lV P base w0 S0 σ kn a w id (Instr.alloc t true Dm) e:=by
 unfold Fh at he
 split at he
 ·rename_i z hz
  subst he
  obtain ⟨v,ef,hs,hr,h1⟩:=GA hz
  exact P5 r fS (T:=t) (v:=v) hs (hr _ _ _) h1 (by simp [Instr.alloc,ef,newVar,newRow])
 ·subst he;exact dc dg
theorem HU (r:R base w0 S0 σ kn c9 a w) {id:Nat} (fS: ¬kn id) {t:TypeId} {e:eW} {x:DV} {v:Value} (he:Rp id x=e) (dg:dp e.vc)
 (hv:Rel (df w base S0 c9) kn c9 x v):lV P base w0 S0 σ kn a w id (Instr.box t v) e:=by
 unfold Rp at he
 split at he
 ·rename_i cs hc
  subst he
  obtain ⟨hs,hr,h1⟩:=hv.cells hc
  exact P5 r fS (T:=t) (v:=v) hs hr h1 (by simp [Instr.box,newVar,newRow])
 ·subst he;exact dc dg
theorem JT {b:Bool} {x y u:Value} (h:GM b x y=some u):u=if b=true then x else y:=by
 unfold GM at h
 split at h
 ·split at h
  ·rename_i hk;subst hk;cases h;cases b<;>rfl
  ·cases h
 ·cases h;cases b<;>rfl
 ·cases h;cases b<;>rfl
 ·cases h
section sels
variable {rd:Rd}
def wC (rd:Rd) (b:Bool) (d e:DV) (v:Value):Prop:=(b=true->du rd d v)/\(b=false->du rd e v)
theorem zO {b:Bool} {d e:DV} {v:Value} (h:wC rd b d e v):du rd (Pv b d e) v:=by
 unfold Pv
 split
 ·rename_i x y
  split
  ·rename_i u hu
   rw [JT hu]
   cases b
   ·exact h.2 rfl
   ·exact h.1 rfl
  ·exact .any v
 ·exact .any v
theorem jW (f:DV->DV->DV): ∀(c d:List (Nat->DV)) (j:Nat) (g:Nat->DV),(mF f c d)[j]? =some g-> ∃x y,c[j]? =some x/\d[j]? =some y/\g=fun i=>f (x i) (y i)
 |[],_,j,g,h=>by simp [mF] at h
 |_::_,[],j,g,h=>by simp [mF] at h
 |x::c,y::d,0,g,h=>by
  simp only [mF,aP,aa] at h
  exact ⟨x,y,rfl,rfl,h.symm⟩
 |x::c,y::d,j+1,g,h=>by
  simp only [mF,aK] at h
  simpa using jW f c d j g h
theorem zq (f:DV->DV->DV): ∀(c d:List (Nat->DV)),c.length=d.length->(mF f c d).length=c.length
 |[],[],_=>rfl
 |x::c,y::d,h=>by simp only [mF,aL];rw [zq f c d (by simpa using h)]
 |[],_::_,h=>by simp at h
 |_::_,[],h=>by simp at h
theorem uB {b:Bool} {n n':Nat} {c c':List (Nat->DV)} {v:Value} {f:DV->DV->DV} (hf: ∀{d e v},wC rd b d e v->du rd (f d e) v) (hl:c.length=c'.length)
 (h:wC rd b (.di n c) (.di n' c') v):du rd (.di (if b=true then n else n') (mF f c c')) v:=by
 have hlen:=zq f c c' hl
 cases b
 ·have:=h.2 rfl
  cases this with
  |di U hc ha hn ho hr=>
   refine .di U (by simpa using hc) (fun i j g hi hj=> ?_) (by simpa using hn) (fun i j g hi hj=>let ⟨_,y,_,hy,_⟩:=jW f c c' j g hj;ho i j y (by simpa using hi) hy) fun i j g hi hj=> ?_
   ·obtain ⟨x,y,hx,hy,_⟩:=jW f c c' j g hj
    rw [hlen,hl]
    exact ha i j y (by simpa using hi) hy
   ·obtain ⟨x,y,hx,hy,rfl⟩:=jW f c c' j g hj
    exact hf ⟨(fun h=>by cases h),fun _=>hr i j y (by simpa using hi) hy⟩
 ·have:=h.1 rfl
  cases this with
  |di U hc ha hn ho hr=>
   refine .di U (by simpa using hc) (fun i j g hi hj=> ?_) (by simpa using hn) (fun i j g hi hj=>let ⟨x,_,hx,_,_⟩:=jW f c c' j g hj;ho i j x (by simpa using hi) hx) fun i j g hi hj=> ?_
   ·obtain ⟨x,y,hx,hy,_⟩:=jW f c c' j g hj
    rw [hlen]
    exact ha i j x (by simpa using hi) hx
   ·obtain ⟨x,y,hx,hy,rfl⟩:=jW f c c' j g hj
    exact hf ⟨fun _=>hr i j x (by simpa using hi) hx,(fun h=>by cases h)⟩
theorem zN {b:Bool} {d e:DV} {v:Value} (h:wC rd b d e v):du rd (Pu b d e) v:=by
 unfold Pu
 split
 ·rename_i n c n' c'
  cases hb:Nat.beq c.length c'.length
  ·exact .any v
  ·exact uB zO (ag hb) h
 ·exact zO h
theorem mw {b:Bool} {d e:DV} {v:Value} (h:wC rd b d e v):du rd (Lu b d e) v:=by
 unfold Lu
 split
 ·rename_i n c n' c'
  cases hb:Nat.beq c.length c'.length
  ·exact .any v
  ·exact uB zN (ag hb) h
 ·exact zN h
end sels
theorem gn: ∀{cs:List DV},DV.closed.go cs=true-> ∀d∈cs,d.closed=true
 |[],_,d,hd=>by cases hd
 |c::r,h,d,hd=>by
  simp only [DV.closed.go] at h
  cases hc:c.closed
  ·simp [hc] at h
  ·simp only [hc,aq] at h
   rcases aS.1 hd with rfl|hd
   ·exact hc
   ·exact gn h d hd
theorem Rel.close {rd:Rd} {kn:Nat->Prop} {c9:Nat->Option Loc} {d:DV} {v:Value} (h:Rel rd kn c9 d v):d.closed=true->du rd d v:=by
 induction h with
 |val v=>intro _;exact .val v
 |agg hs _ ih=>intro hc;exact .agg hs fun j d u hd hu=>ih j d u hd hu (gn hc d (aG hd))
 |fy hs _ ih=>intro hc;exact .fy hs fun j d u hd hu=>ih j d u hd hu (gn hc d (aG hd))
 |di U hc ha hn ho hr _=>intro _;exact .di U hc ha hn ho hr
 |dN U ha ho hr _=>intro _;exact .dN U ha ho hr
 |mp es h0 ha hk hh hd hs h _=>intro _;exact .mp es h0 ha hk hh hd hs h
 |pB=>intro hc;simp [DV.closed] at hc
 |tok=>intro hc;simp [DV.closed] at hc
 |tL=>intro hc;simp [DV.closed] at hc
 |k5=>intro hc;simp [DV.closed] at hc
 |jL hs _ ih=>intro hc;exact .jL hs fun j d u hd hu=>ih j d u hd hu (gn hc d (aG hd))
 |nZ hs _ ih=>intro hc;exact .nZ hs fun j d u hd hu=>ih j d u hd hu (gn hc d (aG hd))
 |ptr=>intro hc;simp [DV.closed] at hc
 |jZ=>intro hc;simp [DV.closed] at hc
 |row=>intro hc;simp [DV.closed] at hc
 |opt=>intro hc;simp [DV.closed] at hc
 |err a b=>intro _;exact .err a b
 |whole h=>intro _;exact .whole h
 |any=>intro _;exact .any _
theorem Rel.un {rd:Rd} {d:DV} {v:Value} (h:Rel rd kn c9 d v):(∀b,d.mZ =some b->b=true)->Rel rd kn c9 d.un v:=by
 induction h with
 |opt hb _ ih=>
  rename_i b d v _
  intro hc
  have wK:b=true:=by
   simp only [DV.mZ] at hc
   split at hc
   ·exact hc _ rfl
   ·have:=hc _ rfl;simp at this;exact this.1
  refine ih wK fun c hcd=> ?_
  have:=hc (b&&c) (by simp only [DV.mZ,hcd])
  simp at this;exact this.2
 |val v=>intro _;exact .val v
 |agg hs hr _=>intro _;exact .agg hs hr
 |fy hs hr _=>intro _;exact .fy hs hr
 |di U hc ha hn ho hr _=>intro _;exact .di U hc ha hn ho hr
 |dN U ha ho hr _=>intro _;exact .dN U ha ho hr
 |mp es h0 ha hk hh hd hs h _=>intro _;exact .mp es h0 ha hk hh hd hs h
 |pB a b c=>intro _;exact .pB a b c
 |tok a b c=>intro _;exact .tok a b c
 |tL a b c=>intro _;exact .tL a b c
 |k5 a b c=>intro _;exact .k5 a b c
 |jL hs hr _=>intro _;exact .jL hs hr
 |nZ hs hr _=>intro _;exact .nZ hs hr
 |ptr a b c=>intro _;exact .ptr a b c
 |jZ a b c d=>intro _;exact .jZ a b c d
 |row a b c d e=>intro _;exact .row a b c d e
 |err a b=>intro _;exact .err a b
 |whole h=>intro _;exact .whole h
 |any=>intro _;exact .any _
theorem E8 {c x y:DV} {vc vx vy:Value} {e:eW} (he:Ku c x y=e) (dg:dp e.vc) (hc:Rel (df w base S0 c9) kn c9 c vc)
 (hx:Rel (df w base S0 c9) kn c9 x vx) (hy:Rel (df w base S0 c9) kn c9 y vy):
 Still P base S0 kn c9 w (do pure (if <-asBool vc then vx else vy)) e:=by
 unfold Ku at he
 split at he
 ·rename_i p hp
  subst he
  obtain ⟨h1,h2⟩:=dp.app dg
  obtain ⟨h2,h3⟩:=dp.app h2
  have hcu:=hc.un (fun b hb=>by rw [hb] at h1;exact h1.one)
  rw [hp] at hcu
  cases hcu
  refine ⟨rfl,if p=true then vx else vy,by simp [asBool],?_⟩
  show Rel _ _ _ (Lu p x.un y.un) _
  have side:Lu p x.un y.un= .any\/(x.un.closed=true/\y.un.closed=true):=by
   unfold Lu
   split
   ·rename_i hx hy;rw [hx,hy];exact .inr ⟨rfl,rfl⟩
   ·unfold Pu
    split
    ·rename_i hx hy;rw [hx,hy];exact .inr ⟨rfl,rfl⟩
    ·unfold Pv
     split
     ·rename_i hx hy;rw [hx,hy];exact .inr ⟨rfl,rfl⟩
     ·exact .inl rfl
  rcases side with hs|⟨s1,s2⟩
  ·rw [hs];exact .any _
  ·refine ew (mw ⟨fun hp1=> ?_,fun hp1=> ?_⟩)
   ·subst hp1
    simp only [bn]
    exact (hx.un (fun b hb=>by rw [hb] at h2;exact h2.one rfl)).close s1
   ·subst hp1
    simp only [bB,cg]
    exact (hy.un (fun b hb=>by rw [hb] at h3;exact h3.one rfl)).close s2
 ·subst he;exact dc dg
theorem HO {x:DV} {v:Value} {rd:Rd} (hv:Rel rd kn c9 x v) (h:VA x):(∃ad,v= .pointer (some ad))\/ ∃f fs cs,v= .func (.func f) fs cs:=by
 cases hv with
 |ptr _ hp _=>exact .inl hp
 |jZ _ hp _=>exact .inl hp
 |dN U ha hr=>exact .inl ⟨_,rfl⟩
 |jL hs hr=>exact .inr ⟨_,_,_,rfl⟩
 |nZ hs hr=>exact .inr ⟨_,_,_,rfl⟩
 |val v=>
  cases v<;>try exact False.elim h
  rename_i fn _ _
  cases fn<;>try exact False.elim h
  exact .inr ⟨_,_,_,rfl⟩
 |_=>exact h.elim
theorem pE: ∀{xs:List DV} {l:List Int},oi xs=some l->xs=l.map fun n=> .val (.int .i64 n)
 |[],l,h=>by simp [oi] at h;subst h;rfl
 |d::r,l,h=>by
  cases d with
  |val v=>
   cases v with
   |int k x=>
    cases k with
    |i64=>
     simp only [oi] at h
     cases hr:oi r with
     |none=>simp [hr] at h
     |some q=>
      simp only [hr,aa] at h
      subst h
      rw [pE hr];rfl
    |_=>simp [oi] at h
   |_=>simp [oi] at h
  |_=>simp [oi] at h
theorem GO: ∀(l:List Int) (x:Int),((l.map fun n=>Value.int .i64 n).foldlM Builtin.min2 (.int .i64 x)).run P w= .ok (.int .i64 (iM x l)) w
 |[],x=>rfl
 |y::r,x=>by simp only [bO,List.foldlM_cons,Sem.run_bind,Builtin.min2,Sem.run_pure,Result.andThen_ok,GO r,iM]
theorem GP: ∀(l:List Int) (x:Int),((l.map fun n=>Value.int .i64 n).foldlM Builtin.max2 (.int .i64 x)).run P w= .ok (.int .i64 (hP x l)) w
 |[],x=>rfl
 |y::r,x=>by simp only [bO,List.foldlM_cons,Sem.run_bind,Builtin.max2,Sem.run_pure,Result.andThen_ok,GP r,hP]
end
end Go.Abs
end
section
namespace Go.Abs
open Go.RowKit
theorem qK (i:Nat): ∀(cs:List (Nat->DV)) (vs:List DV) (m:Nat) (f:Nat->DV),vs.length<=cs.length->(kC i cs vs)[m]? =some f->
 ∃c,cs[m]? =some c/\((vs.length<=m/\f=c)\/ ∃d,vs[m]? =some d/\f=fun i'=>Lu (decide (i'=i)) d (c i'))
 |cs,[],m,f,_,h=>by
  have:kC i cs []=cs:=by cases cs<;>rfl
  rw [this] at h
  exact ⟨f,h,.inl ⟨by simp,rfl⟩⟩
 |[],d::vs,m,f,hl,_=>by simp at hl
 |c::cs,d::vs,0,f,_,h=>by
  simp only [kC,aP,aa] at h
  exact ⟨c,rfl,.inr ⟨d,rfl,h.symm⟩⟩
 |c::cs,d::vs,m+1,f,hl,h=>by
  simp only [kC,aK] at h
  have:=qK i cs vs m f (by simpa using hl) h
  simpa using this
theorem ya (i:Nat): ∀(cs:List (Nat->DV)) (vs:List DV),vs.length<=cs.length->(kC i cs vs).length=cs.length
 |cs,[],_=>by cases cs<;>rfl
 |[],_::_,h=>by simp at h
 |c::cs,d::vs,h=>by simp only [kC,aL];rw [ya i cs vs (by simpa using h)]
theorem KE {s i i' j j':Nat} (hj:j<s) (xx:j'<s) (h:i*s+j=i'*s+j'):i=i'/\j=j':=by
 have h1:(i*s+j)/s=i:=by rw [Nat.add_comm,Nat.add_mul_div_right _ _ (by omega),Nat.div_eq_of_lt hj];omega
 have h2:(i'*s+j')/s=i':=by rw [Nat.add_comm,Nat.add_mul_div_right _ _ (by omega),Nat.div_eq_of_lt xx];omega
 have:i=i':=by rw [<-h1,<-h2,h]
 subst this
 exact ⟨rfl,by omega⟩
theorem GN {α:Type} (l m:List α) (j k n:Nat) (hm:m.length=n) (h:j+n<=l.length):
 (l.take j++(m++l.drop (j+n)))[k]? =if k<j then l[k]? else if k<j+n then m[k - j]? else l[k]? :=by
 subst hm;exact yU l m j k h
section
variable {P:Program} {base:Nat} {w0 w:World} {S0:Env} {σ:St} {kn:Nat->Prop} {c9:Nat->Option Loc} {a:Act}
theorem uw {t:TypeId} {n g o:Nat} {v:Value} {cur:Array Value} {T:TypeId} (h:iS P t=some n) (hs:v.cells.size=n) (hg:w.heap[g]? =some (.cells cur T (0,0)))
 (hl:o+n<=cur.size) (h1: ∀u∈v.cells.toList,fc u=true):
 (Instr.storeAt t (.pointer (some ⟨g,o,none⟩)) v).run P w= .ok () (w.setRow g (cur.toList.take o++(v.cells.toList++cur.toList.drop (o+n))).toArray):=by
 have hlen:v.cells.toList.length=n:=by simpa using hs
 have:=run_storeCells_at (P:=P) g o T v.cells.toList 0 cur w hg (by omega) (fun u hu=>by rw [<-EI];exact h1 u hu)
 simp only [bU,cz] at this
 rw [hlen] at this
 simp [Instr.storeAt,Instr.sureAddr,storeVar,fJ h,hs,this]
theorem B8 (r:R base w0 S0 σ kn c9 a w) {t:TypeId} {p d:DV} {vp vd:Value} {e:eW} (he:sl P σ.obj t p d=e) (dg:dp e.vc)
 (hp:Rel (df w base S0 c9) kn c9 p vp) (hd:Rel (df w base S0 c9) kn c9 d vd):
 e.d= .any/\ ∃w',(Instr.storeAt t vp vd).run P w= .ok () w'/\R base w0 S0 (σ.iu e) kn c9 a w':=by
 unfold sl at he
 split at he
 ·rename_i n vs hn Ji
  obtain ⟨hs,hr,h1⟩:=hd.cells Ji
  cases hb:Nat.beq n vs.length
  ·simp only [hb,ax] at he;subst he;exact dc dg
  ·simp only [hb,aq] at he
   obtain rfl:=ag hb
   split at he
   ·rename_i id j
    split at he
    ·rename_i cs ho
     cases hU:Nat.ble (j+vs.length) cs.length
     ·simp only [hU,ax] at he;subst he;exact dc dg
     ·simp only [hU,aq] at he
      subst he
      have hle:=aH hU
      obtain ⟨hk,g,C,cv,T,hl,hh,xy,hrel,Nk⟩:=r.fg _ _ ho
      obtain ⟨_,_,hpv⟩:=G1 hp
      obtain rfl:=hpv g C hl
      have hvl:vd.cells.toList.length=vs.length:=by simpa using hs
      refine ⟨rfl,_,uw hn hs hh (by omega) h1,?_⟩
      refine r.zA hl (by simp) rfl rfl rfl (fun k hk=>setRow_other w g k _ hk) fun mono _=>⟨g,C,_,T,rfl,setRow_heap w g cv _ T _ hh,?_,fun k d u hd hu=> ?_,fun u hu=> ?_⟩
      ·simp only [cc,aO,aQ,bq,bP];omega
      ·rw [cJ,GN _ _ _ _ _ hvl (by simpa [xy] using hle)] at hu
       rw [yU _ _ _ _ hle] at hd
       refine mono ?_
       split at hd
       ·rename_i hk;rw [ah hk] at hu;exact hrel k d u hd (by simpa using hu)
       ·rename_i hk
        rw [ae hk] at hu
        split at hd
        ·rename_i qz;rw [ah qz] at hu;exact hr _ d u hd (by simpa using hu)
        ·rename_i qz;rw [ae qz] at hu;exact hrel k d u hd (by simpa using hu)
      ·simp only [aT] at hu
       rcases hu with hu|hu|hu
       ·exact Nk _ (List.mem_of_mem_take hu)
       ·exact h1 _ hu
       ·exact Nk _ (List.mem_of_mem_drop hu)
    ·subst he;exact dc dg
   ·rename_i s id i j
    split at he
    ·rename_i n' de ho
     cases hU:(Nat.beq de.length s&&Nat.ble (j+vs.length) s&&DV.closed.go vs)
     ·simp only [hU,ax] at he;subst he;exact dc dg
     ·simp only [hU,aq] at he
      subst he
      simp only [av] at hU
      obtain ⟨⟨hU,QW⟩,jg⟩:=hU
      obtain rfl:=ag hU
      have hle:=aH QW
      have hi:i<n':=dg.one
      obtain ⟨hk,oQ⟩:=r.fg _ _ ho
      rcases oQ with ⟨_,h0⟩|⟨g,C,cv,T,hl,hh,fq,hC,hrel⟩
      ·omega
      ·have hpv: ∀g C,c9 id=some (.at_ g C)->vp= .pointer (some ⟨g,i*de.length+j,none⟩):=by cases hp with|jZ _ _ h=>exact h
       obtain rfl:=hpv g C hl
       have hvl:vd.cells.toList.length=vs.length:=by simpa using hs
       have mT:i*de.length+j+vs.length<=cv.size:=by
        have:i*de.length+de.length<=C*de.length:=by rw [<-cq];exact ba _ (by omega)
        omega
       refine ⟨rfl,_,uw hn hs hh mT h1,?_⟩
       have tH:(de.take j++kC i (de.drop j) vs).length=de.length:=by
        rw [aO,ya _ _ _ (by rw [bq];omega),aQ,bq];omega
       refine r.zA hl (by simp) rfl rfl rfl (fun k hk=>setRow_other w g k _ hk) fun _ VD=> .inr ⟨g,C,_,T,rfl,setRow_heap w g cv _ T _ hh,?_,hC,fun i' j' f pH hf=> ?_⟩
       ·rw [tH]
        simp only [cc,aO,aQ,bq,bP];omega
       ·rw [tH]
        have xx:j'<de.length:=by rw [<-tH];exact (aj.1 hf).1
        have hcf:de[j']? =some de[j']:=ak xx
        obtain ⟨u0,hu0,hone0,QE⟩:=hrel i' j' _ pH hcf
        rw [cJ,GN _ _ _ _ _ hvl (by simpa using mT)]
        simp only [bt]
        by_cases YW:i'=i/\j<=j'/\j'<j+vs.length
        ·obtain ⟨rfl,hj1,YU⟩:=YW
         rw [ae (by omega),ah (by omega)]
         have lT:(kC i' (de.drop j) vs)[j' - j]? =some f:=by
          rw [a7 (by rw [aQ];omega),aQ] at hf
          rwa [show min j de.length=j by omega] at hf
         obtain ⟨c,hc,⟨iy,_⟩|⟨d',rq,rfl⟩⟩:=qK i' _ vs _ f (by rw [bq];omega) lT
         ·omega
         ·have dK:j' - j<vd.cells.size:=by omega
          have hu:vd.cells[j' - j]? =some vd.cells[j' - j]:=aD dK
          refine ⟨vd.cells[j' - j],?_,h1 _ (bJ.2 (Array.getElem_mem _)),?_⟩
          ·rw [show i'*de.length+j' - (i'*de.length+j)=j' - j by omega];exact hu
          ·refine VD (mw ⟨fun _=> ?_,fun h=> ?_⟩)
           ·exact (hr _ d' _ rq hu).close (gn jg _ (aG rq))
           ·simp at h
        ·have eZ: ¬(¬i'*de.length+j'<i*de.length+j/\i'*de.length+j'<i*de.length+j+vs.length):=by
          rintro ⟨hx,hy⟩
          obtain ⟨m,hm⟩: ∃m,i'*de.length+j'=i*de.length+(j+m):=⟨i'*de.length+j' - (i*de.length+j),by omega⟩
          obtain ⟨e1,e2⟩:=KE xx (by omega) hm
          exact YW ⟨e1,by omega,by omega⟩
         refine ⟨u0,?_,hone0,?_⟩
         ·split
          ·exact hu0
          ·rename_i hx;rw [ae (fun hy=>eZ ⟨hx,hy⟩)];exact hu0
         ·refine VD ?_
          by_cases hjj:j'<j
          ·rw [aM (by rw [aQ];omega),bG,ah hjj,hcf] at hf
           cases hf;exact QE
          ·have lT:(kC i (de.drop j) vs)[j' - j]? =some f:=by
            rw [a7 (by rw [aQ];omega),aQ] at hf
            rwa [show min j de.length=j by omega] at hf
           obtain ⟨c,hc,h⟩:=qK i _ vs _ f (by rw [bq];omega) lT
           rw [bu,show j+(j' - j)=j' by omega,hcf] at hc
           cases hc
           rcases h with ⟨_,rfl⟩|⟨d',rq,rfl⟩
           ·exact QE
           ·have hm:j' - j<vs.length:=(aj.1 rq).1
            have nj:i'≠i:=fun e=>YW ⟨e,by omega,by omega⟩
            refine mw ⟨fun h=> ?_,fun _=>QE⟩
            simp at h;exact absurd h nj
    ·subst he;exact dc dg
   ·subst he;exact dc dg
 ·subst he;exact dc dg
end
end Go.Abs
end
