/- A whole body: what is owed for it, as a tree; a function's contract out of it. -/
import Derived.Test.YtoinjphpfpklmaaGreatDoorAbsQS
import Derived.Deep.LoopGhost
import Derived.RangeFuncLeaves
import Derived.LoopNIn
set_option linter.unusedVariables false
set_option linter.unusedSimpArgs false
namespace Go.Abs
open Go.RowKit
inductive VT:Type 1 where
 |da (ps:List Prop) (k:VT)
 |ite (b:Bool) (x y:VT)
 |done (ps:List Prop)
 |loop (ι:Type) (inv:ι->Prop) (i0:ι) (start:List Prop) (round:ι->VT)
 |cut (ι:Type) (inv:ι->Prop) (x:VT) (rest:ι->VT)
def VT.holds:VT->Prop
 |.da ps k=>dt ps/\k.holds
 |.ite b x y=>(b=true->x.holds)/\(b=false->y.holds)
 |.done ps=>dt ps
 |.loop _ inv i0 start round=>dt start/\inv i0/\ ∀i,inv i->(round i).holds
 |.cut _ inv x rest=>x.holds/\ ∀i,inv i->(rest i).holds
structure Bp:Type 1 where
 ι:Type
 keep:List Nat
 boxes:List Nat
 ts:St->ι->List (Nat×DV)
 bx:St->ι->List (Nat×List DV):=fun _ _=>[]
 rw:St->ι->List (Nat×Nat×Nat×List (Nat->DV)):=fun _ _=>[]
 rb:St->ι->List (Nat×Nat×Nat×Nat×List (Nat->DV)):=fun _ _=>[]
 mo:St->ι->List (Nat×Option Nat×fK):=fun _ _=>[]
 inv:St->ι->Prop
 mu:St->ι->Nat
 rd:St->St->ι
def pid:DV->Nat
 |.ptr id _=>id
 |_=>0
def rid:DV->Option Nat
 |.row _ id _ _=>some id
 |_=>none
def p8 (σ:St):List Nat->List (Nat×DV)
 |[]=>[]
 |t::r=>(t,σ.get t)::p8 σ r
def rowT:List (Nat×Nat×Nat×List (Nat->DV))->Nat->List (Nat×DV)
 |[],_=>[]
 |(t,s,n,_)::r,id=>(t,.row s id 0 n)::rowT r (id+1)
def rowH:List (Nat×Nat×Nat×List (Nat->DV))->Nat->List (Nat×Option fK)
 |[],_=>[]
 |(_,_,n,de)::r,id=>(id,some (.row n de))::rowH r (id+1)
def rowR (σ':St):List (Nat×Nat×Nat×List (Nat->DV))->Nat->Ren
 |[],_=>[]
 |(t,_,_,_)::r,id=>(id,rid (σ'.get t))::rowR σ' r (id+1)
def cellOf (σ:St) (j:Nat):DV->DV
 |.ptr id _=>match σ.obj id with
  |some (.box cs)=>match cs[j]? with
   |some d=>d
   |none=> .any
  |_=> .any
 |_=> .any
def rbH:List (Nat×Nat×Nat×Nat×List (Nat->DV))->Nat->List (Nat×Option fK)
 |[],_=>[]
 |(_,_,_,n,de)::r,id=>(id,some (.row n de))::rbH r (id+1)
def rbR (σ':St):List (Nat×Nat×Nat×Nat×List (Nat->DV))->Nat->Ren
 |[],_=>[]
 |(t,j,_,_,_)::r,id=>(id,rid (cellOf σ' j (σ'.get t)))::rbR σ' r (id+1)
def mid:DV->Nat
 |.pB id=>id
 |.row _ id _ _=>id
 |.tL _ id _=>id
 |_=>0
def atT (σ:St) (t:Nat):Option Nat->DV
 |none=>σ.get t
 |some j=>cellOf σ j (σ.get t)
def mapH (σ:St):List (Nat×Option Nat×fK)->List (Nat×Option fK)
 |[]=>[]
 |(t,j,o)::r=>(mid (atT σ t j),some o)::mapH σ r
def mapR (σ σ':St):List (Nat×Option Nat×fK)->Ren
 |[]=>[]
 |(t,j,_)::r=>(mid (atT σ t j),some (mid (atT σ' t j)))::mapR σ σ' r
def boxH (σ:St):List (Nat×List DV)->List (Nat×Option fK)
 |[]=>[]
 |(t,cs)::r=>(pid (σ.get t),some (.box cs))::boxH σ r
def boxR (σ σ':St):List (Nat×List DV)->Ren
 |[]=>[]
 |(t,_)::r=>(pid (σ.get t),some (pid (σ'.get t)))::boxR σ σ' r
def VL (σ:St):List Nat->List (Nat×Option fK)
 |[]=>[]
 |t::r=>(pid (σ.get t),σ.obj (pid (σ.get t)))::VL σ r
def VK (σ σ':St):List Nat->Ren
 |[]=>[]
 |t::r=>(pid (σ.get t),some (pid (σ'.get t)))::VK σ σ' r
def Bp.st (C:Bp) (σ:St) (i:C.ι):St where
 t:=C.ts σ i++(rowT (C.rw σ i) σ.nx++p8 σ C.keep)
 h:=rowH (C.rw σ i) σ.nx++(rbH (C.rb σ i) (σ.nx+50)++(mapH σ (C.mo σ i)++(boxH σ (C.bx σ i)++VL σ C.boxes)))
 nx:=σ.nx+100
 nt:=σ.nt
 rn:=σ.rn
 lo:=σ.lo
def Bp.rn (C:Bp) (σ σ':St) (i:C.ι):Ren:=rowR σ' (C.rw σ i) σ.nx++(rbR σ' (C.rb σ i) (σ.nx+50)++(mapR σ σ' (C.mo σ i)++(boxR σ σ' (C.bx σ i)++VK σ σ' C.boxes)))
def Bp.at (C:Bp) (σ σ':St):List Prop:=pd (C.rn σ σ' (C.rd σ σ')) σ' (C.st σ (C.rd σ σ'))
structure nh:Type 1 where
 N:Nat
 enc:Nat->List Value
 keep:List Nat
 boxes:List Nat
 bx:St->List Nat->List (Nat×List DV):=fun _ _=>[]
 rb:St->List Nat->List (Nat×Nat×Nat×Nat×List (Nat->DV)):=fun _ _=>[]
 mo:St->List Nat->List (Nat×Option Nat×fK):=fun _ _=>[]
 inv:St->List Nat->Prop
def nh.note (C:nh):Bp:={ ι:=List Nat,keep:=C.keep,boxes:=C.boxes,ts:=fun _ _=>[],bx:=C.bx,rb:=C.rb,mo:=C.mo,inv:=C.inv,mu:=fun _ _=>0,rd:=fun _ _=>[] }
def nh.st (C:nh) (σ:St) (i:List Nat):St:=C.note.st σ i
def nh.at (C:nh) (σ σ':St) (i:List Nat):List Prop:=pd (C.note.rn σ σ' i) σ' (C.note.st σ i)
def iU (C:nh) (σ σ':St):St:={ t:=p8 σ C.keep,h:=σ'.h,nx:=σ'.nx,nt:=σ.nt,rn:=σ.rn,lo:=σ.lo }
structure eH:Type 1 where
 dq:List (Nat×List (Nat×fE))
 loops:List (Nat×Bp)
 dw:List (Nat×Bp)
 Tu:List (Nat×nh):=[]
 JC:List (Nat×Nat):=[]
 dec:List Nat:=[]
 AL:List (Nat×List (Nat×Nat)):=[]
 exts:List (Nat×(Code->Code->St->(Exit->St->VT)->VT)):=[]
def Dt {α:Type 1}:List (Nat×α)->Nat->Option α
 |[],_=>none
 |(k,v)::r,i=>bif Nat.beq k i then some v else Dt r i
def EG (l:List (Nat×List (Nat×fE))) (k:Nat):List (Nat×fE):=match look l k with
 |some o=>o
 |none=>[]
def kf:Code->Option Nat
 |.region id _ _=>some id
 |.seq a b=>match kf a with
  |some n=>some n
  |none=>kf b
 |.block _ c=>kf c
 |.loop c=>kf c
 |_=>none
def cutAt (A:eH) (c:Code):Option Bp:=match A.dw with
 |[]=>none
 |l=>match kf c with
  |some n=>Dt l n
  |none=>none
def LL (A:eH) (c:Code) (σ:St):St×List Prop:=match A.AL with
 |[]=>(σ,[])
 |l=>match kf c with
  |some n=>match look l n with
   |some ps=>AL σ ps
   |none=>(σ,[])
  |none=>(σ,[])
theorem Fits.pre {A:eH} {c:Code} {base:Nat} {w0 w:World} {S0:Env} {σ:St} {a:Act} (h:Fits base w0 S0 σ a w) (dg:dp (LL A c σ).2):Fits base w0 S0 (LL A c σ).1 a w:=by
 unfold LL at dg ⊢
 split
 ·exact h
 ·split
  ·split
   ·rename_i h0 _ _ h1 _ _ h2
    simp only [h1,h2] at dg
    exact h.AL _ dg
   ·exact h
  ·exact h
def Rh (A:eH):Code->Option (Code->Code->St->(Exit->St->VT)->VT)
 |.region id _ _=>Dt A.exts id
 |_=>none
def fx (A:eH):Code->Bool
 |.seq a b=>bif fx A a then (bif fx A b then (match cutAt A b,Rh A a with|none,none=>true|_,_=>false) else false) else false
 |.cond _ a b=>bif fx A a then fx A b else false
 |.block _ (.loop _)=>false
 |.block _ (.rangeFunc ..)=>false
 |.block _ c=>fx A c
 |.skip| .label _| .ret| .exit _| .region .. =>true
 |_=>false
def iJ (w:World) (B:Nat):Rd:=fun a u=>BC w a u/\(jV w a.block->a.block<B)
def ZS (k7:List DV) (lb:Array Value) (N:Nat) (A B:World):Prop:=(∀(j:Nat) (d:DV) (v:Value),k7[j]? =some d->lb[j]? =some v->du (iJ A N) d v->du (iJ B N) d v)/\(ju (iJ A N)->ju (iJ B N))
def FG (P:Program) (gf:FuncId) (k7:List DV) (N:Nat) (enc:Nat->List Value):Prop:=
 gC P gf/\ ∀(m:Nat) (lb:Array Value) (w:World),lb.size=k7.length->(∀(j:Nat) (d:DV) (v:Value),k7[j]? =some d->lb[j]? =some v->du (iJ w w.heap.size) d v)->ju (iJ w w.heap.size)->
  SeqStopsK Fence.wide m P gf lb (fun x:{ x:Nat//x<N }=>(enc x.1).toArray) (ZS k7 lb w.heap.size) (fun xs=>xs.map (·.1)=List.range N) (fun _=>True) N w
def Bk:List Oper->Option (List (Tmp×Tmp))
 |[]=>some []
 |o::r=>match o.op,o.dst,o.guard,Bk r with
  |.assign (.tmp s),some d,none,some l=>some ((d,s)::l)
  |.move (.tmp s),some d,none,some l=>some ((d,s)::l)
  |_,_,_,_=>none
def DY:Code->Option (List (Tmp×Tmp))
 |.region _ ops false=>Bk ops.toList
 |.seq a b=>match DY a,DY b with
  |some l,some l'=>some (l++l')
  |_,_=>none
 |.skip=>some []
 |_=>none
def qO:List (Tmp×Tmp)->Act->Act
 |[],a=>a
 |(d,s)::l,a=>qO l (a.put (some d) (a.tmps.getD s undef))
def yV:List (Tmp×Tmp)->St->St
 |[],σ=>σ
 |(d,s)::l,σ=>yV l (σ.put d (σ.get s))
def p9:List Tmp->List Value->St->St
 |p::ps,v::vs,σ=>p9 ps vs (σ.put p (.val v))
 |_,_,σ=>σ
def yW (C:nh) (σ:St) (ps:List Tmp) (l:List (Tmp×Tmp)) (pre:List Nat) (x:Nat):St:=yV l (p9 ps (C.enc x) { C.st σ pre with rn:=true })
def su (nt:Nat):List (Tmp×Tmp)->Bool
 |[]=>true
 |(d,_)::l=>bif Nat.blt d nt then su nt l else false
def wB (nt:Nat):List Tmp->Bool
 |[]=>true
 |p::l=>bif Nat.blt p nt then wB nt l else false
def Q9 (keep:List Nat):Operand->Bool
 |.tmp t=>keep.any (Nat.beq t)
 |_=>false
def Gw (A:eH) (id:Nat):Nat:=match look A.JC id with
 |some n=>n
 |none=>0
def yT (f:St->(Exit->St->VT)->VT) (id:Nat) (K:Exit->St->VT):Nat->St->VT
 |0,_=> .done [False]
 |n+1,σ=>f σ fun e σ'=>match e with
  |.normal=>yT f id K n σ'
  |.exit j=>bif Nat.beq j id then K .normal σ' else K (.exit j) σ'
  |e=>K e σ'
def X0 (A:eH):Operand->Bool
 |.tmp t=>A.dec.any (Nat.beq t)
 |_=>false
def mkIf (s p:Bool) (a b:VT):VT:=bif s then (bif p then a else b) else .ite p a b
theorem J4 {s p:Bool} {a b:VT} (h:(mkIf s p a b).holds):(VT.ite p a b).holds:=by
 unfold mkIf at h
 cases s
 ·exact h
 ·cases p
  ·exact ⟨fun h=>(by cases h),fun _=>h⟩
  ·exact ⟨fun _=>h,fun h=>(by cases h)⟩
def evalCode (P:Program) (A:eH):Code->St->(Exit->St->VT)->VT
 |.skip,σ,K=>K .normal σ
 |.label _,σ,K=>K .normal σ
 |.ret,σ,K=>K .ret σ
 |.exit id,σ,K=>K (.exit id) σ
 |.region id ops draw,σ,K=>
  match fi P ops (EG A.dq id) σ with
  |(σ',vcs)=>bif draw then (bif xK P ops (EG A.dq id) σ then (match vcs with|[]=>K .normal σ'|vcs=> .da vcs (K .normal σ')) else (match vQ P ops (EG A.dq id) σ with|some p=> .da (vcs++[p]) (K .normal σ')|none=> .done [False]))
   else (match vcs with|[]=>K .normal σ'|vcs=> .da vcs (K .normal σ'))
 |.seq a b,σ,K=>match cutAt A b with
  |none=>match Rh A a with
   |some E=>E a b σ K
   |none=>evalCode P A a σ fun e σ'=>match e with
    |.normal=>match LL A b σ' with
     |(σ1,vcs)=>match vcs with
      |[]=>evalCode P A b σ1 K
      |vcs=> .da vcs (evalCode P A b σ1 K)
    |e=>K e σ'
  |some C=> .cut C.ι (C.inv σ) (evalCode P A a σ fun e σ'=>match e with
   |.normal=> .done (C.at σ σ'++[C.inv σ (C.rd σ σ')])
   |e=>K e σ') fun i=>evalCode P A b (C.st σ i) K
 |.cond c a b,σ,K=>match σ.ev c with
  |.val (.bool p)=>mkIf (X0 A c) p (evalCode P A a σ K) (evalCode P A b σ K)
  |_=> .done [False]
 |.block id (.loop body),σ,K=>match Dt A.loops id with
  |some C=> .loop C.ι (C.inv σ) (C.rd σ σ) (C.at σ σ) fun i=>evalCode P A body (C.st σ i) fun e σ'=>match e with
   |.normal=> .done (C.at σ σ'++[C.inv σ (C.rd σ σ'),C.mu σ (C.rd σ σ')<C.mu σ i])
   |.exit j=>bif Nat.beq j id then K .normal σ' else K (.exit j) σ'
   |e=>K e σ'
  |none=>yT (evalCode P A body) id K (Gw A id) σ
 |.block id (.rangeFunc g ps zo body),σ,K=>match Dt A.Tu id,σ.ev g with
  |some C,.jL gf k7=>match DY zo with
   |some l=>bif !trk&&(Nat.beq σ.lo 0&&fx A body)&&(DV.closed.go k7&&(Q9 C.keep g&&(su σ.nt l&&wB σ.nt ps.toList))) then
     .da (FG P gf k7 C.N C.enc::(∀k,k<C.N->(C.enc k).length=ps.size)::(C.at σ σ []++[C.inv σ []]))
      (.cut (List Nat×Nat) (fun q=>C.inv σ q.1/\q.2<C.N/\q.1.length<C.N/\ ∀y∈q.1,y<C.N)
        (.cut Unit (fun _=>C.inv σ (List.range C.N)) (.done []) fun _=>K .normal (C.st σ (List.range C.N)))
        fun q=>evalCode P A body (yW C σ ps.toList l q.1 q.2) fun e σ'=>match e with
         |.normal=> .done (C.at σ (iU C σ σ') (q.1++[q.2])++[C.inv σ (q.1++[q.2])])
         |.ret=>K .ret (iU C σ σ')
         |.exit j=>bif Nat.beq j id then K .normal (iU C σ σ') else K (.exit j) (iU C σ σ')
         |_=> .done [False])
    else .done [False]
   |none=> .done [False]
  |some C,.nZ gf fs=>bif Nat.beq σ.lo 0&&(fx A zo&&fx A body)&&(DV.closed.go fs&&wB σ.nt ps.toList) then
    .da (SeqB P gf fs C.N C.enc::(∀k,k<C.N->(C.enc k).length=ps.size)::(C.at σ σ [0]++[C.inv σ [0]]))
     (.cut Nat (fun x=>C.inv σ [x]/\x<C.N)
       (.cut Unit (fun _=>C.inv σ [C.N]) (.done []) fun _=>K .normal (C.st σ [C.N]))
       fun x=>evalCode P A zo (p9 ps.toList (C.enc x) { C.st σ [x] with rn:=true }) fun e σ1=>match e with
        |.normal=>evalCode P A body σ1 fun e σ'=>match e with
         |.normal=> .done (C.at σ (iU C σ σ') [x+1]++[C.inv σ [x+1]])
         |.ret=>K .ret (iU C σ σ')
         |.exit j=>bif Nat.beq j id then K .normal (iU C σ σ') else K (.exit j) (iU C σ σ')
         |_=> .done [False]
        |_=> .done [False])
   else .done [False]
  |_,_=> .done [False]
 |.block id c,σ,K=>evalCode P A c σ fun e σ'=>match e with
  |.exit j=>bif Nat.beq j id then K .normal σ' else K (.exit j) σ'
  |e=>K e σ'
 |_,_,_=> .done [False]
theorem BR {F:Fence} {rm:Nat} {P:Program} {Q:Exit->Act->World->Prop} {a:Act} {w:World} {c:Code} (I:Nat->Act->World->Prop) (n₀:Nat) (h₀:I n₀ a w)
 (round: ∀n a w,I n a w->c.wpIn F rm P (Exit.then (fun a' w'=> ∃n',n'<n/\I n' a' w') Q) a w):(Code.loop c).wpIn F rm P Q a w:=by
 refine wpIn_loop (fun a w=> ∃n,I n a w) (fun a w=>leastOf (fun n=>I n a w)) ⟨n₀,h₀⟩ ?_
 intro a w hI
 refine wpIn_mono (round _ a w (leastOf_spec hI).1) ?_
 intro e a' w' hq
 cases e with
 |normal=>
  obtain ⟨n',dK,hI'⟩:=hq
  exact show (∃n,I n a' w')/\leastOf (fun n=>I n a' w')<leastOf (fun n=>I n a w) from ⟨⟨n',hI'⟩,Nat.lt_of_le_of_lt ((leastOf_spec ⟨n',hI'⟩).2 n' hI') dK⟩
 |_=>exact hq
section
variable {P:Program} {A:eH} {ro:Option Nat} {m:Nat} {base:Nat} {w0:World} {S0:Env}
theorem th {vcs:List Prop} {k:VT} (h:(match vcs with|[]=>k|vcs=> .da vcs k).holds):dt vcs/\k.holds:=by
 cases vcs with
 |nil=>exact ⟨trivial,h⟩
 |cons p r=>exact h
def ExtOK (P:Program) (E:Code->Code->St->(Exit->St->VT)->VT):Prop:= ∀(m:Nat) (base:Nat) (w0:World) (S0:Env),S0.sh=[]->S0.wb=none->1<=m-> ∀(a b:Code) (σ:St) (K:Exit->St->VT) (Q:Exit->Act->World->Prop),(E a b σ K).holds->
 (∀e σ',(K e σ').holds-> ∀a w,Fits base w0 S0 σ' a w->Q e a w)-> ∀ac w,Fits base w0 S0 σ ac w->(Code.seq a b).wpIn (FW none) m P Q ac w
def ub (P:Program) (A:eH):Prop:= ∀id E,Dt A.exts id=some E->ExtOK P E
theorem pJ {P:Program} {A:eH} (h:A.exts=[]):ub P A:=fun id E e=>by rw [h] at e;cases e
def mn (P:Program) (A:eH) (ro:Option Nat) (m:Nat) (base:Nat) (w0:World) (S0:Env) (c:Code):Prop:=(((S0.sh=[]/\S0.wb=none)/\ro=none/\1<=m)\/fx A c=true)-> ∀(σ:St) (K:Exit->St->VT) (Q:Exit->Act->World->Prop),(evalCode P A c σ K).holds->
 (∀e σ',(K e σ').holds-> ∀a w,Fits base w0 S0 σ' a w->Q e a w)-> ∀a w,Fits base w0 S0 σ a w->c.wpIn (FW ro) m P Q a w
theorem wj {ops:Array Oper} {Q:Exit->Act->World->Prop} {w:World}: ∀(di:List Oper) (k:Nat) {l:List (Tmp×Tmp)} {a:Act},(∀j,di[j]? =ops[k+j]?)->Bk di=some l->Q .normal (qO l a) w->wpOpsIn (FW ro) m P ops Q (List.range' k di.length) a w
 |[],k,l,a,_,h,hq=>by
  cases h
  exact hq
 |o::r,k,l,a,hl,h,hq=>by
  have h0:ops[k]? =some o:=by simpa using (hl 0).symm
  have go: ∀(s d:Tmp) (l':List (Tmp×Tmp)),(o.op= .assign (.tmp s)\/o.op= .move (.tmp s))->o.dst=some d->o.guard=none->Bk r=some l'->l=(d,s)::l'->wpOpsIn (FW ro) m P ops Q (List.range' k (o::r).length) a w:=by
   intro s d l' np hd hg Sl oS
   subst oS
   simp only [aL,List.range'_succ,wpOpsIn,h0]
   rw [ah (by simp [Region.wanted,hg])]
   refine ⟨fun _ _=>trivial,?_⟩
   rw [Oper.semAt_eq _ _ _ (fun c h=>by rcases np with e|e<;>rw [e] at h<;>cases h)]
   have ef:(execOp a.eval o).run P w= .ok (.value (a.tmps.getD s undef)) w:=by
    unfold execOp
    rcases np with e|e<;>rw [e]<;>rfl
   rw [ef,Oper.uponIn_value,hd]
   exact wj r (k+1) (fun j=>by have:=hl (j+1);simpa [bT,Nat.add_comm 1 j] using this) Sl hq
  unfold Bk at h
  split at h
  ·rename_i s d l' e1 e2 e3 e4
   exact go s d l' (.inl e1) e2 e3 e4 (by cases h;rfl)
  ·rename_i s d l' e1 e2 e3 e4
   exact go s d l' (.inr e1) e2 e3 e4 (by cases h;rfl)
  ·cases h
theorem zP: ∀(l l':List (Tmp×Tmp)) (a:Act),qO (l++l') a=qO l' (qO l a)
 |[],_,_=>rfl
 |(d,s)::l,l',a=>zP l l' _
theorem NR {w:World}: ∀(c:Code) {l:List (Tmp×Tmp)} {a:Act} {K:Act->World->Prop},DY c=some l->K (qO l a) w->c.wpIn (FW ro) m P (Exit.then K (fun _ _ _=>False)) a w:=by
 intro c
 induction c with
 |skip=>intro l a K h hk;cases h;exact wpIn_skip hk
 |region id ops draw=>
  intro l a K h hk
  cases draw with
  |true=>cases h
  |false=>
   refine wpIn_region ?_
   rw [List.range_eq_range',<-bP]
   exact wj ops.toList 0 (fun j=>by simp) h hk
 |seq x y ihx Z9=>
  intro l a K h hk
  simp only [DY] at h
  split at h
  ·rename_i l1 l2 h1 h2
   cases h
   rw [zP] at hk
   refine wpIn_seq (wpIn_mono (ihx (K:=fun a w=>y.wpIn (FW ro) m P (Exit.then K (fun _ _ _=>False)) a w) h1 ?_) fun e a w hq=> ?_)
   ·exact Z9 h2 hk
   ·cases e<;>first|exact hq|exact hq.elim
  ·cases h
 |_=>intro l a K h hk;cases h
theorem R.p9 {kn:Nat->Prop} {c9:Nat->Option Loc} {w:World}: ∀(ps:List Tmp) (vs:List Value) {σ:St} {a:Act},σ.lo=0->wB σ.nt ps=true->R base w0 S0 σ kn c9 a w->
 R base w0 S0 (Abs.p9 ps vs σ) kn c9 { a with tmps:=(ps.zip vs).foldl (fun t (pv:Tmp×Value)=>t.setIfInBounds pv.1 pv.2) a.tmps } w
 |[],_,σ,a,_,_,r=>r
 |p::ps,[],σ,a,_,_,r=>r
 |p::ps,v::vs,σ,a,lS,h,r=>by
  simp only [wB] at h
  cases hp:Nat.blt p σ.nt with
  |false=>simp [hp] at h
  |true=>
   simp only [hp,aq] at h
   exact R.p9 ps vs (σ:=σ.put p (.val v)) (a:=a.put (some p) v) lS h (r.put (aH hp) (by rw [lS];exact ao _) (.val v))
theorem R.zo {kn:Nat->Prop} {c9:Nat->Option Loc} {w:World}: ∀(l:List (Tmp×Tmp)) {σ:St} {a:Act},σ.lo=0->su σ.nt l=true->R base w0 S0 σ kn c9 a w->R base w0 S0 (yV l σ) kn c9 (qO l a) w
 |[],σ,a,_,_,r=>r
 |(d,s)::l,σ,a,lS,h,r=>by
  simp only [su] at h
  cases hp:Nat.blt d σ.nt with
  |false=>simp [hp] at h
  |true=>
   simp only [hp,aq] at h
   exact R.zo l (σ:=σ.put d (σ.get s)) (a:=a.put (some d) (a.tmps.getD s undef)) lS h (r.put (aH hp) (by rw [lS];exact ao _) (r.tmps s))
theorem Ip: ∀(ps:List Tmp) (vs:List Value) (σ:St),(Abs.p9 ps vs σ).nt=σ.nt
 |[],_,_=>rfl
 |_::_,[],_=>rfl
 |_::ps,_::vs,σ=>Ip ps vs _
theorem Bj: ∀(ps:List Tmp) (vs:List Value) (σ:St),(Abs.p9 ps vs σ).nx=σ.nx
 |[],_,_=>rfl
 |_::_,[],_=>rfl
 |_::ps,_::vs,σ=>Bj ps vs _
theorem Iq: ∀(ps:List Tmp) (vs:List Value) (σ:St),(Abs.p9 ps vs σ).lo=σ.lo
 |[],_,_=>rfl
 |_::_,[],_=>rfl
 |_::ps,_::vs,σ=>Iq ps vs _
theorem zQ: ∀(l:List (Tmp×Tmp)) (σ:St),(yV l σ).nx=σ.nx
 |[],_=>rfl
 |(_,_)::l,σ=>zQ l _
theorem tp {σ:St} {t:Nat}: ∀{l:List Nat},t∈l->look (p8 σ l) t=some (σ.get t)
 |x::l,h=>by
  simp only [p8,dH]
  by_cases e:x=t
  ·rw [ah e,e]
  ·rw [ae e];exact tp ((aS.1 h).resolve_left fun e'=>e e'.symm)
theorem mN {σ:St} {t:Nat} {d:DV}: ∀{l:List Nat},look (p8 σ l) t=some d->t∈l/\d=σ.get t
 |[],h=>by simp [p8,look] at h
 |x::l,h=>by
  simp only [p8,dH] at h
  by_cases e:x=t
  ·rw [ah e] at h
   exact ⟨by rw [e];exact ay,by rw [<-e];exact (bF h).symm⟩
  ·rw [ae e] at h
   obtain ⟨h1,h2⟩:=mN h
   exact ⟨az _ h1,h2⟩
def rngK (P:Program) (A:eH) (C:nh) (σ:St) (id:Nat) (q:List Nat×Nat) (K:Exit->St->VT):Exit->St->VT:=fun e σ'=>match e with
 |.normal=> .done (C.at σ (iU C σ σ') (q.1++[q.2])++[C.inv σ (q.1++[q.2])])
 |.ret=>K .ret (iU C σ σ')
 |.exit j=>bif Nat.beq j id then K .normal (iU C σ σ') else K (.exit j) (iU C σ σ')
 |_=> .done [False]
theorem CY {ρ:Ren} {σ:St} {b:Bool}: ∀(l:List (Nat×DV)),wR ρ { σ with rn:=b } l=wR ρ σ l
 |[]=>rfl
 |(t,d)::r=>by
  simp only [wR]
  rw [CY r]
  rfl
theorem CX {ρ:Ren} {σ σ':St} {b c:Bool}:pd ρ { σ with rn:=b } { σ' with rn:=c }=pd ρ σ σ':=by
 unfold pd
 rw [CY]
 rfl
theorem iG.rd {w:World} {rd gJ:Rd} {kn:Nat->Prop} {c9:Nat->Option Loc} {l:Option Loc} {o:fK} (hm: ∀a u,rd a u->gJ a u) (h:iG w rd kn c9 l o):iG w gJ kn c9 l o:=by
 have rel: ∀{d v},Rel rd kn c9 d v->Rel gJ kn c9 d v:=fun h=>h.mono hm (fun _ h=>h) fun _ _ _ h=>⟨_,h,rfl⟩
 have yy: ∀{d v},du rd d v->du gJ d v:=fun h=>h.mono hm (fun _ h=>h) fun _ _ h=>h.elim
 cases o with
 |box cs=>
  obtain ⟨g,C,cv,T,hl,hh,hs,hr,h1⟩:=h
  exact ⟨g,C,cv,T,hl,hh,hs,fun j d u a b=>rel (hr j d u a b),h1⟩
 |row n de=>
  rcases h with ⟨hl,hn⟩|⟨g,C,cv,T,hl,hh,hs,hn,hr⟩
  ·exact .inl ⟨hl,hn⟩
  ·exact .inr ⟨g,C,cv,T,hl,hh,hs,hn,fun i j f a b=>let ⟨u,e,o,q⟩:=hr i j f a b;⟨u,e,o,yy q⟩⟩
 |ph n de=>
  rcases h with ⟨hl,hn⟩|⟨g,o,C,cv,T,hl,hh,hs,hn,hr⟩
  ·exact .inl ⟨hl,hn⟩
  ·exact .inr ⟨g,o,C,cv,T,hl,hh,hs,hn,fun i j f a b=>let ⟨u,e,o,q⟩:=hr i j f a b;⟨u,e,o,yy q⟩⟩
 |map ks has gN ym=>
  obtain ⟨g,es,clock,hl,hh,hM,pF,tG⟩:=h
  exact ⟨g,es,clock,hl,hh,hM.mono yy,pF,tG⟩
 |vF ks len gN ym uX=>
  obtain ⟨g,bs,es,clock,hl,hh,hG,yF,tG⟩:=h
  exact ⟨g,bs,es,clock,hl,hh,hG.mono yy (fun _ _=>rfl),yF,tG⟩
 |oo n s len gN uX=>
  obtain ⟨g,C,bs,cv,T,hl,hh,fq,QG,hG,yF⟩:=h
  exact ⟨g,C,bs,cv,T,hl,hh,fq,QG,hG.mono yy (fun _ _=>rfl),yF⟩
 |tok=>exact h
 |exact g o=>exact h
def Env.round (S0:Env) (B:Nat):Env:={ S0 with wb:=some B }
theorem R.inRound {S0:Env} {σ:St} {kn:Nat->Prop} {c9:Nat->Option Loc} {a:Act} {w:World} (r:R base w0 S0 σ kn c9 a w):R base w0 (S0.round w.heap.size) { σ with rn:=true } kn c9 a w:=by
 have hm: ∀ad u,df w base S0 c9 ad u->df w base (S0.round w.heap.size) c9 ad u:=fun ad u ⟨x,y,z,_⟩=>⟨x,y,z,fun B hB _=>by cases hB;exact gE x⟩
 have rel: ∀{d v},Rel (df w base S0 c9) kn c9 d v->Rel (df w base (S0.round w.heap.size) c9) kn c9 d v:=fun h=>h.mono hm (fun _ h=>h) fun _ _ _ h=>⟨_,h,rfl⟩
 exact ⟨r.below,r.xs,r.fw,r.rH,⟨r.nM.1,fun B hB=>⟨r.nM.1,fun k o hBk ho _=>by
  cases hB
  have:=dY ho;have:=r.nM.1;have h3:S0.wr.heap.size<=w.heap.size:=r.nM.1
  exact absurd (dY ho) (by show ¬k<S0.wr.heap.size;omega)⟩,r.nM.2.2⟩,fun _=>rfl,fun B hB id g bs e=>by cases hB;exact (r.ge id _ g e (.inl rfl)).2,fun d v h=>rel (r.yx d v h),r.size,fun t=>rel (r.tmps t),fun id o h=>⟨(r.fg id o h).1,(r.fg id o h).2.rd hm⟩,r.inj,r.ge,r.live,r.EF⟩
theorem Fits.inRound {S0:Env} {σ:St} {a:Act} {w:World} (hf:Fits base w0 S0 σ a w):Fits base w0 (S0.round w.heap.size) { σ with rn:=true } a w:=
 let ⟨_,_,r,hk⟩:=hf
 ⟨_,_,r.inRound,hk⟩
theorem Fits.uV {S0:Env} {B:Nat} {σ:St} {a:Act} {w:World} (sT:S0.wb=none) (b:Bool) (hf:Fits base w0 (S0.round B) σ a w):Fits base w0 S0 { σ with rn:=b } a w:=by
 obtain ⟨kn,c9,r,hk⟩:=hf
 have hm: ∀ad u,df w base (S0.round B) c9 ad u->df w base S0 c9 ad u:=fun ad u ⟨x,y,z,_⟩=>⟨x,y,z,fun B hB=>by rw [sT] at hB;cases hB⟩
 have rel: ∀{d v},Rel (df w base (S0.round B) c9) kn c9 d v->Rel (df w base S0 c9) kn c9 d v:=fun h=>h.mono hm (fun _ h=>h) fun _ _ _ h=>⟨_,h,rfl⟩
 exact ⟨kn,c9,⟨r.below,r.xs,r.fw,r.rH,⟨r.nM.1,(fun B hB=>by rw [sT] at hB;cases hB),r.nM.2.2⟩,(fun h=>absurd sT h),(fun B hB=>by rw [sT] at hB;cases hB),fun d v h=>rel (r.yx d v h),r.size,fun t=>rel (r.tmps t),fun id o h=>⟨(r.fg id o h).1,(r.fg id o h).2.rd hm⟩,r.inj,r.ge,r.live,r.EF⟩,hk⟩
def rngI (base:Nat) (w0:World) (S1:Env) (C:nh) (σ:St) (a:Act) (pre:List { x:Nat//x<C.N }) (W:World):Prop:=C.inv σ (pre.map (·.1))/\Fits base w0 S1 { C.st σ (pre.map (·.1)) with rn:=true } a W
theorem GX {C:nh} {σ:St} {a:Act} {w:World} {id:Nat} {g:Operand} {ps:Array Tmp} {zo body:Code} {gf:FuncId} {k7:List DV} {l:List (Tmp×Tmp)} {K:Exit->St->VT} {Q:Exit->Act->World->Prop}
 (htrk:trk=false) (Sn:1<=m) (tD:S0.sh=[]) (sT:S0.wb=none) (lS:σ.lo=0) (Ui:σ.ev g= .jL gf k7) (Y9:DY zo=some l) (vD:fx A body=true) (nU:DV.closed.go k7=true) (L5:Q9 C.keep g=true)
 (QM:su σ.nt l=true) (DC:wB σ.nt ps.toList=true) (AD:FG P gf k7 C.N C.enc) (hlen: ∀k,k<C.N->(C.enc k).length=ps.size) (sI:dp (C.at σ σ [])) (AF:C.inv σ [])
 (Km:C.inv σ (List.range C.N)->(K .normal (C.st σ (List.range C.N))).holds)
 (hround: ∀q:List Nat×Nat,(C.inv σ q.1/\q.2<C.N/\q.1.length<C.N/\ ∀y∈q.1,y<C.N)->(evalCode P A body (yW C σ ps.toList l q.1 q.2) (rngK P A C σ id q K)).holds)
 (ih: ∀ro m base w0 S0,mn P A ro m base w0 S0 body) (hf:Fits base w0 S0 σ a w) (hK: ∀e σ',(K e σ').holds-> ∀a w,Fits base w0 S0 σ' a w->Q e a w):
 (Code.block id (.rangeFunc g ps zo body)).wpIn (FW none) m P Q a w:=by
 have hf0:=hf
 obtain ⟨kn,c9,r,hk⟩:=hf
 -- the closure
 have jg:=r.ev g
 rw [Ui] at jg
 obtain ⟨lb,B4,YP,YQ⟩: ∃lb:Array Value,a.eval g= .func (.func gf) #[] lb/\lb.size=k7.length/\ ∀(j:Nat) (d:DV) (v:Value),k7[j]? =some d->lb[j]? =some v->Rel (df w base S0 c9) kn c9 d v:=by
  generalize hg:a.eval g=v at jg
  cases jg with
  |jL hs hr=>exact ⟨_,rfl,hs,hr⟩
 have DF: ∀{τ:St} {W W':World} {row:Option Nat},Fits base w0 (S0.round w.heap.size) τ a W->W.grownBy W' row->(∀k,row=some k->w.heap.size<=k/\ ∃o:Obj,W.heap[k]? =some o/\o.isCells=false)->Fits base w0 (S0.round w.heap.size) τ a W':=by
  intro τ W W' row ⟨eL,dk,r',kZ⟩ hg hr
  refine ⟨eL,dk,r'.grown hg (fun k e=> ?_) (fun h=>by rw [htrk] at h;cases h),kZ⟩
  obtain ⟨h1,h2⟩:=hr k e
  refine ⟨aV r.fw h1,.inl ⟨_,rfl,h1⟩,aV r.nM.1 h1,h2,fun d hd e2=> ?_⟩
  obtain ⟨D,e3,_,hh⟩:=r.rH.2 d hd
  rw [e3] at e2
  have:D=k:=by cases e2;rfl
  have:=dY hh
  omega
 have marked: ∀{τ:St} {W:World} {D:Nat},w.heap.size<=D->Fits base w0 S0 τ a W->W.heap[D]? =some (.deferred (some []))->Fits base w0 S0 τ { a with defers:={ target:= .collected D,args:= #[] }::a.defers } W:=by
  intro τ W D hD ⟨eL,dk,r',kZ⟩ hh
  refine ⟨eL,dk,⟨r'.below,r'.xs,r'.fw,⟨⟨cV.2 ⟨fun hm=> ?_,r'.rH.1.1⟩,fun h=>by rw [tD] at h;cases h⟩,fun d hd=> ?_⟩,r'.nM,r'.LB,r'.lR,r'.yx,r'.size,r'.tmps,r'.fg,r'.inj,r'.ge,r'.live,r'.EF⟩,kZ⟩
  ·obtain ⟨D',e,_,h'⟩:=r.rH.2 _ hm
   have:D=D':=by cases e;rfl
   have:=dY h'
   omega
  ·rcases aS.1 hd with rfl|hd
   ·exact ⟨D,rfl,aV r.fw hD,hh⟩
   ·exact r'.rH.2 d hd
 -- a round's end, told for the frame ahead of the rounds
 have TE: ∀{W W':World} {σ':St} {a':Act},(∃τ:List Nat,Fits base w0 (S0.round w.heap.size) { C.st σ τ with rn:=true } a W)->Fits base w0 { S0.round w.heap.size with sh:=C.keep.map fun t=>(σ.get t,a.tmps.getD t undef),wr:=W } σ' a' W'->Fits base w0 (S0.round w.heap.size) { iU C σ σ' with rn:=true } a W':=by
  intro W W' σ' a' ⟨τ,TW,xN,r1,_⟩ ⟨Qo,oq,r2,qz⟩
  refine ⟨Qo,oq,⟨r2.below,r2.xs,r2.fw,⟨r.rH.1,fun d hd=> ?_⟩,⟨aV r1.nM.1 r2.nM.1,fun B hB=>(r1.nM.2.1 B hB).trans (r2.nM.2.1 B hB),fun k o h1 h2 h3=>r2.nM.2.2 k o (r1.nM.2.2 k o h1 h2 h3) h2 h3⟩,fun _=>rfl,r2.lR,fun d v h=>r2.yx d v (aR _ (by
   have h:(d,v)∈Vl++S0.sh:=h
   rw [tD,List.append_nil] at h;exact h)),r.size,fun t=> ?_,r2.fg,r2.inj,r2.ge,r2.live,fun t ht=>by
    have ht:t<σ.lo:=ht
    omega⟩,qz⟩
  ·obtain ⟨D,e,hD,hh⟩:=r1.rH.2 d hd
   exact ⟨D,e,hD,r2.nM.2.2 D _ hh rfl sR⟩
  ·unfold St.get iU
   cases hl:look (p8 σ C.keep) t with
   |none=>exact .any _
   |some d=>
    obtain ⟨h1,rfl⟩:=mN hl
    exact r2.yx _ _ (aW _ (br.2 ⟨t,h1,rfl⟩))
 have start:Fits base w0 (S0.round w.heap.size) { C.st σ [] with rn:=true } a w:=(weaken tD (fun h=>absurd sT h) sI hf0).inRound
 have rdA: ∀{W:World} {S1:Env} {c9:Nat->Option Loc} (ad:Addr) (u:Value),S1.wb=some w.heap.size->df W base S1 c9 ad u->iJ W w.heap.size ad u:=fun ad u hB h=>⟨h.1,fun hm=>h.2.2.2 _ hB hm⟩
 refine wpIn_block (wpIn_rangeFunc_ownG (α:={ x:Nat//x<C.N }) rfl Sn B4 trivial (fun args w=>mm AD.1 w) (AD.2 (m - 1) lb w YP (fun j d v h1 h2=> ?_) (r.tM.mono fun ad u h=>⟨h.1,fun _=>gE h.1⟩)) (fun h1 h2=>⟨fun j d v e1 e2 hr=>h2.1 j d v e1 e2 (h1.1 j d v e1 e2 hr),fun h=>h2.2 (h1.2 h)⟩) (fun W lc o o' Ud ho hc _=> ?_)
  (Go.RowKit.Below.refl _ _) (fun x=>by simpa using hlen x.1 x.2)
  (rngI base w0 (S0.round w.heap.size) C σ a)
  (fun c _ W=> ∃σo,Fits base w0 (S0.round w.heap.size) { σo with rn:=true } a W/\σo.rn=σ.rn/\((c= .ret/\(K .ret σo).holds)\/ ∃j,c= .exit j/\((bif Nat.beq j id then K .normal σo else K (.exit j) σo)).holds))
  (fun pre W W' row h hg hr=>⟨h.1,DF h.2 hg hr⟩)
  (fun c pre W W' row hs hg hr=>by obtain ⟨σo,i1,i2⟩:=hs;exact ⟨σo,DF i1 hg hr,i2⟩)
  ⟨AF,start⟩ (fun x=>qO l { tmps:=(ps.zip (C.enc x.1).toArray).foldl (fun t (pv:Tmp×Value)=>t.setIfInBounds pv.1 pv.2) a.tmps,defers:=[] })
  (fun lr x W K' kZ=>NR zo Y9 kZ) (fun lr pre x W ⟨i1,i2⟩ hl=> ?_) (fun D xs W hD hS ⟨i1,i2⟩ hh=> ?_) (fun D c pre W hD _ ⟨σo,i1,YE,i2⟩ hh=> ?_))
 ·exact ((YQ j d v h1 h2).close (gn nU d (aG h1))).mono (fun _ _ h=>⟨h.1,fun _=>gE h.1⟩) (fun _ h=>h) fun _ _ h=>h.elim
 ·-- the law's own book-keeping turns no cell and no map that may be read
  have keep: ∀ad u,iJ W w.heap.size ad u->iJ (W.putObj lc o') w.heap.size ad u:=fun ad u ⟨h1,h2⟩=>by
   have hb:(W.putObj lc o').heap[ad.block]? =W.heap[ad.block]? :=by
    refine (grownBy_putObj' W lc o').block _ (gE h1) (fun e=> ?_)
    cases e
    rcases h1 with h1|⟨es,c,h1,_⟩|⟨cs,T,fr,h1,_⟩
    ·obtain ⟨x,hx,hxc⟩:=cells_of_cell h1.1
     rw [ho] at hx;cases hx;rw [hc] at hxc;cases hxc
    ·have:=h2 (.mk h1);omega
    ·rw [ho] at h1;cases h1;cases hc
   exact ⟨xe hb h1,fun hm=>h2 (tB hb hm)⟩
  exact ⟨fun j d v e1 e2 hr=>hr.mono keep (fun _ h=>h) fun _ _ h=>h.elim,fun VV=>VV.mono keep⟩
 ·-- a round
  obtain ⟨TW,xN,r1,wJ⟩:=i2
  have jq: ∀y∈pre.map (·.1),y<C.N:=fun y hy=>by
   obtain ⟨z,_,rfl⟩:=br.1 hy
   exact z.2
  have hv:=hround (pre.map (·.1),x.1) ⟨i1,x.2,by simpa using hl,jq⟩
  have rs:R base w0 { S0.round w.heap.size with sh:=C.keep.map fun t=>(σ.get t,a.tmps.getD t undef),wr:=W } { C.st σ (pre.map (·.1)) with rn:=true } TW xN { a with defers:=[] } W:=
   ⟨r1.below,r1.xs,r1.fw,⟨by simp,fun d hd=>by cases hd⟩,⟨af _,fun B _=>KeepsFrom.refl _ _,fun k o h _ _=>h⟩,fun _=>rfl,r1.lR,fun d v h=>by
     rcases aT.1 h with h|h
     ·exact r1.yx d v (aR _ h)
     obtain ⟨t,h1,h2⟩:=br.1 h
     cases h2
     have:=r1.tmps t
     have e:St.get { C.st σ (pre.map (·.1)) with rn:=true } t=σ.get t:=by
      show (match look (p8 σ C.keep) t with|some d=>d|none=>DV.any)=_
      rw [tp h1]
     rw [e] at this
     exact this,r1.size,r1.tmps,r1.fg,r1.inj,r1.ge,r1.live,r1.EF⟩
  have ra:=R.zo l (by rw [Iq];exact lS) (by rw [Ip];exact QM) (R.p9 (σ:={ C.st σ (pre.map (·.1)) with rn:=true }) ps.toList (C.enc x.1) lS DC rs)
  have ea:({ tmps:=(ps.toList.zip (C.enc x.1)).foldl (fun t (pv:Tmp×Value)=>t.setIfInBounds pv.1 pv.2) a.tmps,defers:=[] }:Act)={ tmps:=(ps.zip (C.enc x.1).toArray).foldl (fun t (pv:Tmp×Value)=>t.setIfInBounds pv.1 pv.2) a.tmps,defers:=[] }:=by
   rw [<-Array.foldl_toList,Array.toList_zip]
  refine ih (some lr) (m - 1 - 1) base w0 { S0.round w.heap.size with sh:=C.keep.map fun t=>(σ.get t,a.tmps.getD t undef),wr:=W } (.inr vD) _ _ _ hv (fun e σ' hh a' w' lT=> ?_) _ _ ⟨TW,xN,?_,fun i hi=> ?_⟩
  ·have qw:=TE ⟨_,TW,xN,r1,wJ⟩ lT
   have fL:KeepsFrom w.heap.size W w':=by obtain ⟨_,_,r2,_⟩:=lT;exact r2.nM.2.1 _ rfl
   cases e with
   |normal=>
    obtain ⟨k1,k2⟩:=dp.app (dt.all hh)
    refine ⟨fL,⟨fun j d v e1 e2 _=> ?_,fun _=>(by obtain ⟨_,_,r2,_⟩:=lT;exact r2.tM.mono fun ad u h=>rdA ad u rfl h)⟩,?_⟩
    ·obtain ⟨Qo,oq,r2,_⟩:=lT
     cases g with
     |tmp tg=>
      have ht:tg∈C.keep:=by
       obtain ⟨z,hz,hzz⟩:=List.any_eq_true.1 L5
       rw [ag hzz];exact hz
      have hs:=r2.yx _ _ (aW _ (br.2 ⟨tg,ht,rfl⟩))
      have e3:σ.get tg= .jL gf k7:=Ui
      have e4:a.tmps.getD tg undef= .func (.func gf) #[] lb:=B4
      rw [e3,e4] at hs
      cases hs with
      |jL Oj hr2=>exact ((hr2 j d v e1 e2).close (gn nU d (aG e1))).mono (fun ad u h=>rdA ad u rfl h) (fun _ h=>h) fun _ _ h=>h.elim
     |_=>cases L5
    ·have em:(pre++[x]).map (·.1)=pre.map (·.1)++[x.1]:=by simp
     have q:C.inv σ (pre.map (·.1)++[x.1])/\Fits base w0 (S0.round w.heap.size) { C.st σ (pre.map (·.1)++[x.1]) with rn:=true } a w':=⟨k2.one,weaken (ρ:=C.note.rn σ (iU C σ σ') (pre.map (·.1)++[x.1])) (σ:={ iU C σ σ' with rn:=true }) (σ':={ C.st σ (pre.map (·.1)++[x.1]) with rn:=true }) tD (fun _=>rfl) (by rw [CX];exact k1) qw⟩
     rw [<-em] at q
     exact q
   |ret=>exact ⟨fL,_,qw,rfl,.inl ⟨rfl,hh⟩⟩
   |exit j=>exact ⟨fL,_,qw,rfl,.inr ⟨j,rfl,hh⟩⟩
   |_=>exact hh.elim
  ·rw [ea] at ra;exact ra
  ·have:=wJ i hi
   show i<(yW C σ ps.toList l (pre.map (·.1)) x.1).nx
   unfold yW
   rw [zQ,Bj]
   exact this
 ·have hS':xs.map (·.1)=List.range C.N:=hS
  rw [hS'] at i1 i2
  exact hK _ _ (Km i1) _ _ (marked hD (i2.uV sT σ.rn) hh)
 ·have i1':Fits base w0 S0 σo a W:=by
   have:=i1.uV sT σ.rn
   rw [<-YE] at this
   exact this
  have YZ:=marked hD i1' hh
  rcases i2 with ⟨rfl,h2⟩|⟨j,rfl,h2⟩
  ·exact wpIn_ret (hK _ _ h2 _ _ YZ)
  ·refine wpIn_exit ?_
   simp only [Exit.inBlock]
   cases hb:Nat.beq j id with
   |true=>
    simp only [hb,aq] at h2
    rw [ah (ag hb)]
    exact hK _ _ h2 _ _ YZ
   |false=>
    simp only [hb,ax] at h2
    rw [ae (fun e=>by rw [e] at hb;simp at hb)]
    exact hK _ _ h2 _ _ YZ
theorem R.under {σ:St} {kn:Nat->Prop} {c9:Nat->Option Loc} {a:Act} {w w':World} (r:R base w0 S0 σ kn c9 a w) (hb:Below w.heap.size w w'):R base w0 S0 σ kn c9 a w':=
 r.step (eL:=kn) (dk:=c9) (fun _=>False) (fun _=>False) hb.size hb.os hb.tape hb.output (fun k hk _=>hb.block k hk) (fun _ h=>h.elim) (fun _ h=>h) (fun _ _=>rfl) (fun _ _ h=>h.elim) (fun _ _ _ h=>h.elim) (fun _ _ h=>h.elim) rfl rfl rfl (fun _=>rfl) (fun _ _=>rfl)
  (fun _ _ _ _ _ h=>h.elim) (fun _ _ h=>h.elim) (fun _ _ _ _ _ h=>h.elim) (fun _ _ _ _ _ h=>h.elim) hb.drawn
def Vn (C:nh) (σ:St) (id:Nat) (x:Nat) (K:Exit->St->VT):Exit->St->VT:=fun e σ'=>match e with
 |.normal=> .done (C.at σ (iU C σ σ') [x+1]++[C.inv σ [x+1]])
 |.ret=>K .ret (iU C σ σ')
 |.exit j=>bif Nat.beq j id then K .normal (iU C σ σ') else K (.exit j) (iU C σ σ')
 |_=> .done [False]
def rngKA (P:Program) (A:eH) (body:Code) (K:Exit->St->VT):Exit->St->VT:=fun e σ1=>match e with
 |.normal=>evalCode P A body σ1 K
 |_=> .done [False]
def Md (F:Nat->Prop) (c9:Nat->Option Loc) (W:World):Prop:= ∀k,F k->k<W.heap.size/\ ∀id l,c9 id=some l-> ¬l.has k
def rngIB (base:Nat) (w0:World) (S1:Env) (n0:Nat) (C:nh) (σ:St) (a:Act) (x:Nat) (F:Nat->Prop) (W:World):Prop:=
 C.inv σ [x]/\n0<=W.heap.size/\ ∃kn c9,R base w0 S1 { C.st σ [x] with rn:=true } kn c9 a W/\(∀i,kn i->i<(C.st σ [x]).nx)/\Md F c9 W
theorem PM {S1:Env} {τ:St} {kn:Nat->Prop} {c9:Nat->Option Loc} {a1:Act} {W:World} {c:Code} {F:Nat->Prop} {B:Nat} {lr:Nat} {K:Exit->St->VT} {Q:Exit->Act->World->Prop}
 (vC:ndF∈S1.sh) (sT:S1.wb=some B) (vD:fx A c=true) (ih: ∀ro m base w0 S0,mn P A ro m base w0 S0 c) (h:(evalCode P A c τ K).holds) (r1:R base w0 S1 τ kn c9 a1 W) (wJ: ∀i,kn i->i<τ.nx) (hF:Md F c9 W)
 (hQ: ∀e σ' a' W' eL dk,(K e σ').holds->R base w0 S1 σ' eL dk a' W'->(∀i,eL i->i<σ'.nx)->KeepsFrom B W W'->nN F W W'->Md F dk W'->(∀k,k<W.heap.size->(∀id l,c9 id=some l-> ¬l.has k)->W'.heap[k]? =W.heap[k]?)->Q e a' W'):c.wpIn (FW (some lr)) m P Q a1 W:=by
 obtain ⟨S2,V2⟩: ∃S2:Env,S2={ S:=fun k=>S1.S k\/base<=k,sh:=S1.sh,wr:=W,wb:=S1.wb,X:=fun k=> ∃id l,c9 id=some l/\l.has k,pv:=S1.pv }:=⟨_,rfl⟩
 have hm1': ∀{V:World} {b:Nat->Option Loc} (ad:Addr) (u:Value),df V base S1 b ad u->df V W.heap.size S2 b ad u:=fun ad u ⟨x,y,z,q⟩=>by subst V2;exact ⟨x,y,.inl z,q⟩
 have Hz: ∀{V:World} {b:Nat->Option Loc} (ad:Addr) (u:Value),df V W.heap.size S2 b ad u->df V base S1 b ad u:=fun ad u ⟨x,y,z,q⟩=>by
  subst V2
  exact ⟨x,y,z.elim (fun h=>h) fun h=> .inr (aV r1.fw h),q⟩
 have MT: ∀{V:World} {k:Nat->Prop} {b:Nat->Option Loc} {d v},Rel (df V base S1 b) k b d v->Rel (df V W.heap.size S2 b) k b d v:=fun h=>h.mono hm1' (fun _ h=>h) fun _ _ _ h=>⟨_,h,rfl⟩
 have Ew: ∀{V:World} {k:Nat->Prop} {b:Nat->Option Loc} {d v},Rel (df V W.heap.size S2 b) k b d v->Rel (df V base S1 b) k b d v:=fun h=>h.mono Hz (fun _ h=>h) fun _ _ _ h=>⟨_,h,rfl⟩
 have YB:S2.sh=S1.sh:=by subst V2;rfl
 have Ng:S2.wb=S1.wb:=by subst V2;rfl
 have hpv2:S2.pv=S1.pv:=by subst V2;rfl
 have hwr:S2.wr=W:=by subst V2;rfl
 have hX: ∀k,(∃id l,c9 id=some l/\l.has k)↔S2.X k:=fun k=>by subst V2;exact Iff.rfl
 have hdf:=r1.rH.1.2 vC
 have rs:R W.heap.size W S2 τ kn c9 a1 W:=
  ⟨iR.refl _ _ _,(by subst V2;exact fun k ⟨id,l,e,h⟩=>(r1.ge id l k e h).1.elim .inr fun h=> .inl (r1.xs _ h)),af _,⟨by rw [hdf];exact ⟨List.nodup_nil,fun _=>rfl⟩,fun d hd=>by rw [hdf] at hd;cases hd⟩,(by rw [hwr];exact ⟨af _,fun B _=>KeepsFrom.refl _ _,fun k o h _ _=>h⟩),fun h=>r1.LB (by rw [<-Ng];exact h),(by rw [Ng];exact r1.lR),fun d v h=>MT (r1.yx d v (by rw [<-YB];exact h)),r1.size,fun t=>MT (r1.tmps t),fun id o h=>⟨(r1.fg id o h).1,(r1.fg id o h).2.rd hm1'⟩,r1.inj,fun id l g e h=>⟨.inr ((hX g).1 ⟨id,l,e,h⟩),(r1.ge id l g e h).2⟩,r1.live,(by rw [hpv2];exact r1.EF)⟩
 refine ih (some lr) m W.heap.size W S2 (.inr vD) _ _ _ h (fun e σ' hh a' w' lT=> ?_) _ _ ⟨kn,c9,rs,wJ⟩
 obtain ⟨Qo,oq,r2,qz⟩:=lT
 have hdf2:=r2.rH.1.2 (by rw [YB];exact vC)
 refine hQ e σ' a' w' Qo oq hh ?_ qz (by have:=r2.nM.2.1 B (by rw [Ng];exact sT);rw [hwr] at this;exact this) ⟨r2.fw,fun k hk=>⟨(hF k hk).1,r2.below.block k (hF k hk).1 fun h=> ?_⟩⟩ (fun k hk=>⟨bz (hF k hk).1 r2.fw,fun id l e h=> ?_⟩) fun k hk hn=>r2.below.block k hk fun h=>by
  obtain ⟨i,l,e,h⟩:=(hX k).2 h
  exact hn i l e h
 ·refine ⟨r1.below.trans ⟨r2.below.os,r2.below.tape,r2.below.output,r2.below.size,fun k kZ hx=>r2.below.block k (bz kZ r1.fw) fun h=> ?_,r2.below.drawn⟩,r1.xs,aV r1.fw r2.fw,⟨by rw [hdf2];exact ⟨List.nodup_nil,fun _=>rfl⟩,fun d hd=>by rw [hdf2] at hd;cases hd⟩,⟨aV r1.nM.1 r2.fw,fun B hB=>(r1.nM.2.1 B hB).trans (by have:=r2.nM.2.1 B (by rw [Ng];exact hB);rw [hwr] at this;exact this),fun k o h1 h2 h3=>r2.nM.2.2 k o (by rw [hwr];exact r1.nM.2.2 k o h1 h2 h3) h2 h3⟩,fun h=>r2.LB (by rw [Ng];exact h),(by rw [<-Ng];exact r2.lR),fun d v h=>Ew (r2.yx d v (by rw [YB];exact h)),r2.size,fun t=>Ew (r2.tmps t),fun id o h=>⟨(r2.fg id o h).1,(r2.fg id o h).2.rd Hz⟩,r2.inj,fun id l g e h=>⟨?_,(r2.ge id l g e h).2⟩,r2.live,(by rw [<-hpv2];exact r2.EF)⟩
  ·obtain ⟨i,l,e,h⟩:=(hX k).2 h
   rcases (r1.ge i l k e h).1 with h'|h'
   ·omega
   ·exact hx h'
  ·rcases (r2.ge id l g e h).1 with h'|h'
   ·exact .inl (aV r1.fw h')
   ·obtain ⟨i,l',e',h2⟩:=(hX g).2 h'
    exact (r1.ge i l' g e' h2).1
 ·obtain ⟨i,l,e,h⟩:=(hX k).2 h
  exact (hF k hk).2 i l e h
 ·rcases (r2.ge id l k e h).1 with h'|h'
  ·have:=(hF k hk).1;omega
  ·obtain ⟨i,l',e',h2⟩:=(hX k).2 h'
   exact (hF k hk).2 i l' e' h2
theorem EB {C:nh} {σ:St} {a:Act} {w:World} {id:Nat} {g:Operand} {ps:Array Tmp} {zo body:Code} {gf:FuncId} {fs:List DV} {K:Exit->St->VT} {Q:Exit->Act->World->Prop}
 (Sn:1<=m) (tD:S0.sh=[]) (sT:S0.wb=none) (lS:σ.lo=0) (Y6:σ.ev g= .nZ gf fs) (Ki:fx A zo=true) (vD:fx A body=true) (nU:DV.closed.go fs=true)
 (DC:wB σ.nt ps.toList=true) (AD:SeqB P gf fs C.N C.enc) (hlen: ∀k,k<C.N->(C.enc k).length=ps.size) (sI:dp (C.at σ σ [0])) (AF:C.inv σ [0])
 (Km:C.inv σ [C.N]->(K .normal (C.st σ [C.N])).holds)
 (hround: ∀x:Nat,(C.inv σ [x]/\x<C.N)->(evalCode P A zo (p9 ps.toList (C.enc x) { C.st σ [x] with rn:=true }) (rngKA P A body (Vn C σ id x K))).holds)
 (iha: ∀ro m base w0 S0,mn P A ro m base w0 S0 zo) (ih: ∀ro m base w0 S0,mn P A ro m base w0 S0 body) (hf:Fits base w0 S0 σ a w) (hK: ∀e σ',(K e σ').holds-> ∀a w,Fits base w0 S0 σ' a w->Q e a w):
 (Code.block id (.rangeFunc g ps zo body)).wpIn (FW none) m P Q a w:=by
 have hf0:=hf
 obtain ⟨kn,c9,r,hk⟩:=hf
 have jg:=r.ev g
 rw [Y6] at jg
 obtain ⟨vs,B4,YP,YQ⟩: ∃vs:Array Value,a.eval g= .func (.func gf) vs #[]/\vs.size=fs.length/\ ∀(j:Nat) (d:DV) (v:Value),fs[j]? =some d->vs[j]? =some v->Rel (df w base S0 c9) kn c9 d v:=by
  generalize hg:a.eval g=v at jg
  cases jg with
  |nZ hs hr=>exact ⟨_,rfl,hs,hr⟩
 -- a record's block turns
 have Ko: ∀{S1:Env} {τ:St} {eL:Nat->Prop} {dk:Nat->Option Loc} {a1:Act} {W:World} {k:Nat} {st Pk:Loop},S1.wr=S0.wr->S1.wb=some w.heap.size->(∀d∈a1.defers,d∈a.defers)->R base w0 S1 τ eL dk a1 W->w.heap.size<=k->W.heap[k]? =some (.loop st)->R base w0 S1 τ eL dk a1 (W.putObj k (.loop Pk)):=by
  intro S1 τ eL dk a1 W k st Pk hwr hwb1 hdf r' kZ ho
  refine r'.grown (grownBy_putObj' W k _) fun k2 e=> ?_
  cases e
  refine ⟨aV r.fw kZ,.inl ⟨_,hwb1,kZ⟩,by rw [hwr];exact aV r.nM.1 kZ,⟨_,ho,rfl⟩,fun d hd e2=> ?_⟩
  obtain ⟨D,e3,_,hh⟩:=r.rH.2 d (hdf d hd)
  rw [e3] at e2
  have:D=k:=by cases e2;rfl
  have:=dY hh
  omega
 have marked: ∀{τ:St} {W:World} {D:Nat},w.heap.size<=D->Fits base w0 S0 τ a W->W.heap[D]? =some (.deferred (some []))->Fits base w0 S0 τ { a with defers:={ target:= .collected D,args:= #[] }::a.defers } W:=by
  intro τ W D hD ⟨eL,dk,r',kZ⟩ hh
  refine ⟨eL,dk,⟨r'.below,r'.xs,r'.fw,⟨⟨cV.2 ⟨fun hm=> ?_,r'.rH.1.1⟩,fun h=>by rw [tD] at h;cases h⟩,fun d hd=> ?_⟩,r'.nM,r'.LB,r'.lR,r'.yx,r'.size,r'.tmps,r'.fg,r'.inj,r'.ge,r'.live,r'.EF⟩,kZ⟩
  ·obtain ⟨D',e,_,h'⟩:=r.rH.2 _ hm
   have:D=D':=by cases e;rfl
   have:=dY h'
   omega
  ·rcases aS.1 hd with rfl|hd
   ·exact ⟨D,rfl,aV r.fw hD,hh⟩
   ·exact r'.rH.2 d hd
 -- who is in nobody's hands
 obtain ⟨Yv,UT,r0,VR,hblk0⟩: ∃Yv UT,R base w0 (S0.round w.heap.size) { C.st σ [0] with rn:=true } Yv UT a w/\(∀i,Yv i->i<(C.st σ [0]).nx)/\ ∀i l,UT i=some l-> ∀g,l.has g-> ∃i' l',c9 i'=some l'/\l'.has g:=by
  obtain ⟨x1,x2⟩:=D7 tD (fun h=>absurd sT h) sI r
  refine ⟨_,_,x1.inRound,x2,fun i l h g hg=> ?_⟩
  obtain ⟨b,_,hb⟩:=jS h hg
  exact ⟨b,l,hb,hg⟩
 have F0lt: ∀k,(k<w.heap.size/\ ∀id l,c9 id=some l-> ¬l.has k)->k<w.heap.size:=fun k h=>h.1
 have rdF0: ∀{W:World},Below w.heap.size w W-> ∀ad u,df w base S0 c9 ad u->rdF (fun k=>k<w.heap.size/\ ∀id l,c9 id=some l-> ¬l.has k) W ad u:=fun hb ad u h=>⟨xe (hb.block _ (gE h.1)) h.1,gE h.1,h.2.1⟩
 -- the frame of the rounds
 obtain ⟨SR,E2⟩: ∃SR:Env,SR={ S0.round w.heap.size with sh:=ndF::C.keep.map fun t=>(σ.get t,a.tmps.getD t undef) }:=⟨_,rfl⟩
 have QZ:ndF∈SR.sh:=by rw [E2];exact ay
 have QY:SR.wb=some w.heap.size:=by rw [E2];rfl
 have hSRwr:SR.wr=S0.wr:=by rw [E2];rfl
 refine wpIn_block (Gs Sn B4 (fun args w=>mm AD.1 w) F0lt (fun W hb=>AD.2 (m - 1) vs _ W YP (fun j d v h1 h2=>((YQ j d v h1 h2).close (gn nU d (aG h1))).mono (rdF0 hb) (fun _ h=>h) fun _ _ h=>h.elim) (r.tM.mono (rdF0 hb))) hlen
  (rngIB base w0 (S0.round w.heap.size) w.heap.size C σ a)
  (fun c W=> ∃σo,Fits base w0 (S0.round w.heap.size) { σo with rn:=true } a W/\σo.rn=σ.rn/\((c= .ret/\(K .ret σo).holds)\/ ∃j,c= .exit j/\((bif Nat.beq j id then K .normal σo else K (.exit j) σo)).holds))
  (fun x F W ⟨_,h1,_,_,_,_,h2⟩=>⟨h1,fun k hk=>(h2 k hk).1⟩)
  (fun x F X Y ⟨i1,i2,eL,dk,r',kZ,hF⟩ hb=>⟨i1,aV i2 hb.size,eL,dk,r'.under hb,kZ,fun k hk=>hk.elim (fun h=>⟨bz (hF k h).1 hb.size,(hF k h).2⟩) fun ⟨h1,h2⟩=>⟨h2,fun id l e hl=>by have:=(r'.ge id l k e hl).2;omega⟩⟩)
  (fun x F W lc st Pk ⟨i1,i2,eL,dk,r',kZ,hF⟩ Ud _ ho=>⟨i1,aV i2 (grownBy_putObj' W _ _).size,eL,dk,Ko rfl rfl (fun _ h=>h) r' Ud ho,kZ,fun k hk=>⟨bz (hF k hk).1 (grownBy_putObj' W _ _).size,(hF k hk).2⟩⟩)
  (fun c X Y ⟨σo,⟨eL,dk,r',kZ⟩,i2⟩ hb=>⟨σo,⟨eL,dk,r'.under hb,kZ⟩,i2⟩)
  (fun c W lc st Pk ⟨σo,⟨eL,dk,r',kZ⟩,i2⟩ Ud ho=>⟨σo,⟨eL,dk,Ko rfl rfl (fun _ h=>h) r' Ud ho,kZ⟩,i2⟩)
  (fun W hb=>⟨AF,hb.size,Yv,UT,r0.under hb,VR,fun k hk=>⟨bz hk.1 hb.size,fun i l h hg=>let ⟨i',l',h',om⟩:=hblk0 i l h k hg;hk.2 i' l' h' om⟩⟩)
  (fun x F a1 W=>w.heap.size<=W.heap.size/\(∀d∈a.defers,∃D,d={ target:= .collected D,args:= #[] }/\base<=D/\W.heap[D]? =some (.deferred (some [])))/\ ∃τ eL dk,(evalCode P A body τ (Vn C σ id x K)).holds/\R base w0 SR τ eL dk a1 W/\(∀i,eL i->i<τ.nx)/\Md F dk W)
  (fun lr x F W ⟨i1,i2,TW,xN,r1,wJ,hF⟩ hl=> ?_)
  (fun x F a1 W lc st Pk ⟨i2,im,τ,eL,dk,ht,r',kZ,hF⟩ Ud _ ho=>⟨aV i2 (grownBy_putObj' W _ _).size,(fun d hd=>let ⟨D,e,h1,h2⟩:=im d hd;⟨D,e,h1,(World.putObj_heap_other (fun e=>by rw [e] at h2;rw [h2] at ho;cases ho)).trans h2⟩),τ,eL,dk,ht,Ko hSRwr QY (fun d hd=>by rw [r'.rH.1.2 QZ] at hd;cases hd) r' Ud ho,kZ,fun k hk=>⟨bz (hF k hk).1 (grownBy_putObj' W _ _).size,(hF k hk).2⟩⟩)
  (fun lr x F a1 W ⟨i2,im,τ,TW,xN,ht,r1,wJ,hF⟩ hl=> ?_) (fun D F W hD ⟨i1,_,eL,dk,r',kZ,_⟩ hh=> ?_) (fun D c W hD ⟨σo,i1,YE,i2⟩ hh=> ?_))
 ·-- the round's own assignments
  have hv:=hround x ⟨i1,hl⟩
  have rs:R base w0 SR { C.st σ [x] with rn:=true } TW xN { a with defers:=[] } W:=by
   have hS:SR.S=S0.S:=by rw [E2];rfl
   have hm: ∀ad u,df W base (S0.round w.heap.size) xN ad u->df W base SR xN ad u:=by subst E2;exact fun ad u h=>h
   have rel: ∀{d v},Rel (df W base (S0.round w.heap.size) xN) TW xN d v->Rel (df W base SR xN) TW xN d v:=fun h=>h.mono hm (fun _ h=>h) fun _ _ _ h=>⟨_,h,rfl⟩
   refine ⟨(by subst E2;exact r1.below),(by subst E2;exact r1.xs),r1.fw,⟨⟨List.nodup_nil,fun _=>rfl⟩,fun d hd=>by cases hd⟩,(by subst E2;exact r1.nM),fun _=>rfl,(by subst E2;exact r1.lR),fun d v h=> ?_,r1.size,fun t=>rel (r1.tmps t),fun id o h=>⟨(r1.fg id o h).1,(r1.fg id o h).2.rd hm⟩,r1.inj,(by subst E2;exact r1.ge),r1.live,(by subst E2;exact r1.EF)⟩
   have h:(d,v)∈Vl++(ndF::C.keep.map fun t=>(σ.get t,a.tmps.getD t undef)):=by subst E2;exact h
   rcases aT.1 h with h|h
   ·exact rel (r1.yx d v (aR _ h))
   rcases aS.1 h with h|h
   ·cases h;exact .any _
   obtain ⟨t,h1,h2⟩:=br.1 h
   cases h2
   have:=r1.tmps t
   have e:St.get { C.st σ [x] with rn:=true } t=σ.get t:=by
    show (match look (p8 σ C.keep) t with|some d=>d|none=>DV.any)=_
    rw [tp h1]
   rw [e] at this
   exact rel this
  have ra:=R.p9 (σ:={ C.st σ [x] with rn:=true }) ps.toList (C.enc x) lS DC rs
  have ea:({ tmps:=(ps.toList.zip (C.enc x)).foldl (fun t (pv:Tmp×Value)=>t.setIfInBounds pv.1 pv.2) a.tmps,defers:=[] }:Act)={ tmps:=(ps.zip (C.enc x).toArray).foldl (fun t (pv:Tmp×Value)=>t.setIfInBounds pv.1 pv.2) a.tmps,defers:=[] }:=by
   rw [<-Array.foldl_toList,Array.toList_zip]
  rw [ea] at ra
  refine PM QZ QY Ki iha hv ra (fun i hi=>by rw [Bj];exact wJ i hi) hF fun e σ' a' W' eL dk hh r' kZ h1 h2 h3 h4=> ?_
  cases e with
  |normal=>exact ⟨h1,h2,aV i2 h2.1,(fun d hd=>let ⟨D,e,e1,e2⟩:=r1.rH.2 d hd;⟨D,e,e1,(h4 D (dY e2) fun id l h5 h6=>r1.Aj h5 h6 e2).trans e2⟩),σ',eL,dk,hh,r',kZ,h3⟩
  |_=>exact hh.elim
 ·-- the round's body
  refine PM QZ QY vD ih ht r1 wJ hF fun e σ' a' w' Qo oq hh r2 qz fL hkF hF2 gQ=> ?_
  have Hz: ∀(ad:Addr) (u:Value),df w' base SR oq ad u->df w' base (S0.round w.heap.size) oq ad u:=by subst E2;exact fun ad u h=>h
  have Ew: ∀{d v},Rel (df w' base SR oq) Qo oq d v->Rel (df w' base (S0.round w.heap.size) oq) Qo oq d v:=fun h=>h.mono Hz (fun _ h=>h) fun _ _ _ h=>⟨_,h,rfl⟩
  have rout:R base w0 (S0.round w.heap.size) { iU C σ σ' with rn:=true } Qo oq a w':=by
   refine ⟨(by have:=r2.below;subst E2;exact this),(by have:=r2.xs;subst E2;exact this),r2.fw,⟨⟨r.rH.1.1,fun h=>by rw [show (S0.round w.heap.size).sh=S0.sh from rfl,tD] at h;cases h⟩,fun d hd=> ?_⟩,(by have:=r2.nM;subst E2;exact this),fun _=>rfl,(by have:=r2.lR;subst E2;exact this),fun d v h=> ?_,r.size,fun t=> ?_,fun id o h=>⟨(r2.fg id o h).1,(r2.fg id o h).2.rd Hz⟩,r2.inj,(by have:=r2.ge;subst E2;exact this),r2.live,fun t ht=>by
    have ht:t<σ.lo:=ht
    omega⟩
   ·obtain ⟨D,e,hD,h2⟩:=im d hd
    exact ⟨D,e,hD,(gQ D (dY h2) fun id l h5 h6=>r1.Aj h5 h6 h2).trans h2⟩
   ·have h:(d,v)∈Vl++S0.sh:=h
    rw [tD,List.append_nil] at h
    exact Ew (r2.yx d v (aR _ h))
   ·unfold St.get iU
    cases oS:look (p8 σ C.keep) t with
    |none=>exact .any _
    |some d=>
     obtain ⟨h1,rfl⟩:=mN oS
     exact Ew (r2.yx _ _ (aW _ (by subst E2;exact az _ (br.2 ⟨t,h1,rfl⟩))))
  have qw:Fits base w0 (S0.round w.heap.size) { iU C σ σ' with rn:=true } a w':=⟨Qo,oq,rout,qz⟩
  cases e with
  |normal=>
   obtain ⟨k1,k2⟩:=dp.app (dt.all hh)
   obtain ⟨x1,x2⟩:=D7 (S0:=S0.round w.heap.size) (ρ:=C.note.rn σ (iU C σ σ') [x+1]) (σ:={ iU C σ σ' with rn:=true }) (σ':={ C.st σ [x+1] with rn:=true }) tD (fun _=>rfl) (by rw [CX];exact k1) rout
   refine ⟨fL,⟨k2.one,aV i2 hkF.1,_,_,x1,x2,fun k hk=>⟨(hF2 k hk).1,fun i l e h=> ?_⟩⟩,hkF⟩
   obtain ⟨b,_,hb⟩:=jS e h
   exact (hF2 k hk).2 b l hb h
  |ret=>exact ⟨fL,⟨_,qw,rfl,.inl ⟨rfl,hh⟩⟩,hkF⟩
  |exit j=>exact ⟨fL,⟨_,qw,rfl,.inr ⟨j,rfl,hh⟩⟩,hkF⟩
  |_=>exact hh.elim
 ·have i2:Fits base w0 (S0.round w.heap.size) { C.st σ [C.N] with rn:=true } a W:=⟨eL,dk,r',kZ⟩
  exact hK _ _ (Km i1) _ _ (marked hD (i2.uV sT σ.rn) hh)
 ·have i1':Fits base w0 S0 σo a W:=by
   have:=i1.uV sT σ.rn
   rw [<-YE] at this
   exact this
  have YZ:=marked hD i1' hh
  rcases i2 with ⟨rfl,h2⟩|⟨j,rfl,h2⟩
  ·exact wpIn_ret (hK _ _ h2 _ _ YZ)
  ·refine wpIn_exit ?_
   simp only [Exit.inBlock]
   cases hb:Nat.beq j id with
   |true=>
    simp only [hb,aq] at h2
    rw [ah (ag hb)]
    exact hK _ _ h2 _ _ YZ
   |false=>
    simp only [hb,ax] at h2
    rw [ae (fun e=>by rw [e] at hb;simp at hb)]
    exact hK _ _ h2 _ _ YZ
theorem B7 (hm:P.follows .mixedOrders=true) (Jh:ub P A): ∀(c:Code),(∀ro m base w0 S0,mn P A ro m base w0 S0 c)/\(∀body,c= .loop body-> ∀ro m base w0 S0,mn P A ro m base w0 S0 body)/\ ∀g ps zo body,c= .rangeFunc g ps zo body->(∀ro m base w0 S0,mn P A ro m base w0 S0 zo)/\ ∀ro m base w0 S0,mn P A ro m base w0 S0 body:=by
 intro c
 induction c with
 |skip=>refine ⟨fun ro m base w0 S0=> ?_,fun b e=>(by cases e),fun _ _ _ _ e=>by cases e⟩;intro hs σ K Q h hK a w hf;exact wpIn_skip (hK _ _ h a w hf)
 |label l=>refine ⟨fun ro m base w0 S0=> ?_,fun b e=>(by cases e),fun _ _ _ _ e=>by cases e⟩;intro hs σ K Q h hK a w hf;exact wpIn_label (hK _ _ h a w hf)
 |ret=>refine ⟨fun ro m base w0 S0=> ?_,fun b e=>(by cases e),fun _ _ _ _ e=>by cases e⟩;intro hs σ K Q h hK a w hf;exact wpIn_ret (hK _ _ h a w hf)
 |exit id=>refine ⟨fun ro m base w0 S0=> ?_,fun b e=>(by cases e),fun _ _ _ _ e=>by cases e⟩;intro hs σ K Q h hK a w hf;exact wpIn_exit (hK _ _ h a w hf)
 |region id ops draw=>
  refine ⟨fun ro m base w0 S0=> ?_,fun b e=>(by cases e),fun _ _ _ _ e=>by cases e⟩
  intro hs σ K Q h hK a w hf
  simp only [evalCode] at h
  cases hd:draw with
  |false=>
   simp only [hd,ax] at h
   obtain ⟨h1,h2⟩:=th h
   exact Ex hf h1.all fun a' w' lT=>hK _ _ h2 a' w' lT
  |true=>
   simp only [hd,aq] at h
   cases ho:xK P ops (EG A.dq id) σ with
   |false=>
    simp only [ho,ax] at h
    split at h
    ·rename_i p hp
     obtain ⟨h1,h2⟩:=h
     obtain ⟨h3,h4⟩:=dp.app (dt.all h1)
     exact uH hm hf h3 hp h4.one fun a' w' lT=>hK _ _ h2 a' w' lT
    ·exact h.elim
   |true=>
    simp only [ho,aq] at h
    obtain ⟨h1,h2⟩:=th h
    exact uI hm hf h1.all ho fun a' w' lT=>hK _ _ h2 a' w' lT
 |seq x y ihx Z9=>
  refine ⟨fun ro m base w0 S0=> ?_,fun b e=>(by cases e),fun _ _ _ _ e=>by cases e⟩
  intro hs σ K Q h hK a w hf
  simp only [evalCode] at h
  have hsx:((S0.sh=[]/\S0.wb=none)/\ro=none/\1<=m)\/fx A x=true:=hs.imp id fun h=>by
   simp only [fx] at h
   cases hx:fx A x
   ·simp [hx] at h
   ·rfl
  have hsy:((S0.sh=[]/\S0.wb=none)/\ro=none/\1<=m)\/fx A y=true:=hs.imp id fun h=>by
   simp only [fx] at h
   cases hx:fx A x
   ·simp [hx] at h
   ·cases hy:fx A y
    ·simp [hx,hy] at h
    ·rfl
  split at h
  ·split at h
   ·rename_i hcut _ E Y1
    have tD:(S0.sh=[]/\S0.wb=none)/\ro=none/\1<=m:=by
     rcases hs with h|h
     ·exact h
     ·simp only [fx,hcut,Y1] at h
      cases hx:fx A x<;>cases hy:fx A y<;>simp [hx,hy] at h
    obtain ⟨⟨h1,h2⟩,rfl,h3⟩:=tD
    cases x with
    |region id ops draw=>exact Jh id E Y1 m base w0 S0 h1 h2 h3 _ _ σ K Q h hK a w hf
    |_=>simp [Rh] at Y1
   refine wpIn_seq ?_
   refine ihx.1 _ _ _ _ _ hsx σ _ _ h (fun e σ' hh a' w' lT=> ?_) a w hf
   cases e with
   |normal=>
    obtain ⟨h1,h2⟩:=th hh
    exact Z9.1 _ _ _ _ _ hsy _ K Q h2 hK a' w' (lT.pre h1.all)
   |_=>exact hK _ _ hh a' w' lT
  ·rename_i C hcut
   have tD:S0.sh=[]/\S0.wb=none:=by
    rcases hs with h|h
    ·exact h.1
    ·simp only [fx,hcut] at h
     cases hx:fx A x<;>cases hy:fx A y<;>simp [hx,hy] at h
   obtain ⟨h1,h2⟩:=h
   refine wpIn_seq ?_
   refine ihx.1 _ _ _ _ _ hsx σ _ _ h1 (fun e σ' hh a' w' lT=> ?_) a w hf
   cases e with
   |normal=>
    obtain ⟨k1,k2⟩:=dp.app (dt.all hh)
    exact Z9.1 _ _ _ _ _ hsy _ K Q (h2 _ k2.one) hK a' w' (weaken tD.1 (fun h=>absurd tD.2 h) k1 lT)
   |_=>exact hK _ _ hh a' w' lT
 |cond c x y ihx Z9=>
  refine ⟨fun ro m base w0 S0=> ?_,fun b e=>(by cases e),fun _ _ _ _ e=>by cases e⟩
  intro hs σ K Q h hK a w hf
  simp only [evalCode] at h
  split at h
  ·rename_i p hp
   replace h:=J4 h
   obtain ⟨kn,c9,r,hk⟩:=hf
   have hv:=r.ev c
   rw [hp] at hv
   have hsx:((S0.sh=[]/\S0.wb=none)/\ro=none/\1<=m)\/fx A x=true:=hs.imp id fun h=>by
    simp only [fx] at h
    cases hx:fx A x
    ·simp [hx] at h
    ·rfl
   have hsy:((S0.sh=[]/\S0.wb=none)/\ro=none/\1<=m)\/fx A y=true:=hs.imp id fun h=>by
    simp only [fx] at h
    cases hx:fx A x
    ·simp [hx] at h
    ·simpa [hx] using h
   exact wpIn_cond_split hv.lO (fun hp=>ihx.1 _ _ _ _ _ hsx σ K Q (h.1 hp) hK a w ⟨kn,c9,r,hk⟩) fun hp=>Z9.1 _ _ _ _ _ hsy σ K Q (h.2 hp) hK a w ⟨kn,c9,r,hk⟩
  ·exact h.elim
 |block id c ih=>
  refine ⟨fun ro m base w0 S0=> ?_,fun b e=>(by cases e),fun _ _ _ _ e=>by cases e⟩
  intro hs σ K Q h hK a w hf
  have plain:(evalCode P A c σ fun e σ'=>match e with
   |.exit j=>bif Nat.beq j id then K .normal σ' else K (.exit j) σ'
   |e=>K e σ').holds->(((S0.sh=[]/\S0.wb=none)/\ro=none/\1<=m)\/fx A c=true)->(Code.block id c).wpIn (FW ro) m P Q a w:=by
   intro h hsc
   refine wpIn_block (ih.1 _ _ _ _ _ hsc σ _ _ h (fun e σ' hh a' w' lT=> ?_) a w hf)
   cases e with
   |exit j=>
    simp only [Exit.inBlock]
    cases hb:Nat.beq j id with
    |true=>
     simp only [hb,aq] at hh
     rw [ah (ag hb)]
     exact hK _ _ hh a' w' lT
    |false=>
     simp only [hb,ax] at hh
     rw [ae (fun e=>by rw [e] at hb;simp at hb)]
     exact hK _ _ hh a' w' lT
   |_=>exact hK _ _ hh a' w' lT
  cases c with
  |loop body=>
   simp only [evalCode] at h
   split at h
   ·rename_i C _
    have tD:S0.sh=[]/\S0.wb=none:=hs.elim (fun h=>h.1) fun h=>by simp [fx] at h
    obtain ⟨h1,h2,h3⟩:=h
    -- the loop's own statement, out of the induction's for 'loop body'
    have HE:=ih.2.1 body rfl ro m base w0 S0
    refine wpIn_block (BR (fun n a w=> ∃i,C.mu σ i=n/\C.inv σ i/\Fits base w0 S0 (C.st σ i) a w) (C.mu σ (C.rd σ σ)) ⟨_,rfl,h2,weaken tD.1 (fun h=>absurd tD.2 h) (dt.all h1) hf⟩ fun n a w ⟨i,hi,hinv,hfi⟩=> ?_)
    subst hi
    refine HE (hs.imp (fun h=>h) fun h=>by simp [fx] at h) _ _ _ (h3 i hinv) (fun e σ' hh a' w' lT=> ?_) a w hfi
    cases e with
    |normal=>
     obtain ⟨k1,k2⟩:=dp.app (dt.all hh)
     exact ⟨_,k2.tl.one,_,rfl,k2.hd,weaken tD.1 (fun h=>absurd tD.2 h) k1 lT⟩
    |exit j=>
     simp only [Exit.then,Exit.inBlock]
     cases hb:Nat.beq j id with
     |true=>
      simp only [hb,aq] at hh
      rw [ah (ag hb)]
      exact hK _ _ hh a' w' lT
     |false=>
      simp only [hb,ax] at hh
      rw [ae (fun e=>by rw [e] at hb;simp at hb)]
      exact hK _ _ hh a' w' lT
    |_=>exact hK _ _ hh a' w' lT
   ·have HE:=ih.2.1 body rfl ro m base w0 S0
    have hsb:((S0.sh=[]/\S0.wb=none)/\ro=none/\1<=m)\/fx A body=true:=hs.imp (fun h=>h) fun h=>by simp [fx] at h
    have key: ∀(n:Nat) (σ:St) (a:Act) (w:World),(yT (evalCode P A body) id K n σ).holds->Fits base w0 S0 σ a w->Code.roundsIn (FW ro) m P body (Exit.inBlock id Q) n a w:=by
     intro n
     induction n with
     |zero=>intro σ a w h _;simp [yT,VT.holds,dt] at h
     |succ n ihn=>
      intro σ a w h hf
      refine HE hsb σ _ _ h (fun e σ' hh a' w' lT=> ?_) a w hf
      cases e with
      |normal=>exact ihn σ' a' w' hh lT
      |exit j=>
       simp only [Exit.then,Exit.inBlock]
       cases hb:Nat.beq j id with
       |true=>
        simp only [hb,aq] at hh
        rw [ah (ag hb)]
        exact hK _ _ hh a' w' lT
       |false=>
        simp only [hb,ax] at hh
        rw [ae (fun e=>by rw [e] at hb;simp at hb)]
        exact hK _ _ hh a' w' lT
      |_=>exact hK _ _ hh a' w' lT
    exact wpIn_block (wpIn_loop_rounds (Gw A id) (key _ σ a w h hf))
  |rangeFunc g ps zo body=>
   rcases hs with ⟨tD,hro,Sn⟩|h'
   ·subst hro
    simp only [evalCode] at h
    split at h
    ·rename_i C gf k7 _ Ui
     split at h
     ·rename_i l Y9
      cases hb: !trk&&(Nat.beq σ.lo 0&&fx A body)&&(DV.closed.go k7&&(Q9 C.keep g&&(su σ.nt l&&wB σ.nt ps.toList))) with
      |false=>simp only [hb,ax] at h;exact h.elim
      |true=>
       simp only [hb,aq] at h
       simp only [av] at hb
       obtain ⟨⟨htk,lS,vD⟩,nU,L5,QM,DC⟩:=hb
       have Jh:trk=false:=by simpa using htk
       obtain ⟨h1,hx,hround⟩:=h
       have h1:=dt.all h1
       have AD:=h1.hd
       have hlen:=h1.tl.hd
       obtain ⟨sI,AF⟩:=dp.app h1.tl.tl
       exact GX Jh Sn tD.1 tD.2 (ag lS) Ui Y9 vD nU L5 QM DC AD hlen sI AF.one (fun hi=>hx.2 () hi) hround (fun ro m base w0 S0=>(ih.2.2 g ps zo body rfl).2 ro m base w0 S0) hf hK
     ·exact h.elim
    ·rename_i C gf fs _ Y6
     cases hb:Nat.beq σ.lo 0&&(fx A zo&&fx A body)&&(DV.closed.go fs&&wB σ.nt ps.toList) with
     |false=>simp only [hb,ax] at h;exact h.elim
     |true=>
      simp only [hb,aq] at h
      simp only [av] at hb
      obtain ⟨⟨lS,Ki,vD⟩,nU,DC⟩:=hb
      obtain ⟨h1,hx,hround⟩:=h
      have h1:=dt.all h1
      have AD:=h1.hd
      have hlen:=h1.tl.hd
      obtain ⟨sI,AF⟩:=dp.app h1.tl.tl
      exact EB Sn tD.1 tD.2 (ag lS) Y6 Ki vD nU DC AD hlen sI AF.one (fun hi=>hx.2 () hi) hround (ih.2.2 g ps zo body rfl).1 (ih.2.2 g ps zo body rfl).2 hf hK
    ·exact h.elim
   ·simp [fx] at h'
  |_=>exact plain (by simpa only [evalCode] using h) (by simpa only [fx] using hs)
 |loop body ih=>exact ⟨fun ro m base w0 S0 hs σ K Q h hK a w hf=>h.elim,fun b e=>(by cases e;exact ih.1),fun _ _ _ _ e=>by cases e⟩
 |rangeFunc g ps zo body iha ihb=>exact ⟨fun ro m base w0 S0 hs σ K Q h hK a w hf=>h.elim,fun b e=>(by cases e),fun _ _ _ _ e=>(by cases e;exact ⟨iha.1,ihb.1⟩)⟩
 |_=>exact ⟨fun ro m base w0 S0 hs σ K Q h hK a w hf=>h.elim,fun b e=>(by cases e),fun _ _ _ _ e=>by cases e⟩
theorem rA (hm:P.follows .mixedOrders=true) (Jh:ub P A) (c:Code):mn P A ro m base w0 S0 c:=(B7 hm Jh c).1 ro m base w0 S0
def GW (P:Program) (σ:St):ResultVar->Option (DV×List Prop)
 |.tmp t=>match (σ.get t).mZ with
  |none=>some ((σ.get t).un,[])
  |some _=>none
 |.cell t ty=>match σ.get t with
  |.ptr id j=>match rD P σ.obj ty (.ptr id j) with
   |{ d,hw:=[],vc }=>some (d,vc)
   |_=>none
  |_=>none
def Nv (ob:Heap):List DV->Option (List DV×List Prop)
 |[]=>some ([],[])
 |d::r=>match mP ob d,Nv ob r with
  |some (e,vc),some (es,vcs)=>some (e::es,vc++vcs)
  |_,_=>none
def Uo (ob:Heap):DV->Option (DV×List Prop)
 |.ptr id 0=>match ob id with
  |some (.box cs)=>match Nv ob cs with
   |some (es,vc)=>some (.dN es,vc)
   |none=>none
  |_=>none
 |d=>mP ob d
def HK (ob:Heap):List DV->Option (List DV×List Prop)
 |[]=>some ([],[])
 |d::r=>match Uo ob d,HK ob r with
  |some (e,vc),some (es,vcs)=>some (e::es,vc++vcs)
  |_,_=>none
def Ur (ob:Heap):DV->Option (DV×List Prop)
 |.agg cs=>match Nv ob cs with
  |some (es,vc)=>some (.agg es,vc)
  |none=>none
 |.jL f cs=>match HK ob cs with
  |some (es,vc)=>some (.jL f es,vc)
  |none=>none
 |d=>Uo ob d
def pk (P:Program) (σ:St):List ResultVar->Option (List DV×List Prop)
 |[]=>some ([],[])
 |rv::r=>match GW P σ rv with
  |some (d,vc)=>match Ur σ.obj d,pk P σ r with
   |some (e,Gu),some (es,vcs)=>some (e::es,vc++(Gu++vcs))
   |_,_=>none
  |none=>none
def PA:List DV->DV
 |[d]=>d
 |l=> .fy l
def LC (P:Program) (fn:Func) (res:DV) (σ:St):VT:=match pk P σ fn.results.toList with
 |some (ds,vc)=> .done (vc++Gi 4 (PA ds) res)
 |none=> .done [False]
def retK (P:Program) (fn:Func) (res:DV):Exit->St->VT
 |.ret,σ=>LC P fn res σ
 |.normal,σ=>LC P fn res σ
 |_,_=> .done [False]
def entry:List DV->Nat->List (Nat×DV)
 |[],_=>[]
 |d::r,k=>(k,d)::entry r (k+1)
section
variable {w:World} {σ:St} {a:Act} {kn:Nat->Prop} {c9:Nat->Option Loc}
theorem tN (r:R base w0 S0 σ kn c9 a w): ∀{ds es:List DV} {vc:List Prop},Nv σ.obj ds=some (es,vc)->dp vc->es.length=ds.length/\
 ∀(j:Nat) (d e:DV) (v:Value),ds[j]? =some d->es[j]? =some e->Rel (df w base S0 c9) kn c9 d v->du (lY w S0.S base) e v
 |[],es,vc,h,_=>by
  simp only [Nv,aa,aB] at h
  obtain ⟨rfl,rfl⟩:=h
  exact ⟨rfl,by simp⟩
 |d::ds,es,vc,h,dg=>by
  simp only [Nv] at h
  split at h
  ·rename_i e Gu Mg uo h1 h2
   simp only [aa,aB] at h
   obtain ⟨rfl,rfl⟩:=h
   obtain ⟨k1,k2⟩:=dp.app dg
   obtain ⟨l1,l2⟩:=tN r h2 k2
   refine ⟨by simp [l1],fun j d' e' v hd he hv=> ?_⟩
   cases j with
   |zero=>
    simp only [aP,aa] at hd he
    subst hd he
    exact (tu r h1 k1 hv).1
   |succ j=>exact l2 j d' e' v (by simpa using hd) (by simpa using he) hv
  ·cases h
theorem AM (r:R base w0 S0 σ kn c9 a w) {d e:DV} {vc:List Prop} {v:Value} (h:Uo σ.obj d=some (e,vc)) (dg:dp vc) (hv:Rel (df w base S0 c9) kn c9 d v):du (lY w S0.S base) e v:=by
 unfold Uo at h
 split at h
 ·rename_i id
  split at h
  ·rename_i cs gR
   split at h
   ·rename_i es O6 hl
    simp only [aa,aB] at h
    obtain ⟨rfl,rfl⟩:=h
    obtain ⟨l1,l2⟩:=tN r hl dg
    obtain ⟨g,C,cv,T,lg,hh,fq,hr,jR⟩:=(r.fg _ _ gR).2
    cases hv with
    |ptr hk hv h=>
     rw [h g C lg]
     have cell: ∀j,j<es.length-> ∃d u,cs[j]? =some d/\cv[j]? =some u/\w.cell? (Addr.add ⟨g,0,none⟩ j)=some u:=fun j hj=>by
      have h1:j<cs.length:=by omega
      have h2:j<cv.size:=by omega
      refine ⟨_,_,ak h1,aD h2,?_⟩
      rw [eE,aE]
      simp only [World.cell?,hh,aD h2]
      rfl
     refine .dN (fun j=>(w.cell? (Addr.add ⟨g,0,none⟩ j)).getD undef) (fun j d hd=> ?_) (fun j d hd=> ?_) fun j d hd=> ?_
     ·obtain ⟨d',u,h1,h2,h3⟩:=cell j (aj.1 hd).1
      refine ⟨.inl ⟨by rw [h3];rfl,by rw [h3];exact jR u (bJ.2 (b9 h2))⟩,?_⟩
      rw [eE]
      exact oG r lg rfl
     ·obtain ⟨d',u,h1,h2,h3⟩:=cell j (aj.1 hd).1
      rw [h3];exact jR u (bJ.2 (b9 h2))
     ·obtain ⟨d',u,h1,h2,h3⟩:=cell j (aj.1 hd).1
      rw [h3]
      exact l2 j d' d u h1 hd (hr j d' u h1 h2)
   ·cases h
  ·cases h
 ·exact (tu r h dg hv).1
theorem yo (r:R base w0 S0 σ kn c9 a w): ∀{ds es:List DV} {vc:List Prop},HK σ.obj ds=some (es,vc)->dp vc->es.length=ds.length/\
 ∀(j:Nat) (d e:DV) (v:Value),ds[j]? =some d->es[j]? =some e->Rel (df w base S0 c9) kn c9 d v->du (lY w S0.S base) e v
 |[],es,vc,h,_=>by
  simp only [HK,aa,aB] at h
  obtain ⟨rfl,rfl⟩:=h
  exact ⟨rfl,by simp⟩
 |d::ds,es,vc,h,dg=>by
  simp only [HK] at h
  split at h
  ·rename_i e Gu Mg uo h1 h2
   simp only [aa,aB] at h
   obtain ⟨rfl,rfl⟩:=h
   obtain ⟨k1,k2⟩:=dp.app dg
   obtain ⟨l1,l2⟩:=yo r h2 k2
   refine ⟨by simp [l1],fun j d' e' v hd he hv=> ?_⟩
   cases j with
   |zero=>
    simp only [aP,aa] at hd he
    subst hd he
    exact AM r h1 k1 hv
   |succ j=>exact l2 j d' e' v (by simpa using hd) (by simpa using he) hv
  ·cases h
theorem Nu (r:R base w0 S0 σ kn c9 a w) {d e:DV} {vc:List Prop} {v:Value} (h:Ur σ.obj d=some (e,vc)) (dg:dp vc) (hv:Rel (df w base S0 c9) kn c9 d v):du (lY w S0.S base) e v:=by
 unfold Ur at h
 split at h
 ·split at h
  ·rename_i es O6 hl
   simp only [aa,aB] at h
   obtain ⟨rfl,rfl⟩:=h
   obtain ⟨l1,l2⟩:=tN r hl dg
   cases hv with
   |agg hs hr=>
    refine .agg (by rw [l1];exact hs) fun j d u hd hu=> ?_
    have dK:=(aj.1 hd).1
    have rq:=ak (l1▸dK)
    exact l2 j _ d u rq hd (hr j _ u rq hu)
  ·cases h
 ·split at h
  ·rename_i es O6 hl
   simp only [aa,aB] at h
   obtain ⟨rfl,rfl⟩:=h
   obtain ⟨l1,l2⟩:=yo r hl dg
   cases hv with
   |jL hs hr=>
    refine .jL (by rw [l1];exact hs) fun j d u hd hu=> ?_
    have dK:=(aj.1 hd).1
    have rq:=ak (l1▸dK)
    exact l2 j _ d u rq hd (hr j _ u rq hu)
  ·cases h
 ·exact AM r h dg hv
def zS (a:Act):ResultVar->Sem Value
 |.tmp t=>pure (a.tmps.getD t undef)
 |.cell b t=>do loadVar t (<-asAddr (a.tmps.getD b undef))
theorem ye (r:R base w0 S0 σ kn c9 a w) {rv:ResultVar} {d:DV} {vc:List Prop} (h:GW P σ rv=some (d,vc)) (dg:dp vc):
 ∃v,(zS a rv).run P w= .ok v w/\Rel (df w base S0 c9) kn c9 d v:=by
 unfold GW at h
 split at h
 ·rename_i t
  split at h
  ·rename_i hc
   simp only [aa,aB] at h
   obtain ⟨rfl,rfl⟩:=h
   exact ⟨_,rfl,(r.tmps t).un fun b hb=>by rw [hc] at hb;cases hb⟩
  ·cases h
 ·rename_i t ty
  split at h
  ·rename_i id j hp
   split at h
   ·rename_i d' O6 he
    simp only [aa,aB] at h
    obtain ⟨rfl,rfl⟩:=h
    have hv:=r.tmps t
    rw [hp] at hv
    obtain ⟨_,v,ef,hrel⟩:=vL (P:=P) (t:=ty) r (by rw [he];exact dg) hv
    rw [he] at hrel
    obtain ⟨_,⟨ad,had⟩,_⟩:=G1 hv
    refine ⟨v,?_,hrel⟩
    simp only [zS]
    rw [had] at ef ⊢
    simpa [Instr.loadAt,Instr.sureAddr,asAddr] using ef
   ·cases h
  ·cases h
theorem sN (r:R base w0 S0 σ kn c9 a w): ∀{rs:List ResultVar} {ds:List DV} {vc:List Prop},pk P σ rs=some (ds,vc)->dp vc->
 ∃vs:List Value,(rs.mapM (zS a)).run P w= .ok vs w/\vs.length=ds.length/\
  ∀(j:Nat) (d:DV) (u:Value),ds[j]? =some d->vs[j]? =some u->du (lY w S0.S base) d u
 |[],ds,vc,h,_=>by
  simp only [pk,aa,aB] at h
  obtain ⟨rfl,rfl⟩:=h
  exact ⟨[],by simp,rfl,by simp⟩
 |rv::rs,ds,vc,h,dg=>by
  simp only [pk] at h
  split at h
  ·rename_i d vc0 h0
   split at h
   ·rename_i e Gu es vcs h1 h2
    simp only [aa,aB] at h
    obtain ⟨rfl,rfl⟩:=h
    obtain ⟨k0,k12⟩:=dp.app dg
    obtain ⟨k1,k2⟩:=dp.app k12
    obtain ⟨v,ef,hrel⟩:=ye r h0 k0
    have hc:=Nu r h1 k1 hrel
    obtain ⟨vs,hruns,hlen,fh⟩:=sN r h2 k2
    refine ⟨v::vs,?_,by simp [hlen],fun j d' u hd hu=> ?_⟩
    ·simp only [List.mapM_cons,Sem.run_bind,ef,hruns,Result.andThen_ok,Sem.run_pure]
    ·cases j with
     |zero=>simp at hd hu;subst hd hu;exact hc
     |succ j=>exact fh j d' u (by simpa using hd) (by simpa using hu)
   ·cases h
  ·cases h
theorem GV (r:R base w0 S0 σ kn c9 a w) {fn:Func} {ds:List DV} {vc:List Prop} (h:pk P σ fn.results.toList=some (ds,vc)) (dg:dp vc):
 ∃v,(results fn a.tmps).run P w= .ok v w/\du (lY w S0.S base) (PA ds) v:=by
 obtain ⟨vs,ef,hlen,fh⟩:=sN r h dg
 have hm:(results fn a.tmps).run P w= .ok (if h:vs.toArray.size=1 then vs.toArray[0] else .tuple vs.toArray) w:=by
  have YY:results fn a.tmps=(do
   let vs <-fn.results.mapM (zS a)
   return (if h:vs.size=1 then vs[0] else Value.tuple vs)):=by
   unfold results
   congr 2
  rw [YY,Array.mapM_eq_mapM_toList]
  simp only [Sem.run_bind,Sem.run_map,ef,Result.andThen_ok,Sem.run_pure]
 refine ⟨_,hm,?_⟩
 match ds,vs,hlen,fh with
 |[],[],_,_=>exact .fy rfl (by simp)
 |[d],[v],_,fh=>exact fh 0 d v rfl rfl
 |d::d2::r,v::v2::q,hl,fh=>
  have nj: ¬((v::v2::q).toArray.size=1):=by simp
  rw [dif_neg nj]
  exact .fy (by simpa using hl) fun j d' u hd hu=>fh j d' u hd (by simpa using hu)
end
theorem tq: ∀(l:List DV) (k t:Nat),look (entry l k) t=if k<=t then l[t - k]? else none
 |[],k,t=>by simp [entry,look]
 |d::r,k,t=>by
  simp only [entry,dH]
  rw [tq r (k+1) t]
  by_cases h:k=t
  ·subst h;simp
  ·rw [ae h]
   by_cases hk:k<=t
   ·rw [ah (by omega),ah hk,show t - k=(t - (k+1))+1 by omega,aK]
   ·rw [ae (by omega),ae hk]
theorem vt {P:Program} {fn:Func} {w0:World} {base:Nat} {S:Nat->Prop} {σ:St} {kn:Nat->Prop} {c9:Nat->Option Loc} {res:DV} {rds:List DV} {vc:List Prop} (hwr:w0.heap.size<=base)
 (kO:pk P σ fn.results.toList=some (rds,vc)) (dg:dp vc) (hle:dp (Gi 4 (PA rds) res)): ∀{ds:List Deferred} {a:Act} {w:World},a.defers=ds->R base w0 ⟨S,[],w0,none,fun _=>False,fun _=>undef⟩ σ kn c9 a w->
 LeavesInM Fence.wide 1 P fn a.tmps (fun e w'=> ∃v,e= .returned v/\du (lY w' S base) res v/\Below base w0 w') ds .returning w
 |[],a,w,hd,r=>by
  obtain ⟨v,ef,hrel⟩:=GV r kO dg
  exact ⟨v,ef,v,rfl,gV 4 hle hrel,r.below.none fun _ h=>h⟩
 |d::ds,a,w,hd,r=>by
  obtain ⟨D,e,hD,hh⟩:=r.rH.2 d (by rw [hd];exact ay)
  have vC:=r.rH.1.1
  rw [hd,cV] at vC
  refine ⟨(by intro h;cases h),.inl ⟨D,_,by rw [e],run_takeDeferred hh,?_⟩⟩
  have r':R base w0 ⟨S,[],w0,none,fun _=>False,fun _=>undef⟩ σ kn c9 { a with defers:=ds } w:=
   ⟨r.below,r.xs,r.fw,⟨⟨vC.2,fun h=>by cases h⟩,fun x hx=>r.rH.2 x (by rw [hd];exact az _ hx)⟩,r.nM,r.LB,r.lR,r.yx,r.size,r.tmps,r.fg,r.inj,r.ge,r.live,r.EF⟩
  refine vt hwr kO dg hle (a:={ a with defers:=ds }) rfl (r'.grown (grownBy_putObj' w D _) fun k hk=> ?_)
  cases hk
  exact ⟨hD,.inr (q7 hh),aV hwr hD,⟨_,hh,rfl⟩,fun x hx e2=>vC.1 (by rw [e,<-e2];exact hx)⟩
theorem ZV (hm:P.follows .mixedOrders=true) {f:FuncId} {fn:Func} {c:Code} {args:List DV} {res:DV} (hf:P.funcs[f]? =some fn) (hb:fn.body=some c) (hn:(fn.name== "runtime.NumGoroutine")=false) (hlen:args.length<=fn.ntmps)
 (h:(evalCode P A c { t:=entry args 0,h:=[],nx:=0,nt:=fn.ntmps } (retK P fn res)).holds) (Jh:ub P A:=by exact pJ rfl):dm P f args res:=by
 refine ⟨⟨fn,hf,by rw [hb];rfl,hn⟩,fun S w vs Ji iK QL=>callsIn_wide.1 (callsIn_of_wp_marks (F:=Fence.wide) (n:=1) hf hb trivial ?_)⟩
 refine rA (A:=A) (ro:=none) (m:=1) (base:=w.heap.size) (w0:=w) (S0:=⟨S,[],w,none,fun _=>False,fun _=>undef⟩) hm Jh c (.inl ⟨⟨rfl,rfl⟩,rfl,af 1⟩) _ _ _ h (fun e σ' hh a' w' lT=> ?_) _ _ ?_
 ·have fin:(LC P fn res σ').holds->LeavesInM Fence.wide 1 P fn a'.tmps (fun e w'=> ∃v,e= .returned v/\du (lY w' S w.heap.size) res v/\Below w.heap.size w w') a'.defers .returning w':=by
   intro hh
   obtain ⟨kn,c9,r,_⟩:=lT
   unfold LC at hh
   split at hh
   ·rename_i ds vc hds
    obtain ⟨h1,h2⟩:=dp.app (dt.all hh)
    exact vt (af _) hds h1 h2 rfl r
   ·exact hh.elim
  cases e with
  |ret=>exact fin hh
  |normal=>exact fin hh
  |_=>exact hh.elim
 ·refine ⟨fun _=>False,fun _=>none,⟨iR.refl _ _ _,(fun _ h=>h.elim),af _,⟨by simp,fun d hd=>by cases hd⟩,⟨af _,(fun B h=>by cases h),fun _ _ h _ _=>h⟩,(fun h=>absurd rfl h),(fun B h=>by cases h),(fun d v hd=>(QL d v (by simpa using hd)).mono (fun ad u ⟨x,y⟩=>⟨x,(fun id l e=>by cases e),.inl y,fun B h=>by cases h⟩) (fun _ h=>h) fun _ _ h=>h.elim),?_,fun t=> ?_,fun id o ho=> ?_,(fun i i' l l' g e=>by cases e),(fun i l g e=>by cases e),(fun i l e=>by cases e),fun t ht=>absurd ht (aF t)⟩,fun i hi=>hi.elim⟩
  ·simp;omega
  ·have Ol: ∀{d v},du (fQ w S) d v->Rel (df w w.heap.size ⟨S,[],w,none,fun _=>False,fun _=>undef⟩ fun _=>none) (fun _=>False) (fun _=>none) d v:=fun hr=>hr.mono (fun ad u ⟨x,y⟩=>⟨x,(fun id l e=>by cases e),.inl y,fun B h=>by cases h⟩) (fun _ h=>h) fun _ _ h=>h.elim
   unfold St.get
   simp only [tq,ao,bn,bM]
   cases ht:args[t]? with
   |none=>exact .any _
   |some d=>
    have dK:t<vs.size:=by rw [Ji];exact (aj.1 ht).1
    have hv:vs[t]? =some vs[t]:=aD dK
    have:=Ol (iK t d _ ht hv)
    simp only [aC,Array.getElem?_append,dK,bn,hv,cK]
    exact this
  ·simp [St.obj,look] at ho
def owed (P:Program) (A:eH) (f:FuncId) (args:List DV) (res:DV):VT:=match P.funcs[f]? with
 |some fn=>match fn.body with
  |some c=>bif (!(fn.name== "runtime.NumGoroutine"))&&Nat.ble args.length fn.ntmps then
    evalCode P A c { t:=entry args 0,h:=[],nx:=0,nt:=fn.ntmps } (retK P fn res) else .done [False]
  |none=> .done [False]
 |none=> .done [False]
theorem db (hm:P.follows .mixedOrders=true) {f:FuncId} {args:List DV} {res:DV} {V:VT} (A:eH) (e:owed P A f args res=V) (h:V.holds) (Jh:ub P A:=by exact pJ rfl):dm P f args res:=by
 subst e
 unfold owed at h
 split at h
 ·rename_i fn hf
  split at h
  ·rename_i c hb
   cases hx:((!(fn.name== "runtime.NumGoroutine"))&&Nat.ble args.length fn.ntmps) with
   |false=>simp only [hx,ax] at h;exact h.elim
   |true=>
    simp only [hx,aq] at h
    simp only [av,bA] at hx
    exact ZV hm hf hb hx.1 (aH hx.2) h Jh
  ·exact h.elim
 ·exact h.elim
def De (P:Program) (fn:Func) (n:Nat) (de:List (Nat->DV)) (σ:St):VT:=match fn.results.toList with
 |[rv]=>match GW P σ rv with
  |some (.row s id 0 len,vc)=>match σ.obj id with
   |some (.row n' fo)=>bif Nat.beq fo.length s then .done (vc++((len=n/\len<=n')::TQ (Gi 2) fo de n)) else .done [False]
   |_=> .done [False]
  |some (.val (.slice none 0 0),vc)=> .done (vc++[n=0])
  |_=> .done [False]
 |_=> .done [False]
def Vo (P:Program) (fn:Func) (n:Nat) (de:List (Nat->DV)):Exit->St->VT
 |.ret,σ=>De P fn n de σ
 |.normal,σ=>De P fn n de σ
 |_,_=> .done [False]
def KN (S:Nat->Prop) (base:Nat) (n:Nat) (de:List (Nat->DV)) (v:Value) (w':World):Prop:=(v= .slice none 0 0/\n=0)\/ ∃g C cv T,v= .slice (some ⟨g,0,none⟩) n C/\base<=g/\w'.heap[g]? =some (.cells cv T (0,0))/\cv.size=C*de.length/\n<=C/\
 ∀(i j:Nat) (f:Nat->DV),i<n->de[j]? =some f-> ∃u,cv[i*de.length+j]? =some u/\fc u=true/\du (fun a u=>BC w' a u/\a.block≠g/\(S a.block\/base<=a.block)) (f i) u
theorem yd {base:Nat} {w0:World} {S0:Env} {w:World} {σ:St} {a:Act} {kn:Nat->Prop} {c9:Nat->Option Loc} (r:R base w0 S0 σ kn c9 a w) {fn:Func} {rv:ResultVar} {d:DV} {vc:List Prop} (VW:fn.results.toList=[rv]) (h:GW P σ rv=some (d,vc)) (dg:dp vc):
 ∃v,(results fn a.tmps).run P w= .ok v w/\Rel (df w base S0 c9) kn c9 d v:=by
 obtain ⟨v,ef,hrel⟩:=ye r h dg
 refine ⟨v,?_,hrel⟩
 have YY:results fn a.tmps=(do
  let vs <-fn.results.mapM (zS a)
  return (if h:vs.size=1 then vs[0] else Value.tuple vs)):=by
  unfold results
  congr 2
 rw [YY,Array.mapM_eq_mapM_toList,VW]
 simp only [List.mapM_cons,List.mapM_nil,Sem.run_bind,Sem.run_map,ef,Result.andThen_ok,Sem.run_pure]
 rfl
theorem GU {base:Nat} {w0 w:World} {S:Nat->Prop} {σ:St} {a:Act} {kn:Nat->Prop} {c9:Nat->Option Loc} (r:R base w0 ⟨S,[],w0,none,fun _=>False,fun _=>undef⟩ σ kn c9 a w) {fn:Func} {n:Nat} {de:List (Nat->DV)} (h:(De P fn n de σ).holds):
 ∃v,(results fn a.tmps).run P w= .ok v w/\KN S base n de v w:=by
 unfold De at h
 split at h
 ·rename_i rv VW
  split at h
  ·rename_i s id len vc kO
   split at h
   ·rename_i n' fo gR
    cases hb:Nat.beq fo.length s
    ·simp only [hb,ax] at h;exact h.elim
    ·simp only [hb,aq] at h
     have xy:=ag hb
     have tE:ke σ.obj id s=true:=by unfold ke;rw [gR];exact hb
     obtain ⟨h1,h2⟩:=dp.app (dt.all h)
     obtain ⟨hlen,hle⟩:=h2.hd
     subst hlen
     obtain ⟨k1,k2⟩:=kd h2.tl
     obtain ⟨v,ef,hrel⟩:=yd r VW kO h1
     refine ⟨v,ef,?_⟩
     obtain ⟨_,⟨rfl,_,rfl,_⟩|⟨g,C,rfl,hC,hl⟩|⟨h0,_⟩⟩:=nG r tE hrel
     rotate_left 2
     ·omega
     ·exact .inl ⟨rfl,rfl⟩
     ·obtain ⟨_,pG⟩:=r.fg _ _ gR
      rcases pG with ⟨nk,_⟩|⟨g',C',cv,T,oS,hh,fq,Ua,eZ⟩
      ·rw [nk] at hl;cases hl
      ·rw [hl] at oS
       cases oS
       refine .inr ⟨g,C,cv,T,by simp,((r.ge _ _ _ hl rfl).1.resolve_right fun h=>h),hh,by rw [fq,k1],by omega,fun i j f hi hj=> ?_⟩
       have Ue:j<fo.length:=by rw [k1];exact (aj.1 hj).1
       have xx:=ak Ue
       obtain ⟨u,hu,ho,hr⟩:=eZ i j _ (by omega) xx
       refine ⟨u,by rw [<-k1];exact hu,ho,gV 2 (k2 j _ f xx hj i hi) (hr.mono (fun ad u ⟨x,y,z,_⟩=>⟨x,y _ _ hl,z⟩) (fun _ h=>h) fun _ _ h=>h.elim)⟩
   ·exact h.elim
  ·rename_i vc kO
   obtain ⟨h1,h2⟩:=dp.app (dt.all h)
   obtain ⟨v,ef,hrel⟩:=yd r VW kO h1
   exact ⟨v,ef,.inl ⟨hrel.lO,h2.one⟩⟩
  ·exact h.elim
 ·exact h.elim
theorem sS {P:Program} {fn:Func} {w0:World} {base:Nat} {S:Nat->Prop} {σ:St} {kn:Nat->Prop} {c9:Nat->Option Loc} {n:Nat} {de:List (Nat->DV)} (hwr:w0.heap.size<=base)
 (kO:(De P fn n de σ).holds): ∀{ds:List Deferred} {a:Act} {w:World},a.defers=ds->R base w0 ⟨S,[],w0,none,fun _=>False,fun _=>undef⟩ σ kn c9 a w->
 LeavesInM Fence.wide 1 P fn a.tmps (fun e w'=> ∃v,e= .returned v/\Below base w0 w'/\KN S base n de v w') ds .returning w
 |[],a,w,hd,r=>by
  obtain ⟨v,ef,mS⟩:=GU r kO
  exact ⟨v,ef,v,rfl,r.below.none fun _ h=>h,mS⟩
 |d::ds,a,w,hd,r=>by
  obtain ⟨D,e,hD,hh⟩:=r.rH.2 d (by rw [hd];exact ay)
  have vC:=r.rH.1.1
  rw [hd,cV] at vC
  refine ⟨(by intro h;cases h),.inl ⟨D,_,by rw [e],run_takeDeferred hh,?_⟩⟩
  have r':R base w0 ⟨S,[],w0,none,fun _=>False,fun _=>undef⟩ σ kn c9 { a with defers:=ds } w:=
   ⟨r.below,r.xs,r.fw,⟨⟨vC.2,fun h=>by cases h⟩,fun x hx=>r.rH.2 x (by rw [hd];exact az _ hx)⟩,r.nM,r.LB,r.lR,r.yx,r.size,r.tmps,r.fg,r.inj,r.ge,r.live,r.EF⟩
  refine sS hwr kO (a:={ a with defers:=ds }) rfl (r'.grown (grownBy_putObj' w D _) fun k hk=> ?_)
  cases hk
  exact ⟨hD,.inr (q7 hh),aV hwr hD,⟨_,hh,rfl⟩,fun x hx e2=>vC.1 (by rw [e,<-e2];exact hx)⟩
theorem ZT (hm:P.follows .mixedOrders=true) {f:FuncId} {fn:Func} {c:Code} {args:List DV} {n:Nat} {de:List (Nat->DV)} (hf:P.funcs[f]? =some fn) (hb:fn.body=some c) (hn:(fn.name== "runtime.NumGoroutine")=false) (hlen:args.length<=fn.ntmps)
 (h:(evalCode P A c { t:=entry args 0,h:=[],nx:=0,nt:=fn.ntmps } (Vo P fn n de)).holds) (Jh:ub P A:=by exact pJ rfl):ZU P f args n de:=by
 refine ⟨⟨fn,hf,by rw [hb];rfl,hn⟩,fun S w vs Ji iK QL=>callsIn_wide.1 (callsIn_of_wp_marks (F:=Fence.wide) (n:=1) hf hb trivial ?_)⟩
 refine rA (A:=A) (ro:=none) (m:=1) (base:=w.heap.size) (w0:=w) (S0:=⟨S,[],w,none,fun _=>False,fun _=>undef⟩) hm Jh c (.inl ⟨⟨rfl,rfl⟩,rfl,af 1⟩) _ _ _ h (fun e σ' hh a' w' lT=> ?_) _ _ ?_
 ·have fin:(De P fn n de σ').holds->LeavesInM Fence.wide 1 P fn a'.tmps (fun e w'=> ∃v,e= .returned v/\Below w.heap.size w w'/\KN S w.heap.size n de v w') a'.defers .returning w':=by
   intro hh
   obtain ⟨kn,c9,r,_⟩:=lT
   exact sS (af _) hh rfl r
  cases e with
  |ret=>exact fin hh
  |normal=>exact fin hh
  |_=>exact hh.elim
 ·refine ⟨fun _=>False,fun _=>none,⟨iR.refl _ _ _,(fun _ h=>h.elim),af _,⟨by simp,fun d hd=>by cases hd⟩,⟨af _,(fun B h=>by cases h),fun _ _ h _ _=>h⟩,(fun h=>absurd rfl h),(fun B h=>by cases h),(fun d v hd=>(QL d v (by simpa using hd)).mono (fun ad u ⟨x,y⟩=>⟨x,(fun id l e=>by cases e),.inl y,fun B h=>by cases h⟩) (fun _ h=>h) fun _ _ h=>h.elim),?_,fun t=> ?_,fun id o ho=> ?_,(fun i i' l l' g e=>by cases e),(fun i l g e=>by cases e),(fun i l e=>by cases e),fun t ht=>absurd ht (aF t)⟩,fun i hi=>hi.elim⟩
  ·simp;omega
  ·have Ol: ∀{d v},du (fQ w S) d v->Rel (df w w.heap.size ⟨S,[],w,none,fun _=>False,fun _=>undef⟩ fun _=>none) (fun _=>False) (fun _=>none) d v:=fun hr=>hr.mono (fun ad u ⟨x,y⟩=>⟨x,(fun id l e=>by cases e),.inl y,fun B h=>by cases h⟩) (fun _ h=>h) fun _ _ h=>h.elim
   unfold St.get
   simp only [tq,ao,bn,bM]
   cases ht:args[t]? with
   |none=>exact .any _
   |some d=>
    have dK:t<vs.size:=by rw [Ji];exact (aj.1 ht).1
    have hv:vs[t]? =some vs[t]:=aD dK
    have:=Ol (iK t d _ ht hv)
    simp only [aC,Array.getElem?_append,dK,bn,hv,cK]
    exact this
  ·simp [St.obj,look] at ho
def Vv (P:Program) (A:eH) (f:FuncId) (args:List DV) (n:Nat) (de:List (Nat->DV)):VT:=match P.funcs[f]? with
 |some fn=>match fn.body with
  |some c=>bif (!(fn.name== "runtime.NumGoroutine"))&&Nat.ble args.length fn.ntmps then
    evalCode P A c { t:=entry args 0,h:=[],nx:=0,nt:=fn.ntmps } (Vo P fn n de) else .done [False]
  |none=> .done [False]
 |none=> .done [False]
theorem Sa (hm:P.follows .mixedOrders=true) {f:FuncId} {args:List DV} {n:Nat} {de:List (Nat->DV)} {V:VT} (A:eH) (e:Vv P A f args n de=V) (h:V.holds) (Jh:ub P A:=by exact pJ rfl):ZU P f args n de:=by
 subst e
 unfold Vv at h
 split at h
 ·rename_i fn hf
  split at h
  ·rename_i c hb
   cases hx:((!(fn.name== "runtime.NumGoroutine"))&&Nat.ble args.length fn.ntmps) with
   |false=>simp only [hx,ax] at h;exact h.elim
   |true=>
    simp only [hx,aq] at h
    simp only [av,bA] at hx
    exact ZT hm hf hb hx.1 (aH hx.2) h Jh
  ·exact h.elim
 ·exact h.elim
def eA:DV->Int
 |.val (.int _ n)=>n
 |_=>0
def Z4:DV->Nat
 |.row _ _ _ len=>len
 |_=>0
def cOf (σ:St) (j:Nat):DV->Nat->DV
 |.row _ id _ _=>match σ.obj id with
  |some (.row _ de)=>match de[j]? with
   |some c=>c
   |none=>fun _=> .any
  |_=>fun _=> .any
 |_=>fun _=> .any
def NC (j:Nat):DV->Nat->DV
 |.di _ de=>match de[j]? with
  |some c=>c
  |none=>fun _=> .any
 |_=>fun _=> .any
def iQ (j:Nat) (d:DV) (i:Nat):Int:=eA (NC j d i)
def lenOf:DV->Nat
 |.di n _=>n
 |_=>0
def arg (l:List DV) (j:Nat):DV:=match l[j]? with
 |some d=>d
 |none=> .any
def fD (j:Nat):DV->DV
 |.val (.agg vs)=>match vs[j]? with
  |some v=> .val v
  |none=> .any
 |.agg cs=>match cs[j]? with
  |some d=>d
  |none=> .any
 |_=> .any
def fI (j:Nat) (d:DV):Int:=eA (fD j d)
abbrev dI (n:Int):DV:= .val (.int .i64 n)
abbrev dB (b:Bool):DV:= .val (.bool b)
end
def rf {α:Sort _} (a:α):Prop:=a=a
theorem Rf:(∀{α:Type} (a:α),rf a=True)/\(∀p:Prop,ri p=True):=⟨fun _=>eq_true rfl,fun _=>eq_true id⟩
end Go.Abs
