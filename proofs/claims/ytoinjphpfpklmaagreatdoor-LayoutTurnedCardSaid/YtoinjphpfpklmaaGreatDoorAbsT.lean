/- A whole body: what is owed for it, as a tree; a function's contract out of it. -/
import Derived.Test.YtoinjphpfpklmaaGreatDoorAbsQS
import Derived.Deep.LoopGhost
import Derived.RangeFuncLeaves
import Derived.LoopNIn
set_option linter.unusedVariables false
set_option linter.unusedSimpArgs false
namespace Go.Abs
open Go.RowKit
inductive VT:Type 1 where
 |dk (ps:List Prop) (k:VT)
 |ite (b:Bool) (x y:VT)
 |done (ps:List Prop)
 |loop (ι:Type) (inv:ι->Prop) (i0:ι) (start:List Prop) (round:ι->VT)
 |cut (ι:Type) (inv:ι->Prop) (x:VT) (rest:ι->VT)
def VT.holds:VT->Prop
 |.dk ps k=>dC ps/\k.holds
 |.ite b x y=>(b=true->x.holds)/\(b=false->y.holds)
 |.done ps=>dC ps
 |.loop _ inv i0 start round=>dC start/\inv i0/\ ∀i,inv i->(round i).holds
 |.cut _ inv x rest=>x.holds/\ ∀i,inv i->(rest i).holds
structure BM:Type 1 where
 ι:Type
 keep:List Nat
 boxes:List Nat
 ts:St->ι->List (Nat×DV)
 bx:St->ι->List (Nat×List DV):=fun _ _=>[]
 rw:St->ι->List (Nat×Nat×Nat×List (Nat->DV)):=fun _ _=>[]
 rb:St->ι->List (Nat×Nat×Nat×Nat×List (Nat->DV)):=fun _ _=>[]
 mo:St->ι->List (Nat×Option Nat×fF):=fun _ _=>[]
 inv:St->ι->Prop
 mu:St->ι->Nat
 rd:St->St->ι
def pid:DV->Nat
 |.ptr id _=>id
 |_=>0
def rid:DV->Option Nat
 |.row _ id _ _=>some id
 |_=>none
def qO (σ:St):List Nat->List (Nat×DV)
 |[]=>[]
 |t::r=>(t,σ.get t)::qO σ r
def rowT:List (Nat×Nat×Nat×List (Nat->DV))->Nat->List (Nat×DV)
 |[],_=>[]
 |(t,s,n,_)::r,id=>(t,.row s id 0 n)::rowT r (id+1)
def rowH:List (Nat×Nat×Nat×List (Nat->DV))->Nat->List (Nat×Option fF)
 |[],_=>[]
 |(_,_,n,dp)::r,id=>(id,some (.row n dp))::rowH r (id+1)
def rowR (σ':St):List (Nat×Nat×Nat×List (Nat->DV))->Nat->Ren
 |[],_=>[]
 |(t,_,_,_)::r,id=>(id,rid (σ'.get t))::rowR σ' r (id+1)
def cellOf (σ:St) (j:Nat):DV->DV
 |.ptr id _=>match σ.obj id with
  |some (.box cs)=>match cs[j]? with
   |some d=>d
   |none=> .any
  |_=> .any
 |_=> .any
def rbH:List (Nat×Nat×Nat×Nat×List (Nat->DV))->Nat->List (Nat×Option fF)
 |[],_=>[]
 |(_,_,_,n,dp)::r,id=>(id,some (.row n dp))::rbH r (id+1)
def rbR (σ':St):List (Nat×Nat×Nat×Nat×List (Nat->DV))->Nat->Ren
 |[],_=>[]
 |(t,j,_,_,_)::r,id=>(id,rid (cellOf σ' j (σ'.get t)))::rbR σ' r (id+1)
def mid:DV->Nat
 |.lg id=>id
 |.row _ id _ _=>id
 |.s6 _ id _=>id
 |_=>0
def atT (σ:St) (t:Nat):Option Nat->DV
 |none=>σ.get t
 |some j=>cellOf σ j (σ.get t)
def mapH (σ:St):List (Nat×Option Nat×fF)->List (Nat×Option fF)
 |[]=>[]
 |(t,j,o)::r=>(mid (atT σ t j),some o)::mapH σ r
def mapR (σ σ':St):List (Nat×Option Nat×fF)->Ren
 |[]=>[]
 |(t,j,_)::r=>(mid (atT σ t j),some (mid (atT σ' t j)))::mapR σ σ' r
def boxH (σ:St):List (Nat×List DV)->List (Nat×Option fF)
 |[]=>[]
 |(t,cs)::r=>(pid (σ.get t),some (.box cs))::boxH σ r
def boxR (σ σ':St):List (Nat×List DV)->Ren
 |[]=>[]
 |(t,_)::r=>(pid (σ.get t),some (pid (σ'.get t)))::boxR σ σ' r
def V9 (σ:St):List Nat->List (Nat×Option fF)
 |[]=>[]
 |t::r=>(pid (σ.get t),σ.obj (pid (σ.get t)))::V9 σ r
def V8 (σ σ':St):List Nat->Ren
 |[]=>[]
 |t::r=>(pid (σ.get t),some (pid (σ'.get t)))::V8 σ σ' r
def BM.st (C:BM) (σ:St) (i:C.ι):St where
 t:=C.ts σ i++(rowT (C.rw σ i) σ.nx++qO σ C.keep)
 h:=rowH (C.rw σ i) σ.nx++(rbH (C.rb σ i) (σ.nx+50)++(mapH σ (C.mo σ i)++(boxH σ (C.bx σ i)++V9 σ C.boxes)))
 nx:=σ.nx+100
 nt:=σ.nt
 rn:=σ.rn
 lo:=σ.lo
def BM.rn (C:BM) (σ σ':St) (i:C.ι):Ren:=rowR σ' (C.rw σ i) σ.nx++(rbR σ' (C.rb σ i) (σ.nx+50)++(mapR σ σ' (C.mo σ i)++(boxR σ σ' (C.bx σ i)++V8 σ σ' C.boxes)))
def BM.at (C:BM) (σ σ':St):List Prop:=pL (C.rn σ σ' (C.rd σ σ')) σ' (C.st σ (C.rd σ σ'))
structure nG:Type 1 where
 N:Nat
 enc:Nat->List Value
 keep:List Nat
 boxes:List Nat
 bx:St->List Nat->List (Nat×List DV):=fun _ _=>[]
 rb:St->List Nat->List (Nat×Nat×Nat×Nat×List (Nat->DV)):=fun _ _=>[]
 mo:St->List Nat->List (Nat×Option Nat×fF):=fun _ _=>[]
 inv:St->List Nat->Prop
def nG.note (C:nG):BM:={ ι:=List Nat,keep:=C.keep,boxes:=C.boxes,ts:=fun _ _=>[],bx:=C.bx,rb:=C.rb,mo:=C.mo,inv:=C.inv,mu:=fun _ _=>0,rd:=fun _ _=>[] }
def nG.st (C:nG) (σ:St) (i:List Nat):St:=C.note.st σ i
def nG.at (C:nG) (σ σ':St) (i:List Nat):List Prop:=pL (C.note.rn σ σ' i) σ' (C.note.st σ i)
def iT (C:nG) (σ σ':St):St:={ t:=qO σ C.keep,h:=σ'.h,nx:=σ'.nx,nt:=σ.nt,rn:=σ.rn,lo:=σ.lo }
structure eA:Type 1 where
 dz:List (Nat×List (Nat×fx))
 loops:List (Nat×BM)
 dK:List (Nat×BM)
 TV:List (Nat×nG):=[]
 JN:List (Nat×Nat):=[]
 dec:List Nat:=[]
 Ct:List (Nat×List (Nat×Nat)):=[]
 exts:List (Nat×(Code->Code->St->(Exit->St->VT)->VT)):=[]
def AS {α:Type 1}:List (Nat×α)->Nat->Option α
 |[],_=>none
 |(k,v)::r,i=>bif Nat.beq k i then some v else AS r i
def ET (l:List (Nat×List (Nat×fx))) (k:Nat):List (Nat×fx):=match look l k with
 |some o=>o
 |none=>[]
def ku:Code->Option Nat
 |.region id _ _=>some id
 |.seq a b=>match ku a with
  |some n=>some n
  |none=>ku b
 |.block _ c=>ku c
 |.loop c=>ku c
 |_=>none
def cutAt (A:eA) (c:Code):Option BM:=match A.dK with
 |[]=>none
 |l=>match ku c with
  |some n=>AS l n
  |none=>none
def L4 (A:eA) (c:Code) (σ:St):St×List Prop:=match A.Ct with
 |[]=>(σ,[])
 |l=>match ku c with
  |some n=>match look l n with
   |some ps=>Ct σ ps
   |none=>(σ,[])
  |none=>(σ,[])
theorem Fits.pre {A:eA} {c:Code} {base:Nat} {w0 w:World} {S0:Env} {σ:St} {a:Act} (h:Fits base w0 S0 σ a w) (dr:dw (L4 A c σ).2):Fits base w0 S0 (L4 A c σ).1 a w:=by
 unfold L4 at dr ⊢
 split
 ·exact h
 ·split
  ·split
   ·rename_i h0 _ _ h1 _ _ h2
    simp only [h1,h2] at dr
    exact h.Ct _ dr
   ·exact h
  ·exact h
def RK (A:eA):Code->Option (Code->Code->St->(Exit->St->VT)->VT)
 |.region id _ _=>AS A.exts id
 |_=>none
def fB (A:eA):Code->Bool
 |.seq a b=>bif fB A a then (bif fB A b then (match cutAt A b,RK A a with|none,none=>true|_,_=>false) else false) else false
 |.cond _ a b=>bif fB A a then fB A b else false
 |.block _ (.loop _)=>false
 |.block _ (.rangeFunc ..)=>false
 |.block _ c=>fB A c
 |.skip| .label _| .ret| .exit _| .region .. =>true
 |_=>false
def iN (w:World) (B:Nat):Rd:=fun a u=>Ar w a u/\(jZ w a.block->a.block<B)
def KpC (kj:List DV) (lb:Array Value) (N:Nat) (A B:World):Prop:=(∀(j:Nat) (d:DV) (v:Value),kj[j]? =some d->lb[j]? =some v->dA (iN A N) d v->dA (iN B N) d v)/\(jv (iN A N)->jv (iN B N))
def FN (P:Program) (gf:FuncId) (kj:List DV) (N:Nat) (enc:Nat->List Value):Prop:=
 gA P gf/\ ∀(m:Nat) (lb:Array Value) (w:World),lb.size=kj.length->(∀(j:Nat) (d:DV) (v:Value),kj[j]? =some d->lb[j]? =some v->dA (iN w w.heap.size) d v)->jv (iN w w.heap.size)->
  SeqStopsK Fence.wide m P gf lb (fun x:{ x:Nat//x<N }=>(enc x.1).toArray) (KpC kj lb w.heap.size) (fun xs=>xs.map (·.1)=List.range N) (fun _=>True) N w
def BG:List Oper->Option (List (Tmp×Tmp))
 |[]=>some []
 |o::r=>match o.op,o.dst,o.guard,BG r with
  |.assign (.tmp s),some d,none,some l=>some ((d,s)::l)
  |.move (.tmp s),some d,none,some l=>some ((d,s)::l)
  |_,_,_,_=>none
def Em:Code->Option (List (Tmp×Tmp))
 |.region _ ops false=>BG ops.toList
 |.seq a b=>match Em a,Em b with
  |some l,some l'=>some (l++l')
  |_,_=>none
 |.skip=>some []
 |_=>none
def rq:List (Tmp×Tmp)->Act->Act
 |[],a=>a
 |(d,s)::l,a=>rq l (a.put (some d) (a.tmps.getD s undef))
def zi:List (Tmp×Tmp)->St->St
 |[],σ=>σ
 |(d,s)::l,σ=>zi l (σ.put d (σ.get s))
def qR:List Tmp->List Value->St->St
 |p::ps,v::vs,σ=>qR ps vs (σ.put p (.val v))
 |_,_,σ=>σ
def zj (C:nG) (σ:St) (ps:List Tmp) (l:List (Tmp×Tmp)) (pre:List Nat) (x:Nat):St:=zi l (qR ps (C.enc x) { C.st σ pre with rn:=true })
def sQ (nt:Nat):List (Tmp×Tmp)->Bool
 |[]=>true
 |(d,_)::l=>bif Nat.blt d nt then sQ nt l else false
def wL (nt:Nat):List Tmp->Bool
 |[]=>true
 |p::l=>bif Nat.blt p nt then wL nt l else false
def RG (keep:List Nat):Operand->Bool
 |.tmp t=>keep.any (Nat.beq t)
 |_=>false
def GC (A:eA) (id:Nat):Nat:=match look A.JN id with
 |some n=>n
 |none=>0
def zg (f:St->(Exit->St->VT)->VT) (id:Nat) (K:Exit->St->VT):Nat->St->VT
 |0,_=> .done [False]
 |n+1,σ=>f σ fun e σ'=>match e with
  |.normal=>zg f id K n σ'
  |.exit j=>bif Nat.beq j id then K .normal σ' else K (.exit j) σ'
  |e=>K e σ'
def Yw (A:eA):Operand->Bool
 |.tmp t=>A.dec.any (Nat.beq t)
 |_=>false
def mkIf (s p:Bool) (a b:VT):VT:=bif s then (bif p then a else b) else .ite p a b
theorem J7 {s p:Bool} {a b:VT} (h:(mkIf s p a b).holds):(VT.ite p a b).holds:=by
 unfold mkIf at h
 cases s
 ·exact h
 ·cases p
  ·exact ⟨fun h=>(by cases h),fun _=>h⟩
  ·exact ⟨fun _=>h,fun h=>(by cases h)⟩
def evalCode (P:Program) (A:eA):Code->St->(Exit->St->VT)->VT
 |.skip,σ,K=>K .normal σ
 |.label _,σ,K=>K .normal σ
 |.ret,σ,K=>K .ret σ
 |.exit id,σ,K=>K (.exit id) σ
 |.region id ops draw,σ,K=>
  match fq P ops (ET A.dz id) σ with
  |(σ',vcs)=>bif draw then (bif xP P ops (ET A.dz id) σ then (match vcs with|[]=>K .normal σ'|vcs=> .dk vcs (K .normal σ')) else (match vY P ops (ET A.dz id) σ with|some p=> .dk (vcs++[p]) (K .normal σ')|none=> .done [False]))
   else (match vcs with|[]=>K .normal σ'|vcs=> .dk vcs (K .normal σ'))
 |.seq a b,σ,K=>match cutAt A b with
  |none=>match RK A a with
   |some E=>E a b σ K
   |none=>evalCode P A a σ fun e σ'=>match e with
    |.normal=>match L4 A b σ' with
     |(σ1,vcs)=>match vcs with
      |[]=>evalCode P A b σ1 K
      |vcs=> .dk vcs (evalCode P A b σ1 K)
    |e=>K e σ'
  |some C=> .cut C.ι (C.inv σ) (evalCode P A a σ fun e σ'=>match e with
   |.normal=> .done (C.at σ σ'++[C.inv σ (C.rd σ σ')])
   |e=>K e σ') fun i=>evalCode P A b (C.st σ i) K
 |.cond c a b,σ,K=>match σ.ev c with
  |.val (.bool p)=>mkIf (Yw A c) p (evalCode P A a σ K) (evalCode P A b σ K)
  |_=> .done [False]
 |.block id (.loop body),σ,K=>match AS A.loops id with
  |some C=> .loop C.ι (C.inv σ) (C.rd σ σ) (C.at σ σ) fun i=>evalCode P A body (C.st σ i) fun e σ'=>match e with
   |.normal=> .done (C.at σ σ'++[C.inv σ (C.rd σ σ'),C.mu σ (C.rd σ σ')<C.mu σ i])
   |.exit j=>bif Nat.beq j id then K .normal σ' else K (.exit j) σ'
   |e=>K e σ'
  |none=>zg (evalCode P A body) id K (GC A id) σ
 |.block id (.rangeFunc g ps zL body),σ,K=>match AS A.TV id,σ.ev g with
  |some C,.jt gf kj=>match Em zL with
   |some l=>bif !trk&&(Nat.beq σ.lo 0&&fB A body)&&(DV.closed.go kj&&(RG C.keep g&&(sQ σ.nt l&&wL σ.nt ps.toList))) then
     .dk (FN P gf kj C.N C.enc::(∀k,k<C.N->(C.enc k).length=ps.size)::(C.at σ σ []++[C.inv σ []]))
      (.cut (List Nat×Nat) (fun q=>C.inv σ q.1/\q.2<C.N/\q.1.length<C.N/\ ∀y∈q.1,y<C.N)
        (.cut Unit (fun _=>C.inv σ (List.range C.N)) (.done []) fun _=>K .normal (C.st σ (List.range C.N)))
        fun q=>evalCode P A body (zj C σ ps.toList l q.1 q.2) fun e σ'=>match e with
         |.normal=> .done (C.at σ (iT C σ σ') (q.1++[q.2])++[C.inv σ (q.1++[q.2])])
         |.ret=>K .ret (iT C σ σ')
         |.exit j=>bif Nat.beq j id then K .normal (iT C σ σ') else K (.exit j) (iT C σ σ')
         |_=> .done [False])
    else .done [False]
   |none=> .done [False]
  |some C,.oB gf fs=>bif Nat.beq σ.lo 0&&(fB A zL&&fB A body)&&(DV.closed.go fs&&wL σ.nt ps.toList) then
    .dk (SeqB P gf fs C.N C.enc::(∀k,k<C.N->(C.enc k).length=ps.size)::(C.at σ σ [0]++[C.inv σ [0]]))
     (.cut Nat (fun x=>C.inv σ [x]/\x<C.N)
       (.cut Unit (fun _=>C.inv σ [C.N]) (.done []) fun _=>K .normal (C.st σ [C.N]))
       fun x=>evalCode P A zL (qR ps.toList (C.enc x) { C.st σ [x] with rn:=true }) fun e σ1=>match e with
        |.normal=>evalCode P A body σ1 fun e σ'=>match e with
         |.normal=> .done (C.at σ (iT C σ σ') [x+1]++[C.inv σ [x+1]])
         |.ret=>K .ret (iT C σ σ')
         |.exit j=>bif Nat.beq j id then K .normal (iT C σ σ') else K (.exit j) (iT C σ σ')
         |_=> .done [False]
        |_=> .done [False])
   else .done [False]
  |_,_=> .done [False]
 |.block id c,σ,K=>evalCode P A c σ fun e σ'=>match e with
  |.exit j=>bif Nat.beq j id then K .normal σ' else K (.exit j) σ'
  |e=>K e σ'
 |_,_,_=> .done [False]
theorem Ci {F:Fence} {rm:Nat} {P:Program} {Q:Exit->Act->World->Prop} {a:Act} {w:World} {c:Code} (I:Nat->Act->World->Prop) (n₀:Nat) (h₀:I n₀ a w)
 (round: ∀n a w,I n a w->c.wpIn F rm P (Exit.then (fun a' w'=> ∃n',n'<n/\I n' a' w') Q) a w):(Code.loop c).wpIn F rm P Q a w:=by
 refine wpIn_loop (fun a w=> ∃n,I n a w) (fun a w=>leastOf (fun n=>I n a w)) ⟨n₀,h₀⟩ ?_
 intro a w hI
 refine wpIn_mono (round _ a w (leastOf_spec hI).1) ?_
 intro e a' w' hq
 cases e with
 |normal=>
  obtain ⟨n',dR,hI'⟩:=hq
  exact show (∃n,I n a' w')/\leastOf (fun n=>I n a' w')<leastOf (fun n=>I n a w) from ⟨⟨n',hI'⟩,Nat.lt_of_le_of_lt ((leastOf_spec ⟨n',hI'⟩).2 n' hI') dR⟩
 |_=>exact hq
section
variable {P:Program} {A:eA} {ro:Option Nat} {m:Nat} {base:Nat} {w0:World} {S0:Env}
theorem tT {vcs:List Prop} {k:VT} (h:(match vcs with|[]=>k|vcs=> .dk vcs k).holds):dC vcs/\k.holds:=by
 cases vcs with
 |nil=>exact ⟨trivial,h⟩
 |cons p r=>exact h
def SE (P:Program) (E:Code->Code->St->(Exit->St->VT)->VT):Prop:= ∀(m:Nat) (base:Nat) (w0:World) (S0:Env),S0.sh=[]->S0.wb=none->1<=m-> ∀(a b:Code) (σ:St) (K:Exit->St->VT) (Q:Exit->Act->World->Prop),(E a b σ K).holds->
 (∀e σ',(K e σ').holds-> ∀a w,Fits base w0 S0 σ' a w->Q e a w)-> ∀ac w,Fits base w0 S0 σ ac w->(Code.seq a b).wpIn (FW none) m P Q ac w
def lB (P:Program) (A:eA):Prop:= ∀id E,AS A.exts id=some E->SE P E
theorem iQ {P:Program} {A:eA} (h:A.exts=[]):lB P A:=fun id E e=>by rw [h] at e;cases e
def mM (P:Program) (A:eA) (ro:Option Nat) (m:Nat) (base:Nat) (w0:World) (S0:Env) (c:Code):Prop:=(((S0.sh=[]/\S0.wb=none)/\ro=none/\1<=m)\/fB A c=true)-> ∀(σ:St) (K:Exit->St->VT) (Q:Exit->Act->World->Prop),(evalCode P A c σ K).holds->
 (∀e σ',(K e σ').holds-> ∀a w,Fits base w0 S0 σ' a w->Q e a w)-> ∀a w,Fits base w0 S0 σ a w->c.wpIn (FW ro) m P Q a w
theorem wG {ops:Array Oper} {Q:Exit->Act->World->Prop} {w:World}: ∀(dt:List Oper) (k:Nat) {l:List (Tmp×Tmp)} {a:Act},(∀j,dt[j]? =ops[k+j]?)->BG dt=some l->Q .normal (rq l a) w->wpOpsIn (FW ro) m P ops Q (List.range' k dt.length) a w
 |[],k,l,a,_,h,hq=>by
  cases h
  exact hq
 |o::r,k,l,a,hl,h,hq=>by
  have h0:ops[k]? =some o:=by simpa using (hl 0).symm
  have go: ∀(s d:Tmp) (l':List (Tmp×Tmp)),(o.op= .assign (.tmp s)\/o.op= .move (.tmp s))->o.dst=some d->o.guard=none->BG r=some l'->l=(d,s)::l'->wpOpsIn (FW ro) m P ops Q (List.range' k (o::r).length) a w:=by
   intro s d l' nN hd hg O5 lG
   subst lG
   simp only [aH,List.range'_succ,wpOpsIn,h0]
   rw [ag (by simp [Region.wanted,hg])]
   refine ⟨fun _ _=>trivial,?_⟩
   rw [Oper.semAt_eq _ _ _ (fun c h=>by rcases nN with e|e<;>rw [e] at h<;>cases h)]
   have dN:(execOp a.eval o).run P w= .ok (.value (a.tmps.getD s undef)) w:=by
    unfold execOp
    rcases nN with e|e<;>rw [e]<;>rfl
   rw [dN,Oper.uponIn_value,hd]
   exact wG r (k+1) (fun j=>by have:=hl (j+1);simpa [cC,Nat.add_comm 1 j] using this) O5 hq
  unfold BG at h
  split at h
  ·rename_i s d l' e1 e2 e3 e4
   exact go s d l' (.inl e1) e2 e3 e4 (by cases h;rfl)
  ·rename_i s d l' e1 e2 e3 e4
   exact go s d l' (.inr e1) e2 e3 e4 (by cases h;rfl)
  ·cases h
theorem Aj: ∀(l l':List (Tmp×Tmp)) (a:Act),rq (l++l') a=rq l' (rq l a)
 |[],_,_=>rfl
 |(d,s)::l,l',a=>Aj l l' _
theorem Oz {w:World}: ∀(c:Code) {l:List (Tmp×Tmp)} {a:Act} {K:Act->World->Prop},Em c=some l->K (rq l a) w->c.wpIn (FW ro) m P (Exit.then K (fun _ _ _=>False)) a w:=by
 intro c
 induction c with
 |skip=>intro l a K h hk;cases h;exact wpIn_skip hk
 |region id ops draw=>
  intro l a K h hk
  cases draw with
  |true=>cases h
  |false=>
   refine wpIn_region ?_
   rw [List.range_eq_range',<-bF]
   exact wG ops.toList 0 (fun j=>by simp) h hk
 |seq x y ihx ihy=>
  intro l a K h hk
  simp only [Em] at h
  split at h
  ·rename_i l1 l2 h1 h2
   cases h
   rw [Aj] at hk
   refine wpIn_seq (wpIn_mono (ihx (K:=fun a w=>y.wpIn (FW ro) m P (Exit.then K (fun _ _ _=>False)) a w) h1 ?_) fun e a w hq=> ?_)
   ·exact ihy h2 hk
   ·cases e<;>first|exact hq|exact hq.elim
  ·cases h
 |_=>intro l a K h hk;cases h
theorem R.qR {kn:Nat->Prop} {di:Nat->Option Loc} {w:World}: ∀(ps:List Tmp) (vs:List Value) {σ:St} {a:Act},σ.lo=0->wL σ.nt ps=true->R base w0 S0 σ kn di a w->
 R base w0 S0 (Abs.qR ps vs σ) kn di { a with tmps:=(ps.zip vs).foldl (fun t (pv:Tmp×Value)=>t.setIfInBounds pv.1 pv.2) a.tmps } w
 |[],_,σ,a,_,_,r=>r
 |p::ps,[],σ,a,_,_,r=>r
 |p::ps,v::vs,σ,a,j5,h,r=>by
  simp only [wL] at h
  cases hp:Nat.blt p σ.nt with
  |false=>simp [hp] at h
  |true=>
   simp only [hp,ao] at h
   exact R.qR ps vs (σ:=σ.put p (.val v)) (a:=a.put (some p) v) j5 h (r.put (aC hp) (by rw [j5];exact aq _) (.val v))
theorem R.zL {kn:Nat->Prop} {di:Nat->Option Loc} {w:World}: ∀(l:List (Tmp×Tmp)) {σ:St} {a:Act},σ.lo=0->sQ σ.nt l=true->R base w0 S0 σ kn di a w->R base w0 S0 (zi l σ) kn di (rq l a) w
 |[],σ,a,_,_,r=>r
 |(d,s)::l,σ,a,j5,h,r=>by
  simp only [sQ] at h
  cases hp:Nat.blt d σ.nt with
  |false=>simp [hp] at h
  |true=>
   simp only [hp,ao] at h
   exact R.zL l (σ:=σ.put d (σ.get s)) (a:=a.put (some d) (a.tmps.getD s undef)) j5 h (r.put (aC hp) (by rw [j5];exact aq _) (r.tmps s))
theorem Io: ∀(ps:List Tmp) (vs:List Value) (σ:St),(Abs.qR ps vs σ).nt=σ.nt
 |[],_,_=>rfl
 |_::_,[],_=>rfl
 |_::ps,_::vs,σ=>Io ps vs _
theorem BF: ∀(ps:List Tmp) (vs:List Value) (σ:St),(Abs.qR ps vs σ).nx=σ.nx
 |[],_,_=>rfl
 |_::_,[],_=>rfl
 |_::ps,_::vs,σ=>BF ps vs _
theorem Ip: ∀(ps:List Tmp) (vs:List Value) (σ:St),(Abs.qR ps vs σ).lo=σ.lo
 |[],_,_=>rfl
 |_::_,[],_=>rfl
 |_::ps,_::vs,σ=>Ip ps vs _
theorem Ak: ∀(l:List (Tmp×Tmp)) (σ:St),(zi l σ).nx=σ.nx
 |[],_=>rfl
 |(_,_)::l,σ=>Ak l _
theorem tV {σ:St} {t:Nat}: ∀{l:List Nat},t∈l->look (qO σ l) t=some (σ.get t)
 |x::l,h=>by
  simp only [qO,dG]
  by_cases e:x=t
  ·rw [ag e,e]
  ·rw [ab e];exact tV ((aR.1 h).resolve_left fun e'=>e e'.symm)
theorem nf {σ:St} {t:Nat} {d:DV}: ∀{l:List Nat},look (qO σ l) t=some d->t∈l/\d=σ.get t
 |[],h=>by simp [qO,look] at h
 |x::l,h=>by
  simp only [qO,dG] at h
  by_cases e:x=t
  ·rw [ag e] at h
   exact ⟨by rw [e];exact ax,by rw [<-e];exact (bc h).symm⟩
  ·rw [ab e] at h
   obtain ⟨h1,h2⟩:=nf h
   exact ⟨ay _ h1,h2⟩
def rngK (P:Program) (A:eA) (C:nG) (σ:St) (id:Nat) (q:List Nat×Nat) (K:Exit->St->VT):Exit->St->VT:=fun e σ'=>match e with
 |.normal=> .done (C.at σ (iT C σ σ') (q.1++[q.2])++[C.inv σ (q.1++[q.2])])
 |.ret=>K .ret (iT C σ σ')
 |.exit j=>bif Nat.beq j id then K .normal (iT C σ σ') else K (.exit j) (iT C σ σ')
 |_=> .done [False]
theorem Dt {ρ:Ren} {σ:St} {b:Bool}: ∀(l:List (Nat×DV)),xf ρ { σ with rn:=b } l=xf ρ σ l
 |[]=>rfl
 |(t,d)::r=>by
  simp only [xf]
  rw [Dt r]
  rfl
theorem Dp {ρ:Ren} {σ σ':St} {b c:Bool}:pL ρ { σ with rn:=b } { σ' with rn:=c }=pL ρ σ σ':=by
 unfold pL
 rw [Dt]
 rfl
theorem iu.rd {w:World} {rd gF:Rd} {kn:Nat->Prop} {di:Nat->Option Loc} {l:Option Loc} {o:fF} (hm: ∀a u,rd a u->gF a u) (h:iu w rd kn di l o):iu w gF kn di l o:=by
 have rel: ∀{d v},Rel rd kn di d v->Rel gF kn di d v:=fun h=>h.mono hm (fun _ h=>h) fun _ _ _ h=>⟨_,h,rfl⟩
 have tL: ∀{d v},dA rd d v->dA gF d v:=fun h=>h.mono hm (fun _ h=>h) fun _ _ h=>h.elim
 cases o with
 |box cs=>
  obtain ⟨g,C,cv,T,hl,hh,hs,hr,h1⟩:=h
  exact ⟨g,C,cv,T,hl,hh,hs,fun j d u a b=>rel (hr j d u a b),h1⟩
 |row n dp=>
  rcases h with ⟨hl,hn⟩|⟨g,C,cv,T,hl,hh,hs,hn,hr⟩
  ·exact .inl ⟨hl,hn⟩
  ·exact .inr ⟨g,C,cv,T,hl,hh,hs,hn,fun i j f a b=>let ⟨u,e,o,q⟩:=hr i j f a b;⟨u,e,o,tL q⟩⟩
 |pR n dp=>
  rcases h with ⟨hl,hn⟩|⟨g,o,C,cv,T,hl,hh,hs,hn,hr⟩
  ·exact .inl ⟨hl,hn⟩
  ·exact .inr ⟨g,o,C,cv,T,hl,hh,hs,hn,fun i j f a b=>let ⟨u,e,o,q⟩:=hr i j f a b;⟨u,e,o,tL q⟩⟩
 |map ks has eQ qY=>
  obtain ⟨g,es,clock,hl,hh,hM,mh,nV⟩:=h
  exact ⟨g,es,clock,hl,hh,hM.mono tL,mh,nV⟩
 |np ks len eQ qY sV=>
  obtain ⟨g,bs,es,clock,hl,hh,hG,rV,nV⟩:=h
  exact ⟨g,bs,es,clock,hl,hh,hG.mono tL (fun _ _=>rfl),rV,nV⟩
 |jc n s len eQ sV=>
  obtain ⟨g,C,bs,cv,T,hl,hh,eW,NT,hG,rV⟩:=h
  exact ⟨g,C,bs,cv,T,hl,hh,eW,NT,hG.mono tL (fun _ _=>rfl),rV⟩
 |tok=>exact h
 |exact g o=>exact h
def Env.round (S0:Env) (B:Nat):Env:={ S0 with wb:=some B }
theorem R.inRound {S0:Env} {σ:St} {kn:Nat->Prop} {di:Nat->Option Loc} {a:Act} {w:World} (r:R base w0 S0 σ kn di a w):R base w0 (S0.round w.heap.size) { σ with rn:=true } kn di a w:=by
 have hm: ∀ad u,dq w base S0 di ad u->dq w base (S0.round w.heap.size) di ad u:=fun ad u ⟨x,y,z,_⟩=>⟨x,y,z,fun B hB _=>by cases hB;exact gD x⟩
 have rel: ∀{d v},Rel (dq w base S0 di) kn di d v->Rel (dq w base (S0.round w.heap.size) di) kn di d v:=fun h=>h.mono hm (fun _ h=>h) fun _ _ _ h=>⟨_,h,rfl⟩
 exact ⟨r.below,r.xs,r.fv,r.qD,⟨r.nM.1,fun B hB=>⟨r.nM.1,fun k o hBk ho _=>by
  cases hB
  have:=ef ho;have:=r.nM.1;have h3:S0.wr.heap.size<=w.heap.size:=r.nM.1
  exact absurd (ef ho) (by show ¬k<S0.wr.heap.size;omega)⟩,r.nM.2.2⟩,fun _=>rfl,fun B hB id g bs e=>by cases hB;exact (r.ge id _ g e (.inl rfl)).2,fun d v h=>rel (r.yk d v h),r.size,fun t=>rel (r.tmps t),fun id o h=>⟨(r.eC id o h).1,(r.eC id o h).2.rd hm⟩,r.inj,r.ge,r.live,r.yr⟩
theorem Fits.inRound {S0:Env} {σ:St} {a:Act} {w:World} (hf:Fits base w0 S0 σ a w):Fits base w0 (S0.round w.heap.size) { σ with rn:=true } a w:=
 let ⟨_,_,r,hk⟩:=hf
 ⟨_,_,r.inRound,hk⟩
theorem Fits.vr {S0:Env} {B:Nat} {σ:St} {a:Act} {w:World} (rQ:S0.wb=none) (b:Bool) (hf:Fits base w0 (S0.round B) σ a w):Fits base w0 S0 { σ with rn:=b } a w:=by
 obtain ⟨kn,di,r,hk⟩:=hf
 have hm: ∀ad u,dq w base (S0.round B) di ad u->dq w base S0 di ad u:=fun ad u ⟨x,y,z,_⟩=>⟨x,y,z,fun B hB=>by rw [rQ] at hB;cases hB⟩
 have rel: ∀{d v},Rel (dq w base (S0.round B) di) kn di d v->Rel (dq w base S0 di) kn di d v:=fun h=>h.mono hm (fun _ h=>h) fun _ _ _ h=>⟨_,h,rfl⟩
 exact ⟨kn,di,⟨r.below,r.xs,r.fv,r.qD,⟨r.nM.1,(fun B hB=>by rw [rQ] at hB;cases hB),r.nM.2.2⟩,(fun h=>absurd rQ h),(fun B hB=>by rw [rQ] at hB;cases hB),fun d v h=>rel (r.yk d v h),r.size,fun t=>rel (r.tmps t),fun id o h=>⟨(r.eC id o h).1,(r.eC id o h).2.rd hm⟩,r.inj,r.ge,r.live,r.yr⟩,hk⟩
def rngI (base:Nat) (w0:World) (S1:Env) (C:nG) (σ:St) (a:Act) (pre:List { x:Nat//x<C.N }) (W:World):Prop:=C.inv σ (pre.map (·.1))/\Fits base w0 S1 { C.st σ (pre.map (·.1)) with rn:=true } a W
theorem G1 {C:nG} {σ:St} {a:Act} {w:World} {id:Nat} {g:Operand} {ps:Array Tmp} {zL body:Code} {gf:FuncId} {kj:List DV} {l:List (Tmp×Tmp)} {K:Exit->St->VT} {Q:Exit->Act->World->Prop}
 (htrk:trk=false) (O6:1<=m) (sY:S0.sh=[]) (rQ:S0.wb=none) (j5:σ.lo=0) (UK:σ.ev g= .jt gf kj) (ZJ:Em zL=some l) (vM:fB A body=true) (oq:DV.closed.go kj=true) (Mq:RG C.keep g=true)
 (Rq:sQ σ.nt l=true) (D2:wL σ.nt ps.toList=true) (A6:FN P gf kj C.N C.enc) (hlen: ∀k,k<C.N->(C.enc k).length=ps.size) (rW:dw (C.at σ σ [])) (A7:C.inv σ [])
 (Ks:C.inv σ (List.range C.N)->(K .normal (C.st σ (List.range C.N))).holds)
 (hround: ∀q:List Nat×Nat,(C.inv σ q.1/\q.2<C.N/\q.1.length<C.N/\ ∀y∈q.1,y<C.N)->(evalCode P A body (zj C σ ps.toList l q.1 q.2) (rngK P A C σ id q K)).holds)
 (ih: ∀ro m base w0 S0,mM P A ro m base w0 S0 body) (hf:Fits base w0 S0 σ a w) (hK: ∀e σ',(K e σ').holds-> ∀a w,Fits base w0 S0 σ' a w->Q e a w):
 (Code.block id (.rangeFunc g ps zL body)).wpIn (FW none) m P Q a w:=by
 have hf0:=hf
 obtain ⟨kn,di,r,hk⟩:=hf
 -- the closure
 have iH:=r.ev g
 rw [UK] at iH
 obtain ⟨lb,wX,Zr,Zs⟩: ∃lb:Array Value,a.eval g= .func (.func gf) #[] lb/\lb.size=kj.length/\ ∀(j:Nat) (d:DV) (v:Value),kj[j]? =some d->lb[j]? =some v->Rel (dq w base S0 di) kn di d v:=by
  generalize hg:a.eval g=v at iH
  cases iH with
  |jt hs hr=>exact ⟨_,rfl,hs,hr⟩
 have D4: ∀{τ:St} {W W':World} {row:Option Nat},Fits base w0 (S0.round w.heap.size) τ a W->W.grownBy W' row->(∀k,row=some k->w.heap.size<=k/\ ∃o:Obj,W.heap[k]? =some o/\o.isCells=false)->Fits base w0 (S0.round w.heap.size) τ a W':=by
  intro τ W W' row ⟨eV,du,r',kE⟩ hg hr
  refine ⟨eV,du,r'.grown hg (fun k e=> ?_) (fun h=>by rw [htrk] at h;cases h),kE⟩
  obtain ⟨h1,h2⟩:=hr k e
  refine ⟨aV r.fv h1,.inl ⟨_,rfl,h1⟩,aV r.nM.1 h1,h2,fun d hd e2=> ?_⟩
  obtain ⟨D,e3,_,hh⟩:=r.qD.2 d hd
  rw [e3] at e2
  have:D=k:=by cases e2;rfl
  have:=ef hh
  omega
 have marked: ∀{τ:St} {W:World} {D:Nat},w.heap.size<=D->Fits base w0 S0 τ a W->W.heap[D]? =some (.deferred (some []))->Fits base w0 S0 τ { a with defers:={ target:= .collected D,args:= #[] }::a.defers } W:=by
  intro τ W D hD ⟨eV,du,r',kE⟩ hh
  refine ⟨eV,du,⟨r'.below,r'.xs,r'.fv,⟨⟨cY.2 ⟨fun hm=> ?_,r'.qD.1.1⟩,fun h=>by rw [sY] at h;cases h⟩,fun d hd=> ?_⟩,r'.nM,r'.J2,r'.lh,r'.yk,r'.size,r'.tmps,r'.eC,r'.inj,r'.ge,r'.live,r'.yr⟩,kE⟩
  ·obtain ⟨D',e,_,h'⟩:=r.qD.2 _ hm
   have:D=D':=by cases e;rfl
   have:=ef h'
   omega
  ·rcases aR.1 hd with rfl|hd
   ·exact ⟨D,rfl,aV r.fv hD,hh⟩
   ·exact r'.qD.2 d hd
 -- a round's end, told for the frame ahead of the rounds
 have T9: ∀{W W':World} {σ':St} {a':Act},(∃τ:List Nat,Fits base w0 (S0.round w.heap.size) { C.st σ τ with rn:=true } a W)->Fits base w0 { S0.round w.heap.size with sh:=C.keep.map fun t=>(σ.get t,a.tmps.getD t undef),wr:=W } σ' a' W'->Fits base w0 (S0.round w.heap.size) { iT C σ σ' with rn:=true } a W':=by
  intro W W' σ' a' ⟨τ,Ur,xR,r1,_⟩ ⟨QL,oN,r2,oo⟩
  refine ⟨QL,oN,⟨r2.below,r2.xs,r2.fv,⟨r.qD.1,fun d hd=> ?_⟩,⟨aV r1.nM.1 r2.nM.1,fun B hB=>(r1.nM.2.1 B hB).trans (r2.nM.2.1 B hB),fun k o h1 h2 h3=>r2.nM.2.2 k o (r1.nM.2.2 k o h1 h2 h3) h2 h3⟩,fun _=>rfl,r2.lh,fun d v h=>r2.yk d v (aP _ (by
   have h:(d,v)∈SL++S0.sh:=h
   rw [sY,List.append_nil] at h;exact h)),r.size,fun t=> ?_,r2.eC,r2.inj,r2.ge,r2.live,fun t ht=>by
    have ht:t<σ.lo:=ht
    omega⟩,oo⟩
  ·obtain ⟨D,e,hD,hh⟩:=r1.qD.2 d hd
   exact ⟨D,e,hD,r2.nM.2.2 D _ hh rfl tt⟩
  ·unfold St.get iT
   cases hl:look (qO σ C.keep) t with
   |none=>exact .any _
   |some d=>
    obtain ⟨h1,rfl⟩:=nf hl
    exact r2.yk _ _ (aU _ (bf.2 ⟨t,h1,rfl⟩))
 have start:Fits base w0 (S0.round w.heap.size) { C.st σ [] with rn:=true } a w:=(weaken sY (fun h=>absurd rQ h) rW hf0).inRound
 have rdA: ∀{W:World} {S1:Env} {di:Nat->Option Loc} (ad:Addr) (u:Value),S1.wb=some w.heap.size->dq W base S1 di ad u->iN W w.heap.size ad u:=fun ad u hB h=>⟨h.1,fun hm=>h.2.2.2 _ hB hm⟩
 refine wpIn_block (wpIn_rangeFunc_ownG (α:={ x:Nat//x<C.N }) rfl O6 wX trivial (fun args w=>mL A6.1 w) (A6.2 (m - 1) lb w Zr (fun j d v h1 h2=> ?_) (r.uk.mono fun ad u h=>⟨h.1,fun _=>gD h.1⟩)) (fun h1 h2=>⟨fun j d v e1 e2 hr=>h2.1 j d v e1 e2 (h1.1 j d v e1 e2 hr),fun h=>h2.2 (h1.2 h)⟩) (fun W lc o o' UG ho hc _=> ?_)
  (Go.RowKit.Below.refl _ _) (fun x=>by simpa using hlen x.1 x.2)
  (rngI base w0 (S0.round w.heap.size) C σ a)
  (fun c _ W=> ∃σo,Fits base w0 (S0.round w.heap.size) { σo with rn:=true } a W/\σo.rn=σ.rn/\((c= .ret/\(K .ret σo).holds)\/ ∃j,c= .exit j/\((bif Nat.beq j id then K .normal σo else K (.exit j) σo)).holds))
  (fun pre W W' row h hg hr=>⟨h.1,D4 h.2 hg hr⟩)
  (fun c pre W W' row hs hg hr=>by obtain ⟨σo,i1,i2⟩:=hs;exact ⟨σo,D4 i1 hg hr,i2⟩)
  ⟨A7,start⟩ (fun x=>rq l { tmps:=(ps.zip (C.enc x.1).toArray).foldl (fun t (pv:Tmp×Value)=>t.setIfInBounds pv.1 pv.2) a.tmps,defers:=[] })
  (fun lr x W K' kE=>Oz zL ZJ kE) (fun lr pre x W ⟨i1,i2⟩ hl=> ?_) (fun D xs W hD hS ⟨i1,i2⟩ hh=> ?_) (fun D c pre W hD _ ⟨σo,i1,Zg,i2⟩ hh=> ?_))
 ·exact ((Zs j d v h1 h2).close (fH oq d (aD h1))).mono (fun _ _ h=>⟨h.1,fun _=>gD h.1⟩) (fun _ h=>h) fun _ _ h=>h.elim
 ·-- the law's own book-keeping turns no cell and no map that may be read
  have keep: ∀ad u,iN W w.heap.size ad u->iN (W.putObj lc o') w.heap.size ad u:=fun ad u ⟨h1,h2⟩=>by
   have hb:(W.putObj lc o').heap[ad.block]? =W.heap[ad.block]? :=by
    refine (grownBy_putObj' W lc o').block _ (gD h1) (fun e=> ?_)
    cases e
    rcases h1 with h1|⟨es,c,h1,_⟩|⟨cs,T,fr,h1,_⟩
    ·obtain ⟨x,hx,hxc⟩:=cells_of_cell h1.1
     rw [ho] at hx;cases hx;rw [hc] at hxc;cases hxc
    ·have:=h2 (.mk h1);omega
    ·rw [ho] at h1;cases h1;cases hc
   exact ⟨tN hb h1,fun hm=>h2 (qo hb hm)⟩
  exact ⟨fun j d v e1 e2 hr=>hr.mono keep (fun _ h=>h) fun _ _ h=>h.elim,fun Wn=>Wn.mono keep⟩
 ·-- a round
  obtain ⟨Ur,xR,r1,uf⟩:=i2
  have jq: ∀y∈pre.map (·.1),y<C.N:=fun y hy=>by
   obtain ⟨z,_,rfl⟩:=bf.1 hy
   exact z.2
  have hv:=hround (pre.map (·.1),x.1) ⟨i1,x.2,by simpa using hl,jq⟩
  have rs:R base w0 { S0.round w.heap.size with sh:=C.keep.map fun t=>(σ.get t,a.tmps.getD t undef),wr:=W } { C.st σ (pre.map (·.1)) with rn:=true } Ur xR { a with defers:=[] } W:=
   ⟨r1.below,r1.xs,r1.fv,⟨by simp,fun d hd=>by cases hd⟩,⟨ae _,fun B _=>KeepsFrom.refl _ _,fun k o h _ _=>h⟩,fun _=>rfl,r1.lh,fun d v h=>by
     rcases aO.1 h with h|h
     ·exact r1.yk d v (aP _ h)
     obtain ⟨t,h1,h2⟩:=bf.1 h
     cases h2
     have:=r1.tmps t
     have e:St.get { C.st σ (pre.map (·.1)) with rn:=true } t=σ.get t:=by
      show (match look (qO σ C.keep) t with|some d=>d|none=>DV.any)=_
      rw [tV h1]
     rw [e] at this
     exact this,r1.size,r1.tmps,r1.eC,r1.inj,r1.ge,r1.live,r1.yr⟩
  have ra:=R.zL l (by rw [Ip];exact j5) (by rw [Io];exact Rq) (R.qR (σ:={ C.st σ (pre.map (·.1)) with rn:=true }) ps.toList (C.enc x.1) j5 D2 rs)
  have ea:({ tmps:=(ps.toList.zip (C.enc x.1)).foldl (fun t (pv:Tmp×Value)=>t.setIfInBounds pv.1 pv.2) a.tmps,defers:=[] }:Act)={ tmps:=(ps.zip (C.enc x.1).toArray).foldl (fun t (pv:Tmp×Value)=>t.setIfInBounds pv.1 pv.2) a.tmps,defers:=[] }:=by
   rw [<-Array.foldl_toList,Array.toList_zip]
  refine ih (some lr) (m - 1 - 1) base w0 { S0.round w.heap.size with sh:=C.keep.map fun t=>(σ.get t,a.tmps.getD t undef),wr:=W } (.inr vM) _ _ _ hv (fun e σ' hh a' w' ll=> ?_) _ _ ⟨Ur,xR,?_,fun i hi=> ?_⟩
  ·have qs:=T9 ⟨_,Ur,xR,r1,uf⟩ ll
   have fA:KeepsFrom w.heap.size W w':=by obtain ⟨_,_,r2,_⟩:=ll;exact r2.nM.2.1 _ rfl
   cases e with
   |normal=>
    obtain ⟨k1,k2⟩:=dw.app (dC.all hh)
    refine ⟨fA,⟨fun j d v e1 e2 _=> ?_,fun _=>(by obtain ⟨_,_,r2,_⟩:=ll;exact r2.uk.mono fun ad u h=>rdA ad u rfl h)⟩,?_⟩
    ·obtain ⟨QL,oN,r2,_⟩:=ll
     cases g with
     |tmp tg=>
      have ht:tg∈C.keep:=by
       obtain ⟨z,hz,QZ⟩:=List.any_eq_true.1 Mq
       rw [af QZ];exact hz
      have hs:=r2.yk _ _ (aU _ (bf.2 ⟨tg,ht,rfl⟩))
      have e3:σ.get tg= .jt gf kj:=UK
      have e4:a.tmps.getD tg undef= .func (.func gf) #[] lb:=wX
      rw [e3,e4] at hs
      cases hs with
      |jt Q7 hr2=>exact ((hr2 j d v e1 e2).close (fH oq d (aD e1))).mono (fun ad u h=>rdA ad u rfl h) (fun _ h=>h) fun _ _ h=>h.elim
     |_=>cases Mq
    ·have em:(pre++[x]).map (·.1)=pre.map (·.1)++[x.1]:=by simp
     have q:C.inv σ (pre.map (·.1)++[x.1])/\Fits base w0 (S0.round w.heap.size) { C.st σ (pre.map (·.1)++[x.1]) with rn:=true } a w':=⟨k2.one,weaken (ρ:=C.note.rn σ (iT C σ σ') (pre.map (·.1)++[x.1])) (σ:={ iT C σ σ' with rn:=true }) (σ':={ C.st σ (pre.map (·.1)++[x.1]) with rn:=true }) sY (fun _=>rfl) (by rw [Dp];exact k1) qs⟩
     rw [<-em] at q
     exact q
   |ret=>exact ⟨fA,_,qs,rfl,.inl ⟨rfl,hh⟩⟩
   |exit j=>exact ⟨fA,_,qs,rfl,.inr ⟨j,rfl,hh⟩⟩
   |_=>exact hh.elim
  ·rw [ea] at ra;exact ra
  ·have:=uf i hi
   show i<(zj C σ ps.toList l (pre.map (·.1)) x.1).nx
   unfold zj
   rw [Ak,BF]
   exact this
 ·have hS':xs.map (·.1)=List.range C.N:=hS
  rw [hS'] at i1 i2
  exact hK _ _ (Ks i1) _ _ (marked hD (i2.vr rQ σ.rn) hh)
 ·have i1':Fits base w0 S0 σo a W:=by
   have:=i1.vr rQ σ.rn
   rw [<-Zg] at this
   exact this
  have ZB:=marked hD i1' hh
  rcases i2 with ⟨rfl,h2⟩|⟨j,rfl,h2⟩
  ·exact wpIn_ret (hK _ _ h2 _ _ ZB)
  ·refine wpIn_exit ?_
   simp only [Exit.inBlock]
   cases hb:Nat.beq j id with
   |true=>
    simp only [hb,ao] at h2
    rw [ag (af hb)]
    exact hK _ _ h2 _ _ ZB
   |false=>
    simp only [hb,ar] at h2
    rw [ab (fun e=>by rw [e] at hb;simp at hb)]
    exact hK _ _ h2 _ _ ZB
theorem R.under {σ:St} {kn:Nat->Prop} {di:Nat->Option Loc} {a:Act} {w w':World} (r:R base w0 S0 σ kn di a w) (hb:Below w.heap.size w w'):R base w0 S0 σ kn di a w':=
 r.step (eV:=kn) (du:=di) (fun _=>False) (fun _=>False) hb.size hb.os hb.tape hb.output (fun k hk _=>hb.block k hk) (fun _ h=>h.elim) (fun _ h=>h) (fun _ _=>rfl) (fun _ _ h=>h.elim) (fun _ _ _ h=>h.elim) (fun _ _ h=>h.elim) rfl rfl rfl (fun _=>rfl) (fun _ _=>rfl)
  (fun _ _ _ _ _ h=>h.elim) (fun _ _ h=>h.elim) (fun _ _ _ _ _ h=>h.elim) (fun _ _ _ _ _ h=>h.elim) hb.drawn
def VH (C:nG) (σ:St) (id:Nat) (x:Nat) (K:Exit->St->VT):Exit->St->VT:=fun e σ'=>match e with
 |.normal=> .done (C.at σ (iT C σ σ') [x+1]++[C.inv σ [x+1]])
 |.ret=>K .ret (iT C σ σ')
 |.exit j=>bif Nat.beq j id then K .normal (iT C σ σ') else K (.exit j) (iT C σ σ')
 |_=> .done [False]
def rngKA (P:Program) (A:eA) (body:Code) (K:Exit->St->VT):Exit->St->VT:=fun e σ1=>match e with
 |.normal=>evalCode P A body σ1 K
 |_=> .done [False]
def My (F:Nat->Prop) (di:Nat->Option Loc) (W:World):Prop:= ∀k,F k->k<W.heap.size/\ ∀id l,di id=some l-> ¬l.has k
def rngIB (base:Nat) (w0:World) (S1:Env) (n0:Nat) (C:nG) (σ:St) (a:Act) (x:Nat) (F:Nat->Prop) (W:World):Prop:=
 C.inv σ [x]/\n0<=W.heap.size/\ ∃kn di,R base w0 S1 { C.st σ [x] with rn:=true } kn di a W/\(∀i,kn i->i<(C.st σ [x]).nx)/\My F di W
theorem Ql {S1:Env} {τ:St} {kn:Nat->Prop} {di:Nat->Option Loc} {a1:Act} {W:World} {c:Code} {F:Nat->Prop} {B:Nat} {lr:Nat} {K:Exit->St->VT} {Q:Exit->Act->World->Prop}
 (qW:ndF∈S1.sh) (rQ:S1.wb=some B) (vM:fB A c=true) (ih: ∀ro m base w0 S0,mM P A ro m base w0 S0 c) (h:(evalCode P A c τ K).holds) (r1:R base w0 S1 τ kn di a1 W) (uf: ∀i,kn i->i<τ.nx) (hF:My F di W)
 (hQ: ∀e σ' a' W' eV du,(K e σ').holds->R base w0 S1 σ' eV du a' W'->(∀i,eV i->i<σ'.nx)->KeepsFrom B W W'->om F W W'->My F du W'->(∀k,k<W.heap.size->(∀id l,di id=some l-> ¬l.has k)->W'.heap[k]? =W.heap[k]?)->Q e a' W'):c.wpIn (FW (some lr)) m P Q a1 W:=by
 obtain ⟨S2,Wt⟩: ∃S2:Env,S2={ S:=fun k=>S1.S k\/base<=k,sh:=S1.sh,wr:=W,wb:=S1.wb,X:=fun k=> ∃id l,di id=some l/\l.has k,pv:=S1.pv }:=⟨_,rfl⟩
 have hm1': ∀{V:World} {b:Nat->Option Loc} (ad:Addr) (u:Value),dq V base S1 b ad u->dq V W.heap.size S2 b ad u:=fun ad u ⟨x,y,z,q⟩=>by subst Wt;exact ⟨x,y,.inl z,q⟩
 have Rh: ∀{V:World} {b:Nat->Option Loc} (ad:Addr) (u:Value),dq V W.heap.size S2 b ad u->dq V base S1 b ad u:=fun ad u ⟨x,y,z,q⟩=>by
  subst Wt
  exact ⟨x,y,z.elim (fun h=>h) fun h=> .inr (aV r1.fv h),q⟩
 have Np: ∀{V:World} {k:Nat->Prop} {b:Nat->Option Loc} {d v},Rel (dq V base S1 b) k b d v->Rel (dq V W.heap.size S2 b) k b d v:=fun h=>h.mono hm1' (fun _ h=>h) fun _ _ _ h=>⟨_,h,rfl⟩
 have EJ: ∀{V:World} {k:Nat->Prop} {b:Nat->Option Loc} {d v},Rel (dq V W.heap.size S2 b) k b d v->Rel (dq V base S1 b) k b d v:=fun h=>h.mono Rh (fun _ h=>h) fun _ _ _ h=>⟨_,h,rfl⟩
 have Zd:S2.sh=S1.sh:=by subst Wt;rfl
 have NO:S2.wb=S1.wb:=by subst Wt;rfl
 have hpv2:S2.pv=S1.pv:=by subst Wt;rfl
 have hwr:S2.wr=W:=by subst Wt;rfl
 have hX: ∀k,(∃id l,di id=some l/\l.has k)↔S2.X k:=fun k=>by subst Wt;exact Iff.rfl
 have hdf:=r1.qD.1.2 qW
 have rs:R W.heap.size W S2 τ kn di a1 W:=
  ⟨gM.refl _ _ _,(by subst Wt;exact fun k ⟨id,l,e,h⟩=>(r1.ge id l k e h).1.elim .inr fun h=> .inl (r1.xs _ h)),ae _,⟨by rw [hdf];exact ⟨List.nodup_nil,fun _=>rfl⟩,fun d hd=>by rw [hdf] at hd;cases hd⟩,(by rw [hwr];exact ⟨ae _,fun B _=>KeepsFrom.refl _ _,fun k o h _ _=>h⟩),fun h=>r1.J2 (by rw [<-NO];exact h),(by rw [NO];exact r1.lh),fun d v h=>Np (r1.yk d v (by rw [<-Zd];exact h)),r1.size,fun t=>Np (r1.tmps t),fun id o h=>⟨(r1.eC id o h).1,(r1.eC id o h).2.rd hm1'⟩,r1.inj,fun id l g e h=>⟨.inr ((hX g).1 ⟨id,l,e,h⟩),(r1.ge id l g e h).2⟩,r1.live,(by rw [hpv2];exact r1.yr)⟩
 refine ih (some lr) m W.heap.size W S2 (.inr vM) _ _ _ h (fun e σ' hh a' w' ll=> ?_) _ _ ⟨kn,di,rs,uf⟩
 obtain ⟨QL,oN,r2,oo⟩:=ll
 have hdf2:=r2.qD.1.2 (by rw [Zd];exact qW)
 refine hQ e σ' a' w' QL oN hh ?_ oo (by have:=r2.nM.2.1 B (by rw [NO];exact rQ);rw [hwr] at this;exact this) ⟨r2.fv,fun k hk=>⟨(hF k hk).1,r2.below.block k (hF k hk).1 fun h=> ?_⟩⟩ (fun k hk=>⟨bt (hF k hk).1 r2.fv,fun id l e h=> ?_⟩) fun k hk hn=>r2.below.block k hk fun h=>by
  obtain ⟨i,l,e,h⟩:=(hX k).2 h
  exact hn i l e h
 ·refine ⟨r1.below.trans ⟨r2.below.os,r2.below.tape,r2.below.output,r2.below.size,fun k kE hx=>r2.below.block k (bt kE r1.fv) fun h=> ?_,r2.below.drawn⟩,r1.xs,aV r1.fv r2.fv,⟨by rw [hdf2];exact ⟨List.nodup_nil,fun _=>rfl⟩,fun d hd=>by rw [hdf2] at hd;cases hd⟩,⟨aV r1.nM.1 r2.fv,fun B hB=>(r1.nM.2.1 B hB).trans (by have:=r2.nM.2.1 B (by rw [NO];exact hB);rw [hwr] at this;exact this),fun k o h1 h2 h3=>r2.nM.2.2 k o (by rw [hwr];exact r1.nM.2.2 k o h1 h2 h3) h2 h3⟩,fun h=>r2.J2 (by rw [NO];exact h),(by rw [<-NO];exact r2.lh),fun d v h=>EJ (r2.yk d v (by rw [Zd];exact h)),r2.size,fun t=>EJ (r2.tmps t),fun id o h=>⟨(r2.eC id o h).1,(r2.eC id o h).2.rd Rh⟩,r2.inj,fun id l g e h=>⟨?_,(r2.ge id l g e h).2⟩,r2.live,(by rw [<-hpv2];exact r2.yr)⟩
  ·obtain ⟨i,l,e,h⟩:=(hX k).2 h
   rcases (r1.ge i l k e h).1 with h'|h'
   ·omega
   ·exact hx h'
  ·rcases (r2.ge id l g e h).1 with h'|h'
   ·exact .inl (aV r1.fv h')
   ·obtain ⟨i,l',e',h2⟩:=(hX g).2 h'
    exact (r1.ge i l' g e' h2).1
 ·obtain ⟨i,l,e,h⟩:=(hX k).2 h
  exact (hF k hk).2 i l e h
 ·rcases (r2.ge id l k e h).1 with h'|h'
  ·have:=(hF k hk).1;omega
  ·obtain ⟨i,l',e',h2⟩:=(hX k).2 h'
   exact (hF k hk).2 i l' e' h2
theorem EM {C:nG} {σ:St} {a:Act} {w:World} {id:Nat} {g:Operand} {ps:Array Tmp} {zL body:Code} {gf:FuncId} {fs:List DV} {K:Exit->St->VT} {Q:Exit->Act->World->Prop}
 (O6:1<=m) (sY:S0.sh=[]) (rQ:S0.wb=none) (j5:σ.lo=0) (ZH:σ.ev g= .oB gf fs) (Ko:fB A zL=true) (vM:fB A body=true) (oq:DV.closed.go fs=true)
 (D2:wL σ.nt ps.toList=true) (A6:SeqB P gf fs C.N C.enc) (hlen: ∀k,k<C.N->(C.enc k).length=ps.size) (rW:dw (C.at σ σ [0])) (A7:C.inv σ [0])
 (Ks:C.inv σ [C.N]->(K .normal (C.st σ [C.N])).holds)
 (hround: ∀x:Nat,(C.inv σ [x]/\x<C.N)->(evalCode P A zL (qR ps.toList (C.enc x) { C.st σ [x] with rn:=true }) (rngKA P A body (VH C σ id x K))).holds)
 (iha: ∀ro m base w0 S0,mM P A ro m base w0 S0 zL) (ih: ∀ro m base w0 S0,mM P A ro m base w0 S0 body) (hf:Fits base w0 S0 σ a w) (hK: ∀e σ',(K e σ').holds-> ∀a w,Fits base w0 S0 σ' a w->Q e a w):
 (Code.block id (.rangeFunc g ps zL body)).wpIn (FW none) m P Q a w:=by
 have hf0:=hf
 obtain ⟨kn,di,r,hk⟩:=hf
 have iH:=r.ev g
 rw [ZH] at iH
 obtain ⟨vs,wX,Zr,Zs⟩: ∃vs:Array Value,a.eval g= .func (.func gf) vs #[]/\vs.size=fs.length/\ ∀(j:Nat) (d:DV) (v:Value),fs[j]? =some d->vs[j]? =some v->Rel (dq w base S0 di) kn di d v:=by
  generalize hg:a.eval g=v at iH
  cases iH with
  |oB hs hr=>exact ⟨_,rfl,hs,hr⟩
 -- a record's block turns
 have Ku: ∀{S1:Env} {τ:St} {eV:Nat->Prop} {du:Nat->Option Loc} {a1:Act} {W:World} {k:Nat} {st P2:Loop},S1.wr=S0.wr->S1.wb=some w.heap.size->(∀d∈a1.defers,d∈a.defers)->R base w0 S1 τ eV du a1 W->w.heap.size<=k->W.heap[k]? =some (.loop st)->R base w0 S1 τ eV du a1 (W.putObj k (.loop P2)):=by
  intro S1 τ eV du a1 W k st P2 hwr hwb1 hdf r' kE ho
  refine r'.grown (grownBy_putObj' W k _) fun k2 e=> ?_
  cases e
  refine ⟨aV r.fv kE,.inl ⟨_,hwb1,kE⟩,by rw [hwr];exact aV r.nM.1 kE,⟨_,ho,rfl⟩,fun d hd e2=> ?_⟩
  obtain ⟨D,e3,_,hh⟩:=r.qD.2 d (hdf d hd)
  rw [e3] at e2
  have:D=k:=by cases e2;rfl
  have:=ef hh
  omega
 have marked: ∀{τ:St} {W:World} {D:Nat},w.heap.size<=D->Fits base w0 S0 τ a W->W.heap[D]? =some (.deferred (some []))->Fits base w0 S0 τ { a with defers:={ target:= .collected D,args:= #[] }::a.defers } W:=by
  intro τ W D hD ⟨eV,du,r',kE⟩ hh
  refine ⟨eV,du,⟨r'.below,r'.xs,r'.fv,⟨⟨cY.2 ⟨fun hm=> ?_,r'.qD.1.1⟩,fun h=>by rw [sY] at h;cases h⟩,fun d hd=> ?_⟩,r'.nM,r'.J2,r'.lh,r'.yk,r'.size,r'.tmps,r'.eC,r'.inj,r'.ge,r'.live,r'.yr⟩,kE⟩
  ·obtain ⟨D',e,_,h'⟩:=r.qD.2 _ hm
   have:D=D':=by cases e;rfl
   have:=ef h'
   omega
  ·rcases aR.1 hd with rfl|hd
   ·exact ⟨D,rfl,aV r.fv hD,hh⟩
   ·exact r'.qD.2 d hd
 -- who is in nobody's hands
 obtain ⟨Y3,Vl,r0,NW,hblk0⟩: ∃Y3 Vl,R base w0 (S0.round w.heap.size) { C.st σ [0] with rn:=true } Y3 Vl a w/\(∀i,Y3 i->i<(C.st σ [0]).nx)/\ ∀i l,Vl i=some l-> ∀g,l.has g-> ∃i' l',di i'=some l'/\l'.has g:=by
  obtain ⟨x1,x2⟩:=Eu sY (fun h=>absurd rQ h) rW r
  refine ⟨_,_,x1.inRound,x2,fun i l h g hg=> ?_⟩
  obtain ⟨b,_,hb⟩:=jU h hg
  exact ⟨b,l,hb,hg⟩
 have F0lt: ∀k,(k<w.heap.size/\ ∀id l,di id=some l-> ¬l.has k)->k<w.heap.size:=fun k h=>h.1
 have rdF0: ∀{W:World},Below w.heap.size w W-> ∀ad u,dq w base S0 di ad u->rdF (fun k=>k<w.heap.size/\ ∀id l,di id=some l-> ¬l.has k) W ad u:=fun hb ad u h=>⟨tN (hb.block _ (gD h.1)) h.1,gD h.1,h.2.1⟩
 -- the frame of the rounds
 obtain ⟨SR,Fi⟩: ∃SR:Env,SR={ S0.round w.heap.size with sh:=ndF::C.keep.map fun t=>(σ.get t,a.tmps.getD t undef) }:=⟨_,rfl⟩
 have RA:ndF∈SR.sh:=by rw [Fi];exact ax
 have Rz:SR.wb=some w.heap.size:=by rw [Fi];rfl
 have hSRwr:SR.wr=S0.wr:=by rw [Fi];rfl
 refine wpIn_block (Gw O6 wX (fun args w=>mL A6.1 w) F0lt (fun W hb=>A6.2 (m - 1) vs _ W Zr (fun j d v h1 h2=>((Zs j d v h1 h2).close (fH oq d (aD h1))).mono (rdF0 hb) (fun _ h=>h) fun _ _ h=>h.elim) (r.uk.mono (rdF0 hb))) hlen
  (rngIB base w0 (S0.round w.heap.size) w.heap.size C σ a)
  (fun c W=> ∃σo,Fits base w0 (S0.round w.heap.size) { σo with rn:=true } a W/\σo.rn=σ.rn/\((c= .ret/\(K .ret σo).holds)\/ ∃j,c= .exit j/\((bif Nat.beq j id then K .normal σo else K (.exit j) σo)).holds))
  (fun x F W ⟨_,h1,_,_,_,_,h2⟩=>⟨h1,fun k hk=>(h2 k hk).1⟩)
  (fun x F X Y ⟨i1,i2,eV,du,r',kE,hF⟩ hb=>⟨i1,aV i2 hb.size,eV,du,r'.under hb,kE,fun k hk=>hk.elim (fun h=>⟨bt (hF k h).1 hb.size,(hF k h).2⟩) fun ⟨h1,h2⟩=>⟨h2,fun id l e hl=>by have:=(r'.ge id l k e hl).2;omega⟩⟩)
  (fun x F W lc st P2 ⟨i1,i2,eV,du,r',kE,hF⟩ UG _ ho=>⟨i1,aV i2 (grownBy_putObj' W _ _).size,eV,du,Ku rfl rfl (fun _ h=>h) r' UG ho,kE,fun k hk=>⟨bt (hF k hk).1 (grownBy_putObj' W _ _).size,(hF k hk).2⟩⟩)
  (fun c X Y ⟨σo,⟨eV,du,r',kE⟩,i2⟩ hb=>⟨σo,⟨eV,du,r'.under hb,kE⟩,i2⟩)
  (fun c W lc st P2 ⟨σo,⟨eV,du,r',kE⟩,i2⟩ UG ho=>⟨σo,⟨eV,du,Ku rfl rfl (fun _ h=>h) r' UG ho,kE⟩,i2⟩)
  (fun W hb=>⟨A7,hb.size,Y3,Vl,r0.under hb,NW,fun k hk=>⟨bt hk.1 hb.size,fun i l h hg=>let ⟨i',l',h',nJ⟩:=hblk0 i l h k hg;hk.2 i' l' h' nJ⟩⟩)
  (fun x F a1 W=>w.heap.size<=W.heap.size/\(∀d∈a.defers,∃D,d={ target:= .collected D,args:= #[] }/\base<=D/\W.heap[D]? =some (.deferred (some [])))/\ ∃τ eV du,(evalCode P A body τ (VH C σ id x K)).holds/\R base w0 SR τ eV du a1 W/\(∀i,eV i->i<τ.nx)/\My F du W)
  (fun lr x F W ⟨i1,i2,Ur,xR,r1,uf,hF⟩ hl=> ?_)
  (fun x F a1 W lc st P2 ⟨i2,im,τ,eV,du,ht,r',kE,hF⟩ UG _ ho=>⟨aV i2 (grownBy_putObj' W _ _).size,(fun d hd=>let ⟨D,e,h1,h2⟩:=im d hd;⟨D,e,h1,(World.putObj_heap_other (fun e=>by rw [e] at h2;rw [h2] at ho;cases ho)).trans h2⟩),τ,eV,du,ht,Ku hSRwr Rz (fun d hd=>by rw [r'.qD.1.2 RA] at hd;cases hd) r' UG ho,kE,fun k hk=>⟨bt (hF k hk).1 (grownBy_putObj' W _ _).size,(hF k hk).2⟩⟩)
  (fun lr x F a1 W ⟨i2,im,τ,Ur,xR,ht,r1,uf,hF⟩ hl=> ?_) (fun D F W hD ⟨i1,_,eV,du,r',kE,_⟩ hh=> ?_) (fun D c W hD ⟨σo,i1,Zg,i2⟩ hh=> ?_))
 ·-- the round's own assignments
  have hv:=hround x ⟨i1,hl⟩
  have rs:R base w0 SR { C.st σ [x] with rn:=true } Ur xR { a with defers:=[] } W:=by
   have hS:SR.S=S0.S:=by rw [Fi];rfl
   have hm: ∀ad u,dq W base (S0.round w.heap.size) xR ad u->dq W base SR xR ad u:=by subst Fi;exact fun ad u h=>h
   have rel: ∀{d v},Rel (dq W base (S0.round w.heap.size) xR) Ur xR d v->Rel (dq W base SR xR) Ur xR d v:=fun h=>h.mono hm (fun _ h=>h) fun _ _ _ h=>⟨_,h,rfl⟩
   refine ⟨(by subst Fi;exact r1.below),(by subst Fi;exact r1.xs),r1.fv,⟨⟨List.nodup_nil,fun _=>rfl⟩,fun d hd=>by cases hd⟩,(by subst Fi;exact r1.nM),fun _=>rfl,(by subst Fi;exact r1.lh),fun d v h=> ?_,r1.size,fun t=>rel (r1.tmps t),fun id o h=>⟨(r1.eC id o h).1,(r1.eC id o h).2.rd hm⟩,r1.inj,(by subst Fi;exact r1.ge),r1.live,(by subst Fi;exact r1.yr)⟩
   have h:(d,v)∈SL++(ndF::C.keep.map fun t=>(σ.get t,a.tmps.getD t undef)):=by subst Fi;exact h
   rcases aO.1 h with h|h
   ·exact rel (r1.yk d v (aP _ h))
   rcases aR.1 h with h|h
   ·cases h;exact .any _
   obtain ⟨t,h1,h2⟩:=bf.1 h
   cases h2
   have:=r1.tmps t
   have e:St.get { C.st σ [x] with rn:=true } t=σ.get t:=by
    show (match look (qO σ C.keep) t with|some d=>d|none=>DV.any)=_
    rw [tV h1]
   rw [e] at this
   exact rel this
  have ra:=R.qR (σ:={ C.st σ [x] with rn:=true }) ps.toList (C.enc x) j5 D2 rs
  have ea:({ tmps:=(ps.toList.zip (C.enc x)).foldl (fun t (pv:Tmp×Value)=>t.setIfInBounds pv.1 pv.2) a.tmps,defers:=[] }:Act)={ tmps:=(ps.zip (C.enc x).toArray).foldl (fun t (pv:Tmp×Value)=>t.setIfInBounds pv.1 pv.2) a.tmps,defers:=[] }:=by
   rw [<-Array.foldl_toList,Array.toList_zip]
  rw [ea] at ra
  refine Ql RA Rz Ko iha hv ra (fun i hi=>by rw [BF];exact uf i hi) hF fun e σ' a' W' eV du hh r' kE h1 h2 h3 h4=> ?_
  cases e with
  |normal=>exact ⟨h1,h2,aV i2 h2.1,(fun d hd=>let ⟨D,e,e1,e2⟩:=r1.qD.2 d hd;⟨D,e,e1,(h4 D (ef e2) fun id l h5 h6=>r1.AI h5 h6 e2).trans e2⟩),σ',eV,du,hh,r',kE,h3⟩
  |_=>exact hh.elim
 ·-- the round's body
  refine Ql RA Rz vM ih ht r1 uf hF fun e σ' a' w' QL oN hh r2 oo fA hkF hF2 gu=> ?_
  have Rh: ∀(ad:Addr) (u:Value),dq w' base SR oN ad u->dq w' base (S0.round w.heap.size) oN ad u:=by subst Fi;exact fun ad u h=>h
  have EJ: ∀{d v},Rel (dq w' base SR oN) QL oN d v->Rel (dq w' base (S0.round w.heap.size) oN) QL oN d v:=fun h=>h.mono Rh (fun _ h=>h) fun _ _ _ h=>⟨_,h,rfl⟩
  have rout:R base w0 (S0.round w.heap.size) { iT C σ σ' with rn:=true } QL oN a w':=by
   refine ⟨(by have:=r2.below;subst Fi;exact this),(by have:=r2.xs;subst Fi;exact this),r2.fv,⟨⟨r.qD.1.1,fun h=>by rw [show (S0.round w.heap.size).sh=S0.sh from rfl,sY] at h;cases h⟩,fun d hd=> ?_⟩,(by have:=r2.nM;subst Fi;exact this),fun _=>rfl,(by have:=r2.lh;subst Fi;exact this),fun d v h=> ?_,r.size,fun t=> ?_,fun id o h=>⟨(r2.eC id o h).1,(r2.eC id o h).2.rd Rh⟩,r2.inj,(by have:=r2.ge;subst Fi;exact this),r2.live,fun t ht=>by
    have ht:t<σ.lo:=ht
    omega⟩
   ·obtain ⟨D,e,hD,h2⟩:=im d hd
    exact ⟨D,e,hD,(gu D (ef h2) fun id l h5 h6=>r1.AI h5 h6 h2).trans h2⟩
   ·have h:(d,v)∈SL++S0.sh:=h
    rw [sY,List.append_nil] at h
    exact EJ (r2.yk d v (aP _ h))
   ·unfold St.get iT
    cases lG:look (qO σ C.keep) t with
    |none=>exact .any _
    |some d=>
     obtain ⟨h1,rfl⟩:=nf lG
     exact EJ (r2.yk _ _ (aU _ (by subst Fi;exact ay _ (bf.2 ⟨t,h1,rfl⟩))))
  have qs:Fits base w0 (S0.round w.heap.size) { iT C σ σ' with rn:=true } a w':=⟨QL,oN,rout,oo⟩
  cases e with
  |normal=>
   obtain ⟨k1,k2⟩:=dw.app (dC.all hh)
   obtain ⟨x1,x2⟩:=Eu (S0:=S0.round w.heap.size) (ρ:=C.note.rn σ (iT C σ σ') [x+1]) (σ:={ iT C σ σ' with rn:=true }) (σ':={ C.st σ [x+1] with rn:=true }) sY (fun _=>rfl) (by rw [Dp];exact k1) rout
   refine ⟨fA,⟨k2.one,aV i2 hkF.1,_,_,x1,x2,fun k hk=>⟨(hF2 k hk).1,fun i l e h=> ?_⟩⟩,hkF⟩
   obtain ⟨b,_,hb⟩:=jU e h
   exact (hF2 k hk).2 b l hb h
  |ret=>exact ⟨fA,⟨_,qs,rfl,.inl ⟨rfl,hh⟩⟩,hkF⟩
  |exit j=>exact ⟨fA,⟨_,qs,rfl,.inr ⟨j,rfl,hh⟩⟩,hkF⟩
  |_=>exact hh.elim
 ·have i2:Fits base w0 (S0.round w.heap.size) { C.st σ [C.N] with rn:=true } a W:=⟨eV,du,r',kE⟩
  exact hK _ _ (Ks i1) _ _ (marked hD (i2.vr rQ σ.rn) hh)
 ·have i1':Fits base w0 S0 σo a W:=by
   have:=i1.vr rQ σ.rn
   rw [<-Zg] at this
   exact this
  have ZB:=marked hD i1' hh
  rcases i2 with ⟨rfl,h2⟩|⟨j,rfl,h2⟩
  ·exact wpIn_ret (hK _ _ h2 _ _ ZB)
  ·refine wpIn_exit ?_
   simp only [Exit.inBlock]
   cases hb:Nat.beq j id with
   |true=>
    simp only [hb,ao] at h2
    rw [ag (af hb)]
    exact hK _ _ h2 _ _ ZB
   |false=>
    simp only [hb,ar] at h2
    rw [ab (fun e=>by rw [e] at hb;simp at hb)]
    exact hK _ _ h2 _ _ ZB
theorem Cu (hm:P.follows .mixedOrders=true) (yU:lB P A): ∀(c:Code),(∀ro m base w0 S0,mM P A ro m base w0 S0 c)/\(∀body,c= .loop body-> ∀ro m base w0 S0,mM P A ro m base w0 S0 body)/\ ∀g ps zL body,c= .rangeFunc g ps zL body->(∀ro m base w0 S0,mM P A ro m base w0 S0 zL)/\ ∀ro m base w0 S0,mM P A ro m base w0 S0 body:=by
 intro c
 induction c with
 |skip=>refine ⟨fun ro m base w0 S0=> ?_,fun b e=>(by cases e),fun _ _ _ _ e=>by cases e⟩;intro hs σ K Q h hK a w hf;exact wpIn_skip (hK _ _ h a w hf)
 |label l=>refine ⟨fun ro m base w0 S0=> ?_,fun b e=>(by cases e),fun _ _ _ _ e=>by cases e⟩;intro hs σ K Q h hK a w hf;exact wpIn_label (hK _ _ h a w hf)
 |ret=>refine ⟨fun ro m base w0 S0=> ?_,fun b e=>(by cases e),fun _ _ _ _ e=>by cases e⟩;intro hs σ K Q h hK a w hf;exact wpIn_ret (hK _ _ h a w hf)
 |exit id=>refine ⟨fun ro m base w0 S0=> ?_,fun b e=>(by cases e),fun _ _ _ _ e=>by cases e⟩;intro hs σ K Q h hK a w hf;exact wpIn_exit (hK _ _ h a w hf)
 |region id ops draw=>
  refine ⟨fun ro m base w0 S0=> ?_,fun b e=>(by cases e),fun _ _ _ _ e=>by cases e⟩
  intro hs σ K Q h hK a w hf
  simp only [evalCode] at h
  cases hd:draw with
  |false=>
   simp only [hd,ar] at h
   obtain ⟨h1,h2⟩:=tT h
   exact EK hf h1.all fun a' w' ll=>hK _ _ h2 a' w' ll
  |true=>
   simp only [hd,ao] at h
   cases ho:xP P ops (ET A.dz id) σ with
   |false=>
    simp only [ho,ar] at h
    split at h
    ·rename_i p hp
     obtain ⟨h1,h2⟩:=h
     obtain ⟨h3,h4⟩:=dw.app (dC.all h1)
     exact va hm hf h3 hp h4.one fun a' w' ll=>hK _ _ h2 a' w' ll
    ·exact h.elim
   |true=>
    simp only [ho,ao] at h
    obtain ⟨h1,h2⟩:=tT h
    exact vb hm hf h1.all ho fun a' w' ll=>hK _ _ h2 a' w' ll
 |seq x y ihx ihy=>
  refine ⟨fun ro m base w0 S0=> ?_,fun b e=>(by cases e),fun _ _ _ _ e=>by cases e⟩
  intro hs σ K Q h hK a w hf
  simp only [evalCode] at h
  have hsx:((S0.sh=[]/\S0.wb=none)/\ro=none/\1<=m)\/fB A x=true:=hs.imp id fun h=>by
   simp only [fB] at h
   cases hx:fB A x
   ·simp [hx] at h
   ·rfl
  have hsy:((S0.sh=[]/\S0.wb=none)/\ro=none/\1<=m)\/fB A y=true:=hs.imp id fun h=>by
   simp only [fB] at h
   cases hx:fB A x
   ·simp [hx] at h
   ·cases hy:fB A y
    ·simp [hx,hy] at h
    ·rfl
  split at h
  ·split at h
   ·rename_i hcut _ E ZD
    have sY:(S0.sh=[]/\S0.wb=none)/\ro=none/\1<=m:=by
     rcases hs with h|h
     ·exact h
     ·simp only [fB,hcut,ZD] at h
      cases hx:fB A x<;>cases hy:fB A y<;>simp [hx,hy] at h
    obtain ⟨⟨h1,h2⟩,rfl,h3⟩:=sY
    cases x with
    |region id ops draw=>exact yU id E ZD m base w0 S0 h1 h2 h3 _ _ σ K Q h hK a w hf
    |_=>simp [RK] at ZD
   refine wpIn_seq ?_
   refine ihx.1 _ _ _ _ _ hsx σ _ _ h (fun e σ' hh a' w' ll=> ?_) a w hf
   cases e with
   |normal=>
    obtain ⟨h1,h2⟩:=tT hh
    exact ihy.1 _ _ _ _ _ hsy _ K Q h2 hK a' w' (ll.pre h1.all)
   |_=>exact hK _ _ hh a' w' ll
  ·rename_i C hcut
   have sY:S0.sh=[]/\S0.wb=none:=by
    rcases hs with h|h
    ·exact h.1
    ·simp only [fB,hcut] at h
     cases hx:fB A x<;>cases hy:fB A y<;>simp [hx,hy] at h
   obtain ⟨h1,h2⟩:=h
   refine wpIn_seq ?_
   refine ihx.1 _ _ _ _ _ hsx σ _ _ h1 (fun e σ' hh a' w' ll=> ?_) a w hf
   cases e with
   |normal=>
    obtain ⟨k1,k2⟩:=dw.app (dC.all hh)
    exact ihy.1 _ _ _ _ _ hsy _ K Q (h2 _ k2.one) hK a' w' (weaken sY.1 (fun h=>absurd sY.2 h) k1 ll)
   |_=>exact hK _ _ hh a' w' ll
 |cond c x y ihx ihy=>
  refine ⟨fun ro m base w0 S0=> ?_,fun b e=>(by cases e),fun _ _ _ _ e=>by cases e⟩
  intro hs σ K Q h hK a w hf
  simp only [evalCode] at h
  split at h
  ·rename_i p hp
   replace h:=J7 h
   obtain ⟨kn,di,r,hk⟩:=hf
   have hv:=r.ev c
   rw [hp] at hv
   have hsx:((S0.sh=[]/\S0.wb=none)/\ro=none/\1<=m)\/fB A x=true:=hs.imp id fun h=>by
    simp only [fB] at h
    cases hx:fB A x
    ·simp [hx] at h
    ·rfl
   have hsy:((S0.sh=[]/\S0.wb=none)/\ro=none/\1<=m)\/fB A y=true:=hs.imp id fun h=>by
    simp only [fB] at h
    cases hx:fB A x
    ·simp [hx] at h
    ·simpa [hx] using h
   exact wpIn_cond_split hv.k5 (fun hp=>ihx.1 _ _ _ _ _ hsx σ K Q (h.1 hp) hK a w ⟨kn,di,r,hk⟩) fun hp=>ihy.1 _ _ _ _ _ hsy σ K Q (h.2 hp) hK a w ⟨kn,di,r,hk⟩
  ·exact h.elim
 |block id c ih=>
  refine ⟨fun ro m base w0 S0=> ?_,fun b e=>(by cases e),fun _ _ _ _ e=>by cases e⟩
  intro hs σ K Q h hK a w hf
  have plain:(evalCode P A c σ fun e σ'=>match e with
   |.exit j=>bif Nat.beq j id then K .normal σ' else K (.exit j) σ'
   |e=>K e σ').holds->(((S0.sh=[]/\S0.wb=none)/\ro=none/\1<=m)\/fB A c=true)->(Code.block id c).wpIn (FW ro) m P Q a w:=by
   intro h hsc
   refine wpIn_block (ih.1 _ _ _ _ _ hsc σ _ _ h (fun e σ' hh a' w' ll=> ?_) a w hf)
   cases e with
   |exit j=>
    simp only [Exit.inBlock]
    cases hb:Nat.beq j id with
    |true=>
     simp only [hb,ao] at hh
     rw [ag (af hb)]
     exact hK _ _ hh a' w' ll
    |false=>
     simp only [hb,ar] at hh
     rw [ab (fun e=>by rw [e] at hb;simp at hb)]
     exact hK _ _ hh a' w' ll
   |_=>exact hK _ _ hh a' w' ll
  cases c with
  |loop body=>
   simp only [evalCode] at h
   split at h
   ·rename_i C _
    have sY:S0.sh=[]/\S0.wb=none:=hs.elim (fun h=>h.1) fun h=>by simp [fB] at h
    obtain ⟨h1,h2,h3⟩:=h
    -- the loop's own statement, out of the induction's for 'loop body'
    have HF:=ih.2.1 body rfl ro m base w0 S0
    refine wpIn_block (Ci (fun n a w=> ∃i,C.mu σ i=n/\C.inv σ i/\Fits base w0 S0 (C.st σ i) a w) (C.mu σ (C.rd σ σ)) ⟨_,rfl,h2,weaken sY.1 (fun h=>absurd sY.2 h) (dC.all h1) hf⟩ fun n a w ⟨i,hi,hinv,hfi⟩=> ?_)
    subst hi
    refine HF (hs.imp (fun h=>h) fun h=>by simp [fB] at h) _ _ _ (h3 i hinv) (fun e σ' hh a' w' ll=> ?_) a w hfi
    cases e with
    |normal=>
     obtain ⟨k1,k2⟩:=dw.app (dC.all hh)
     exact ⟨_,k2.tl.one,_,rfl,k2.hd,weaken sY.1 (fun h=>absurd sY.2 h) k1 ll⟩
    |exit j=>
     simp only [Exit.then,Exit.inBlock]
     cases hb:Nat.beq j id with
     |true=>
      simp only [hb,ao] at hh
      rw [ag (af hb)]
      exact hK _ _ hh a' w' ll
     |false=>
      simp only [hb,ar] at hh
      rw [ab (fun e=>by rw [e] at hb;simp at hb)]
      exact hK _ _ hh a' w' ll
    |_=>exact hK _ _ hh a' w' ll
   ·have HF:=ih.2.1 body rfl ro m base w0 S0
    have hsb:((S0.sh=[]/\S0.wb=none)/\ro=none/\1<=m)\/fB A body=true:=hs.imp (fun h=>h) fun h=>by simp [fB] at h
    have key: ∀(n:Nat) (σ:St) (a:Act) (w:World),(zg (evalCode P A body) id K n σ).holds->Fits base w0 S0 σ a w->Code.roundsIn (FW ro) m P body (Exit.inBlock id Q) n a w:=by
     intro n
     induction n with
     |zero=>intro σ a w h _;simp [zg,VT.holds,dC] at h
     |succ n ihn=>
      intro σ a w h hf
      refine HF hsb σ _ _ h (fun e σ' hh a' w' ll=> ?_) a w hf
      cases e with
      |normal=>exact ihn σ' a' w' hh ll
      |exit j=>
       simp only [Exit.then,Exit.inBlock]
       cases hb:Nat.beq j id with
       |true=>
        simp only [hb,ao] at hh
        rw [ag (af hb)]
        exact hK _ _ hh a' w' ll
       |false=>
        simp only [hb,ar] at hh
        rw [ab (fun e=>by rw [e] at hb;simp at hb)]
        exact hK _ _ hh a' w' ll
      |_=>exact hK _ _ hh a' w' ll
    exact wpIn_block (wpIn_loop_rounds (GC A id) (key _ σ a w h hf))
  |rangeFunc g ps zL body=>
   rcases hs with ⟨sY,hro,O6⟩|h'
   ·subst hro
    simp only [evalCode] at h
    split at h
    ·rename_i C gf kj _ UK
     split at h
     ·rename_i l ZJ
      cases hb: !trk&&(Nat.beq σ.lo 0&&fB A body)&&(DV.closed.go kj&&(RG C.keep g&&(sQ σ.nt l&&wL σ.nt ps.toList))) with
      |false=>simp only [hb,ar] at h;exact h.elim
      |true=>
       simp only [hb,ao] at h
       simp only [an] at hb
       obtain ⟨⟨htk,j5,vM⟩,oq,Mq,Rq,D2⟩:=hb
       have yU:trk=false:=by simpa using htk
       obtain ⟨h1,hx,hround⟩:=h
       have h1:=dC.all h1
       have A6:=h1.hd
       have hlen:=h1.tl.hd
       obtain ⟨rW,A7⟩:=dw.app h1.tl.tl
       exact G1 yU O6 sY.1 sY.2 (af j5) UK ZJ vM oq Mq Rq D2 A6 hlen rW A7.one (fun hi=>hx.2 () hi) hround (fun ro m base w0 S0=>(ih.2.2 g ps zL body rfl).2 ro m base w0 S0) hf hK
     ·exact h.elim
    ·rename_i C gf fs _ ZH
     cases hb:Nat.beq σ.lo 0&&(fB A zL&&fB A body)&&(DV.closed.go fs&&wL σ.nt ps.toList) with
     |false=>simp only [hb,ar] at h;exact h.elim
     |true=>
      simp only [hb,ao] at h
      simp only [an] at hb
      obtain ⟨⟨j5,Ko,vM⟩,oq,D2⟩:=hb
      obtain ⟨h1,hx,hround⟩:=h
      have h1:=dC.all h1
      have A6:=h1.hd
      have hlen:=h1.tl.hd
      obtain ⟨rW,A7⟩:=dw.app h1.tl.tl
      exact EM O6 sY.1 sY.2 (af j5) ZH Ko vM oq D2 A6 hlen rW A7.one (fun hi=>hx.2 () hi) hround (ih.2.2 g ps zL body rfl).1 (ih.2.2 g ps zL body rfl).2 hf hK
    ·exact h.elim
   ·simp [fB] at h'
  |_=>exact plain (by simpa only [evalCode] using h) (by simpa only [fB] using hs)
 |loop body ih=>exact ⟨fun ro m base w0 S0 hs σ K Q h hK a w hf=>h.elim,fun b e=>(by cases e;exact ih.1),fun _ _ _ _ e=>by cases e⟩
 |rangeFunc g ps zL body iha ihb=>exact ⟨fun ro m base w0 S0 hs σ K Q h hK a w hf=>h.elim,fun b e=>(by cases e),fun _ _ _ _ e=>(by cases e;exact ⟨iha.1,ihb.1⟩)⟩
 |_=>exact ⟨fun ro m base w0 S0 hs σ K Q h hK a w hf=>h.elim,fun b e=>(by cases e),fun _ _ _ _ e=>by cases e⟩
theorem js (hm:P.follows .mixedOrders=true) (yU:lB P A) (c:Code):mM P A ro m base w0 S0 c:=(Cu hm yU c).1 ro m base w0 S0
def DF (P:Program) (σ:St):ResultVar->Option (DV×List Prop)
 |.tmp t=>match (σ.get t).nw with
  |none=>some ((σ.get t).un,[])
  |some _=>none
 |.cell t ty=>match σ.get t with
  |.ptr id j=>match r5 P σ.obj ty (.ptr id j) with
   |{ d,hw:=[],vc }=>some (d,vc)
   |_=>none
  |_=>none
def N9 (ob:Heap):List DV->Option (List DV×List Prop)
 |[]=>some ([],[])
 |d::r=>match nh ob d,N9 ob r with
  |some (e,vc),some (es,vcs)=>some (e::es,vc++vcs)
  |_,_=>none
def US (ob:Heap):DV->Option (DV×List Prop)
 |.ptr id 0=>match ob id with
  |some (.box cs)=>match N9 ob cs with
   |some (es,vc)=>some (.dV es,vc)
   |none=>none
  |_=>none
 |d=>nh ob d
def HL (ob:Heap):List DV->Option (List DV×List Prop)
 |[]=>some ([],[])
 |d::r=>match US ob d,HL ob r with
  |some (e,vc),some (es,vcs)=>some (e::es,vc++vcs)
  |_,_=>none
def UW (ob:Heap):DV->Option (DV×List Prop)
 |.agg cs=>match N9 ob cs with
  |some (es,vc)=>some (.agg es,vc)
  |none=>none
 |.jt f cs=>match HL ob cs with
  |some (es,vc)=>some (.jt f es,vc)
  |none=>none
 |d=>US ob d
def lC (P:Program) (σ:St):List ResultVar->Option (List DV×List Prop)
 |[]=>some ([],[])
 |rv::r=>match DF P σ rv with
  |some (d,vc)=>match UW σ.obj d,lC P σ r with
   |some (e,GA),some (es,vcs)=>some (e::es,vc++(GA++vcs))
   |_,_=>none
  |none=>none
def DG:List DV->DV
 |[d]=>d
 |l=> .fC l
def LO (P:Program) (fn:Func) (res:DV) (σ:St):VT:=match lC P σ fn.results.toList with
 |some (ds,vc)=> .done (vc++yy 4 (DG ds) res)
 |none=> .done [False]
def retK (P:Program) (fn:Func) (res:DV):Exit->St->VT
 |.ret,σ=>LO P fn res σ
 |.normal,σ=>LO P fn res σ
 |_,_=> .done [False]
def entry:List DV->Nat->List (Nat×DV)
 |[],_=>[]
 |d::r,k=>(k,d)::entry r (k+1)
section
variable {w:World} {σ:St} {a:Act} {kn:Nat->Prop} {di:Nat->Option Loc}
theorem um (r:R base w0 S0 σ kn di a w): ∀{ds es:List DV} {vc:List Prop},N9 σ.obj ds=some (es,vc)->dw vc->es.length=ds.length/\
 ∀(j:Nat) (d e:DV) (v:Value),ds[j]? =some d->es[j]? =some e->Rel (dq w base S0 di) kn di d v->dA (iC w S0.S base) e v
 |[],es,vc,h,_=>by
  simp only [N9,aa,aB] at h
  obtain ⟨rfl,rfl⟩:=h
  exact ⟨rfl,by simp⟩
 |d::ds,es,vc,h,dr=>by
  simp only [N9] at h
  split at h
  ·rename_i e GA MB uK h1 h2
   simp only [aa,aB] at h
   obtain ⟨rfl,rfl⟩:=h
   obtain ⟨k1,k2⟩:=dw.app dr
   obtain ⟨l1,l2⟩:=um r h2 k2
   refine ⟨by simp [l1],fun j d' e' v hd he hv=> ?_⟩
   cases j with
   |zero=>
    simp only [aL,aa] at hd he
    subst hd he
    exact (tY r h1 k1 hv).1
   |succ j=>exact l2 j d' e' v (by simpa using hd) (by simpa using he) hv
  ·cases h
theorem Be (r:R base w0 S0 σ kn di a w) {d e:DV} {vc:List Prop} {v:Value} (h:US σ.obj d=some (e,vc)) (dr:dw vc) (hv:Rel (dq w base S0 di) kn di d v):dA (iC w S0.S base) e v:=by
 unfold US at h
 split at h
 ·rename_i id
  split at h
  ·rename_i cs fE
   split at h
   ·rename_i es PO hl
    simp only [aa,aB] at h
    obtain ⟨rfl,rfl⟩:=h
    obtain ⟨l1,l2⟩:=um r hl dr
    obtain ⟨g,C,cv,T,lH,hh,eW,hr,jh⟩:=(r.eC _ _ fE).2
    cases hv with
    |ptr hk hv h=>
     rw [h g C lH]
     have cell: ∀j,j<es.length-> ∃d u,cs[j]? =some d/\cv[j]? =some u/\w.cell? (Addr.add ⟨g,0,none⟩ j)=some u:=fun j hj=>by
      have h1:j<cs.length:=by omega
      have h2:j<cv.size:=by omega
      refine ⟨_,_,ak h1,az h2,?_⟩
      rw [eF,aE]
      simp only [World.cell?,hh,az h2]
      rfl
     refine .dV (fun j=>(w.cell? (Addr.add ⟨g,0,none⟩ j)).getD undef) (fun j d hd=> ?_) (fun j d hd=> ?_) fun j d hd=> ?_
     ·obtain ⟨d',u,h1,h2,h3⟩:=cell j (ai.1 hd).1
      refine ⟨.inl ⟨by rw [h3];rfl,by rw [h3];exact jh u (bw.2 (cz h2))⟩,?_⟩
      rw [eF]
      exact o8 r lH rfl
     ·obtain ⟨d',u,h1,h2,h3⟩:=cell j (ai.1 hd).1
      rw [h3];exact jh u (bw.2 (cz h2))
     ·obtain ⟨d',u,h1,h2,h3⟩:=cell j (ai.1 hd).1
      rw [h3]
      exact l2 j d' d u h1 hd (hr j d' u h1 h2)
   ·cases h
  ·cases h
 ·exact (tY r h dr hv).1
theorem yC (r:R base w0 S0 σ kn di a w): ∀{ds es:List DV} {vc:List Prop},HL σ.obj ds=some (es,vc)->dw vc->es.length=ds.length/\
 ∀(j:Nat) (d e:DV) (v:Value),ds[j]? =some d->es[j]? =some e->Rel (dq w base S0 di) kn di d v->dA (iC w S0.S base) e v
 |[],es,vc,h,_=>by
  simp only [HL,aa,aB] at h
  obtain ⟨rfl,rfl⟩:=h
  exact ⟨rfl,by simp⟩
 |d::ds,es,vc,h,dr=>by
  simp only [HL] at h
  split at h
  ·rename_i e GA MB uK h1 h2
   simp only [aa,aB] at h
   obtain ⟨rfl,rfl⟩:=h
   obtain ⟨k1,k2⟩:=dw.app dr
   obtain ⟨l1,l2⟩:=yC r h2 k2
   refine ⟨by simp [l1],fun j d' e' v hd he hv=> ?_⟩
   cases j with
   |zero=>
    simp only [aL,aa] at hd he
    subst hd he
    exact Be r h1 k1 hv
   |succ j=>exact l2 j d' e' v (by simpa using hd) (by simpa using he) hv
  ·cases h
theorem N8 (r:R base w0 S0 σ kn di a w) {d e:DV} {vc:List Prop} {v:Value} (h:UW σ.obj d=some (e,vc)) (dr:dw vc) (hv:Rel (dq w base S0 di) kn di d v):dA (iC w S0.S base) e v:=by
 unfold UW at h
 split at h
 ·split at h
  ·rename_i es PO hl
   simp only [aa,aB] at h
   obtain ⟨rfl,rfl⟩:=h
   obtain ⟨l1,l2⟩:=um r hl dr
   cases hv with
   |agg hs hr=>
    refine .agg (by rw [l1];exact hs) fun j d u hd hu=> ?_
    have dR:=(ai.1 hd).1
    have rT:=ak (l1▸dR)
    exact l2 j _ d u rT hd (hr j _ u rT hu)
  ·cases h
 ·split at h
  ·rename_i es PO hl
   simp only [aa,aB] at h
   obtain ⟨rfl,rfl⟩:=h
   obtain ⟨l1,l2⟩:=yC r hl dr
   cases hv with
   |jt hs hr=>
    refine .jt (by rw [l1];exact hs) fun j d u hd hu=> ?_
    have dR:=(ai.1 hd).1
    have rT:=ak (l1▸dR)
    exact l2 j _ d u rT hd (hr j _ u rT hu)
  ·cases h
 ·exact Be r h dr hv
def Ao (a:Act):ResultVar->Sem Value
 |.tmp t=>pure (a.tmps.getD t undef)
 |.cell b t=>do loadVar t (<-asAddr (a.tmps.getD b undef))
theorem yp (r:R base w0 S0 σ kn di a w) {rv:ResultVar} {d:DV} {vc:List Prop} (h:DF P σ rv=some (d,vc)) (dr:dw vc):
 ∃v,(Ao a rv).run P w= .ok v w/\Rel (dq w base S0 di) kn di d v:=by
 unfold DF at h
 split at h
 ·rename_i t
  split at h
  ·rename_i hc
   simp only [aa,aB] at h
   obtain ⟨rfl,rfl⟩:=h
   exact ⟨_,rfl,(r.tmps t).un fun b hb=>by rw [hc] at hb;cases hb⟩
  ·cases h
 ·rename_i t ty
  split at h
  ·rename_i id j hp
   split at h
   ·rename_i d' PO he
    simp only [aa,aB] at h
    obtain ⟨rfl,rfl⟩:=h
    have hv:=r.tmps t
    rw [hp] at hv
    obtain ⟨_,v,dN,hrel⟩:=vS (P:=P) (t:=ty) r (by rw [he];exact dr) hv
    rw [he] at hrel
    obtain ⟨_,⟨ad,had⟩,_⟩:=G5 hv
    refine ⟨v,?_,hrel⟩
    simp only [Ao]
    rw [had] at dN ⊢
    simpa [Instr.loadAt,Instr.sureAddr,asAddr] using dN
   ·cases h
  ·cases h
theorem tj (r:R base w0 S0 σ kn di a w): ∀{rs:List ResultVar} {ds:List DV} {vc:List Prop},lC P σ rs=some (ds,vc)->dw vc->
 ∃vs:List Value,(rs.mapM (Ao a)).run P w= .ok vs w/\vs.length=ds.length/\
  ∀(j:Nat) (d:DV) (u:Value),ds[j]? =some d->vs[j]? =some u->dA (iC w S0.S base) d u
 |[],ds,vc,h,_=>by
  simp only [lC,aa,aB] at h
  obtain ⟨rfl,rfl⟩:=h
  exact ⟨[],by simp,rfl,by simp⟩
 |rv::rs,ds,vc,h,dr=>by
  simp only [lC] at h
  split at h
  ·rename_i d vc0 h0
   split at h
   ·rename_i e GA es vcs h1 h2
    simp only [aa,aB] at h
    obtain ⟨rfl,rfl⟩:=h
    obtain ⟨k0,k12⟩:=dw.app dr
    obtain ⟨k1,k2⟩:=dw.app k12
    obtain ⟨v,dN,hrel⟩:=yp r h0 k0
    have hc:=N8 r h1 k1 hrel
    obtain ⟨vs,hruns,hlen,fp⟩:=tj r h2 k2
    refine ⟨v::vs,?_,by simp [hlen],fun j d' u hd hu=> ?_⟩
    ·simp only [List.mapM_cons,Sem.run_bind,dN,hruns,Result.andThen_ok,Sem.run_pure]
    ·cases j with
     |zero=>simp at hd hu;subst hd hu;exact hc
     |succ j=>exact fp j d' u (by simpa using hd) (by simpa using hu)
   ·cases h
  ·cases h
theorem ry (r:R base w0 S0 σ kn di a w) {fn:Func} {ds:List DV} {vc:List Prop} (h:lC P σ fn.results.toList=some (ds,vc)) (dr:dw vc):
 ∃v,(results fn a.tmps).run P w= .ok v w/\dA (iC w S0.S base) (DG ds) v:=by
 obtain ⟨vs,dN,hlen,fp⟩:=tj r h dr
 have hm:(results fn a.tmps).run P w= .ok (if h:vs.toArray.size=1 then vs.toArray[0] else .tuple vs.toArray) w:=by
  have ZA:results fn a.tmps=(do
   let vs <-fn.results.mapM (Ao a)
   return (if h:vs.size=1 then vs[0] else Value.tuple vs)):=by
   unfold results
   congr 2
  rw [ZA,Array.mapM_eq_mapM_toList]
  simp only [Sem.run_bind,Sem.run_map,dN,Result.andThen_ok,Sem.run_pure]
 refine ⟨_,hm,?_⟩
 match ds,vs,hlen,fp with
 |[],[],_,_=>exact .fC rfl (by simp)
 |[d],[v],_,fp=>exact fp 0 d v rfl rfl
 |d::d2::r,v::v2::q,hl,fp=>
  have ji: ¬((v::v2::q).toArray.size=1):=by simp
  rw [dif_neg ji]
  exact .fC (by simpa using hl) fun j d' u hd hu=>fp j d' u hd (by simpa using hu)
end
theorem p7: ∀(l:List DV) (k t:Nat),look (entry l k) t=if k<=t then l[t - k]? else none
 |[],k,t=>by simp [entry,look]
 |d::r,k,t=>by
  simp only [entry,dG]
  rw [p7 r (k+1) t]
  by_cases h:k=t
  ·subst h;simp
  ·rw [ab h]
   by_cases hk:k<=t
   ·rw [ag (by omega),ag hk,show t - k=(t - (k+1))+1 by omega,aJ]
   ·rw [ab (by omega),ab hk]
theorem vH {P:Program} {fn:Func} {w0:World} {base:Nat} {S:Nat->Prop} {σ:St} {kn:Nat->Prop} {di:Nat->Option Loc} {res:DV} {rds:List DV} {vc:List Prop} (hwr:w0.heap.size<=base)
 (jb:lC P σ fn.results.toList=some (rds,vc)) (dr:dw vc) (hle:dw (yy 4 (DG rds) res)): ∀{ds:List Deferred} {a:Act} {w:World},a.defers=ds->R base w0 ⟨S,[],w0,none,fun _=>False,fun _=>undef⟩ σ kn di a w->
 LeavesInM Fence.wide 1 P fn a.tmps (fun e w'=> ∃v,e= .returned v/\dA (iC w' S base) res v/\Below base w0 w') ds .returning w
 |[],a,w,hd,r=>by
  obtain ⟨v,dN,hrel⟩:=ry r jb dr
  exact ⟨v,dN,v,rfl,fG 4 hle hrel,r.below.none fun _ h=>h⟩
 |d::ds,a,w,hd,r=>by
  obtain ⟨D,e,hD,hh⟩:=r.qD.2 d (by rw [hd];exact ax)
  have qW:=r.qD.1.1
  rw [hd,cY] at qW
  refine ⟨(by intro h;cases h),.inl ⟨D,_,by rw [e],run_takeDeferred hh,?_⟩⟩
  have r':R base w0 ⟨S,[],w0,none,fun _=>False,fun _=>undef⟩ σ kn di { a with defers:=ds } w:=
   ⟨r.below,r.xs,r.fv,⟨⟨qW.2,fun h=>by cases h⟩,fun x hx=>r.qD.2 x (by rw [hd];exact ay _ hx)⟩,r.nM,r.J2,r.lh,r.yk,r.size,r.tmps,r.eC,r.inj,r.ge,r.live,r.yr⟩
  refine vH hwr jb dr hle (a:={ a with defers:=ds }) rfl (r'.grown (grownBy_putObj' w D _) fun k hk=> ?_)
  cases hk
  exact ⟨hD,.inr (nc hh),aV hwr hD,⟨_,hh,rfl⟩,fun x hx e2=>qW.1 (by rw [e,<-e2];exact hx)⟩
theorem FnC_of (hm:P.follows .mixedOrders=true) {f:FuncId} {fn:Func} {c:Code} {args:List DV} {res:DV} (hf:P.funcs[f]? =some fn) (hb:fn.body=some c) (hn:(fn.name== "runtime.NumGoroutine")=false) (hlen:args.length<=fn.ntmps)
 (h:(evalCode P A c { t:=entry args 0,h:=[],nx:=0,nt:=fn.ntmps } (retK P fn res)).holds) (yU:lB P A:=by exact iQ rfl):dv P f args res:=by
 refine ⟨⟨fn,hf,by rw [hb];rfl,hn⟩,fun S w vs zz gK A8=>callsIn_wide.1 (callsIn_of_wp_marks (F:=Fence.wide) (n:=1) hf hb trivial ?_)⟩
 refine js (A:=A) (ro:=none) (m:=1) (base:=w.heap.size) (w0:=w) (S0:=⟨S,[],w,none,fun _=>False,fun _=>undef⟩) hm yU c (.inl ⟨⟨rfl,rfl⟩,rfl,ae 1⟩) _ _ _ h (fun e σ' hh a' w' ll=> ?_) _ _ ?_
 ·have fin:(LO P fn res σ').holds->LeavesInM Fence.wide 1 P fn a'.tmps (fun e w'=> ∃v,e= .returned v/\dA (iC w' S w.heap.size) res v/\Below w.heap.size w w') a'.defers .returning w':=by
   intro hh
   obtain ⟨kn,di,r,_⟩:=ll
   unfold LO at hh
   split at hh
   ·rename_i ds vc Wo
    obtain ⟨h1,h2⟩:=dw.app (dC.all hh)
    exact vH (ae _) Wo h1 h2 rfl r
   ·exact hh.elim
  cases e with
  |ret=>exact fin hh
  |normal=>exact fin hh
  |_=>exact hh.elim
 ·refine ⟨fun _=>False,fun _=>none,⟨gM.refl _ _ _,(fun _ h=>h.elim),ae _,⟨by simp,fun d hd=>by cases hd⟩,⟨ae _,(fun B h=>by cases h),fun _ _ h _ _=>h⟩,(fun h=>absurd rfl h),(fun B h=>by cases h),(fun d v hd=>(A8 d v (by simpa using hd)).mono (fun ad u ⟨x,y⟩=>⟨x,(fun id l e=>by cases e),.inl y,fun B h=>by cases h⟩) (fun _ h=>h) fun _ _ h=>h.elim),?_,fun t=> ?_,fun id o ho=> ?_,(fun i i' l l' g e=>by cases e),(fun i l g e=>by cases e),(fun i l e=>by cases e),fun t ht=>absurd ht (aG t)⟩,fun i hi=>hi.elim⟩
  ·simp;omega
  ·have Mo: ∀{d v},dA (fu w S) d v->Rel (dq w w.heap.size ⟨S,[],w,none,fun _=>False,fun _=>undef⟩ fun _=>none) (fun _=>False) (fun _=>none) d v:=fun hr=>hr.mono (fun ad u ⟨x,y⟩=>⟨x,(fun id l e=>by cases e),.inl y,fun B h=>by cases h⟩) (fun _ h=>h) fun _ _ h=>h.elim
   unfold St.get
   simp only [p7,aq,ba,bJ]
   cases ht:args[t]? with
   |none=>exact .any _
   |some d=>
    have dR:t<vs.size:=by rw [zz];exact (ai.1 ht).1
    have hv:vs[t]? =some vs[t]:=az dR
    have:=Mo (gK t d _ ht hv)
    simp only [av,cS,dR,ba,hv,cD]
    exact this
  ·simp [St.obj,look] at ho
def owed (P:Program) (A:eA) (f:FuncId) (args:List DV) (res:DV):VT:=match P.funcs[f]? with
 |some fn=>match fn.body with
  |some c=>bif (!(fn.name== "runtime.NumGoroutine"))&&Nat.ble args.length fn.ntmps then
    evalCode P A c { t:=entry args 0,h:=[],nx:=0,nt:=fn.ntmps } (retK P fn res) else .done [False]
  |none=> .done [False]
 |none=> .done [False]
theorem dm (hm:P.follows .mixedOrders=true) {f:FuncId} {args:List DV} {res:DV} {V:VT} (A:eA) (e:owed P A f args res=V) (h:V.holds) (yU:lB P A:=by exact iQ rfl):dv P f args res:=by
 subst e
 unfold owed at h
 split at h
 ·rename_i fn hf
  split at h
  ·rename_i c hb
   cases hx:((!(fn.name== "runtime.NumGoroutine"))&&Nat.ble args.length fn.ntmps) with
   |false=>simp only [hx,ar] at h;exact h.elim
   |true=>
    simp only [hx,ao] at h
    simp only [an,aM] at hx
    exact FnC_of hm hf hb hx.1 (aC hx.2) h yU
  ·exact h.elim
 ·exact h.elim
def DE (P:Program) (fn:Func) (n:Nat) (dp:List (Nat->DV)) (σ:St):VT:=match fn.results.toList with
 |[rv]=>match DF P σ rv with
  |some (.row s id 0 len,vc)=>match σ.obj id with
   |some (.row n' eB)=>bif Nat.beq eB.length s then .done (vc++((len=n/\len<=n')::QJ (yy 2) eB dp n)) else .done [False]
   |_=> .done [False]
  |some (.val (.slice none 0 0),vc)=> .done (vc++[n=0])
  |_=> .done [False]
 |_=> .done [False]
def VK (P:Program) (fn:Func) (n:Nat) (dp:List (Nat->DV)):Exit->St->VT
 |.ret,σ=>DE P fn n dp σ
 |.normal,σ=>DE P fn n dp σ
 |_,_=> .done [False]
def KY (S:Nat->Prop) (base:Nat) (n:Nat) (dp:List (Nat->DV)) (v:Value) (w':World):Prop:=(v= .slice none 0 0/\n=0)\/ ∃g C cv T,v= .slice (some ⟨g,0,none⟩) n C/\base<=g/\w'.heap[g]? =some (.cells cv T (0,0))/\cv.size=C*dp.length/\n<=C/\
 ∀(i j:Nat) (f:Nat->DV),i<n->dp[j]? =some f-> ∃u,cv[i*dp.length+j]? =some u/\eL u=true/\dA (fun a u=>Ar w' a u/\a.block≠g/\(S a.block\/base<=a.block)) (f i) u
theorem rz {base:Nat} {w0:World} {S0:Env} {w:World} {σ:St} {a:Act} {kn:Nat->Prop} {di:Nat->Option Loc} (r:R base w0 S0 σ kn di a w) {fn:Func} {rv:ResultVar} {d:DV} {vc:List Prop} (S4:fn.results.toList=[rv]) (h:DF P σ rv=some (d,vc)) (dr:dw vc):
 ∃v,(results fn a.tmps).run P w= .ok v w/\Rel (dq w base S0 di) kn di d v:=by
 obtain ⟨v,dN,hrel⟩:=yp r h dr
 refine ⟨v,?_,hrel⟩
 have ZA:results fn a.tmps=(do
  let vs <-fn.results.mapM (Ao a)
  return (if h:vs.size=1 then vs[0] else Value.tuple vs)):=by
  unfold results
  congr 2
 rw [ZA,Array.mapM_eq_mapM_toList,S4]
 simp only [List.mapM_cons,List.mapM_nil,Sem.run_bind,Sem.run_map,dN,Result.andThen_ok,Sem.run_pure]
 rfl
theorem G0 {base:Nat} {w0 w:World} {S:Nat->Prop} {σ:St} {a:Act} {kn:Nat->Prop} {di:Nat->Option Loc} (r:R base w0 ⟨S,[],w0,none,fun _=>False,fun _=>undef⟩ σ kn di a w) {fn:Func} {n:Nat} {dp:List (Nat->DV)} (h:(DE P fn n dp σ).holds):
 ∃v,(results fn a.tmps).run P w= .ok v w/\KY S base n dp v w:=by
 unfold DE at h
 split at h
 ·rename_i rv S4
  split at h
  ·rename_i s id len vc jb
   split at h
   ·rename_i n' eB fE
    cases hb:Nat.beq eB.length s
    ·simp only [hb,ar] at h;exact h.elim
    ·simp only [hb,ao] at h
     have uF:=af hb
     have rS:je σ.obj id s=true:=by unfold je;rw [fE];exact hb
     obtain ⟨h1,h2⟩:=dw.app (dC.all h)
     obtain ⟨hlen,hle⟩:=h2.hd
     subst hlen
     obtain ⟨k1,k2⟩:=jB h2.tl
     obtain ⟨v,dN,hrel⟩:=rz r S4 jb h1
     refine ⟨v,dN,?_⟩
     obtain ⟨_,⟨rfl,_,rfl,_⟩|⟨g,C,rfl,hC,hl⟩|⟨h0,_⟩⟩:=kJ r rS hrel
     rotate_left 2
     ·omega
     ·exact .inl ⟨rfl,rfl⟩
     ·obtain ⟨_,lU⟩:=r.eC _ _ fE
      rcases lU with ⟨lk,_⟩|⟨g',C',cv,T,lG,hh,eW,UD,fe⟩
      ·rw [lk] at hl;cases hl
      ·rw [hl] at lG
       cases lG
       refine .inr ⟨g,C,cv,T,by simp,((r.ge _ _ _ hl rfl).1.resolve_right fun h=>h),hh,by rw [eW,k1],by omega,fun i j f hi hj=> ?_⟩
       have Rl:j<eB.length:=by rw [k1];exact (ai.1 hj).1
       have oJ:=ak Rl
       obtain ⟨u,hu,ho,hr⟩:=fe i j _ (by omega) oJ
       refine ⟨u,by rw [<-k1];exact hu,ho,fG 2 (k2 j _ f oJ hj i hi) (hr.mono (fun ad u ⟨x,y,z,_⟩=>⟨x,y _ _ hl,z⟩) (fun _ h=>h) fun _ _ h=>h.elim)⟩
   ·exact h.elim
  ·rename_i vc jb
   obtain ⟨h1,h2⟩:=dw.app (dC.all h)
   obtain ⟨v,dN,hrel⟩:=rz r S4 jb h1
   exact ⟨v,dN,.inl ⟨hrel.k5,h2.one⟩⟩
  ·exact h.elim
 ·exact h.elim
theorem tv {P:Program} {fn:Func} {w0:World} {base:Nat} {S:Nat->Prop} {σ:St} {kn:Nat->Prop} {di:Nat->Option Loc} {n:Nat} {dp:List (Nat->DV)} (hwr:w0.heap.size<=base)
 (jb:(DE P fn n dp σ).holds): ∀{ds:List Deferred} {a:Act} {w:World},a.defers=ds->R base w0 ⟨S,[],w0,none,fun _=>False,fun _=>undef⟩ σ kn di a w->
 LeavesInM Fence.wide 1 P fn a.tmps (fun e w'=> ∃v,e= .returned v/\Below base w0 w'/\KY S base n dp v w') ds .returning w
 |[],a,w,hd,r=>by
  obtain ⟨v,dN,kD⟩:=G0 r jb
  exact ⟨v,dN,v,rfl,r.below.none fun _ h=>h,kD⟩
 |d::ds,a,w,hd,r=>by
  obtain ⟨D,e,hD,hh⟩:=r.qD.2 d (by rw [hd];exact ax)
  have qW:=r.qD.1.1
  rw [hd,cY] at qW
  refine ⟨(by intro h;cases h),.inl ⟨D,_,by rw [e],run_takeDeferred hh,?_⟩⟩
  have r':R base w0 ⟨S,[],w0,none,fun _=>False,fun _=>undef⟩ σ kn di { a with defers:=ds } w:=
   ⟨r.below,r.xs,r.fv,⟨⟨qW.2,fun h=>by cases h⟩,fun x hx=>r.qD.2 x (by rw [hd];exact ay _ hx)⟩,r.nM,r.J2,r.lh,r.yk,r.size,r.tmps,r.eC,r.inj,r.ge,r.live,r.yr⟩
  refine tv hwr jb (a:={ a with defers:=ds }) rfl (r'.grown (grownBy_putObj' w D _) fun k hk=> ?_)
  cases hk
  exact ⟨hD,.inr (nc hh),aV hwr hD,⟨_,hh,rfl⟩,fun x hx e2=>qW.1 (by rw [e,<-e2];exact hx)⟩
theorem FnR_of (hm:P.follows .mixedOrders=true) {f:FuncId} {fn:Func} {c:Code} {args:List DV} {n:Nat} {dp:List (Nat->DV)} (hf:P.funcs[f]? =some fn) (hb:fn.body=some c) (hn:(fn.name== "runtime.NumGoroutine")=false) (hlen:args.length<=fn.ntmps)
 (h:(evalCode P A c { t:=entry args 0,h:=[],nx:=0,nt:=fn.ntmps } (VK P fn n dp)).holds) (yU:lB P A:=by exact iQ rfl):Vz P f args n dp:=by
 refine ⟨⟨fn,hf,by rw [hb];rfl,hn⟩,fun S w vs zz gK A8=>callsIn_wide.1 (callsIn_of_wp_marks (F:=Fence.wide) (n:=1) hf hb trivial ?_)⟩
 refine js (A:=A) (ro:=none) (m:=1) (base:=w.heap.size) (w0:=w) (S0:=⟨S,[],w,none,fun _=>False,fun _=>undef⟩) hm yU c (.inl ⟨⟨rfl,rfl⟩,rfl,ae 1⟩) _ _ _ h (fun e σ' hh a' w' ll=> ?_) _ _ ?_
 ·have fin:(DE P fn n dp σ').holds->LeavesInM Fence.wide 1 P fn a'.tmps (fun e w'=> ∃v,e= .returned v/\Below w.heap.size w w'/\KY S w.heap.size n dp v w') a'.defers .returning w':=by
   intro hh
   obtain ⟨kn,di,r,_⟩:=ll
   exact tv (ae _) hh rfl r
  cases e with
  |ret=>exact fin hh
  |normal=>exact fin hh
  |_=>exact hh.elim
 ·refine ⟨fun _=>False,fun _=>none,⟨gM.refl _ _ _,(fun _ h=>h.elim),ae _,⟨by simp,fun d hd=>by cases hd⟩,⟨ae _,(fun B h=>by cases h),fun _ _ h _ _=>h⟩,(fun h=>absurd rfl h),(fun B h=>by cases h),(fun d v hd=>(A8 d v (by simpa using hd)).mono (fun ad u ⟨x,y⟩=>⟨x,(fun id l e=>by cases e),.inl y,fun B h=>by cases h⟩) (fun _ h=>h) fun _ _ h=>h.elim),?_,fun t=> ?_,fun id o ho=> ?_,(fun i i' l l' g e=>by cases e),(fun i l g e=>by cases e),(fun i l e=>by cases e),fun t ht=>absurd ht (aG t)⟩,fun i hi=>hi.elim⟩
  ·simp;omega
  ·have Mo: ∀{d v},dA (fu w S) d v->Rel (dq w w.heap.size ⟨S,[],w,none,fun _=>False,fun _=>undef⟩ fun _=>none) (fun _=>False) (fun _=>none) d v:=fun hr=>hr.mono (fun ad u ⟨x,y⟩=>⟨x,(fun id l e=>by cases e),.inl y,fun B h=>by cases h⟩) (fun _ h=>h) fun _ _ h=>h.elim
   unfold St.get
   simp only [p7,aq,ba,bJ]
   cases ht:args[t]? with
   |none=>exact .any _
   |some d=>
    have dR:t<vs.size:=by rw [zz];exact (ai.1 ht).1
    have hv:vs[t]? =some vs[t]:=az dR
    have:=Mo (gK t d _ ht hv)
    simp only [av,cS,dR,ba,hv,cD]
    exact this
  ·simp [St.obj,look] at ho
def VU (P:Program) (A:eA) (f:FuncId) (args:List DV) (n:Nat) (dp:List (Nat->DV)):VT:=match P.funcs[f]? with
 |some fn=>match fn.body with
  |some c=>bif (!(fn.name== "runtime.NumGoroutine"))&&Nat.ble args.length fn.ntmps then
    evalCode P A c { t:=entry args 0,h:=[],nx:=0,nt:=fn.ntmps } (VK P fn n dp) else .done [False]
  |none=> .done [False]
 |none=> .done [False]
theorem IE (hm:P.follows .mixedOrders=true) {f:FuncId} {args:List DV} {n:Nat} {dp:List (Nat->DV)} {V:VT} (A:eA) (e:VU P A f args n dp=V) (h:V.holds) (yU:lB P A:=by exact iQ rfl):Vz P f args n dp:=by
 subst e
 unfold VU at h
 split at h
 ·rename_i fn hf
  split at h
  ·rename_i c hb
   cases hx:((!(fn.name== "runtime.NumGoroutine"))&&Nat.ble args.length fn.ntmps) with
   |false=>simp only [hx,ar] at h;exact h.elim
   |true=>
    simp only [hx,ao] at h
    simp only [an,aM] at hx
    exact FnR_of hm hf hb hx.1 (aC hx.2) h yU
  ·exact h.elim
 ·exact h.elim
def ez:DV->Int
 |.val (.int _ n)=>n
 |_=>0
def Uc:DV->Nat
 |.row _ _ _ len=>len
 |_=>0
def cOf (σ:St) (j:Nat):DV->Nat->DV
 |.row _ id _ _=>match σ.obj id with
  |some (.row _ dp)=>match dp[j]? with
   |some c=>c
   |none=>fun _=> .any
  |_=>fun _=> .any
 |_=>fun _=> .any
def Oj (j:Nat):DV->Nat->DV
 |.dt _ dp=>match dp[j]? with
  |some c=>c
  |none=>fun _=> .any
 |_=>fun _=> .any
def ic (j:Nat) (d:DV) (i:Nat):Int:=ez (Oj j d i)
def lenOf:DV->Nat
 |.dt n _=>n
 |_=>0
def arg (l:List DV) (j:Nat):DV:=match l[j]? with
 |some d=>d
 |none=> .any
def fD (j:Nat):DV->DV
 |.val (.agg vs)=>match vs[j]? with
  |some v=> .val v
  |none=> .any
 |.agg cs=>match cs[j]? with
  |some d=>d
  |none=> .any
 |_=> .any
def fI (j:Nat) (d:DV):Int:=ez (fD j d)
abbrev dI (n:Int):DV:= .val (.int .i64 n)
abbrev dB (b:Bool):DV:= .val (.bool b)
end
def rf {α:Sort _} (a:α):Prop:=a=a
theorem Rf:(∀{α:Type} (a:α),rf a=True)/\(∀p:Prop,ri p=True):=⟨fun _=>eq_true rfl,fun _=>eq_true id⟩
end Go.Abs
