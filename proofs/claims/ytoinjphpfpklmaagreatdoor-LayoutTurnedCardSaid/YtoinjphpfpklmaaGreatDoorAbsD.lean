/- Contracts and what they stand on. -/
import Derived.Test.YtoinjphpfpklmaaGreatDoorAbsBK
import Derived.Laws.BytesArg
import Derived.Stop.IfaceNil
set_option linter.unusedVariables false
set_option linter.unusedSimpArgs false
section
namespace Go.Abs
open Go.RowKit
def DV.un:DV->DV
 |.opt _ d=>d.un
 |d=>d
def DV.nw :DV->Option Bool
 |.opt b d=>match d.nw with
  |none=>some b
  |some c=>some (b&&c)
 |_=>none
def DV.closed:DV->Bool
 |.val _=>true
 |.dt _ _=>true
 |.dV _=>true
 |.agg cs=>go cs
 |.fC cs=>go cs
 |.jt _ cs=>go cs
 |.oB _ cs=>go cs
 |.mp .. =>true
 |.any=>true
 |.err _=>true
 |.whole _=>true
 |_=>false
where go:List DV->Bool
 |[]=>true
 |d::r=>bif d.closed then go r else false
def DV.plain:DV->Bool
 |.val _=>true
 |.fC cs=>go cs
 |.agg cs=>go cs
 |_=>false
where go:List DV->Bool
 |[]=>true
 |d::r=>bif d.plain then go r else false
structure fg where
 d:DV:= .any
 hw:List (Nat×Option fF):=[]
 vc:List Prop:=[]
def bad:fg:={ vc:=[False] }
inductive WO where
 |no
 |row (dp:List (Nat->DV))
 |box (cs:List DV)
inductive WA where
 |arg (d:DV)
 |row (n:Nat) (dp eB:List (Nat->DV))
 |box (cs kS:List DV)
inductive fx where
 |no
 |wrap
 |pos
 |res (d:List DV->DV)
 |row (g:List DV->Nat×List (Nat->DV))
 |rowA (g:List DV->List DV×Nat×List (Nat->DV))
 |GF (g:List DV->Nat->Int)
 |take (g:List DV->Nat×(Nat->Int))
 |UW
 |frp
 |wr (g:List DV->List WO×DV)
 |sh (k c:Nat) (g:List DV->List DV×DV)
 |bro (g:Nat->List (Nat->DV)->DV->(Nat->Int)×DV)
 |base
 |th (m:Nat)
def fu (w:World) (S:Nat->Prop):Rd:=fun a u=>Ar w a u/\S a.block
def iC (w':World) (S:Nat->Prop) (base:Nat):Rd:=fun a u=>Ar w' a u/\(S a.block\/base<=a.block)
def gA (P:Program) (f:FuncId):Prop:= ∃fn,P.funcs[f]? =some fn/\fn.body.isNone=false/\(fn.name== "runtime.NumGoroutine")=false
def dv (P:Program) (f:FuncId) (args:List DV) (res:DV):Prop:=gA P f/\ ∀(S:Nat->Prop) (w:World) (vs:Array Value),vs.size=args.length->
 (∀(j:Nat) (d:DV) (v:Value),args[j]? =some d->vs[j]? =some v->dA (fu w S) d v)->jv (fu w S)->
 Calls P f vs w fun e w'=> ∃v,e= .returned v/\dA (iC w' S w.heap.size) res v/\Below w.heap.size w w'
def Vz (P:Program) (f:FuncId) (args:List DV) (n:Nat) (dp:List (Nat->DV)):Prop:=gA P f/\ ∀(S:Nat->Prop) (w:World) (vs:Array Value),vs.size=args.length->
 (∀(j:Nat) (d:DV) (v:Value),args[j]? =some d->vs[j]? =some v->dA (fu w S) d v)->jv (fu w S)->
 Calls P f vs w fun e w'=> ∃v,e= .returned v/\Below w.heap.size w w'/\((v= .slice none 0 0/\n=0)\/ ∃g C cv T,v= .slice (some ⟨g,0,none⟩) n C/\w.heap.size<=g/\w'.heap[g]? =some (.cells cv T (0,0))/\cv.size=C*dp.length/\n<=C/\
  ∀(i j:Nat) (f:Nat->DV),i<n->dp[j]? =some f-> ∃u,cv[i*dp.length+j]? =some u/\eL u=true/\dA (fun a u=>Ar w' a u/\a.block≠g/\(S a.block\/w.heap.size<=a.block)) (f i) u)
def FnA (P:Program) (f:FuncId) (args:List DV) (pre:List DV) (n:Nat) (dp:List (Nat->DV)):Prop:=gA P f/\ ∀(S:Nat->Prop) (w:World) (vs:Array Value),vs.size=args.length->
 (∀(j:Nat) (d:DV) (v:Value),args[j]? =some d->vs[j]? =some v->dA (fu w S) d v)->jv (fu w S)->
 Calls P f vs w fun e w'=> ∃us v,e= .returned (.agg (us++[v]).toArray)/\us.length=pre.length/\Below w.heap.size w w'/\((v= .slice none 0 0/\n=0/\dA (iC w' S w.heap.size) (.agg pre) (.agg us.toArray))\/ ∃g C cv T,v= .slice (some ⟨g,0,none⟩) n C/\w.heap.size<=g/\w'.heap[g]? =some (.cells cv T (0,0))/\cv.size=C*dp.length/\n<=C/\
  (∀(i j:Nat) (f:Nat->DV),i<n->dp[j]? =some f-> ∃u,cv[i*dp.length+j]? =some u/\eL u=true/\dA (fun a u=>Ar w' a u/\a.block≠g/\(S a.block\/w.heap.size<=a.block)) (f i) u)/\
  dA (fun a u=>Ar w' a u/\a.block≠g/\(S a.block\/w.heap.size<=a.block)) (.agg pre) (.agg us.toArray))
def FnT (P:Program) (f:FuncId) (n:Nat) (A A':Nat->Int) (rest:List DV):Prop:=gA P f/\ ∀(w:World) (v0:Value) (vs:List Value),vs.length=rest.length->
 (∀(j:Nat) (d:DV) (v:Value),rest[j]? =some d->vs[j]? =some v->dA (fu w fun _=>True) d v)->
 (v0= .slice none 0 0->n=0->Calls P f (v0::vs).toArray w fun e w'=>e= .returned (.tuple #[])/\Below w.heap.size w w')/\
 ∀(g C:Nat) (cv:Array Value) (T:TypeId),v0= .slice (some ⟨g,0,none⟩) n C->n<=C->w.heap[g]? =some (.cells cv T (0,0))->cv.size=C->(∀i,i<n->cv[i]? =some (.int .i64 (A i)))->
  Calls P f (v0::vs).toArray w fun e w'=>e= .returned (.tuple #[])/\ ∃(s9:Array Value) (w1:World),s9.size=C/\(∀i,i<n->s9[i]? =some (.int .i64 (A' i)))/\
   w1.heap.size=w.heap.size/\w1.os=w.os/\w1.tape=w.tape/\w1.output=w.output/\CO w w1/\(∀k,k≠g->w1.heap[k]? =w.heap[k]?)/\w1.heap[g]? =some (.cells s9 T (0,0))/\Below w1.heap.size w1 w'
def FnK (P:Program) (f:FuncId) (n:Nat) (A:Nat->Int) (n':Nat) (A':Nat->Int):Prop:=gA P f/\ ∀(w:World) (v0:Value),
 (v0= .slice none 0 0->n=0->n'=0/\Calls P f #[v0] w fun e w'=>e= .returned (.slice none 0 0)/\Below w.heap.size w w')/\
 ∀(g C:Nat) (cv:Array Value) (T:TypeId),v0= .slice (some ⟨g,0,none⟩) n C->n<=C->w.heap[g]? =some (.cells cv T (0,0))->cv.size=C->(∀i,i<n->cv[i]? =some (.int .i64 (A i)))->
  n'<=n/\Calls P f #[v0] w fun e w'=>e= .returned (.slice (some ⟨g,0,none⟩) n' C)/\ ∃(s9:Array Value) (w1:World),s9.size=C/\(∀i,i<n'->s9[i]? =some (.int .i64 (A' i)))/\
   w1.heap.size=w.heap.size/\w1.os=w.os/\w1.tape=w.tape/\w1.output=w.output/\CO w w1/\(∀k,k≠g->w1.heap[k]? =w.heap[k]?)/\w1.heap[g]? =some (.cells s9 T (0,0))/\Below w1.heap.size w1 w'
def WN (w:World) (rd:Rd) (g n C:Nat) (dp:List (Nat->DV)):Prop:= ∃cv T,w.heap[g]? =some (.cells cv T (0,0))/\cv.size=C*dp.length/\n<=C/\
 ∀(i j:Nat) (f:Nat->DV),i<n->dp[j]? =some f-> ∃u,cv[i*dp.length+j]? =some u/\eL u=true/\dA rd (f i) u
def IF (w:World) (rd:Rd) (g:Nat) (cs:List DV):Prop:= ∃cv T,w.heap[g]? =some (.cells cv T (0,0))/\cv.size=cs.length/\(∀(j:Nat) (d:DV) (u:Value),cs[j]? =some d->cv[j]? =some u->dA rd d u)/\ ∀u∈cv.toList,eL u=true
def WA.pre (w:World) (S:Nat->Prop) (v:Value) (b:Option Nat):WA->Prop
 |.arg d=>b=none/\dA (fu w S) d v
 |.row n dp eB=>eB.length=dp.length/\((v= .slice none 0 0/\n=0/\b=none)\/ ∃g C,b=some g/\v= .slice (some ⟨g,0,none⟩) n C/\WN w (fu w S) g n C dp)
 |.box cs kS=>kS.length=cs.length/\ ∃g,b=some g/\v= .pointer (some ⟨g,0,none⟩)/\IF w (fu w S) g cs
def WA.post (w:World) (rd:Rd) (v:Value):WA->Prop
 |.arg _=>True
 |.row n _ eB=> ∀g C,v= .slice (some ⟨g,0,none⟩) n C->WN w rd g n C eB
 |.box _ kS=> ∀g,v= .pointer (some ⟨g,0,none⟩)->IF w rd g kS
def IB (rd:Rd) (vs:Array Value) (v:Value):DV->Prop
 |.row _ p _ n=>(vs[p]? =some (.slice none 0 0)/\v= .slice none 0 0/\n=0)\/ ∃g m C,vs[p]? =some (.slice (some ⟨g,0,none⟩) m C)/\v= .slice (some ⟨g,0,none⟩) n C/\n<=C
 |d=>dA rd d v
def WR (P:Program) (f:FuncId) (args:List WA) (res:DV):Prop:=gA P f/\ ∀(S:Nat->Prop) (w:World) (vs:Array Value) (b:Nat->Option Nat),vs.size=args.length->
 (∀(j:Nat) (a:WA) (v:Value),args[j]? =some a->vs[j]? =some v->a.pre w S v (b j))->(∀j,args.length<=j->b j=none)->(∀i j g,b i=some g->b j=some g->i=j)->(∀j g,b j=some g-> ¬S g)->jv (fu w S)->
 Calls P f vs w fun e w'=> ∃v,e= .returned v/\IB (iC w' S w.heap.size) vs v res/\gM w.heap.size (fun k=> ∃j,b j=some k) w w'/\ ∀(j:Nat) (a:WA) (v:Value),args[j]? =some a->vs[j]? =some v->a.post w' (iC w' S w.heap.size) v
def td (g:Nat) (i:Nat):Option Loc:=if i=0 then some (.at_ g 0) else none
def FnS (P:Program) (f:FuncId) (args:List DV) (cs kS:List DV) (res:DV):Prop:=gA P f/\ ∀(S:Nat->Prop) (w:World) (vs:Array Value) (g:Nat),vs.size=args.length->
 (∀(j:Nat) (d:DV) (v:Value),args[j]? =some d->vs[j]? =some v->Rel (fu w S) (fun i=>i=0) (td g) d v)->IF w (fu w S) g cs-> ¬S g->jv (fu w S)->
 Calls P f vs w fun e w'=> ∃v,e= .returned v/\dA (iC w' S w.heap.size) res v/\gM w.heap.size (fun k=>k=g) w w'/\IF w' (iC w' S w.heap.size) g kS
def FnB (P:Program) (f:FuncId) (x:Value) (n:Nat) (U U':Nat->Int) (y:Value):Prop:=gA P f/\ ∀(S:Nat->Prop) (w:World) (gb g C:Nat) (cb cv:Array Value) (T T2:TypeId),jv (fu w S)-> ¬S gb-> ¬S g->w.heap[gb]? =some (.cells cb T (0,0))->cb.size=1->cb[0]? =some (.slice (some ⟨g,0,none⟩) n C)->gb≠g->
 w.heap[g]? =some (.cells cv T2 (0,0))->cv.size=C->n<=C->(∀i,i<n->cv[i]? =some (.int .i64 (U i)))->
 Calls P f #[x,.pointer (some ⟨gb,0,none⟩)] w fun e w'=>e= .returned y/\gM w.heap.size (fun k=>k=gb\/k=g) w w'/\
  (∃cb' T',w'.heap[gb]? =some (.cells cb' T' (0,0))/\cb'.size=1/\cb'[0]? =some (.slice (some ⟨g,0,none⟩) n C))/\ ∃s9 T2',w'.heap[g]? =some (.cells s9 T2' (0,0))/\s9.size=C/\ ∀i,i<n->s9[i]? =some (.int .i64 (U' i))
def Yp (c:Nat->DV):Prop:= ∀i,match c i with
 |.val _=>True
 |_=>False
def Ew:List (Nat->DV)->List Prop
 |[]=>[]
 |c::r=>Yp c::Ew r
def kM (c:Nat->DV):Prop:= ∀i,match c i with
 |.val (.int .i64 _)=>True
 |_=>False
def yO (P:Program) (t:TypeId):Option Bool:=match P.underlying t with
 |some (.struct _)=>some true
 |some (.array _ _)=>some true
 |some _=>some false
 |none=>none
def iv (P:Program) (t:TypeId):Option Nat:=match P.info? t with
 |some i=>some i.size
 |none=>none
def JU (P:Program) (t:TypeId):Option Nat:=match P.info? t with
 |some i=>some i.bytes
 |none=>none
def n3 (P:Program) (t:TypeId):Option (List DV):=match P.info? t with
 |some i=>match i.zero with
  |some z=>(DV.val z).cells?
  |none=>none
 |none=>none
abbrev Heap:=Nat->Option fF
def pW (ob:Heap):DV->Option (List DV×List Prop)
 |.ptr id j=>match ob id with
  |some (.box cs)=>some (cs.drop j,[])
  |_=>none
 |.ka s id i j=>match ob id with
  |some (.row n dp)=>bif Nat.beq dp.length s then some ((dp.drop j).map fun c=>c i,[i<n]) else none
  |some (.pR n dp)=>bif Nat.beq dp.length s then some ((dp.drop j).map fun c=>c i,[i<n]) else none
  |_=>none
 |.dV cs=>some (cs,[])
 |_=>none
def r5 (P:Program) (ob:Heap) (t:TypeId) (p:DV):fg:=
 match yO P t,iv P t,pW ob p with
 |some true,some n,some (cs,vc)=>bif Nat.ble n cs.length then { d:=nd (cs.take n),vc } else bad
 |some false,some _,some (d::_,vc)=>{ d,vc }
 |_,_,_=>bad
def GU (b:Bool):Value->Value->Option Value
 |.int k x,.int k' y=>if k=k' then some (.int k (if b=true then x else y)) else none
 |.bool x,.bool y=>some (.bool (if b=true then x else y))
 |.string x,.string y=>some (.string (if b=true then x else y))
 |_,_=>none
def P7 (b:Bool):DV->DV->DV
 |.val v,.val u=>match GU b v u with
  |some x=> .val x
  |none=> .any
 |_,_=> .any
def mT (f:DV->DV->DV):List (Nat->DV)->List (Nat->DV)->List (Nat->DV)
 |c::r,d::q=>(fun i=>f (c i) (d i))::mT f r q
 |_,_=>[]
def P6 (b:Bool):DV->DV->DV
 |.dt n dp,.dt n' eB=>bif Nat.beq dp.length eB.length then .dt (if b=true then n else n') (mT (P7 b) dp eB) else .any
 |d,e=>P7 b d e
def th (b:Bool):DV->DV->DV
 |.dt n dp,.dt n' eB=>bif Nat.beq dp.length eB.length then .dt (if b=true then n else n') (mT (P6 b) dp eB) else .any
 |d,e=>P6 b d e
def kI (i:Nat):List (Nat->DV)->List DV->List (Nat->DV)
 |c::r,d::q=>(fun i'=>th (decide (i'=i)) d (c i'))::kI i r q
 |r,[]=>r
 |[],_=>[]
def sL (P:Program) (ob:Heap) (t:TypeId) (p d:DV):fg:=
 match iv P t,d.cells? with
 |some n,some vs=>bif Nat.beq n vs.length then
  (match p with
  |.ptr id j=>match ob id with
   |some (.box cs)=>bif Nat.ble (j+n) cs.length then { hw:=[(id,some (.box (cs.take j++(vs++cs.drop (j+n)))))] } else bad
   |_=>bad
  |.ka s id i j=>match ob id with
   |some (.row n' dp)=>bif Nat.beq dp.length s&&Nat.ble (j+n) s&&DV.closed.go vs then
     { hw:=[(id,some (.row n' (dp.take j++kI i (dp.drop j) vs)))],vc:=[i<n'] } else bad
   |_=>bad
  |_=>bad) else bad
 |_,_=>bad
def r6 (P:Program) (s:TypeId) (x:DV) (f:Nat):fg:=
 match P.underlying s with
 |some (.struct fs)=>match fs[f]? with
  |some fd=>match iv P fd.type with
   |some (_+1)=>match x with
    |.ptr id j=>{ d:= .ptr id (j+fd.offset) }
    |.ka s id i j=>{ d:= .ka s id i (j+fd.offset) }
    |.kO s id i j=>(match j+fd.offset with
     |0=>{ d:= .kO s id i 0 }
     |1=>{ d:= .kO s id i 1 }
     |2=>{ d:= .kO s id i 2 }
     |3=>{ d:= .kO s id i 3 }
     |_=>bad)
    |.dV cs=>{ d:= .dV (cs.drop fd.offset) }
    |_=>bad
   |_=>bad
  |none=>bad
 |_=>bad
def ju:DV->Option (List DV)
 |.agg cs=>some cs
 |.val (.agg vs)=>some (vs.toList.map .val)
 |_=>none
def Fu (P:Program) (t:TypeId) (x:DV) (f:Nat):fg:=
 match P.underlying t with
 |some (.struct fs)=>match fs[f]? with
  |some fd=>match yO P fd.type,iv P fd.type,ju x with
   |some true,some n,some cs=>bif Nat.ble (fd.offset+n) cs.length then { d:=nd ((cs.drop fd.offset).take n) } else bad
   |some false,some _,some cs=>match cs[fd.offset]? with
    |some d=>{ d }
    |none=>bad
   |_,_,_=>bad
  |none=>bad
 |_=>bad
def ml (off i:Nat):Nat:=match off with
 |0=>i
 |off+1=>off+1+i
def je (ob:Heap) (id s:Nat):Bool:=match ob id with
 |some (.row _ dp)=>Nat.beq dp.length s
 |_=>false
def xB (ob:Heap) (id s:Nat):Bool:=match ob id with
 |some (.row _ dp)=>Nat.beq dp.length s
 |some (.pR _ dp)=>Nat.beq dp.length s
 |_=>false
def lz (s:ByteArray) (i:Nat):Int:=((s.data.getD i 0).toNat:Int)
def ik:List DV->Option (IntKind×List Int)
 |[]=>none
 |[.val (.int k x)]=>some (k,[x])
 |.val (.int k x)::r=>match ik r with
  |some (k',l)=>if k=k' then some (k,x::l) else none
  |none=>none
 |_=>none
def Mb (cs:List DV):Nat->DV:=match cs with
 |[d]=>fun _=>d
 |cs=>match ik cs with
  |some (k,l)=>fun i=> .val (.int k (l.getD i 0))
  |none=>fun i=>cs.getD i .any
def TR:Nat->List DV->Nat->DV
 |_,[],_=> .any
 |_,[d],_=>d
 |k,d::r,i=>th (decide (i=k)) d (TR (k+1) r i)
def EZ (cs:List DV):Nat->DV:=match cs with
 |[d]=>fun _=>d
 |cs=>match ik cs with
  |some (k,l)=>fun i=> .val (.int k (l.getD i 0))
  |none=>fun i=>TR 0 cs i
def every (s j:Nat):Nat->List DV->List DV
 |0,_=>[]
 |n+1,cs=>match cs[j]? with
  |some d=>d::every s j n (cs.drop s)
  |none=>[]
def mS (P:Program) (ob:Heap) (t:TypeId) (m:Nat):DV->fg
 |.ka s id i j=>match yO P t,ob id with
  |some false,some (.row n dp)=>bif Nat.beq dp.length s&&Nat.ble m dp.length then (match ik ((dp.take m).map fun c=>c i) with
   |some (k,l)=>{ d:= .val (.int k (l.getD j 0)),vc:=[i<n,j<m] }
   |none=>bad) else bad
  |_,_=>bad
 |.ptr id j=>match yO P t,ob id with
  |some false,some (.box cs)=>bif Nat.ble m cs.length then (match ik (cs.take m) with
   |some (k,l)=>{ d:= .val (.int k (l.getD j 0)),vc:=[j<m] }
   |none=>bad) else bad
  |_,_=>bad
 |_=>bad
def ky (P:Program) (ob:Heap) (t:TypeId) (x i:DV):fg:=
 match P.underlying t,i with
 |some (.slice e),.val (.int _ k)=>match iv P e,x with
  |some s,.row s' id off len=>bif Nat.beq s s' then { d:= .ka s id (ml off k.toNat) 0,vc:=[0<=k/\k<(len:Int)] } else (bif Nat.beq s' 0&&(Nat.beq s 1&&Nat.beq off 0) then { d:= .ptr id k.toNat,vc:=[0<=k/\k<(len:Int)] } else bad)
  |some s,.dt n dp=>bif Nat.beq dp.length s then { d:= .dV (dp.map fun c=>c k.toNat),vc:=[0<=k/\k<(n:Int)] } else bad
  |some s,.s6 s' id n=>bif Nat.beq s s' then { d:= .kO s id k.toNat 0,vc:=[0<=k/\k<(n:Int)] } else bad
  |_,_=>bad
 |some (.array len e),.val (.int _ k)=>match iv P e,x with
  |some s,.ptr id j=>{ d:= .ptr id (j+k.toNat*s),vc:=[0<=k/\k<(len:Int)] }
  |some s,.ka s' id q j=>{ d:= .ka s' id q (j+k.toNat*s),vc:=[0<=k/\k<(len:Int)] }
  |some s,.dV cs=>bif Nat.ble (len*s) cs.length then { d:= .dV ((List.range s).map fun j=>EZ (every s j len cs) k.toNat),vc:=[0<=k/\k<(len:Int)] } else bad
  |_,_=>bad
 |_,_=>bad
def Fq (P:Program) (t:TypeId) (x i:DV):fg:=
 match P.underlying t,x,i with
 |some .string,.val (.string s),.val (.int _ k)=>{ d:= .val (.int .u8 (lz s k.toNat)),vc:=[0<=k/\k<(s.size:Int)] }
 |some (.array len e),x,.val (.int _ k)=>match yO P e,iv P e,ju x with
  |some false,some 1,some cs=>bif Nat.beq cs.length len then { d:=Mb cs k.toNat,vc:=[0<=k/\k<(len:Int)] } else bad
  |some true,some s,some cs=>bif Nat.beq cs.length (len*s) then { d:=nd ((List.range s).map fun j=>Mb (every s j len cs) k.toNat),vc:=[0<=k/\k<(len:Int)] } else bad
  |_,_,_=>bad
 |_,_,_=>bad
def dh (n:Int):Prop:= -9223372036854775808<=n/\n<=9223372036854775807
def RP (oc:fx) (op:BinOp) (k:IntKind) (x y:Int):fg:=
 match op,oc with
 |.eql,_=>{ d:= .val (.bool (x==y)) }
 |.neq,_=>{ d:= .val (.bool (x !=y)) }
 |.lss,_=>{ d:= .val (.bool (decide (x<y))) }
 |.leq,_=>{ d:= .val (.bool (decide (x<=y))) }
 |.gtr,_=>{ d:= .val (.bool (decide (x>y))) }
 |.geq,_=>{ d:= .val (.bool (decide (x>=y))) }
 |.add,.no=>match k with
  |.i64=>{ d:= .val (.int .i64 (x+y)),vc:=[dh (x+y)] }
  |_=>{ d:= .val (.int k (k.wrap (x+y))) }
 |.add,_=>{ d:= .val (.int k (k.wrap (x+y))) }
 |.sub,.no=>match k with
  |.i64=>{ d:= .val (.int .i64 (x - y)),vc:=[dh (x - y)] }
  |_=>{ d:= .val (.int k (k.wrap (x - y))) }
 |.sub,_=>{ d:= .val (.int k (k.wrap (x - y))) }
 |.mul,.no=>match k with
  |.i64=>{ d:= .val (.int .i64 (x*y)),vc:=[dh (x*y)] }
  |_=>{ d:= .val (.int k (k.wrap (x*y))) }
 |.mul,_=>{ d:= .val (.int k (k.wrap (x*y))) }
 |.quo,.pos=>match k with
  |.i64=>{ d:= .val (.int .i64 (x/y)),vc:=[0<=x/\0<y/\x<=9223372036854775807] }
  |_=>bad
 |.quo,_=>{ d:= .val (.int k (k.wrap (x.tdiv y))),vc:=[y≠0] }
 |.rem,.pos=>{ d:= .val (.int k (x%y)),vc:=[0<=x/\0<y] }
 |.rem,_=>{ d:= .val (.int k (x.tmod y)),vc:=[y≠0] }
 |.and,_=>match k with
  |.i64=>{ d:= .val (.int .i64 (x%4)),vc:=[0<=x/\x<=9223372036854775807/\y=3] }
  |_=>bad
 |_,_=>bad
def RM (op:BinOp) (x y:ByteArray):fg:=
 match op with
 |.add=>{ d:= .val (.string (x++y)),vc:=[x.size+y.size<=9223372036854775807] }
 |.eql=>{ d:= .val (.bool (x.toList==y.toList)) }
 |.neq=>{ d:= .val (.bool (!(x.toList==y.toList))) }
 |.lss=>{ d:= .val (.bool (Op.bytesLess x.toList y.toList)) }
 |_=>bad
def RT (oc:fx) (op:BinOp):DV->DV->fg
 |.val (.int k x),.val (.int k' y)=>if k=k' then RP oc op k x y else bad
 |.val (.string x),.val (.string y)=>RM op x y
 |_,_=>bad
def UZ (P:Program) (neg:Bool) (t:TypeId):DV->DV->fg
 |.val (.bool x),.val (.bool y)=>match P.underlying t with
  |some .bool=>{ d:= .val (.bool (if neg then !(x==y) else (x==y))) }
  |_=>bad
 |_,_=>bad
def DL (P:Program) (t:TypeId) (cs:List DV) (off:Nat):Option DV:=match yO P t,iv P t with
 |some true,some n=>bif Nat.ble (off+n) cs.length then some (nd ((cs.drop off).take n)) else none
 |some false,_=>cs[off]?
 |_,_=>none
def KG (P:Program) (g:TypeId->DV->DV->Option Bool) (xs ys:List DV):List Field->Option Bool
 |[]=>some true
 |f::fs=>bif f.name== "_" then none else match DL P f.type xs f.offset,DL P f.type ys f.offset with
  |some d,some e=>match g f.type d e,KG P g xs ys fs with
   |some a,some b=>some (a&&b)
   |_,_=>none
  |_,_=>none
def KF (P:Program) (g:DV->DV->Option Bool) (e:TypeId) (sz:Nat) (xs ys:List DV):List Nat->Option Bool
 |[]=>some true
 |i::is=>match DL P e xs (i*sz),DL P e ys (i*sz) with
  |some d,some d'=>match g d d',KF P g e sz xs ys is with
   |some a,some b=>some (a&&b)
   |_,_=>none
  |_,_=>none
def RU (P:Program):Nat->TypeId->DV->DV->Option Bool
 |0,_,_,_=>none
 |d+1,t,x,y=>match P.underlying t with
  |some (.int _)=>match x,y with
   |.val (.int k a),.val (.int k' b)=>if k=k' then some (a==b) else none
   |_,_=>none
  |some .bool=>match x,y with
   |.val (.bool a),.val (.bool b)=>some (a==b)
   |_,_=>none
  |some .string=>match x,y with
   |.val (.string a),.val (.string b)=>some (a.toList==b.toList)
   |_,_=>none
  |some (.struct fs)=>match ju x,ju y with
   |some xs,some ys=>bif P.stoodInHeld t then none else KG P (RU P d) xs ys fs.toList
   |_,_=>none
  |some (.array n e)=>match ju x,ju y,iv P e with
   |some xs,some ys,some sz=>KF P (RU P d e) e sz xs ys (List.range n)
   |_,_,_=>none
  |_=>none
def RR (P:Program) (op:BinOp) (t:TypeId) (x y:DV):fg:=bif P.eqGuardType P.depth t then bad else match ju x,ju y,RU P 8 t x y,op with
 |some _,some _,some b,.eql=>{ d:= .val (.bool b) }
 |some _,some _,some b,.neq=>{ d:= .val (.bool !b) }
 |_,_,_,_=>bad
def Qp:Operand->Bool
 |.const _=>true
 |_=>false
def RQ (P:Program) (t:TypeId) (z:Operand) (b:Bool):fg:=bif P.isIface t then (bif Qp z then { d:= .val (.bool !b) } else bad) else bad
def ZS (op:UnOp):DV->fg
 |.val (.bool b)=>match op with
  |.not=>{ d:= .val (.bool !b) }
  |_=>bad
 |.val (.int k n)=>match op,k with
  |.neg,.i64=>{ d:= .val (.int .i64 (-n)),vc:=[dh (-n)] }
  |_,_=>bad
 |_=>bad
def KE (P:Program) (dst:TypeId):DV->fg
 |.val (.int _ n)=>match P.underlying dst with
  |some (.int .i64)=>{ d:= .val (.int .i64 n),vc:=[dh n] }
  |some (.int k)=>{ d:= .val (.int k (k.wrap n)) }
  |_=>bad
 |_=>bad
def xO:DV->Nat->fg
 |.fC cs,i=>match cs[i]? with
  |some d=>{ d }
  |none=>bad
 |.val (.tuple vs),i=>match vs[i]? with
  |some v=>{ d:= .val v }
  |none=>bad
 |_,_=>bad
def tA (place:Nat->Option (Nat×Nat)) (cells:List DV):List (Nat×DV)->Option (List DV)
 |[]=>some cells
 |(i,d)::rest=>match place i,d.cells? with
  |some (off,size),some vs=>bif Nat.beq vs.length size&&Nat.ble (off+vs.length) cells.length then
    tA place (cells.take off++(vs++cells.drop (off+vs.length))) rest else none
  |_,_=>none
def placesOf (P:Program) (fs:Array Field):Option (List (Nat×Nat)):=fs.toList.mapM fun f=>(P.info? f.type).map fun i=>(f.offset,i.size)
def Fw (P:Program) (t:TypeId) (parts:List (Nat×DV)):fg:=
 match P.underlying t,n3 P t with
 |some (.struct fs),some z=>match placesOf P fs with
  |some ps=>match tA (fun i=>ps[i]?) z parts with
   |some cs=>{ d:=nd cs }
   |none=>bad
  |none=>bad
 |some (.array _ e),some z=>match iv P e with
  |some s=>match tA (fun i=>some (i*s,s)) z parts with
   |some cs=>{ d:=nd cs }
   |none=>bad
  |none=>bad
 |_,_=>bad
def iR (P:Program) (id:Nat) (t:TypeId) (len:Nat) (parts:List (Nat×DV)):fg:=
 match P.underlying t with
 |some (.slice e)=>match iv P e,n3 P e with
  |some s,some z=>bif Nat.beq z.length s&&Nat.ble (len*s) 16777216 then
   (match tA (fun i=>some (i*s,s)) (List.flatten (List.replicate len z)) parts with
   |some cs=>bif DV.closed.go cs then
     (match len with
     |0=>{ d:= .row s id 0 0,hw:=[(id,some (.row 0 (z.map fun d _=>d)))] }
     |_=>{ d:= .row s id 0 len,hw:=[(id,some (.row len ((List.range s).map fun j=>EZ (every s j len cs))))] }) else (bif Nat.beq s 1 then { d:= .row 0 id 0 len,hw:=[(id,some (.box cs))] } else bad)
   |none=>bad) else bad
  |_,_=>bad
 |_=>bad
def rZ (P:Program) (id:Nat) (t:TypeId):DV->DV->fg
 |.val (.int _ n),.val (.int _ c)=>match P.underlying t with
  |some (.slice e)=>match P.info? e,n3 P e with
   |some i,some cs=>bif Nat.beq cs.length i.size&&Nat.ble 1 cs.length then { d:= .row cs.length id 0 n.toNat,hw:=[(id,some (.row n.toNat (cs.map fun d _=>d)))],vc:=[0<=n/\n=c/\n<=140737488355328/\i.bytes*n.toNat<=281474976710656] } else bad
   |_,_=>bad
  |_=>bad
 |_,_=>bad
def BK:List DV->Bool
 |[]=>true
 |.val (.slice none 0 0)::r=>BK r
 |_=>false
def uw (P:Program) (id:Nat) (t:TypeId):DV->DV->fg
 |.val (.int _ n),.val (.int _ c)=>match P.underlying t with
  |some (.slice e)=>match P.info? e,n3 P e with
   |some i,some cs=>bif Nat.beq cs.length i.size&&(Nat.ble 1 cs.length&&BK cs) then { d:= .s6 cs.length id n.toNat,hw:=[(id,some (.jc n.toNat cs.length (fun _ _=>0) (fun _ _ _=> .val (.int .i64 0)) none))],vc:=[0<=n/\n=c/\n<=140737488355328/\i.bytes*n.toNat<=281474976710656] } else bad
   |_,_=>bad
  |_=>bad
 |_,_=>bad
def qx (P:Program) (oc:fx) (id:Nat) (t:TypeId) (x y:DV):fg:=match oc with
 |.base=>uw P id t x y
 |_=>rZ P id t x y
def Ft (P:Program) (ob:Heap) (id:Nat) (t:TypeId) (s g i j:Nat):fg:=match yO P t,iv P t,ob g with
 |some false,some 1,some (.jc n s' len eQ none)=>bif Nat.beq s s'&&Nat.blt j s then
   { d:= .row 1 id 0 (len i j),hw:=[(id,some (.row (len i j) [eQ i j])),(g,some (.jc n s' len eQ (some (i,j))))],vc:=[i<n] } else bad
 |_,_,_=>bad
def MA (P:Program) (ob:Heap) (t:TypeId) (s g i j:Nat):DV->fg
 |.row 1 r 0 m=>match iv P t,ob g,ob r with
  |some 1,some (.jc n s' len eQ (some (i0,j0))),some (.row m' [c])=>bif Nat.beq s s'&&(Nat.beq j j0&&Nat.blt j s) then
    { hw:=[(g,some (.jc n s' (fun i' j'=>bif Nat.beq j' j then (if i'=i then m else len i' j') else len i' j') (fun i' j' q=>bif Nat.beq j' j then th (decide (i'=i)) (c q) (eQ i' j' q) else eQ i' j' q) none)),(r,none)],vc:=[i=i0,i<n,m=m'] } else bad
  |_,_,_=>bad
 |_=>bad
def qy (P:Program) (oc:fx) (ob:Heap) (id:Nat) (t:TypeId):DV->fg
 |.kO s g i j=>Ft P ob id t s g i j
 |p=>match oc with
  |.th m=>mS P ob t m p
  |_=>r5 P ob t p
def nr (P:Program) (ob:Heap) (t:TypeId) (p d:DV):fg:=match p with
 |.kO s g i j=>MA P ob t s g i j d
 |p=>sL P ob t p d
def Fx (P:Program) (id:Nat) (t:TypeId):fg:=
 match n3 P t with
 |some z=>{ d:= .ptr id 0,hw:=[(id,some (.box z))] }
 |none=>bad
def RS (id:Nat) (x:DV):fg:=
 match x.cells? with
 |some cs=>{ d:= .ptr id 0,hw:=[(id,some (.box cs))] }
 |none=>bad
def KC (c a b:DV):fg:=
 match c.un with
 |.val (.bool p)=>
  { d:=th p a.un b.un,vc:=(match c.nw with|none=>[]|some q=>[q=true])++((match a.nw with|none=>[]|some q=>[p=true->q=true])++(match b.nw with|none=>[]|some q=>[p=false->q=true])) }
 |_=>bad
def oH:List DV->Option (List Int)
 |[]=>some []
 |.val (.int .i64 n)::r=>match oH r with
  |some l=>some (n::l)
  |none=>none
 |_=>none
def hP:Int->List Int->Int
 |x,[]=>x
 |x,y::r=>hP (if y>x then y else x) r
def iD:Int->List Int->Int
 |x,[]=>x
 |x,y::r=>iD (if y<x then y else x) r
def RO (P:Program) (t:TypeId):DV->fg
 |.dt n _=>match P.underlying t with
  |some (.slice _)=>{ d:= .val (.int .i64 (n:Int)) }
  |_=>bad
 |.val (.slice none n _)=>match P.underlying t with
  |some (.slice _)=>{ d:= .val (.int .i64 (n:Int)) }
  |_=>bad
 |.val (.string s)=>match P.underlying t with
  |some .string=>{ d:= .val (.int .i64 (s.size:Int)) }
  |_=>bad
 |_=>bad
def Ec (P:Program) (ob:Heap) (t:TypeId):DV->fg
 |.row _ _ _ len=>match P.underlying t with
  |some (.slice _)=>{ d:= .val (.int .i64 (len:Int)) }
  |_=>bad
 |.s6 _ _ len=>match P.underlying t with
  |some (.slice _)=>{ d:= .val (.int .i64 (len:Int)) }
  |_=>bad
 |d=>RO P t d
def By (n:Nat) (c d:Nat->DV):Nat->DV:=fun i=>th (decide (i<n)) (c i) (d (i - n))
def kF (n:Nat):List (Nat->DV)->List (Nat->DV)->List (Nat->DV)
 |c::r,d::q=>By n c d::kF n r q
 |_,_=>[]
def source (ob:Heap) (s:Nat):DV->Option (Nat×List (Nat->DV)×List Prop)
 |.dt n dp=>bif Nat.beq dp.length s then some (n,dp,[]) else none
 |.row s' id off len=>match ob id with
  |some (.row n dp)=>bif Nat.beq s s'&&Nat.beq dp.length s then
    some (len,dp.map fun c i=>c (i+off),[len+off<=n]) else none
  |_=>none
 |.val (.slice none 0 0)=>some (0,List.replicate s fun _=> .any,[])
 |.tok t m=>match ob m with
  |some (.np _ len eQ qY none)=>match look qY t with
   |some l=>bif Nat.beq s 1 then some (len l,[eQ l],[]) else none
   |none=>none
  |_=>none
 |_=>none
def pC (P:Program) (ob:Heap) (id:Nat) (t:TypeId) (x y:DV):fg:=
 match P.underlying t with
 |some (.slice e)=>match iv P e,JU P e,n3 P e with
  |some s,some (Ij+1),some z=>bif Nat.beq z.length s&&Nat.ble 1 s then
   (match source ob s y with
   |some (m,jI,Yo)=>bif Nat.beq jI.length s then
    (match x with
    |.val (.slice none 0 0)=>{ d:= .row s id 0 m,hw:=[(id,some (.row m jI))],vc:=(m*(Ij+1)<=140737488355328)::Yo }
    |.row s' r 0 len=>match ob r with
     |some (.row n dp)=>bif Nat.beq s s'&&Nat.beq dp.length s then
       { d:= .row s id 0 (len+m),hw:=[(id,some (.row (len+m) (kF len dp jI))),(r,none)],vc:=(len<=n)::((len+m)*(Ij+1)<=140737488355328)::Yo } else bad
     |some (.pR n dp)=>bif Nat.beq s s'&&Nat.beq dp.length s then
       { d:= .row s id 0 (len+m),hw:=[(id,some (.pR (len+m) (kF len dp jI))),(r,none)],vc:=(len<=n)::((len+m)*(Ij+1)<=140737488355328)::Yo } else bad
     |_=>bad
    |.tok tk mi=>match ob mi with
     |some (.np ks len eQ qY none)=>match look qY tk with
      |some l=>bif Nat.beq s 1 then
        { d:= .row s id 0 (len l+m),hw:=[(id,some (.row (len l+m) (kF (len l) [eQ l] jI))),(mi,some (.np ks len eQ [] (some l)))],vc:=((len l+m)*(Ij+1)<=140737488355328)::Yo } else bad
      |none=>bad
     |_=>bad
    |_=>bad) else bad
   |none=>bad) else bad
  |_,_,_=>bad
 |_=>bad
def nh (ob:Heap):DV->Option (DV×List Prop)
 |.row s id off len=>match ob id with
  |some (.row n dp)=>bif Nat.beq dp.length s then
    some (.dt len (dp.map fun c i=>c (i+off)),[len+off<=n]) else none
  |_=>none
 |.lg m=>match ob m with
  |some (.map ks has eQ _)=>some (.mp ks has eQ,[])
  |_=>none
 |d=>bif d.closed then some (d,[]) else none
def jT (ob:Heap):List DV->Option (List DV×List Prop)
 |[]=>some ([],[])
 |d::r=>match nh ob d,jT ob r with
  |some (e,vc),some (es,vcs)=>some (e::es,vc++vcs)
  |_,_=>none
def uj:List DV->Bool
 |[]=>false
 |.row .. ::_=>true
 |.lg _::_=>true
 |_::r=>uj r
def eu:List DV->List (Nat×Option fF)
 |[]=>[]
 |.row _ id _ _::r=>(id,none)::eu r
 |.lg id::r=>(id,none)::eu r
 |_::r=>eu r
def MM (P:Program) (f:FuncId) (args es:List DV) (vc:List Prop) (d:DV):fg:=
 bif uj args then (bif d.plain then { d,vc:=vc++[dv P f es d] } else (bif d.closed then { d,hw:=eu args,vc:=vc++[dv P f es d] } else bad))
  else (bif d.closed then { d,vc:=vc++[dv P f es d] } else bad)
def qM (ob:Heap):DV->Option (DV×List Prop)
 |.ptr id 0=>match ob id with
  |some (.box cs)=>bif DV.closed.go cs then some (.dV cs,[]) else none
  |_=>none
 |d=>nh ob d
def ng (ob:Heap):List DV->Option (List DV×List Prop)
 |[]=>some ([],[])
 |d::r=>match qM ob d,ng ob r with
  |some (e,vc),some (es,vcs)=>some (e::es,vc++vcs)
  |_,_=>none
def qN (ob:Heap):DV->Option (DV×List Prop)
 |.jt f cs=>match ng ob cs with
  |some (es,vc)=>some (.jt f es,vc)
  |none=>none
 |.agg cs=>match ng ob cs with
  |some (es,vc)=>some (.agg es,vc)
  |none=>none
 |d=>qM ob d
def kc (ob:Heap):List DV->Option (List DV×List Prop)
 |[]=>some ([],[])
 |d::r=>match qN ob d,kc ob r with
  |some (e,vc),some (es,vcs)=>some (e::es,vc++vcs)
  |_,_=>none
def Bc:List DV->Bool
 |[]=>false
 |.row .. ::r=>Bc r
 |.lg _::r=>Bc r
 |d::r=>bif d.closed then Bc r else true
def jr:List DV->Bool
 |[]=>true
 |.jt _ cs::r=>bif DV.closed.go cs then jr r else false
 |.oB _ cs::r=>bif DV.closed.go cs then jr r else false
 |.agg cs::r=>bif DV.closed.go cs then jr r else false
 |_::r=>jr r
def P9 (P:Program) (f:FuncId) (id:Nat) (args es:List DV) (vc:List Prop):Nat×List (Nat->DV)->fg
 |(n,dp)=>{ d:= .row dp.length id 0 n,hw:=(id,some (.row n dp))::eu args,vc:=vc++[Vz P f es n dp] }
def LK (P:Program) (f:FuncId) (id:Nat) (args es:List DV) (vc:List Prop):List DV×Nat×List (Nat->DV)->fg
 |(pre,n,dp)=>bif DV.closed.go pre then { d:= .agg (pre++[.row dp.length id 0 n]),hw:=(id,some (.row n dp))::eu args,vc:=vc++[FnA P f es pre n dp] } else bad
def vI:DV->Int
 |.val (.int _ n)=>n
 |_=>0
def uN (P:Program) (f:FuncId) (ob:Heap) (A':Nat->Int):List DV->fg
 |.row s r off len::rest=>match off,ob r with
  |0,some (.row n [c])=>bif Nat.beq s 1&&DV.closed.go rest then
    { d:= .val (.tuple #[]),hw:=[(r,some (.row n [fun i=> .val (.int .i64 (A' i))]))],vc:=[len=n,kM c,FnT P f n (fun i=>vI (c i)) A' rest] } else bad
  |_,_=>bad
 |_=>bad
def uO (P:Program) (f:FuncId) (ob:Heap) (n':Nat) (A':Nat->Int):List DV->fg
 |[.row s r off len]=>match off,ob r with
  |0,some (.row n [c])=>bif Nat.beq s 1 then
    { d:= .row 1 r 0 n',hw:=[(r,some (.row n' [fun i=> .val (.int .i64 (A' i))]))],vc:=[len=n,kM c,FnK P f n (fun i=>vI (c i)) n' A'] } else bad
  |_,_=>bad
 |_=>bad
def oR (ob:Heap):DV->WO->Option (WA×List (Nat×Option fF)×List Prop)
 |.row s id off len,.row eB=>match off,ob id with
  |0,some (.row n dp)=>bif Nat.beq dp.length s&&Nat.beq eB.length s then some (.row len dp eB,[(id,some (.row len eB))],(len=n)::Ew eB) else none
  |_,_=>none
 |.ptr id 0,.box kS=>match ob id with
  |some (.box cs)=>bif Nat.beq kS.length cs.length&&(DV.closed.go cs&&DV.plain.go kS) then some (.box cs kS,[(id,some (.box kS))],[]) else none
  |_=>none
 |d,.no=>match qN ob d with
  |some (e,vc)=>some (.arg e,[],vc)
  |none=>none
 |_,_=>none
def PJ:List WO->WO
 |[]=> .no
 |o::_=>o
def q7 (ob:Heap):List DV->List WO->Option (List WA×List (Nat×Option fF)×List Prop)
 |[],_=>some ([],[],[])
 |d::r,q=>match oR ob d (PJ q),q7 ob r q.tail with
  |some (a,h,vc),some (as,hs,vcs)=>some (a::as,h++hs,vc++vcs)
  |_,_=>none
def lj:DV->List Nat
 |.row _ id _ _=>[id]
 |.ptr id _=>[id]
 |.lg id=>[id]
 |_=>[]
def jA:DV->List Nat
 |.jt _ cs=>go cs
 |.agg cs=>go cs
 |d=>lj d
where go:List DV->List Nat
 |[]=>[]
 |d::r=>lj d++go r
def qH:List DV->List Nat
 |[]=>[]
 |d::r=>jA d++qH r
def vu:List Nat->List DV
 |[]=>[]
 |i::r=> .lg i::vu r
def V0 (d:DV):WO->List Nat
 |.no=>jA d
 |_=>[]
def Tv:List DV->List WO->List Nat
 |[],_=>[]
 |d::r,q=>V0 d (PJ q)++Tv r q.tail
def AJ:List Nat->Bool
 |[]=>true
 |x::r=>bif r.any (Nat.beq x) then false else AJ r
def KU (l m:List Nat):Bool:=l.all fun x=> !(m.any (Nat.beq x))
def PH (args:List DV):DV->Option DV
 |.row s p off n=>match off,args[p]? with
  |0,some (.row s' id 0 _)=>bif Nat.beq s s' then some (.row s id 0 n) else none
  |_,_=>none
 |d=>bif d.plain then some d else none
def Dn (P:Program) (f:FuncId) (ob:Heap) (args:List DV) (g:List DV->List WO×DV):fg:=match kc ob args with
 |some (es,_)=>match q7 ob args (g es).1,PH args (g es).2 with
  |some (was,hw,vc),some d=>bif AJ (hw.map (·.1))&&KU (Tv args (g es).1) (hw.map (·.1)) then { d,hw,vc:=vc++[WR P f was (g es).2] } else bad
  |_,_=>bad
 |none=>bad
def GO (ob:Heap) (id:Nat):DV->Option (DV×List Prop)
 |.ptr i 0=>bif Nat.beq i id then some (.ptr 0 0,[]) else qM ob (.ptr i 0)
 |d=>bif (lj d).any (Nat.beq id) then none else qM ob d
def GP (ob:Heap) (id:Nat):List DV->Option (List DV×List Prop)
 |[]=>some ([],[])
 |d::r=>match GO ob id d,GP ob id r with
  |some (e,vc),some (es,vcs)=>some (e::es,vc++vcs)
  |_,_=>none
def YB (ob:Heap) (id:Nat):DV->Option (DV×List Prop)
 |.jt f cs=>match GP ob id cs with
  |some (es,vc)=>some (.jt f es,vc)
  |none=>none
 |d=>bif (jA d).any (Nat.beq id) then none else qN ob d
def GS (ob:Heap) (id:Nat):List DV->Option (List DV×List Prop)
 |[]=>some ([],[])
 |d::r=>match YB ob id d,GS ob id r with
  |some (e,vc),some (es,vcs)=>some (e::es,vc++vcs)
  |_,_=>none
def Yz (args:List DV) (k c:Nat):Option Nat:=match args[k]? with
 |some (.jt _ cs)=>match cs[c]? with
  |some (.ptr id 0)=>some id
  |_=>none
 |_=>none
def others (id:Nat) (args:List DV):List Nat:=(qH args).filter fun i=> !(Nat.beq i id)
def DA (P:Program) (f:FuncId) (ob:Heap) (args:List DV) (k c:Nat) (g:List DV->List DV×DV):fg:=match Yz args k c with
 |some id=>match kc ob args,GS ob id args with
  |some (es,_),some (ds,vc)=>match ob id with
   |some (.box cs)=>bif Nat.beq (g es).1.length cs.length&&(DV.closed.go cs&&(DV.plain.go (g es).1&&((g es).2.closed&& !(g es).2.plain))) then
     { d:=(g es).2,hw:=(id,some (.box (g es).1))::eu (vu (others id args)),vc:=vc++[FnS P f ds cs (g es).1 (g es).2] } else bad
   |_=>bad
  |_,_=>bad
 |none=>bad
def FF (P:Program) (f:FuncId) (x:DV) (b s r len:Nat) (g:Nat->List (Nat->DV)->DV->(Nat->Int)×DV):Option fF->fg
 |some (.row n [c])=>match x,(g len [c] x).2 with
  |.val u,.val y=>bif Nat.beq s 1&& !(Nat.beq b r) then
    { d:= .val y,hw:=[(r,some (.row len [fun i=> .val (.int .i64 ((g len [c] x).1 i))]))],vc:=[len=n,0<len,kM c,FnB P f u len (fun i=>vI (c i)) (g len [c] x).1 y] } else { hw:=[(r,none)],vc:=[False] }
  |_,_=>{ hw:=[(r,none)],vc:=[False] }
 |_=>{ hw:=[(r,none)],vc:=[False] }
def uB (P:Program) (f:FuncId) (ob:Heap) (args:List DV) (g:Nat->List (Nat->DV)->DV->(Nat->Int)×DV):fg:=match args with
 |[x,.ptr b 0]=>match ob b with
  |some (.box [.row s r 0 len])=>FF P f x b s r len g (ob r)
  |_=>bad
 |_=>bad
def r7 (P:Program) (oc:fx) (id:Nat) (ob:Heap) (f:FuncId) (args:List DV):fg:=
 match oc with
 |.res g=>bif Bc args then (match kc ob args with
   |some (es,vc)=>bif (g es).plain then { d:=g es,vc:=vc++[dv P f es (g es)] } else (bif (g es).closed then { d:=g es,hw:=eu (vu (qH args)),vc:=vc++[dv P f es (g es)] } else bad)
   |none=>bad)
  else (match jT ob args with
   |some (es,vc)=>MM P f args es vc (g es)
   |none=>bad)
 |.row g=>match jT ob args with
  |some (es,vc)=>P9 P f id args es vc (g es)
  |none=>bad
 |.rowA g=>match jT ob args with
  |some (es,vc)=>LK P f id args es vc (g es)
  |none=>bad
 |.GF g=>match jT ob args with
  |some (es,_)=>uN P f ob (g es) args
  |none=>bad
 |.take g=>match jT ob args with
  |some (es,_)=>uO P f ob (g es).1 (g es).2 args
  |none=>bad
 |.wr g=>Dn P f ob args g
 |.sh k c g=>DA P f ob args k c g
 |.bro g=>uB P f ob args g
 |_=>bad
def oB (n:Int):Option DV->Option Int
 |none=>some n
 |some (.val (.int _ k))=>some k
 |some _=>none
def sM (P:Program) (ob:Heap) (t:TypeId) (x:DV) (lo hi:Option DV):fg:=
 match P.underlying t with
 |some (.slice e)=>match iv P e with
  |some s=>match x with
   |.row s' id off len=>bif Nat.beq s s'&&je ob id s then (match oB 0 lo,oB (len:Int) hi with
     |some l,some h=>{ d:= .row s id (off+l.toNat) (h.toNat - l.toNat),vc:=[0<=l/\l<=h/\h<=(len:Int)] }
     |_,_=>bad) else bad
   |.dt n dp=>bif Nat.beq dp.length s then (match oB 0 lo,oB (n:Int) hi with
     |some l,some h=>{ d:= .dt (h.toNat - l.toNat) (dp.map fun c i=>c (i+l.toNat)),vc:=[0<=l/\l<=h/\h<=(n:Int)] }
     |_,_=>bad) else bad
   |.val (.slice none 0 0)=>(match oB 0 lo,oB 0 hi with
     |some l,some h=>{ d:= .val (.slice none 0 0),vc:=[l=0/\h=0] }
     |_,_=>bad)
   |_=>bad
  |none=>bad
 |some .string=>match x with
  |.val (.string s)=>(match oB 0 lo,oB (s.size:Int) hi with
    |some l,some h=>{ d:= .val (.string (s.extract l.toNat h.toNat)),vc:=[0<=l/\l<=h/\h<=(s.size:Int)] }
    |_,_=>bad)
  |_=>bad
 |_=>bad
def FA (ob:Heap) (len:Nat) (s off id:Nat):fg:=match s,off,ob id with
 |1,0,some (.row n [c])=>(match ik ((List.range len).map c) with
  |some (.u8,l)=>{ d:= .val (.string (strOfNums l)),vc:=[len<=n] }
  |_=>bad)
 |_,_,_=>bad
def sN (P:Program) (ob:Heap) (src dst:TypeId) (d:DV):fg:=match P.underlying src with
 |some (.slice e)=>(match P.underlying e,P.underlying dst with
  |some (.int .u8),some .string=>(match d with
   |.row s id off len=>FA ob len s off id
   |_=>bad)
  |_,_=>bad)
 |some _=>KE P dst d
 |none=>bad
def zJ (s s' id r len n:Nat) (dp:List (Nat->DV)):Option Int->fg
 |some l=>bif Nat.beq s s'&&Nat.beq dp.length s then
   { d:= .row s id 0 (len - l.toNat),hw:=[(id,some (.pR (len - l.toNat) (dp.map fun c i=>c (i+l.toNat)))),(r,none)],vc:=[0<=l/\l<=(len:Int)/\len<=n] } else bad
 |none=>bad
def vO (P:Program) (ob:Heap) (id:Nat) (t:TypeId) (x:DV) (lo:Option DV):Option DV->fg
 |none=>match P.underlying t with
  |some (.slice e)=>match iv P e with
   |some s=>match x with
    |.row s' r 0 len=>match ob r with
     |some (.row n dp)=>zJ s s' id r len n dp (oB 0 lo)
     |some (.pR n dp)=>zJ s s' id r len n dp (oB 0 lo)
     |_=>bad
    |_=>bad
   |none=>bad
  |_=>bad
 |some _=>bad
def pz (P:Program) (oc:fx) (id:Nat) (ob:Heap) (t:TypeId) (x:DV) (lo hi:Option DV):fg:=match oc with
 |.base=>vO P ob id t x lo hi
 |_=>sM P ob t x lo hi
def Fa (hw:List (Nat×Option fF)):Heap:=fun id=>match look hw id with
 |some o=>o
 |none=>none
def Bf (e:fg):fg:=match nh (Fa e.hw) e.d with
 |some (d,vc)=>{ d,hw:=eu [e.d]++e.hw,vc:=e.vc++vc }
 |none=>bad
def UT (oc:fx) (e:fg):fg:=match oc with
 |.UW=>Bf e
 |_=>e
def AW (ob:Heap):DV->Option (DV×List Prop×List DV)
 |.agg cs=>match jT ob cs with
  |some (es,vc)=>some (.agg es,vc,cs)
  |none=>none
 |d=>bif d.closed then some (d,[],[]) else none
def gh (ob:Heap):List (Nat×DV)->Option (List (Nat×DV)×List Prop×List DV)
 |[]=>some ([],[],[])
 |(i,d)::r=>match AW ob d,gh ob r with
  |some (e,vc,cs),some (es,vcs,ds)=>some ((i,e)::es,vc++vcs,cs++ds)
  |_,_=>none
def Ay (P:Program) (id:Nat) (t:TypeId) (len:Nat):Option (List (Nat×DV)×List Prop×List DV)->fg
 |some (ps,vc,ds)=>{ d:=(iR P id t len ps).d,hw:=(iR P id t len ps).hw++eu ds,vc:=vc++(iR P id t len ps).vc }
 |none=>bad
def lI (P:Program) (oc:fx) (id:Nat) (t:TypeId) (len:Nat) (ob:Heap) (parts:List (Nat×DV)):fg:=match oc with
 |.frp=>Ay P id t len (gh ob parts)
 |oc=>UT oc (iR P id t len parts)
def mI:KS->KS->Bool
 |.int,.int=>true
 |.ints n,.ints m=>Nat.beq n m
 |.str,.str=>true
 |_,_=>false
def PY (P:Program) (t:TypeId):Option Value:=match P.info? t with
 |some i=>match i.zero with
  |some z=>bif eL z then some z else none
  |none=>none
 |none=>none
def AQ (P:Program) (t:TypeId):Option (KS×DV):=match P.underlying t with
 |some (.map k e)=>match Kd P k,PY P e with
  |some ks,some z=>some (ks,.val z)
  |_,_=>none
 |_=>none
def TM (P:Program) (t:TypeId):Option DV:=match P.underlying t with
 |some (.map _ e)=>match P.underlying e with
  |some (.slice e1)=>match n3 P e1 with
   |some [z]=>some z
   |_=>none
  |_=>none
 |_=>none
def xz (ks:KS):DV->Option (List Int)
 |.val v=>gz ks v
 |_=>none
def xM (P:Program) (id:Nat) (t:TypeId):fg:=
 match AQ P t with
 |some (ks,z)=>match TM P t with
  |some z1=>{ d:= .lg id,hw:=[(id,some (.np ks (fun _=>0) (fun _ _=>z1) [] none))] }
  |none=>{ d:= .lg id,hw:=[(id,some (.map ks (fun _=>false) (fun _=>z) none))] }
 |none=>bad
def sH (ok:Bool) (d:DV) (b:Bool):fg:=match ok with
 |true=>{ d:= .fC [d,.val (.bool b)] }
 |false=>{ d }
def pA (P:Program) (ob:Heap) (id:Nat) (t:TypeId) (x k:DV) (ok:Bool):fg:=
 match AQ P t with
 |some (ks,z)=>match xz ks k with
  |some l=>match x with
   |.mp nL has eQ=>bif mI ks nL then sH ok (th (has l) (eQ l) z) (has l) else bad
   |.val (.map none)=>sH ok z false
   |.lg m=>match ob m with
    |some (.map nL has eQ _)=>bif mI ks nL then sH ok (th (has l) (eQ l) z) (has l) else bad
    |some (.np nL len eQ qY none)=>bif mI ks nL then (match ok,z with
     |false,.val (.slice none 0 0)=>{ d:= .tok id m,hw:=[(m,some (.np nL len eQ ((id,l)::qY) none)),(id,some .tok)] }
     |_,_=>bad) else bad
    |_=>bad
   |_=>bad
  |none=>bad
 |none=>bad
def xl (l:List Int) (v:DV) (eQ:List Int->DV):List Int->DV:=fun l'=>th (decide (l'=l)) v (eQ l')
def oD (l:List Int) (has:List Int->Bool):List Int->Bool:=fun l'=>decide (l'=l)||has l'
def hU (P:Program) (ob:Heap) (t:TypeId) (m k v:DV):fg:=
 match AQ P t with
 |some (ks,_)=>match xz ks k with
  |some l=>match m with
   |.lg mi=>match ob mi with
    |some (.map nL has eQ _)=>bif mI ks nL&&(v.closed&&v.one) then { hw:=[(mi,some (.map nL (oD l has) (xl l v eQ) none))] } else bad
    |some (.np nL len eQ _ sV)=>match v with
     |.row s r 0 n=>match ob r with
      |some (.row n' [c])=>bif mI ks nL&&(Nat.beq s 1&& !(Nat.beq r mi)) then
        { hw:=[(mi,some (.np nL (fun l'=>if l'=l then n else len l') (fun l' i=>th (decide (l'=l)) (c i) (eQ l' i)) [] none)),(r,none)],vc:=(n<=n')::(match sV with|some l0=>[l0=l]|none=>[]) } else bad
      |_=>bad
     |_=>bad
    |_=>bad
   |_=>bad
  |none=>bad
 |none=>bad
def ln (P:Program) (ob:Heap) (id:Nat) (t:TypeId) (m k:DV):fg:=
 match AQ P t with
 |some (ks,z)=>match xz ks k with
  |some l=>match m with
   |.lg mi=>match ob mi with
    |some (.map nL has eQ _)=>bif mI ks nL&&z.closed then
      { d:= .fC [th (has l) (eQ l) z,.tok id mi],hw:=[(mi,some (.map nL (oD l has) (xl l (th (has l) (eQ l) z) eQ) (some (id,l)))),(id,some .tok)] } else bad
    |_=>bad
   |_=>bad
  |none=>bad
 |none=>bad
def jE (ob:Heap) (m s v:DV):fg:=
 match m,s with
 |.lg mi,.tok t _=>match ob mi with
  |some (.map ks has eQ (some (t',l)))=>bif Nat.beq t t'&&(v.closed&&v.one) then { hw:=[(mi,some (.map ks has (xl l v eQ) none))] } else bad
  |_=>bad
 |_,_=>bad
def pB (P:Program) (ob:Heap) (t:TypeId) (m k:DV):fg:=
 match AQ P t with
 |some (ks,_)=>match xz ks k with
  |some l=>match m with
   |.lg mi=>match ob mi with
    |some (.map nL has eQ _)=>bif mI ks nL then { d:= .val (.tuple #[]),hw:=[(mi,some (.map nL (fun l'=> !decide (l'=l)&&has l') eQ none))] } else bad
    |_=>bad
   |_=>bad
  |none=>bad
 |none=>bad
def lK (off len:Nat):List (Nat->DV)->List DV->List (Nat->DV)
 |c::r,d::q=>(fun i=>th (decide (off<=i/\i<off+len)) d (c i))::lK off len r q
 |_,_=>[]
def sP (P:Program) (ob:Heap) (t:TypeId):DV->fg
 |.row s id off len=>match P.underlying t with
  |some (.slice e)=>match iv P e,n3 P e,ob id with
   |some s',some z,some (.row n dp)=>bif Nat.beq s s'&&(Nat.beq dp.length s&&(Nat.beq z.length s&&(Nat.ble 1 s&&DV.closed.go z))) then
     { d:= .val (.tuple #[]),hw:=[(id,some (.row n (lK off len dp z)))],vc:=[off+len<=n] } else bad
   |_,_,_=>bad
  |_=>bad
 |_=>bad
def uu (P:Program) (oc:fx) (id:Nat) (o:Oper) (x:Operand->DV) (ob:Heap):fg:=
 match o.op with
 |.move y| .assign y=>{ d:=x y }
 |.alloc t=>Fx P id t
 |.box _ y=>RS id (x y)
 |.build t parts=>Fw P t (parts.toList.map fun (i,y)=>(i,x y))
 |.buildSlice t len parts=>lI P oc id t len ob (parts.toList.map fun (i,y)=>(i,x y))
 |.makeSlice t y z=>qx P oc id t (x y) (x z)
 |.load t y=>qy P oc ob id t (x y)
 |.slice t y lo hi mx=>match mx with
  |none=>pz P oc id ob t (x y) (lo.map x) (hi.map x)
  |some _=>bad
 |.store t p y=>nr P ob t (x p) (x y)
 |.nilCheck y=>match x y with
  |.ptr id j=>{ d:= .ptr id j }
  |.ka s id i j=>{ d:= .ka s id i j }
  |.dV cs=>{ d:= .dV cs }
  |.jt f cs=>{ d:= .jt f cs }
  |.oB f cs=>{ d:= .oB f cs }
  |.val (.func (.func f) fs cs)=>{ d:= .val (.func (.func f) fs cs) }
  |_=>bad
 |.binOp op t y z _=>match x y,x z,op with
  |.val (.bool a),.val (.bool b),.eql=>UZ P false t (.val (.bool a)) (.val (.bool b))
  |.val (.bool a),.val (.bool b),.neq=>UZ P true t (.val (.bool a)) (.val (.bool b))
  |.err b,.val .nilIface,.neq=>RQ P t z b
  |d,e,op=>match ju d with
   |some _=>RR P op t d e
   |none=>RT oc op d e
 |.unOp op _ y=>ZS op (x y)
 |.convert src dst y=>sN P ob src dst (x y)
 |.fieldAddr s y f=>r6 P s (x y) f
 |.field t y f=>Fu P t (x y) f
 |.indexAddr t y i=>ky P ob t (x y) (x i)
 |.index t y i=>Fq P t (x y) (x i)
 |.makeMap t none=>xM P id t
 |.lookup t y i ok=>pA P ob id t (x y) (x i) ok
 |.mapUpdate t m k y=>hU P ob t (x m) (x k) (x y)
 |.mapEntry t m k=>ln P ob id t (x m) (x k)
 |.entryStore _ m s y=>jE ob (x m) (x s) (x y)
 |.extract y i=>xO (x y) i
 |.makeFunc (.func f) first cap=>match first.toList with
  |[]=>{ d:= .jt f (cap.toList.map x) }
  |l=>match cap.toList with
   |[]=>{ d:= .oB f (l.map x) }
   |_=>bad
 |.call c=>match c.callee with
  |.builtin .len=>match c.args.toList,c.argTypes.toList with
   |[y],[t]=>Ec P ob t (x y)
   |_,_=>bad
  |.builtin .append=>match c.args.toList,c.argTypes.toList with
   |[y,z],[t,t']=>bif Nat.beq t t' then UT oc (pC P ob id t (x y) (x z)) else bad
   |_,_=>bad
  |.builtin .delete=>match c.args.toList,c.argTypes.toList with
   |[y,z],t::_=>pB P ob t (x y) (x z)
   |_,_=>bad
  |.builtin .clear=>match c.args.toList,c.argTypes.toList with
   |[y],t::_=>sP P ob t (x y)
   |_,_=>bad
  |.builtin .min=>match oH (c.args.toList.map x) with
   |some (n::r)=>{ d:= .val (.int .i64 (iD n r)) }
   |_=>bad
  |.builtin .max=>match oH (c.args.toList.map x) with
   |some (n::r)=>{ d:= .val (.int .i64 (hP n r)) }
   |_=>bad
  |.value y=>match x y with
   |.val (.func (.func f) first cap)=>match first.toList,cap.toList with
    |[],[]=>r7 P oc id ob f (c.args.toList.map x)
    |_,_=>bad
   |.jt f cap=>bif jr cap then r7 P oc id ob f (c.args.toList.map x++cap) else bad
   |_=>bad
  |_=>bad
 |_=>bad
end Go.Abs
end
section
namespace Go.Abs
open Go.RowKit
def St.ev (σ:St):Operand->DV
 |.tmp t=>σ.get t
 |.const v=> .val v
 |.func f=> .val (.func (.func f) #[] #[])
 |.global g=>match look gl g with
  |some cs=> .dV cs
  |none=> .any
def qF (σ:St):List Operand->List Prop
 |[]=>[]
 |y::r=>match (σ.ev y).nw with
  |none=>qF σ r
  |some b=>(b=true)::qF σ r
inductive Grd where
 |always
 |when (b:Bool)
 |unknown
def s6 (ops:Array Oper) (σ:St) (o:Oper):Grd:=match o.guard with
 |none=> .always
 |some (j,want)=>match (ops[j]?).bind (·.dst) with
  |some t=>match (σ.get t).un with
   |.val (.bool p)=>match (σ.get t).nw with
    |none=> .when (match want with|true=>p|false=> !p)
    |some q=> .when (q&&(match want with|true=>p|false=> !p))
   |_=> .unknown
  |none=> .unknown
def rY (P:Program) (oc:fx) (id:Nat) (o:Oper) (x:Operand->DV) (ob:Heap):Bool->fg
 |false=>uu P oc id o x ob
 |true=>match o.op with
  |.makeMap _ _=>bad
  |.call c=>match c.callee with
   |.value _=>match uu P oc id o x ob with
    |{ d,hw,vc }=>bif d.plain then { d,hw,vc } else { hw,vc:=[False] }
   |_=>uu P oc id o x ob
  |_=>uu P oc id o x ob
def rF (P:Program) (oc:fx) (id:Nat) (σ:St) (o:Oper):fg:=match qF σ o.op.operands.toList with
 |[]=>rY P oc id o (fun y=>(σ.ev y).un) σ.obj σ.rn
 |p::ps=>match rY P oc id o (fun y=>(σ.ev y).un) σ.obj σ.rn with
  |{ d,hw,vc }=>{ d,hw,vc:=(p::ps)++vc }
def fa (P:Program) (oc:fx) (id:Nat) (σ:St) (o:Oper):fg:=match o.op with
 |.pick c a b=>KC (σ.ev c) (σ.ev a) (σ.ev b)
 |_=>rF P oc id σ o
def mf (b:Bool):List DV->List DV->Option (List DV)
 |[],[]=>some []
 |.val v::r,.val u::q=>match GU b v u,mf b r q with
  |some x,some l=>some (.val x::l)
  |_,_=>none
 |_,_=>none
def jQ (b:Bool) (ob:Heap):List (Nat×Option fF)->Option (List (Nat×Option fF))
 |[]=>some []
 |(id,some (.box cs))::r=>match ob id with
  |some (.box cs0)=>match mf b cs cs0,jQ b ob r with
   |some l,some t=>some ((id,some (.box l))::t)
   |_,_=>none
  |_=>none
 |(id,some (.row n [c]))::r=>match ob id with
  |some (.row _ [c0])=>match jQ b ob r with
   |some t=>some ((id,some (.row n [fun i=> .val (.int .i64 (if b=true then vI (c i) else vI (c0 i)))]))::t)
   |none=>none
  |_=>none
 |_=>none
def km (ob:Heap):List (Nat×Option fF)->List Prop
 |[]=>[]
 |(id,some (.row n [c]))::r=>match ob id with
  |some (.row n0 [c0])=>(n=n0)::kM c::kM c0::km ob r
  |_=>km ob r
 |_::r=>km ob r
theorem A5 {c:Nat->DV} (h:kM c):(fun i=> .val (.int .i64 (vI (c i))))=c:=by
 funext i
 have:=h i
 split at this
 ·rename_i n e
  rw [e];rfl
 ·exact this.elim
theorem Nk {v u x:Value} (h:GU true v u=some x):x=v:=by
 unfold GU at h
 split at h
 ·split at h
  ·simp only [ba,aa] at h;exact h.symm
  ·cases h
 ·simp only [ba,aa] at h;exact h.symm
 ·simp only [ba,aa] at h;exact h.symm
 ·cases h
theorem J0 {v u x:Value} (h:GU false v u=some x):x=u:=by
 unfold GU at h
 split at h
 ·split at h
  ·rename_i hk;subst hk;simp only [bT,cE,aa] at h;exact h.symm
  ·cases h
 ·simp only [bT,cE,aa] at h;exact h.symm
 ·simp only [bT,cE,aa] at h;exact h.symm
 ·cases h
theorem yn: ∀{cs ds l:List DV},mf true cs ds=some l->l=cs
 |[],[],l,h=>by simp only [mf,aa] at h;exact h.symm
 |[],_::_,l,h=>by simp [mf] at h
 |c::r,[],l,h=>by cases c<;>simp [mf] at h
 |c::r,d::q,l,h=>by
  cases c<;>cases d<;>simp only [mf] at h<;>first|(cases h;done)|skip
  split at h
  ·rename_i x l' h1 h2
   simp only [aa] at h
   rw [<-h,Nk h1,yn h2]
  ·cases h
theorem uR: ∀{cs ds l:List DV},mf false cs ds=some l->l=ds
 |[],[],l,h=>by simp only [mf,aa] at h;exact h.symm
 |[],_::_,l,h=>by simp [mf] at h
 |c::r,[],l,h=>by cases c<;>simp [mf] at h
 |c::r,d::q,l,h=>by
  cases c<;>cases d<;>simp only [mf] at h<;>first|(cases h;done)|skip
  split at h
  ·rename_i x l' h1 h2
   simp only [aa] at h
   rw [<-h,J0 h1,uR h2]
  ·cases h
theorem tI {ob:Heap}: ∀{hw wW:List (Nat×Option fF)},(∀p∈km ob hw,p)->jQ true ob hw=some wW->wW=hw
 |[],wW,_,h=>by simp only [jQ,aa] at h;exact h.symm
 |(id,none)::r,wW,_,h=>by simp [jQ] at h
 |(id,some o)::r,wW,hv,h=>by
  unfold jQ at h
  split at h
  ·rename_i e;cases e
  ·rename_i kN cs r' e
   cases e
   split at h
   ·split at h
    ·rename_i l t h1 h2
     simp only [aa] at h
     rw [<-h,yn h1,tI (fun p hp=>hv p (by simpa only [km] using hp)) h2]
    ·cases h
   ·cases h
  ·rename_i kN n c r' e
   cases e
   split at h
   ·rename_i n0 c0 ho
    simp only [km,ho] at hv
    split at h
    ·rename_i t h2
     simp only [aa] at h
     rw [<-h,tI (fun p hp=>hv p (ay _ (ay _ (ay _ hp)))) h2]
     simp only [ba]
     rw [A5 (hv _ (ay _ ax))]
    ·cases h
   ·cases h
  ·cases h
theorem rl {ob:Heap} {id:Nat} {o:Option fF}: ∀{hw wW:List (Nat×Option fF)},(∀p∈km ob hw,p)->jQ false ob hw=some wW->look wW id=some o->o=ob id
 |[],wW,_,h,hl=>by simp only [jQ,aa] at h;subst h;simp [look] at hl
 |(i,none)::r,wW,_,h,hl=>by simp [jQ] at h
 |(i,some x)::r,wW,hv,h,hl=>by
  unfold jQ at h
  split at h
  ·rename_i e;cases e
  ·rename_i kN cs r' e
   cases e
   split at h
   ·rename_i cs0 ho
    split at h
    ·rename_i l t h1 h2
     simp only [aa] at h
     subst h
     rw [dG] at hl
     by_cases hi:i=id
     ·rw [ag hi] at hl
      subst hi
      rw [ho,<-bc hl,uR h1]
     ·rw [ab hi] at hl
      exact rl (fun p hp=>hv p (by simpa only [km] using hp)) h2 hl
    ·cases h
   ·cases h
  ·rename_i kN n c r' e
   cases e
   split at h
   ·rename_i n0 c0 ho
    simp only [km,ho] at hv
    split at h
    ·rename_i t h2
     simp only [aa] at h
     have hn:n=n0:=hv _ ax
     subst hn
     subst h
     rw [dG] at hl
     by_cases hi:i=id
     ·rw [ag hi] at hl
      subst hi
      rw [ho,<-bc hl]
      simp only [bT,cE]
      rw [A5 (hv _ (ay _ (ay _ ax)))]
     ·rw [ab hi] at hl
      exact rl (fun p hp=>hv p (ay _ (ay _ (ay _ hp)))) h2 hl
    ·cases h
   ·cases h
  ·cases h
theorem sx {b:Bool} {ob:Heap}: ∀{hw wW:List (Nat×Option fF)},jQ b ob hw=some wW->wW.map (·.1)=hw.map (·.1)
 |[],wW,h=>by simp only [jQ,aa] at h;rw [<-h]
 |(i,none)::r,wW,h=>by simp [jQ] at h
 |(i,some x)::r,wW,h=>by
  unfold jQ at h
  split at h
  ·rename_i e;cases e
  ·rename_i kN cs r' e
   cases e
   split at h
   ·split at h
    ·rename_i l t h1 h2
     simp only [aa] at h
     rw [<-h,bR,bR,sx h2]
    ·cases h
   ·cases h
  ·rename_i kN n c r' e
   cases e
   split at h
   ·rename_i n0 c0 ho
    split at h
    ·rename_i t h2
     simp only [aa] at h
     rw [<-h,bR,bR,sx h2]
    ·cases h
   ·cases h
  ·cases h
theorem ym {b:Bool} {ob fK:Heap}: ∀{hw:List (Nat×Option fF)},(∀i∈hw.map (·.1),ob i=fK i)->jQ b ob hw=jQ b fK hw/\km ob hw=km fK hw
 |[],_=>⟨rfl,rfl⟩
 |(i,x)::r,h=>by
  have h1:=h i (by simp)
  obtain ⟨h2,h3⟩:=ym (b:=b) (hw:=r) fun j hj=>h j (ay _ hj)
  cases x with
  |none=>exact ⟨rfl,by simp only [km,h3]⟩
  |some o=>
   cases o with
   |row n dp=>
    cases dp with
    |nil=>exact ⟨rfl,by simp only [km,h3]⟩
    |cons c cs=>cases cs<;>exact ⟨by simp only [jQ,h1,h2],by simp only [km,h1,h3]⟩
   |_=>exact ⟨by simp only [jQ,h1,h2],by simp only [km,h3]⟩
def jl (P:Program) (ops:Array Oper) (oc:fx) (id:Nat) (σ:St) (o:Oper):fg:=match s6 ops σ o with
 |.always=>fa P oc id σ o
 |.when b=>let e:=fa P oc id σ o
  match e.hw with
  |[]=>{ d:= .opt b e.d,vc:=e.vc.map fun p=>(b=true->p) }
  |hw=>match jQ b σ.obj hw with
   |some wW=>{ d:= .opt b e.d,hw:=wW,vc:=km σ.obj hw++e.vc.map fun p=>(b=true->p) }
   |none=>{ d:= .opt b e.d,hw:=hw,vc:=(b=true)::e.vc }
 |.unknown=>bad
def St.uG (σ:St) (dst:Option Tmp) (e:fg):St:={ σ with t:=match dst with|some t=>(t,e.d)::σ.t|none=>σ.t,h:=e.hw++σ.h }
def jH (nt lo:Nat):Option Tmp->Bool
 |some t=>bif Nat.ble lo t then Nat.blt t nt else false
 |none=>true
def mA:List (Nat×fx)->Nat->fx
 |l,k=>match look l k with
  |some o=>o
  |none=> .no
def ja (P:Program) (ops:Array Oper) (dz:List (Nat×fx)) (n0:Nat):List Oper->Nat->St->List Prop->St×List Prop
 |[],_,σ,vc=>(σ,vc)
 |o::r,k,σ,vc=>let e:=jl P ops (mA dz k) (n0+k) σ o
  ja P ops dz n0 r (k+1) (σ.uG o.dst e) (vc++(bif jH σ.nt σ.lo o.dst then e.vc else [False]))
def dC:List Prop->Prop
 |[]=>True
 |[p]=>p
 |p::r=>p/\dC r
def fq (P:Program) (ops:Array Oper) (dz:List (Nat×fx)) (σ:St):St×List Prop:=
 ja P ops dz σ.nx ops.toList 0 { σ with nx:=σ.nx+ops.size } []
end Go.Abs
end
