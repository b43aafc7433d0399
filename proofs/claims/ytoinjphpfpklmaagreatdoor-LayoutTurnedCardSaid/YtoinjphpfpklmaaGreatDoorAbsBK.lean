/- Keys of maps: integers, structs of integers, strings: how the machine finds and checks them. No program in sight. -/
import Derived.Test.YtoinjphpfpklmaaGreatDoorAbsB
import Derived.Laws.StructEq
import Derived.StringKeys
set_option linter.unusedVariables false
set_option linter.unusedSimpArgs false
namespace Go.Abs
open Go.RowKit
theorem qp: ∀{vs:List Value} {l:List Int},rO vs=some l->vs=l.map fun n=>Value.int .i64 n
 |[],l,h=>by simp [rO] at h;subst h;rfl
 |v::r,l,h=>by
  cases v with
  |int k n=>
   cases k with
   |i64=>
    simp only [rO] at h
    cases hr:rO r with
    |none=>simp [hr] at h
    |some q=>
     simp only [hr,aa] at h
     subst h
     rw [qp hr];rfl
   |_=>simp [rO] at h
  |_=>simp [rO] at h
theorem Oy {s t:ByteArray} (h:MO s=MO t):s=t:=by
 unfold MO at h
 have h1:s.data.toList=t.data.toList:=by
  generalize s.data.toList=a at h
  generalize t.data.toList=b at h
  induction a generalizing b with
  |nil=>cases b with
   |nil=>rfl
   |cons x r=>simp at h
  |cons x r ih=>cases b with
   |nil=>simp at h
   |cons y q=>
    simp only [bR,cZ] at h
    rw [ih _ h.2]
    congr 1
    have:x.toNat=y.toNat:=by have:=h.1;omega
    exact UInt8.toNat_inj.1 this
 cases s;cases t
 have h2:=cB h1
 simp only at h2
 rw [h2]
theorem nu {ks:KS} {a b:Value} {l:List Int} (ha:gz ks a=some l) (hb:gz ks b=some l):a=b:=by
 cases ks with
 |int=>
  cases a<;>simp [gz] at ha
  cases b<;>simp [gz] at hb
  rename_i k n k' n'
  cases k<;>simp [gz] at ha
  cases k'<;>simp [gz] at hb
  subst ha
  simp at hb;rw [hb]
 |ints n=>
  cases a<;>simp only [gz,reduceCtorEq] at ha
  cases b<;>simp only [gz,reduceCtorEq] at hb
  rename_i us vs
  cases hu:rO us.toList with
  |none=>simp [hu] at ha
  |some lu=>
   cases hv:rO vs.toList with
   |none=>simp [hv] at hb
   |some lv=>
    simp only [hu] at ha
    simp only [hv] at hb
    cases h1:Nat.beq lu.length n<;>simp [h1] at ha
    cases h2:Nat.beq lv.length n<;>simp [h2] at hb
    have e1:=qp hu
    have e2:=qp hv
    rw [ha] at e1;rw [hb] at e2
    have:=cB (e1.trans e2.symm)
    rw [this]
 |str=>
  cases a<;>simp [gz] at ha
  cases b<;>simp [gz] at hb
  rw [Oy (ha.trans hb.symm)]
def A4 (P:Program):Nat->List Field->Bool
 |_,[]=>true
 |i,f::r=>bif f.name== "_" then false else match P.underlying f.type with
  |some (.int .i64)=>bif Nat.beq f.offset i then A4 P (i+1) r else false
  |_=>false
def ZQ (P:Program) (t:TypeId):Option Nat:=match P.underlying t with
 |some (.int .i64)=>some 1
 |some (.struct gs)=>bif P.stoodInHeld t then none else bif A4 P 0 gs.toList then (match P.info? t with
  |some i=>bif Nat.beq i.size gs.toList.length then some gs.toList.length else none
  |none=>none) else none
 |_=>none
def qv (P:Program):Nat->List Field->Option Nat
 |i,[]=>some i
 |i,f::r=>bif f.name== "_" then none else match ZQ P f.type with
  |some n=>bif Nat.beq f.offset i then qv P (i+n) r else none
  |none=>none
def Kd (P:Program) (t:TypeId):Option KS:=match P.underlying t with
 |some (.int .i64)=>some .int
 |some .string=>some .str
 |some (.struct fs)=>bif P.stoodInHeld t then none else match qv P 0 fs.toList with
  |some n=>some (.ints n)
  |none=>none
 |_=>none
structure mm (P:Program) (kt:TypeId) (ks:KS):Prop where
 check: ∀(w:World) (em:Bool) {v:Value} {l:List Int},gz ks v=some l->(Instr.checkKey em 10000 kt v).run P w= .ok () w
 find: ∀(w:World) {x:Value} {lx:List Int},gz ks x=some lx-> ∀es:List MapEntry,(∀e∈es,∃l,gz ks e.key=some l)->
  ((Instr.findKey kt x es).run P w= .ok none w/\ ∀e∈es,e.key≠x)\/ ∃j e,(Instr.findKey kt x es).run P w= .ok (some (j,e.val)) w/\es[j]? =some e/\e.key=x
 stays: ∀(w:World) {v:Value} {l:List Int},gz ks v=some l->(Instr.keyThatStays v v).run P w= .ok v w
theorem mm.plain {P:Program} {kt:TypeId} {ks:KS} {d:TypeDesc} (hd:P.underlying kt=some d) (hk: ∀{v l},gz ks v=some l->MapKept.IsKey d v):mm P kt ks where
 check w em v l h:=MapKept.run_checkKey hd (hk h) em 9999
 find w x lx hx es Js:=by
  rcases MapKept.findNow_spec (hk hx) es 0 (fun e he=>let ⟨_,h⟩:=Js e he;hk h) with ⟨h1,h2⟩|⟨j,e,h1,h2,h3⟩
  ·exact .inl ⟨MapKept.run_findKey hd h1,h2⟩
  ·exact .inr ⟨j,e,by simpa using MapKept.run_findKey (w:=w) hd h1,h2,h3⟩
 stays w v l h:=MapKept.run_keyThatStays (hk h)
section
variable {P:Program} {w:World}
theorem zx {t:TypeId} (h:P.underlying t=some (.int .i64)) (vs:Array Value) (i:Nat) {v:Value} (hv:vs[i]? =some v):(part t vs i).run P w= .ok v w:=by
 have h1:(isAgg t).run P w= .ok false w:=by
  simp only [isAgg,Sem.run_bind,run_underlying h,Result.andThen_ok];rfl
 simp [part,h1,hv]
theorem Hw: ∀(fs:List Field) (i:Nat),A4 P i fs=true-> ∀(d:Nat) (l l':List Int),l.length=i+fs.length->l'.length=i+fs.length->
 (Op.eqFields (d+1) (l.map fun n=>Value.int .i64 n).toArray (l'.map fun n=>Value.int .i64 n).toArray fs).run P w= .ok (decide (l.drop i=l'.drop i)) w
 |[],i,_,d,l,l',h1,h2=>by
  have e1:l.drop i=[]:=List.drop_eq_nil_of_le (by simp at h1;omega)
  have e2:l'.drop i=[]:=List.drop_eq_nil_of_le (by simp at h2;omega)
  simp [Op.eqFields,e1,e2]
 |f::fs,i,h,d,l,l',h1,h2=>by
  simp only [aH] at h1 h2
  simp only [A4] at h
  cases hn:f.name== "_"
  ·simp only [hn,ar] at h
   split at h
   ·rename_i ht
    cases ho:Nat.beq f.offset i
    ·simp [ho] at h
    ·simp only [ho,ao] at h
     have mJ:f.offset=i:=af ho
     have ih:=Hw fs (i+1) h d l l' (by omega) (by omega)
     have hl:i<l.length:=by omega
     have lG:i<l'.length:=by omega
     have p1:=zx (w:=w) ht (l.map fun n=>Value.int .i64 n).toArray i (v:= .int .i64 l[i]) (by simp [hl])
     have p2:=zx (w:=w) ht (l'.map fun n=>Value.int .i64 n).toArray i (v:= .int .i64 l'[i]) (by simp [lG])
     simp only [Op.eqFields,show f.name≠ "_" from by simpa using hn,ne_eq,not_false_eq_true,ba,Sem.run_bind,mJ,p1,p2,Result.andThen_ok,run_equalIn_int w d f.type _ _ _ _ ht]
     rw [cG hl,cG lG]
     cases he:(l[i]==l'[i])
     ·have:l[i]≠l'[i]:=by simpa using he
      rw [bI (fun e=>this (List.cons.inj e).1)]
      simp
     ·have:l[i]=l'[i]:=by simpa using he
      simp only [this,cZ,ck]
      simpa using ih
   ·cases h
  ·simp [hn] at h
theorem yz (em:Bool) (d:Nat) (cs:Array Value): ∀(fs:List Field) (i:Nat),A4 P i fs=true->(∀j,i<=j->j<i+fs.length-> ∃n,cs[j]? =some (.int .i64 n))->
 (forIn fs PUnit.unit fun f (_:PUnit)=>(if f.name≠ "_" then part f.type cs f.offset>>=fun v=>Instr.checkKey em (d+1) f.type v>>=fun _=>pure (ForInStep.yield PUnit.unit)
   else pure (ForInStep.yield PUnit.unit):Sem (ForInStep PUnit))).run P w= .ok PUnit.unit w
 |[],_,_,_=>by simp
 |f::fs,i,h,hc=>by
  simp only [A4] at h
  cases hn:f.name== "_"
  ·simp only [hn,ar] at h
   split at h
   ·rename_i ht
    cases ho:Nat.beq f.offset i
    ·simp [ho] at h
    ·simp only [ho,ao] at h
     have mJ:f.offset=i:=af ho
     obtain ⟨n,UD⟩:=hc i (ae _) (by simp)
     have p1:=zx (w:=w) ht cs i UD
     have ih:=yz em d cs fs (i+1) h (fun j h1 h2=>hc j (by omega) (by simp;omega))
     have hk:=MapKept.run_checkKey (w:=w) ht (k:= .int .i64 n) (by simp [MapKept.IsKey]) em d
     simp only [List.forIn_cons,Sem.run_bind,show f.name≠ "_" from by simpa using hn,ne_eq,not_false_eq_true,ba,mJ,p1,hk,Result.andThen_ok,Sem.run_pure]
     exact ih
   ·cases h
  ·simp [hn] at h
structure Vx (P:Program) (t:TypeId) (n:Nat) (g:List Int->Value):Prop where
 part: ∀(w:World) (l:List Int) (i:Nat),i+n<=l.length->(Go.part t (l.map fun n=>Value.int .i64 n).toArray i).run P w= .ok (g ((l.drop i).take n)) w
 eq: ∀(w:World) (d:Nat) (a b:List Int),a.length=n->b.length=n->(Op.equalIn (d+2) t (g a) (g b)).run P w= .ok (decide (a=b)) w
 check: ∀(w:World) (em:Bool) (d:Nat) (a:List Int),a.length=n->(Instr.checkKey em (d+2) t (g a)).run P w= .ok () w
theorem D9 {t:TypeId} {n:Nat} (h:ZQ P t=some n): ∃g,Vx P t n g:=by
 unfold ZQ at h
 split at h
 ·rename_i hu
  cases h
  refine ⟨fun l=> .int .i64 (l.headD 0),fun w l i hi=> ?_,fun w d a b ha hb=> ?_,fun w em d a ha=> ?_⟩
  ·have hl:i<l.length:=by omega
   have:=zx (w:=w) hu (l.map fun n=>Value.int .i64 n).toArray i (v:= .int .i64 l[i]) (by simp [hl])
   rw [this]
   have e:(l.drop i).take 1=[l[i]]:=by rw [cG hl];rfl
   rw [e];rfl
  ·match a,b,ha,hb with
   |[x],[y],_,_=>
    refine (run_equalIn_int w (d+1) t _ _ _ _ hu).trans ?_
    simp
    by_cases hx:x=y<;>simp [hx]
  ·exact MapKept.run_checkKey (w:=w) hu (by simp [MapKept.IsKey]) em (d+1)
 ·rename_i gs hu
  cases hp:P.stoodInHeld t
  ·simp only [hp,ar] at h
   cases hf:A4 P 0 gs.toList
   ·simp [hf] at h
   ·simp only [hf,ao] at h
    split at h
    ·rename_i inf hinf
     cases hz:Nat.beq inf.size gs.toList.length
     ·rw [hz] at h;cases h
     ·rw [hz,ao] at h
      cases h
      have hz:=af hz
      have hff:P.fieldsOf t=gs:=by simp [Program.fieldsOf,hu]
      refine ⟨fun l=> .agg (l.map fun n=>Value.int .i64 n).toArray,fun w l i hi=> ?_,fun w d a b ha hb=> ?_,fun w em d a ha=> ?_⟩
      ·have h1:(isAgg t).run P w= .ok true w:=by
        simp only [isAgg,Sem.run_bind,run_underlying hu,Result.andThen_ok];rfl
       have h2:(sizeOf t).run P w= .ok gs.toList.length w:=by rw [<-hz];simp [sizeOf,typeInfo,hinf]
       simp only [Go.part,Sem.run_bind,h1,h2,Result.andThen_ok,ba,Sem.run_pure]
       congr 2
       apply cB
       rw [Array.toList_extract]
       simp [List.extract,List.map_take,List.map_drop]
      ·have:=run_equalIn_struct (P:=P) (w:=w) (d+1) t (a.map fun n=>Value.int .i64 n).toArray (b.map fun n=>Value.int .i64 n).toArray (by rw [hff];exact hu) hp
       rw [hff] at this
       have h3:=Hw (w:=w) gs.toList 0 hf d a b (by omega) (by omega)
       simp only [List.drop_zero] at h3
       exact this.trans h3
      ·rw [Instr.checkKey]
       simp only [Sem.run_bind,run_underlying hu,Result.andThen_ok]
       rw [<-Array.forIn_toList]
       refine (de (fun r:Result PUnit=>r.andThen fun _ w'=>Sem.run P (pure ()) w') (?_:_=Result.ok PUnit.unit w)).trans rfl
       exact yz (w:=w) em d (a.map fun n=>Value.int .i64 n).toArray gs.toList 0 hf (fun j _ h2=>⟨a[j]'(by omega),by simp [show j<a.length by omega]⟩)
    ·cases h
  ·simp [hp] at h
 ·cases h
theorem Fm: ∀(fs:List Field) (i n:Nat),qv P i fs=some n->i<=n
 |[],i,n,h=>by cases h;exact ae _
 |f::fs,i,n,h=>by
  simp only [qv] at h
  cases hn:f.name== "_"
  ·simp only [hn,ar] at h
   split at h
   ·rename_i k hk
    cases ho:Nat.beq f.offset i
    ·simp [ho] at h
    ·simp only [ho,ao] at h
     have:=Fm fs (i+k) n h
     omega
   ·cases h
  ·simp [hn] at h
theorem Mz: ∀(fs:List Field) (i n:Nat),qv P i fs=some n-> ∀(d:Nat) (l l':List Int),l.length=n->l'.length=n->
 (Op.eqFields (d+2) (l.map fun n=>Value.int .i64 n).toArray (l'.map fun n=>Value.int .i64 n).toArray fs).run P w= .ok (decide (l.drop i=l'.drop i)) w
 |[],i,n,h,d,l,l',h1,h2=>by
  cases h
  have e1:l.drop i=[]:=List.drop_eq_nil_of_le (by omega)
  have e2:l'.drop i=[]:=List.drop_eq_nil_of_le (by omega)
  simp [Op.eqFields,e1,e2]
 |f::fs,i,n,h,d,l,l',h1,h2=>by
  simp only [qv] at h
  cases hn:f.name== "_"
  ·simp only [hn,ar] at h
   split at h
   ·rename_i k hk
    cases ho:Nat.beq f.offset i
    ·simp [ho] at h
    ·simp only [ho,ao] at h
     have mJ:f.offset=i:=af ho
     have hle:=Fm fs (i+k) n h
     have ih:=Mz fs (i+k) n h d l l' h1 h2
     obtain ⟨g,hg⟩:=D9 hk
     have p1:=hg.part w l i (by omega)
     have p2:=hg.part w l' i (by omega)
     have q:=hg.eq w d ((l.drop i).take k) ((l'.drop i).take k) (by rw [aQ,bn];omega) (by rw [aQ,bn];omega)
     simp only [Op.eqFields,show f.name≠ "_" from by simpa using hn,ne_eq,not_false_eq_true,ba,Sem.run_bind,mJ,p1,p2,Result.andThen_ok,q]
     have s1:l.drop i=(l.drop i).take k++l.drop (i+k):=by rw [<-List.drop_drop,List.take_append_drop]
     have s2:l'.drop i=(l'.drop i).take k++l'.drop (i+k):=by rw [<-List.drop_drop,List.take_append_drop]
     have hlen:((l.drop i).take k).length=((l'.drop i).take k).length:=by simp only [aQ,bn];omega
     by_cases he:(l.drop i).take k=(l'.drop i).take k
     ·have:(l.drop i=l'.drop i)↔(l.drop (i+k)=l'.drop (i+k)):=by
       constructor
       ·intro e
        rw [s1,s2] at e
        exact (List.append_inj e hlen).2
       ·intro e
        rw [s1,s2,he,e]
      rw [bz he]
      simp only [Bool.not_true,bT,cE]
      refine (?_:_=_).trans (ih.trans (by rw [bu.2 this]))
      simp
     ·have: ¬l.drop i=l'.drop i:=fun e=>he (by rw [e])
      rw [bI he,bI this]
      simp
   ·cases h
  ·simp [hn] at h
theorem Bg (em:Bool) (d:Nat) (l:List Int): ∀(fs:List Field) (i n:Nat),qv P i fs=some n->l.length=n->
 (forIn fs PUnit.unit fun f (_:PUnit)=>(if f.name≠ "_" then part f.type (l.map fun n=>Value.int .i64 n).toArray f.offset>>=fun v=>Instr.checkKey em (d+2) f.type v>>=fun _=>pure (ForInStep.yield PUnit.unit)
   else pure (ForInStep.yield PUnit.unit):Sem (ForInStep PUnit))).run P w= .ok PUnit.unit w
 |[],_,_,_,_=>by simp
 |f::fs,i,n,h,hl=>by
  simp only [qv] at h
  cases hn:f.name== "_"
  ·simp only [hn,ar] at h
   split at h
   ·rename_i k hk
    cases ho:Nat.beq f.offset i
    ·simp [ho] at h
    ·simp only [ho,ao] at h
     have mJ:f.offset=i:=af ho
     have hle:=Fm fs (i+k) n h
     obtain ⟨g,hg⟩:=D9 hk
     have p1:=hg.part w l i (by omega)
     have hc:=hg.check w em d ((l.drop i).take k) (by rw [aQ,bn];omega)
     have ih:=Bg em d l fs (i+k) n h hl
     simp only [List.forIn_cons,Sem.run_bind,show f.name≠ "_" from by simpa using hn,ne_eq,not_false_eq_true,ba,mJ,p1,hc,Result.andThen_ok,Sem.run_pure]
     exact ih
   ·cases h
  ·simp [hn] at h
theorem mm.struct {kt:TypeId} {fs:Array Field} (hu:P.underlying kt=some (.struct fs)) (hp:P.stoodInHeld kt=false) {n:Nat} (hf:qv P 0 fs.toList=some n):mm P kt (.ints n):=by
 have val: ∀{v l},gz (.ints n) v=some l->v= .agg (l.map fun n=>Value.int .i64 n).toArray/\l.length=n:=fun {v l} h=>by
  cases v<;>simp only [gz,reduceCtorEq] at h
  rename_i vs
  cases hv:rO vs.toList with
  |none=>simp [hv] at h
  |some q=>
   simp only [hv] at h
   cases hb:Nat.beq q.length n<;>simp only [hb,ar,ao,reduceCtorEq,aa] at h
   subst h
   have:=qp hv
   refine ⟨?_,af hb⟩
   rw [<-this]
 have hff:P.fieldsOf kt=fs:=by simp [Program.fieldsOf,hu]
 have eqr: ∀(w:World) (l l':List Int),l.length=n->l'.length=n->(Op.equal kt (.agg (l.map fun n=>Value.int .i64 n).toArray) (.agg (l'.map fun n=>Value.int .i64 n).toArray)).run P w= .ok (decide (l=l')) w:=fun w l l' h1 h2=>by
  have:=run_equalIn_struct (P:=P) (w:=w) 9999 kt (l.map fun n=>Value.int .i64 n).toArray (l'.map fun n=>Value.int .i64 n).toArray (by rw [hff];exact hu) hp
  rw [hff] at this
  have h3:=Mz (w:=w) fs.toList 0 n hf 9997 l l' (by omega) (by omega)
  simp only [List.drop_zero] at h3
  exact this.trans h3
 constructor
 ·intro w em v l h
  obtain ⟨rfl,hl⟩:=val h
  rw [show (10000:Nat)=9999+1 from rfl,Instr.checkKey]
  simp only [Sem.run_bind,run_underlying hu,Result.andThen_ok]
  rw [<-Array.forIn_toList]
  refine (de (fun r:Result PUnit=>r.andThen fun _ w'=>Sem.run P (pure ()) w') (?_:_=Result.ok PUnit.unit w)).trans rfl
  exact Bg (w:=w) em 9997 l fs.toList 0 n hf hl
 ·intro w x lx hx es Js
  obtain ⟨rfl,hlx⟩:=val hx
  have ask: ∀(es:List MapEntry) (i:Nat),(∀e∈es,∃l,gz (.ints n) e.key=some l)->
   ((Instr.findAsking kt (.agg (lx.map fun n=>Value.int .i64 n).toArray) es i).run P w= .ok none w/\ ∀e∈es,e.key≠ .agg (lx.map fun n=>Value.int .i64 n).toArray)\/
   ∃j e,(Instr.findAsking kt (.agg (lx.map fun n=>Value.int .i64 n).toArray) es i).run P w= .ok (some (i+j,e.val)) w/\es[j]? =some e/\e.key= .agg (lx.map fun n=>Value.int .i64 n).toArray:=by
   intro es
   induction es with
   |nil=>intro i _;exact .inl ⟨by simp [Instr.findAsking],by simp⟩
   |cons e r ih=>
    intro i Js
    obtain ⟨l,hl⟩:=Js e ax
    obtain ⟨hk,Cp⟩:=val hl
    have he:=eqr w lx l hlx Cp
    rw [<-hk] at he
    by_cases h:lx=l
    ·right
     refine ⟨0,e,?_,rfl,by rw [hk,h]⟩
     simp only [Instr.findAsking,Sem.run_bind,he,Result.andThen_ok,bz h,ba]
     rfl
    ·have ji:e.key≠ .agg (lx.map fun n=>Value.int .i64 n).toArray:=fun e1=>by
      rw [e1] at hl
      rw [hx] at hl
      exact h (bc hl)
     rcases ih (i+1) (fun e' h'=>Js e' (ay _ h')) with ⟨h1,h2⟩|⟨j,e',h1,h2,h3⟩
     ·left
      refine ⟨?_,fun e' h'=> ?_⟩
      ·simp only [Instr.findAsking,Sem.run_bind,he,Result.andThen_ok,bI h,bT,cE]
       exact h1
      ·rcases aR.1 h' with rfl|h'
       ·exact ji
       ·exact h2 e' h'
     ·right
      refine ⟨j+1,e',?_,by simpa using h2,h3⟩
      simp only [Instr.findAsking,Sem.run_bind,he,Result.andThen_ok,bI h,bT,cE]
      rw [h1]
      congr 3
      omega
  have fk:(Instr.findKey kt (.agg (lx.map fun n=>Value.int .i64 n).toArray) es).run P w=(Instr.findAsking kt (.agg (lx.map fun n=>Value.int .i64 n).toArray) es).run P w:=by
   cases es with
   |nil=>simp [Instr.findKey,run_underlying hu,Instr.findNow,Instr.findAsking]
   |cons e r=>simp [Instr.findKey,run_underlying hu,Instr.findNow,Instr.sameNow]
  rw [fk]
  rcases ask es 0 Js with h|⟨j,e,h1,h2,h3⟩
  ·exact .inl h
  ·exact .inr ⟨j,e,by simpa using h1,h2,h3⟩
 ·intro w v l h
  obtain ⟨rfl,hl⟩:=val h
  have:Instr.sameBits 10000 (.agg (l.map fun n=>Value.int .i64 n).toArray) (.agg (l.map fun n=>Value.int .i64 n).toArray)=true:=by
   simp only [Instr.sameBits,beq_self_eq_true,Bool.true_and,b9]
   intro p hp
   have:p.1=p.2/\ ∃n,p.1= .int .i64 n:=by
    obtain ⟨i,hi,rfl⟩:=cP.1 hp
    simp
   obtain ⟨e1,n,e2⟩:=this
   obtain ⟨a,b⟩:=p
   simp only at e1 e2
   subst e1 e2
   simp [Instr.sameBits]
  simp [Instr.keyThatStays,this]
end
theorem Kc {P:Program} {kt:TypeId} {ks:KS} (h:Kd P kt=some ks):mm P kt ks:=by
 unfold Kd at h
 split at h
 ·rename_i hu
  cases h
  exact mm.plain hu fun {v l} h=>by
   cases v<;>simp [gz] at h
   rename_i k n
   cases k<;>simp [gz] at h
   simp [MapKept.IsKey]
 ·rename_i hu
  cases h
  exact mm.plain hu fun {v l} h=>by
   cases v<;>simp [gz] at h
   simp [MapKept.IsKey]
 ·rename_i fs hu
  cases hp:P.stoodInHeld kt
  ·simp only [hp,ar] at h
   split at h
   ·rename_i n hf
    cases h
    exact mm.struct hu hp hf
   ·cases h
  ·simp [hp] at h
 ·cases h
end Go.Abs
