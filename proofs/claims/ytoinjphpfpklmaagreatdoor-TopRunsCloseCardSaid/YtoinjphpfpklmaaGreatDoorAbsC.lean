/- Contracts and what they stand on. -/
import Derived.Test.YtoinjphpfpklmaaGreatDoorAbsB
import Derived.Laws.StructEq
import Derived.StringKeys
import Derived.Laws.BytesArg
import Derived.Stop.IfaceNil
set_option linter.unusedVariables false
set_option linter.unusedSimpArgs false
section
namespace Go.Abs
open Go.RowKit
theorem Ay: ∀{vs:List Value} {l:List Int},vw vs=some l->vs=l.map fun n=>Value.int .i64 n
 |[],l,h=>by simp [vw] at h;subst h;rfl
 |v::r,l,h=>by
  cases v with
  |int k n=>
   cases k with
   |i64=>
    simp only [vw] at h
    cases hr:vw r with
    |none=>simp [hr] at h
    |some q=>
     simp only [hr,aa] at h
     subst h
     rw [Ay hr];rfl
   |_=>simp [vw] at h
  |_=>simp [vw] at h
def Az (P:Program):Nat->List Field->Bool
 |_,[]=>true
 |i,f::r=>bif f.name== "_" then false else match P.underlying f.type with
  |some (.int .i64)=>bif Nat.beq f.offset i then Az P (i+1) r else false
  |_=>false
def Zf (P:Program) (t:TypeId):Option Nat:=match P.underlying t with
 |some (.int .i64)=>some 1
 |some (.struct gs)=>bif P.stoodInHeld t then none else bif Az P 0 gs.toList then (match P.info? t with
  |some i=>bif Nat.beq i.size gs.toList.length then some gs.toList.length else none
  |none=>none) else none
 |_=>none
def rz (P:Program):Nat->List Field->Option Nat
 |i,[]=>some i
 |i,f::r=>bif f.name== "_" then none else match Zf P f.type with
  |some n=>bif Nat.beq f.offset i then rz P (i+n) r else none
  |none=>none
structure FH (P:Program) (kt:TypeId) (ks:KS):Prop where
 check: ∀(w:World) (em:Bool) {v:Value} {l:List Int},nr ks v=some l->(Instr.checkKey em 10000 kt v).run P w= .ok () w
 find: ∀(w:World) {x:Value} {lx:List Int},nr ks x=some lx-> ∀es:List MapEntry,(∀e∈es,∃l,nr ks e.key=some l)->
  ((Instr.findKey kt x es).run P w= .ok none w/\ ∀e∈es,e.key≠x)\/ ∃j e,(Instr.findKey kt x es).run P w= .ok (some (j,e.val)) w/\es[j]? =some e/\e.key=x
 stays: ∀(w:World) {v:Value} {l:List Int},nr ks v=some l->(Instr.keyThatStays v v).run P w= .ok v w
theorem FH.plain {P:Program} {kt:TypeId} {ks:KS} {d:TypeDesc} (hd:P.underlying kt=some d) (hk: ∀{v l},nr ks v=some l->MapKept.IsKey d v):FH P kt ks where
 check w em v l h:=MapKept.run_checkKey hd (hk h) em 9999
 find w x lx hx es hes:=by
  rcases MapKept.findNow_spec (hk hx) es 0 (fun e he=>let ⟨_,h⟩:=hes e he;hk h) with ⟨h1,h2⟩|⟨j,e,h1,h2,h3⟩
  ·exact .inl ⟨MapKept.run_findKey hd h1,h2⟩
  ·exact .inr ⟨j,e,by simpa using MapKept.run_findKey (w:=w) hd h1,h2,h3⟩
 stays w v l h:=MapKept.run_keyThatStays (hk h)
section
variable {P:Program} {w:World}
theorem zc {t:TypeId} (h:P.underlying t=some (.int .i64)) (vs:Array Value) (i:Nat) {v:Value} (hv:vs[i]? =some v):(part t vs i).run P w= .ok v w:=by
 have h1:(isAgg t).run P w= .ok false w:=by
  simp only [isAgg,Sem.run_bind,run_underlying h,Result.andThen_ok];rfl
 simp [part,h1,hv]
theorem Hv: ∀(fs:List Field) (i:Nat),Az P i fs=true-> ∀(d:Nat) (l l':List Int),l.length=i+fs.length->l'.length=i+fs.length->
 (Op.eqFields (d+1) (l.map fun n=>Value.int .i64 n).toArray (l'.map fun n=>Value.int .i64 n).toArray fs).run P w= .ok (decide (l.drop i=l'.drop i)) w
 |[],i,_,d,l,l',h1,h2=>by
  have e1:l.drop i=[]:=List.drop_eq_nil_of_le (by simp at h1;omega)
  have e2:l'.drop i=[]:=List.drop_eq_nil_of_le (by simp at h2;omega)
  simp [Op.eqFields,e1,e2]
 |f::fs,i,h,d,l,l',h1,h2=>by
  simp only [aL] at h1 h2
  simp only [Az] at h
  cases hn:f.name== "_"
  ·simp only [hn,ax] at h
   split at h
   ·rename_i ht
    cases ho:Nat.beq f.offset i
    ·simp [ho] at h
    ·simp only [ho,aq] at h
     have oQ:f.offset=i:=ag ho
     have ih:=Hv fs (i+1) h d l l' (by omega) (by omega)
     have hl:i<l.length:=by omega
     have oS:i<l'.length:=by omega
     have p1:=zc (w:=w) ht (l.map fun n=>Value.int .i64 n).toArray i (v:= .int .i64 l[i]) (by simp [hl])
     have p2:=zc (w:=w) ht (l'.map fun n=>Value.int .i64 n).toArray i (v:= .int .i64 l'[i]) (by simp [oS])
     simp only [Op.eqFields,show f.name≠ "_" from by simpa using hn,ne_eq,not_false_eq_true,bn,Sem.run_bind,oQ,p1,p2,Result.andThen_ok,run_equalIn_int w d f.type _ _ _ _ ht]
     rw [cx hl,cx oS]
     cases he:(l[i]==l'[i])
     ·have:l[i]≠l'[i]:=by simpa using he
      rw [bg (fun e=>this (List.cons.inj e).1)]
      simp
     ·have:l[i]=l'[i]:=by simpa using he
      simp only [this,List.cons.injEq,cQ]
      simpa using ih
   ·cases h
  ·simp [hn] at h
theorem yl (em:Bool) (d:Nat) (cs:Array Value): ∀(fs:List Field) (i:Nat),Az P i fs=true->(∀j,i<=j->j<i+fs.length-> ∃n,cs[j]? =some (.int .i64 n))->
 (forIn fs PUnit.unit fun f (_:PUnit)=>(if f.name≠ "_" then part f.type cs f.offset>>=fun v=>Instr.checkKey em (d+1) f.type v>>=fun _=>pure (ForInStep.yield PUnit.unit)
   else pure (ForInStep.yield PUnit.unit):Sem (ForInStep PUnit))).run P w= .ok PUnit.unit w
 |[],_,_,_=>by simp
 |f::fs,i,h,hc=>by
  simp only [Az] at h
  cases hn:f.name== "_"
  ·simp only [hn,ax] at h
   split at h
   ·rename_i ht
    cases ho:Nat.beq f.offset i
    ·simp [ho] at h
    ·simp only [ho,aq] at h
     have oQ:f.offset=i:=ag ho
     obtain ⟨n,Ua⟩:=hc i (af _) (by simp)
     have p1:=zc (w:=w) ht cs i Ua
     have ih:=yl em d cs fs (i+1) h (fun j h1 h2=>hc j (by omega) (by simp;omega))
     have hk:=MapKept.run_checkKey (w:=w) ht (k:= .int .i64 n) (by simp [MapKept.IsKey]) em d
     simp only [List.forIn_cons,Sem.run_bind,show f.name≠ "_" from by simpa using hn,ne_eq,not_false_eq_true,bn,oQ,p1,hk,Result.andThen_ok,Sem.run_pure]
     exact ih
   ·cases h
  ·simp [hn] at h
structure U6 (P:Program) (t:TypeId) (n:Nat) (g:List Int->Value):Prop where
 part: ∀(w:World) (l:List Int) (i:Nat),i+n<=l.length->(Go.part t (l.map fun n=>Value.int .i64 n).toArray i).run P w= .ok (g ((l.drop i).take n)) w
 eq: ∀(w:World) (d:Nat) (a b:List Int),a.length=n->b.length=n->(Op.equalIn (d+2) t (g a) (g b)).run P w= .ok (decide (a=b)) w
 check: ∀(w:World) (em:Bool) (d:Nat) (a:List Int),a.length=n->(Instr.checkKey em (d+2) t (g a)).run P w= .ok () w
theorem DK {t:TypeId} {n:Nat} (h:Zf P t=some n): ∃g,U6 P t n g:=by
 unfold Zf at h
 split at h
 ·rename_i hu
  cases h
  refine ⟨fun l=> .int .i64 (l.headD 0),fun w l i hi=> ?_,fun w d a b ha hb=> ?_,fun w em d a ha=> ?_⟩
  ·have hl:i<l.length:=by omega
   have:=zc (w:=w) hu (l.map fun n=>Value.int .i64 n).toArray i (v:= .int .i64 l[i]) (by simp [hl])
   rw [this]
   have e:(l.drop i).take 1=[l[i]]:=by rw [cx hl];rfl
   rw [e];rfl
  ·match a,b,ha,hb with
   |[x],[y],_,_=>
    refine (run_equalIn_int w (d+1) t _ _ _ _ hu).trans ?_
    simp
    by_cases hx:x=y<;>simp [hx]
  ·exact MapKept.run_checkKey (w:=w) hu (by simp [MapKept.IsKey]) em (d+1)
 ·rename_i gs hu
  cases hp:P.stoodInHeld t
  ·simp only [hp,ax] at h
   cases hf:Az P 0 gs.toList
   ·simp [hf] at h
   ·simp only [hf,aq] at h
    split at h
    ·rename_i inf hinf
     cases hz:Nat.beq inf.size gs.toList.length
     ·rw [hz] at h;cases h
     ·rw [hz,aq] at h
      cases h
      have hz:=ag hz
      have hff:P.fieldsOf t=gs:=by simp [Program.fieldsOf,hu]
      refine ⟨fun l=> .agg (l.map fun n=>Value.int .i64 n).toArray,fun w l i hi=> ?_,fun w d a b ha hb=> ?_,fun w em d a ha=> ?_⟩
      ·have h1:(isAgg t).run P w= .ok true w:=by
        simp only [isAgg,Sem.run_bind,run_underlying hu,Result.andThen_ok];rfl
       have h2:(sizeOf t).run P w= .ok gs.toList.length w:=by rw [<-hz];simp [sizeOf,typeInfo,hinf]
       simp only [Go.part,Sem.run_bind,h1,h2,Result.andThen_ok,bn,Sem.run_pure]
       congr 2
       apply cD
       rw [Array.toList_extract]
       simp [List.extract,List.map_take,List.map_drop]
      ·have:=run_equalIn_struct (P:=P) (w:=w) (d+1) t (a.map fun n=>Value.int .i64 n).toArray (b.map fun n=>Value.int .i64 n).toArray (by rw [hff];exact hu) hp
       rw [hff] at this
       have h3:=Hv (w:=w) gs.toList 0 hf d a b (by omega) (by omega)
       simp only [List.drop_zero] at h3
       exact this.trans h3
      ·rw [Instr.checkKey]
       simp only [Sem.run_bind,run_underlying hu,Result.andThen_ok]
       rw [<-Array.forIn_toList]
       refine (congrArg (fun r:Result PUnit=>r.andThen fun _ w'=>Sem.run P (pure ()) w') (?_:_=Result.ok PUnit.unit w)).trans rfl
       exact yl (w:=w) em d (a.map fun n=>Value.int .i64 n).toArray gs.toList 0 hf (fun j _ h2=>⟨a[j]'(by omega),by simp [show j<a.length by omega]⟩)
    ·cases h
  ·simp [hp] at h
 ·cases h
theorem E7: ∀(fs:List Field) (i n:Nat),rz P i fs=some n->i<=n
 |[],i,n,h=>by cases h;exact af _
 |f::fs,i,n,h=>by
  simp only [rz] at h
  cases hn:f.name== "_"
  ·simp only [hn,ax] at h
   split at h
   ·rename_i k hk
    cases ho:Nat.beq f.offset i
    ·simp [ho] at h
    ·simp only [ho,aq] at h
     have:=E7 fs (i+k) n h
     omega
   ·cases h
  ·simp [hn] at h
theorem Me: ∀(fs:List Field) (i n:Nat),rz P i fs=some n-> ∀(d:Nat) (l l':List Int),l.length=n->l'.length=n->
 (Op.eqFields (d+2) (l.map fun n=>Value.int .i64 n).toArray (l'.map fun n=>Value.int .i64 n).toArray fs).run P w= .ok (decide (l.drop i=l'.drop i)) w
 |[],i,n,h,d,l,l',h1,h2=>by
  cases h
  have e1:l.drop i=[]:=List.drop_eq_nil_of_le (by omega)
  have e2:l'.drop i=[]:=List.drop_eq_nil_of_le (by omega)
  simp [Op.eqFields,e1,e2]
 |f::fs,i,n,h,d,l,l',h1,h2=>by
  simp only [rz] at h
  cases hn:f.name== "_"
  ·simp only [hn,ax] at h
   split at h
   ·rename_i k hk
    cases ho:Nat.beq f.offset i
    ·simp [ho] at h
    ·simp only [ho,aq] at h
     have oQ:f.offset=i:=ag ho
     have hle:=E7 fs (i+k) n h
     have ih:=Me fs (i+k) n h d l l' h1 h2
     obtain ⟨g,hg⟩:=DK hk
     have p1:=hg.part w l i (by omega)
     have p2:=hg.part w l' i (by omega)
     have q:=hg.eq w d ((l.drop i).take k) ((l'.drop i).take k) (by rw [aQ,bq];omega) (by rw [aQ,bq];omega)
     simp only [Op.eqFields,show f.name≠ "_" from by simpa using hn,ne_eq,not_false_eq_true,bn,Sem.run_bind,oQ,p1,p2,Result.andThen_ok,q]
     have s1:l.drop i=(l.drop i).take k++l.drop (i+k):=by rw [<-List.drop_drop,List.take_append_drop]
     have s2:l'.drop i=(l'.drop i).take k++l'.drop (i+k):=by rw [<-List.drop_drop,List.take_append_drop]
     have hlen:((l.drop i).take k).length=((l'.drop i).take k).length:=by simp only [aQ,bq];omega
     by_cases he:(l.drop i).take k=(l'.drop i).take k
     ·have:(l.drop i=l'.drop i)↔(l.drop (i+k)=l'.drop (i+k)):=by
       constructor
       ·intro e
        rw [s1,s2] at e
        exact (List.append_inj e hlen).2
       ·intro e
        rw [s1,s2,he,e]
      rw [bk he]
      simp only [Bool.not_true,bB,cg]
      refine (?_:_=_).trans (ih.trans (by rw [cH.2 this]))
      simp
     ·have: ¬l.drop i=l'.drop i:=fun e=>he (by rw [e])
      rw [bg he,bg this]
      simp
   ·cases h
  ·simp [hn] at h
theorem AO (em:Bool) (d:Nat) (l:List Int): ∀(fs:List Field) (i n:Nat),rz P i fs=some n->l.length=n->
 (forIn fs PUnit.unit fun f (_:PUnit)=>(if f.name≠ "_" then part f.type (l.map fun n=>Value.int .i64 n).toArray f.offset>>=fun v=>Instr.checkKey em (d+2) f.type v>>=fun _=>pure (ForInStep.yield PUnit.unit)
   else pure (ForInStep.yield PUnit.unit):Sem (ForInStep PUnit))).run P w= .ok PUnit.unit w
 |[],_,_,_,_=>by simp
 |f::fs,i,n,h,hl=>by
  simp only [rz] at h
  cases hn:f.name== "_"
  ·simp only [hn,ax] at h
   split at h
   ·rename_i k hk
    cases ho:Nat.beq f.offset i
    ·simp [ho] at h
    ·simp only [ho,aq] at h
     have oQ:f.offset=i:=ag ho
     have hle:=E7 fs (i+k) n h
     obtain ⟨g,hg⟩:=DK hk
     have p1:=hg.part w l i (by omega)
     have hc:=hg.check w em d ((l.drop i).take k) (by rw [aQ,bq];omega)
     have ih:=AO em d l fs (i+k) n h hl
     simp only [List.forIn_cons,Sem.run_bind,show f.name≠ "_" from by simpa using hn,ne_eq,not_false_eq_true,bn,oQ,p1,hc,Result.andThen_ok,Sem.run_pure]
     exact ih
   ·cases h
  ·simp [hn] at h
theorem FH.struct {kt:TypeId} {fs:Array Field} (hu:P.underlying kt=some (.struct fs)) (hp:P.stoodInHeld kt=false) {n:Nat} (hf:rz P 0 fs.toList=some n):FH P kt (.ints n):=by
 have val: ∀{v l},nr (.ints n) v=some l->v= .agg (l.map fun n=>Value.int .i64 n).toArray/\l.length=n:=fun {v l} h=>by
  cases v<;>simp only [nr,reduceCtorEq] at h
  rename_i vs
  cases hv:vw vs.toList with
  |none=>simp [hv] at h
  |some q=>
   simp only [hv] at h
   cases hb:Nat.beq q.length n<;>simp only [hb,ax,aq,reduceCtorEq,aa] at h
   subst h
   have:=Ay hv
   refine ⟨?_,ag hb⟩
   rw [<-this]
 have hff:P.fieldsOf kt=fs:=by simp [Program.fieldsOf,hu]
 have eqr: ∀(w:World) (l l':List Int),l.length=n->l'.length=n->(Op.equal kt (.agg (l.map fun n=>Value.int .i64 n).toArray) (.agg (l'.map fun n=>Value.int .i64 n).toArray)).run P w= .ok (decide (l=l')) w:=fun w l l' h1 h2=>by
  have:=run_equalIn_struct (P:=P) (w:=w) 9999 kt (l.map fun n=>Value.int .i64 n).toArray (l'.map fun n=>Value.int .i64 n).toArray (by rw [hff];exact hu) hp
  rw [hff] at this
  have h3:=Me (w:=w) fs.toList 0 n hf 9997 l l' (by omega) (by omega)
  simp only [List.drop_zero] at h3
  exact this.trans h3
 constructor
 ·intro w em v l h
  obtain ⟨rfl,hl⟩:=val h
  rw [show (10000:Nat)=9999+1 from rfl,Instr.checkKey]
  simp only [Sem.run_bind,run_underlying hu,Result.andThen_ok]
  rw [<-Array.forIn_toList]
  refine (congrArg (fun r:Result PUnit=>r.andThen fun _ w'=>Sem.run P (pure ()) w') (?_:_=Result.ok PUnit.unit w)).trans rfl
  exact AO (w:=w) em 9997 l fs.toList 0 n hf hl
 ·intro w x lx hx es hes
  obtain ⟨rfl,hlx⟩:=val hx
  have ask: ∀(es:List MapEntry) (i:Nat),(∀e∈es,∃l,nr (.ints n) e.key=some l)->
   ((Instr.findAsking kt (.agg (lx.map fun n=>Value.int .i64 n).toArray) es i).run P w= .ok none w/\ ∀e∈es,e.key≠ .agg (lx.map fun n=>Value.int .i64 n).toArray)\/
   ∃j e,(Instr.findAsking kt (.agg (lx.map fun n=>Value.int .i64 n).toArray) es i).run P w= .ok (some (i+j,e.val)) w/\es[j]? =some e/\e.key= .agg (lx.map fun n=>Value.int .i64 n).toArray:=by
   intro es
   induction es with
   |nil=>intro i _;exact .inl ⟨by simp [Instr.findAsking],by simp⟩
   |cons e r ih=>
    intro i hes
    obtain ⟨l,hl⟩:=hes e ay
    obtain ⟨hk,hll⟩:=val hl
    have he:=eqr w lx l hlx hll
    rw [<-hk] at he
    by_cases h:lx=l
    ·right
     refine ⟨0,e,?_,rfl,by rw [hk,h]⟩
     simp only [Instr.findAsking,Sem.run_bind,he,Result.andThen_ok,bk h,bn]
     rfl
    ·have nj:e.key≠ .agg (lx.map fun n=>Value.int .i64 n).toArray:=fun e1=>by
      rw [e1] at hl
      rw [hx] at hl
      exact h (bF hl)
     rcases ih (i+1) (fun e' h'=>hes e' (az _ h')) with ⟨h1,h2⟩|⟨j,e',h1,h2,h3⟩
     ·left
      refine ⟨?_,fun e' h'=> ?_⟩
      ·simp only [Instr.findAsking,Sem.run_bind,he,Result.andThen_ok,bg h,bB,cg]
       exact h1
      ·rcases aS.1 h' with rfl|h'
       ·exact nj
       ·exact h2 e' h'
     ·right
      refine ⟨j+1,e',?_,by simpa using h2,h3⟩
      simp only [Instr.findAsking,Sem.run_bind,he,Result.andThen_ok,bg h,bB,cg]
      rw [h1]
      congr 3
      omega
  have fk:(Instr.findKey kt (.agg (lx.map fun n=>Value.int .i64 n).toArray) es).run P w=(Instr.findAsking kt (.agg (lx.map fun n=>Value.int .i64 n).toArray) es).run P w:=by
   cases es with
   |nil=>simp [Instr.findKey,run_underlying hu,Instr.findNow,Instr.findAsking]
   |cons e r=>simp [Instr.findKey,run_underlying hu,Instr.findNow,Instr.sameNow]
  rw [fk]
  rcases ask es 0 hes with h|⟨j,e,h1,h2,h3⟩
  ·exact .inl h
  ·exact .inr ⟨j,e,by simpa using h1,h2,h3⟩
 ·intro w v l h
  obtain ⟨rfl,hl⟩:=val h
  have:Instr.sameBits 10000 (.agg (l.map fun n=>Value.int .i64 n).toArray) (.agg (l.map fun n=>Value.int .i64 n).toArray)=true:=by
   simp only [Instr.sameBits,beq_self_eq_true,Bool.true_and,bV]
   intro p hp
   have:p.1=p.2/\ ∃n,p.1= .int .i64 n:=by
    obtain ⟨i,hi,rfl⟩:=bX.1 hp
    simp
   obtain ⟨e1,n,e2⟩:=this
   obtain ⟨a,b⟩:=p
   simp only at e1 e2
   subst e1 e2
   simp [Instr.sameBits]
  simp [Instr.keyThatStays,this]
end
end Go.Abs
end
section
namespace Go.Abs
open Go.RowKit
def DV.un:DV->DV
 |.opt _ d=>d.un
 |d=>d
def DV.mZ :DV->Option Bool
 |.opt b d=>match d.mZ with
  |none=>some b
  |some c=>some (b&&c)
 |_=>none
def DV.closed:DV->Bool
 |.val _=>true
 |.di _ _=>true
 |.dN _=>true
 |.agg cs=>go cs
 |.fy cs=>go cs
 |.jL _ cs=>go cs
 |.nZ _ cs=>go cs
 |.mp .. =>true
 |.any=>true
 |.err _=>true
 |.whole _=>true
 |_=>false
where go:List DV->Bool
 |[]=>true
 |d::r=>bif d.closed then go r else false
def DV.plain:DV->Bool
 |.val _=>true
 |.fy cs=>go cs
 |.agg cs=>go cs
 |_=>false
where go:List DV->Bool
 |[]=>true
 |d::r=>bif d.plain then go r else false
structure eW where
 d:DV:= .any
 hw:List (Nat×Option fK):=[]
 vc:List Prop:=[]
def bad:eW:={ vc:=[False] }
inductive WO where
 |no
 |row (de:List (Nat->DV))
 |box (cs:List DV)
inductive WA where
 |arg (d:DV)
 |row (n:Nat) (de fo:List (Nat->DV))
 |box (cs vS:List DV)
inductive fE where
 |no
 |wrap
 |pos
 |res (d:List DV->DV)
 |row (g:List DV->Nat×List (Nat->DV))
 |rowA (g:List DV->List DV×Nat×List (Nat->DV))
 |zA (g:List DV->Nat->Int)
 |take (g:List DV->Nat×(Nat->Int))
 |Ur
 |frp
 |wr (g:List DV->List WO×DV)
 |sh (k c:Nat) (g:List DV->List DV×DV)
 |bro (g:Nat->List (Nat->DV)->DV->(Nat->Int)×DV)
 |base
 |Lu (m:Nat)
def fQ (w:World) (S:Nat->Prop):Rd:=fun a u=>BC w a u/\S a.block
def lY (w':World) (S:Nat->Prop) (base:Nat):Rd:=fun a u=>BC w' a u/\(S a.block\/base<=a.block)
def gC (P:Program) (f:FuncId):Prop:= ∃fn,P.funcs[f]? =some fn/\fn.body.isNone=false/\(fn.name== "runtime.NumGoroutine")=false
def dm (P:Program) (f:FuncId) (args:List DV) (res:DV):Prop:=gC P f/\ ∀(S:Nat->Prop) (w:World) (vs:Array Value),vs.size=args.length->
 (∀(j:Nat) (d:DV) (v:Value),args[j]? =some d->vs[j]? =some v->du (fQ w S) d v)->ju (fQ w S)->
 Calls P f vs w fun e w'=> ∃v,e= .returned v/\du (lY w' S w.heap.size) res v/\Below w.heap.size w w'
def ZU (P:Program) (f:FuncId) (args:List DV) (n:Nat) (de:List (Nat->DV)):Prop:=gC P f/\ ∀(S:Nat->Prop) (w:World) (vs:Array Value),vs.size=args.length->
 (∀(j:Nat) (d:DV) (v:Value),args[j]? =some d->vs[j]? =some v->du (fQ w S) d v)->ju (fQ w S)->
 Calls P f vs w fun e w'=> ∃v,e= .returned v/\Below w.heap.size w w'/\((v= .slice none 0 0/\n=0)\/ ∃g C cv T,v= .slice (some ⟨g,0,none⟩) n C/\w.heap.size<=g/\w'.heap[g]? =some (.cells cv T (0,0))/\cv.size=C*de.length/\n<=C/\
  ∀(i j:Nat) (f:Nat->DV),i<n->de[j]? =some f-> ∃u,cv[i*de.length+j]? =some u/\fc u=true/\du (fun a u=>BC w' a u/\a.block≠g/\(S a.block\/w.heap.size<=a.block)) (f i) u)
def FnA (P:Program) (f:FuncId) (args:List DV) (pre:List DV) (n:Nat) (de:List (Nat->DV)):Prop:=gC P f/\ ∀(S:Nat->Prop) (w:World) (vs:Array Value),vs.size=args.length->
 (∀(j:Nat) (d:DV) (v:Value),args[j]? =some d->vs[j]? =some v->du (fQ w S) d v)->ju (fQ w S)->
 Calls P f vs w fun e w'=> ∃us v,e= .returned (.agg (us++[v]).toArray)/\us.length=pre.length/\Below w.heap.size w w'/\((v= .slice none 0 0/\n=0/\du (lY w' S w.heap.size) (.agg pre) (.agg us.toArray))\/ ∃g C cv T,v= .slice (some ⟨g,0,none⟩) n C/\w.heap.size<=g/\w'.heap[g]? =some (.cells cv T (0,0))/\cv.size=C*de.length/\n<=C/\
  (∀(i j:Nat) (f:Nat->DV),i<n->de[j]? =some f-> ∃u,cv[i*de.length+j]? =some u/\fc u=true/\du (fun a u=>BC w' a u/\a.block≠g/\(S a.block\/w.heap.size<=a.block)) (f i) u)/\
  du (fun a u=>BC w' a u/\a.block≠g/\(S a.block\/w.heap.size<=a.block)) (.agg pre) (.agg us.toArray))
def FnT (P:Program) (f:FuncId) (n:Nat) (A A':Nat->Int) (rest:List DV):Prop:=gC P f/\ ∀(w:World) (v0:Value) (vs:List Value),vs.length=rest.length->
 (∀(j:Nat) (d:DV) (v:Value),rest[j]? =some d->vs[j]? =some v->du (fQ w fun _=>True) d v)->
 (v0= .slice none 0 0->n=0->Calls P f (v0::vs).toArray w fun e w'=>e= .returned (.tuple #[])/\Below w.heap.size w w')/\
 ∀(g C:Nat) (cv:Array Value) (T:TypeId),v0= .slice (some ⟨g,0,none⟩) n C->n<=C->w.heap[g]? =some (.cells cv T (0,0))->cv.size=C->(∀i,i<n->cv[i]? =some (.int .i64 (A i)))->
  Calls P f (v0::vs).toArray w fun e w'=>e= .returned (.tuple #[])/\ ∃(yM:Array Value) (w1:World),yM.size=C/\(∀i,i<n->yM[i]? =some (.int .i64 (A' i)))/\
   w1.heap.size=w.heap.size/\w1.os=w.os/\w1.tape=w.tape/\w1.output=w.output/\Cs w w1/\(∀k,k≠g->w1.heap[k]? =w.heap[k]?)/\w1.heap[g]? =some (.cells yM T (0,0))/\Below w1.heap.size w1 w'
def FnK (P:Program) (f:FuncId) (n:Nat) (A:Nat->Int) (n':Nat) (A':Nat->Int):Prop:=gC P f/\ ∀(w:World) (v0:Value),
 (v0= .slice none 0 0->n=0->n'=0/\Calls P f #[v0] w fun e w'=>e= .returned (.slice none 0 0)/\Below w.heap.size w w')/\
 ∀(g C:Nat) (cv:Array Value) (T:TypeId),v0= .slice (some ⟨g,0,none⟩) n C->n<=C->w.heap[g]? =some (.cells cv T (0,0))->cv.size=C->(∀i,i<n->cv[i]? =some (.int .i64 (A i)))->
  n'<=n/\Calls P f #[v0] w fun e w'=>e= .returned (.slice (some ⟨g,0,none⟩) n' C)/\ ∃(yM:Array Value) (w1:World),yM.size=C/\(∀i,i<n'->yM[i]? =some (.int .i64 (A' i)))/\
   w1.heap.size=w.heap.size/\w1.os=w.os/\w1.tape=w.tape/\w1.output=w.output/\Cs w w1/\(∀k,k≠g->w1.heap[k]? =w.heap[k]?)/\w1.heap[g]? =some (.cells yM T (0,0))/\Below w1.heap.size w1 w'
def We (w:World) (rd:Rd) (g n C:Nat) (de:List (Nat->DV)):Prop:= ∃cv T,w.heap[g]? =some (.cells cv T (0,0))/\cv.size=C*de.length/\n<=C/\
 ∀(i j:Nat) (f:Nat->DV),i<n->de[j]? =some f-> ∃u,cv[i*de.length+j]? =some u/\fc u=true/\du rd (f i) u
def My (w:World) (rd:Rd) (g:Nat) (cs:List DV):Prop:= ∃cv T,w.heap[g]? =some (.cells cv T (0,0))/\cv.size=cs.length/\(∀(j:Nat) (d:DV) (u:Value),cs[j]? =some d->cv[j]? =some u->du rd d u)/\ ∀u∈cv.toList,fc u=true
def WA.pre (w:World) (S:Nat->Prop) (v:Value) (b:Option Nat):WA->Prop
 |.arg d=>b=none/\du (fQ w S) d v
 |.row n de fo=>fo.length=de.length/\((v= .slice none 0 0/\n=0/\b=none)\/ ∃g C,b=some g/\v= .slice (some ⟨g,0,none⟩) n C/\We w (fQ w S) g n C de)
 |.box cs vS=>vS.length=cs.length/\ ∃g,b=some g/\v= .pointer (some ⟨g,0,none⟩)/\My w (fQ w S) g cs
def WA.post (w:World) (rd:Rd) (v:Value):WA->Prop
 |.arg _=>True
 |.row n _ fo=> ∀g C,v= .slice (some ⟨g,0,none⟩) n C->We w rd g n C fo
 |.box _ vS=> ∀g,v= .pointer (some ⟨g,0,none⟩)->My w rd g vS
def ZQ (rd:Rd) (vs:Array Value) (v:Value):DV->Prop
 |.row _ p _ n=>(vs[p]? =some (.slice none 0 0)/\v= .slice none 0 0/\n=0)\/ ∃g m C,vs[p]? =some (.slice (some ⟨g,0,none⟩) m C)/\v= .slice (some ⟨g,0,none⟩) n C/\n<=C
 |d=>du rd d v
def FnW (P:Program) (f:FuncId) (args:List WA) (res:DV):Prop:=gC P f/\ ∀(S:Nat->Prop) (w:World) (vs:Array Value) (b:Nat->Option Nat),vs.size=args.length->
 (∀(j:Nat) (a:WA) (v:Value),args[j]? =some a->vs[j]? =some v->a.pre w S v (b j))->(∀j,args.length<=j->b j=none)->(∀i j g,b i=some g->b j=some g->i=j)->(∀j g,b j=some g-> ¬S g)->ju (fQ w S)->
 Calls P f vs w fun e w'=> ∃v,e= .returned v/\ZQ (lY w' S w.heap.size) vs v res/\iR w.heap.size (fun k=> ∃j,b j=some k) w w'/\ ∀(j:Nat) (a:WA) (v:Value),args[j]? =some a->vs[j]? =some v->a.post w' (lY w' S w.heap.size) v
def NP (g:Nat) (i:Nat):Option Loc:=if i=0 then some (.at_ g 0) else none
def FnS (P:Program) (f:FuncId) (args:List DV) (cs vS:List DV) (res:DV):Prop:=gC P f/\ ∀(S:Nat->Prop) (w:World) (vs:Array Value) (g:Nat),vs.size=args.length->
 (∀(j:Nat) (d:DV) (v:Value),args[j]? =some d->vs[j]? =some v->Rel (fQ w S) (fun i=>i=0) (NP g) d v)->My w (fQ w S) g cs-> ¬S g->ju (fQ w S)->
 Calls P f vs w fun e w'=> ∃v,e= .returned v/\du (lY w' S w.heap.size) res v/\iR w.heap.size (fun k=>k=g) w w'/\My w' (lY w' S w.heap.size) g vS
def FnB (P:Program) (f:FuncId) (x:Value) (n:Nat) (U U':Nat->Int) (y:Value):Prop:=gC P f/\ ∀(S:Nat->Prop) (w:World) (gb g C:Nat) (cb cv:Array Value) (T T2:TypeId),ju (fQ w S)-> ¬S gb-> ¬S g->w.heap[gb]? =some (.cells cb T (0,0))->cb.size=1->cb[0]? =some (.slice (some ⟨g,0,none⟩) n C)->gb≠g->
 w.heap[g]? =some (.cells cv T2 (0,0))->cv.size=C->n<=C->(∀i,i<n->cv[i]? =some (.int .i64 (U i)))->
 Calls P f #[x,.pointer (some ⟨gb,0,none⟩)] w fun e w'=>e= .returned y/\iR w.heap.size (fun k=>k=gb\/k=g) w w'/\
  (∃cb' T',w'.heap[gb]? =some (.cells cb' T' (0,0))/\cb'.size=1/\cb'[0]? =some (.slice (some ⟨g,0,none⟩) n C))/\ ∃yM T2',w'.heap[g]? =some (.cells yM T2' (0,0))/\yM.size=C/\ ∀i,i<n->yM[i]? =some (.int .i64 (U' i))
def XQ (c:Nat->DV):Prop:= ∀i,match c i with
 |.val _=>True
 |_=>False
def D8:List (Nat->DV)->List Prop
 |[]=>[]
 |c::r=>XQ c::D8 r
def kF (c:Nat->DV):Prop:= ∀i,match c i with
 |.val (.int .i64 _)=>True
 |_=>False
def zD (P:Program) (t:TypeId):Option Bool:=match P.underlying t with
 |some (.struct _)=>some true
 |some (.array _ _)=>some true
 |some _=>some false
 |none=>none
def iS (P:Program) (t:TypeId):Option Nat:=match P.info? t with
 |some i=>some i.size
 |none=>none
def JL (P:Program) (t:TypeId):Option Nat:=match P.info? t with
 |some i=>some i.bytes
 |none=>none
def sM (P:Program) (t:TypeId):Option (List DV):=match P.info? t with
 |some i=>match i.zero with
  |some z=>(DV.val z).cells?
  |none=>none
 |none=>none
abbrev Heap:=Nat->Option fK
def pq (ob:Heap):DV->Option (List DV×List Prop)
 |.ptr id j=>match ob id with
  |some (.box cs)=>some (cs.drop j,[])
  |_=>none
 |.jZ s id i j=>match ob id with
  |some (.row n de)=>bif Nat.beq de.length s then some ((de.drop j).map fun c=>c i,[i<n]) else none
  |some (.ph n de)=>bif Nat.beq de.length s then some ((de.drop j).map fun c=>c i,[i<n]) else none
  |_=>none
 |.dN cs=>some (cs,[])
 |_=>none
def rD (P:Program) (ob:Heap) (t:TypeId) (p:DV):eW:=
 match zD P t,iS P t,pq ob p with
 |some true,some n,some (cs,vc)=>bif Nat.ble n cs.length then { d:=mM (cs.take n),vc } else bad
 |some false,some _,some (d::_,vc)=>{ d,vc }
 |_,_,_=>bad
def GM (b:Bool):Value->Value->Option Value
 |.int k x,.int k' y=>if k=k' then some (.int k (if b=true then x else y)) else none
 |.bool x,.bool y=>some (.bool (if b=true then x else y))
 |.string x,.string y=>some (.string (if b=true then x else y))
 |_,_=>none
def Pv (b:Bool):DV->DV->DV
 |.val v,.val u=>match GM b v u with
  |some x=> .val x
  |none=> .any
 |_,_=> .any
def mF (f:DV->DV->DV):List (Nat->DV)->List (Nat->DV)->List (Nat->DV)
 |c::r,d::q=>(fun i=>f (c i) (d i))::mF f r q
 |_,_=>[]
def Pu (b:Bool):DV->DV->DV
 |.di n de,.di n' fo=>bif Nat.beq de.length fo.length then .di (if b=true then n else n') (mF (Pv b) de fo) else .any
 |d,e=>Pv b d e
def Lu (b:Bool):DV->DV->DV
 |.di n de,.di n' fo=>bif Nat.beq de.length fo.length then .di (if b=true then n else n') (mF (Pu b) de fo) else .any
 |d,e=>Pu b d e
def kC (i:Nat):List (Nat->DV)->List DV->List (Nat->DV)
 |c::r,d::q=>(fun i'=>Lu (decide (i'=i)) d (c i'))::kC i r q
 |r,[]=>r
 |[],_=>[]
def sl (P:Program) (ob:Heap) (t:TypeId) (p d:DV):eW:=
 match iS P t,d.cells? with
 |some n,some vs=>bif Nat.beq n vs.length then
  (match p with
  |.ptr id j=>match ob id with
   |some (.box cs)=>bif Nat.ble (j+n) cs.length then { hw:=[(id,some (.box (cs.take j++(vs++cs.drop (j+n)))))] } else bad
   |_=>bad
  |.jZ s id i j=>match ob id with
   |some (.row n' de)=>bif Nat.beq de.length s&&Nat.ble (j+n) s&&DV.closed.go vs then
     { hw:=[(id,some (.row n' (de.take j++kC i (de.drop j) vs)))],vc:=[i<n'] } else bad
   |_=>bad
  |_=>bad) else bad
 |_,_=>bad
def rE (P:Program) (s:TypeId) (x:DV) (f:Nat):eW:=
 match P.underlying s with
 |some (.struct fs)=>match fs[f]? with
  |some fd=>match iS P fd.type with
   |some (_+1)=>match x with
    |.ptr id j=>{ d:= .ptr id (j+fd.offset) }
    |.jZ s id i j=>{ d:= .jZ s id i (j+fd.offset) }
    |.k5 s id i j=>(match j+fd.offset with
     |0=>{ d:= .k5 s id i 0 }
     |1=>{ d:= .k5 s id i 1 }
     |2=>{ d:= .k5 s id i 2 }
     |3=>{ d:= .k5 s id i 3 }
     |_=>bad)
    |.dN cs=>{ d:= .dN (cs.drop fd.offset) }
    |_=>bad
   |_=>bad
  |none=>bad
 |_=>bad
def jt:DV->Option (List DV)
 |.agg cs=>some cs
 |.val (.agg vs)=>some (vs.toList.map .val)
 |_=>none
def Fe (P:Program) (t:TypeId) (x:DV) (f:Nat):eW:=
 match P.underlying t with
 |some (.struct fs)=>match fs[f]? with
  |some fd=>match zD P fd.type,iS P fd.type,jt x with
   |some true,some n,some cs=>bif Nat.ble (fd.offset+n) cs.length then { d:=mM ((cs.drop fd.offset).take n) } else bad
   |some false,some _,some cs=>match cs[fd.offset]? with
    |some d=>{ d }
    |none=>bad
   |_,_,_=>bad
  |none=>bad
 |_=>bad
def ng (off i:Nat):Nat:=match off with
 |0=>i
 |off+1=>off+1+i
def ke (ob:Heap) (id s:Nat):Bool:=match ob id with
 |some (.row _ de)=>Nat.beq de.length s
 |_=>false
def xu (ob:Heap) (id s:Nat):Bool:=match ob id with
 |some (.row _ de)=>Nat.beq de.length s
 |some (.ph _ de)=>Nat.beq de.length s
 |_=>false
def k8 (s:ByteArray) (i:Nat):Int:=((s.data.getD i 0).toNat:Int)
def ij:List DV->Option (IntKind×List Int)
 |[]=>none
 |[.val (.int k x)]=>some (k,[x])
 |.val (.int k x)::r=>match ij r with
  |some (k',l)=>if k=k' then some (k,x::l) else none
  |none=>none
 |_=>none
def LR (cs:List DV):Nat->DV:=match cs with
 |[d]=>fun _=>d
 |cs=>match ij cs with
  |some (k,l)=>fun i=> .val (.int k (l.getD i 0))
  |none=>fun i=>cs.getD i .any
def To:Nat->List DV->Nat->DV
 |_,[],_=> .any
 |_,[d],_=>d
 |k,d::r,i=>Lu (decide (i=k)) d (To (k+1) r i)
def EO (cs:List DV):Nat->DV:=match cs with
 |[d]=>fun _=>d
 |cs=>match ij cs with
  |some (k,l)=>fun i=> .val (.int k (l.getD i 0))
  |none=>fun i=>To 0 cs i
def every (s j:Nat):Nat->List DV->List DV
 |0,_=>[]
 |n+1,cs=>match cs[j]? with
  |some d=>d::every s j n (cs.drop s)
  |none=>[]
def mB (P:Program) (ob:Heap) (t:TypeId) (m:Nat):DV->eW
 |.jZ s id i j=>match zD P t,ob id with
  |some false,some (.row n de)=>bif Nat.beq de.length s&&Nat.ble m de.length then (match ij ((de.take m).map fun c=>c i) with
   |some (k,l)=>{ d:= .val (.int k (l.getD j 0)),vc:=[i<n,j<m] }
   |none=>bad) else bad
  |_,_=>bad
 |.ptr id j=>match zD P t,ob id with
  |some false,some (.box cs)=>bif Nat.ble m cs.length then (match ij (cs.take m) with
   |some (k,l)=>{ d:= .val (.int k (l.getD j 0)),vc:=[j<m] }
   |none=>bad) else bad
  |_,_=>bad
 |_=>bad
def kk (P:Program) (ob:Heap) (t:TypeId) (x i:DV):eW:=
 match P.underlying t,i with
 |some (.slice e),.val (.int _ k)=>match iS P e,x with
  |some s,.row s' id off len=>bif Nat.beq s s' then { d:= .jZ s id (ng off k.toNat) 0,vc:=[0<=k/\k<(len:Int)] } else (bif Nat.beq s' 0&&(Nat.beq s 1&&Nat.beq off 0) then { d:= .ptr id k.toNat,vc:=[0<=k/\k<(len:Int)] } else bad)
  |some s,.di n de=>bif Nat.beq de.length s then { d:= .dN (de.map fun c=>c k.toNat),vc:=[0<=k/\k<(n:Int)] } else bad
  |some s,.tL s' id n=>bif Nat.beq s s' then { d:= .k5 s id k.toNat 0,vc:=[0<=k/\k<(n:Int)] } else bad
  |_,_=>bad
 |some (.array len e),.val (.int _ k)=>match iS P e,x with
  |some s,.ptr id j=>{ d:= .ptr id (j+k.toNat*s),vc:=[0<=k/\k<(len:Int)] }
  |some s,.jZ s' id q j=>{ d:= .jZ s' id q (j+k.toNat*s),vc:=[0<=k/\k<(len:Int)] }
  |some s,.dN cs=>bif Nat.ble (len*s) cs.length then { d:= .dN ((List.range s).map fun j=>EO (every s j len cs) k.toNat),vc:=[0<=k/\k<(len:Int)] } else bad
  |_,_=>bad
 |_,_=>bad
def Fa (P:Program) (t:TypeId) (x i:DV):eW:=
 match P.underlying t,x,i with
 |some .string,.val (.string s),.val (.int _ k)=>{ d:= .val (.int .u8 (k8 s k.toNat)),vc:=[0<=k/\k<(s.size:Int)] }
 |some (.array len e),x,.val (.int _ k)=>match zD P e,iS P e,jt x with
  |some false,some 1,some cs=>bif Nat.beq cs.length len then { d:=LR cs k.toNat,vc:=[0<=k/\k<(len:Int)] } else bad
  |some true,some s,some cs=>bif Nat.beq cs.length (len*s) then { d:=mM ((List.range s).map fun j=>LR (every s j len cs) k.toNat),vc:=[0<=k/\k<(len:Int)] } else bad
  |_,_,_=>bad
 |_,_,_=>bad
def cZ (n:Int):Prop:= -9223372036854775808<=n/\n<=9223372036854775807
def Rm (oc:fE) (op:BinOp) (k:IntKind) (x y:Int):eW:=
 match op,oc with
 |.eql,_=>{ d:= .val (.bool (x==y)) }
 |.neq,_=>{ d:= .val (.bool (x !=y)) }
 |.lss,_=>{ d:= .val (.bool (decide (x<y))) }
 |.leq,_=>{ d:= .val (.bool (decide (x<=y))) }
 |.gtr,_=>{ d:= .val (.bool (decide (x>y))) }
 |.geq,_=>{ d:= .val (.bool (decide (x>=y))) }
 |.add,.no=>match k with
  |.i64=>{ d:= .val (.int .i64 (x+y)),vc:=[cZ (x+y)] }
  |_=>{ d:= .val (.int k (k.wrap (x+y))) }
 |.add,_=>{ d:= .val (.int k (k.wrap (x+y))) }
 |.sub,.no=>match k with
  |.i64=>{ d:= .val (.int .i64 (x - y)),vc:=[cZ (x - y)] }
  |_=>{ d:= .val (.int k (k.wrap (x - y))) }
 |.sub,_=>{ d:= .val (.int k (k.wrap (x - y))) }
 |.mul,.no=>match k with
  |.i64=>{ d:= .val (.int .i64 (x*y)),vc:=[cZ (x*y)] }
  |_=>{ d:= .val (.int k (k.wrap (x*y))) }
 |.mul,_=>{ d:= .val (.int k (k.wrap (x*y))) }
 |.quo,.pos=>match k with
  |.i64=>{ d:= .val (.int .i64 (x/y)),vc:=[0<=x/\0<y/\x<=9223372036854775807] }
  |_=>bad
 |.quo,_=>{ d:= .val (.int k (k.wrap (x.tdiv y))),vc:=[y≠0] }
 |.rem,.pos=>{ d:= .val (.int k (x%y)),vc:=[0<=x/\0<y] }
 |.rem,_=>{ d:= .val (.int k (x.tmod y)),vc:=[y≠0] }
 |.and,_=>match k with
  |.i64=>{ d:= .val (.int .i64 (x%4)),vc:=[0<=x/\x<=9223372036854775807/\y=3] }
  |_=>bad
 |_,_=>bad
def Rj (op:BinOp) (x y:ByteArray):eW:=
 match op with
 |.add=>{ d:= .val (.string (x++y)),vc:=[x.size+y.size<=9223372036854775807] }
 |.eql=>{ d:= .val (.bool (x.toList==y.toList)) }
 |.neq=>{ d:= .val (.bool (!(x.toList==y.toList))) }
 |.lss=>{ d:= .val (.bool (Op.bytesLess x.toList y.toList)) }
 |_=>bad
def Rq (oc:fE) (op:BinOp):DV->DV->eW
 |.val (.int k x),.val (.int k' y)=>if k=k' then Rm oc op k x y else bad
 |.val (.string x),.val (.string y)=>Rj op x y
 |_,_=>bad
def Ux (P:Program) (neg:Bool) (t:TypeId):DV->DV->eW
 |.val (.bool x),.val (.bool y)=>match P.underlying t with
  |some .bool=>{ d:= .val (.bool (if neg then !(x==y) else (x==y))) }
  |_=>bad
 |_,_=>bad
def Dj (P:Program) (t:TypeId) (cs:List DV) (off:Nat):Option DV:=match zD P t,iS P t with
 |some true,some n=>bif Nat.ble (off+n) cs.length then some (mM ((cs.drop off).take n)) else none
 |some false,_=>cs[off]?
 |_,_=>none
def Ky (P:Program) (g:TypeId->DV->DV->Option Bool) (xs ys:List DV):List Field->Option Bool
 |[]=>some true
 |f::fs=>bif f.name== "_" then none else match Dj P f.type xs f.offset,Dj P f.type ys f.offset with
  |some d,some e=>match g f.type d e,Ky P g xs ys fs with
   |some a,some b=>some (a&&b)
   |_,_=>none
  |_,_=>none
def Kx (P:Program) (g:DV->DV->Option Bool) (e:TypeId) (sz:Nat) (xs ys:List DV):List Nat->Option Bool
 |[]=>some true
 |i::is=>match Dj P e xs (i*sz),Dj P e ys (i*sz) with
  |some d,some d'=>match g d d',Kx P g e sz xs ys is with
   |some a,some b=>some (a&&b)
   |_,_=>none
  |_,_=>none
def Rs (P:Program):Nat->TypeId->DV->DV->Option Bool
 |0,_,_,_=>none
 |d+1,t,x,y=>match P.underlying t with
  |some (.int _)=>match x,y with
   |.val (.int k a),.val (.int k' b)=>if k=k' then some (a==b) else none
   |_,_=>none
  |some .bool=>match x,y with
   |.val (.bool a),.val (.bool b)=>some (a==b)
   |_,_=>none
  |some .string=>match x,y with
   |.val (.string a),.val (.string b)=>some (a.toList==b.toList)
   |_,_=>none
  |some (.struct fs)=>match jt x,jt y with
   |some xs,some ys=>bif P.stoodInHeld t then none else Ky P (Rs P d) xs ys fs.toList
   |_,_=>none
  |some (.array n e)=>match jt x,jt y,iS P e with
   |some xs,some ys,some sz=>Kx P (Rs P d e) e sz xs ys (List.range n)
   |_,_,_=>none
  |_=>none
def Ro (P:Program) (op:BinOp) (t:TypeId) (x y:DV):eW:=bif P.eqGuardType P.depth t then bad else match jt x,jt y,Rs P 8 t x y,op with
 |some _,some _,some b,.eql=>{ d:= .val (.bool b) }
 |some _,some _,some b,.neq=>{ d:= .val (.bool !b) }
 |_,_,_,_=>bad
def PS:Operand->Bool
 |.const _=>true
 |_=>false
def Rn (P:Program) (t:TypeId) (z:Operand) (b:Bool):eW:=bif P.isIface t then (bif PS z then { d:= .val (.bool !b) } else bad) else bad
def Zh (op:UnOp):DV->eW
 |.val (.bool b)=>match op with
  |.not=>{ d:= .val (.bool !b) }
  |_=>bad
 |.val (.int k n)=>match op,k with
  |.neg,.i64=>{ d:= .val (.int .i64 (-n)),vc:=[cZ (-n)] }
  |_,_=>bad
 |_=>bad
def Kw (P:Program) (dst:TypeId):DV->eW
 |.val (.int _ n)=>match P.underlying dst with
  |some (.int .i64)=>{ d:= .val (.int .i64 n),vc:=[cZ n] }
  |some (.int k)=>{ d:= .val (.int k (k.wrap n)) }
  |_=>bad
 |_=>bad
def xJ:DV->Nat->eW
 |.fy cs,i=>match cs[i]? with
  |some d=>{ d }
  |none=>bad
 |.val (.tuple vs),i=>match vs[i]? with
  |some v=>{ d:= .val v }
  |none=>bad
 |_,_=>bad
def sV (place:Nat->Option (Nat×Nat)) (cells:List DV):List (Nat×DV)->Option (List DV)
 |[]=>some cells
 |(i,d)::rest=>match place i,d.cells? with
  |some (off,size),some vs=>bif Nat.beq vs.length size&&Nat.ble (off+vs.length) cells.length then
    sV place (cells.take off++(vs++cells.drop (off+vs.length))) rest else none
  |_,_=>none
def placesOf (P:Program) (fs:Array Field):Option (List (Nat×Nat)):=fs.toList.mapM fun f=>(P.info? f.type).map fun i=>(f.offset,i.size)
def Fg (P:Program) (t:TypeId) (parts:List (Nat×DV)):eW:=
 match P.underlying t,sM P t with
 |some (.struct fs),some z=>match placesOf P fs with
  |some ps=>match sV (fun i=>ps[i]?) z parts with
   |some cs=>{ d:=mM cs }
   |none=>bad
  |none=>bad
 |some (.array _ e),some z=>match iS P e with
  |some s=>match sV (fun i=>some (i*s,s)) z parts with
   |some cs=>{ d:=mM cs }
   |none=>bad
  |none=>bad
 |_,_=>bad
def iP (P:Program) (id:Nat) (t:TypeId) (len:Nat) (parts:List (Nat×DV)):eW:=
 match P.underlying t with
 |some (.slice e)=>match iS P e,sM P e with
  |some s,some z=>bif Nat.beq z.length s&&Nat.ble (len*s) 16777216 then
   (match sV (fun i=>some (i*s,s)) (List.flatten (List.replicate len z)) parts with
   |some cs=>bif DV.closed.go cs then
     (match len with
     |0=>{ d:= .row s id 0 0,hw:=[(id,some (.row 0 (z.map fun d _=>d)))] }
     |_=>{ d:= .row s id 0 len,hw:=[(id,some (.row len ((List.range s).map fun j=>EO (every s j len cs))))] }) else (bif Nat.beq s 1 then { d:= .row 0 id 0 len,hw:=[(id,some (.box cs))] } else bad)
   |none=>bad) else bad
  |_,_=>bad
 |_=>bad
def rC (P:Program) (id:Nat) (t:TypeId):DV->DV->eW
 |.val (.int _ n),.val (.int _ c)=>match P.underlying t with
  |some (.slice e)=>match P.info? e,sM P e with
   |some i,some cs=>bif Nat.beq cs.length i.size&&Nat.ble 1 cs.length then { d:= .row cs.length id 0 n.toNat,hw:=[(id,some (.row n.toNat (cs.map fun d _=>d)))],vc:=[0<=n/\n=c/\n<=140737488355328/\i.bytes*n.toNat<=281474976710656] } else bad
   |_,_=>bad
  |_=>bad
 |_,_=>bad
def tT (P:Program) (id:Nat) (t:TypeId):DV->DV->eW:=fun _ _=>bad
def pL (P:Program) (oc:fE) (id:Nat) (t:TypeId) (x y:DV):eW:=match oc with
 |.base=>tT P id t x y
 |_=>rC P id t x y
def Fc (P:Program) (ob:Heap) (id:Nat) (t:TypeId) (s g i j:Nat):eW:=bad
def Mf (P:Program) (ob:Heap) (t:TypeId) (s g i j:Nat):DV->eW:=fun _=>bad
def pM (P:Program) (oc:fE) (ob:Heap) (id:Nat) (t:TypeId):DV->eW
 |.k5 s g i j=>Fc P ob id t s g i j
 |p=>match oc with
  |.Lu m=>mB P ob t m p
  |_=>rD P ob t p
def mW (P:Program) (ob:Heap) (t:TypeId) (p d:DV):eW:=match p with
 |.k5 s g i j=>Mf P ob t s g i j d
 |p=>sl P ob t p d
def Fh (P:Program) (id:Nat) (t:TypeId):eW:=
 match sM P t with
 |some z=>{ d:= .ptr id 0,hw:=[(id,some (.box z))] }
 |none=>bad
def Rp (id:Nat) (x:DV):eW:=
 match x.cells? with
 |some cs=>{ d:= .ptr id 0,hw:=[(id,some (.box cs))] }
 |none=>bad
def Ku (c a b:DV):eW:=
 match c.un with
 |.val (.bool p)=>
  { d:=Lu p a.un b.un,vc:=(match c.mZ with|none=>[]|some q=>[q=true])++((match a.mZ with|none=>[]|some q=>[p=true->q=true])++(match b.mZ with|none=>[]|some q=>[p=false->q=true])) }
 |_=>bad
def oi:List DV->Option (List Int)
 |[]=>some []
 |.val (.int .i64 n)::r=>match oi r with
  |some l=>some (n::l)
  |none=>none
 |_=>none
def hP:Int->List Int->Int
 |x,[]=>x
 |x,y::r=>hP (if y>x then y else x) r
def iM:Int->List Int->Int
 |x,[]=>x
 |x,y::r=>iM (if y<x then y else x) r
def Rl (P:Program) (t:TypeId):DV->eW
 |.di n _=>match P.underlying t with
  |some (.slice _)=>{ d:= .val (.int .i64 (n:Int)) }
  |_=>bad
 |.val (.slice none n _)=>match P.underlying t with
  |some (.slice _)=>{ d:= .val (.int .i64 (n:Int)) }
  |_=>bad
 |.val (.string s)=>match P.underlying t with
  |some .string=>{ d:= .val (.int .i64 (s.size:Int)) }
  |_=>bad
 |_=>bad
def DM (P:Program) (ob:Heap) (t:TypeId):DV->eW
 |.row _ _ _ len=>match P.underlying t with
  |some (.slice _)=>{ d:= .val (.int .i64 (len:Int)) }
  |_=>bad
 |.tL _ _ len=>match P.underlying t with
  |some (.slice _)=>{ d:= .val (.int .i64 (len:Int)) }
  |_=>bad
 |d=>Rl P t d
def Ba (n:Nat) (c d:Nat->DV):Nat->DV:=fun i=>Lu (decide (i<n)) (c i) (d (i - n))
def ky (n:Nat):List (Nat->DV)->List (Nat->DV)->List (Nat->DV)
 |c::r,d::q=>Ba n c d::ky n r q
 |_,_=>[]
def source (ob:Heap) (s:Nat):DV->Option (Nat×List (Nat->DV)×List Prop)
 |.di n de=>bif Nat.beq de.length s then some (n,de,[]) else none
 |.row s' id off len=>match ob id with
  |some (.row n de)=>bif Nat.beq s s'&&Nat.beq de.length s then
    some (len,de.map fun c i=>c (i+off),[len+off<=n]) else none
  |_=>none
 |.val (.slice none 0 0)=>some (0,List.replicate s fun _=> .any,[])
 |.tok t m=>match ob m with
  |some (.vF _ len gN ym none)=>match look ym t with
   |some l=>bif Nat.beq s 1 then some (len l,[gN l],[]) else none
   |none=>none
  |_=>none
 |_=>none
def oZ (P:Program) (ob:Heap) (id:Nat) (t:TypeId) (x y:DV):eW:=
 match P.underlying t with
 |some (.slice e)=>match iS P e,JL P e,sM P e with
  |some s,some (Ih+1),some z=>bif Nat.beq z.length s&&Nat.ble 1 s then
   (match source ob s y with
   |some (m,jE,XP)=>bif Nat.beq jE.length s then
    (match x with
    |.val (.slice none 0 0)=>{ d:= .row s id 0 m,hw:=[(id,some (.row m jE))],vc:=(m*(Ih+1)<=140737488355328)::XP }
    |.row s' r 0 len=>match ob r with
     |some (.row n de)=>bif Nat.beq s s'&&Nat.beq de.length s then
       { d:= .row s id 0 (len+m),hw:=[(id,some (.row (len+m) (ky len de jE))),(r,none)],vc:=(len<=n)::((len+m)*(Ih+1)<=140737488355328)::XP } else bad
     |some (.ph n de)=>bif Nat.beq s s'&&Nat.beq de.length s then
       { d:= .row s id 0 (len+m),hw:=[(id,some (.ph (len+m) (ky len de jE))),(r,none)],vc:=(len<=n)::((len+m)*(Ih+1)<=140737488355328)::XP } else bad
     |_=>bad
    |.tok tk mi=>match ob mi with
     |some (.vF ks len gN ym none)=>match look ym tk with
      |some l=>bif Nat.beq s 1 then
        { d:= .row s id 0 (len l+m),hw:=[(id,some (.row (len l+m) (ky (len l) [gN l] jE))),(mi,some (.vF ks len gN [] (some l)))],vc:=((len l+m)*(Ih+1)<=140737488355328)::XP } else bad
      |none=>bad
     |_=>bad
    |_=>bad) else bad
   |none=>bad) else bad
  |_,_,_=>bad
 |_=>bad
def mP (ob:Heap):DV->Option (DV×List Prop)
 |.row s id off len=>match ob id with
  |some (.row n de)=>bif Nat.beq de.length s then
    some (.di len (de.map fun c i=>c (i+off)),[len+off<=n]) else none
  |_=>none
 |.pB m=>match ob m with
  |some (.map ks has gN _)=>some (.mp ks has gN,[])
  |_=>none
 |d=>bif d.closed then some (d,[]) else none
def jQ (ob:Heap):List DV->Option (List DV×List Prop)
 |[]=>some ([],[])
 |d::r=>match mP ob d,jQ ob r with
  |some (e,vc),some (es,vcs)=>some (e::es,vc++vcs)
  |_,_=>none
def tK:List DV->Bool
 |[]=>false
 |.row .. ::_=>true
 |.pB _::_=>true
 |_::r=>tK r
def dV:List DV->List (Nat×Option fK)
 |[]=>[]
 |.row _ id _ _::r=>(id,none)::dV r
 |.pB id::r=>(id,none)::dV r
 |_::r=>dV r
def Mn (P:Program) (f:FuncId) (args es:List DV) (vc:List Prop) (d:DV):eW:=
 bif tK args then (bif d.plain then { d,vc:=vc++[dm P f es d] } else (bif d.closed then { d,hw:=dV args,vc:=vc++[dm P f es d] } else bad))
  else (bif d.closed then { d,vc:=vc++[dm P f es d] } else bad)
def p6 (ob:Heap):DV->Option (DV×List Prop)
 |.ptr id 0=>match ob id with
  |some (.box cs)=>bif DV.closed.go cs then some (.dN cs,[]) else none
  |_=>none
 |d=>mP ob d
def mO (ob:Heap):List DV->Option (List DV×List Prop)
 |[]=>some ([],[])
 |d::r=>match p6 ob d,mO ob r with
  |some (e,vc),some (es,vcs)=>some (e::es,vc++vcs)
  |_,_=>none
def p7 (ob:Heap):DV->Option (DV×List Prop)
 |.jL f cs=>match mO ob cs with
  |some (es,vc)=>some (.jL f es,vc)
  |none=>none
 |.agg cs=>match mO ob cs with
  |some (es,vc)=>some (.agg es,vc)
  |none=>none
 |d=>p6 ob d
def j6 (ob:Heap):List DV->Option (List DV×List Prop)
 |[]=>some ([],[])
 |d::r=>match p7 ob d,j6 ob r with
  |some (e,vc),some (es,vcs)=>some (e::es,vc++vcs)
  |_,_=>none
def AJ:List DV->Bool
 |[]=>false
 |.row .. ::r=>AJ r
 |.pB _::r=>AJ r
 |d::r=>bif d.closed then AJ r else true
def jr:List DV->Bool
 |[]=>true
 |.jL _ cs::r=>bif DV.closed.go cs then jr r else false
 |.nZ _ cs::r=>bif DV.closed.go cs then jr r else false
 |.agg cs::r=>bif DV.closed.go cs then jr r else false
 |_::r=>jr r
def Pz (P:Program) (f:FuncId) (id:Nat) (args es:List DV) (vc:List Prop):Nat×List (Nat->DV)->eW
 |(n,de)=>{ d:= .row de.length id 0 n,hw:=(id,some (.row n de))::dV args,vc:=vc++[ZU P f es n de] }
def LA (P:Program) (f:FuncId) (id:Nat) (args es:List DV) (vc:List Prop):List DV×Nat×List (Nat->DV)->eW
 |(pre,n,de)=>bif DV.closed.go pre then { d:= .agg (pre++[.row de.length id 0 n]),hw:=(id,some (.row n de))::dV args,vc:=vc++[FnA P f es pre n de] } else bad
def vz:DV->Int
 |.val (.int _ n)=>n
 |_=>0
def ur (P:Program) (f:FuncId) (ob:Heap) (A':Nat->Int):List DV->eW
 |.row s r off len::rest=>match off,ob r with
  |0,some (.row n [c])=>bif Nat.beq s 1&&DV.closed.go rest then
    { d:= .val (.tuple #[]),hw:=[(r,some (.row n [fun i=> .val (.int .i64 (A' i))]))],vc:=[len=n,kF c,FnT P f n (fun i=>vz (c i)) A' rest] } else bad
  |_,_=>bad
 |_=>bad
def uu (P:Program) (f:FuncId) (ob:Heap) (n':Nat) (A':Nat->Int):List DV->eW
 |[.row s r off len]=>match off,ob r with
  |0,some (.row n [c])=>bif Nat.beq s 1 then
    { d:= .row 1 r 0 n',hw:=[(r,some (.row n' [fun i=> .val (.int .i64 (A' i))]))],vc:=[len=n,kF c,FnK P f n (fun i=>vz (c i)) n' A'] } else bad
  |_,_=>bad
 |_=>bad
def ov (ob:Heap):DV->WO->Option (WA×List (Nat×Option fK)×List Prop)
 |.row s id off len,.row fo=>match off,ob id with
  |0,some (.row n de)=>bif Nat.beq de.length s&&Nat.beq fo.length s then some (.row len de fo,[(id,some (.row len fo))],(len=n)::D8 fo) else none
  |_,_=>none
 |.ptr id 0,.box vS=>match ob id with
  |some (.box cs)=>bif Nat.beq vS.length cs.length&&(DV.closed.go cs&&DV.plain.go vS) then some (.box cs vS,[(id,some (.box vS))],[]) else none
  |_=>none
 |d,.no=>match p7 ob d with
  |some (e,vc)=>some (.arg e,[],vc)
  |none=>none
 |_,_=>none
def O0:List WO->WO
 |[]=> .no
 |o::_=>o
def qC (ob:Heap):List DV->List WO->Option (List WA×List (Nat×Option fK)×List Prop)
 |[],_=>some ([],[],[])
 |d::r,q=>match ov ob d (O0 q),qC ob r q.tail with
  |some (a,h,vc),some (as,hs,vcs)=>some (a::as,h++hs,vc++vcs)
  |_,_=>none
def kY:DV->List Nat
 |.row _ id _ _=>[id]
 |.ptr id _=>[id]
 |.pB id=>[id]
 |_=>[]
def jz:DV->List Nat
 |.jL _ cs=>go cs
 |.agg cs=>go cs
 |d=>kY d
where go:List DV->List Nat
 |[]=>[]
 |d::r=>kY d++go r
def pW:List DV->List Nat
 |[]=>[]
 |d::r=>jz d++pW r
def uY:List Nat->List DV
 |[]=>[]
 |i::r=> .pB i::uY r
def Vz (d:DV):WO->List Nat
 |.no=>jz d
 |_=>[]
def SZ:List DV->List WO->List Nat
 |[],_=>[]
 |d::r,q=>Vz d (O0 q)++SZ r q.tail
def Ak:List Nat->Bool
 |[]=>true
 |x::r=>bif r.any (Nat.beq x) then false else Ak r
def KK (l m:List Nat):Bool:=l.all fun x=> !(m.any (Nat.beq x))
def OY (args:List DV):DV->Option DV
 |.row s p off n=>match off,args[p]? with
  |0,some (.row s' id 0 _)=>bif Nat.beq s s' then some (.row s id 0 n) else none
  |_,_=>none
 |d=>bif d.plain then some d else none
def CW (P:Program) (f:FuncId) (ob:Heap) (args:List DV) (g:List DV->List WO×DV):eW:=match j6 ob args with
 |some (es,_)=>match qC ob args (g es).1,OY args (g es).2 with
  |some (was,hw,vc),some d=>bif Ak (hw.map (·.1))&&KK (SZ args (g es).1) (hw.map (·.1)) then { d,hw,vc:=vc++[FnW P f was (g es).2] } else bad
  |_,_=>bad
 |none=>bad
def GH (ob:Heap) (id:Nat):DV->Option (DV×List Prop)
 |.ptr i 0=>bif Nat.beq i id then some (.ptr 0 0,[]) else p6 ob (.ptr i 0)
 |d=>bif (kY d).any (Nat.beq id) then none else p6 ob d
def GI (ob:Heap) (id:Nat):List DV->Option (List DV×List Prop)
 |[]=>some ([],[])
 |d::r=>match GH ob id d,GI ob id r with
  |some (e,vc),some (es,vcs)=>some (e::es,vc++vcs)
  |_,_=>none
def X8 (ob:Heap) (id:Nat):DV->Option (DV×List Prop)
 |.jL f cs=>match GI ob id cs with
  |some (es,vc)=>some (.jL f es,vc)
  |none=>none
 |d=>bif (jz d).any (Nat.beq id) then none else p7 ob d
def GL (ob:Heap) (id:Nat):List DV->Option (List DV×List Prop)
 |[]=>some ([],[])
 |d::r=>match X8 ob id d,GL ob id r with
  |some (e,vc),some (es,vcs)=>some (e::es,vc++vcs)
  |_,_=>none
def X6 (args:List DV) (k c:Nat):Option Nat:=match args[k]? with
 |some (.jL _ cs)=>match cs[c]? with
  |some (.ptr id 0)=>some id
  |_=>none
 |_=>none
def others (id:Nat) (args:List DV):List Nat:=(pW args).filter fun i=> !(Nat.beq i id)
def Dc (P:Program) (f:FuncId) (ob:Heap) (args:List DV) (k c:Nat) (g:List DV->List DV×DV):eW:=match X6 args k c with
 |some id=>match j6 ob args,GL ob id args with
  |some (es,_),some (ds,vc)=>match ob id with
   |some (.box cs)=>bif Nat.beq (g es).1.length cs.length&&(DV.closed.go cs&&(DV.plain.go (g es).1&&((g es).2.closed&& !(g es).2.plain))) then
     { d:=(g es).2,hw:=(id,some (.box (g es).1))::dV (uY (others id args)),vc:=vc++[FnS P f ds cs (g es).1 (g es).2] } else bad
   |_=>bad
  |_,_=>bad
 |none=>bad
def Fw (P:Program) (f:FuncId) (x:DV) (b s r len:Nat) (g:Nat->List (Nat->DV)->DV->(Nat->Int)×DV):Option fK->eW
 |some (.row n [c])=>match x,(g len [c] x).2 with
  |.val u,.val y=>bif Nat.beq s 1&& !(Nat.beq b r) then
    { d:= .val y,hw:=[(r,some (.row len [fun i=> .val (.int .i64 ((g len [c] x).1 i))]))],vc:=[len=n,0<len,kF c,FnB P f u len (fun i=>vz (c i)) (g len [c] x).1 y] } else { hw:=[(r,none)],vc:=[False] }
  |_,_=>{ hw:=[(r,none)],vc:=[False] }
 |_=>{ hw:=[(r,none)],vc:=[False] }
def tY (P:Program) (f:FuncId) (ob:Heap) (args:List DV) (g:Nat->List (Nat->DV)->DV->(Nat->Int)×DV):eW:=match args with
 |[x,.ptr b 0]=>match ob b with
  |some (.box [.row s r 0 len])=>Fw P f x b s r len g (ob r)
  |_=>bad
 |_=>bad
def rF (P:Program) (oc:fE) (id:Nat) (ob:Heap) (f:FuncId) (args:List DV):eW:=
 match oc with
 |.res g=>bif AJ args then (match j6 ob args with
   |some (es,vc)=>bif (g es).plain then { d:=g es,vc:=vc++[dm P f es (g es)] } else (bif (g es).closed then { d:=g es,hw:=dV (uY (pW args)),vc:=vc++[dm P f es (g es)] } else bad)
   |none=>bad)
  else (match jQ ob args with
   |some (es,vc)=>Mn P f args es vc (g es)
   |none=>bad)
 |.row g=>match jQ ob args with
  |some (es,vc)=>Pz P f id args es vc (g es)
  |none=>bad
 |.rowA g=>match jQ ob args with
  |some (es,vc)=>LA P f id args es vc (g es)
  |none=>bad
 |.zA g=>match jQ ob args with
  |some (es,_)=>ur P f ob (g es) args
  |none=>bad
 |.take g=>match jQ ob args with
  |some (es,_)=>uu P f ob (g es).1 (g es).2 args
  |none=>bad
 |.wr g=>CW P f ob args g
 |.sh k c g=>Dc P f ob args k c g
 |.bro g=>tY P f ob args g
 |_=>bad
def nZ (n:Int):Option DV->Option Int
 |none=>some n
 |some (.val (.int _ k))=>some k
 |some _=>none
def sn (P:Program) (ob:Heap) (t:TypeId) (x:DV) (lo hi:Option DV):eW:=
 match P.underlying t with
 |some (.slice e)=>match iS P e with
  |some s=>match x with
   |.row s' id off len=>bif Nat.beq s s'&&ke ob id s then (match nZ 0 lo,nZ (len:Int) hi with
     |some l,some h=>{ d:= .row s id (off+l.toNat) (h.toNat - l.toNat),vc:=[0<=l/\l<=h/\h<=(len:Int)] }
     |_,_=>bad) else bad
   |.di n de=>bif Nat.beq de.length s then (match nZ 0 lo,nZ (n:Int) hi with
     |some l,some h=>{ d:= .di (h.toNat - l.toNat) (de.map fun c i=>c (i+l.toNat)),vc:=[0<=l/\l<=h/\h<=(n:Int)] }
     |_,_=>bad) else bad
   |.val (.slice none 0 0)=>(match nZ 0 lo,nZ 0 hi with
     |some l,some h=>{ d:= .val (.slice none 0 0),vc:=[l=0/\h=0] }
     |_,_=>bad)
   |_=>bad
  |none=>bad
 |some .string=>match x with
  |.val (.string s)=>(match nZ 0 lo,nZ (s.size:Int) hi with
    |some l,some h=>{ d:= .val (.string (s.extract l.toNat h.toNat)),vc:=[0<=l/\l<=h/\h<=(s.size:Int)] }
    |_,_=>bad)
  |_=>bad
 |_=>bad
def Fk (ob:Heap) (len:Nat) (s off id:Nat):eW:=match s,off,ob id with
 |1,0,some (.row n [c])=>(match ij ((List.range len).map c) with
  |some (.u8,l)=>{ d:= .val (.string (strOfNums l)),vc:=[len<=n] }
  |_=>bad)
 |_,_,_=>bad
def so (P:Program) (ob:Heap) (src dst:TypeId) (d:DV):eW:=match P.underlying src with
 |some (.slice e)=>(match P.underlying e,P.underlying dst with
  |some (.int .u8),some .string=>(match d with
   |.row s id off len=>Fk ob len s off id
   |_=>bad)
  |_,_=>bad)
 |some _=>Kw P dst d
 |none=>bad
def zk (s s' id r len n:Nat) (de:List (Nat->DV)):Option Int->eW
 |some l=>bif Nat.beq s s'&&Nat.beq de.length s then
   { d:= .row s id 0 (len - l.toNat),hw:=[(id,some (.ph (len - l.toNat) (de.map fun c i=>c (i+l.toNat)))),(r,none)],vc:=[0<=l/\l<=(len:Int)/\len<=n] } else bad
 |none=>bad
def vH (P:Program) (ob:Heap) (id:Nat) (t:TypeId) (x:DV) (lo:Option DV):Option DV->eW
 |none=>match P.underlying t with
  |some (.slice e)=>match iS P e with
   |some s=>match x with
    |.row s' r 0 len=>match ob r with
     |some (.row n de)=>zk s s' id r len n de (nZ 0 lo)
     |some (.ph n de)=>zk s s' id r len n de (nZ 0 lo)
     |_=>bad
    |_=>bad
   |none=>bad
  |_=>bad
 |some _=>bad
def oW (P:Program) (oc:fE) (id:Nat) (ob:Heap) (t:TypeId) (x:DV) (lo hi:Option DV):eW:=match oc with
 |.base=>vH P ob id t x lo hi
 |_=>sn P ob t x lo hi
def EY (hw:List (Nat×Option fK)):Heap:=fun id=>match look hw id with
 |some o=>o
 |none=>none
def AN (e:eW):eW:=match mP (EY e.hw) e.d with
 |some (d,vc)=>{ d,hw:=dV [e.d]++e.hw,vc:=e.vc++vc }
 |none=>bad
def Up (oc:fE) (e:eW):eW:=match oc with
 |.Ur=>AN e
 |_=>e
def Ar (ob:Heap):DV->Option (DV×List Prop×List DV)
 |.agg cs=>match jQ ob cs with
  |some (es,vc)=>some (.agg es,vc,cs)
  |none=>none
 |d=>bif d.closed then some (d,[],[]) else none
def gj (ob:Heap):List (Nat×DV)->Option (List (Nat×DV)×List Prop×List DV)
 |[]=>some ([],[],[])
 |(i,d)::r=>match Ar ob d,gj ob r with
  |some (e,vc,cs),some (es,vcs,ds)=>some ((i,e)::es,vc++vcs,cs++ds)
  |_,_=>none
def Ac (P:Program) (id:Nat) (t:TypeId) (len:Nat):Option (List (Nat×DV)×List Prop×List DV)->eW
 |some (ps,vc,ds)=>{ d:=(iP P id t len ps).d,hw:=(iP P id t len ps).hw++dV ds,vc:=vc++(iP P id t len ps).vc }
 |none=>bad
def lh (P:Program) (oc:fE) (id:Nat) (t:TypeId) (len:Nat) (ob:Heap) (parts:List (Nat×DV)):eW:=match oc with
 |.frp=>Ac P id t len (gj ob parts)
 |oc=>Up oc (iP P id t len parts)
def BV:KS->KS->Bool
 |.int,.int=>true
 |.ints n,.ints m=>Nat.beq n m
 |.str,.str=>true
 |_,_=>false
def xH (P:Program) (id:Nat) (t:TypeId):eW:=bad
def oX (P:Program) (ob:Heap) (id:Nat) (t:TypeId) (x k:DV) (ok:Bool):eW:=bad
def ic (P:Program) (ob:Heap) (t:TypeId) (m k v:DV):eW:=bad
def k6 (P:Program) (ob:Heap) (id:Nat) (t:TypeId) (m k:DV):eW:=bad
def jB (ob:Heap) (m s v:DV):eW:=bad
def oY (P:Program) (ob:Heap) (t:TypeId) (m k:DV):eW:=bad
def ss (P:Program) (ob:Heap) (t:TypeId):DV->eW:=fun _=>bad
def tR (P:Program) (oc:fE) (id:Nat) (o:Oper) (x:Operand->DV) (ob:Heap):eW:=
 match o.op with
 |.move y| .assign y=>{ d:=x y }
 |.alloc t=>Fh P id t
 |.box _ y=>Rp id (x y)
 |.build t parts=>Fg P t (parts.toList.map fun (i,y)=>(i,x y))
 |.buildSlice t len parts=>lh P oc id t len ob (parts.toList.map fun (i,y)=>(i,x y))
 |.makeSlice t y z=>pL P oc id t (x y) (x z)
 |.load t y=>pM P oc ob id t (x y)
 |.slice t y lo hi mx=>match mx with
  |none=>oW P oc id ob t (x y) (lo.map x) (hi.map x)
  |some _=>bad
 |.store t p y=>mW P ob t (x p) (x y)
 |.nilCheck y=>match x y with
  |.ptr id j=>{ d:= .ptr id j }
  |.jZ s id i j=>{ d:= .jZ s id i j }
  |.dN cs=>{ d:= .dN cs }
  |.jL f cs=>{ d:= .jL f cs }
  |.nZ f cs=>{ d:= .nZ f cs }
  |.val (.func (.func f) fs cs)=>{ d:= .val (.func (.func f) fs cs) }
  |_=>bad
 |.binOp op t y z _=>match x y,x z,op with
  |.val (.bool a),.val (.bool b),.eql=>Ux P false t (.val (.bool a)) (.val (.bool b))
  |.val (.bool a),.val (.bool b),.neq=>Ux P true t (.val (.bool a)) (.val (.bool b))
  |.err b,.val .nilIface,.neq=>Rn P t z b
  |d,e,op=>match jt d with
   |some _=>Ro P op t d e
   |none=>Rq oc op d e
 |.unOp op _ y=>Zh op (x y)
 |.convert src dst y=>so P ob src dst (x y)
 |.fieldAddr s y f=>rE P s (x y) f
 |.field t y f=>Fe P t (x y) f
 |.indexAddr t y i=>kk P ob t (x y) (x i)
 |.index t y i=>Fa P t (x y) (x i)
 |.makeMap t none=>xH P id t
 |.lookup t y i ok=>oX P ob id t (x y) (x i) ok
 |.mapUpdate t m k y=>ic P ob t (x m) (x k) (x y)
 |.mapEntry t m k=>k6 P ob id t (x m) (x k)
 |.entryStore _ m s y=>jB ob (x m) (x s) (x y)
 |.extract y i=>xJ (x y) i
 |.makeFunc (.func f) first cap=>match first.toList with
  |[]=>{ d:= .jL f (cap.toList.map x) }
  |l=>match cap.toList with
   |[]=>{ d:= .nZ f (l.map x) }
   |_=>bad
 |.call c=>match c.callee with
  |.builtin .len=>match c.args.toList,c.argTypes.toList with
   |[y],[t]=>DM P ob t (x y)
   |_,_=>bad
  |.builtin .append=>match c.args.toList,c.argTypes.toList with
   |[y,z],[t,t']=>bif Nat.beq t t' then Up oc (oZ P ob id t (x y) (x z)) else bad
   |_,_=>bad
  |.builtin .delete=>match c.args.toList,c.argTypes.toList with
   |[y,z],t::_=>oY P ob t (x y) (x z)
   |_,_=>bad
  |.builtin .clear=>match c.args.toList,c.argTypes.toList with
   |[y],t::_=>ss P ob t (x y)
   |_,_=>bad
  |.builtin .min=>match oi (c.args.toList.map x) with
   |some (n::r)=>{ d:= .val (.int .i64 (iM n r)) }
   |_=>bad
  |.builtin .max=>match oi (c.args.toList.map x) with
   |some (n::r)=>{ d:= .val (.int .i64 (hP n r)) }
   |_=>bad
  |.value y=>match x y with
   |.val (.func (.func f) first cap)=>match first.toList,cap.toList with
    |[],[]=>rF P oc id ob f (c.args.toList.map x)
    |_,_=>bad
   |.jL f cap=>bif jr cap then rF P oc id ob f (c.args.toList.map x++cap) else bad
   |_=>bad
  |_=>bad
 |_=>bad
end Go.Abs
end
