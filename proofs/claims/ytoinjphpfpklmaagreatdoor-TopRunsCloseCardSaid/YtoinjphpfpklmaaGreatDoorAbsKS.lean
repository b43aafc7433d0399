/- Contracts and what they stand on. -/
import Derived.Test.YtoinjphpfpklmaaGreatDoorAbsH
import Derived.Laws.Tables
import Derived.Laws.AppendOwn
set_option linter.unusedVariables false
set_option linter.unusedSimpArgs false
section
namespace Go.Abs
open Go.RowKit
theorem DJ (off:Nat): ∀(l:List Value) (k:Nat) (cells:Array Value),off+k+l.length<=cells.size->
 (l.zipIdx k).foldl (fun cs (x:Value×Nat)=>cs.setIfInBounds (off+x.2) x.1) cells=(cells.toList.take (off+k)++(l++cells.toList.drop (off+k+l.length))).toArray
 |[],k,cells,_=>by simp
 |v::l,k,cells,h=>by
  simp only [aL] at h
  simp only [List.zipIdx_cons,List.foldl_cons]
  rw [DJ off l (k+1) _ (by simp;omega)]
  have e:=list_seg_step cells.toList (off+k) v l (by simp;omega)
  simp only [cz,bp] at e
  congr 1
  rw [Array.toList_setIfInBounds]
  simp only [aL]
  rw [show off+(k+1)=off+k+1 by omega]
  exact e
def Cells (rd:Rd) (kn:Nat->Prop) (c9:Nat->Option Loc) (cs:List DV) (vs:Array Value):Prop:=
 vs.size=cs.length/\(∀(j:Nat) (d:DV) (u:Value),cs[j]? =some d->vs[j]? =some u->Rel rd kn c9 d u)/\ ∀u∈vs.toList,fc u=true
inductive o7 (rd:Rd) (kn:Nat->Prop) (c9:Nat->Option Loc):List (Nat×DV)->List (Nat×Value)->Prop
 |nil:o7 rd kn c9 [] []
 |cons {i:Nat} {d:DV} {v:Value} {r:List (Nat×DV)} {q:List (Nat×Value)} (h:Rel rd kn c9 d v) (t:o7 rd kn c9 r q):o7 rd kn c9 ((i,d)::r) ((i,v)::q)
theorem Cells.seg {rd:Rd} {kn:Nat->Prop} {c9:Nat->Option Loc} {cs ds:List DV} {vs:Array Value} {us:List Value} {off:Nat} (h:Cells rd kn c9 cs vs) (hl:off+ds.length<=cs.length)
 (hs:us.length=ds.length) (hr: ∀(j:Nat) (d:DV) (u:Value),ds[j]? =some d->us[j]? =some u->Rel rd kn c9 d u) (h1: ∀u∈us,fc u=true):
 Cells rd kn c9 (cs.take off++(ds++cs.drop (off+ds.length))) (vs.toList.take off++(us++vs.toList.drop (off+us.length))).toArray:=by
 obtain ⟨hz,hrel,ho⟩:=h
 refine ⟨by simp;omega,fun k d u hd hu=> ?_,fun u hu=> ?_⟩
 ·rw [cJ,yU _ _ _ _ (by simp;omega)] at hu
  rw [yU _ _ _ _ hl] at hd
  rw [hs] at hu
  split at hd
  ·rename_i hk;rw [ah hk] at hu;exact hrel k d u hd (by simpa using hu)
  ·rename_i hk
   rw [ae hk] at hu
   split at hd
   ·rename_i qz;rw [ah qz] at hu;exact hr _ d u hd hu
   ·rename_i qz;rw [ae qz] at hu;exact hrel k d u hd (by simpa using hu)
 ·simp only [aT] at hu
  rcases hu with hu|hu|hu
  ·exact ho _ (List.mem_of_mem_take hu)
  ·exact h1 _ hu
  ·exact ho _ (List.mem_of_mem_drop hu)
theorem tQ {rd:Rd} {kn:Nat->Prop} {c9:Nat->Option Loc} {place:Nat->Option (Nat×Nat)}: ∀{parts:List (Nat×DV)} {gD:List (Nat×Value)} {zs cs:List DV} {vs:Array Value},
 sV place zs parts=some cs->Cells rd kn c9 zs vs->o7 rd kn c9 parts gD-> ∃us,Instr.fill place vs gD=some us/\Cells rd kn c9 cs us:=by
 intro parts
 induction parts with
 |nil=>
  intro gD zs cs vs h hc hp
  cases hp
  simp only [sV,aa] at h
  subst h
  exact ⟨vs,rfl,hc⟩
 |cons x parts ih=>
  intro gD zs cs vs h hc hp
  cases hp with
  |cons hr ht=>
   rename_i i d v q
   simp only [sV] at h
   split at h
   ·rename_i off size ds YI hds
    obtain ⟨hs,hrel,ho⟩:=hr.cells hds
    cases hb:(Nat.beq ds.length size&&Nat.ble (off+ds.length) zs.length)
    ·simp [hb] at h
    ·simp only [hb,aq] at h
     simp only [av] at hb
     obtain rfl:=ag hb.1
     have hle:=aH hb.2
     have hz:=hc.1
     have hseg:=Cells.seg (us:=v.cells.toList) hc hle (by simpa using hs) (fun j d u hd hu=>hrel j d u hd (by simpa using hu)) ho
     obtain ⟨us,h1,h2⟩:=ih h hseg ht
     refine ⟨us,?_,h2⟩
     simp only [Instr.fill,YI]
     have hno: ¬((decide (v.cells.size≠ds.length)||decide (off+v.cells.size>vs.size))=true):=by
      simp [hs];omega
     rw [ae hno]
     have hf:=DJ off v.cells.toList 0 vs (by simp [hs];omega)
     simp only [bU] at hf
     rw [<-h1,<-hf,<-Array.toList_zipIdx,Array.foldl_toList]
   ·cases h
theorem zM {rd:Rd} {v:Value} {d:DV}: ∀{cs:List DV} {k i:Nat},k<=i->cs[i - k]? =some d->du rd d v->du rd (To k cs i) v
 |[],k,i,_,h,_=>by simp at h
 |[c],k,i,hk,h,hr=>by
  have:i - k=0:=by
   have:=(aj.1 h).1
   simp at this;omega
  rw [this] at h
  simp at h;subst h;exact hr
 |c::c2::r,k,i,hk,h,hr=>by
  show du rd (Lu (decide (i=k)) c (To (k+1) (c2::r) i)) v
  refine mw ⟨fun e=> ?_,fun e=> ?_⟩
  ·have e:i=k:=by simpa using e
   rw [e,cM] at h
   simp at h;subst h;exact hr
  ·have e:i≠k:=by simpa using e
   refine zM (by omega) ?_ hr
   rw [show i - k=(i - (k+1))+1 by omega,aK] at h
   exact h
theorem uZ {cs:List DV} {i:Nat} {d:DV} (h:cs[i]? =some d) {rd:Rd} {v:Value} (hr:du rd d v):du rd (EO cs i) v:=by
 match cs,h with
 |[],h=>simp at h
 |[d'],h=>
  match i,h with
  |0,h=>simp at h;subst h;exact hr
  |i+1,h=>simp at h
 |c1::c2::r,h=>
  simp only [EO]
  generalize c1::c2::r=cs at h
  cases hl:ij cs with
  |some q=>
   obtain ⟨k,l⟩:=q
   have:=lp hl
   subst this
   rw [aw] at h
   cases QH:l[i]? with
   |none=>simp [QH] at h
   |some n=>
    simp only [QH,aA,aa] at h
    subst h
    simpa [List.getD,QH] using hr
  |none=>exact zM (ao i) (by simpa using h) hr
section
variable {P:Program} {base:Nat} {w0 w:World} {S0:Env} {σ:St} {kn:Nat->Prop} {c9:Nat->Option Loc} {a:Act}
theorem nE {t:TypeId} {z:List DV} (h:sM P t=some z): ∃i v,P.info? t=some i/\i.zero=some v/\ ∀(rd:Rd) (kn:Nat->Prop) (c9:Nat->Option Loc),Cells rd kn c9 z v.cells:=by
 unfold sM at h
 split at h
 ·rename_i i hi
  split at h
  ·rename_i v hz
   exact ⟨i,v,hi,hz,fun rd kn c9=>Rel.cells (.val v) h⟩
  ·cases h
 ·cases h
theorem Cl {t:TypeId} {parts:List (Nat×DV)} {gD:Array (Nat×Value)} {e:eW} (he:Fg P t parts=e) (dg:dp e.vc)
 (hp:o7 (df w base S0 c9) kn c9 parts gD.toList):Still P base S0 kn c9 w (Instr.build t gD) e:=by
 unfold Fg at he
 split at he
 ·rename_i fs z hu hz
  obtain ⟨it,v,hit,Sr,VZ⟩:=nE hz
  split at he
  ·rename_i ps DC
   split at he
   ·rename_i cs hf
    subst he
    obtain ⟨us,h1,h2,h3,_⟩:=tQ hf (VZ _ _ _) hp
    refine ⟨rfl,.agg us,?_,Rel.mM h2 h3⟩
    refine run_build w t gD us ?_
    unfold Program.built
    unfold placesOf at DC
    simp only [hit,hu,Sr,DC]
    simpa using h1
   ·subst he;exact dc dg
  ·subst he;exact dc dg
 ·rename_i n el z hu hz
  obtain ⟨it,v,hit,Sr,VZ⟩:=nE hz
  split at he
  ·rename_i s hs
   split at he
   ·rename_i cs hf
    subst he
    obtain ⟨us,h1,h2,h3,_⟩:=tQ hf (VZ _ _ _) hp
    refine ⟨rfl,.agg us,?_,Rel.mM h2 h3⟩
    refine run_build w t gD us ?_
    unfold iS at hs
    split at hs
    ·rename_i ie hie
     cases hs
     unfold Program.built
     simp only [hit,hu,Sr,hie]
     exact h1
    ·cases hs
   ·subst he;exact dc dg
  ·subst he;exact dc dg
 ·subst he;exact dc dg
theorem HM {α:Type} (z:List α): ∀(n k:Nat),k<n*z.length->(List.flatten (List.replicate n z))[k]? =z[k%z.length]?
 |0,k,h=>by simp at h
 |n+1,k,h=>by
  rw [List.replicate_succ,List.flatten_cons]
  by_cases hk:k<z.length
  ·rw [aM hk,cG hk]
  ·rw [a7 (by omega),HM z n (k - z.length) (by rw [cq] at h;omega),<-Nat.mod_eq_sub_mod (by omega)]
theorem tf (r:R base w0 S0 σ kn c9 a w) {id:Nat} (fS: ¬kn id) {T:TypeId} {cv:Array Value} {len s:Nat} {de:List (Nat->DV)} (hs:de.length=s) (hz:cv.size=len*s)
 (hr: ∀(i j:Nat) (f:Nat->DV),i<len->de[j]? =some f-> ∃u,cv[i*de.length+j]? =some u/\fc u=true/\du (df w base S0 c9) (f i) u) {sm:Sem Value}
 (ef:sm.run P w= .ok (.slice (some ⟨w.heap.size,0,none⟩) len len) (w.alloc (.cells cv T))):
 lV P base w0 S0 σ kn a w id sm { d:= .row s id 0 len,hw:=[(id,some (.row len de))] }:=by
 have q:=r.new (C:=len) (T:=T) fS (o:= .row len de) (cv:=cv) (.inr ⟨_,_,rfl⟩) (.inr ⟨w.heap.size,len,cv,T,rfl,heap_alloc_new w _,by rw [hz,hs],af _,hr⟩)
 refine ⟨_,_,ef,_,_,q,.row (.inr rfl) ⟨_,_,rfl,fun h=>by cases h⟩ (fun hb=> ?_) (fun g C hb=> ?_) (fun g o C hb=>by simp at hb),fun i hi=>hi⟩
 ·simp at hb
 ·simp only [bn,aa,Loc.at_.injEq] at hb
  obtain ⟨rfl,rfl⟩:=hb
  exact .inl (by simp)
theorem mX (r:R base w0 S0 σ kn c9 a w) {id:Nat} (fS: ¬kn id) {t:TypeId} {len:Nat} {parts:List (Nat×DV)} {gD:Array (Nat×Value)} {e:eW} (he:iP P id t len parts=e) (dg:dp e.vc)
 (hp:o7 (df w base S0 c9) kn c9 parts gD.toList):lV P base w0 S0 σ kn a w id (Instr.buildSlice t len gD) e:=by
 unfold iP at he
 split at he
 ·rename_i el hu
  split at he
  ·rename_i s z hs hz
   obtain ⟨it,v,hit,Sr,VZ⟩:=nE hz
   cases hb:(Nat.beq z.length s&&Nat.ble (len*s) 16777216)
   ·simp only [hb,ax] at he;subst he;exact dc dg
   ·simp only [hb,aq] at he
    simp only [av] at hb
    obtain rfl:=ag hb.1
    have hle:=aH hb.2
    split at he
    ·rename_i cs hf
     have main: ∃us:Array Value,us.size=cs.length/\cs.length=len*z.length/\(∀(k:Nat) (d:DV) (u:Value),cs[k]? =some d->us[k]? =some u->Rel (df w base S0 c9) kn c9 d u)/\(∀u∈us.toList,fc u=true)/\(Instr.buildSlice t len gD).run P w= .ok (.slice (some ⟨w.heap.size,0,none⟩) len len) (w.alloc (.cells us el)):=by
      have Ji:v.cells.size=z.length:=(VZ (fun _ _=>True) (fun _=>True) (fun _=>none)).1
      have hzero:(zeroValue el).run P w= .ok v w:=by simp [zeroValue,typeInfo,hit,Sr]
      have hinit:Cells (df w base S0 c9) kn c9 (List.flatten (List.replicate len z)) ((Array.range (len*z.length)).map (v.cells[·%v.cells.size]!)):=by
       obtain ⟨z1,z2,z3⟩:=VZ (df w base S0 c9) kn c9
       have Kf: ∀k,k<len*z.length->k%z.length<z.length:=fun k hk=>bj _ (by
        rcases cf z.length with h|h
        ·rw [h] at hk;simp at hk
        ·exact h)
       refine ⟨by simp,fun k d u hd hu=> ?_,fun u hu=> ?_⟩
       ·have hk:k<len*z.length:=by
         have:=(aJ.1 hu).1
         simpa using this
        rw [HM z len k hk] at hd
        refine z2 (k%z.length) d u hd ?_
        have dK:k%z.length<v.cells.size:=by rw [Ji];exact Kf k hk
        simp [hk,z1] at hu
        rw [<-hu];simp [dK]
       ·obtain ⟨k,hk,rfl⟩:=bX.1 hu
        have kZ:k<len*z.length:=by simpa using hk
        have dK:k%z.length<v.cells.size:=by rw [Ji];exact Kf k kZ
        refine z3 _ ?_
        simp [z1]
        rw [getElem!_pos v.cells _ dK]
        exact Array.getElem_mem _
      obtain ⟨us,h1,h2,h3,h4⟩:=tQ hf hinit hp
      have hlen:cs.length=len*z.length:=by
       have: ∀{parts:List (Nat×DV)} {zs cs:List DV},sV (fun i=>some (i*z.length,z.length)) zs parts=some cs->cs.length=zs.length:=by
        intro parts
        induction parts with
        |nil=>intro zs cs h;simp only [sV,aa] at h;rw [h]
        |cons x parts ih=>
         intro zs cs h
         obtain ⟨i,d⟩:=x
         simp only [sV] at h
         split at h
         ·rename_i off size ds YI hds
          cases hb:(Nat.beq ds.length size&&Nat.ble (off+ds.length) zs.length)
          ·simp [hb] at h
          ·simp only [hb,aq] at h
           simp only [av] at hb
           have:=aH hb.2
           rw [ih h];simp;omega
         ·cases h
       rw [this hf];simp
      have ef:(Instr.buildSlice t len gD).run P w= .ok (.slice (some ⟨w.heap.size,0,none⟩) len len) (w.alloc (.cells us el)):=by
       have hg: ¬(len*z.length>2^24):=by omega
       by_cases h0:len*z.length=0
       ·have hr0:(Array.range (len*z.length)).map ((#[]:Array Value)[·%(#[]:Array Value).size]!)=(Array.range (len*z.length)).map (v.cells[·%v.cells.size]!):=by
         rw [h0];simp
        have h1':=h1
        rw [<-hr0] at h1'
        simp only [Instr.buildSlice,Sem.run_bind,run_underlying hu,Result.andThen_ok,fJ hs,ae hg,ah h0,Sem.run_pure,h1']
        simp [newRow]
       ·simp only [Instr.buildSlice,Sem.run_bind,run_underlying hu,Result.andThen_ok,fJ hs,ae hg,ae h0,hzero,Sem.run_pure,h1]
        simp [newRow]
      exact ⟨us,h2,hlen,h3,h4,ef⟩
     obtain ⟨us,h2,hlen,h3,h4,ef⟩:=main
     cases jg:DV.closed.go cs
     ·simp only [jg,ax] at he
      cases h1:Nat.beq z.length 1
      ·simp only [h1,ax] at he;subst he;exact dc dg
      ·simp only [h1,aq] at he
       subst he
       have q:=r.new (C:=len) (T:=el) fS (o:= .box cs) (cv:=us) (.inl ⟨_,rfl⟩) ⟨w.heap.size,len,us,el,rfl,heap_alloc_new w _,h2,h3,h4⟩
       refine ⟨_,_,ef,_,_,q,.row (.inr rfl) ⟨_,_,rfl,fun h=>by cases h⟩ (fun hb=> ?_) (fun g C hb=> ?_) (fun g o C hb=>by simp at hb),fun i hi=>hi⟩
       ·simp at hb
       ·simp only [bn,aa,Loc.at_.injEq] at hb
        obtain ⟨rfl,rfl⟩:=hb
        exact .inl (by simp)
     ·simp only [jg,aq] at he
      split at he
      ·subst he
       refine tf r fS (by simp) (by rw [h2,hlen]) (fun i j f hi=>by omega) ef
      ·subst he
       refine tf r fS (by simp) (by rw [h2,hlen]) (fun i j f hi hj=> ?_) ef
       have hjs:j<z.length:=by
        have:=(aj.1 hj).1
        simpa using this
       rw [aw,List.getElem?_range hjs] at hj
       simp only [aA,aa] at hj
       subst hj
       simp only [b6,List.length_range]
       have mT:i*z.length+z.length<=cs.length:=by
        rw [hlen,<-cq];exact ba _ hi
       have dK:i*z.length+j<us.size:=by rw [h2];omega
       have hu2:us[i*z.length+j]? =some us[i*z.length+j]:=aD dK
       have xw:i*z.length+j<cs.length:=by omega
       have QO:cs[i*z.length+j]? =some cs[i*z.length+j]:=ak xw
       refine ⟨_,hu2,h4 _ (bJ.2 (Array.getElem_mem _)),?_⟩
       have YD:(len - 1)*z.length+j<cs.length:=by
        have:(len - 1)*z.length+z.length=len*z.length:=by rw [<-cq];congr 1;omega
        omega
       have Su:=sk z.length j len cs i hi YD
       rw [QO] at Su
       exact uZ Su ((h3 _ _ _ QO hu2).close (gn jg _ (aG QO)))
    ·subst he;exact dc dg
  ·subst he;exact dc dg
 ·subst he;exact dc dg
end
end Go.Abs
end
section
namespace Go.Abs
open Go.RowKit
section
variable {P:Program} {base:Nat} {w0 w w':World} {S0:Env} {σ σ':St} {kn:Nat->Prop} {c9:Nat->Option Loc} {a:Act}
theorem vM (r:R base w0 S0 σ kn c9 a w) {t:TypeId} {x i:DV} {v vi:Value} {e:eW} (he:kk P σ.obj t x i=e) (dg:dp e.vc)
 (hv:Rel (df w base S0 c9) kn c9 x v) (hi:Rel (df w base S0 c9) kn c9 i vi):Still P base S0 kn c9 w (Instr.indexAt t v vi) e:=by
 unfold kk at he
 split at he
 ·rename_i el k q hu
  cases hi
  split at he
  ·rename_i s s' id off len fq
   cases hb:Nat.beq s s'
   ·simp only [hb,ax] at he
    cases hU:(Nat.beq s' 0&&(Nat.beq s 1&&Nat.beq off 0))
    ·simp only [hU,ax] at he;subst he;exact dc dg
    ·simp only [hU,aq] at he
     subst he
     simp only [av] at hU
     obtain ⟨e1,e2,e3⟩:=hU
     obtain rfl:=ag e1
     obtain rfl:=ag e2
     obtain rfl:=ag e3
     have hk:0<=q/\q<(len:Int):=dg.one
     cases hv with
     |row kL hp h0 h1 h2=>
      obtain ⟨p,c,rfl,hpn⟩:=hp
      cases p with
      |none=>have:=hpn rfl;omega
      |some ad=>
       refine ⟨rfl,.pointer (some (ad.add (q.toNat*1))),?_,.ptr kL ⟨_,rfl⟩ fun g' C' wK=> ?_⟩
       ·simp [Instr.indexAt,run_underlying hu,asIntOf,hk,fJ fq]
       ·rcases h1 g' C' wK with ⟨e,_⟩|⟨h,_⟩
        ·simp only [Value.slice.injEq,aa] at e
         rw [e.1,eE]
         simp
        ·omega
   ·simp only [hb,aq] at he
    subst he
    obtain rfl:=ag hb
    have hk:0<=q/\q<(len:Int):=dg.one
    cases hv with
    |row kL hp h0 h1 h2=>
     obtain ⟨p,c,rfl,hpn⟩:=hp
     cases p with
     |none=>have:=hpn rfl;omega
     |some ad=>
      refine ⟨rfl,.pointer (some (ad.add (q.toNat*s))),?_,.jZ kL ⟨_,rfl⟩ (fun g' C' wK=> ?_) (fun g' o' C' wK=> ?_)⟩
      ·simp [Instr.indexAt,run_underlying hu,asIntOf,hk,fJ fq]
      ·rcases h1 g' C' wK with ⟨e,_⟩|⟨_,e⟩
       ·simp only [Value.slice.injEq,aa] at e
        rw [e.1,eE,FF,cE]
        rfl
       ·omega
      ·rcases h2 g' o' C' wK with ⟨e,_⟩|⟨_,e⟩
       ·simp only [Value.slice.injEq,aa] at e
        rw [e.1,eE,FF,cE]
        simp only [Value.pointer.injEq,aa,Addr.mk.injEq,cQ,cR]
        omega
       ·omega
  ·rename_i s n de fq
   cases hb:Nat.beq de.length s
   ·simp only [hb,ax] at he;subst he;exact dc dg
   ·simp only [hb,aq] at he
    subst he
    obtain rfl:=ag hb
    have hk:0<=q/\q<(n:Int):=dg.one
    cases hv with
    |di U hc ha hn Nk hr=>
     rename_i A c
     cases A with
     |none=>exact absurd rfl (hn (by omega))
     |some ad=>
      refine ⟨rfl,.pointer (some (ad.add (q.toNat*de.length))),?_,.dN (fun j=>U q.toNat j) (fun j d hd=> ?_) (fun j d hd=> ?_) fun j d hd=> ?_⟩
      ·simp [Instr.indexAt,run_underlying hu,asIntOf,hk,fJ fq]
      ·rw [aw] at hd
       cases ot:de[j]? with
       |none=>simp [ot] at hd
       |some f=>
        obtain ⟨ad',e1,e2⟩:=ha q.toNat j f (by omega) ot
        cases e1
        rw [add_add];exact e2
      ·rw [aw] at hd
       cases ot:de[j]? with
       |none=>simp [ot] at hd
       |some f=>exact Nk q.toNat j f (by omega) ot
      ·rw [aw] at hd
       cases ot:de[j]? with
       |none=>simp [ot] at hd
       |some f=>
        simp only [ot,aA,aa] at hd
        subst hd
        exact hr q.toNat j f (by omega) ot
  ·rename_i s s' id n fq
   cases hb:Nat.beq s s'
   ·simp only [hb,ax] at he;subst he;exact dc dg
   ·simp only [hb,aq] at he
    subst he
    obtain rfl:=ag hb
    have hk:0<=q/\q<(n:Int):=dg.one
    cases hv with
    |tL kL hp h1=>
     obtain ⟨p,c,rfl,hpn⟩:=hp
     cases p with
     |none=>have:=hpn rfl;omega
     |some ad=>
      refine ⟨rfl,.pointer (some (ad.add (q.toNat*s))),?_,.k5 kL ⟨_,rfl⟩ fun g' C' KG wK=> ?_⟩
      ·simp [Instr.indexAt,run_underlying hu,asIntOf,hk,fJ fq]
      ·have e:=(h1 g' C' KG wK).1
       simp only [Value.slice.injEq,aa] at e
       rw [e.1,eE]
       simp
  ·subst he;exact dc dg
 ·rename_i len el k q hu
  cases hi
  split at he
  ·rename_i s id j fq
   subst he
   have hk:0<=q/\q<(len:Int):=dg.one
   cases hv with
   |ptr kL hp h=>
    obtain ⟨ad,rfl⟩:=hp
    refine ⟨rfl,.pointer (some (ad.add (q.toNat*s))),by simp [Instr.indexAt,run_underlying hu,asIntOf,hk,fJ fq,Instr.sureAddr],.ptr kL ⟨_,rfl⟩ fun g C hb=> ?_⟩
    have:=h g C hb
    simp only [Value.pointer.injEq,aa] at this
    rw [this,eE]
  ·rename_i s s' id i j fq
   subst he
   have hk:0<=q/\q<(len:Int):=dg.one
   cases hv with
   |jZ kL hp h h'=>
    obtain ⟨ad,rfl⟩:=hp
    refine ⟨rfl,.pointer (some (ad.add (q.toNat*s))),by simp [Instr.indexAt,run_underlying hu,asIntOf,hk,fJ fq,Instr.sureAddr],.jZ kL ⟨_,rfl⟩ (fun g C hb=> ?_) fun g o C hb=> ?_⟩
    ·have:=h g C hb
     simp only [Value.pointer.injEq,aa] at this
     rw [this,eE,bT]
    ·have:=h' g o C hb
     simp only [Value.pointer.injEq,aa] at this
     rw [this,eE,bT,bT]
  ·rename_i s cs fq
   cases hb:Nat.ble (len*s) cs.length
   ·simp only [hb,ax] at he;subst he;exact dc dg
   ·simp only [hb,aq] at he
    subst he
    have hle:=aH hb
    have hk:0<=q/\q<(len:Int):=dg.one
    have hq:q.toNat<len:=by omega
    have E0: ∀j,j<s->(len - 1)*s+j<cs.length:=fun j hj=>by
     have:(len - 1)*s+s=len*s:=by rw [<-cq];congr 1;omega
     omega
    have hqs: ∀j,j<s->q.toNat*s+j<cs.length:=fun j hj=>by
     have:q.toNat*s<=(len - 1)*s:=ba s (by omega)
     have:=E0 j hj
     omega
    cases hv with
    |dN U ha ho hr=>
     refine ⟨rfl,_,by simp [Instr.indexAt,run_underlying hu,asIntOf,hk,fJ fq,Instr.sureAddr];rfl,.dN (fun j=>U (q.toNat*s+j)) (fun j d hd=> ?_) (fun j d hd=> ?_) fun j d hd=> ?_⟩
     ·rw [aw] at hd
      have hj:j<s:=by
       rcases aU j s with h|h
       ·exact h
       ·rw [List.getElem?_eq_none (by simpa using h)] at hd;simp at hd
      rw [add_add]
      exact ha _ _ (ak (hqs j hj))
     ·rw [aw] at hd
      have hj:j<s:=by
       rcases aU j s with h|h
       ·exact h
       ·rw [List.getElem?_eq_none (by simpa using h)] at hd;simp at hd
      exact ho _ _ (ak (hqs j hj))
     ·rw [aw] at hd
      have hj:j<s:=by
       rcases aU j s with h|h
       ·exact h
       ·rw [List.getElem?_eq_none (by simpa using h)] at hd;simp at hd
      rw [List.getElem?_range hj] at hd
      simp only [aA,aa] at hd
      subst hd
      have hc:=ak (hqs j hj)
      exact uZ (by rw [sk s j len cs q.toNat hq (E0 j hj)];exact hc) (hr _ _ hc)
  ·subst he;exact dc dg
 ·subst he;exact dc dg
theorem R.congr (r:R base w0 S0 σ kn c9 a w) (h1: ∀t,σ'.get t=σ.get t) (h2: ∀id,σ'.obj id=σ.obj id) (h3:σ'.nt=σ.nt) (h4:σ'.rn=σ.rn) (h5:σ'.lo=σ.lo):R base w0 S0 σ' kn c9 a w:=
 ⟨r.below,r.xs,r.fw,r.rH,r.nM,fun h=>by rw [h4];exact r.LB h,r.lR,r.yx,r.size.trans h3.symm,fun t=>by rw [h1];exact r.tmps t,fun id o h=>r.fg id o (by rw [<-h2];exact h),r.inj,r.ge,fun id l h=>by rw [h2];exact r.live id l h,fun t ht=>r.EF t (by rw [<-h5];exact ht)⟩
def R9 (base:Nat) (w0:World) (S0:Env) (σ':St) (kn:Nat->Prop) (c9:Nat->Option Loc) (a:Act) (w:World) (id:Nat) (D:Option Nat) (jh:Loc->Nat->Option Loc) (o:fK):Prop:=
 ∀(l:Loc) (w':World),(l= .nil\/ ∃g C,l= .at_ g C/\(D=some g\/(w.heap.size<=g/\g<w'.heap.size)))->w.heap.size<=w'.heap.size->w'.os=w.os->w'.tape=w.tape->w'.output=w.output->Cs w w'->
  (∀k,k<w.heap.size->D≠some k->w'.heap[k]? =w.heap[k]?)->
  ((∀{d v},du (df w base S0 c9) d v->du (df w' base S0 (jh l)) d v)->iG w' (df w' base S0 (jh l)) (fun i=>kn i\/i=id) (jh l) (some l) o)->
  R base w0 S0 σ' (fun i=>kn i\/i=id) (jh l) a w'
def Bi (c9:Nat->Option Loc) (q:Nat):Option Nat:=match c9 q with
 |some (.at_ g _)=>some g
 |_=>none
theorem xM {q g:Nat} (h:Bi c9 q=some g): ∃C,c9 q=some (.at_ g C):=by
 unfold Bi at h
 split at h
 ·rename_i g' C hb;cases h;exact ⟨C,hb⟩
 ·cases h
theorem R.mover (r:R base w0 S0 σ kn c9 a w) {id q:Nat} {o:fK} (fS: ¬kn id) (hq: ∀l,c9 q=some l->l= .nil\/ ∃g C,l= .at_ g C):
 R9 base w0 S0 ((σ.setObj q none).setObj id (some o)) kn c9 a w id (Bi c9 q) (fun l i=>if i=id then some l else if i=q then none else c9 i) o:=by
 intro l w' hl fq QF BY qw Nr hk ho
 show R base w0 S0 _ _ (fun i=>if i=id then some l else if i=q then none else c9 i) a w'
 have oR:=r.fresh fS
 refine r.step (fun k=>Bi c9 q=some k) (fun i=>i=id\/i=q) fq QF BY qw (fun k h1 h2=>hk k h1 h2) (fun k h=> ?_) (fun _ h=> .inl h) (fun i h=> ?_) (fun i v h hi e=> ?_) (fun i l' g h e hg=> ?_) (fun i l' h hi e=> ?_) rfl rfl rfl (fun _=>rfl) (fun i h=> ?_)
  (fun _ _ mC i o' h e=> ?_) (fun i l' h e=> ?_) (fun i i' l1 l2 g h h' e e' g1 g2=> ?_) (fun B hB i g bs h e=> ?_) Nr
 ·obtain ⟨C,h⟩:=xM h
  exact ⟨q,_,.inr rfl,h,rfl⟩
 ·rw [not_or] at h
  rw [ae h.1,ae h.2]
 ·rcases h with rfl|rfl
  ·exact absurd hi fS
  ·rcases hq _ e with h|⟨g,C,h⟩<;>cases h
 ·by_cases e1:i=id
  ·rw [ah e1] at e
   cases e
   rcases hl with rfl|⟨g',C,rfl,h1|h1⟩
   ·exact hg.elim
   ·cases hg
    obtain ⟨C',h2⟩:=xM h1
    exact .inl ⟨q,_,.inr rfl,h2,rfl⟩
   ·cases hg
    exact .inr h1
  ·have e2:i=q:=h.resolve_left e1
   rw [ae e1,ah e2] at e
   cases e
 ·have e1:i≠id:=fun e'=>fS (e'▸hi)
  rw [ae e1,ah (h.resolve_left e1)] at e
  cases e
 ·rw [not_or] at h
  rw [St.dE,ae (fun e=>h.1 e.symm),St.dE,ae (fun e=>h.2 e.symm)]
 ·by_cases e1:i=id
  ·subst e1
   rw [St.dE,ah rfl,aa] at e
   subst e
   exact ⟨.inr rfl,by simpa using ho mC⟩
  ·rw [St.dE,ae (fun e'=>e1 e'.symm),St.dE,ah (h.resolve_left e1).symm] at e
   cases e
 ·by_cases e1:i=id
  ·exact ⟨o,by rw [St.dE,ah e1.symm]⟩
  ·rw [ae e1,ah (h.resolve_left e1)] at e
   cases e
 ·by_cases e1:i=id
  ·by_cases e2:i'=id
   ·rw [e1,e2]
   ·rw [ae e2,ah (h'.resolve_left e2)] at e';cases e'
  ·rw [ae e1,ah (h.resolve_left e1)] at e;cases e
 ·by_cases e1:i=id
  ·rw [ah e1] at e
   cases e
   rcases hl with h|⟨g',C,h,_⟩<;>cases h
  ·rw [ae e1,ah (h.resolve_left e1)] at e;cases e
theorem R.Yr (r:R base w0 S0 σ kn c9 a w) {id m gm:Nat} {bs:List Nat} {es:Array MapEntry} {clock:Nat} {o:fK} {ks:KS} {len:List Int->Nat} {gN:List Int->Nat->DV} {k:List Int} {v:Value}
 (fS: ¬kn id) (hm:c9 m=some (.map gm bs)) (hh:w.heap[gm]? =some (.map es clock)) (hG:Bq w (df w base S0 c9) bs ks len gN none es.toList) (yF: ∀b,b∈bs-> ∃cv T,w.heap[b]? =some (.cells cv T (0,0)))
 (hv:atKey ks es.toList k v) {D:Option Nat} (hD: ∀g,D=some g->g∈bs/\ ∃n C,v= .slice (some ⟨g,0,none⟩) n C):
 R9 base w0 S0 ((σ.setObj m (some (.vF ks len gN [] (some k)))).setObj id (some o)) kn c9 a w id D (fun l i=>if i=id then some l else if i=m then some (.map gm (bs.filter fun b=>decide (D≠some b))) else c9 i) o:=by
 intro l w' hl fq QF BY qw Nr hk ho
 show R base w0 S0 _ _ (fun i=>if i=id then some l else if i=m then some (.map gm (bs.filter fun b=>decide (D≠some b))) else c9 i) a w'
 have oR:=r.fresh fS
 have YN:m≠id:=fun e=>fS (e▸r.known hm)
 have hgD:D≠some gm:=fun e=>by
  obtain ⟨cv,T,h⟩:=yF gm (hD gm e).1
  rw [hh] at h;cases h
 refine r.step (fun k=>D=some k) (fun i=>i=id\/i=m) fq QF BY qw (fun k h1 h2=>hk k h1 h2) (fun k h=> ?_) (fun _ h=> .inl h) (fun i h=> ?_) (fun i v h hi e=> ?_) (fun i l' g h e hg=> ?_) (fun i l' h hi e=> ?_) rfl rfl rfl (fun _=>rfl) (fun i h=> ?_)
  (fun c _ mC i o' h e=> ?_) (fun i l' h e=> ?_) (fun i i' l1 l2 g h h' e e' g1 g2=> ?_) (fun B hB i g KG h e=> ?_) Nr
 ·exact ⟨m,_,.inr rfl,hm,.inr (hD k h).1⟩
 ·rw [not_or] at h
  rw [ae h.1,ae h.2]
 ·rcases h with rfl|rfl
  ·exact absurd hi fS
  ·rw [hm] at e;cases e
 ·by_cases e1:i=id
  ·rw [ah e1] at e
   cases e
   rcases hl with rfl|⟨g',C,rfl,h1|h1⟩
   ·exact hg.elim
   ·cases hg
    exact .inl ⟨m,_,.inr rfl,hm,.inr (hD _ h1).1⟩
   ·cases hg
    exact .inr h1
  ·have e2:i=m:=h.resolve_left e1
   rw [ae e1,ah e2] at e
   cases e
   refine .inl ⟨m,_,.inr rfl,hm,?_⟩
   rcases hg with hg|hg
   ·exact .inl hg
   ·exact .inr (bR.1 hg).1
 ·have e1:i≠id:=fun e'=>fS (e'▸hi)
  rw [ae e1,ah (h.resolve_left e1)] at e
  cases e
  exact ⟨.map gm bs,by rw [h.resolve_left e1];exact hm,rfl⟩
 ·rw [not_or] at h
  rw [St.dE,ae (fun e=>h.1 e.symm),St.dE,ae (fun e=>h.2 e.symm)]
 ·by_cases e1:i=id
  ·subst e1
   rw [St.dE,ah rfl,aa] at e
   subst e
   exact ⟨.inr rfl,by simpa using ho mC⟩
  ·have e2:i=m:=h.resolve_left e1
   rw [St.dE,ae (fun e'=>e1 e'.symm),St.dE,ah e2.symm,aa] at e
   subst e
   refine ⟨.inl (e2▸r.known hm),?_⟩
   rw [ae e1,ah e2]
   have YS: ∀b,b∈bs.filter (fun b=>decide (D≠some b))->w'.heap[b]? =w.heap[b]? :=fun b hb=>by
    obtain ⟨h1,h2⟩:=bR.1 hb
    refine hk b (r.ge _ _ _ hm (.inr h1)).2 (by simpa using h2)
   refine ⟨gm,_,es,clock,rfl,by rw [hk gm (dY hh) hgD];exact hh,⟨hG.hk,hG.hd,fun l hl _=>hG.P9 l hl (by simp),fun e l he AG nj=> ?_,fun e e' l l' g n C n' C' a b c d _ _ q=>hG.sep e e' l l' g n C n' C' a b c d (by simp) (by simp) q⟩,fun b hb=>by rw [YS b hb];exact yF b (bR.1 hb).1,fun _ _ h=>by cases h⟩
   rcases hG.Uy e l he AG (by simp) with h0|⟨g,C,cv,T,h1,h2,h3,h4,h5,h6⟩
   ·exact .inl h0
   ·have hgb:g∈bs.filter (fun b=>decide (D≠some b)):=bR.2 ⟨h2,by
     simp only [ai]
     intro eD
     obtain ⟨_,n',C',Sk⟩:=hD g eD
     rcases hv with ⟨e0,he0,VR,hv0⟩|⟨_,hv0⟩
     ·have hkne:e.key≠e0.key:=fun e1=>nj (by rw [e1] at AG;rw [VR] at AG;rw [AG])
      exact hG.sep e e0 l k g _ _ n' C' he he0 AG VR (by simp) (by simp) hkne h1 (hv0.trans Sk)
     ·rw [Sk] at hv0;cases hv0⟩
    exact .inr ⟨g,C,cv,T,h1,hgb,by rw [YS g hgb];exact h3,h4,h5,fun i hi=>let ⟨u,a,b,c'⟩:=h6 i hi;⟨u,a,b,mC c'⟩⟩
 ·by_cases e1:i=id
  ·exact ⟨o,by rw [St.dE,ah e1.symm]⟩
  ·exact ⟨_,by rw [St.dE,ae (fun e=>e1 e.symm),St.dE,ah (h.resolve_left e1).symm]⟩
 ·have key: ∀{l2:Loc},l.has g->(if m=id then some l else if m=m then some (Loc.map gm (bs.filter fun b=>decide (D≠some b))) else c9 m)=some l2->l2.has g->False:=by
   intro l2 g1 e' g2
   rw [ae YN,ah rfl] at e'
   cases e'
   have hold:Loc.has (.map gm bs) g:=g2.imp (fun h=>h) fun h=>(bR.1 h).1
   rcases hl with rfl|⟨g',C,rfl,h1|h1⟩
   ·exact g1
   ·cases g1
    rcases g2 with rfl|g2
    ·exact hgD h1
    ·have:=(bR.1 g2).2
     simp at this;exact this h1
   ·cases g1
    have:=(r.ge _ _ _ hm hold).2;omega
  by_cases e1:i=id<;>by_cases e2:i'=id
  ·rw [e1,e2]
  ·rw [ah e1] at e;cases e
   have e3:=h'.resolve_left e2
   subst e3
   exact (key g1 e' g2).elim
  ·rw [ah e2] at e';cases e'
   have e3:=h.resolve_left e1
   subst e3
   exact (key g2 e g1).elim
  ·rw [h.resolve_left e1,h'.resolve_left e2]
 ·by_cases e1:i=id
  ·rw [ah e1] at e
   cases e
   rcases hl with h|⟨g',C,h,_⟩<;>cases h
  ·rw [ae e1,ah (h.resolve_left e1)] at e
   cases e
   exact r.lR B hB m gm bs hm
theorem se {α:Type}: ∀{l:List (Nat×α)} {i:Nat} {v:α},look l i=some v->(i,v)∈l
 |[],i,v,h=>by cases h
 |(k,u)::r,i,v,h=>by
  rw [dH] at h
  split at h
  ·rename_i e;cases h;rw [e];exact ay
  ·exact az _ (se h)
theorem mg (r:R base w0 S0 σ kn c9 a w) {s m:Nat} {y:DV} {de:List (Nat->DV)} {vc:List Prop} {v:Value} (h:source σ.obj s y=some (m,de,vc)) (dg:dp vc)
 (jg:de.length=s) (hv:Rel (df w base S0 c9) kn c9 y v): ∃(A:Option Addr) (c:Nat) (news:List Value),v= .slice A m c/\news.length=m*s/\
   (A=none->m=0)/\(∀ad,A=some ad-> ∀j u,news[j]? =some u->w.cell? (ad.add j)=some u)/\(∀u∈news,fc u=true)/\
   ∀(i j:Nat) (f:Nat->DV),i<m->de[j]? =some f-> ∃u,news[i*s+j]? =some u/\du (df w base S0 c9) (f i) u:=by
 -- out of cells that are known one by one
 have build: ∀(ad:Addr) (m:Nat) (de:List (Nat->DV)) (c:Nat),de.length=s->(∀(i j:Nat) (f:Nat->DV),i<m->de[j]? =some f-> ∃u,w.cell? (ad.add (i*s+j))=some u/\fc u=true/\du (df w base S0 c9) (f i) u)->
  ∃(A:Option Addr) (c':Nat) (news:List Value),(.slice (some ad) m c:Value)= .slice A m c'/\news.length=m*s/\(A=none->m=0)/\(∀ad,A=some ad-> ∀j u,news[j]? =some u->w.cell? (ad.add j)=some u)/\(∀u∈news,fc u=true)/\
  ∀(i j:Nat) (f:Nat->DV),i<m->de[j]? =some f-> ∃u,news[i*s+j]? =some u/\du (df w base S0 c9) (f i) u:=by
  intro ad m de c xy eZ
  have split: ∀k,k<m*s->k/s<m/\k%s<s/\k/s*s+k%s=k:=fun k hk=>by
   have hs:0<s:=by
    rcases cf s with h|h
    ·rw [h] at hk;simp at hk
    ·exact h
   exact ⟨Nat.div_lt_of_lt_mul (by rw [Nat.mul_comm];exact hk),bj _ hs,by rw [Nat.mul_comm];exact Nat.div_add_mod k s⟩
  have cell: ∀k,k<m*s-> ∃u,w.cell? (ad.add k)=some u/\fc u=true:=fun k hk=>by
   obtain ⟨h1,h2,h3⟩:=split k hk
   have hf:de[k%s]? =some de[k%s]:=ak (by omega)
   obtain ⟨u,hu,ho,_⟩:=eZ _ _ _ h1 hf
   rw [h3] at hu
   exact ⟨u,hu,ho⟩
  refine ⟨some ad,c,(List.range (m*s)).map fun k=>(w.cell? (ad.add k)).getD undef,rfl,by simp,(fun h=>by cases h),fun ad' e j u hu=> ?_,fun u hu=> ?_,fun i j f hi hf=> ?_⟩
  ·cases e
   rw [aw] at hu
   cases hj:(List.range (m*s))[j]? with
   |none=>simp [hj] at hu
   |some k=>
    have hk:=aj.1 hj
    obtain ⟨wJ,qz⟩:=hk
    simp at wJ qz
    subst qz
    obtain ⟨u',DA,_⟩:=cell j wJ
    simp [hj,DA] at hu
    subst hu;exact DA
  ·obtain ⟨k,hk,rfl⟩:=br.1 hu
   obtain ⟨u',DA,ho⟩:=cell k (by simpa using hk)
   rw [DA];exact ho
  ·obtain ⟨u,hu,_,hrel⟩:=eZ i j f hi hf
   have hj:j<s:=by rw [<-xy];exact (aj.1 hf).1
   have dK:i*s+j<m*s:=by
    have:i*s+s<=m*s:=by rw [<-cq];exact ba _ hi
    omega
   exact ⟨u,by simp [dK,hu],hrel⟩
 unfold source at h
 split at h
 ·rename_i n fo
  cases hb:Nat.beq fo.length s
  ·simp [hb] at h
  ·simp only [hb,aq,aa,aB] at h
   obtain ⟨rfl,rfl,rfl⟩:=h
   cases hv with
   |di U hc ha hn ho hr=>
    rename_i A c
    rcases cf n with h0|h0
    ·subst h0
     cases A with
     |none=>exact ⟨none,c,[],rfl,by simp,fun _=>rfl,(fun ad e=>by cases e),by simp,fun i j f hi=>by omega⟩
     |some ad=>exact ⟨some ad,c,[],rfl,by simp,(fun e=>by cases e),by simp,by simp,fun i j f hi=>by omega⟩
    ·cases A with
     |none=>exact absurd rfl (hn h0)
     |some ad=>
      refine build ad n fo c jg fun i j f hi hf=> ?_
      obtain ⟨ad',e,Ol⟩:=ha i j f hi hf
      cases e
      rw [jg] at Ol
      exact ⟨U i j,oE Ol.1 (ho i j f hi hf),ho i j f hi hf,hr i j f hi hf⟩
 ·rename_i s' id off len
  split at h
  ·rename_i n fo gR
   cases hb:(Nat.beq s s'&&Nat.beq fo.length s)
   ·simp [hb] at h
   ·simp only [hb,aq] at h
    simp only [av] at hb
    obtain rfl:=ag hb.1
    have xy:=ag hb.2
    have tE:ke σ.obj id s=true:=by unfold ke;rw [gR];exact hb.2
    have gen: ∀(na:List (Nat->DV)),na=fo.map (fun c i=>c (i+off))->len+off<=n-> ∃(A:Option Addr) (c:Nat) (news:List Value),v= .slice A len c/\news.length=len*s/\
     (A=none->len=0)/\(∀ad,A=some ad-> ∀j u,news[j]? =some u->w.cell? (ad.add j)=some u)/\(∀u∈news,fc u=true)/\
     ∀(i j:Nat) (f:Nat->DV),i<len->na[j]? =some f-> ∃u,news[i*s+j]? =some u/\du (df w base S0 c9) (f i) u:=by
     intro na hcx hle
     obtain ⟨_,⟨rfl,_,rfl,_⟩|⟨g,C,rfl,hC,hl⟩|⟨_,rfl,p,c,rfl⟩⟩:=nG r tE hv
     rotate_left 2
     ·cases p with
      |none=>exact ⟨none,c,[],rfl,by simp,fun _=>rfl,(fun ad e=>by cases e),by simp,fun i j f hi=>by omega⟩
      |some ad=>exact ⟨some ad,c,[],rfl,by simp,(fun h=>by cases h),(fun ad e j u h=>by simp at h),by simp,fun i j f hi=>by omega⟩
     ·exact ⟨none,0,[],rfl,by simp,fun _=>rfl,(fun ad e=>by cases e),by simp,fun i j f hi=>by omega⟩
     ·obtain ⟨_,pG⟩:=r.fg _ _ gR
      rcases pG with ⟨nk,_⟩|⟨g',C',cv,T,oS,hh,fq,Ua,hrel⟩
      ·rw [nk] at hl;cases hl
      ·rw [hl] at oS
       cases oS
       refine build ⟨g,off*s,none⟩ len na _ (by rw [hcx];simpa using xy) fun i j f hi hf=> ?_
       rw [hcx,aw] at hf
       cases ot:fo[j]? with
       |none=>simp [ot] at hf
       |some f'=>
        simp only [ot,aA,aa] at hf
        subst hf
        obtain ⟨u,hu,ho,Kd⟩:=hrel (i+off) j f' (by omega) ot
        rw [xy] at hu
        refine ⟨u,?_,ho,Kd⟩
        rw [eE]
        simp only [World.cell?,hh]
        rw [show off*s+(i*s+j)=(i+off)*s+j by rw [cE];omega,hu]
        rfl
    simp only [aa,aB] at h
    obtain ⟨rfl,rfl,rfl⟩:=h
    exact gen _ rfl dg.one
  ·cases h
 ·simp only [aa,aB] at h
  obtain ⟨rfl,rfl,rfl⟩:=h
  cases hv
  exact ⟨none,0,[],rfl,by simp,fun _=>rfl,(fun ad e=>by cases e),by simp,fun i j f hi=>by omega⟩
 ·rename_i t mi
  split at h
  ·rename_i ks len gN ym gR
   split at h
   ·rename_i l hl
    cases hb:Nat.beq s 1
    ·simp [hb] at h
    ·simp only [hb,aq,aa,aB] at h
     obtain ⟨rfl,rfl,rfl⟩:=h
     obtain rfl:=ag hb
     obtain ⟨_,g,bs,es,clock,hlm,hh,hG,yF,tG⟩:=r.fg _ _ gR
     obtain ⟨v',hbt,sI⟩:=tG t l (se hl)
     have jf:v=v':=by cases hv with|tok _ _ h=>exact h v' hbt
     subst jf
     have Kg:Cr w (df w base S0 c9) bs (len l) (gN l) v:=by
      rcases sI with ⟨e,he,hk,rfl⟩|⟨h1,rfl⟩
      ·exact hG.Uy e l he hk (by simp)
      ·exact .inl ⟨rfl,hG.P9 l h1 (by simp)⟩
     rcases Kg with ⟨rfl,h0⟩|⟨g',C,cv,T,rfl,_,h3,h4,h5,h6⟩
     ·exact ⟨none,0,[],by rw [h0],by rw [h0];simp,fun _=>h0,(fun ad e=>by cases e),by simp,fun i j f hi=>by omega⟩
     ·refine build ⟨g',0,none⟩ (len l) [gN l] _ rfl fun i j f hi hf=> ?_
      have hj:j=0:=by
       have:=(aj.1 hf).1
       simp at this;exact this
      subst hj
      simp at hf
      subst hf
      obtain ⟨u,hu,ho,Kd⟩:=h6 i hi
      refine ⟨u,?_,ho,Kd⟩
      rw [eE]
      simp only [World.cell?,h3,aE,Nat.mul_one,bU,hu]
      rfl
   ·cases h
  ·cases h
 ·cases h
end
end Go.Abs
end
section
namespace Go.Abs
open Go.RowKit
section
variable {P:Program} {base:Nat} {w0 w w':World} {S0:Env} {σ σ':St} {kn:Nat->Prop} {c9:Nat->Option Loc} {a:Act}
theorem Et {t ty e:TypeId} {i:TypeInfo} (ht:P.underlying t=some (.slice e)) (hi:P.info? e=some i)
 {g n C:Nat} {cur:Array Value} {T:TypeId} (hg:w.heap[g]? =some (.cells cur T (0,0))) {A:Option Addr} {m c:Nat} {news:List Value}
 (hf:(Builtin.firstCells i.size m (.slice A m c)).run P w= .ok news.toArray w) (h1: ∀u∈news,fc u=true)
 (mT:n+m<=C) (E1:n*i.size+news.length<=cur.size):
 (Builtin.append_ #[t,t] ty #[.slice (some ⟨g,0,none⟩) n C,.slice A m c]).run P w=
   .ok (.slice (some ⟨g,0,none⟩) (n+m) C) (w.setRow g (cur.toList.take (n*i.size)++news++cur.toList.drop (n*i.size+news.length)).toArray):=by
 have pF:=run_storeCells_at P g (n*i.size) T news 0 cur w hg (by simpa using E1) (fun u hu=>by rw [<-EI];exact h1 u hu)
 simp only [bU] at pF
 simp [Builtin.append_,run_underlying ht,sizeOf,typeInfo,hi,Builtin.lenOf,mT,hf,Addr.add_lit,pF]
theorem kH {s m c:Nat} {A:Option Addr} {news:List Value} (hl:news.length=m*s) (hn:A=none->m=0) (hc: ∀ad,A=some ad-> ∀j u,news[j]? =some u->w.cell? (ad.add j)=some u):
 (Builtin.firstCells s m (.slice A m c)).run P w= .ok news.toArray w:=by
 cases A with
 |none=>
  have:=hn rfl
  subst this
  have:news=[]:=cA (by simpa using hl)
  subst this
  simp [Builtin.firstCells]
 |some ad=>exact run_firstCells_some w s m ad m c news hl (hc ad rfl)
theorem uE {rd:Rd} {n m s:Nat} {de jE F:List (Nat->DV)} {sD news rest:List Value} (hF:F.length=s) (lS:sD.length=n*s)
 (hold: ∀(i j:Nat) (f:Nat->DV),i<n->de[j]? =some f-> ∃u,sD[i*s+j]? =some u/\fc u=true/\du rd (f i) u)
 (yD: ∀(i j:Nat) (f:Nat->DV),i<m->jE[j]? =some f-> ∃u,news[i*s+j]? =some u/\du rd (f i) u) (jR: ∀u∈news,fc u=true)
 (Kc: ∀(i j:Nat) (f:Nat->DV),i<n+m->F[j]? =some f->(i<n-> ∃c,de[j]? =some c/\ ∀u,du rd (c i) u->du rd (f i) u)/\(n<=i-> ∃d,jE[j]? =some d/\ ∀u,du rd (d (i - n)) u->du rd (f i) u))
 (i j:Nat) (f:Nat->DV) (hi:i<n+m) (hf:F[j]? =some f): ∃u,(sD++(news++rest)).toArray[i*F.length+j]? =some u/\fc u=true/\du rd (f i) u:=by
 have hj:j<s:=by rw [<-hF];exact (aj.1 hf).1
 rw [hF,cJ]
 obtain ⟨h1,h2⟩:=Kc i j f hi hf
 by_cases sj:i<n
 ·obtain ⟨c,hc,hm⟩:=h1 sj
  obtain ⟨u,hu,ho,hr⟩:=hold i j c sj hc
  have dK:i*s+j<sD.length:=by
   have:i*s+s<=n*s:=by rw [<-cq];exact ba _ sj
   omega
  exact ⟨u,by rw [aM dK];exact hu,ho,hm u hr⟩
 ·obtain ⟨d,hd,hm⟩:=h2 (by omega)
  obtain ⟨u,hu,hr⟩:=yD (i - n) j d (by omega) hd
  have iy:sD.length<=i*s+j:=by
   have:n*s<=i*s:=ba _ (by omega)
   omega
  have Kf:i*s+j - sD.length=(i - n)*s+j:=by
   rw [lS,Nat.sub_mul]
   have:n*s<=i*s:=ba _ (by omega)
   omega
  have dK:(i - n)*s+j<news.length:=(aj.1 hu).1
  refine ⟨u,?_,jR _ (aG hu),hm u hr⟩
  rw [a7 iy,Kf,aM dK]
  exact hu
theorem G7 {rd:Rd} {n:Nat} (s:Nat) (de:List (Nat->DV)) (jg:de.length=s) (cv:Array Value) (hold: ∀(i j:Nat) (f:Nat->DV),i<n->de[j]? =some f-> ∃u,cv[i*s+j]? =some u/\fc u=true/\du rd (f i) u)
 (i j:Nat) (f:Nat->DV) (hi:i<n) (hf:de[j]? =some f): ∃u,(cv.toList.take (n*s))[i*s+j]? =some u/\fc u=true/\du rd (f i) u:=by
 obtain ⟨u,hu,ho,hr⟩:=hold i j f hi hf
 have hj:j<s:=by rw [<-jg];exact (aj.1 hf).1
 have dK:i*s+j<n*s:=by
  have:i*s+s<=n*s:=by rw [<-cq];exact ba _ hi
  omega
 exact ⟨u,by rw [bG,ah dK,bt];exact hu,ho,hr⟩
theorem appendCore (r:R base w0 S0 σ kn c9 a w) {id:Nat} {D:Option Nat} {jh:Loc->Nat->Option Loc} (HG: ∀l,jh l id=some l) {t ty e:TypeId} {i:TypeInfo} {z:Value} {s Ih n m:Nat} (ht:P.underlying t=some (.slice e)) (hi:P.info? e=some i) (hz:i.zero=some z)
 (hs:i.size=s) (On:i.bytes=Ih+1) (Sj:z.cells.size=s) (hs0:0<s) {de jE F:List (Nat->DV)} (hF:F.length=s) (jg:de.length=s)
 (mv:R9 base w0 S0 σ' kn c9 a w id D jh (.row (n+m) F))
 {v:Value} (HD:(v= .slice none 0 0/\n=0)\/ ∃g C cv T,v= .slice (some ⟨g,0,none⟩) n C/\n<=C/\D=some g/\w.heap[g]? =some (.cells cv T (0,0))/\cv.size=C*s/\
   ∀(i j:Nat) (f:Nat->DV),i<n->de[j]? =some f-> ∃u,cv[i*s+j]? =some u/\fc u=true/\du (df w base S0 c9) (f i) u)
 {A:Option Addr} {c:Nat} {news:List Value} (nk:news.length=m*s) (oR:A=none->m=0) (eZ: ∀ad,A=some ad-> ∀j u,news[j]? =some u->w.cell? (ad.add j)=some u) (jR: ∀u∈news,fc u=true)
 (yD: ∀(i j:Nat) (f:Nat->DV),i<m->jE[j]? =some f-> ∃u,news[i*s+j]? =some u/\du (df w base S0 c9) (f i) u)
 (Kc: ∀(rd:Rd) (i j:Nat) (f:Nat->DV),i<n+m->F[j]? =some f->(i<n-> ∃c,de[j]? =some c/\ ∀u,du rd (c i) u->du rd (f i) u)/\(n<=i-> ∃d,jE[j]? =some d/\ ∀u,du rd (d (i - n)) u->du rd (f i) u))
 (tJ:(n+m)*(Ih+1)<=140737488355328):
 ∃v' w',(Builtin.append_ #[t,t] ty #[v,.slice A m c]).run P w= .ok v' w'/\ ∃eL dk,R base w0 S0 σ' eL dk a w'/\
  Rel (df w' base S0 dk) eL dk (.row s id 0 (n+m)) v'/\ ∀i,eL i->kn i\/i=id:=by
 subst hs
 have hle63:n+m<=140737488355328:=aV (Nat.le_mul_of_pos_right _ (Nat.succ_pos _)) tJ
 -- the new row in a new block
 have grown: ∀(Dm:Nat) (sD:List Value),Dm<n+m->sD.length=n*i.size->
  (∀(i' j:Nat) (f:Nat->DV),i'<n->de[j]? =some f-> ∃u,sD[i'*i.size+j]? =some u/\fc u=true/\du (df w base S0 c9) (f i') u)->
  (Builtin.append_ #[t,t] ty #[v,.slice A m c]).run P w= .ok (.slice (some ⟨w.heap.size,0,none⟩) (n+m) (grownCap w (n+m) Dm e)) (w.drew.alloc (.cells (sD.toArray++news.toArray++Builtin.zeroCells z.cells (grownCap w (n+m) Dm e - (n+m))) e))->
  ∃v' w',(Builtin.append_ #[t,t] ty #[v,.slice A m c]).run P w= .ok v' w'/\ ∃eL dk,R base w0 S0 σ' eL dk a w'/\
  Rel (df w' base S0 dk) eL dk (.row i.size id 0 (n+m)) v'/\ ∀i,eL i->kn i\/i=id:=by
  intro Dm sD ho lS hold ef
  have iy:=grownCap_ge w (n+m) Dm e
  refine ⟨_,_,ef,_,_,mv (.at_ w.heap.size (grownCap w (n+m) Dm e)) _ (.inr ⟨_,_,rfl,.inr ⟨af _,by rw [World.size_alloc];exact Nat.lt_succ_self _⟩⟩) (by rw [World.size_alloc];exact Nat.le_succ _) rfl rfl rfl (fun _=>Nat.le_succ _) (fun k hk _=>World.yv w.drew _ k hk)
   (fun mono=> .inr ⟨_,_,_,e,rfl,heap_alloc_new w.drew _,?_,iy,fun i' j f pH hf=> ?_⟩),.row (.inr rfl) ⟨_,_,rfl,fun h=>by cases h⟩ (fun h=> ?_) (fun g C h=> ?_) (fun g o C h=>by rw [HG] at h;cases h),fun _ h=>h⟩
  ·simp only [Array.size_append,cc,size_zeroCells,Sj,lS,nk,<-cE,hF]
   congr 1;omega
  ·obtain ⟨u,hu,YJ,hr⟩:=uE (rest:=(Builtin.zeroCells z.cells (grownCap w (n+m) Dm e - (n+m))).toList) hF lS hold yD jR (Kc _) i' j f pH hf
   refine ⟨u,?_,YJ,mono hr⟩
   rw [<-hu]
   congr 1
   apply cD
   simp [cz]
  ·rw [HG] at h;cases h
  ·rw [HG] at h
   simp only [aa,Loc.at_.injEq] at h
   obtain ⟨rfl,rfl⟩:=h
   exact .inl ⟨by simp,by omega⟩
 rcases HD with ⟨rfl,rfl⟩|⟨g,C,cv,T,rfl,QG,QU,hg,fq,hold⟩
 ·by_cases hm:m=0
  ·subst hm
   have B2:news=[]:=cA (by simpa using nk)
   subst B2
   have hf:=kH (P:=P) (w:=w) (c:=c) nk oR eZ
   refine ⟨.slice none 0 0,w,?_,_,_,mv .nil w (.inl rfl) (af _) rfl rfl rfl (fun _=>af _) (fun _ _ _=>rfl) (fun _=> .inl ⟨rfl,rfl⟩),.row (.inr rfl) ⟨_,_,rfl,fun _=>rfl⟩ (fun _=>⟨rfl,rfl,rfl⟩) (fun g C h=> ?_) (fun g o C h=>by rw [HG] at h;cases h),fun _ h=>h⟩
   ·simp [Builtin.append_,run_underlying ht,sizeOf,typeInfo,hi,Builtin.lenOf,hf]
   ·rw [HG] at h;cases h
  ·cases A with
   |none=>exact absurd (oR rfl) hm
   |some ad=>
    have ef:=run_append_nil (P:=P) w t ty e i z ht hi hz ad m c news nk (eZ ad rfl) (by omega) (by omega) (by rw [On];rw [aE] at tJ;omega)
    refine grown 0 [] (by omega) (by simp) (fun i' j f h=>by omega) ?_
    simpa using ef
 ·by_cases mT:n+m<=C
  ·have E1:n*i.size+news.length<=cv.size:=by rw [nk,fq,<-cE];exact ba _ mT
   have hf:=kH (P:=P) (w:=w) (c:=c) nk oR eZ
   have ef:=Et (P:=P) (ty:=ty) ht hi hg hf jR mT E1
   refine ⟨_,_,ef,_,_,mv (.at_ g C) _ (.inr ⟨_,_,rfl,.inl QU⟩) (by simp) rfl rfl rfl (fun _=>af _) (fun k _ hk=>setRow_other w g k _ fun e=>hk (e▸QU))
    (fun mono=> .inr ⟨g,C,_,T,rfl,setRow_heap w g cv _ T _ hg,?_,mT,fun i' j f pH lT=> ?_⟩),.row (.inr rfl) ⟨_,_,rfl,fun h=>by cases h⟩ (fun h=> ?_) (fun g' C' h=> ?_) (fun g' o C' h=>by rw [HG] at h;cases h),fun _ h=>h⟩
   ·simp only [cc,aO,aQ,bq,bP,hF];omega
   ·have yE:(cv.toList.take (n*i.size)).length=n*i.size:=by rw [aQ,bP];omega
    obtain ⟨u,hu,YJ,hr⟩:=uE (rest:=cv.toList.drop (n*i.size+news.length)) hF yE (G7 i.size de jg cv hold) yD jR (Kc _) i' j f pH lT
    exact ⟨u,by simpa [cz] using hu,YJ,mono hr⟩
   ·rw [HG] at h;cases h
   ·rw [HG] at h
    simp only [aa,Loc.at_.injEq] at h
    obtain ⟨rfl,rfl⟩:=h
    exact .inl ⟨by simp,by omega⟩
  ·cases A with
   |none=>
    have:=oR rfl
    omega
   |some ad=>
    have E1:n*i.size<=cv.size:=by rw [fq];exact ba _ QG
    have yE:(cv.toList.take (n*i.size)).length=n*i.size:=by rw [aQ,bP];omega
    have ef:=run_append_grow (P:=P) w t ty e i z ht hi hz ⟨g,0,none⟩ n C (cv.toList.take (n*i.size)) yE (fun j u hu=>by
     rw [bG] at hu
     split at hu
     ·rw [bt] at hu
      rw [eE]
      simp only [World.cell?,hg,aE,hu]
      rfl
     ·cases hu) ad m c news nk (eZ ad rfl) (by omega) (by omega) (growslice_fits (by omega) (by rw [On];exact tJ))
    exact grown C _ (by omega) yE (G7 i.size de jg cv hold) ef
end
end Go.Abs
end
section
namespace Go.Abs
open Go.RowKit
def Loc.atG (l:Loc) (g:Nat):Prop:=(∃C,l= .at_ g C)\/ ∃o C,l= .sub g o C
theorem Loc.zn {l:Loc} {g k:Nat} (h:l.atG g):l.has k↔k=g:=by
 rcases h with ⟨C,rfl⟩|⟨o,C,rfl⟩<;>exact Iff.rfl
def Im (c9:Nat->Option Loc) (q:Nat):Option Nat:=match c9 q with
 |some (.at_ g _)=>some g
 |some (.sub g _ _)=>some g
 |_=>none
theorem DW {c9:Nat->Option Loc} {q g:Nat} (h:Im c9 q=some g): ∃l,c9 q=some l/\l.atG g:=by
 unfold Im at h
 split at h
 ·rename_i g' C hb;cases h;exact ⟨_,hb,.inl ⟨_,rfl⟩⟩
 ·rename_i g' o C hb;cases h;exact ⟨_,hb,.inr ⟨_,_,rfl⟩⟩
 ·cases h
section
variable {P:Program} {base:Nat} {w0 w w':World} {S0:Env} {σ σ':St} {kn:Nat->Prop} {c9:Nat->Option Loc} {a:Act}
def R8 (base:Nat) (w0:World) (S0:Env) (σ':St) (kn:Nat->Prop) (c9:Nat->Option Loc) (a:Act) (w:World) (id:Nat) (D:Option Nat) (jh:Loc->Nat->Option Loc) (o:fK):Prop:=
 ∀(l:Loc) (w':World),(l= .nil\/ ∃g,l.atG g/\(D=some g\/(w.heap.size<=g/\g<w'.heap.size)))->w.heap.size<=w'.heap.size->w'.os=w.os->w'.tape=w.tape->w'.output=w.output->Cs w w'->
  (∀k,k<w.heap.size->D≠some k->w'.heap[k]? =w.heap[k]?)->
  ((∀{d v},du (df w base S0 c9) d v->du (df w' base S0 (jh l)) d v)->iG w' (df w' base S0 (jh l)) (fun i=>kn i\/i=id) (jh l) (some l) o)->
  R base w0 S0 σ' (fun i=>kn i\/i=id) (jh l) a w'
theorem R.P8 (r:R base w0 S0 σ kn c9 a w) {id q:Nat} {o:fK} (fS: ¬kn id) {D:Option Nat} (hq: ∀l,c9 q=some l->l= .nil\/ ∃g,l.atG g) (hD: ∀g,D=some g-> ∃l,c9 q=some l/\l.atG g):
 R8 base w0 S0 ((σ.setObj q none).setObj id (some o)) kn c9 a w id D (fun l i=>if i=id then some l else if i=q then none else c9 i) o:=by
 intro l w' hl fq QF BY qw Nr hk ho
 show R base w0 S0 _ _ (fun i=>if i=id then some l else if i=q then none else c9 i) a w'
 have oR:=r.fresh fS
 refine r.step (fun k=>D=some k) (fun i=>i=id\/i=q) fq QF BY qw (fun k h1 h2=>hk k h1 h2) (fun k h=> ?_) (fun _ h=> .inl h) (fun i h=> ?_) (fun i v h hi e=> ?_) (fun i l' g h e hg=> ?_) (fun i l' h hi e=> ?_) rfl rfl rfl (fun _=>rfl) (fun i h=> ?_)
  (fun _ _ mC i o' h e=> ?_) (fun i l' h e=> ?_) (fun i i' l1 l2 g h h' e e' g1 g2=> ?_) (fun B hB i g bs h e=> ?_) Nr
 ·obtain ⟨l1,h,h3⟩:=hD k h
  exact ⟨q,_,.inr rfl,h,(Loc.zn h3).2 rfl⟩
 ·rw [not_or] at h
  rw [ae h.1,ae h.2]
 ·rcases h with rfl|rfl
  ·exact absurd hi fS
  ·rcases hq _ e with h|⟨g,⟨C,h⟩|⟨o,C,h⟩⟩<;>cases h
 ·by_cases e1:i=id
  ·rw [ah e1] at e
   cases e
   rcases hl with rfl|⟨g',sI,h1|h1⟩
   ·exact hg.elim
   ·obtain rfl:=(Loc.zn sI).1 hg
    obtain ⟨l1,h2,h3⟩:=hD _ h1
    exact .inl ⟨q,_,.inr rfl,h2,(Loc.zn h3).2 rfl⟩
   ·obtain rfl:=(Loc.zn sI).1 hg
    exact .inr h1
  ·have e2:i=q:=h.resolve_left e1
   rw [ae e1,ah e2] at e
   cases e
 ·have e1:i≠id:=fun e'=>fS (e'▸hi)
  rw [ae e1,ah (h.resolve_left e1)] at e
  cases e
 ·rw [not_or] at h
  rw [St.dE,ae (fun e=>h.1 e.symm),St.dE,ae (fun e=>h.2 e.symm)]
 ·by_cases e1:i=id
  ·subst e1
   rw [St.dE,ah rfl,aa] at e
   subst e
   exact ⟨.inr rfl,by simpa using ho mC⟩
  ·rw [St.dE,ae (fun e'=>e1 e'.symm),St.dE,ah (h.resolve_left e1).symm] at e
   cases e
 ·by_cases e1:i=id
  ·exact ⟨o,by rw [St.dE,ah e1.symm]⟩
  ·rw [ae e1,ah (h.resolve_left e1)] at e
   cases e
 ·by_cases e1:i=id
  ·by_cases e2:i'=id
   ·rw [e1,e2]
   ·rw [ae e2,ah (h'.resolve_left e2)] at e';cases e'
  ·rw [ae e1,ah (h.resolve_left e1)] at e;cases e
 ·by_cases e1:i=id
  ·rw [ah e1] at e
   cases e
   rcases hl with h|⟨g',⟨C,h⟩|⟨o,C,h⟩,_⟩<;>cases h
  ·rw [ae e1,ah (h.resolve_left e1)] at e;cases e
theorem BN {t ty e:TypeId} {i:TypeInfo} (ht:P.underlying t=some (.slice e)) (hi:P.info? e=some i)
 {g o n C:Nat} {cur:Array Value} {T:TypeId} (hg:w.heap[g]? =some (.cells cur T (0,0))) {A:Option Addr} {m c:Nat} {news:List Value}
 (hf:(Builtin.firstCells i.size m (.slice A m c)).run P w= .ok news.toArray w) (h1: ∀u∈news,fc u=true)
 (mT:n+m<=C) (E1:o+n*i.size+news.length<=cur.size):
 (Builtin.append_ #[t,t] ty #[.slice (some ⟨g,o,none⟩) n C,.slice A m c]).run P w=
   .ok (.slice (some ⟨g,o,none⟩) (n+m) C) (w.setRow g (cur.toList.take (o+n*i.size)++news++cur.toList.drop (o+n*i.size+news.length)).toArray):=by
 have pF:=run_storeCells_at P g (o+n*i.size) T news 0 cur w hg (by simpa using E1) (fun u hu=>by rw [<-EI];exact h1 u hu)
 simp only [bU] at pF
 simp [Builtin.append_,run_underlying ht,sizeOf,typeInfo,hi,Builtin.lenOf,mT,hf,Addr.add_lit,pF]
theorem Dl {rd:Rd} {n o:Nat} (s:Nat) (de:List (Nat->DV)) (jg:de.length=s) (cv:Array Value) (hold: ∀(i j:Nat) (f:Nat->DV),i<n->de[j]? =some f-> ∃u,cv[o+(i*s+j)]? =some u/\fc u=true/\du rd (f i) u)
 (i j:Nat) (f:Nat->DV) (hi:i<n) (hf:de[j]? =some f): ∃u,((cv.toList.drop o).take (n*s))[i*s+j]? =some u/\fc u=true/\du rd (f i) u:=by
 obtain ⟨u,hu,ho,hr⟩:=hold i j f hi hf
 have hj:j<s:=by rw [<-jg];exact (aj.1 hf).1
 have dK:i*s+j<n*s:=by
  have:i*s+s<=n*s:=by rw [<-cq];exact ba _ hi
  omega
 exact ⟨u,by rw [bG,ah dK,bu,bt];exact hu,ho,hr⟩
theorem Iv (r:R base w0 S0 σ kn c9 a w) {id:Nat} {D:Option Nat} {jh:Loc->Nat->Option Loc} (HG: ∀l,jh l id=some l) {t ty e:TypeId} {i:TypeInfo} {z:Value} {s Ih n m:Nat} (ht:P.underlying t=some (.slice e)) (hi:P.info? e=some i) (hz:i.zero=some z)
 (hs:i.size=s) (On:i.bytes=Ih+1) (Sj:z.cells.size=s) (hs0:0<s) {de jE F:List (Nat->DV)} (hF:F.length=s) (jg:de.length=s)
 (mv:R8 base w0 S0 σ' kn c9 a w id D jh (.ph (n+m) F))
 {v:Value} (HD:(v= .slice none 0 0/\n=0)\/ ∃g o C cv T,v= .slice (some ⟨g,o,none⟩) n C/\n<=C/\D=some g/\w.heap[g]? =some (.cells cv T (0,0))/\o+C*s<=cv.size/\
   ∀(i j:Nat) (f:Nat->DV),i<n->de[j]? =some f-> ∃u,cv[o+(i*s+j)]? =some u/\fc u=true/\du (df w base S0 c9) (f i) u)
 {A:Option Addr} {c:Nat} {news:List Value} (nk:news.length=m*s) (oR:A=none->m=0) (eZ: ∀ad,A=some ad-> ∀j u,news[j]? =some u->w.cell? (ad.add j)=some u) (jR: ∀u∈news,fc u=true)
 (yD: ∀(i j:Nat) (f:Nat->DV),i<m->jE[j]? =some f-> ∃u,news[i*s+j]? =some u/\du (df w base S0 c9) (f i) u)
 (Kc: ∀(rd:Rd) (i j:Nat) (f:Nat->DV),i<n+m->F[j]? =some f->(i<n-> ∃c,de[j]? =some c/\ ∀u,du rd (c i) u->du rd (f i) u)/\(n<=i-> ∃d,jE[j]? =some d/\ ∀u,du rd (d (i - n)) u->du rd (f i) u))
 (tJ:(n+m)*(Ih+1)<=140737488355328):
 ∃v' w',(Builtin.append_ #[t,t] ty #[v,.slice A m c]).run P w= .ok v' w'/\ ∃eL dk,R base w0 S0 σ' eL dk a w'/\
  Rel (df w' base S0 dk) eL dk (.row s id 0 (n+m)) v'/\ ∀i,eL i->kn i\/i=id:=by
 subst hs
 have hle63:n+m<=140737488355328:=aV (Nat.le_mul_of_pos_right _ (Nat.succ_pos _)) tJ
 -- the new row in a new block
 have grown: ∀(Dm:Nat) (sD:List Value),Dm<n+m->sD.length=n*i.size->
  (∀(i' j:Nat) (f:Nat->DV),i'<n->de[j]? =some f-> ∃u,sD[i'*i.size+j]? =some u/\fc u=true/\du (df w base S0 c9) (f i') u)->
  (Builtin.append_ #[t,t] ty #[v,.slice A m c]).run P w= .ok (.slice (some ⟨w.heap.size,0,none⟩) (n+m) (grownCap w (n+m) Dm e)) (w.drew.alloc (.cells (sD.toArray++news.toArray++Builtin.zeroCells z.cells (grownCap w (n+m) Dm e - (n+m))) e))->
  ∃v' w',(Builtin.append_ #[t,t] ty #[v,.slice A m c]).run P w= .ok v' w'/\ ∃eL dk,R base w0 S0 σ' eL dk a w'/\
  Rel (df w' base S0 dk) eL dk (.row i.size id 0 (n+m)) v'/\ ∀i,eL i->kn i\/i=id:=by
  intro Dm sD ho lS hold ef
  have iy:=grownCap_ge w (n+m) Dm e
  refine ⟨_,_,ef,_,_,mv (.at_ w.heap.size (grownCap w (n+m) Dm e)) _ (.inr ⟨_,.inl ⟨_,rfl⟩,.inr ⟨af _,by rw [World.size_alloc];exact Nat.lt_succ_self _⟩⟩) (by rw [World.size_alloc];exact Nat.le_succ _) rfl rfl rfl (fun _=>Nat.le_succ _) (fun k hk _=>World.yv w.drew _ k hk)
   (fun mono=> .inr ⟨_,0,_,_,e,.inr ⟨rfl,rfl⟩,heap_alloc_new w.drew _,?_,iy,fun i' j f pH hf=> ?_⟩),.row (.inr rfl) ⟨_,_,rfl,fun h=>by cases h⟩ (fun h=> ?_) (fun g C h=> ?_) (fun g o C h=>by rw [HG] at h;cases h),fun _ h=>h⟩
  ·refine Nat.le_of_eq ?_
   simp only [Array.size_append,cc,size_zeroCells,Sj,lS,nk,<-cE,hF,aE]
   congr 1;omega
  ·obtain ⟨u,hu,YJ,hr⟩:=uE (rest:=(Builtin.zeroCells z.cells (grownCap w (n+m) Dm e - (n+m))).toList) hF lS hold yD jR (Kc _) i' j f pH hf
   refine ⟨u,?_,YJ,mono hr⟩
   rw [<-hu,aE]
   congr 1
   apply cD
   simp [cz]
  ·rw [HG] at h;cases h
  ·rw [HG] at h
   simp only [aa,Loc.at_.injEq] at h
   obtain ⟨rfl,rfl⟩:=h
   exact .inl ⟨by simp,by omega⟩
 rcases HD with ⟨rfl,rfl⟩|⟨g,o,C,cv,T,rfl,QG,QU,hg,fq,hold⟩
 ·by_cases hm:m=0
  ·subst hm
   have B2:news=[]:=cA (by simpa using nk)
   subst B2
   have hf:=kH (P:=P) (w:=w) (c:=c) nk oR eZ
   refine ⟨.slice none 0 0,w,?_,_,_,mv .nil w (.inl rfl) (af _) rfl rfl rfl (fun _=>af _) (fun _ _ _=>rfl) (fun _=> .inl ⟨rfl,rfl⟩),.row (.inr rfl) ⟨_,_,rfl,fun _=>rfl⟩ (fun _=>⟨rfl,rfl,rfl⟩) (fun g C h=> ?_) (fun g o C h=>by rw [HG] at h;cases h),fun _ h=>h⟩
   ·simp [Builtin.append_,run_underlying ht,sizeOf,typeInfo,hi,Builtin.lenOf,hf]
   ·rw [HG] at h;cases h
  ·cases A with
   |none=>exact absurd (oR rfl) hm
   |some ad=>
    have ef:=run_append_nil (P:=P) w t ty e i z ht hi hz ad m c news nk (eZ ad rfl) (by omega) (by omega) (by rw [On];rw [aE] at tJ;omega)
    refine grown 0 [] (by omega) (by simp) (fun i' j f h=>by omega) ?_
    simpa using ef
 ·by_cases mT:n+m<=C
  ·have E1:o+n*i.size+news.length<=cv.size:=by
    have:=ba i.size mT
    rw [cE] at this
    rw [nk];omega
   have hf:=kH (P:=P) (w:=w) (c:=c) nk oR eZ
   have ef:=BN (P:=P) (ty:=ty) ht hi hg hf jR mT E1
   refine ⟨_,_,ef,_,_,mv (.sub g o C) _ (.inr ⟨_,.inr ⟨_,_,rfl⟩,.inl QU⟩) (by simp) rfl rfl rfl (fun _=>af _) (fun k _ hk=>setRow_other w g k _ fun e=>hk (e▸QU))
    (fun mono=> .inr ⟨g,o,C,_,T,.inl rfl,setRow_heap w g cv _ T _ hg,?_,mT,fun i' j f pH lT=> ?_⟩),.row (.inr rfl) ⟨_,_,rfl,fun h=>by cases h⟩ (fun h=> ?_) (fun g' C' h=>by rw [HG] at h;cases h) (fun g' o' C' h=> ?_),fun _ h=>h⟩
   ·simp only [cc,aO,aQ,bq,bP,hF];omega
   ·have yE:((cv.toList.drop o).take (n*i.size)).length=n*i.size:=by rw [aQ,bq,bP];omega
    obtain ⟨u,hu,YJ,hr⟩:=uE (rest:=cv.toList.drop (o+n*i.size+news.length)) hF yE (Dl i.size de jg cv hold) yD jR (Kc _) i' j f pH lT
    refine ⟨u,?_,YJ,mono hr⟩
    rw [cJ] at hu ⊢
    have ho:(cv.toList.take o).length=o:=by rw [aQ,bP];omega
    have e:cv.toList.take (o+n*i.size)++news++cv.toList.drop (o+n*i.size+news.length)=cv.toList.take o++((cv.toList.drop o).take (n*i.size)++(news++cv.toList.drop (o+n*i.size+news.length))):=by rw [List.take_add];simp [cz]
    rw [e,a7 (by omega),ho,Nat.add_sub_cancel_left]
    exact hu
   ·rw [HG] at h;cases h
   ·rw [HG] at h
    simp only [aa,Loc.sub.injEq] at h
    obtain ⟨rfl,rfl,rfl⟩:=h
    exact .inl ⟨by simp,by omega⟩
  ·cases A with
   |none=>
    have:=oR rfl
    omega
   |some ad=>
    have E1:o+n*i.size<=cv.size:=by
     have:=ba i.size QG
     omega
    have yE:((cv.toList.drop o).take (n*i.size)).length=n*i.size:=by rw [aQ,bq,bP];omega
    have ef:=run_append_grow (P:=P) w t ty e i z ht hi hz ⟨g,o,none⟩ n C ((cv.toList.drop o).take (n*i.size)) yE (fun j u hu=>by
     rw [bG] at hu
     split at hu
     ·rw [bu,bt] at hu
      rw [eE]
      simp only [World.cell?,hg,hu]
      rfl
     ·cases hu) ad m c news nk (eZ ad rfl) (by omega) (by omega) (growslice_fits (by omega) (by rw [On];exact tJ))
    exact grown C _ (by omega) yE (Dl i.size de jg cv hold) ef
end
end Go.Abs
end
