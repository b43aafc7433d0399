/- Contracts and what they stand on. -/
import Derived.Test.YtoinjphpfpklmaaGreatDoorAbsH
import Derived.Laws.Tables
import Derived.Laws.AppendOwn
set_option linter.unusedVariables false
set_option linter.unusedSimpArgs false
section
namespace Go.Abs
open Go.RowKit
theorem D8 (off:Nat): ∀(l:List Value) (k:Nat) (cells:Array Value),off+k+l.length<=cells.size->
 (l.zipIdx k).foldl (fun cs (x:Value×Nat)=>cs.setIfInBounds (off+x.2) x.1) cells=(cells.toList.take (off+k)++(l++cells.toList.drop (off+k+l.length))).toArray
 |[],k,cells,_=>by simp
 |v::l,k,cells,h=>by
  simp only [aH] at h
  simp only [List.zipIdx_cons,List.foldl_cons]
  rw [D8 off l (k+1) _ (by simp;omega)]
  have e:=list_seg_step cells.toList (off+k) v l (by simp;omega)
  simp only [cA,aT] at e
  congr 1
  rw [Array.toList_setIfInBounds]
  simp only [aH]
  rw [show off+(k+1)=off+k+1 by omega]
  exact e
def Cells (rd:Rd) (kn:Nat->Prop) (di:Nat->Option Loc) (cs:List DV) (vs:Array Value):Prop:=
 vs.size=cs.length/\(∀(j:Nat) (d:DV) (u:Value),cs[j]? =some d->vs[j]? =some u->Rel rd kn di d u)/\ ∀u∈vs.toList,eL u=true
inductive pG (rd:Rd) (kn:Nat->Prop) (di:Nat->Option Loc):List (Nat×DV)->List (Nat×Value)->Prop
 |nil:pG rd kn di [] []
 |cons {i:Nat} {d:DV} {v:Value} {r:List (Nat×DV)} {q:List (Nat×Value)} (h:Rel rd kn di d v) (t:pG rd kn di r q):pG rd kn di ((i,d)::r) ((i,v)::q)
theorem Cells.seg {rd:Rd} {kn:Nat->Prop} {di:Nat->Option Loc} {cs ds:List DV} {vs:Array Value} {us:List Value} {off:Nat} (h:Cells rd kn di cs vs) (hl:off+ds.length<=cs.length)
 (hs:us.length=ds.length) (hr: ∀(j:Nat) (d:DV) (u:Value),ds[j]? =some d->us[j]? =some u->Rel rd kn di d u) (h1: ∀u∈us,eL u=true):
 Cells rd kn di (cs.take off++(ds++cs.drop (off+ds.length))) (vs.toList.take off++(us++vs.toList.drop (off+us.length))).toArray:=by
 obtain ⟨hz,hrel,ho⟩:=h
 refine ⟨by simp;omega,fun k d u hd hu=> ?_,fun u hu=> ?_⟩
 ·rw [cy,zh _ _ _ _ (by simp;omega)] at hu
  rw [zh _ _ _ _ hl] at hd
  rw [hs] at hu
  split at hd
  ·rename_i hk;rw [ag hk] at hu;exact hrel k d u hd (by simpa using hu)
  ·rename_i hk
   rw [ab hk] at hu
   split at hd
   ·rename_i oo;rw [ag oo] at hu;exact hr _ d u hd hu
   ·rename_i oo;rw [ab oo] at hu;exact hrel k d u hd (by simpa using hu)
 ·simp only [aO] at hu
  rcases hu with hu|hu|hu
  ·exact ho _ (List.mem_of_mem_take hu)
  ·exact h1 _ hu
  ·exact ho _ (List.mem_of_mem_drop hu)
theorem ur {rd:Rd} {kn:Nat->Prop} {di:Nat->Option Loc} {place:Nat->Option (Nat×Nat)}: ∀{parts:List (Nat×DV)} {gC:List (Nat×Value)} {zs cs:List DV} {vs:Array Value},
 tA place zs parts=some cs->Cells rd kn di zs vs->pG rd kn di parts gC-> ∃us,Instr.fill place vs gC=some us/\Cells rd kn di cs us:=by
 intro parts
 induction parts with
 |nil=>
  intro gC zs cs vs h hc hp
  cases hp
  simp only [tA,aa] at h
  subst h
  exact ⟨vs,rfl,hc⟩
 |cons x parts ih=>
  intro gC zs cs vs h hc hp
  cases hp with
  |cons hr ht=>
   rename_i i d v q
   simp only [tA] at h
   split at h
   ·rename_i off size ds NP Wo
    obtain ⟨hs,hrel,ho⟩:=hr.cells Wo
    cases hb:(Nat.beq ds.length size&&Nat.ble (off+ds.length) zs.length)
    ·simp [hb] at h
    ·simp only [hb,ao] at h
     simp only [an] at hb
     obtain rfl:=af hb.1
     have hle:=aC hb.2
     have hz:=hc.1
     have hseg:=Cells.seg (us:=v.cells.toList) hc hle (by simpa using hs) (fun j d u hd hu=>hrel j d u hd (by simpa using hu)) ho
     obtain ⟨us,h1,h2⟩:=ih h hseg ht
     refine ⟨us,?_,h2⟩
     simp only [Instr.fill,NP]
     have NS: ¬((decide (v.cells.size≠ds.length)||decide (off+v.cells.size>vs.size))=true):=by
      simp [hs];omega
     rw [ab NS]
     have hf:=D8 off v.cells.toList 0 vs (by simp [hs];omega)
     simp only [bV] at hf
     rw [<-h1,<-hf,<-Array.toList_zipIdx,Array.foldl_toList]
   ·cases h
theorem Ag {rd:Rd} {v:Value} {d:DV}: ∀{cs:List DV} {k i:Nat},k<=i->cs[i - k]? =some d->dA rd d v->dA rd (TR k cs i) v
 |[],k,i,_,h,_=>by simp at h
 |[c],k,i,hk,h,hr=>by
  have:i - k=0:=by
   have:=(ai.1 h).1
   simp at this;omega
  rw [this] at h
  simp at h;subst h;exact hr
 |c::c2::r,k,i,hk,h,hr=>by
  show dA rd (th (decide (i=k)) c (TR (k+1) (c2::r) i)) v
  refine eJ ⟨fun e=> ?_,fun e=> ?_⟩
  ·have e:i=k:=by simpa using e
   rw [e,da] at h
   simp at h;subst h;exact hr
  ·have e:i≠k:=by simpa using e
   refine Ag (by omega) ?_ hr
   rw [show i - k=(i - (k+1))+1 by omega,aJ] at h
   exact h
theorem vw {cs:List DV} {i:Nat} {d:DV} (h:cs[i]? =some d) {rd:Rd} {v:Value} (hr:dA rd d v):dA rd (EZ cs i) v:=by
 match cs,h with
 |[],h=>simp at h
 |[d'],h=>
  match i,h with
  |0,h=>simp at h;subst h;exact hr
  |i+1,h=>simp at h
 |c1::c2::r,h=>
  simp only [EZ]
  generalize c1::c2::r=cs at h
  cases hl:ik cs with
  |some q=>
   obtain ⟨k,l⟩:=q
   have:=lM hl
   subst this
   rw [aw] at h
   cases Rj:l[i]? with
   |none=>simp [Rj] at h
   |some n=>
    simp only [Rj,aA,aa] at h
    subst h
    simpa [List.getD,Rj] using hr
  |none=>exact Ag (aq i) (by simpa using h) hr
section
variable {P:Program} {base:Nat} {w0 w:World} {S0:Env} {σ:St} {kn:Nat->Prop} {di:Nat->Option Loc} {a:Act}
theorem nZ {t:TypeId} {z:List DV} (h:n3 P t=some z): ∃i v,P.info? t=some i/\i.zero=some v/\ ∀(rd:Rd) (kn:Nat->Prop) (di:Nat->Option Loc),Cells rd kn di z v.cells:=by
 unfold n3 at h
 split at h
 ·rename_i i hi
  split at h
  ·rename_i v hz
   exact ⟨i,v,hi,hz,fun rd kn di=>Rel.cells (.val v) h⟩
  ·cases h
 ·cases h
theorem CH {t:TypeId} {parts:List (Nat×DV)} {gC:Array (Nat×Value)} {e:fg} (he:Fw P t parts=e) (dr:dw e.vc)
 (hp:pG (dq w base S0 di) kn di parts gC.toList):Still P base S0 kn di w (Instr.build t gC) e:=by
 unfold Fw at he
 split at he
 ·rename_i fs z hu hz
  obtain ⟨it,v,hit,SU,Wp⟩:=nZ hz
  split at he
  ·rename_i ps D2
   split at he
   ·rename_i cs hf
    subst he
    obtain ⟨us,h1,h2,h3,_⟩:=ur hf (Wp _ _ _) hp
    refine ⟨rfl,.agg us,?_,Rel.nd h2 h3⟩
    refine run_build w t gC us ?_
    unfold Program.built
    unfold placesOf at D2
    simp only [hit,hu,SU,D2]
    simpa using h1
   ·subst he;exact dn dr
  ·subst he;exact dn dr
 ·rename_i n el z hu hz
  obtain ⟨it,v,hit,SU,Wp⟩:=nZ hz
  split at he
  ·rename_i s hs
   split at he
   ·rename_i cs hf
    subst he
    obtain ⟨us,h1,h2,h3,_⟩:=ur hf (Wp _ _ _) hp
    refine ⟨rfl,.agg us,?_,Rel.nd h2 h3⟩
    refine run_build w t gC us ?_
    unfold iv at hs
    split at hs
    ·rename_i ie hie
     cases hs
     unfold Program.built
     simp only [hit,hu,SU,hie]
     exact h1
    ·cases hs
   ·subst he;exact dn dr
  ·subst he;exact dn dr
 ·subst he;exact dn dr
theorem HN {α:Type} (z:List α): ∀(n k:Nat),k<n*z.length->(List.flatten (List.replicate n z))[k]? =z[k%z.length]?
 |0,k,h=>by simp at h
 |n+1,k,h=>by
  rw [List.replicate_succ,List.flatten_cons]
  by_cases hk:k<z.length
  ·rw [aW hk,Nat.mod_eq_of_lt hk]
  ·rw [bk (by omega),HN z n (k - z.length) (by rw [bY] at h;omega),<-Nat.mod_eq_sub_mod (by omega)]
theorem tS (r:R base w0 S0 σ kn di a w) {id:Nat} (fJ: ¬kn id) {T:TypeId} {cv:Array Value} {len s:Nat} {dp:List (Nat->DV)} (hs:dp.length=s) (hz:cv.size=len*s)
 (hr: ∀(i j:Nat) (f:Nat->DV),i<len->dp[j]? =some f-> ∃u,cv[i*dp.length+j]? =some u/\eL u=true/\dA (dq w base S0 di) (f i) u) {sm:Sem Value}
 (dN:sm.run P w= .ok (.slice (some ⟨w.heap.size,0,none⟩) len len) (w.alloc (.cells cv T))):
 ma P base w0 S0 σ kn a w id sm { d:= .row s id 0 len,hw:=[(id,some (.row len dp))] }:=by
 have q:=r.new (C:=len) (T:=T) fJ (o:= .row len dp) (cv:=cv) (.inr ⟨_,_,rfl⟩) (.inr ⟨w.heap.size,len,cv,T,rfl,heap_alloc_new w _,by rw [hz,hs],ae _,hr⟩)
 refine ⟨_,_,dN,_,_,q,.row (.inr rfl) ⟨_,_,rfl,fun h=>by cases h⟩ (fun hb=> ?_) (fun g C hb=> ?_) (fun g o C hb=>by simp at hb),fun i hi=>hi⟩
 ·simp at hb
 ·simp only [ba,aa,Loc.at_.injEq] at hb
  obtain ⟨rfl,rfl⟩:=hb
  exact .inl (by simp)
theorem ns (r:R base w0 S0 σ kn di a w) {id:Nat} (fJ: ¬kn id) {t:TypeId} {len:Nat} {parts:List (Nat×DV)} {gC:Array (Nat×Value)} {e:fg} (he:iR P id t len parts=e) (dr:dw e.vc)
 (hp:pG (dq w base S0 di) kn di parts gC.toList):ma P base w0 S0 σ kn a w id (Instr.buildSlice t len gC) e:=by
 unfold iR at he
 split at he
 ·rename_i el hu
  split at he
  ·rename_i s z hs hz
   obtain ⟨it,v,hit,SU,Wp⟩:=nZ hz
   cases hb:(Nat.beq z.length s&&Nat.ble (len*s) 16777216)
   ·simp only [hb,ar] at he;subst he;exact dn dr
   ·simp only [hb,ao] at he
    simp only [an] at hb
    obtain rfl:=af hb.1
    have hle:=aC hb.2
    split at he
    ·rename_i cs hf
     have main: ∃us:Array Value,us.size=cs.length/\cs.length=len*z.length/\(∀(k:Nat) (d:DV) (u:Value),cs[k]? =some d->us[k]? =some u->Rel (dq w base S0 di) kn di d u)/\(∀u∈us.toList,eL u=true)/\(Instr.buildSlice t len gC).run P w= .ok (.slice (some ⟨w.heap.size,0,none⟩) len len) (w.alloc (.cells us el)):=by
      have zz:v.cells.size=z.length:=(Wp (fun _ _=>True) (fun _=>True) (fun _=>none)).1
      have hzero:(zeroValue el).run P w= .ok v w:=by simp [zeroValue,typeInfo,hit,SU]
      have hinit:Cells (dq w base S0 di) kn di (List.flatten (List.replicate len z)) ((Array.range (len*z.length)).map (v.cells[·%v.cells.size]!)):=by
       obtain ⟨z1,z2,z3⟩:=Wp (dq w base S0 di) kn di
       have Kl: ∀k,k<len*z.length->k%z.length<z.length:=fun k hk=>Nat.mod_lt _ (by
        rcases cg z.length with h|h
        ·rw [h] at hk;simp at hk
        ·exact h)
       refine ⟨by simp,fun k d u hd hu=> ?_,fun u hu=> ?_⟩
       ·have hk:k<len*z.length:=by
         have:=(aF.1 hu).1
         simpa using this
        rw [HN z len k hk] at hd
        refine z2 (k%z.length) d u hd ?_
        have dR:k%z.length<v.cells.size:=by rw [zz];exact Kl k hk
        simp [hk,z1] at hu
        rw [<-hu];simp [dR]
       ·obtain ⟨k,hk,rfl⟩:=cP.1 hu
        have kE:k<len*z.length:=by simpa using hk
        have dR:k%z.length<v.cells.size:=by rw [zz];exact Kl k kE
        refine z3 _ ?_
        simp [z1]
        rw [getElem!_pos v.cells _ dR]
        exact Array.getElem_mem _
      obtain ⟨us,h1,h2,h3,h4⟩:=ur hf hinit hp
      have hlen:cs.length=len*z.length:=by
       have: ∀{parts:List (Nat×DV)} {zs cs:List DV},tA (fun i=>some (i*z.length,z.length)) zs parts=some cs->cs.length=zs.length:=by
        intro parts
        induction parts with
        |nil=>intro zs cs h;simp only [tA,aa] at h;rw [h]
        |cons x parts ih=>
         intro zs cs h
         obtain ⟨i,d⟩:=x
         simp only [tA] at h
         split at h
         ·rename_i off size ds NP Wo
          cases hb:(Nat.beq ds.length size&&Nat.ble (off+ds.length) zs.length)
          ·simp [hb] at h
          ·simp only [hb,ao] at h
           simp only [an] at hb
           have:=aC hb.2
           rw [ih h];simp;omega
         ·cases h
       rw [this hf];simp
      have dN:(Instr.buildSlice t len gC).run P w= .ok (.slice (some ⟨w.heap.size,0,none⟩) len len) (w.alloc (.cells us el)):=by
       have hg: ¬(len*z.length>2^24):=by omega
       by_cases h0:len*z.length=0
       ·have Ra:(Array.range (len*z.length)).map ((#[]:Array Value)[·%(#[]:Array Value).size]!)=(Array.range (len*z.length)).map (v.cells[·%v.cells.size]!):=by
         rw [h0];simp
        have h1':=h1
        rw [<-Ra] at h1'
        simp only [Instr.buildSlice,Sem.run_bind,run_underlying hu,Result.andThen_ok,fM hs,ab hg,ag h0,Sem.run_pure,h1']
        simp [newRow]
       ·simp only [Instr.buildSlice,Sem.run_bind,run_underlying hu,Result.andThen_ok,fM hs,ab hg,ab h0,hzero,Sem.run_pure,h1]
        simp [newRow]
      exact ⟨us,h2,hlen,h3,h4,dN⟩
     obtain ⟨us,h2,hlen,h3,h4,dN⟩:=main
     cases iH:DV.closed.go cs
     ·simp only [iH,ar] at he
      cases h1:Nat.beq z.length 1
      ·simp only [h1,ar] at he;subst he;exact dn dr
      ·simp only [h1,ao] at he
       subst he
       have q:=r.new (C:=len) (T:=el) fJ (o:= .box cs) (cv:=us) (.inl ⟨_,rfl⟩) ⟨w.heap.size,len,us,el,rfl,heap_alloc_new w _,h2,h3,h4⟩
       refine ⟨_,_,dN,_,_,q,.row (.inr rfl) ⟨_,_,rfl,fun h=>by cases h⟩ (fun hb=> ?_) (fun g C hb=> ?_) (fun g o C hb=>by simp at hb),fun i hi=>hi⟩
       ·simp at hb
       ·simp only [ba,aa,Loc.at_.injEq] at hb
        obtain ⟨rfl,rfl⟩:=hb
        exact .inl (by simp)
     ·simp only [iH,ao] at he
      split at he
      ·subst he
       refine tS r fJ (by simp) (by rw [h2,hlen]) (fun i j f hi=>by omega) dN
      ·subst he
       refine tS r fJ (by simp) (by rw [h2,hlen]) (fun i j f hi hj=> ?_) dN
       have hjs:j<z.length:=by
        have:=(ai.1 hj).1
        simpa using this
       rw [aw,List.getElem?_range hjs] at hj
       simp only [aA,aa] at hj
       subst hj
       simp only [cp,List.length_range]
       have kq:i*z.length+z.length<=cs.length:=by
        rw [hlen,<-bY];exact aK _ hi
       have dR:i*z.length+j<us.size:=by rw [h2];omega
       have hu2:us[i*z.length+j]? =some us[i*z.length+j]:=az dR
       have xC:i*z.length+j<cs.length:=by omega
       have Rs:cs[i*z.length+j]? =some cs[i*z.length+j]:=ak xC
       refine ⟨_,hu2,h4 _ (bw.2 (Array.getElem_mem _)),?_⟩
       have Zf:(len - 1)*z.length+j<cs.length:=by
        have:(len - 1)*z.length+z.length=len*z.length:=by rw [<-bY];congr 1;omega
        omega
       have S5:=sK z.length j len cs i hi Zf
       rw [Rs] at S5
       exact vw S5 ((h3 _ _ _ Rs hu2).close (fH iH _ (aD Rs)))
    ·subst he;exact dn dr
  ·subst he;exact dn dr
 ·subst he;exact dn dr
end
end Go.Abs
end
section
namespace Go.Abs
open Go.RowKit
section
variable {P:Program} {base:Nat} {w0 w w':World} {S0:Env} {σ σ':St} {kn:Nat->Prop} {di:Nat->Option Loc} {a:Act}
theorem vT (r:R base w0 S0 σ kn di a w) {t:TypeId} {x i:DV} {v vi:Value} {e:fg} (he:ky P σ.obj t x i=e) (dr:dw e.vc)
 (hv:Rel (dq w base S0 di) kn di x v) (hi:Rel (dq w base S0 di) kn di i vi):Still P base S0 kn di w (Instr.indexAt t v vi) e:=by
 unfold ky at he
 split at he
 ·rename_i el k q hu
  cases hi
  split at he
  ·rename_i s s' id off len eW
   cases hb:Nat.beq s s'
   ·simp only [hb,ar] at he
    cases gJ:(Nat.beq s' 0&&(Nat.beq s 1&&Nat.beq off 0))
    ·simp only [gJ,ar] at he;subst he;exact dn dr
    ·simp only [gJ,ao] at he
     subst he
     simp only [an] at gJ
     obtain ⟨e1,e2,e3⟩:=gJ
     obtain rfl:=af e1
     obtain rfl:=af e2
     obtain rfl:=af e3
     have hk:0<=q/\q<(len:Int):=dr.one
     cases hv with
     |row kr hp h0 h1 h2=>
      obtain ⟨p,c,rfl,Zi⟩:=hp
      cases p with
      |none=>have:=Zi rfl;omega
      |some ad=>
       refine ⟨rfl,.pointer (some (ad.add (q.toNat*1))),?_,.ptr kr ⟨_,rfl⟩ fun g' C' yA=> ?_⟩
       ·simp [Instr.indexAt,run_underlying hu,asIntOf,hk,fM eW]
       ·rcases h1 g' C' yA with ⟨e,_⟩|⟨h,_⟩
        ·simp only [Value.slice.injEq,aa] at e
         rw [e.1,eF]
         simp
        ·omega
   ·simp only [hb,ao] at he
    subst he
    obtain rfl:=af hb
    have hk:0<=q/\q<(len:Int):=dr.one
    cases hv with
    |row kr hp h0 h1 h2=>
     obtain ⟨p,c,rfl,Zi⟩:=hp
     cases p with
     |none=>have:=Zi rfl;omega
     |some ad=>
      refine ⟨rfl,.pointer (some (ad.add (q.toNat*s))),?_,.ka kr ⟨_,rfl⟩ (fun g' C' yA=> ?_) (fun g' o' C' yA=> ?_)⟩
      ·simp [Instr.indexAt,run_underlying hu,asIntOf,hk,fM eW]
      ·rcases h1 g' C' yA with ⟨e,_⟩|⟨_,e⟩
       ·simp only [Value.slice.injEq,aa] at e
        rw [e.1,eF,FL,cd]
        rfl
       ·omega
      ·rcases h2 g' o' C' yA with ⟨e,_⟩|⟨_,e⟩
       ·simp only [Value.slice.injEq,aa] at e
        rw [e.1,eF,FL,cd]
        simp only [Value.pointer.injEq,aa,Addr.mk.injEq,ck,b8]
        omega
       ·omega
  ·rename_i s n dp eW
   cases hb:Nat.beq dp.length s
   ·simp only [hb,ar] at he;subst he;exact dn dr
   ·simp only [hb,ao] at he
    subst he
    obtain rfl:=af hb
    have hk:0<=q/\q<(n:Int):=dr.one
    cases hv with
    |dt U hc ha hn NR hr=>
     rename_i A c
     cases A with
     |none=>exact absurd rfl (hn (by omega))
     |some ad=>
      refine ⟨rfl,.pointer (some (ad.add (q.toNat*dp.length))),?_,.dV (fun j=>U q.toNat j) (fun j d hd=> ?_) (fun j d hd=> ?_) fun j d hd=> ?_⟩
      ·simp [Instr.indexAt,run_underlying hu,asIntOf,hk,fM eW]
      ·rw [aw] at hd
       cases oQ:dp[j]? with
       |none=>simp [oQ] at hd
       |some f=>
        obtain ⟨ad',e1,e2⟩:=ha q.toNat j f (by omega) oQ
        cases e1
        rw [add_add];exact e2
      ·rw [aw] at hd
       cases oQ:dp[j]? with
       |none=>simp [oQ] at hd
       |some f=>exact NR q.toNat j f (by omega) oQ
      ·rw [aw] at hd
       cases oQ:dp[j]? with
       |none=>simp [oQ] at hd
       |some f=>
        simp only [oQ,aA,aa] at hd
        subst hd
        exact hr q.toNat j f (by omega) oQ
  ·rename_i s s' id n eW
   cases hb:Nat.beq s s'
   ·simp only [hb,ar] at he;subst he;exact dn dr
   ·simp only [hb,ao] at he
    subst he
    obtain rfl:=af hb
    have hk:0<=q/\q<(n:Int):=dr.one
    cases hv with
    |s6 kr hp h1=>
     obtain ⟨p,c,rfl,Zi⟩:=hp
     cases p with
     |none=>have:=Zi rfl;omega
     |some ad=>
      refine ⟨rfl,.pointer (some (ad.add (q.toNat*s))),?_,.kO kr ⟨_,rfl⟩ fun g' C' yI yA=> ?_⟩
      ·simp [Instr.indexAt,run_underlying hu,asIntOf,hk,fM eW]
      ·have e:=(h1 g' C' yI yA).1
       simp only [Value.slice.injEq,aa] at e
       rw [e.1,eF]
       simp
  ·subst he;exact dn dr
 ·rename_i len el k q hu
  cases hi
  split at he
  ·rename_i s id j eW
   subst he
   have hk:0<=q/\q<(len:Int):=dr.one
   cases hv with
   |ptr kr hp h=>
    obtain ⟨ad,rfl⟩:=hp
    refine ⟨rfl,.pointer (some (ad.add (q.toNat*s))),by simp [Instr.indexAt,run_underlying hu,asIntOf,hk,fM eW,Instr.sureAddr],.ptr kr ⟨_,rfl⟩ fun g C hb=> ?_⟩
    have:=h g C hb
    simp only [Value.pointer.injEq,aa] at this
    rw [this,eF]
  ·rename_i s s' id i j eW
   subst he
   have hk:0<=q/\q<(len:Int):=dr.one
   cases hv with
   |ka kr hp h h'=>
    obtain ⟨ad,rfl⟩:=hp
    refine ⟨rfl,.pointer (some (ad.add (q.toNat*s))),by simp [Instr.indexAt,run_underlying hu,asIntOf,hk,fM eW,Instr.sureAddr],.ka kr ⟨_,rfl⟩ (fun g C hb=> ?_) fun g o C hb=> ?_⟩
    ·have:=h g C hb
     simp only [Value.pointer.injEq,aa] at this
     rw [this,eF,cC]
    ·have:=h' g o C hb
     simp only [Value.pointer.injEq,aa] at this
     rw [this,eF,cC,cC]
  ·rename_i s cs eW
   cases hb:Nat.ble (len*s) cs.length
   ·simp only [hb,ar] at he;subst he;exact dn dr
   ·simp only [hb,ao] at he
    subst he
    have hle:=aC hb
    have hk:0<=q/\q<(len:Int):=dr.one
    have hq:q.toNat<len:=by omega
    have Fb: ∀j,j<s->(len - 1)*s+j<cs.length:=fun j hj=>by
     have:(len - 1)*s+s=len*s:=by rw [<-bY];congr 1;omega
     omega
    have hqs: ∀j,j<s->q.toNat*s+j<cs.length:=fun j hj=>by
     have:q.toNat*s<=(len - 1)*s:=aK s (by omega)
     have:=Fb j hj
     omega
    cases hv with
    |dV U ha ho hr=>
     refine ⟨rfl,_,by simp [Instr.indexAt,run_underlying hu,asIntOf,hk,fM eW,Instr.sureAddr];rfl,.dV (fun j=>U (q.toNat*s+j)) (fun j d hd=> ?_) (fun j d hd=> ?_) fun j d hd=> ?_⟩
     ·rw [aw] at hd
      have hj:j<s:=by
       rcases a8 j s with h|h
       ·exact h
       ·rw [List.getElem?_eq_none (by simpa using h)] at hd;simp at hd
      rw [add_add]
      exact ha _ _ (ak (hqs j hj))
     ·rw [aw] at hd
      have hj:j<s:=by
       rcases a8 j s with h|h
       ·exact h
       ·rw [List.getElem?_eq_none (by simpa using h)] at hd;simp at hd
      exact ho _ _ (ak (hqs j hj))
     ·rw [aw] at hd
      have hj:j<s:=by
       rcases a8 j s with h|h
       ·exact h
       ·rw [List.getElem?_eq_none (by simpa using h)] at hd;simp at hd
      rw [List.getElem?_range hj] at hd
      simp only [aA,aa] at hd
      subst hd
      have hc:=ak (hqs j hj)
      exact vw (by rw [sK s j len cs q.toNat hq (Fb j hj)];exact hc) (hr _ _ hc)
  ·subst he;exact dn dr
 ·subst he;exact dn dr
theorem R.congr (r:R base w0 S0 σ kn di a w) (h1: ∀t,σ'.get t=σ.get t) (h2: ∀id,σ'.obj id=σ.obj id) (h3:σ'.nt=σ.nt) (h4:σ'.rn=σ.rn) (h5:σ'.lo=σ.lo):R base w0 S0 σ' kn di a w:=
 ⟨r.below,r.xs,r.fv,r.qD,r.nM,fun h=>by rw [h4];exact r.J2 h,r.lh,r.yk,r.size.trans h3.symm,fun t=>by rw [h1];exact r.tmps t,fun id o h=>r.eC id o (by rw [<-h2];exact h),r.inj,r.ge,fun id l h=>by rw [h2];exact r.live id l h,fun t ht=>r.yr t (by rw [<-h5];exact ht)⟩
def SC (base:Nat) (w0:World) (S0:Env) (σ':St) (kn:Nat->Prop) (di:Nat->Option Loc) (a:Act) (w:World) (id:Nat) (D:Option Nat) (jN:Loc->Nat->Option Loc) (o:fF):Prop:=
 ∀(l:Loc) (w':World),(l= .nil\/ ∃g C,l= .at_ g C/\(D=some g\/(w.heap.size<=g/\g<w'.heap.size)))->w.heap.size<=w'.heap.size->w'.os=w.os->w'.tape=w.tape->w'.output=w.output->CO w w'->
  (∀k,k<w.heap.size->D≠some k->w'.heap[k]? =w.heap[k]?)->
  ((∀{d v},dA (dq w base S0 di) d v->dA (dq w' base S0 (jN l)) d v)->iu w' (dq w' base S0 (jN l)) (fun i=>kn i\/i=id) (jN l) (some l) o)->
  R base w0 S0 σ' (fun i=>kn i\/i=id) (jN l) a w'
def BE (di:Nat->Option Loc) (q:Nat):Option Nat:=match di q with
 |some (.at_ g _)=>some g
 |_=>none
theorem xQ {q g:Nat} (h:BE di q=some g): ∃C,di q=some (.at_ g C):=by
 unfold BE at h
 split at h
 ·rename_i g' C hb;cases h;exact ⟨C,hb⟩
 ·cases h
theorem R.mover (r:R base w0 S0 σ kn di a w) {id q:Nat} {o:fF} (fJ: ¬kn id) (hq: ∀l,di q=some l->l= .nil\/ ∃g C,l= .at_ g C):
 SC base w0 S0 ((σ.setObj q none).setObj id (some o)) kn di a w id (BE di q) (fun l i=>if i=id then some l else if i=q then none else di i) o:=by
 intro l w' hl eW Rc Q4 qs N1 hk ho
 show R base w0 S0 _ _ (fun i=>if i=id then some l else if i=q then none else di i) a w'
 have po:=r.fresh fJ
 refine r.step (fun k=>BE di q=some k) (fun i=>i=id\/i=q) eW Rc Q4 qs (fun k h1 h2=>hk k h1 h2) (fun k h=> ?_) (fun _ h=> .inl h) (fun i h=> ?_) (fun i v h hi e=> ?_) (fun i l' g h e hg=> ?_) (fun i l' h hi e=> ?_) rfl rfl rfl (fun _=>rfl) (fun i h=> ?_)
  (fun _ _ mC i o' h e=> ?_) (fun i l' h e=> ?_) (fun i i' l1 l2 g h h' e e' g1 g2=> ?_) (fun B hB i g bs h e=> ?_) N1
 ·obtain ⟨C,h⟩:=xQ h
  exact ⟨q,_,.inr rfl,h,rfl⟩
 ·rw [not_or] at h
  rw [ab h.1,ab h.2]
 ·rcases h with rfl|rfl
  ·exact absurd hi fJ
  ·rcases hq _ e with h|⟨g,C,h⟩<;>cases h
 ·by_cases e1:i=id
  ·rw [ag e1] at e
   cases e
   rcases hl with rfl|⟨g',C,rfl,h1|h1⟩
   ·exact hg.elim
   ·cases hg
    obtain ⟨C',h2⟩:=xQ h1
    exact .inl ⟨q,_,.inr rfl,h2,rfl⟩
   ·cases hg
    exact .inr h1
  ·have e2:i=q:=h.resolve_left e1
   rw [ab e1,ag e2] at e
   cases e
 ·have e1:i≠id:=fun e'=>fJ (e'▸hi)
  rw [ab e1,ag (h.resolve_left e1)] at e
  cases e
 ·rw [not_or] at h
  rw [St.dH,ab (fun e=>h.1 e.symm),St.dH,ab (fun e=>h.2 e.symm)]
 ·by_cases e1:i=id
  ·subst e1
   rw [St.dH,ag rfl,aa] at e
   subst e
   exact ⟨.inr rfl,by simpa using ho mC⟩
  ·rw [St.dH,ab (fun e'=>e1 e'.symm),St.dH,ag (h.resolve_left e1).symm] at e
   cases e
 ·by_cases e1:i=id
  ·exact ⟨o,by rw [St.dH,ag e1.symm]⟩
  ·rw [ab e1,ag (h.resolve_left e1)] at e
   cases e
 ·by_cases e1:i=id
  ·by_cases e2:i'=id
   ·rw [e1,e2]
   ·rw [ab e2,ag (h'.resolve_left e2)] at e';cases e'
  ·rw [ab e1,ag (h.resolve_left e1)] at e;cases e
 ·by_cases e1:i=id
  ·rw [ag e1] at e
   cases e
   rcases hl with h|⟨g',C,h,_⟩<;>cases h
  ·rw [ab e1,ag (h.resolve_left e1)] at e;cases e
theorem R.Y0 (r:R base w0 S0 σ kn di a w) {id m gm:Nat} {bs:List Nat} {es:Array MapEntry} {clock:Nat} {o:fF} {ks:KS} {len:List Int->Nat} {eQ:List Int->Nat->DV} {k:List Int} {v:Value}
 (fJ: ¬kn id) (hm:di m=some (.map gm bs)) (hh:w.heap[gm]? =some (.map es clock)) (hG:BO w (dq w base S0 di) bs ks len eQ none es.toList) (rV: ∀b,b∈bs-> ∃cv T,w.heap[b]? =some (.cells cv T (0,0)))
 (hv:atKey ks es.toList k v) {D:Option Nat} (hD: ∀g,D=some g->g∈bs/\ ∃n C,v= .slice (some ⟨g,0,none⟩) n C):
 SC base w0 S0 ((σ.setObj m (some (.np ks len eQ [] (some k)))).setObj id (some o)) kn di a w id D (fun l i=>if i=id then some l else if i=m then some (.map gm (bs.filter fun b=>decide (D≠some b))) else di i) o:=by
 intro l w' hl eW Rc Q4 qs N1 hk ho
 show R base w0 S0 _ _ (fun i=>if i=id then some l else if i=m then some (.map gm (bs.filter fun b=>decide (D≠some b))) else di i) a w'
 have po:=r.fresh fJ
 have HC:m≠id:=fun e=>fJ (e▸r.known hm)
 have hgD:D≠some gm:=fun e=>by
  obtain ⟨cv,T,h⟩:=rV gm (hD gm e).1
  rw [hh] at h;cases h
 refine r.step (fun k=>D=some k) (fun i=>i=id\/i=m) eW Rc Q4 qs (fun k h1 h2=>hk k h1 h2) (fun k h=> ?_) (fun _ h=> .inl h) (fun i h=> ?_) (fun i v h hi e=> ?_) (fun i l' g h e hg=> ?_) (fun i l' h hi e=> ?_) rfl rfl rfl (fun _=>rfl) (fun i h=> ?_)
  (fun c _ mC i o' h e=> ?_) (fun i l' h e=> ?_) (fun i i' l1 l2 g h h' e e' g1 g2=> ?_) (fun B hB i g yI h e=> ?_) N1
 ·exact ⟨m,_,.inr rfl,hm,.inr (hD k h).1⟩
 ·rw [not_or] at h
  rw [ab h.1,ab h.2]
 ·rcases h with rfl|rfl
  ·exact absurd hi fJ
  ·rw [hm] at e;cases e
 ·by_cases e1:i=id
  ·rw [ag e1] at e
   cases e
   rcases hl with rfl|⟨g',C,rfl,h1|h1⟩
   ·exact hg.elim
   ·cases hg
    exact .inl ⟨m,_,.inr rfl,hm,.inr (hD _ h1).1⟩
   ·cases hg
    exact .inr h1
  ·have e2:i=m:=h.resolve_left e1
   rw [ab e1,ag e2] at e
   cases e
   refine .inl ⟨m,_,.inr rfl,hm,?_⟩
   rcases hg with hg|hg
   ·exact .inl hg
   ·exact .inr (bH.1 hg).1
 ·have e1:i≠id:=fun e'=>fJ (e'▸hi)
  rw [ab e1,ag (h.resolve_left e1)] at e
  cases e
  exact ⟨.map gm bs,by rw [h.resolve_left e1];exact hm,rfl⟩
 ·rw [not_or] at h
  rw [St.dH,ab (fun e=>h.1 e.symm),St.dH,ab (fun e=>h.2 e.symm)]
 ·by_cases e1:i=id
  ·subst e1
   rw [St.dH,ag rfl,aa] at e
   subst e
   exact ⟨.inr rfl,by simpa using ho mC⟩
  ·have e2:i=m:=h.resolve_left e1
   rw [St.dH,ab (fun e'=>e1 e'.symm),St.dH,ag e2.symm,aa] at e
   subst e
   refine ⟨.inl (e2▸r.known hm),?_⟩
   rw [ab e1,ag e2]
   have SS: ∀b,b∈bs.filter (fun b=>decide (D≠some b))->w'.heap[b]? =w.heap[b]? :=fun b hb=>by
    obtain ⟨h1,h2⟩:=bH.1 hb
    refine hk b (r.ge _ _ _ hm (.inr h1)).2 (by simpa using h2)
   refine ⟨gm,_,es,clock,rfl,by rw [hk gm (ef hh) hgD];exact hh,⟨hG.hk,hG.hd,fun l hl _=>hG.E0 l hl (by simp),fun e l he A9 ji=> ?_,fun e e' l l' g n C n' C' a b c d _ _ q=>hG.sep e e' l l' g n C n' C' a b c d (by simp) (by simp) q⟩,fun b hb=>by rw [SS b hb];exact rV b (bH.1 hb).1,fun _ _ h=>by cases h⟩
   rcases hG.Ju e l he A9 (by simp) with h0|⟨g,C,cv,T,h1,h2,h3,h4,h5,h6⟩
   ·exact .inl h0
   ·have hgb:g∈bs.filter (fun b=>decide (D≠some b)):=bH.2 ⟨h2,by
     simp only [ah]
     intro eD
     obtain ⟨_,n',C',Gl⟩:=hD g eD
     rcases hv with ⟨e0,he0,NW,Wg⟩|⟨_,Wg⟩
     ·have hkne:e.key≠e0.key:=fun e1=>ji (by rw [e1] at A9;rw [NW] at A9;rw [A9])
      exact hG.sep e e0 l k g _ _ n' C' he he0 A9 NW (by simp) (by simp) hkne h1 (Wg.trans Gl)
     ·rw [Gl] at Wg;cases Wg⟩
    exact .inr ⟨g,C,cv,T,h1,hgb,by rw [SS g hgb];exact h3,h4,h5,fun i hi=>let ⟨u,a,b,c'⟩:=h6 i hi;⟨u,a,b,mC c'⟩⟩
 ·by_cases e1:i=id
  ·exact ⟨o,by rw [St.dH,ag e1.symm]⟩
  ·exact ⟨_,by rw [St.dH,ab (fun e=>e1 e.symm),St.dH,ag (h.resolve_left e1).symm]⟩
 ·have key: ∀{l2:Loc},l.has g->(if m=id then some l else if m=m then some (Loc.map gm (bs.filter fun b=>decide (D≠some b))) else di m)=some l2->l2.has g->False:=by
   intro l2 g1 e' g2
   rw [ab HC,ag rfl] at e'
   cases e'
   have hold:Loc.has (.map gm bs) g:=g2.imp (fun h=>h) fun h=>(bH.1 h).1
   rcases hl with rfl|⟨g',C,rfl,h1|h1⟩
   ·exact g1
   ·cases g1
    rcases g2 with rfl|g2
    ·exact hgD h1
    ·have:=(bH.1 g2).2
     simp at this;exact this h1
   ·cases g1
    have:=(r.ge _ _ _ hm hold).2;omega
  by_cases e1:i=id<;>by_cases e2:i'=id
  ·rw [e1,e2]
  ·rw [ag e1] at e;cases e
   have e3:=h'.resolve_left e2
   subst e3
   exact (key g1 e' g2).elim
  ·rw [ag e2] at e';cases e'
   have e3:=h.resolve_left e1
   subst e3
   exact (key g2 e g1).elim
  ·rw [h.resolve_left e1,h'.resolve_left e2]
 ·by_cases e1:i=id
  ·rw [ag e1] at e
   cases e
   rcases hl with h|⟨g',C,h,_⟩<;>cases h
  ·rw [ab e1,ag (h.resolve_left e1)] at e
   cases e
   exact r.lh B hB m gm bs hm
theorem sF {α:Type}: ∀{l:List (Nat×α)} {i:Nat} {v:α},look l i=some v->(i,v)∈l
 |[],i,v,h=>by cases h
 |(k,u)::r,i,v,h=>by
  rw [dG] at h
  split at h
  ·rename_i e;cases h;rw [e];exact ax
  ·exact ay _ (sF h)
theorem mF (r:R base w0 S0 σ kn di a w) {s m:Nat} {y:DV} {dp:List (Nat->DV)} {vc:List Prop} {v:Value} (h:source σ.obj s y=some (m,dp,vc)) (dr:dw vc)
 (iH:dp.length=s) (hv:Rel (dq w base S0 di) kn di y v): ∃(A:Option Addr) (c:Nat) (news:List Value),v= .slice A m c/\news.length=m*s/\
   (A=none->m=0)/\(∀ad,A=some ad-> ∀j u,news[j]? =some u->w.cell? (ad.add j)=some u)/\(∀u∈news,eL u=true)/\
   ∀(i j:Nat) (f:Nat->DV),i<m->dp[j]? =some f-> ∃u,news[i*s+j]? =some u/\dA (dq w base S0 di) (f i) u:=by
 -- out of cells that are known one by one
 have build: ∀(ad:Addr) (m:Nat) (dp:List (Nat->DV)) (c:Nat),dp.length=s->(∀(i j:Nat) (f:Nat->DV),i<m->dp[j]? =some f-> ∃u,w.cell? (ad.add (i*s+j))=some u/\eL u=true/\dA (dq w base S0 di) (f i) u)->
  ∃(A:Option Addr) (c':Nat) (news:List Value),(.slice (some ad) m c:Value)= .slice A m c'/\news.length=m*s/\(A=none->m=0)/\(∀ad,A=some ad-> ∀j u,news[j]? =some u->w.cell? (ad.add j)=some u)/\(∀u∈news,eL u=true)/\
  ∀(i j:Nat) (f:Nat->DV),i<m->dp[j]? =some f-> ∃u,news[i*s+j]? =some u/\dA (dq w base S0 di) (f i) u:=by
  intro ad m dp c uF fe
  have split: ∀k,k<m*s->k/s<m/\k%s<s/\k/s*s+k%s=k:=fun k hk=>by
   have hs:0<s:=by
    rcases cg s with h|h
    ·rw [h] at hk;simp at hk
    ·exact h
   exact ⟨Nat.div_lt_of_lt_mul (by rw [Nat.mul_comm];exact hk),Nat.mod_lt _ hs,by rw [Nat.mul_comm];exact Nat.div_add_mod k s⟩
  have cell: ∀k,k<m*s-> ∃u,w.cell? (ad.add k)=some u/\eL u=true:=fun k hk=>by
   obtain ⟨h1,h2,h3⟩:=split k hk
   have hf:dp[k%s]? =some dp[k%s]:=ak (by omega)
   obtain ⟨u,hu,ho,_⟩:=fe _ _ _ h1 hf
   rw [h3] at hu
   exact ⟨u,hu,ho⟩
  refine ⟨some ad,c,(List.range (m*s)).map fun k=>(w.cell? (ad.add k)).getD undef,rfl,by simp,(fun h=>by cases h),fun ad' e j u hu=> ?_,fun u hu=> ?_,fun i j f hi hf=> ?_⟩
  ·cases e
   rw [aw] at hu
   cases hj:(List.range (m*s))[j]? with
   |none=>simp [hj] at hu
   |some k=>
    have hk:=ai.1 hj
    obtain ⟨uf,oo⟩:=hk
    simp at uf oo
    subst oo
    obtain ⟨u',qV,_⟩:=cell j uf
    simp [hj,qV] at hu
    subst hu;exact qV
  ·obtain ⟨k,hk,rfl⟩:=bf.1 hu
   obtain ⟨u',qV,ho⟩:=cell k (by simpa using hk)
   rw [qV];exact ho
  ·obtain ⟨u,hu,_,hrel⟩:=fe i j f hi hf
   have hj:j<s:=by rw [<-uF];exact (ai.1 hf).1
   have dR:i*s+j<m*s:=by
    have:i*s+s<=m*s:=by rw [<-bY];exact aK _ hi
    omega
   exact ⟨u,by simp [dR,hu],hrel⟩
 unfold source at h
 split at h
 ·rename_i n eB
  cases hb:Nat.beq eB.length s
  ·simp [hb] at h
  ·simp only [hb,ao,aa,aB] at h
   obtain ⟨rfl,rfl,rfl⟩:=h
   cases hv with
   |dt U hc ha hn ho hr=>
    rename_i A c
    rcases cg n with h0|h0
    ·subst h0
     cases A with
     |none=>exact ⟨none,c,[],rfl,by simp,fun _=>rfl,(fun ad e=>by cases e),by simp,fun i j f hi=>by omega⟩
     |some ad=>exact ⟨some ad,c,[],rfl,by simp,(fun e=>by cases e),by simp,by simp,fun i j f hi=>by omega⟩
    ·cases A with
     |none=>exact absurd rfl (hn h0)
     |some ad=>
      refine build ad n eB c iH fun i j f hi hf=> ?_
      obtain ⟨ad',e,Mo⟩:=ha i j f hi hf
      cases e
      rw [iH] at Mo
      exact ⟨U i j,o6 Mo.1 (ho i j f hi hf),ho i j f hi hf,hr i j f hi hf⟩
 ·rename_i s' id off len
  split at h
  ·rename_i n eB fE
   cases hb:(Nat.beq s s'&&Nat.beq eB.length s)
   ·simp [hb] at h
   ·simp only [hb,ao] at h
    simp only [an] at hb
    obtain rfl:=af hb.1
    have uF:=af hb.2
    have rS:je σ.obj id s=true:=by unfold je;rw [fE];exact hb.2
    have gen: ∀(nz:List (Nat->DV)),nz=eB.map (fun c i=>c (i+off))->len+off<=n-> ∃(A:Option Addr) (c:Nat) (news:List Value),v= .slice A len c/\news.length=len*s/\
     (A=none->len=0)/\(∀ad,A=some ad-> ∀j u,news[j]? =some u->w.cell? (ad.add j)=some u)/\(∀u∈news,eL u=true)/\
     ∀(i j:Nat) (f:Nat->DV),i<len->nz[j]? =some f-> ∃u,news[i*s+j]? =some u/\dA (dq w base S0 di) (f i) u:=by
     intro nz hcx hle
     obtain ⟨_,⟨rfl,_,rfl,_⟩|⟨g,C,rfl,hC,hl⟩|⟨_,rfl,p,c,rfl⟩⟩:=kJ r rS hv
     rotate_left 2
     ·cases p with
      |none=>exact ⟨none,c,[],rfl,by simp,fun _=>rfl,(fun ad e=>by cases e),by simp,fun i j f hi=>by omega⟩
      |some ad=>exact ⟨some ad,c,[],rfl,by simp,(fun h=>by cases h),(fun ad e j u h=>by simp at h),by simp,fun i j f hi=>by omega⟩
     ·exact ⟨none,0,[],rfl,by simp,fun _=>rfl,(fun ad e=>by cases e),by simp,fun i j f hi=>by omega⟩
     ·obtain ⟨_,lU⟩:=r.eC _ _ fE
      rcases lU with ⟨lk,_⟩|⟨g',C',cv,T,lG,hh,eW,UD,hrel⟩
      ·rw [lk] at hl;cases hl
      ·rw [hl] at lG
       cases lG
       refine build ⟨g,off*s,none⟩ len nz _ (by rw [hcx];simpa using uF) fun i j f hi hf=> ?_
       rw [hcx,aw] at hf
       cases oQ:eB[j]? with
       |none=>simp [oQ] at hf
       |some f'=>
        simp only [oQ,aA,aa] at hf
        subst hf
        obtain ⟨u,hu,ho,Kh⟩:=hrel (i+off) j f' (by omega) oQ
        rw [uF] at hu
        refine ⟨u,?_,ho,Kh⟩
        rw [eF]
        simp only [World.cell?,hh]
        rw [show off*s+(i*s+j)=(i+off)*s+j by rw [cd];omega,hu]
        rfl
    simp only [aa,aB] at h
    obtain ⟨rfl,rfl,rfl⟩:=h
    exact gen _ rfl dr.one
  ·cases h
 ·simp only [aa,aB] at h
  obtain ⟨rfl,rfl,rfl⟩:=h
  cases hv
  exact ⟨none,0,[],rfl,by simp,fun _=>rfl,(fun ad e=>by cases e),by simp,fun i j f hi=>by omega⟩
 ·rename_i t mi
  split at h
  ·rename_i ks len eQ qY fE
   split at h
   ·rename_i l hl
    cases hb:Nat.beq s 1
    ·simp [hb] at h
    ·simp only [hb,ao,aa,aB] at h
     obtain ⟨rfl,rfl,rfl⟩:=h
     obtain rfl:=af hb
     obtain ⟨_,g,bs,es,clock,vL,hh,hG,rV,nV⟩:=r.eC _ _ fE
     obtain ⟨v',Wr,rW⟩:=nV t l (sF hl)
     have jg:v=v':=by cases hv with|tok _ _ h=>exact h v' Wr
     subst jg
     have Cr:xV w (dq w base S0 di) bs (len l) (eQ l) v:=by
      rcases rW with ⟨e,he,hk,rfl⟩|⟨h1,rfl⟩
      ·exact hG.Ju e l he hk (by simp)
      ·exact .inl ⟨rfl,hG.E0 l h1 (by simp)⟩
     rcases Cr with ⟨rfl,h0⟩|⟨g',C,cv,T,rfl,_,h3,h4,h5,h6⟩
     ·exact ⟨none,0,[],by rw [h0],by rw [h0];simp,fun _=>h0,(fun ad e=>by cases e),by simp,fun i j f hi=>by omega⟩
     ·refine build ⟨g',0,none⟩ (len l) [eQ l] _ rfl fun i j f hi hf=> ?_
      have hj:j=0:=by
       have:=(ai.1 hf).1
       simp at this;exact this
      subst hj
      simp at hf
      subst hf
      obtain ⟨u,hu,ho,Kh⟩:=h6 i hi
      refine ⟨u,?_,ho,Kh⟩
      rw [eF]
      simp only [World.cell?,h3,aE,Nat.mul_one,bV,hu]
      rfl
   ·cases h
  ·cases h
 ·cases h
end
end Go.Abs
end
section
namespace Go.Abs
open Go.RowKit
section
variable {P:Program} {base:Nat} {w0 w w':World} {S0:Env} {σ σ':St} {kn:Nat->Prop} {di:Nat->Option Loc} {a:Act}
theorem EI {t ty e:TypeId} {i:TypeInfo} (ht:P.underlying t=some (.slice e)) (hi:P.info? e=some i)
 {g n C:Nat} {cur:Array Value} {T:TypeId} (hg:w.heap[g]? =some (.cells cur T (0,0))) {A:Option Addr} {m c:Nat} {news:List Value}
 (hf:(Builtin.firstCells i.size m (.slice A m c)).run P w= .ok news.toArray w) (h1: ∀u∈news,eL u=true)
 (kq:n+m<=C) (Fe:n*i.size+news.length<=cur.size):
 (Builtin.append_ #[t,t] ty #[.slice (some ⟨g,0,none⟩) n C,.slice A m c]).run P w=
   .ok (.slice (some ⟨g,0,none⟩) (n+m) C) (w.setRow g (cur.toList.take (n*i.size)++news++cur.toList.drop (n*i.size+news.length)).toArray):=by
 have mh:=run_storeCells_at P g (n*i.size) T news 0 cur w hg (by simpa using Fe) (fun u hu=>by rw [<-zm];exact h1 u hu)
 simp only [bV] at mh
 simp [Builtin.append_,run_underlying ht,sizeOf,typeInfo,hi,Builtin.lenOf,kq,hf,Addr.add_lit,mh]
theorem kP {s m c:Nat} {A:Option Addr} {news:List Value} (hl:news.length=m*s) (hn:A=none->m=0) (hc: ∀ad,A=some ad-> ∀j u,news[j]? =some u->w.cell? (ad.add j)=some u):
 (Builtin.firstCells s m (.slice A m c)).run P w= .ok news.toArray w:=by
 cases A with
 |none=>
  have:=hn rfl
  subst this
  have:news=[]:=cK (by simpa using hl)
  subst this
  simp [Builtin.firstCells]
 |some ad=>exact run_firstCells_some w s m ad m c news hl (hc ad rfl)
theorem uV {rd:Rd} {n m s:Nat} {dp jI F:List (Nat->DV)} {sW news rest:List Value} (hF:F.length=s) (j5:sW.length=n*s)
 (hold: ∀(i j:Nat) (f:Nat->DV),i<n->dp[j]? =some f-> ∃u,sW[i*s+j]? =some u/\eL u=true/\dA rd (f i) u)
 (yX: ∀(i j:Nat) (f:Nat->DV),i<m->jI[j]? =some f-> ∃u,news[i*s+j]? =some u/\dA rd (f i) u) (jh: ∀u∈news,eL u=true)
 (Kg: ∀(i j:Nat) (f:Nat->DV),i<n+m->F[j]? =some f->(i<n-> ∃c,dp[j]? =some c/\ ∀u,dA rd (c i) u->dA rd (f i) u)/\(n<=i-> ∃d,jI[j]? =some d/\ ∀u,dA rd (d (i - n)) u->dA rd (f i) u))
 (i j:Nat) (f:Nat->DV) (hi:i<n+m) (hf:F[j]? =some f): ∃u,(sW++(news++rest)).toArray[i*F.length+j]? =some u/\eL u=true/\dA rd (f i) u:=by
 have hj:j<s:=by rw [<-hF];exact (ai.1 hf).1
 rw [hF,cy]
 obtain ⟨h1,h2⟩:=Kg i j f hi hf
 by_cases nU:i<n
 ·obtain ⟨c,hc,hm⟩:=h1 nU
  obtain ⟨u,hu,ho,hr⟩:=hold i j c nU hc
  have dR:i*s+j<sW.length:=by
   have:i*s+s<=n*s:=by rw [<-bY];exact aK _ nU
   omega
  exact ⟨u,by rw [aW dR];exact hu,ho,hm u hr⟩
 ·obtain ⟨d,hd,hm⟩:=h2 (by omega)
  obtain ⟨u,hu,hr⟩:=yX (i - n) j d (by omega) hd
  have iG:sW.length<=i*s+j:=by
   have:n*s<=i*s:=aK _ (by omega)
   omega
  have Kl:i*s+j - sW.length=(i - n)*s+j:=by
   rw [j5,Nat.sub_mul]
   have:n*s<=i*s:=aK _ (by omega)
   omega
  have dR:(i - n)*s+j<news.length:=(ai.1 hu).1
  refine ⟨u,?_,jh _ (aD hu),hm u hr⟩
  rw [bk iG,Kl,aW dR]
  exact hu
theorem Ha {rd:Rd} {n:Nat} (s:Nat) (dp:List (Nat->DV)) (iH:dp.length=s) (cv:Array Value) (hold: ∀(i j:Nat) (f:Nat->DV),i<n->dp[j]? =some f-> ∃u,cv[i*s+j]? =some u/\eL u=true/\dA rd (f i) u)
 (i j:Nat) (f:Nat->DV) (hi:i<n) (hf:dp[j]? =some f): ∃u,(cv.toList.take (n*s))[i*s+j]? =some u/\eL u=true/\dA rd (f i) u:=by
 obtain ⟨u,hu,ho,hr⟩:=hold i j f hi hf
 have hj:j<s:=by rw [<-iH];exact (ai.1 hf).1
 have dR:i*s+j<n*s:=by
  have:i*s+s<=n*s:=by rw [<-bY];exact aK _ hi
  omega
 exact ⟨u,by rw [bS,ag dR,bo];exact hu,ho,hr⟩
theorem appendCore (r:R base w0 S0 σ kn di a w) {id:Nat} {D:Option Nat} {jN:Loc->Nat->Option Loc} (HH: ∀l,jN l id=some l) {t ty e:TypeId} {i:TypeInfo} {z:Value} {s Ij n m:Nat} (ht:P.underlying t=some (.slice e)) (hi:P.info? e=some i) (hz:i.zero=some z)
 (hs:i.size=s) (Mt:i.bytes=Ij+1) (NN:z.cells.size=s) (Wh:0<s) {dp jI F:List (Nat->DV)} (hF:F.length=s) (iH:dp.length=s)
 (mv:SC base w0 S0 σ' kn di a w id D jN (.row (n+m) F))
 {v:Value} (HE:(v= .slice none 0 0/\n=0)\/ ∃g C cv T,v= .slice (some ⟨g,0,none⟩) n C/\n<=C/\D=some g/\w.heap[g]? =some (.cells cv T (0,0))/\cv.size=C*s/\
   ∀(i j:Nat) (f:Nat->DV),i<n->dp[j]? =some f-> ∃u,cv[i*s+j]? =some u/\eL u=true/\dA (dq w base S0 di) (f i) u)
 {A:Option Addr} {c:Nat} {news:List Value} (lk:news.length=m*s) (po:A=none->m=0) (fe: ∀ad,A=some ad-> ∀j u,news[j]? =some u->w.cell? (ad.add j)=some u) (jh: ∀u∈news,eL u=true)
 (yX: ∀(i j:Nat) (f:Nat->DV),i<m->jI[j]? =some f-> ∃u,news[i*s+j]? =some u/\dA (dq w base S0 di) (f i) u)
 (Kg: ∀(rd:Rd) (i j:Nat) (f:Nat->DV),i<n+m->F[j]? =some f->(i<n-> ∃c,dp[j]? =some c/\ ∀u,dA rd (c i) u->dA rd (f i) u)/\(n<=i-> ∃d,jI[j]? =some d/\ ∀u,dA rd (d (i - n)) u->dA rd (f i) u))
 (ui:(n+m)*(Ij+1)<=140737488355328):
 ∃v' w',(Builtin.append_ #[t,t] ty #[v,.slice A m c]).run P w= .ok v' w'/\ ∃eV du,R base w0 S0 σ' eV du a w'/\
  Rel (dq w' base S0 du) eV du (.row s id 0 (n+m)) v'/\ ∀i,eV i->kn i\/i=id:=by
 subst hs
 have hle63:n+m<=140737488355328:=aV (Nat.le_mul_of_pos_right _ (Nat.succ_pos _)) ui
 -- the new row in a new block
 have grown: ∀(wV:Nat) (sW:List Value),wV<n+m->sW.length=n*i.size->
  (∀(i' j:Nat) (f:Nat->DV),i'<n->dp[j]? =some f-> ∃u,sW[i'*i.size+j]? =some u/\eL u=true/\dA (dq w base S0 di) (f i') u)->
  (Builtin.append_ #[t,t] ty #[v,.slice A m c]).run P w= .ok (.slice (some ⟨w.heap.size,0,none⟩) (n+m) (grownCap w (n+m) wV e)) (w.drew.alloc (.cells (sW.toArray++news.toArray++Builtin.zeroCells z.cells (grownCap w (n+m) wV e - (n+m))) e))->
  ∃v' w',(Builtin.append_ #[t,t] ty #[v,.slice A m c]).run P w= .ok v' w'/\ ∃eV du,R base w0 S0 σ' eV du a w'/\
  Rel (dq w' base S0 du) eV du (.row i.size id 0 (n+m)) v'/\ ∀i,eV i->kn i\/i=id:=by
  intro wV sW ho j5 hold dN
  have iG:=grownCap_ge w (n+m) wV e
  refine ⟨_,_,dN,_,_,mv (.at_ w.heap.size (grownCap w (n+m) wV e)) _ (.inr ⟨_,_,rfl,.inr ⟨ae _,by rw [World.size_alloc];exact Nat.lt_succ_self _⟩⟩) (by rw [World.size_alloc];exact Nat.le_succ _) rfl rfl rfl (fun _=>Nat.le_succ _) (fun k hk _=>World.yJ w.drew _ k hk)
   (fun mono=> .inr ⟨_,_,_,e,rfl,heap_alloc_new w.drew _,?_,iG,fun i' j f lV hf=> ?_⟩),.row (.inr rfl) ⟨_,_,rfl,fun h=>by cases h⟩ (fun h=> ?_) (fun g C h=> ?_) (fun g o C h=>by rw [HH] at h;cases h),fun _ h=>h⟩
  ·simp only [Array.size_append,bZ,size_zeroCells,NN,j5,lk,<-cd,hF]
   congr 1;omega
  ·obtain ⟨u,hu,Zk,hr⟩:=uV (rest:=(Builtin.zeroCells z.cells (grownCap w (n+m) wV e - (n+m))).toList) hF j5 hold yX jh (Kg _) i' j f lV hf
   refine ⟨u,?_,Zk,mono hr⟩
   rw [<-hu]
   congr 1
   apply cB
   simp [cA]
  ·rw [HH] at h;cases h
  ·rw [HH] at h
   simp only [aa,Loc.at_.injEq] at h
   obtain ⟨rfl,rfl⟩:=h
   exact .inl ⟨by simp,by omega⟩
 rcases HE with ⟨rfl,rfl⟩|⟨g,C,cv,T,rfl,NT,Cs,hg,eW,hold⟩
 ·by_cases hm:m=0
  ·subst hm
   have yW:news=[]:=cK (by simpa using lk)
   subst yW
   have hf:=kP (P:=P) (w:=w) (c:=c) lk po fe
   refine ⟨.slice none 0 0,w,?_,_,_,mv .nil w (.inl rfl) (ae _) rfl rfl rfl (fun _=>ae _) (fun _ _ _=>rfl) (fun _=> .inl ⟨rfl,rfl⟩),.row (.inr rfl) ⟨_,_,rfl,fun _=>rfl⟩ (fun _=>⟨rfl,rfl,rfl⟩) (fun g C h=> ?_) (fun g o C h=>by rw [HH] at h;cases h),fun _ h=>h⟩
   ·simp [Builtin.append_,run_underlying ht,sizeOf,typeInfo,hi,Builtin.lenOf,hf]
   ·rw [HH] at h;cases h
  ·cases A with
   |none=>exact absurd (po rfl) hm
   |some ad=>
    have dN:=run_append_nil (P:=P) w t ty e i z ht hi hz ad m c news lk (fe ad rfl) (by omega) (by omega) (by rw [Mt];rw [aE] at ui;omega)
    refine grown 0 [] (by omega) (by simp) (fun i' j f h=>by omega) ?_
    simpa using dN
 ·by_cases kq:n+m<=C
  ·have Fe:n*i.size+news.length<=cv.size:=by rw [lk,eW,<-cd];exact aK _ kq
   have hf:=kP (P:=P) (w:=w) (c:=c) lk po fe
   have dN:=EI (P:=P) (ty:=ty) ht hi hg hf jh kq Fe
   refine ⟨_,_,dN,_,_,mv (.at_ g C) _ (.inr ⟨_,_,rfl,.inl Cs⟩) (by simp) rfl rfl rfl (fun _=>ae _) (fun k _ hk=>setRow_other w g k _ fun e=>hk (e▸Cs))
    (fun mono=> .inr ⟨g,C,_,T,rfl,setRow_heap w g cv _ T _ hg,?_,kq,fun i' j f lV ll=> ?_⟩),.row (.inr rfl) ⟨_,_,rfl,fun h=>by cases h⟩ (fun h=> ?_) (fun g' C' h=> ?_) (fun g' o C' h=>by rw [HH] at h;cases h),fun _ h=>h⟩
   ·simp only [bZ,aS,aQ,bn,bF,hF];omega
   ·have oI:(cv.toList.take (n*i.size)).length=n*i.size:=by rw [aQ,bF];omega
    obtain ⟨u,hu,Zk,hr⟩:=uV (rest:=cv.toList.drop (n*i.size+news.length)) hF oI (Ha i.size dp iH cv hold) yX jh (Kg _) i' j f lV ll
    exact ⟨u,by simpa [cA] using hu,Zk,mono hr⟩
   ·rw [HH] at h;cases h
   ·rw [HH] at h
    simp only [aa,Loc.at_.injEq] at h
    obtain ⟨rfl,rfl⟩:=h
    exact .inl ⟨by simp,by omega⟩
  ·cases A with
   |none=>
    have:=po rfl
    omega
   |some ad=>
    have Fe:n*i.size<=cv.size:=by rw [eW];exact aK _ NT
    have oI:(cv.toList.take (n*i.size)).length=n*i.size:=by rw [aQ,bF];omega
    have dN:=run_append_grow (P:=P) w t ty e i z ht hi hz ⟨g,0,none⟩ n C (cv.toList.take (n*i.size)) oI (fun j u hu=>by
     rw [bS] at hu
     split at hu
     ·rw [bo] at hu
      rw [eF]
      simp only [World.cell?,hg,aE,hu]
      rfl
     ·cases hu) ad m c news lk (fe ad rfl) (by omega) (by omega) (growslice_fits (by omega) (by rw [Mt];exact ui))
    exact grown C _ (by omega) oI (Ha i.size dp iH cv hold) dN
end
end Go.Abs
end
section
namespace Go.Abs
open Go.RowKit
def Loc.atG (l:Loc) (g:Nat):Prop:=(∃C,l= .at_ g C)\/ ∃o C,l= .sub g o C
theorem Loc.zK {l:Loc} {g k:Nat} (h:l.atG g):l.has k↔k=g:=by
 rcases h with ⟨C,rfl⟩|⟨o,C,rfl⟩<;>exact Iff.rfl
def Im (di:Nat->Option Loc) (q:Nat):Option Nat:=match di q with
 |some (.at_ g _)=>some g
 |some (.sub g _ _)=>some g
 |_=>none
theorem Ek {di:Nat->Option Loc} {q g:Nat} (h:Im di q=some g): ∃l,di q=some l/\l.atG g:=by
 unfold Im at h
 split at h
 ·rename_i g' C hb;cases h;exact ⟨_,hb,.inl ⟨_,rfl⟩⟩
 ·rename_i g' o C hb;cases h;exact ⟨_,hb,.inr ⟨_,_,rfl⟩⟩
 ·cases h
section
variable {P:Program} {base:Nat} {w0 w w':World} {S0:Env} {σ σ':St} {kn:Nat->Prop} {di:Nat->Option Loc} {a:Act}
def SB (base:Nat) (w0:World) (S0:Env) (σ':St) (kn:Nat->Prop) (di:Nat->Option Loc) (a:Act) (w:World) (id:Nat) (D:Option Nat) (jN:Loc->Nat->Option Loc) (o:fF):Prop:=
 ∀(l:Loc) (w':World),(l= .nil\/ ∃g,l.atG g/\(D=some g\/(w.heap.size<=g/\g<w'.heap.size)))->w.heap.size<=w'.heap.size->w'.os=w.os->w'.tape=w.tape->w'.output=w.output->CO w w'->
  (∀k,k<w.heap.size->D≠some k->w'.heap[k]? =w.heap[k]?)->
  ((∀{d v},dA (dq w base S0 di) d v->dA (dq w' base S0 (jN l)) d v)->iu w' (dq w' base S0 (jN l)) (fun i=>kn i\/i=id) (jN l) (some l) o)->
  R base w0 S0 σ' (fun i=>kn i\/i=id) (jN l) a w'
theorem R.Qw (r:R base w0 S0 σ kn di a w) {id q:Nat} {o:fF} (fJ: ¬kn id) {D:Option Nat} (hq: ∀l,di q=some l->l= .nil\/ ∃g,l.atG g) (hD: ∀g,D=some g-> ∃l,di q=some l/\l.atG g):
 SB base w0 S0 ((σ.setObj q none).setObj id (some o)) kn di a w id D (fun l i=>if i=id then some l else if i=q then none else di i) o:=by
 intro l w' hl eW Rc Q4 qs N1 hk ho
 show R base w0 S0 _ _ (fun i=>if i=id then some l else if i=q then none else di i) a w'
 have po:=r.fresh fJ
 refine r.step (fun k=>D=some k) (fun i=>i=id\/i=q) eW Rc Q4 qs (fun k h1 h2=>hk k h1 h2) (fun k h=> ?_) (fun _ h=> .inl h) (fun i h=> ?_) (fun i v h hi e=> ?_) (fun i l' g h e hg=> ?_) (fun i l' h hi e=> ?_) rfl rfl rfl (fun _=>rfl) (fun i h=> ?_)
  (fun _ _ mC i o' h e=> ?_) (fun i l' h e=> ?_) (fun i i' l1 l2 g h h' e e' g1 g2=> ?_) (fun B hB i g bs h e=> ?_) N1
 ·obtain ⟨l1,h,h3⟩:=hD k h
  exact ⟨q,_,.inr rfl,h,(Loc.zK h3).2 rfl⟩
 ·rw [not_or] at h
  rw [ab h.1,ab h.2]
 ·rcases h with rfl|rfl
  ·exact absurd hi fJ
  ·rcases hq _ e with h|⟨g,⟨C,h⟩|⟨o,C,h⟩⟩<;>cases h
 ·by_cases e1:i=id
  ·rw [ag e1] at e
   cases e
   rcases hl with rfl|⟨g',rW,h1|h1⟩
   ·exact hg.elim
   ·obtain rfl:=(Loc.zK rW).1 hg
    obtain ⟨l1,h2,h3⟩:=hD _ h1
    exact .inl ⟨q,_,.inr rfl,h2,(Loc.zK h3).2 rfl⟩
   ·obtain rfl:=(Loc.zK rW).1 hg
    exact .inr h1
  ·have e2:i=q:=h.resolve_left e1
   rw [ab e1,ag e2] at e
   cases e
 ·have e1:i≠id:=fun e'=>fJ (e'▸hi)
  rw [ab e1,ag (h.resolve_left e1)] at e
  cases e
 ·rw [not_or] at h
  rw [St.dH,ab (fun e=>h.1 e.symm),St.dH,ab (fun e=>h.2 e.symm)]
 ·by_cases e1:i=id
  ·subst e1
   rw [St.dH,ag rfl,aa] at e
   subst e
   exact ⟨.inr rfl,by simpa using ho mC⟩
  ·rw [St.dH,ab (fun e'=>e1 e'.symm),St.dH,ag (h.resolve_left e1).symm] at e
   cases e
 ·by_cases e1:i=id
  ·exact ⟨o,by rw [St.dH,ag e1.symm]⟩
  ·rw [ab e1,ag (h.resolve_left e1)] at e
   cases e
 ·by_cases e1:i=id
  ·by_cases e2:i'=id
   ·rw [e1,e2]
   ·rw [ab e2,ag (h'.resolve_left e2)] at e';cases e'
  ·rw [ab e1,ag (h.resolve_left e1)] at e;cases e
 ·by_cases e1:i=id
  ·rw [ag e1] at e
   cases e
   rcases hl with h|⟨g',⟨C,h⟩|⟨o,C,h⟩,_⟩<;>cases h
  ·rw [ab e1,ag (h.resolve_left e1)] at e;cases e
theorem Cd {t ty e:TypeId} {i:TypeInfo} (ht:P.underlying t=some (.slice e)) (hi:P.info? e=some i)
 {g o n C:Nat} {cur:Array Value} {T:TypeId} (hg:w.heap[g]? =some (.cells cur T (0,0))) {A:Option Addr} {m c:Nat} {news:List Value}
 (hf:(Builtin.firstCells i.size m (.slice A m c)).run P w= .ok news.toArray w) (h1: ∀u∈news,eL u=true)
 (kq:n+m<=C) (Fe:o+n*i.size+news.length<=cur.size):
 (Builtin.append_ #[t,t] ty #[.slice (some ⟨g,o,none⟩) n C,.slice A m c]).run P w=
   .ok (.slice (some ⟨g,o,none⟩) (n+m) C) (w.setRow g (cur.toList.take (o+n*i.size)++news++cur.toList.drop (o+n*i.size+news.length)).toArray):=by
 have mh:=run_storeCells_at P g (o+n*i.size) T news 0 cur w hg (by simpa using Fe) (fun u hu=>by rw [<-zm];exact h1 u hu)
 simp only [bV] at mh
 simp [Builtin.append_,run_underlying ht,sizeOf,typeInfo,hi,Builtin.lenOf,kq,hf,Addr.add_lit,mh]
theorem DO {rd:Rd} {n o:Nat} (s:Nat) (dp:List (Nat->DV)) (iH:dp.length=s) (cv:Array Value) (hold: ∀(i j:Nat) (f:Nat->DV),i<n->dp[j]? =some f-> ∃u,cv[o+(i*s+j)]? =some u/\eL u=true/\dA rd (f i) u)
 (i j:Nat) (f:Nat->DV) (hi:i<n) (hf:dp[j]? =some f): ∃u,((cv.toList.drop o).take (n*s))[i*s+j]? =some u/\eL u=true/\dA rd (f i) u:=by
 obtain ⟨u,hu,ho,hr⟩:=hold i j f hi hf
 have hj:j<s:=by rw [<-iH];exact (ai.1 hf).1
 have dR:i*s+j<n*s:=by
  have:i*s+s<=n*s:=by rw [<-bY];exact aK _ hi
  omega
 exact ⟨u,by rw [bS,ag dR,bK,bo];exact hu,ho,hr⟩
theorem Iw (r:R base w0 S0 σ kn di a w) {id:Nat} {D:Option Nat} {jN:Loc->Nat->Option Loc} (HH: ∀l,jN l id=some l) {t ty e:TypeId} {i:TypeInfo} {z:Value} {s Ij n m:Nat} (ht:P.underlying t=some (.slice e)) (hi:P.info? e=some i) (hz:i.zero=some z)
 (hs:i.size=s) (Mt:i.bytes=Ij+1) (NN:z.cells.size=s) (Wh:0<s) {dp jI F:List (Nat->DV)} (hF:F.length=s) (iH:dp.length=s)
 (mv:SB base w0 S0 σ' kn di a w id D jN (.pR (n+m) F))
 {v:Value} (HE:(v= .slice none 0 0/\n=0)\/ ∃g o C cv T,v= .slice (some ⟨g,o,none⟩) n C/\n<=C/\D=some g/\w.heap[g]? =some (.cells cv T (0,0))/\o+C*s<=cv.size/\
   ∀(i j:Nat) (f:Nat->DV),i<n->dp[j]? =some f-> ∃u,cv[o+(i*s+j)]? =some u/\eL u=true/\dA (dq w base S0 di) (f i) u)
 {A:Option Addr} {c:Nat} {news:List Value} (lk:news.length=m*s) (po:A=none->m=0) (fe: ∀ad,A=some ad-> ∀j u,news[j]? =some u->w.cell? (ad.add j)=some u) (jh: ∀u∈news,eL u=true)
 (yX: ∀(i j:Nat) (f:Nat->DV),i<m->jI[j]? =some f-> ∃u,news[i*s+j]? =some u/\dA (dq w base S0 di) (f i) u)
 (Kg: ∀(rd:Rd) (i j:Nat) (f:Nat->DV),i<n+m->F[j]? =some f->(i<n-> ∃c,dp[j]? =some c/\ ∀u,dA rd (c i) u->dA rd (f i) u)/\(n<=i-> ∃d,jI[j]? =some d/\ ∀u,dA rd (d (i - n)) u->dA rd (f i) u))
 (ui:(n+m)*(Ij+1)<=140737488355328):
 ∃v' w',(Builtin.append_ #[t,t] ty #[v,.slice A m c]).run P w= .ok v' w'/\ ∃eV du,R base w0 S0 σ' eV du a w'/\
  Rel (dq w' base S0 du) eV du (.row s id 0 (n+m)) v'/\ ∀i,eV i->kn i\/i=id:=by
 subst hs
 have hle63:n+m<=140737488355328:=aV (Nat.le_mul_of_pos_right _ (Nat.succ_pos _)) ui
 -- the new row in a new block
 have grown: ∀(wV:Nat) (sW:List Value),wV<n+m->sW.length=n*i.size->
  (∀(i' j:Nat) (f:Nat->DV),i'<n->dp[j]? =some f-> ∃u,sW[i'*i.size+j]? =some u/\eL u=true/\dA (dq w base S0 di) (f i') u)->
  (Builtin.append_ #[t,t] ty #[v,.slice A m c]).run P w= .ok (.slice (some ⟨w.heap.size,0,none⟩) (n+m) (grownCap w (n+m) wV e)) (w.drew.alloc (.cells (sW.toArray++news.toArray++Builtin.zeroCells z.cells (grownCap w (n+m) wV e - (n+m))) e))->
  ∃v' w',(Builtin.append_ #[t,t] ty #[v,.slice A m c]).run P w= .ok v' w'/\ ∃eV du,R base w0 S0 σ' eV du a w'/\
  Rel (dq w' base S0 du) eV du (.row i.size id 0 (n+m)) v'/\ ∀i,eV i->kn i\/i=id:=by
  intro wV sW ho j5 hold dN
  have iG:=grownCap_ge w (n+m) wV e
  refine ⟨_,_,dN,_,_,mv (.at_ w.heap.size (grownCap w (n+m) wV e)) _ (.inr ⟨_,.inl ⟨_,rfl⟩,.inr ⟨ae _,by rw [World.size_alloc];exact Nat.lt_succ_self _⟩⟩) (by rw [World.size_alloc];exact Nat.le_succ _) rfl rfl rfl (fun _=>Nat.le_succ _) (fun k hk _=>World.yJ w.drew _ k hk)
   (fun mono=> .inr ⟨_,0,_,_,e,.inr ⟨rfl,rfl⟩,heap_alloc_new w.drew _,?_,iG,fun i' j f lV hf=> ?_⟩),.row (.inr rfl) ⟨_,_,rfl,fun h=>by cases h⟩ (fun h=> ?_) (fun g C h=> ?_) (fun g o C h=>by rw [HH] at h;cases h),fun _ h=>h⟩
  ·refine Nat.le_of_eq ?_
   simp only [Array.size_append,bZ,size_zeroCells,NN,j5,lk,<-cd,hF,aE]
   congr 1;omega
  ·obtain ⟨u,hu,Zk,hr⟩:=uV (rest:=(Builtin.zeroCells z.cells (grownCap w (n+m) wV e - (n+m))).toList) hF j5 hold yX jh (Kg _) i' j f lV hf
   refine ⟨u,?_,Zk,mono hr⟩
   rw [<-hu,aE]
   congr 1
   apply cB
   simp [cA]
  ·rw [HH] at h;cases h
  ·rw [HH] at h
   simp only [aa,Loc.at_.injEq] at h
   obtain ⟨rfl,rfl⟩:=h
   exact .inl ⟨by simp,by omega⟩
 rcases HE with ⟨rfl,rfl⟩|⟨g,o,C,cv,T,rfl,NT,Cs,hg,eW,hold⟩
 ·by_cases hm:m=0
  ·subst hm
   have yW:news=[]:=cK (by simpa using lk)
   subst yW
   have hf:=kP (P:=P) (w:=w) (c:=c) lk po fe
   refine ⟨.slice none 0 0,w,?_,_,_,mv .nil w (.inl rfl) (ae _) rfl rfl rfl (fun _=>ae _) (fun _ _ _=>rfl) (fun _=> .inl ⟨rfl,rfl⟩),.row (.inr rfl) ⟨_,_,rfl,fun _=>rfl⟩ (fun _=>⟨rfl,rfl,rfl⟩) (fun g C h=> ?_) (fun g o C h=>by rw [HH] at h;cases h),fun _ h=>h⟩
   ·simp [Builtin.append_,run_underlying ht,sizeOf,typeInfo,hi,Builtin.lenOf,hf]
   ·rw [HH] at h;cases h
  ·cases A with
   |none=>exact absurd (po rfl) hm
   |some ad=>
    have dN:=run_append_nil (P:=P) w t ty e i z ht hi hz ad m c news lk (fe ad rfl) (by omega) (by omega) (by rw [Mt];rw [aE] at ui;omega)
    refine grown 0 [] (by omega) (by simp) (fun i' j f h=>by omega) ?_
    simpa using dN
 ·by_cases kq:n+m<=C
  ·have Fe:o+n*i.size+news.length<=cv.size:=by
    have:=aK i.size kq
    rw [cd] at this
    rw [lk];omega
   have hf:=kP (P:=P) (w:=w) (c:=c) lk po fe
   have dN:=Cd (P:=P) (ty:=ty) ht hi hg hf jh kq Fe
   refine ⟨_,_,dN,_,_,mv (.sub g o C) _ (.inr ⟨_,.inr ⟨_,_,rfl⟩,.inl Cs⟩) (by simp) rfl rfl rfl (fun _=>ae _) (fun k _ hk=>setRow_other w g k _ fun e=>hk (e▸Cs))
    (fun mono=> .inr ⟨g,o,C,_,T,.inl rfl,setRow_heap w g cv _ T _ hg,?_,kq,fun i' j f lV ll=> ?_⟩),.row (.inr rfl) ⟨_,_,rfl,fun h=>by cases h⟩ (fun h=> ?_) (fun g' C' h=>by rw [HH] at h;cases h) (fun g' o' C' h=> ?_),fun _ h=>h⟩
   ·simp only [bZ,aS,aQ,bn,bF,hF];omega
   ·have oI:((cv.toList.drop o).take (n*i.size)).length=n*i.size:=by rw [aQ,bn,bF];omega
    obtain ⟨u,hu,Zk,hr⟩:=uV (rest:=cv.toList.drop (o+n*i.size+news.length)) hF oI (DO i.size dp iH cv hold) yX jh (Kg _) i' j f lV ll
    refine ⟨u,?_,Zk,mono hr⟩
    rw [cy] at hu ⊢
    have ho:(cv.toList.take o).length=o:=by rw [aQ,bF];omega
    have e:cv.toList.take (o+n*i.size)++news++cv.toList.drop (o+n*i.size+news.length)=cv.toList.take o++((cv.toList.drop o).take (n*i.size)++(news++cv.toList.drop (o+n*i.size+news.length))):=by rw [List.take_add];simp [cA]
    rw [e,bk (by omega),ho,Nat.add_sub_cancel_left]
    exact hu
   ·rw [HH] at h;cases h
   ·rw [HH] at h
    simp only [aa,Loc.sub.injEq] at h
    obtain ⟨rfl,rfl,rfl⟩:=h
    exact .inl ⟨by simp,by omega⟩
  ·cases A with
   |none=>
    have:=po rfl
    omega
   |some ad=>
    have Fe:o+n*i.size<=cv.size:=by
     have:=aK i.size NT
     omega
    have oI:((cv.toList.drop o).take (n*i.size)).length=n*i.size:=by rw [aQ,bn,bF];omega
    have dN:=run_append_grow (P:=P) w t ty e i z ht hi hz ⟨g,o,none⟩ n C ((cv.toList.drop o).take (n*i.size)) oI (fun j u hu=>by
     rw [bS] at hu
     split at hu
     ·rw [bK,bo] at hu
      rw [eF]
      simp only [World.cell?,hg,hu]
      rfl
     ·cases hu) ad m c news lk (fe ad rfl) (by omega) (by omega) (growslice_fits (by omega) (by rw [Mt];exact ui))
    exact grown C _ (by omega) oI (DO i.size dp iH cv hold) dN
end
end Go.Abs
end
