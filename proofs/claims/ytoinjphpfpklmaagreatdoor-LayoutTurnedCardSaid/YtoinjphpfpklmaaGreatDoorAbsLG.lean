/- Contracts and what they stand on. -/
import Derived.Test.YtoinjphpfpklmaaGreatDoorAbsL
set_option linter.unusedVariables false
set_option linter.unusedSimpArgs false
section
namespace Go.Abs
open Go.RowKit
def FM (es:List MapEntry) (clock:Nat) (kv val:Value) (kZ:List MapEntry) (fL:Nat):Prop:=
 ((∀e∈es,e.key≠kv)/\kZ=es++[⟨kv,val,clock⟩]/\fL=clock+1)\/ ∃(j:Nat) (e0:MapEntry),es[j]? =some e0/\e0.key=kv/\kZ=es.set j { e0 with val:=val }/\fL=clock
section
variable {es kZ:List MapEntry} {clock fL:Nat} {kv val:Value}
theorem Iy (hd:es.Pairwise fun x y=>x.key≠y.key) {i j:Nat} {x y:MapEntry} (hi:es[i]? =some x) (hj:es[j]? =some y) (hk:x.key=y.key):i=j:=by
 rcases Nat.lt_trichotomy i j with h|h|h
 ·obtain ⟨lV,rfl⟩:=ai.1 hi
  obtain ⟨oJ,rfl⟩:=ai.1 hj
  exact absurd hk (cH.1 hd i j lV oJ h)
 ·exact h
 ·obtain ⟨lV,rfl⟩:=ai.1 hi
  obtain ⟨oJ,rfl⟩:=ai.1 hj
  exact absurd hk.symm (cH.1 hd j i oJ lV h)
theorem FM.mem (h:FM es clock kv val kZ fL) (hd:es.Pairwise fun x y=>x.key≠y.key) {x:MapEntry} (hx:x∈kZ):(x∈es/\x.key≠kv)\/(x.key=kv/\x.val=val):=by
 rcases h with ⟨h1,rfl,_⟩|⟨j,e0,h1,h2,rfl,_⟩
 ·rcases aO.1 hx with hx|hx
  ·exact .inl ⟨hx,h1 x hx⟩
  ·simp at hx;subst hx;exact .inr ⟨rfl,rfl⟩
 ·obtain ⟨i,hi⟩:=cM.1 hx
  rw [cW] at hi
  split at hi
  ·split at hi
   ·cases hi;exact .inr ⟨h2,rfl⟩
   ·cases hi
  ·rename_i ji
   refine .inl ⟨aD hi,fun e=>ji ?_⟩
   exact (Iy hd hi h1 (by rw [e,h2])).symm
theorem FM.wV (h:FM es clock kv val kZ fL) {x:MapEntry} (hx:x∈es) (hk:x.key≠kv):x∈kZ:=by
 rcases h with ⟨h1,rfl,_⟩|⟨j,e0,h1,h2,rfl,_⟩
 ·exact aP _ hx
 ·obtain ⟨i,hi⟩:=cM.1 hx
  refine cM.2 ⟨i,?_⟩
  rw [cW,ab]
  ·exact hi
  ·rintro rfl
   rw [h1] at hi;cases hi;exact hk h2
theorem FM.new (h:FM es clock kv val kZ fL): ∃x∈kZ,x.key=kv/\x.val=val:=by
 rcases h with ⟨h1,rfl,_⟩|⟨j,e0,h1,h2,rfl,_⟩
 ·exact ⟨_,aU _ (au.2 rfl),rfl,rfl⟩
 ·refine ⟨{ e0 with val:=val },cM.2 ⟨j,?_⟩,h2,rfl⟩
  rw [cW,ag rfl,ag (ai.1 h1).1]
theorem FM.keys (h:FM es clock kv val kZ fL) (hd:es.Pairwise fun x y=>x.key≠y.key):kZ.Pairwise fun x y=>x.key≠y.key:=by
 rcases h with ⟨h1,rfl,_⟩|⟨j,e0,h1,h2,rfl,_⟩
 ·refine List.pairwise_append.2 ⟨hd,List.pairwise_singleton _ _,fun x hx y hy=> ?_⟩
  simp at hy;subst hy;exact h1 x hx
 ·have:(es.set j { e0 with val:=val }).map (·.key)=es.map (·.key):=by
   apply cV
   intro i
   simp only [aw,cW]
   by_cases e:j=i
   ·subst e
    obtain ⟨dR,h3⟩:=ai.1 h1
    simp [dR,h3]
   ·simp [e]
  have hm:=(List.pairwise_map (f:=fun e:MapEntry=>e.key) (R:=fun a b:Value=>a≠b)).2 hd
  rw [<-this] at hm
  exact List.pairwise_map.1 hm
theorem FM.stamps (h:FM es clock kv val kZ fL) (hs:KX es clock):KX kZ fL:=by
 rcases h with ⟨h1,rfl,rfl⟩|⟨j,e0,h1,h2,rfl,rfl⟩
 ·refine ⟨List.pairwise_append.2 ⟨hs.apart,List.pairwise_singleton _ _,fun x hx y hy=> ?_⟩,fun x hx=> ?_⟩
  ·simp at hy;subst hy
   have:=hs.below x hx
   show x.born≠clock
   omega
  ·rcases aO.1 hx with hx|hx
   ·have:=hs.below x hx;omega
   ·simp at hx;subst hx;exact Nat.lt_succ_self _
 ·have hb:(es.set j { e0 with val:=val }).map (·.born)=es.map (·.born):=by
   apply cV
   intro i
   simp only [aw,cW]
   by_cases e:j=i
   ·subst e
    obtain ⟨dR,h3⟩:=ai.1 h1
    simp [dR,h3]
   ·simp [e]
  refine ⟨?_,fun x hx=> ?_⟩
  ·have hm:=(List.pairwise_map (f:=fun e:MapEntry=>e.born) (R:=fun a b:Nat=>a≠b)).2 hs.apart
   rw [<-hb] at hm
   exact List.pairwise_map.1 hm
  ·have:x.born∈es.map (·.born):=by rw [<-hb];exact bf.2 ⟨x,hx,rfl⟩
   obtain ⟨y,hy,e⟩:=bf.1 this
   rw [<-e];exact hs.below y hy
theorem BN.upd {rd:Rd} {ks:KS} {has:List Int->Bool} {eQ:List Int->DV} {l:List Int} {d:DV} (hm:BN rd ks has eQ es) (h:FM es clock kv val kZ fL) (hk:gz ks kv=some l) (ho:eL val=true) (hv:dA rd d val):BN rd ks (oD l has) (xl l d eQ) kZ:=by
 have key: ∀{x:MapEntry} {l':List Int},gz ks x.key=some l'->x.key≠kv->l'≠l:=fun {x l'} hx ji e=>ji (nu (by rw [hx,e]) hk)
 refine ⟨fun x hx=> ?_,fun l' lG=> ?_,h.keys hm.hd,fun x hx=> ?_,fun x l' hx zy=> ?_⟩
 ·rcases h.mem hm.hd hx with ⟨h1,h2⟩|⟨h1,h2⟩
  ·obtain ⟨l',a,b⟩:=hm.hk x h1
   exact ⟨l',a,by simp [oD,b]⟩
  ·exact ⟨l,by rw [h1];exact hk,by simp [oD]⟩
 ·by_cases e:l'=l
  ·obtain ⟨x,hx,Kf,_⟩:=h.new
   exact ⟨x,hx,by rw [Kf,e];exact hk⟩
  ·simp only [oD,bI e,Bool.false_or] at lG
   obtain ⟨x,hx,Kf⟩:=hm.hh l' lG
   exact ⟨x,h.wV hx (fun e1=>e (by rw [e1,hk] at Kf;exact (bc Kf).symm)),Kf⟩
 ·rcases h.mem hm.hd hx with ⟨h1,_⟩|⟨_,h2⟩
  ·exact hm.hs x h1
  ·rw [h2];exact ho
 ·unfold xl
  rcases h.mem hm.hd hx with ⟨h1,h2⟩|⟨h1,h2⟩
  ·have ji:=key zy h2
   refine eJ ⟨fun e=> ?_,fun _=>hm.h x l' h1 zy⟩
   simp at e;exact absurd e ji
  ·rw [h1,hk] at zy
   cases zy
   refine eJ ⟨fun _=>by rw [h2];exact hv,fun e=> ?_⟩
   simp at e
theorem FM.toList {es:Array MapEntry} {j:Nat} {e0:MapEntry} (h1:es.toList[j]? =some e0) (h2:e0.key=kv):FM es.toList clock kv val (es.modify j fun e=>{ e with key:=kv,val:=val }).toList clock:=by
 refine .inr ⟨j,e0,h1,h2,?_,rfl⟩
 rw [c9]
 apply cV
 intro i
 rw [cT,cW]
 by_cases e:j=i
 ·subst e
  have dR:=(ai.1 h1).1
  rw [h1,ag rfl,ag dR]
  simp [<-h2]
 ·simp [e]
end
theorem iX {a b:KS} (h:mI a b=true):a=b:=by
 cases a<;>cases b<;>simp only [mI,bT] at h<;>first|rfl|(rw [af h])
section
variable {P:Program} {base:Nat} {w0 w w':World} {S0:Env} {σ σ':St} {kn:Nat->Prop} {di:Nat->Option Loc} {a:Act}
theorem p6 {t:TypeId} {ks:KS} {z:DV} (h:AQ P t=some (ks,z)): ∃k e zv,P.underlying t=some (.map k e)/\mm P k ks/\z= .val zv/\eL zv=true/\ ∀w:World,(zeroValue e).run P w= .ok zv w:=by
 unfold AQ at h
 split at h
 ·rename_i k e hu
  split at h
  ·rename_i nL zv hk hz
   simp only [aa,aB] at h
   obtain ⟨rfl,rfl⟩:=h
   unfold PY at hz
   split at hz
   ·rename_i i hi
    split at hz
    ·rename_i z' hz'
     cases ho:eL z'
     ·simp [ho] at hz
     ·simp only [ho,ao,aa] at hz
      subst hz
      exact ⟨k,e,z',hu,Kc hk,rfl,ho,fun w=>by simp [zeroValue,typeInfo,hi,hz']⟩
    ·cases hz
   ·cases hz
  ·cases h
 ·cases h
theorem oi {ks:KS} {k:DV} {l:List Int} {v:Value} {rd:Rd} (h:xz ks k=some l) (hv:Rel rd kn di k v):gz ks v=some l:=by
 unfold xz at h
 split at h
 ·cases hv;exact h
 ·cases h
theorem y3 (r:R base w0 S0 σ kn di a w) (rQ:S0.wb=none) {id:Nat} (fJ: ¬kn id) {t:TypeId} {e:fg} (he:xM P id t=e) (dr:dw e.vc):ma P base w0 S0 σ kn a w id (Instr.makeMap t none) e:=by
 have dN:(Instr.makeMap t none).run P w= .ok (.map (some w.heap.size)) (w.alloc (.map #[] 0)):=by simp [Instr.makeMap,newObj];rfl
 have key: ∀o,(∀du,(∀i,du i=if i=id then some (.map w.heap.size []) else di i)->iu (w.alloc (.map #[] 0)) (dq (w.alloc (.map #[] 0)) base S0 du) (fun i=>kn i\/i=id) du (some (.map w.heap.size [])) o)->ma P base w0 S0 σ kn a w id (Instr.makeMap t none) { d:= .lg id,hw:=[(id,some o)] }:=by
  intro o ho
  have q:=r.newAt (w':=w.alloc (.map #[] 0)) (o:=o) (l:= .map w.heap.size []) fJ ((Below.refl _ _).alloc (ae _) _) (fun g hg=>by rcases hg with rfl|hg<;>simp_all) (fun B hB=>by rw [rQ] at hB;cases hB) fun _ _=>ho _ fun _=>rfl
  refine ⟨_,_,dN,_,_,q,.lg (.inr rfl) ⟨_,rfl⟩ fun g bs e=> ?_,fun i hi=>hi⟩
  simp only [ba,aa,Loc.map.injEq] at e
  rw [e.1]
 unfold xM at he
 split at he
 ·split at he
  ·subst he
   exact key _ fun du _=>⟨_,_,_,_,rfl,heap_alloc_new w _,⟨by simp,by simp,fun l _ _=>rfl,by simp,by simp⟩,by simp,by simp⟩
  ·subst he
   exact key _ fun du _=>⟨_,_,_,rfl,heap_alloc_new w _,⟨by simp,by simp,by simp,by simp,by simp⟩,⟨by simp,by simp⟩,by simp⟩
 ·subst he;exact dn dr
def yx (ok:Bool) (v:Value) (b:Bool):Value:=if ok then .tuple #[v,.bool b] else v
theorem tJ {t k e:TypeId} {ks:KS} (hu:P.underlying t=some (.map k e)) (K:mm P k ks) {zv:Value} (hz: ∀w:World,(zeroValue e).run P w= .ok zv w) {kv:Value} {l:List Int} (hk:gz ks kv=some l) {g:Nat} {es:Array MapEntry} {clock:Nat}
 (hh:w.heap[g]? =some (.map es clock)) (Js: ∀e∈es.toList,∃l,gz ks e.key=some l) (ok:Bool):
 (∃x∈es.toList,x.key=kv/\(Instr.lookup t (.map (some g)) kv ok).run P w= .ok (yx ok x.val true) w)\/((∀x∈es.toList,x.key≠kv)/\(Instr.lookup t (.map (some g)) kv ok).run P w= .ok (yx ok zv false) w):=by
 rcases K.find w hk es.toList Js with ⟨h1,h2⟩|⟨j,x,h1,h2,h3⟩
 ·right
  refine ⟨h2,?_⟩
  simp [Instr.lookup,run_underlying hu,MapKept.run_getObj_map hh,K.check w _ hk,h1,hz,yx]
 ·left
  refine ⟨x,aD h2,h3,?_⟩
  simp [Instr.lookup,run_underlying hu,MapKept.run_getObj_map hh,K.check w _ hk,h1,yx]
theorem oh {rd:Rd} {ok:Bool} {d:DV} {b:Bool} {v:Value} (hv:Rel rd kn di d v):(sH ok d b).hw=[]/\Rel rd kn di (sH ok d b).d (yx ok v b):=by
 cases ok
 ·exact ⟨rfl,hv⟩
 ·refine ⟨rfl,.fC (by simp) fun j d' u hd hu=> ?_⟩
  match j,hd,hu with
  |0,hd,hu=>simp at hd hu;subst hd hu;exact hv
  |1,hd,hu=>simp at hd hu;subst hd hu;exact .val _
theorem Bn (r:R base w0 S0 σ kn di a w) {id:Nat} (fJ: ¬kn id) {t:TypeId} {x k:DV} {ok:Bool} {vx vk:Value} {e:fg} (he:pA P σ.obj id t x k ok=e) (dr:dw e.vc)
 (hx:Rel (dq w base S0 di) kn di x vx) (hk:Rel (dq w base S0 di) kn di k vk):ma P base w0 S0 σ kn a w id (Instr.lookup t vx vk ok) e:=by
 unfold pA at he
 split at he
 ·rename_i ks z SP
  obtain ⟨kt,et,zv,hu,K,rfl,hzo,hz⟩:=p6 SP
  split at he
  ·rename_i l hl
   have pq:=oi hl hk
   split at he
   ·rename_i nL has eQ
    cases hq:mI ks nL
    ·simp only [hq,ar] at he;subst he;exact dn dr
    ·simp only [hq,ao] at he
     obtain rfl:=iX hq
     subst he
     refine Still.runs r ?_
     cases hx with
     |mp es h0 ha SS hh hd hs hr=>
      rename_i A
      have fin: ∀v b,(Instr.lookup t (.map A) vk ok).run P w= .ok (yx ok v b) w->has l=b->dA (dq w base S0 di) (th (has l) (eQ l) (.val zv)) v->Still P base S0 kn di w (Instr.lookup t (.map A) vk ok) (sH ok (th (has l) (eQ l) (.val zv)) (has l)):=fun v b h1 h2 h3=>by
       subst h2
       obtain ⟨k1,k2⟩:=oh (ok:=ok) (b:=has l) (ee (kn:=kn) (di:=di) h3)
       exact ⟨k1,_,h1,k2⟩
      have E0:(∀e∈es,e.1≠vk)->has l=false:=fun h=>by
       cases hb:has l
       ·rfl
       ·obtain ⟨e,he,hek⟩:=hh l hb
        exact absurd (nu hek pq) (h e he)
      cases A with
      |none=>
       have:=h0 rfl
       subst this
       have hb:=E0 (by simp)
       refine fin zv false ?_ hb (eJ ⟨fun e=> ?_,fun _=> .val _⟩)
       ·have hf:(Instr.findKey kt vk []).run P w= .ok none w:=by
         rcases K.find w pq [] (by simp) with ⟨h,_⟩|⟨j,e,_,h,_⟩
         ·exact h
         ·simp at h
        simp [Instr.lookup,run_underlying hu,K.check w _ pq,hf,hz,yx]
       ·rw [hb] at e;cases e
      |some g=>
       obtain ⟨kZ,c,xD,Js⟩:=TX (ha g rfl).1
       ·have kE: ∀e∈kZ.toList,∃l,gz ks e.key=some l:=fun e he=>by
         obtain ⟨l',a,_⟩:=SS (e.key,e.val) (by rw [Js];exact bf.2 ⟨e,he,rfl⟩)
         exact ⟨l',a⟩
        rcases tJ hu K hz pq xD kE ok with ⟨x,hx,Kf,dN⟩|⟨NS,dN⟩
        ·have qt:(x.key,x.val)∈es:=by rw [Js];exact bf.2 ⟨x,hx,rfl⟩
         obtain ⟨l',a',b'⟩:=SS _ qt
         have Cp:l'=l:=by rw [show (x.key,x.val).1=vk from Kf] at a';rw [a'] at pq;exact bc pq
         subst Cp
         refine fin x.val true dN b' (eJ ⟨fun _=>hr _ _ qt a',fun e=> ?_⟩)
         rw [b'] at e;cases e
        ·have hb:=E0 fun e he=>by
          rw [Js] at he
          obtain ⟨y,hy,rfl⟩:=bf.1 he
          exact NS y hy
         refine fin zv false dN hb (eJ ⟨fun e=> ?_,fun _=> .val _⟩)
         rw [hb] at e;cases e
   ·subst he
    cases hx
    refine Still.runs r ?_
    have hf:(Instr.findKey kt vk []).run P w= .ok none w:=by
     rcases K.find w pq [] (by simp) with ⟨h,_⟩|⟨j,e,_,h,_⟩
     ·exact h
     ·simp at h
    obtain ⟨k1,k2⟩:=oh (ok:=ok) (b:=false) (d:= .val zv) (v:=zv) (rd:=dq w base S0 di) (kn:=kn) (di:=di) (.val _)
    exact ⟨k1,_,by simp [Instr.lookup,run_underlying hu,K.check w _ pq,hf,hz,yx],k2⟩
   ·rename_i m
    split at he
    ·rename_i nL has eQ qY fE
     cases hq:mI ks nL
     ·simp only [hq,ar] at he;subst he;exact dn dr
     ·simp only [hq,ao] at he
      obtain rfl:=iX hq
      subst he
      refine Still.runs r ?_
      obtain ⟨_,g,es,clock,vL,xD,hm,_,_⟩:=r.eC _ _ fE
      have Gk:vx= .map (some g):=by cases hx with|lg _ _ h=>exact h g [] vL
      subst Gk
      rcases tJ hu K hz pq xD (fun e he=>let ⟨l,a,_⟩:=hm.hk e he;⟨l,a⟩) ok with ⟨x,hx,Kf,dN⟩|⟨NS,dN⟩
      ·obtain ⟨l',a',b'⟩:=hm.hk x hx
       have Cp:l'=l:=by rw [Kf] at a';rw [a'] at pq;exact bc pq
       subst Cp
       have h3:dA (dq w base S0 di) (th (has l') (eQ l') (.val zv)) x.val:=eJ ⟨fun _=>hm.h x l' hx a',fun e=>by rw [b'] at e;cases e⟩
       obtain ⟨k1,k2⟩:=oh (ok:=ok) (b:=has l') (ee (kn:=kn) (di:=di) h3)
       exact ⟨k1,_,by rw [b'];exact dN,k2⟩
      ·have hb:has l=false:=by
        cases hb:has l
        ·rfl
        ·obtain ⟨e,he,hek⟩:=hm.hh l hb
         exact absurd (nu hek pq) (NS e he)
       have h3:dA (dq w base S0 di) (th (has l) (eQ l) (.val zv)) zv:=eJ ⟨(fun e=>by rw [hb] at e;cases e),fun _=> .val zv⟩
       obtain ⟨k1,k2⟩:=oh (ok:=ok) (b:=has l) (ee (kn:=kn) (di:=di) h3)
       exact ⟨k1,_,by rw [hb];exact dN,k2⟩
    ·rename_i nL len eQ qY fE
     cases hq:mI ks nL
     ·simp only [hq,ar] at he;subst he;exact dn dr
     ·simp only [hq,ao] at he
      obtain rfl:=iX hq
      split at he
      ·rename_i QZ
       cases QZ
       subst he
       obtain ⟨UH,g,bs,es,clock,vL,xD,hG,rV,nV⟩:=r.eC _ _ fE
       have Gk:vx= .map (some g):=by cases hx with|lg _ _ h=>exact h g bs vL
       subst Gk
       have HC:m≠id:=fun e=>fJ (e▸UH)
       -- the slice at the key
       obtain ⟨v,dN,rW,hov⟩: ∃v,(Instr.lookup t (.map (some g)) vk false).run P w= .ok v w/\atKey ks es.toList l v/\eL v=true:=by
        rcases tJ hu K hz pq xD hG.hk false with ⟨x,hx,Kf,dN⟩|⟨NS,dN⟩
        ·have zy:gz ks x.key=some l:=by rw [Kf];exact pq
         refine ⟨x.val,dN,.inl ⟨x,hx,zy,rfl⟩,?_⟩
         rcases hG.Ju x l hx zy (by simp) with ⟨h,_⟩|⟨_,_,_,_,h,_⟩<;>rw [h]<;>rfl
        ·exact ⟨_,dN,.inr ⟨fun e he h=>NS e he (nu h pq),rfl⟩,rfl⟩
       have q:=r.newAt (w':=w) (o:= .tok) (l:= .is v) fJ (Below.refl _ _) (fun _ hg=>hg.elim) (fun _ _ _ _ h=>by cases h) fun _ _=>⟨v,rfl⟩
       have hobm:(σ.setObj id (some .tok)).obj m=some (.np ks len eQ qY none):=by rw [St.dH,ab (fun e=>HC e.symm)];exact fE
       have q2:=q.Qb (id:=m) (o:= .np ks len eQ ((id,l)::qY) none) (.inl UH) (by
        obtain ⟨_,g',yI,kZ,fL,NU,Zw,hG',Ry,hhot'⟩:=q.eC _ _ hobm
        refine ⟨g',yI,kZ,fL,NU,Zw,hG',Ry,fun t k hm=> ?_⟩
        rcases aR.1 hm with hm|hm
        ·cases hm
         rw [ab HC] at NU
         rw [vL] at NU
         cases NU
         rw [xD] at Zw
         cases Zw
         exact ⟨v,ag rfl,rW⟩
        ·exact hhot' t k hm)
       refine ⟨v,w,dN,_,_,q2,.tok (.inr rfl) hov fun u e=> ?_,fun _ h=>h⟩
       rw [ag rfl] at e
       cases e;rfl
      ·subst he;exact dn dr
    ·subst he;exact dn dr
   ·subst he;exact dn dr
  ·subst he;exact dn dr
 ·subst he;exact dn dr
theorem gZ {r:Nat} {o:Obj} {k:Nat} (h:k≠r):({ w with heap:=w.heap.setIfInBounds r o }:World).heap[k]? =w.heap[k]? :=by simp [Ne.symm h]
theorem lO {r:Nat} {o x:Obj} (h:w.heap[r]? =some x):({ w with heap:=w.heap.setIfInBounds r o }:World).heap[r]? =some o:=by simp [ef h]
theorem ti {t k e:TypeId} {ks:KS} (hu:P.underlying t=some (.map k e)) (K:mm P k ks) {kv val:Value} {l:List Int} (hk:gz ks kv=some l) {g:Nat} {es:Array MapEntry} {clock:Nat}
 (hh:w.heap[g]? =some (.map es clock)) (Js: ∀e∈es.toList,∃l,gz ks e.key=some l):
 ∃kZ fL,(Instr.mapUpdate t (.map (some g)) kv val).run P w= .ok () { w with heap:=w.heap.setIfInBounds g (.map kZ fL) }/\FM es.toList clock kv val kZ.toList fL:=by
 rcases K.find w hk es.toList Js with ⟨h1,h2⟩|⟨j,e0,h1,h2,h3⟩
 ·refine ⟨es.push ⟨kv,val,clock⟩,clock+1,?_,.inl ⟨h2,by simp,rfl⟩⟩
  simp [Instr.mapUpdate,run_underlying hu,MapKept.run_getObj_map hh,K.check w false hk,h1,MapKept.run_setObj_map _ hh,Result.andThen]
 ·have hj:es[j]? =some e0:=by simpa using h2
  refine ⟨es.modify j fun e=>{ e with key:=kv,val:=val },clock,?_,FM.toList h2 h3⟩
  simp [Instr.mapUpdate,run_underlying hu,MapKept.run_getObj_map hh,K.check w false hk,h1,hj,h3,K.stays w hk,MapKept.run_setObj_map _ hh,Result.andThen]
theorem EG {t k e:TypeId} {ks:KS} (hu:P.underlying t=some (.map k e)) (K:mm P k ks) {zv:Value} (hz: ∀w:World,(zeroValue e).run P w= .ok zv w) {kv:Value} {l:List Int} (hk:gz ks kv=some l) {g:Nat} {es:Array MapEntry} {clock:Nat}
 (hh:w.heap[g]? =some (.map es clock)) (Js: ∀e∈es.toList,∃l,gz ks e.key=some l):
 ∃kZ fL v n,(Instr.mapEntry t (.map (some g)) kv).run P w= .ok (.tuple #[v,.int .i64 (n:Nat)]) { w with heap:=w.heap.setIfInBounds g (.map kZ fL) }/\FM es.toList clock kv v kZ.toList fL/\
  (∃e∈kZ.toList,e.key=kv/\e.born=n)/\((∃e∈es.toList,e.key=kv/\e.val=v)\/((∀e∈es.toList,e.key≠kv)/\v=zv)):=by
 rcases K.find w hk es.toList Js with ⟨h1,h2⟩|⟨j,e0,h1,h2,h3⟩
 ·refine ⟨es.push ⟨kv,zv,clock⟩,clock+1,zv,clock,?_,.inl ⟨h2,by simp,rfl⟩,⟨⟨kv,zv,clock⟩,by simp,rfl,rfl⟩,.inr ⟨h2,rfl⟩⟩
  simp [Instr.mapEntry,run_underlying hu,MapKept.run_getObj_map hh,K.check w false hk,h1,hz,MapKept.run_setObj_map _ hh,Result.andThen,goInt]
 ·have hj:es[j]? =some e0:=by simpa using h2
  have Ri:(es.modify j fun e=>{ e with key:=kv }).toList=(es.modify j fun e=>{ e with key:=kv,val:=e0.val }).toList:=by
   rw [c9,c9]
   apply cV
   intro i
   rw [cT,cT]
   by_cases e:j=i
   ·subst e;rw [h2];simp
   ·simp [e]
  refine ⟨es.modify j fun e=>{ e with key:=kv },clock,e0.val,e0.born,?_,by rw [Ri];exact FM.toList h2 h3,⟨{ e0 with key:=kv },?_,rfl,rfl⟩,.inl ⟨e0,aD h2,h3,rfl⟩⟩
  ·simp [Instr.mapEntry,run_underlying hu,MapKept.run_getObj_map hh,K.check w false hk,h1,hj,h3,K.stays w hk,MapKept.run_setObj_map _ hh,Result.andThen,goInt]
  ·rw [c9]
   refine cM.2 ⟨j,?_⟩
   rw [cT,h2];simp
theorem vP (r:R base w0 S0 σ kn di a w) {t:TypeId} {m k v:DV} {vm vk vv:Value} {e:fg} (he:hU P σ.obj t m k v=e) (dr:dw e.vc)
 (hm:Rel (dq w base S0 di) kn di m vm) (hk:Rel (dq w base S0 di) kn di k vk) (hv:Rel (dq w base S0 di) kn di v vv):
 e.d= .any/\ ∃w' du,(Instr.mapUpdate t vm vk vv).run P w= .ok () w'/\R base w0 S0 (σ.fX e) kn du a w':=by
 unfold hU at he
 split at he
 ·rename_i ks z SP
  obtain ⟨kt,et,zv,hu,K,_,hzo,hz⟩:=p6 SP
  split at he
  ·rename_i l hl
   have pq:=oi hl hk
   split at he
   ·rename_i mi
    split at he
    ·rename_i nL has eQ qY fE
     cases hq:(mI ks nL&&(v.closed&&v.one))
     ·simp only [hq,ar] at he;subst he;exact dn dr
     ·simp only [hq,ao] at he
      simp only [an] at hq
      obtain ⟨hq1,Y8,hvo⟩:=hq
      obtain rfl:=iX hq1
      subst he
      obtain ⟨UH,g,es,clock,vL,xD,hM,mh,nV⟩:=r.eC _ _ fE
      have Gk:vm= .map (some g):=by cases hm with|lg _ _ h=>exact h g [] vL
      subst Gk
      obtain ⟨kZ,fL,dN,Jq⟩:=ti (val:=vv) hu K pq xD fun e he=>let ⟨l,a,_⟩:=hM.hk e he;⟨l,a⟩
      refine ⟨rfl,_,di,dN,r.zT vL (by simp) rfl rfl rfl (fun k hk=>gZ fun e=>hk (.inl e)) fun _ tu=> ?_⟩
      exact ⟨g,kZ,fL,rfl,lO xD,(hM.upd Jq pq (hv.one hvo) (hv.close Y8)).mono tu,Jq.stamps mh,fun _ _ h=>by cases h⟩
    ·rename_i nL len eQ qY sV fE
     split at he
     ·rename_i s q n
      split at he
      ·rename_i n' c hobr
       cases hq:(mI ks nL&&(Nat.beq s 1&& !(Nat.beq q mi)))
       ·simp only [hq,ar] at he;subst he;exact dn dr
       ·simp only [hq,ao] at he
        simp only [an,aM] at hq
        obtain ⟨hq1,Jr,hqm⟩:=hq
        obtain rfl:=iX hq1
        obtain rfl:=af Jr
        have ji:q≠mi:=fun e=>by rw [e] at hqm;simp at hqm
        subst he
        have Rg:n<=n':=dr.hd
        have Re: ∀l0,sV=some l0->l0=l:=fun l0 e=>by
         subst e
         exact dr.tl.one
        obtain ⟨UH,g,bs,es,clock,vL,xD,hG,rV,nV⟩:=r.eC _ _ fE
        have Gk:vm= .map (some g):=by cases hm with|lg _ _ h=>exact h g bs vL
        subst Gk
        obtain ⟨hkq,lU⟩:=r.eC _ _ hobr
        obtain ⟨kZ,fL,dN,Jq⟩:=ti (val:=vv) hu K pq xD hG.hk
        -- the row's block
        obtain ⟨bq,Cs,Cr,hbqc⟩: ∃bq:List Nat,(∀b,b∈bq↔ ∃l,di q=some l/\l.has b)/\xV w (dq w base S0 di) bq n c vv/\ ∀b,b∈bq-> ∃cv T,w.heap[b]? =some (.cells cv T (0,0)):=by
         cases hv with
         |row _ hp h0 h=>
          rcases lU with ⟨hlq,hn0⟩|⟨gq,C,cv,T,hlq,hh,eW,hn,kf⟩
          ·refine ⟨[],fun b=>⟨(fun h=>by cases h),fun ⟨l,e,hb⟩=>(by rw [hlq] at e;cases e;exact hb.elim)⟩,.inl ⟨(h0 hlq).1,by omega⟩,fun b h=>by cases h⟩
          ·have jg:vv= .slice (some ⟨gq,0,none⟩) n C:=by
            rcases h gq C hlq with ⟨e,_⟩|⟨e,_⟩
            ·simpa using e
            ·omega
           refine ⟨[gq],fun b=>⟨fun h=>⟨_,hlq,au.1 h⟩,fun ⟨l,e,hb⟩=>(by rw [hlq] at e;cases e;exact au.2 hb)⟩,.inr ⟨gq,C,cv,T,jg,au.2 rfl,hh,by simpa using eW,by omega,fun i hi=> ?_⟩,fun b hb=> ?_⟩
           ·obtain ⟨u,qV,ho,hr⟩:=kf i 0 c (by omega) rfl
            exact ⟨u,by simpa using qV,ho,hr⟩
           ·rw [au.1 hb];exact ⟨_,_,hh⟩
        have hgq: ∀b,b∈bq++bs->b≠g:=fun b hb e=>by
         subst e
         rcases aO.1 hb with hb|hb
         ·obtain ⟨_,_,h⟩:=hbqc _ hb;rw [xD] at h;cases h
         ·obtain ⟨_,_,h⟩:=rV _ hb;rw [xD] at h;cases h
        have hdis: ∀b,b∈bq->b∈bs->False:=fun b h1 h2=>by
         obtain ⟨l',e,hb⟩:=(Cs b).1 h1
         exact ji (r.inj _ _ _ _ b e vL hb (.inr h2))
        refine ⟨rfl,_,(fun i=>if i=mi then some (.map g (bq++bs)) else if i=q then none else di i),dN,?_⟩
        have Rp: ∀b,b≠g->({ w with heap:=w.heap.setIfInBounds g (.map kZ fL) }:World).heap[b]? =w.heap[b]? :=fun b hb=>gZ hb
        refine r.step (fun k=>k=g) (fun i=>i=mi\/i=q) (by simp) rfl rfl rfl (fun k _ hk=>gZ hk) (fun k hk=>⟨mi,_,.inl rfl,vL,.inl hk⟩) (fun _ h=>h) (fun i h=> ?_) (fun i v h hi e=> ?_) (fun i l' b h e hb=> ?_) (fun i l' h hi e=> ?_) rfl rfl rfl (fun _=>rfl) (fun i h=> ?_)
         (fun _ _ mC i o' h e=> ?_) (fun i l' h e=> ?_) (fun i i' l1 l2 b h h' e e' b1 b2=> ?_) fun B hB i b yI h e=> ?_
        ·rw [not_or] at h
         rw [ab h.1,ab h.2]
        ·rcases h with rfl|rfl
         ·rw [vL] at e;cases e
         ·rcases lU with ⟨h,_⟩|⟨_,_,_,_,h,_⟩<;>rw [e] at h<;>cases h
        ·by_cases e1:i=mi
         ·rw [ag e1] at e
          cases e
          rcases hb with hb|hb
          ·exact .inl ⟨mi,_,.inl rfl,vL,.inl hb⟩
          ·rcases aO.1 hb with hb|hb
           ·obtain ⟨l0,e0,Gn⟩:=(Cs b).1 hb
            exact .inl ⟨q,l0,.inr rfl,e0,Gn⟩
           ·exact .inl ⟨mi,_,.inl rfl,vL,.inr hb⟩
         ·rw [ab e1,ag (h.resolve_left e1)] at e;cases e
        ·by_cases e1:i=mi
         ·rw [ag e1] at e
          cases e
          exact ⟨.map g bs,by rw [e1];exact vL,rfl⟩
         ·rw [ab e1,ag (h.resolve_left e1)] at e;cases e
        ·rw [not_or] at h
         show St.obj ((σ.setObj q none).setObj mi _) i=_
         rw [St.dH,ab (fun e=>h.1 e.symm),St.dH,ab (fun e=>h.2 e.symm)]
        ·have e:St.obj ((σ.setObj q none).setObj mi (some (.np ks (fun l'=>if l'=l then n else len l') (fun l' i=>th (decide (l'=l)) (c i) (eQ l' i)) [] none))) i=some o':=e
         by_cases e1:i=mi
         ·rw [St.dH,ag e1.symm,aa] at e
          subst e
          refine ⟨e1▸UH,?_⟩
          rw [ag e1]
          have key: ∀{x:MapEntry} {l':List Int},gz ks x.key=some l'->x.key≠vk->l'≠l:=fun {x l'} hx ji e=>ji (nu (by rw [hx,e]) pq)
          refine ⟨g,bq++bs,kZ,fL,rfl,lO xD,⟨fun x hx=> ?_,Jq.keys hG.hd,fun l' lG _=> ?_,fun x l' hx zy _=> ?_,fun x x' l1 l2 b n1 C1 n2 C2 hx hx' h1 h2 _ _ hxx e1 e2=> ?_⟩,fun b hb=> ?_,fun _ _ h=>by cases h⟩
          ·rcases Jq.mem hG.hd hx with ⟨h1,_⟩|⟨h1,_⟩
           ·exact hG.hk x h1
           ·exact ⟨l,by rw [h1];exact pq⟩
          ·have Cp:l'≠l:=fun e=>by
            obtain ⟨x,hx,Kf,_⟩:=Jq.new
            exact lG x hx (by rw [Kf,e];exact pq)
           rw [ab Cp]
           refine hG.E0 l' (fun x hx zy=> ?_) (fun e=>Cp (Re l' e))
           refine lG x (Jq.wV hx fun e=>Cp ?_) zy
           rw [e,pq] at zy;exact (bc zy).symm
          ·rcases Jq.mem hG.hd hx with ⟨h1,h2⟩|⟨h1,h2⟩
           ·have Cp:=key zy h2
            rw [ab Cp]
            have h3:=hG.Ju x l' h1 zy (fun e=>Cp (Re l' e))
            have h4:xV { w with heap:=w.heap.setIfInBounds g (.map kZ fL) } (dq _ base S0 (fun i=>if i=mi then some (.map g (bq++bs)) else if i=q then none else di i)) (bq++bs) (len l') (eQ l') x.val:=h3.mono mC (fun b hb _=>Rp b (hgq b (aU _ hb))) fun b hb=>aU _ hb
            rcases h4 with h|⟨b,C,cv,T,a1,a2,a3,a4,a5,a6⟩
            ·exact .inl h
            ·exact .inr ⟨b,C,cv,T,a1,a2,a3,a4,a5,fun i hi=>let ⟨u,x1,x2,x3⟩:=a6 i hi;⟨u,x1,x2,eJ ⟨(fun e=>by simp at e;exact absurd e Cp),fun _=>x3⟩⟩⟩
           ·have Cp:l'=l:=by rw [h1,pq] at zy;exact (bc zy).symm
            rw [ag Cp,h2]
            have h4:xV { w with heap:=w.heap.setIfInBounds g (.map kZ fL) } (dq _ base S0 (fun i=>if i=mi then some (.map g (bq++bs)) else if i=q then none else di i)) (bq++bs) n c vv:=Cr.mono mC (fun b hb _=>Rp b (hgq b (aP _ hb))) fun b hb=>aP _ hb
            rcases h4 with h|⟨b,C,cv,T,a1,a2,a3,a4,a5,a6⟩
            ·exact .inl h
            ·exact .inr ⟨b,C,cv,T,a1,a2,a3,a4,a5,fun i hi=>let ⟨u,x1,x2,x3⟩:=a6 i hi;⟨u,x1,x2,eJ ⟨(fun _=>x3),fun e=>by simp [Cp] at e⟩⟩⟩
          ·have wV: ∀y l',y∈es.toList->y.key≠vk->gz ks y.key=some l'-> ∀b n C,y.val= .slice (some ⟨b,0,none⟩) n C->b∈bs:=fun y l' hy hyk hyl b n C e=>by
            rcases hG.Ju y l' hy hyl (fun e=>key hyl hyk (Re l' e)) with ⟨h,_⟩|⟨b',C',_,_,h,yA,_⟩
            ·rw [e] at h;cases h
            ·rw [e] at h;cases h;exact yA
           have newb: ∀b n' C,vv= .slice (some ⟨b,0,none⟩) n' C->b∈bq:=fun b n' C e=>by
            rcases Cr with ⟨h,_⟩|⟨b',C',_,_,h,yA,_⟩
            ·rw [e] at h;cases h
            ·rw [e] at h;cases h;exact yA
           rcases Jq.mem hG.hd hx with ⟨a1,a2⟩|⟨a1,a2⟩<;>rcases Jq.mem hG.hd hx' with ⟨b1,b2⟩|⟨b1,b2⟩
           ·exact hG.sep x x' l1 l2 b n1 C1 n2 C2 a1 b1 h1 h2 (fun e=>key h1 a2 (Re l1 e)) (fun e=>key h2 b2 (Re l2 e)) hxx e1 e2
           ·rw [b2] at e2
            exact hdis b (newb b _ _ e2) (wV x l1 a1 a2 h1 b _ _ e1)
           ·rw [a2] at e1
            exact hdis b (newb b _ _ e1) (wV x' l2 b1 b2 h2 b _ _ e2)
           ·exact hxx (by rw [a1,b1])
          ·rw [Rp b (hgq b hb)]
           rcases aO.1 hb with hb|hb
           ·exact hbqc b hb
           ·exact rV b hb
         ·rw [St.dH,ab (fun e'=>e1 e'.symm),St.dH,ag (h.resolve_left e1).symm] at e
          cases e
        ·by_cases e1:i=mi
         ·exact ⟨_,(show St.obj ((σ.setObj q none).setObj mi (some (.np ks (fun l'=>if l'=l then n else len l') (fun l' i=>th (decide (l'=l)) (c i) (eQ l' i)) [] none))) i=_ from by rw [St.dH,ag e1.symm])⟩
         ·rw [ab e1,ag (h.resolve_left e1)] at e;cases e
        ·by_cases e1:i=mi<;>by_cases e2:i'=mi
         ·rw [e1,e2]
         ·rw [ab e2,ag (h'.resolve_left e2)] at e';cases e'
         ·rw [ab e1,ag (h.resolve_left e1)] at e;cases e
         ·rw [ab e1,ag (h.resolve_left e1)] at e;cases e
        ·by_cases e1:i=mi
         ·rw [ag e1] at e
          cases e
          exact r.lh B hB mi g bs vL
         ·rw [ab e1,ag (h.resolve_left e1)] at e;cases e
      ·subst he;exact dn dr
     ·subst he;exact dn dr
    ·subst he;exact dn dr
   ·subst he;exact dn dr
  ·subst he;exact dn dr
 ·subst he;exact dn dr
theorem xK (r:R base w0 S0 σ kn di a w) {id:Nat} (fJ: ¬kn id) {t:TypeId} {m k:DV} {vm vk:Value} {e:fg} (he:ln P σ.obj id t m k=e) (dr:dw e.vc)
 (hm:Rel (dq w base S0 di) kn di m vm) (hk:Rel (dq w base S0 di) kn di k vk):ma P base w0 S0 σ kn a w id (Instr.mapEntry t vm vk) e:=by
 unfold ln at he
 split at he
 ·rename_i ks z SP
  obtain ⟨kt,et,zv,hu,K,rfl,hzo,hz⟩:=p6 SP
  split at he
  ·rename_i l hl
   have pq:=oi hl hk
   split at he
   ·rename_i mi
    split at he
    ·rename_i nL has eQ qY fE
     cases hq:(mI ks nL&&(DV.val zv).closed)
     ·simp only [hq,ar] at he;subst he;exact dn dr
     ·simp only [hq,ao] at he
      simp only [an] at hq
      obtain rfl:=iX hq.1
      subst he
      obtain ⟨UH,g,es,clock,vL,xD,hM,mh,nV⟩:=r.eC _ _ fE
      have HC:mi≠id:=fun e=>fJ (e▸UH)
      have Gk:vm= .map (some g):=by cases hm with|lg _ _ h=>exact h g [] vL
      subst Gk
      obtain ⟨kZ,fL,v,n,dN,Jq,⟨x,hx,Kf,hxb⟩,hcur⟩:=EG hu K hz pq xD fun e he=>let ⟨l,a,_⟩:=hM.hk e he;⟨l,a⟩
      have Q0:dA (dq w base S0 di) (th (has l) (eQ l) (.val zv)) v/\eL v=true:=by
       rcases hcur with ⟨y,hy,hyk,rfl⟩|⟨NS,rfl⟩
       ·obtain ⟨l',a',b'⟩:=hM.hk y hy
        have Cp:l'=l:=by rw [hyk] at a';rw [a'] at pq;exact bc pq
        subst Cp
        exact ⟨eJ ⟨(fun _=>hM.h y l' hy a'),fun e=>by rw [b'] at e;cases e⟩,hM.hs y hy⟩
       ·have hb:has l=false:=by
         cases hb:has l
         ·rfl
         ·obtain ⟨e,he,hek⟩:=hM.hh l hb
          exact absurd (nu hek pq) (NS e he)
        exact ⟨eJ ⟨(fun e=>by rw [hb] at e;cases e),fun _=> .val _⟩,hzo⟩
      have q:=r.newAt (w':=w) (o:= .tok) (l:= .is (.int .i64 (n:Nat))) fJ (Below.refl _ _) (fun _ hg=>hg.elim) (fun _ _ _ _ h=>by cases h) fun _ _=>⟨_,rfl⟩
      have NU:(fun i=>if i=id then some (Loc.is (.int .i64 (n:Nat))) else di i) mi=some (.map g []):=by simp only [ab HC];exact vL
      have HA: ∀{d v},dA (dq w base S0 di) d v->dA (dq { w with heap:=w.heap.setIfInBounds g (.map kZ fL) } base S0 (fun i=>if i=id then some (Loc.is (.int .i64 (n:Nat))) else di i)) d v:=fun h=>h.mono (fun ad u ⟨k1,k2,k3,k4⟩=>by
       have hg:ad.block≠g:=fun e=>k2 mi _ vL (.inl e)
       refine ⟨tN (gZ hg) k1,fun i l e nJ=> ?_,k3,fun B hB hm=>k4 B hB (qo (gZ hg) hm)⟩
       have e:(if i=id then some (Loc.is (.int .i64 (n:Nat))) else di i)=some l:=e
       split at e
       ·cases e;exact nJ
       ·exact k2 i l e nJ) (fun _ h=>h) fun _ _ h=>h.elim
      have q2:=q.zT (w':={ w with heap:=w.heap.setIfInBounds g (.map kZ fL) }) (o:= .map ks (oD l has) (xl l (th (has l) (eQ l) (.val zv)) eQ) (some (id,l))) NU (by simp) rfl rfl rfl (fun k hk=>gZ fun e=>hk (.inl e)) fun _ _=>by
       refine ⟨g,kZ,fL,rfl,lO xD,(hM.upd Jq pq Q0.2 Q0.1).mono HA,Jq.stamps mh,fun t k h=> ?_⟩
       cases h
       exact ⟨x,hx,by rw [Kf];exact pq,by simp [hxb]⟩
      refine ⟨_,_,dN,_,_,q2,.fC (by simp) fun j d u hd qV=> ?_,fun _ h=>h⟩
      match j,hd,qV with
      |0,hd,qV=>
       simp at hd qV;subst hd qV
       exact ee (HA Q0.1)
      |1,hd,qV=>
       simp at hd qV;subst hd qV
       exact .tok (.inr rfl) rfl fun u e=>by simp at e;exact e
    ·subst he;exact dn dr
   ·subst he;exact dn dr
  ·subst he;exact dn dr
 ·subst he;exact dn dr
theorem ux (r:R base w0 S0 σ kn di a w) {t:TypeId} {m s v:DV} {vm vs vv:Value} {e:fg} (he:jE σ.obj m s v=e) (dr:dw e.vc)
 (hm:Rel (dq w base S0 di) kn di m vm) (hs:Rel (dq w base S0 di) kn di s vs) (hv:Rel (dq w base S0 di) kn di v vv):
 e.d= .any/\ ∃w' du,(Instr.entryStore t vm vs vv).run P w= .ok () w'/\R base w0 S0 (σ.fX e) kn du a w':=by
 unfold jE at he
 split at he
 ·rename_i mi tk _
  split at he
  ·rename_i ks has eQ tk' l fE
   cases hq:(Nat.beq tk tk'&&(v.closed&&v.one))
   ·simp only [hq,ar] at he;subst he;exact dn dr
   ·simp only [hq,ao] at he
    simp only [an] at hq
    obtain ⟨hq1,Y8,hvo⟩:=hq
    obtain rfl:=af hq1
    subst he
    obtain ⟨UH,g,es,clock,vL,xD,hM,mh,nV⟩:=r.eC _ _ fE
    have Gk:vm= .map (some g):=by cases hm with|lg _ _ h=>exact h g [] vL
    subst Gk
    obtain ⟨x,hx,zy,Wr⟩:=nV tk l rfl
    have zz:vs= .int .i64 x.born:=by cases hs with|tok _ _ h=>exact h _ Wr
    subst zz
    obtain ⟨j,hj⟩:=cM.1 hx
    have oJ:es[j]? =some x:=by simpa using hj
    have dR:j<es.size:=(aF.1 oJ).1
    have hfind:es.findIdx? (fun e=>(e.born:Int)==(x.born:Int))=some j:=by
     rw [Array.findIdx?_eq_some_iff_getElem]
     refine ⟨dR,by simp [(aF.1 oJ).2],fun i hi=> ?_⟩
     have lV:i<es.toList.length:=by simp;omega
     have:=cH.1 mh.apart i j lV (by simpa using dR) hi
     simp only [Array.getElem_toList,(aF.1 oJ).2] at this
     simp;omega
    have dN:(Instr.entryStore t (.map (some g)) (.int .i64 x.born) vv).run P w= .ok () { w with heap:=w.heap.setIfInBounds g (.map (es.modify j fun e=>{ e with val:=vv }) clock) }:=by
     simp [Instr.entryStore,MapKept.run_getObj_map xD,asInt,asIntOf,hfind,MapKept.run_setObj_map _ xD,Result.andThen]
    have Ri:(es.modify j fun e=>{ e with val:=vv }).toList=(es.modify j fun e=>{ e with key:=x.key,val:=vv }).toList:=by
     rw [c9,c9]
     apply cV
     intro i
     rw [cT,cT]
     by_cases e:j=i
     ·subst e;rw [hj];simp
     ·simp [e]
    have Jq:FM es.toList clock x.key vv (es.modify j fun e=>{ e with val:=vv }).toList clock:=by rw [Ri];exact FM.toList hj rfl
    have hhas: ∀l',oD l has l'=has l':=fun l'=>by
     unfold oD
     by_cases e:l'=l
     ·obtain ⟨l2,a,b⟩:=hM.hk x hx
      rw [zy] at a
      cases a
      simp [e,b]
     ·simp [e]
    have hhas':oD l has=has:=funext hhas
    have h1:=hM.upd Jq zy (hv.one hvo) (hv.close Y8)
    rw [hhas'] at h1
    refine ⟨rfl,_,di,dN,r.zT vL (by simp) rfl rfl rfl (fun k hk=>gZ fun e=>hk (.inl e)) fun _ tu=> ?_⟩
    exact ⟨g,_,clock,rfl,lO xD,h1.mono tu,Jq.stamps mh,fun _ _ h=>by cases h⟩
  ·subst he;exact dn dr
 ·subst he;exact dn dr
theorem Bq (r:R base w0 S0 σ kn di a w) {t ty:TypeId} {m k:DV} {vm vk:Value} {e:fg} (he:pB P σ.obj t m k=e) (dr:dw e.vc)
 (hm:Rel (dq w base S0 di) kn di m vm) (hk:Rel (dq w base S0 di) kn di k vk) {ts:Array TypeId} (Za:ts[0]? =some t):
 ∃w' v,(Builtin.delete_ ts ty #[vm,vk]).run P w= .ok v w'/\R base w0 S0 (σ.fX e) kn di a w'/\Rel (dq w' base S0 di) kn di e.d v:=by
 unfold pB at he
 split at he
 ·rename_i ks z SP
  obtain ⟨kt,et,zv,hu,K,_,hzo,hz⟩:=p6 SP
  split at he
  ·rename_i l hl
   have pq:=oi hl hk
   split at he
   ·rename_i mi
    split at he
    ·rename_i nL has eQ qY fE
     cases hq:mI ks nL
     ·simp only [hq,ar] at he;subst he;exact dn dr
     ·simp only [hq,ao] at he
      obtain rfl:=iX hq
      subst he
      obtain ⟨UH,g,es,clock,vL,xD,hM,mh,nV⟩:=r.eC _ _ fE
      have Gk:vm= .map (some g):=by cases hm with|lg _ _ h=>exact h g [] vL
      subst Gk
      -- what is left
      obtain ⟨kZ,dN,jC,qt⟩: ∃kZ:Array MapEntry,(Builtin.delete_ ts ty #[.map (some g),vk]).run P w= .ok (.tuple #[]) { w with heap:=w.heap.setIfInBounds g (.map kZ clock) }/\kZ.toList.Sublist es.toList/\ ∀x,x∈kZ.toList↔x∈es.toList/\x.key≠vk:=by
       rcases K.find w pq es.toList (fun e he=>let ⟨l,a,_⟩:=hM.hk e he;⟨l,a⟩) with ⟨h1,h2⟩|⟨j,e0,h1,h2,h3⟩
       ·refine ⟨es,?_,List.Sublist.refl _,fun x=>⟨fun h=>⟨h,h2 x h⟩,fun h=>h.1⟩⟩
        simp [Builtin.delete_,Za,run_underlying hu,MapKept.run_getObj_map xD,K.check w _ pq,h1,MapKept.run_setObj_map _ xD,Result.andThen]
       ·have dR:j<es.size:=by simpa using (ai.1 h2).1
        refine ⟨es.eraseIdxIfInBounds j,?_,?_,fun x=> ?_⟩
        ·simp [Builtin.delete_,Za,run_underlying hu,MapKept.run_getObj_map xD,K.check w _ pq,h1,MapKept.run_setObj_map _ xD,Result.andThen]
        ·simp only [Array.eraseIdxIfInBounds,dR,dif_pos,Array.toList_eraseIdx]
         exact List.eraseIdx_sublist _ _
        ·simp only [Array.eraseIdxIfInBounds,dR,dif_pos,Array.toList_eraseIdx]
         rw [List.mem_eraseIdx_iff_getElem?]
         constructor
         ·rintro ⟨i,Kk,hi⟩
          exact ⟨aD hi,fun e=>Kk (Iy hM.hd hi h2 (by rw [e,h3]))⟩
         ·rintro ⟨hx,ji⟩
          obtain ⟨i,hi⟩:=cM.1 hx
          refine ⟨i,fun e=> ?_,hi⟩
          subst e
          rw [h2] at hi;cases hi;exact ji h3
      have key: ∀{x:MapEntry} {l':List Int},gz ks x.key=some l'->(x.key≠vk↔l'≠l):=fun {x l'} hx=>⟨fun ji e=>ji (nu (by rw [hx,e]) pq),fun ji e=>ji (by rw [e,pq] at hx;exact (bc hx).symm)⟩
      refine ⟨_,_,dN,r.zT vL (by simp) rfl rfl rfl (fun k hk=>gZ fun e=>hk (.inl e)) fun _ tu=> ?_,.val _⟩
      refine ⟨g,kZ,clock,rfl,lO xD,⟨fun x hx=> ?_,fun l' lG=> ?_,hM.hd.sublist jC,fun x hx=>hM.hs x ((qt x).1 hx).1,fun x l' hx zy=>tu (hM.h x l' ((qt x).1 hx).1 zy)⟩,⟨mh.apart.sublist jC,fun x hx=>mh.below x ((qt x).1 hx).1⟩,fun _ _ h=>by cases h⟩
      ·obtain ⟨h1,h2⟩:=(qt x).1 hx
       obtain ⟨l',a,b⟩:=hM.hk x h1
       exact ⟨l',a,by simp [b,(key a).1 h2]⟩
      ·simp only [an,aM,aj] at lG
       obtain ⟨x,hx,zy⟩:=hM.hh l' lG.2
       exact ⟨x,(qt x).2 ⟨hx,(key zy).2 lG.1⟩,zy⟩
    ·subst he;exact dn dr
   ·subst he;exact dn dr
  ·subst he;exact dn dr
 ·subst he;exact dn dr
end
end Go.Abs
end
section
namespace Go.Abs
open Go.RowKit
theorem yK: ∀{cs:List DV},BK cs=true-> ∀d∈cs,d= .val (.slice none 0 0)
 |[],_,d,hd=>by cases hd
 |c::r,h,d,hd=>by
  unfold BK at h
  split at h
  ·rename_i e;cases e
  ·rename_i r' e
   cases e
   rcases aR.1 hd with rfl|hd
   ·rfl
   ·exact yK h d hd
  ·cases h
section
variable {P:Program} {base:Nat} {w0 w w':World} {S0:Env} {σ σ':St} {kn:Nat->Prop} {di:Nat->Option Loc} {a:Act}
theorem xN (r:R base w0 S0 σ kn di a w) {id:Nat} (fJ: ¬kn id) {t:TypeId} {d1 d2:DV} {v1 v2:Value} {e:fg} (he:uw P id t d1 d2=e) (dr:dw e.vc)
 (h1:Rel (dq w base S0 di) kn di d1 v1) (h2:Rel (dq w base S0 di) kn di d2 v2):ma P base w0 S0 σ kn a w id (Instr.makeSlice t v1 v2) e:=by
 unfold uw at he
 split at he
 ·rename_i k n k' c
  cases h1;cases h2
  split at he
  ·rename_i el hu
   split at he
   ·rename_i i cs hi hz
    cases hb:(Nat.beq cs.length i.size&&(Nat.ble 1 cs.length&&BK cs)) with
    |false=>simp only [hb,ar] at he;subst he;exact dn dr
    |true=>
     simp only [hb,ao] at he
     simp only [an] at hb
     subst he
     obtain ⟨g0,rfl,g2,g3⟩:=dr.one
     have eW:=af hb.1
     have h1s:=aC hb.2.1
     have yW:=yK hb.2.2
     unfold n3 at hz
     rw [hi] at hz
     simp only at hz
     cases QZ:i.zero with
     |none=>rw [QZ] at hz;cases hz
     |some z=>
      rw [QZ] at hz
      simp only at hz
      obtain ⟨q1,q2,q3⟩:=(Rel.val (rd:=dq w base S0 di) (kn:=fun _=>False) (di:=fun _=>none) z).cells hz
      have dN:=run_make (P:=P) (w:=w) t el i z hu hi QZ k k' n n g0 (db _) (by have:(n.toNat:Int)=n:=bG g0;rw [<-this,<-Int.natCast_mul];exact Int.ofNat_le.2 g3) (by omega)
      have fe: ∀a b,a<n.toNat->b<cs.length->(madeCells z.cells (n.toNat*i.size))[a*cs.length+b]? =some (.slice none 0 0):=fun a b ha Fg=>by
       have hzb:b<z.cells.size:=by omega
       have nU:a*cs.length+b<n.toNat*i.size:=by
        rw [<-eW]
        calc a*cs.length+b<a*cs.length+cs.length:=by omega
         _=(a+1)*cs.length:=by rw [cd];omega
         _<=n.toNat*cs.length:=aK _ ha
       have Zo:(a*cs.length+b)%z.cells.size=b:=by
        rw [q1,Nat.mul_comm,Nat.mul_add_mod,Nat.mod_eq_of_lt Fg]
       have hv:=q2 b _ _ (ak Fg) (az hzb)
       rw [yW _ (List.getElem_mem Fg)] at hv
       have hv:=hv.k5
       simp only [madeCells]
       rw [Array.getElem?_map,Array.getElem?_range,ag nU]
       simp only [aA,Zo]
       rw [getElem!_pos z.cells b hzb,hv]
      have q:=r.newAt (w':=w.alloc (.cells (madeCells z.cells (n.toNat*i.size)) el (0,0))) (o:= .jc n.toNat cs.length (fun _ _=>0) (fun _ _ _=> .val (.int .i64 0)) none) (l:= .jc w.heap.size n.toNat []) fJ ((Below.refl _ _).alloc (ae _) _) (fun g hg=>by
       rcases hg with rfl|hg
       ·simp
       ·cases hg) (fun _ _ _ _ h=>by cases h) fun _ _=>⟨w.heap.size,n.toNat,[],_,el,rfl,heap_alloc_new w _,by rw [size_madeCells,eW],ae _,⟨fun a b ha hb _=>⟨_,fe a b ha hb,.inl ⟨rfl,rfl⟩⟩,fun a b a' b' g m C m' C' ha hb _ _ _ _ _ h=>by rw [fe a b ha hb] at h;cases h⟩,fun b hb=>by cases hb⟩
      refine ⟨_,_,dN,_,_,q,.s6 (.inr rfl) ⟨_,_,rfl,fun h=>by cases h⟩ (fun g C bs hb=> ?_),fun i hi=>hi⟩
      simp only [ba,aa,Loc.jc.injEq] at hb
      obtain ⟨rfl,rfl,_⟩:=hb
      exact ⟨rfl,ae _⟩
   ·subst he;exact dn dr
  ·subst he;exact dn dr
 ·subst he;exact dn dr
theorem Fs (r:R base w0 S0 σ kn di a w) {id:Nat} (fJ: ¬kn id) {t:TypeId} {s g i j:Nat} {v:Value} {e:fg} (he:Ft P σ.obj id t s g i j=e) (dr:dw e.vc)
 (hv:Rel (dq w base S0 di) kn di (.kO s g i j) v):ma P base w0 S0 σ kn a w id (Instr.loadAt t v) e:=by
 unfold Ft at he
 split at he
 ·rename_i n s' len eQ h1 h2 fE
  cases hb:(Nat.beq s s'&&Nat.blt j s)
  ·simp only [hb,ar] at he;subst he;exact dn dr
  ·simp only [hb,ao] at he
   subst he
   simp only [an] at hb
   obtain rfl:=af hb.1
   have hj:j<s:=bt (Nat.lt_succ_self j) (aC hb.2)
   have hi:i<n:=dr.one
   obtain ⟨UI,gb,C,bs,cv,T,hl,hh,eW,hn,hG,rV⟩:=r.eC _ _ fE
   obtain rfl:v= .pointer (some ⟨gb,i*s+j,none⟩):=by cases hv with|kO _ _ h=>exact h gb C bs hl
   obtain ⟨u,hu,hE⟩:=hG.Ju i j hi hj (by simp)
   have fe:w.cell? ⟨gb,i*s+j,none⟩=some u:=by simp only [World.cell?,hh,hu];rfl
   have dN:(Instr.loadAt t (.pointer (some ⟨gb,i*s+j,none⟩))).run P w= .ok u w:=by
    simp [Instr.loadAt,Instr.sureAddr,loadVar,mX h1,fe]
   have Zy:g≠id:=fun e=>fJ (e▸UI)
   obtain ⟨l,D,hlD,SO,kD⟩: ∃(l:Loc) (D:Option Nat),(∀k,l.has k↔D=some k)/\(∀b,D=some b->b∈bs/\ ∃m C',u= .slice (some ⟨b,0,none⟩) m C')/\
    ((l= .nil/\D=none/\u= .slice none 0 0/\len i j=0)\/ ∃b Cb wY Tb,l= .at_ b Cb/\D=some b/\u= .slice (some ⟨b,0,none⟩) (len i j) Cb/\w.heap[b]? =some (.cells wY Tb (0,0))/\wY.size=Cb/\len i j<=Cb/\ ∀q,q<len i j-> ∃x,wY[q]? =some x/\eL x=true/\dA (dq w base S0 di) (eQ i j q) x):=by
    rcases hE with ⟨h3,h4⟩|⟨b,Cb,wY,Tb,h3,h4,h5,h6,h7,h8⟩
    ·exact ⟨.nil,none,fun k=>⟨fun h=>h.elim,fun h=>by cases h⟩,fun b h=>(by cases h),.inl ⟨rfl,rfl,h3,h4⟩⟩
    ·exact ⟨.at_ b Cb,some b,fun k=>⟨fun h=>by rw [show k=b from h],fun h=>by cases h;rfl⟩,fun b' h=>(by cases h;exact ⟨h4,_,_,h3⟩),.inr ⟨b,Cb,wY,Tb,rfl,rfl,h3,h5,h6,h7,h8⟩⟩
   have yY: ∀(b C:Nat) (bs:List Nat),l≠ .jc b C bs/\ ∀x y,l≠ .map x y:=fun b C bs=>by
    rcases kD with ⟨rfl,_⟩|⟨_,_,_,_,rfl,_⟩<;>exact ⟨fun h=>(by cases h),fun _ _ h=>(by cases h)⟩
   let du:Nat->Option Loc:=fun k=>if k=id then some l else if k=g then some (.jc gb C (bs.filter fun b=>decide (D≠some b))) else di k
   have Fh:du id=some l:=ag rfl
   have hbg:du g=some (.jc gb C (bs.filter fun b=>decide (D≠some b))):=by
    show (if g=id then some l else if g=g then _ else di g)=_
    rw [ab Zy,ag rfl]
   have hgbD:D≠some gb:=fun e=>(rV gb (SO gb e).1).1 rfl
   have q:R base w0 S0 (σ.fX { d:= .row 1 id 0 (len i j),hw:=[(id,some (.row (len i j) [eQ i j])),(g,some (.jc n s len eQ (some (i,j))))],vc:=[i<n] }) (fun k=>kn k\/k=id) du a w:=by
    refine r.step (w':=w) (fun _=>False) (fun k=>k=id\/k=g) (ae _) rfl rfl rfl (fun _ _ _=>rfl) (fun _ h=>h.elim) (fun _ h=> .inl h) (fun k h=> ?_) (fun k v h hk e=> ?_) (fun k l' x h e hg=> ?_) (fun k l' h hk e=> ?_) rfl rfl rfl (fun _=>rfl) (fun k h=> ?_)
     (fun _ m mC k o h e=> ?_) (fun k l' h e=> ?_) (fun k k' l1 l2 x h h' e e' g1 g2=> ?_) (fun B hB k x yI h e=> ?_)
    ·rw [not_or] at h
     show (if k=id then some l else if k=g then _ else di k)=_
     rw [ab h.1,ab h.2]
    ·rcases h with rfl|rfl
     ·exact absurd hk fJ
     ·rw [hl] at e;cases e
    ·rcases h with rfl|rfl
     ·rw [Fh] at e
      cases e
      exact .inl ⟨g,_,.inr rfl,hl,.inr (SO x ((hlD x).1 hg)).1⟩
     ·rw [hbg] at e
      cases e
      refine .inl ⟨k,_,.inr rfl,hl,?_⟩
      rcases hg with hg|hg
      ·exact .inl hg
      ·exact .inr (bH.1 hg).1
    ·rcases h with rfl|rfl
     ·exact absurd hk fJ
     ·rw [hbg] at e
      cases e
      exact ⟨_,hl,rfl⟩
    ·rw [not_or] at h
     unfold St.fX St.obj
     simp only [aT,cO,dG]
     rw [ab (fun e=>h.1 e.symm),ab (fun e=>h.2 e.symm)]
    ·rcases h with rfl|rfl
     ·have e2:(σ.fX { d:= .row 1 k 0 (len i j),hw:=[(k,some (.row (len i j) [eQ i j])),(g,some (.jc n s len eQ (some (i,j))))],vc:=[i<n] }).obj k=some (.row (len i j) [eQ i j]):=by
       unfold St.fX St.obj
       simp only [aT,dG,ba]
      rw [e2] at e
      cases e
      refine ⟨.inr rfl,?_⟩
      rw [Fh]
      rcases kD with ⟨rfl,_,_,h0⟩|⟨b,Cb,wY,Tb,rfl,_,_,h5,h6,h7,h8⟩
      ·exact .inl ⟨rfl,h0⟩
      ·refine .inr ⟨b,Cb,wY,Tb,rfl,h5,by simp [h6],h7,fun x y f hx hy=> ?_⟩
       match y,hy with
       |0,hy=>
        cases hy
        obtain ⟨z,z1,z2,z3⟩:=h8 x hx
        exact ⟨z,by simpa using z1,z2,mC z3⟩
     ·have e2:(σ.fX { d:= .row 1 id 0 (len i j),hw:=[(id,some (.row (len i j) [eQ i j])),(k,some (.jc n s len eQ (some (i,j))))],vc:=[i<n] }).obj k=some (.jc n s len eQ (some (i,j))):=by
       unfold St.fX St.obj
       simp only [aT,dG,ba]
       rw [ab (fun e=>Zy e.symm)]
      rw [e2] at e
      cases e
      refine ⟨.inl UI,gb,C,_,cv,T,hbg,hh,eW,hn,⟨fun i' j' lV oJ ji=> ?_,fun i' j' i2 j2 x m1 C1 m2 C2 a1 a2 a3 a4 _ _ a5=>hG.sep i' j' i2 j2 x m1 C1 m2 C2 a1 a2 a3 a4 (by simp) (by simp) a5⟩,fun b hb=>rV b (bH.1 hb).1⟩
      obtain ⟨v',Gl,UO⟩:=hG.Ju i' j' lV oJ (by simp)
      refine ⟨v',Gl,?_⟩
      rcases UO with h0|⟨b,Cb,wY,Tb,c1,c2,c3,c4,c5,c6⟩
      ·exact .inl h0
      ·refine .inr ⟨b,Cb,wY,Tb,c1,bH.2 ⟨c2,?_⟩,c3,c4,c5,fun x hx=>let ⟨z,z1,z2,z3⟩:=c6 x hx;⟨z,z1,z2,mC z3⟩⟩
       simp only [ah]
       intro eD
       obtain ⟨_,m3,C3,hu3⟩:=SO b eD
       have hne2:(i',j')≠(i,j):=fun e=>ji (by rw [e])
       exact hG.sep i' j' i j b _ _ m3 C3 lV oJ hi hj (by simp) (by simp) hne2 (by rw [Gl,c1]) (by rw [hu,hu3])
    ·rcases h with rfl|rfl
     ·exact ⟨_,by unfold St.fX St.obj;simp only [aT,dG,ba];rfl⟩
     ·exact ⟨_,by unfold St.fX St.obj;simp only [aT,dG,ba];rw [ab (fun e=>Zy e.symm)]⟩
    ·have key: ∀{l1 l2:Loc},du id=some l1->du g=some l2->l1.has x->l2.has x->False:=fun {l1 l2} e1 e2 g1 g2=>by
      rw [Fh] at e1
      rw [hbg] at e2
      cases e1
      cases e2
      have hx:=(hlD x).1 g1
      rcases g2 with rfl|g2
      ·exact hgbD hx
      ·have:=(bH.1 g2).2
       simp only [ah] at this
       exact this hx
     rcases h with rfl|rfl<;>rcases h' with rfl|rfl
     ·rfl
     ·exact (key e e' g1 g2).elim
     ·exact (key e' e g2 g1).elim
     ·rfl
    ·rcases h with rfl|rfl
     ·rw [Fh] at e
      cases e
      exact absurd rfl ((yY 0 0 []).2 x yI)
     ·rw [hbg] at e;cases e
   refine ⟨u,w,dN,_,du,q,?_,fun k hk=>hk⟩
   rcases kD with ⟨rfl,_,rfl,h0⟩|⟨b,Cb,wY,Tb,rfl,_,rfl,h5,h6,h7,h8⟩
   ·exact .row (.inr rfl) ⟨none,0,by rw [h0],fun _=>h0⟩ (fun _=>⟨rfl,rfl,h0⟩) (fun g' C' e=>by rw [Fh] at e;cases e) (fun g' o' C' e=>by rw [Fh] at e;cases e)
   ·exact .row (.inr rfl) ⟨_,_,rfl,fun h=>by cases h⟩ (fun e=>by rw [Fh] at e;cases e) (fun g' C' e=>by rw [Fh] at e;cases e;exact .inl ⟨by simp,by omega⟩) (fun g' o' C' e=>by rw [Fh] at e;cases e)
 ·subst he;exact dn dr
def Vv (D:Option Nat) (bs:List Nat):List Nat:=match D with
 |some b=>b::bs
 |none=>bs
theorem ot {s i j i' j':Nat} (hj:j<s) (oJ:j'<s) (h:i*s+j=i'*s+j'):i=i'/\j=j':=by
 have h1:(i*s+j)/s=i:=by rw [Nat.mul_comm,Nat.mul_add_div (by omega),Nat.div_eq_of_lt hj,bV]
 have h2:(i'*s+j')/s=i':=by rw [Nat.mul_comm,Nat.mul_add_div (by omega),Nat.div_eq_of_lt oJ,bV]
 have h3:i=i':=by rw [<-h1,h,h2]
 subst h3
 exact ⟨rfl,by omega⟩
theorem HS (r:R base w0 S0 σ kn di a w) {t:TypeId} {s g i j:Nat} {d:DV} {vp vd:Value} {e:fg} (he:MA P σ.obj t s g i j d=e) (dr:dw e.vc)
 (hp:Rel (dq w base S0 di) kn di (.kO s g i j) vp) (hd:Rel (dq w base S0 di) kn di d vd):
 e.d= .any/\ ∃w' du,(Instr.storeAt t vp vd).run P w= .ok () w'/\R base w0 S0 (σ.fX e) kn du a w':=by
 unfold MA at he
 split at he
 ·rename_i ri m
  split at he
  ·rename_i n s' len eQ i0 j0 m' c h1 fE lU
   cases hb:(Nat.beq s s'&&(Nat.beq j j0&&Nat.blt j s))
   ·simp only [hb,ar] at he;subst he;exact dn dr
   ·simp only [hb,ao] at he
    subst he
    simp only [an] at hb
    obtain rfl:=af hb.1
    obtain rfl:=af hb.2.1
    have hj:j<s:=bt (Nat.lt_succ_self j) (aC hb.2.2)
    have hii:i=i0:=dr.hd
    have hi:i<n:=dr.tl.hd
    have hm:m=m':=dr.tl.tl.one
    subst hii
    subst hm
    obtain ⟨UI,gb,C,bs,cv,T,hl,hh,eW,hn,hG,rV⟩:=r.eC _ _ fE
    obtain rfl:vp= .pointer (some ⟨gb,i*s+j,none⟩):=by cases hp with|kO _ _ h=>exact h gb C bs hl
    obtain ⟨hkr,kD⟩:=r.eC _ _ lU
    have SZ:g≠ri:=fun e=>by rw [e,lU] at fE;cases fE
    -- the row's block
    obtain ⟨D,hD,hDb,hE⟩: ∃D:Option Nat,(∀b,D=some b-> ∃l,di ri=some l/\l.has b)/\(∀b,D=some b->b∉bs/\b≠gb/\ ∃cv T,w.heap[b]? =some (.cells cv T (0,0)))/\
     ((vd= .slice none 0 0/\m=0/\D=none)\/ ∃b Cb wY Tb,D=some b/\vd= .slice (some ⟨b,0,none⟩) m Cb/\w.heap[b]? =some (.cells wY Tb (0,0))/\wY.size=Cb/\m<=Cb/\ ∀q,q<m-> ∃x,wY[q]? =some x/\eL x=true/\dA (dq w base S0 di) (c q) x):=by
     rcases kD with ⟨lk,h0⟩|⟨b,Cb,wY,Tb,wX,hhb,Q5,hnb,hcb⟩
     ·refine ⟨none,fun b h=>(by cases h),fun b h=>(by cases h),.inl ⟨?_,h0,rfl⟩⟩
      cases hd with|row _ _ h _ _=>exact (h lk).1
     ·refine ⟨some b,fun b' h=>(by cases h;exact ⟨_,wX,rfl⟩),fun b' h=> ?_,.inr ⟨b,Cb,wY,Tb,rfl,?_,hhb,by simpa using Q5,hnb,fun q hq=> ?_⟩⟩
      ·cases h
       refine ⟨fun hm=>SZ (r.inj _ _ _ _ b hl wX (.inr hm) rfl),fun e=>SZ (r.inj _ _ _ _ b hl wX (.inl e) rfl),_,_,hhb⟩
      ·cases hd with
       |row _ _ _ h _=>
        rcases h b Cb wX with ⟨h,_⟩|⟨h,_⟩
        ·simpa using h
        ·omega
      ·obtain ⟨x,x1,x2,x3⟩:=hcb q 0 c hq rfl
       exact ⟨x,by simpa using x1,x2,x3⟩
    have jh:eL vd=true:=by
     rcases hE with ⟨rfl,_⟩|⟨_,_,_,_,_,rfl,_⟩<;>rfl
    have kf:vd.cells= #[vd]:=by
     rcases hE with ⟨rfl,_⟩|⟨_,_,_,_,_,rfl,_⟩<;>rfl
    have kq:i*s+j+1<=cv.size:=by
     have:i*s+s<=C*s:=by rw [<-bY];exact aK _ (by omega)
     omega
    have dN:=pQ (P:=P) (w:=w) (t:=t) (n:=1) (g:=gb) (o:=i*s+j) (v:=vd) (T:=T) h1 (by rw [kf];rfl) hh kq (fun u hu=>by rw [kf] at hu;simp at hu;rw [hu];exact jh)
    have iH:vd.cells.toList=[vd]:=by rw [kf]
    rw [iH] at dN
    refine ⟨rfl,_,fun k=>if k=ri then none else if k=g then some (.jc gb C (Vv D bs)) else di k,dN,?_⟩
    generalize hcv':(cv.toList.take (i*s+j)++([vd]++cv.toList.drop (i*s+j+1))).toArray=s9
    have qu: ∀k,s9[k]? =if k=i*s+j then some vd else cv[k]? :=fun k=>by
     rw [<-hcv',cy,uS _ _ _ _ 1 rfl (by simpa using kq)]
     by_cases h3:k<i*s+j
     ·rw [ag h3,ab (by omega)];simp
     ·rw [ab h3]
      by_cases h4:k=i*s+j
      ·rw [ag (by omega),ag h4,h4];simp
      ·rw [ab (by omega),ab h4];simp
    have rR:s9.size=C*s:=by
     rw [<-hcv',<-eW]
     simp only [bZ,aS,aQ,bn,bF,aH,b7];omega
    generalize Ry:(Vv D bs)=yI
    have jC: ∀b,b∈bs->b∈yI:=fun b hb=>by
     rw [<-Ry]
     unfold Vv
     cases D with
     |none=>exact hb
     |some b0=>exact ay _ hb
    have nU: ∀b,b∈yI->b∈bs\/D=some b:=fun b hb=>by
     rw [<-Ry] at hb
     unfold Vv at hb
     cases D with
     |none=>exact .inl hb
     |some b0=>
      rcases aR.1 hb with rfl|hb
      ·exact .inr rfl
      ·exact .inl hb
    have Wj: ∀b,D=some b->b∈yI:=fun b hb=>by
     rw [<-Ry,hb];exact ax
    have fA: ∀k,k∈yI->(w.setRow gb s9).heap[k]? =w.heap[k]? :=fun k hk=>setRow_other w gb k _ (by
     rcases nU k hk with hk|hk
     ·exact (rV k hk).1
     ·exact (hDb k hk).2.1)
    refine r.step (fun k=>k=gb) (fun k=>k=ri\/k=g) (by simp) rfl rfl rfl (fun k _ hk=>setRow_other w gb k _ hk) (fun k hk=>⟨g,_,.inr rfl,hl,.inl hk⟩) (fun _ h=>h) (fun k h=> ?_) (fun k v h hk e=> ?_) (fun k l' x h e hg=> ?_) (fun k l' h hk e=> ?_) rfl rfl rfl (fun _=>rfl) (fun k h=> ?_)
     (fun _ mR mC k o h e=> ?_) (fun k l' h e=> ?_) (fun k k' l1 l2 x h h' e e' g1 g2=> ?_) (fun B hB k x bs2 h e=> ?_)
    ·rw [not_or] at h
     rw [ab h.1,ab h.2]
    ·rcases h with rfl|rfl
     ·rcases kD with ⟨lk,_⟩|⟨_,_,_,_,wX,_⟩
      ·rw [lk] at e;cases e
      ·rw [wX] at e;cases e
     ·rw [hl] at e;cases e
    ·rcases h with rfl|rfl
     ·rw [ag rfl] at e;cases e
     ·rw [ab SZ,ag rfl] at e
      cases e
      rcases hg with hg|hg
      ·exact .inl ⟨k,_,.inr rfl,hl,.inl hg⟩
      ·rcases nU x hg with hg|hg
       ·exact .inl ⟨k,_,.inr rfl,hl,.inr hg⟩
       ·obtain ⟨l0,e1,e2⟩:=hD x hg
        exact .inl ⟨ri,l0,.inl rfl,e1,e2⟩
    ·rcases h with rfl|rfl
     ·rw [ag rfl] at e;cases e
     ·rw [ab SZ,ag rfl] at e
      cases e
      exact ⟨_,hl,rfl⟩
    ·rw [not_or] at h
     unfold St.fX St.obj
     simp only [aT,cO,dG]
     rw [ab (fun e=>h.2 e.symm),ab (fun e=>h.1 e.symm)]
    ·rcases h with rfl|rfl
     ·exfalso
      revert e
      unfold St.fX St.obj
      simp only [aT,cO,dG]
      simp only [ab SZ,ba]
      exact fun e=>by cases e
     ·have e2: ∀(x:fF) (y:List (Nat×Option fF)),(match look ((k,some x)::y) k with|some o=>o|none=>none)=some x:=fun x y=>by rw [dG,ag rfl]
      have e:(match look ((k,some (fF.jc n s (fun i' j'=>bif Nat.beq j' j then (if i'=i then m else len i' j') else len i' j') (fun i' j' q=>bif Nat.beq j' j then th (decide (i'=i)) (c q) (eQ i' j' q) else eQ i' j' q) none))::((ri,none)::σ.h)) k with|some o=>o|none=>none)=some o:=e
      rw [e2] at e
      cases e
      refine ⟨UI,gb,C,yI,s9,T,by rw [ab SZ,ag rfl],setRow_heap w gb cv s9 T _ hh,rR,hn,⟨fun i' j' lV oJ _=> ?_,fun i1 j1 i2 j2 x m1 C1 m2 C2 a1 a2 a3 a4 _ _ a5 a6=> ?_⟩,fun b hb=> ?_⟩
      ·rw [qu]
       by_cases he:i'=i/\j'=j
       ·obtain ⟨rfl,rfl⟩:=he
        refine ⟨vd,ag rfl,?_⟩
        simp only [Nat.beq_refl,ao,ba]
        rcases hE with ⟨h3,h4,_⟩|⟨b,Cb,wY,Tb,h3,h4,h5,h6,h7,h8⟩
        ·exact .inl ⟨h3,h4⟩
        ·refine .inr ⟨b,Cb,wY,Tb,h4,Wj b h3,by rw [fA b (Wj b h3)];exact h5,h6,h7,fun q hq=> ?_⟩
         obtain ⟨x,x1,x2,x3⟩:=h8 q hq
         exact ⟨x,x1,x2,eJ ⟨fun _=>mC x3,fun h=>by simp at h⟩⟩
       ·obtain ⟨v',Gl,UO⟩:=hG.Ju i' j' lV oJ (fun h=>he (by cases h;exact ⟨rfl,rfl⟩))
        refine ⟨v',by rw [ab (fun h=>he (ot oJ hj h))];exact Gl,?_⟩
        have el:(bif Nat.beq j' j then (if i'=i then m else len i' j') else len i' j')=len i' j':=by
         cases hq:Nat.beq j' j with
         |false=>rfl
         |true=>rw [ao,ab (fun h=>he ⟨h,af hq⟩)]
        rw [el]
        rcases UO with h0|⟨b,Cb,wY,Tb,c1,c2,c3,c4,c5,c6⟩
        ·exact .inl h0
        ·refine .inr ⟨b,Cb,wY,Tb,c1,jC b c2,by rw [fA b (jC b c2)];exact c3,c4,c5,fun q hq=> ?_⟩
         obtain ⟨x,x1,x2,x3⟩:=c6 q hq
         refine ⟨x,x1,x2,?_⟩
         cases hq2:Nat.beq j' j with
         |false=>exact mC x3
         |true=>exact eJ ⟨fun h=>absurd ⟨of_decide_eq_true h,af hq2⟩ he,fun _=>mC x3⟩
      ·rw [qu] at a6 ⊢
       have wV: ∀i1 j1,i1<n->j1<s-> ¬(i1=i/\j1=j)-> ∀x m C,cv[i1*s+j1]? =some (.slice (some ⟨x,0,none⟩) m C)->x∈bs:=fun i1 j1 a1 a2 ji x m C hx=>by
        obtain ⟨v',Gl,UO⟩:=hG.Ju i1 j1 a1 a2 (fun h=>ji (by cases h;exact ⟨rfl,rfl⟩))
        rw [hx] at Gl
        cases Gl
        rcases UO with ⟨h0,_⟩|⟨b,Cb,wY,Tb,c1,c2,_⟩
        ·cases h0
        ·cases c1;exact c2
       have new: ∀x m C,vd= .slice (some ⟨x,0,none⟩) m C->x∉bs:=fun x m C hx=>by
        rcases hE with ⟨h3,_⟩|⟨b,Cb,_,_,h3,h4,_⟩
        ·rw [h3] at hx;cases hx
        ·rw [h4] at hx;cases hx;exact (hDb x h3).1
       by_cases e1:i1=i/\j1=j
       ·by_cases e2:i2=i/\j2=j
        ·exact absurd (by rw [e1.1,e1.2,e2.1,e2.2]) a5
        ·rw [ag (by rw [e1.1,e1.2])] at a6
         rw [ab (fun h=>e2 (ot a4 hj h))]
         intro a7
         exact new x m1 C1 (bc a6) (wV i2 j2 a3 a4 e2 x m2 C2 a7)
       ·rw [ab (fun h=>e1 (ot a2 hj h))] at a6
        by_cases e2:i2=i/\j2=j
        ·rw [ag (by rw [e2.1,e2.2])]
         intro a7
         exact new x m2 C2 (bc a7) (wV i1 j1 a1 a2 e1 x m1 C1 a6)
        ·rw [ab (fun h=>e2 (ot a4 hj h))]
         exact hG.sep i1 j1 i2 j2 x m1 C1 m2 C2 a1 a2 a3 a4 (fun h=>e1 (by cases h;exact ⟨rfl,rfl⟩)) (fun h=>e2 (by cases h;exact ⟨rfl,rfl⟩)) a5 a6
      ·rw [fA b hb]
       rcases nU b hb with hb|hb
       ·exact rV b hb
       ·exact (hDb b hb).2
    ·rcases h with rfl|rfl
     ·rw [ag rfl] at e;cases e
     ·exact ⟨_,by unfold St.fX St.obj;simp only [aT,dG,ba];rfl⟩
    ·rcases h with rfl|rfl
     ·rw [ag rfl] at e;cases e
     ·rcases h' with rfl|rfl
      ·rw [ag rfl] at e';cases e'
      ·rfl
    ·rcases h with rfl|rfl
     ·rw [ag rfl] at e;cases e
     ·rw [ab SZ,ag rfl] at e;cases e
  ·subst he;exact dn dr
 ·subst he;exact dn dr
theorem y4 (r:R base w0 S0 σ kn di a w) {t:TypeId} {m:Nat} {p:DV} {v:Value} {e:fg} (he:mS P σ.obj t m p=e) (dr:dw e.vc)
 (hv:Rel (dq w base S0 di) kn di p v):Still P base S0 kn di w (Instr.loadAt t v) e:=by
 have fin: ∀{p:DV} {cs:List DV} {vc:List Prop} {k:IntKind} {l:List Int} {j:Nat},yO P t=some false->pW σ.obj p=some (cs.drop j,vc)->dw vc->m<=cs.length->ik (cs.take m)=some (k,l)->j<m->Rel (dq w base S0 di) kn di p v-> ∀{PO:List Prop},Still P base S0 kn di w (Instr.loadAt t v) { d:= .val (.int k (l.getD j 0)),vc:=PO }:=fun {p cs vc k l j} h1 hra Wg hm hl hj hv {PO}=>by
  obtain ⟨ad,rfl,hc⟩:=pV r hra Wg hv
  have e:=lM hl
  have oJ:j<cs.length:=by omega
  obtain ⟨u,hu,hrel⟩:=hc 0 cs[j] (by simp [oJ])
  have oQ:cs[j]= .val (.int k (l.getD j 0)):=by
   have h3:=de (fun q:List DV=>q[j]?) e
   simp only [aw,bS,ag hj,ak oJ] at h3
   cases hlj:l[j]? with
   |none=>rw [hlj] at h3;cases h3
   |some z=>rw [hlj] at h3;simp only [aA,aa] at h3;rw [h3,bB,hlj];rfl
  rw [oQ] at hrel
  refine ⟨rfl,u,?_,hrel⟩
  have qV:w.cell? ad=some u:=by simpa [Addr.add] using hu
  simp [Instr.loadAt,Instr.sureAddr,loadVar,mX h1,qV]
 unfold mS at he
 split at he
 ·rename_i s id i j
  split at he
  ·rename_i n dp h1 h2
   cases hb:Nat.beq dp.length s&&Nat.ble m dp.length
   ·simp only [hb,ar] at he;subst he;exact dn dr
   ·simp only [hb,ao] at he
    split at he
    ·rename_i k l hl
     subst he
     rw [an] at hb
     have hm:=aC hb.2
     have hj:j<m:=dr.tl.one
     rw [List.map_take] at hl
     exact fin (cs:=dp.map fun c=>c i) (vc:=[i<n]) h1 (by simp only [pW,h2,hb.1,ao,List.map_drop]) (fun q hq=>by rw [au.1 hq];exact dr.hd) (by simpa using hm) hl hj hv
    ·subst he;exact dn dr
  ·subst he;exact dn dr
 ·rename_i id j
  split at he
  ·rename_i cs h1 h2
   cases hb:Nat.ble m cs.length
   ·simp only [hb,ar] at he;subst he;exact dn dr
   ·simp only [hb,ao] at he
    split at he
    ·rename_i k l hl
     subst he
     exact fin (cs:=cs) (vc:=[]) h1 (by simp only [pW,h2]) (fun q hq=>by cases hq) (aC hb) hl dr.one hv
    ·subst he;exact dn dr
  ·subst he;exact dn dr
 ·subst he;exact dn dr
theorem Cz (r:R base w0 S0 σ kn di a w) {id:Nat} (fJ: ¬kn id) {oc:fx} {t:TypeId} {p:DV} {v:Value} {e:fg} (he:qy P oc σ.obj id t p=e) (dr:dw e.vc)
 (hv:Rel (dq w base S0 di) kn di p v):ma P base w0 S0 σ kn a w id (Instr.loadAt t v) e:=by
 unfold qy at he
 split at he
 ·exact Fs r fJ he dr hv
 ·split at he
  ·exact (y4 r he dr hv).runs r
  ·subst he
   exact (vS r dr hv).runs r
theorem Bj (r:R base w0 S0 σ kn di a w) {t:TypeId} {p d:DV} {vp vd:Value} {e:fg} (he:nr P σ.obj t p d=e) (dr:dw e.vc)
 (hp:Rel (dq w base S0 di) kn di p vp) (hd:Rel (dq w base S0 di) kn di d vd):
 e.d= .any/\ ∃w' du,(Instr.storeAt t vp vd).run P w= .ok () w'/\R base w0 S0 (σ.fX e) kn du a w':=by
 unfold nr at he
 split at he
 ·exact HS r he dr hp hd
 ·obtain ⟨h1,w',h2,h3⟩:=Cv r he dr hp hd
  exact ⟨h1,w',di,h2,h3⟩
end
end Go.Abs
end
