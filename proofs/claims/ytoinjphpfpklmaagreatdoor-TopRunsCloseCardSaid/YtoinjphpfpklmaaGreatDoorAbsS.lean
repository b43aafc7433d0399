/- Contracts and what they stand on. -/
import Derived.Test.YtoinjphpfpklmaaGreatDoorAbsP
set_option linter.unusedVariables false
set_option linter.unusedSimpArgs false
section
namespace Go.Abs
open Go.RowKit
theorem rK {α:Type} (p q:α->Bool) (hpq: ∀x,q x=true->p x=true): ∀(l:List α) (i:α),i∈l->p i=true->q i=false->l.countP q<l.countP p
 |x::r,i,h,hp,hq=>by
  have hle: ∀(l:List α),l.countP q<=l.countP p:=fun l=>by
   induction l with
   |nil=>simp
   |cons y l ih=>
    simp only [List.countP_cons]
    have:=hpq y
    cases hy:q y with
    |false=>simp;omega
    |true=>simp [this hy];exact ih
  simp only [List.countP_cons]
  rcases aS.1 h with rfl|h
  ·have:=hle r
   simp [hp,hq];omega
  ·have:=rK p q hpq r i h hp hq
   have h2:=hpq x
   cases hx:q x with
   |false=>simp;omega
   |true=>simp [h2 hx];exact this
section
variable {P:Program} {ro:Option Nat} {m:Nat} {ops:Array Oper} {dq:List (Nat×fE)} {base:Nat} {w0:World} {S0:Env} {Q:Exit->Act->World->Prop}
theorem y8 {f g:j9} {t:Nat} (hf:f.tw=some t) (hg:g.tw=some t\/t∈g.tr):meets f g=true:=by
 unfold meets
 have:q8 (MV f.tw) (MV g.tw++g.tr)=true:=oJ (i:=t) (by rw [hf];exact au.2 rfl) (by
  rcases hg with h|h
  ·rw [h];exact ay
  ·exact aW _ h)
 rw [this];rfl
theorem He {f g:j9} {t:Nat} (hg:g.tw=some t) (hf:t∈f.tr):meets f g=true:=by
 unfold meets
 have:q8 (MV g.tw) f.tr=true:=oJ (i:=t) (by rw [hg];exact au.2 rfl) hf
 rw [this];simp
theorem y9 {f g:j9} {i:Nat} (hf:i∈f.hw) (hg:i∈g.hw\/i∈g.hr):meets f g=true:=by
 unfold meets
 have:q8 f.hw (g.hw++g.hr)=true:=oJ hf (aT.2 hg)
 rw [this];simp
theorem Hf {f g:j9} {i:Nat} (hg:i∈g.hw) (hf:i∈f.hr):meets f g=true:=by
 unfold meets
 have:q8 g.hw f.hr=true:=oJ hg hf
 rw [this];simp
theorem jP {α:Type}: ∀{l:List (Nat×α)} {i:Nat} {v:α},look l i=some v->i∈l.map (·.1)
 |(k,x)::r,i,v,h=>by
  rw [dH] at h
  by_cases e:k=i
  ·simp [e]
  ·rw [ae e] at h
   exact az _ (jP h)
structure Setup (P:Program) (ops:Array Oper) (dq:List (Nat×fE)) (base:Nat) (w0:World) (S0:Env) (Q:Exit->Act->World->Prop) (n0:Nat) (σ:St):Prop where
 vc: ∀(j:Nat) (d:Option Tmp) (e:eW),(trace P ops dq n0 ops.toList 0 σ)[j]? =some (d,e)->kQ σ.nt σ.lo d=true/\dp e.vc
 ord:pw (rU ops.toList []) (kI P ops dq n0 ops.toList 0 σ) ops.toList (kI P ops dq n0 ops.toList 0 σ) 0=true
 fin: ∀kn c9 a w,R base w0 S0 (canon (trace P ops dq n0 ops.toList 0 σ) (fun _=>true) 0 σ) kn c9 a w->(∀i,kn i->i<n0+ops.size)->Q .normal a w
variable {n0:Nat} {σ:St}
theorem lI: ∀(l:List Oper) (k:Nat) (σ:St),(kI P ops dq n0 l k σ).length=l.length
 |[],_,_=>rfl
 |o::r,k,σ=>by simp only [kI,aL,lI r]
def pre (ops:Array Oper) (j i:Nat):Bool:=((rU ops.toList []).getD j 0).testBit i
theorem Setup.down (s:Setup P ops dq base w0 S0 Q n0 σ) {j:Nat} {o:Oper} (ho:ops[j]? =some o):(∀e∈o.after.toList,Region.binds .any e=true->e.on<j)/\
 (∀i,i<ops.size->pre ops j i=true-> ∃e∈o.after.toList,Region.binds .any e=true/\(e.on=i\/pre ops e.on i=true)):=by
 have oQ:ops.toList[j]? =some o:=by simpa using ho
 have hj:j<ops.size:=(aJ.1 ho).1
 have hf:(kI P ops dq n0 ops.toList 0 σ)[j]? =some ((kI P ops dq n0 ops.toList 0 σ)[j]'(by rw [lI];simpa using hj)):=ak _
 obtain ⟨_,h2,h3⟩:=pt s.ord j o _ oQ hf
 rw [aE] at h2 h3
 refine ⟨rG h3,fun i hi hp=> ?_⟩
 rw [lI] at h2
 obtain ⟨e,he,hb,h⟩:=pO (ll h2 i (by simpa using hi) hp)
 exact ⟨e,he,hb,h⟩
theorem Setup.pair (s:Setup P ops dq base w0 S0 Q n0 σ) {i j:Nat} {f g:j9} (L6:i<j) (hf:(kI P ops dq n0 ops.toList 0 σ)[i]? =some f) (hg:(kI P ops dq n0 ops.toList 0 σ)[j]? =some g) (hm:meets f g=true):
 pre ops j i=true:=by
 have hj:j<ops.toList.length:=by rw [<-lI (P:=P) (ops:=ops) (dq:=dq) (n0:=n0) ops.toList 0 σ];exact (aj.1 hg).1
 obtain ⟨h1,_,_⟩:=pt s.ord j _ g (ak hj) hg
 rw [aE] at h1
 have:=uT h1 i f (by rw [bG,ah L6];exact hf) hm
 rwa [aE] at this
theorem Setup.step (s:Setup P ops dq base w0 S0 Q n0 σ) {L:Nat->Bool} (oT: ∀j,j<ops.size->L j=true-> ∀i,i<ops.size->pre ops j i=true->L i=true) {K:Nat} {o:Oper} (ho:ops[K]? =some o) (hK:L K=false)
 (jq: ∀i,i<ops.size->pre ops K i=true->L i=true) {d:Option Tmp} {e:eW} (he:(trace P ops dq n0 ops.toList 0 σ)[K]? =some (d,e)):
 d=o.dst/\jl P ops (ma dq K) (n0+K) (canon (trace P ops dq n0 ops.toList 0 σ) L 0 σ) o=e/\
 (∀t,((canon (trace P ops dq n0 ops.toList 0 σ) L 0 σ).ui d e).get t=(canon (trace P ops dq n0 ops.toList 0 σ) (fun i=>L i||decide (i=K)) 0 σ).get t)/\
 (∀i,((canon (trace P ops dq n0 ops.toList 0 σ) L 0 σ).ui d e).obj i=(canon (trace P ops dq n0 ops.toList 0 σ) (fun i=>L i||decide (i=K)) 0 σ).obj i):=by
 have oQ:ops.toList[K]? =some o:=by simpa using ho
 have Kn:K<ops.size:=(aJ.1 ho).1
 have E0:=mH (P:=P) (ops:=ops) (dq:=dq) (n0:=n0) ops.toList 0 σ K o oQ
 rw [E0] at he
 simp only [aE,aa,aB] at he
 obtain ⟨rfl,he⟩:=he
 have Ug:=oV (P:=P) (ops:=ops) (dq:=dq) (n0:=n0) ops.toList 0 σ K o oQ
 simp only [aE] at Ug E0
 rw [he] at Ug E0
 -- a place that K reads or writes: whoever else writes it is on the right side
 have side: ∀(j:Nat) (dj:Option Tmp) (ej:eW),(trace P ops dq n0 ops.toList 0 σ)[j]? =some (dj,ej)->j≠K->
  ((∃t,dj=some t/\(o.dst=some t\/t∈kA ops o))\/(∃i,i∈ej.hw.map (·.1)/\(i∈e.hw.map (·.1)\/i∈iW (canon ((trace P ops dq n0 ops.toList 0 σ).take K) (fun _=>true) 0 σ) (mj o.op))))->
  (j<K->L j=true)/\(K<j->L j=false):=by
  intro j dj ej hj nj hm
  have Ue:j<ops.toList.length:=by
   have:=(aj.1 hj).1
   rwa [gT] at this
  have T6:ops.toList[j]? =some ops.toList[j]:=ak Ue
  have Yz:=mH (P:=P) (ops:=ops) (dq:=dq) (n0:=n0) ops.toList 0 σ j _ T6
  rw [Yz] at hj
  simp only [aE,aa,aB] at hj
  obtain ⟨rfl,hej⟩:=hj
  have B5:=oV (P:=P) (ops:=ops) (dq:=dq) (n0:=n0) ops.toList 0 σ j _ T6
  simp only [aE] at B5
  rw [hej] at B5
  refine ⟨fun dK=> ?_,fun dK=> ?_⟩
  ·refine jq j (by simpa using Ue) (s.pair dK B5 Ug ?_)
   rcases hm with ⟨t,h1,h2⟩|⟨i,h1,h2⟩
   ·exact y8 (t:=t) h1 h2
   ·exact y9 (i:=i) h1 h2
  ·have hp:pre ops j K=true:=by
    refine s.pair dK Ug B5 ?_
    rcases hm with ⟨t,h1,h2|h2⟩|⟨i,h1,h2|h2⟩
    ·exact y8 (t:=t) h2 (.inl h1)
    ·exact He (t:=t) h1 h2
    ·exact y9 (i:=i) h2 (.inl h1)
    ·exact Hf (i:=i) h1 h2
   cases hLj:L j with
   |false=>rfl
   |true=>
    have:=oT j (by simpa using Ue) hLj K Kn hp
    rw [hK] at this;cases this
 have LF: ∀t,(o.dst=some t\/t∈kA ops o)->(canon (trace P ops dq n0 ops.toList 0 σ) L 0 σ).get t=(canon ((trace P ops dq n0 ops.toList 0 σ).take K) (fun _=>true) 0 σ).get t:=by
  intro t ht
  rw [iD,iD,List.map_take]
  refine mQ K L hK _ 0 _ (ao _) fun j v hj=> ?_
  rw [aE]
  rw [aw] at hj
  cases hx:(trace P ops dq n0 ops.toList 0 σ)[j]? with
  |none=>simp [hx] at hj
  |some x=>
   obtain ⟨dj,ej⟩:=x
   simp only [hx,aA,aa,tW] at hj
   by_cases QI:j=K
   ·subst QI;exact ⟨fun h=>by omega,fun h=>by omega⟩
   ·split at hj
    ·rename_i hd
     exact side j dj ej hx QI (.inl ⟨t,hd,ht⟩)
    ·cases hj
 have zU: ∀i,(i∈e.hw.map (·.1)\/i∈iW (canon ((trace P ops dq n0 ops.toList 0 σ).take K) (fun _=>true) 0 σ) (mj o.op))->(canon (trace P ops dq n0 ops.toList 0 σ) L 0 σ).obj i=(canon ((trace P ops dq n0 ops.toList 0 σ).take K) (fun _=>true) 0 σ).obj i:=by
  intro i hi
  rw [gU,gU,List.map_take]
  refine mQ K L hK _ 0 _ (ao _) fun j v hj=> ?_
  rw [aE]
  rw [aw] at hj
  cases hx:(trace P ops dq n0 ops.toList 0 σ)[j]? with
  |none=>simp [hx] at hj
  |some x=>
   obtain ⟨dj,ej⟩:=x
   simp only [hx,aA,aa,hW] at hj
   by_cases QI:j=K
   ·subst QI;exact ⟨fun h=>by omega,fun h=>by omega⟩
   ·exact side j dj ej hx QI (.inr ⟨i,jP hj,hi⟩)
 refine ⟨rfl,?_,fun t=> ?_,fun i=> ?_⟩
 ·rw [<-he]
  exact (qX (fun t ht=>(LF t (.inr ht)).symm) (fun i hi=>(zU i (.inr hi)).symm) ((fm _ _ _ _).1.trans (fm _ _ _ _).1.symm) (fun i hi=>(zU i (.inl (by rw [he] at hi;exact hi))).symm)).symm
 ·rw [St.E6,iD t _ (fun i=>L i||decide (i=K))]
  have Ke:=oM K L ((trace P ops dq n0 ops.toList 0 σ).map (tW t)) 0 (σ.get t) (ao _) (fun v hv j u hj dK=>by
   rw [aE] at dK ⊢
   rw [bM,aw,E0] at hv
   simp only [aA,aa,tW] at hv
   split at hv
   ·rename_i hd
    rw [aw] at hj
    cases hx:(trace P ops dq n0 ops.toList 0 σ)[j]? with
    |none=>simp [hx] at hj
    |some x=>
     obtain ⟨dj,ej⟩:=x
     simp only [hx,aA,aa,tW] at hj
     split at hj
     ·rename_i Y2
      exact (side j dj ej hx (by omega) (.inl ⟨t,Y2,.inl hd⟩)).2 dK
     ·cases hj
   ·cases hv)
  rw [Ke,bM,aw,E0]
  simp only [aA,tW]
  by_cases hd:o.dst=some t
  ·simp [hd]
  ·simp only [hd,cg,iD]
 ·rw [St.EK,gU i _ (fun i=>L i||decide (i=K))]
  have Ke:=oM K L ((trace P ops dq n0 ops.toList 0 σ).map (hW i)) 0 (σ.obj i) (ao _) (fun v hv j u hj dK=>by
   rw [aE] at dK ⊢
   rw [bM,aw,E0] at hv
   simp only [aA,aa,hW] at hv
   rw [aw] at hj
   cases hx:(trace P ops dq n0 ops.toList 0 σ)[j]? with
   |none=>simp [hx] at hj
   |some x=>
    obtain ⟨dj,ej⟩:=x
    simp only [hx,aA,aa,hW] at hj
    exact (side j dj ej hx (by omega) (.inr ⟨i,jP hj,.inl (jP hv)⟩)).2 dK)
  rw [Ke,bM,aw,E0]
  simp only [aA,hW]
  cases hl:look e.hw i with
  |some v=>rfl
  |none=>simp only [gU]
theorem Setup.any (s:Setup P ops dq base w0 S0 Q n0 σ): ∀(n:Nat) (listed:Array Bool) (kn:Nat->Prop) (c9:Nat->Option Loc) (a:Act) (w:World),listed.size=ops.size->
 (List.range ops.size).countP (fun i=> !listed.getD i true)<=n->
 (∀j,j<ops.size->listed.getD j true=true-> ∀i,i<ops.size->pre ops j i=true->listed.getD i true=true)->
 R base w0 S0 (canon (trace P ops dq n0 ops.toList 0 σ) (fun i=>listed.getD i true) 0 σ) kn c9 a w->(∀i,kn i->i<n0\/ ∃j,j<ops.size/\listed.getD j true=true/\i=n0+j)->
 wpAnyIn (FW ro) m P .any ops Q n listed a w:=by
 -- when none is ready, all are listed
 have FE: ∀(listed:Array Bool),listed.size=ops.size->Region.ready .any ops listed=[]-> ∀i,i<ops.size->listed.getD i true=true:=by
  intro listed fq hr i
  induction i using Nat.strongRecOn with
  |_ i ih=>
   intro hi
   cases QH:listed.getD i true with
   |true=>rfl
   |false=>
    exfalso
    have B3:i∈Region.ready .any ops listed:=by
     unfold Region.ready
     refine bR.2 ⟨a8.2 hi,?_⟩
     have ho:ops[i]? =some ops[i]:=aD hi
     simp only [QH,ho,Bool.not_false,Bool.true_and,aA,cK]
     rw [bS]
     intro e he
     have hd:=(s.down ho).1 e (bJ.2 he)
     cases hb:Region.binds .any e with
     |false=>rfl
     |true=>
      have dK:=hd hb
      have h1:=ih e.on dK (by omega)
      have:listed.getD e.on false=true:=by
       rw [aC] at h1 ⊢
       have hx:listed[e.on]? =some listed[e.on]:=aD (by omega)
       rw [hx] at h1 ⊢
       simpa using h1
      simp [this]
    rw [hr] at B3
    cases B3
 have last: ∀(listed:Array Bool) (kn:Nat->Prop) (c9:Nat->Option Loc) (a:Act) (w:World),listed.size=ops.size->Region.ready .any ops listed=[]->
  R base w0 S0 (canon (trace P ops dq n0 ops.toList 0 σ) (fun i=>listed.getD i true) 0 σ) kn c9 a w->(∀i,kn i->i<n0\/ ∃j,j<ops.size/\listed.getD j true=true/\i=n0+j)->Q .normal a w:=by
  intro listed kn c9 a w fq hr hR kL
  have fh:=FE listed fq hr
  have same:(fun i=>listed.getD i true)=fun _=>true:=by
   funext i
   by_cases hi:i<ops.size
   ·exact fh i hi
   ·rw [aC,Array.getElem?_eq_none (by omega)];rfl
  rw [same] at hR
  refine s.fin kn c9 a w hR fun i hi=> ?_
  rcases kL i hi with h|⟨j,hj,_,rfl⟩
  ·omega
  ·omega
 intro n
 induction n with
 |zero=>
  intro listed kn c9 a w fq QR oT hR kL
  have hr:Region.ready .any ops listed=[]:=by
   have h0: ∀i∈List.range ops.size,¬((!listed.getD i true)=true):=by
    have:(List.range ops.size).countP (fun i=> !listed.getD i true)=0:=Nat.le_zero.1 QR
    exact List.countP_eq_zero.1 this
   unfold Region.ready
   refine List.filter_eq_nil_iff.2 fun i hi h=> ?_
   simp only [av] at h
   exact h0 i hi h.1
  exact ⟨hr,last listed kn c9 a w fq hr hR kL⟩
 |succ n ih=>
  intro listed kn c9 a w fq QR oT hR kL
  refine ⟨fun hr=>last listed kn c9 a w fq hr hR kL,fun K hK=> ?_⟩
  unfold Region.ready at hK
  obtain ⟨hK1,Sx⟩:=bR.1 hK
  have Kn:K<ops.size:=a8.1 hK1
  have ho:ops[K]? =some ops[K]:=aD Kn
  simp only [av,ho,aA,cK] at Sx
  have Za:listed.getD K true=false:=by simpa using Sx.1
  have Kh: ∀e∈ops[K].after.toList,Region.binds .any e=true->listed.getD e.on true=true:=by
   intro e he hb
   have:=(bS.1 Sx.2) e (bJ.1 he)
   simp only [hb,Bool.not_true,Bool.false_or] at this
   rw [aC] at this ⊢
   cases hx:listed[e.on]? with
   |some v=>rw [hx] at this;simpa using this
   |none=>rfl
  have jq: ∀i,i<ops.size->pre ops K i=true->listed.getD i true=true:=by
   intro i hi hp
   obtain ⟨e,he,hb,h⟩:=(s.down ho).2 i hi hp
   have h1:=Kh e he hb
   rcases h with rfl|h
   ·exact h1
   ·exact oT e.on (by have:=(s.down ho).1 e he hb;omega) h1 i hi h
  have hlen:K<(trace P ops dq n0 ops.toList 0 σ).length:=by rw [gT];simpa using Kn
  have QB:(trace P ops dq n0 ops.toList 0 σ)[K]? =some ((trace P ops dq n0 ops.toList 0 σ)[K].1,(trace P ops dq n0 ops.toList 0 σ)[K].2):=ak hlen
  obtain ⟨hd,QN,sF,oP⟩:=s.step (L:=fun i=>listed.getD i true) (fun j hj hL i hi hp=>oT j hj hL i hi hp) ho Za jq QB
  obtain ⟨eS,dg⟩:=s.vc K _ _ QB
  rw [<-QN] at dg
  have T7:=(mL (trace P ops dq n0 ops.toList 0 σ) (fun i=>listed.getD i true) 0 σ).2
  have fS: ¬kn (n0+K):=fun h=>by
   rcases kL _ h with h|⟨j,_,hj,e⟩
   ·omega
   ·have:j=K:=by omega
    subst this
    rw [Za] at hj;cases hj
  unfold wpOpIn
  simp only [ho]
  refine qW hR fS dg (by rw [T7,(fm _ _ _ _).2,<-hd];exact eS) fun a' w' ⟨eL,dk,hR',kZ⟩=> ?_
  have oU: ∀i,(listed.setIfInBounds K true).getD i true=(listed.getD i true||decide (i=K)):=by
   intro i
   simp only [aC,bo]
   by_cases e:K=i
   ·subst e
    simp [fq,Kn]
   ·have: ¬(i=K):=fun h=>e h.symm
    simp [e,this]
  refine ih (listed.setIfInBounds K true) eL dk a' w' (by simpa using fq) ?_ ?_ ?_ ?_
  ·have:=rK (fun i=> !listed.getD i true) (fun i=> !(listed.setIfInBounds K true).getD i true) (fun x hx=>by
    rw [oU] at hx;simp at hx;simpa using hx.1) (List.range ops.size) K (a8.2 Kn) (by simp [Za]) (by simp [oU])
   omega
  ·intro j hj hL i hi hp
   rw [oU] at hL ⊢
   simp only [cC,ai] at hL ⊢
   rcases hL with hL|rfl
   ·exact .inl (oT j hj hL i hi hp)
   ·exact .inl (jq i hi hp)
  ·have e1:(fun i=>(listed.setIfInBounds K true).getD i true)=fun i=>listed.getD i true||decide (i=K):=funext oU
   rw [e1]
   rw [QN,<-hd] at hR'
   exact hR'.congr (fun t=>(sF t).symm) (fun i=>(oP i).symm) ((mL _ _ _ _).2.trans T7.symm) ((fm _ _ _ _).1.trans (fm _ _ _ _).1.symm) ((fm _ _ _ _).2.trans (fm _ _ _ _).2.symm)
  ·intro i hi
   rcases kZ i hi with h|h
   ·rcases kL i h with h|⟨j,h1,h2,h3⟩
    ·exact .inl h
    ·exact .inr ⟨j,h1,by rw [oU,h2];rfl,h3⟩
   ·exact .inr ⟨K,Kn,by rw [oU];simp,h⟩
def xK (P:Program) (ops:Array Oper) (dq:List (Nat×fE)) (σ:St):Bool:=
 pw (rU ops.toList []) (kI P ops dq σ.nx ops.toList 0 { σ with nx:=σ.nx+ops.size }) ops.toList (kI P ops dq σ.nx ops.toList 0 { σ with nx:=σ.nx+ops.size }) 0
theorem pY {σ:St} {a:Act} {w:World} (h:Fits base w0 S0 σ a w) (dg:dp (fi P ops dq σ).2) (mU:xK P ops dq σ=true)
 (hQ: ∀a' w',Fits base w0 S0 (fi P ops dq σ).1 a' w'->Q .normal a' w'):wpAnyIn (FW ro) m P .any ops Q ops.size (Array.replicate ops.size false) a { w with drawn:=w.drawn+1 }:=by
 obtain ⟨kn,c9,r,hk⟩:=h
 have hnx:=r7 (P:=P) ops dq σ.nx ops.toList 0 { σ with nx:=σ.nx+ops.size } []
 have s:Setup P ops dq base w0 S0 Q σ.nx { σ with nx:=σ.nx+ops.size }:=by
  refine ⟨qM ops.toList 0 _ [] dg,mU,fun eL dk a' w' hR kZ=>hQ a' w' ⟨eL,dk,?_,fun i hi=> ?_⟩⟩
  ·unfold fi
   rw [pj];exact hR
  ·have:=kZ i hi
   show i<(jb P ops dq σ.nx ops.toList 0 { σ with nx:=σ.nx+ops.size } []).1.nx
   rw [hnx.1];exact this
 have QD: ∀i,(Array.replicate ops.size false).getD i true=decide (ops.size<=i):=by
  intro i
  rw [aC,Array.getElem?_replicate]
  by_cases hi:i<ops.size
  ·rw [ah hi]
   have:decide (ops.size<=i)=false:=by simp;omega
   rw [this];rfl
  ·rw [ae hi]
   have:decide (ops.size<=i)=true:=by simp;omega
   rw [this];rfl
 refine s.any ops.size (Array.replicate ops.size false) kn c9 a _ (by simp) (aV List.countP_le_length (by simp)) (fun j hj hL=> ?_) ?_ fun i hi=> .inl (hk i hi)
 ·rw [QD] at hL;simp at hL;omega
 ·have e1:(fun i=>(Array.replicate ops.size false).getD i true)=fun i=>decide (ops.size<=i):=funext QD
  rw [e1]
  have sF: ∀t,(canon (trace P ops dq σ.nx ops.toList 0 { σ with nx:=σ.nx+ops.size }) (fun i=>decide (ops.size<=i)) 0 { σ with nx:=σ.nx+ops.size }).get t=σ.get t:=by
   intro t
   rw [iD]
   refine jn _ _ _ _ fun j v hj=> ?_
   have:=(aj.1 hj).1
   rw [b6,gT] at this
   simp at this ⊢;omega
  have oP: ∀t,(canon (trace P ops dq σ.nx ops.toList 0 { σ with nx:=σ.nx+ops.size }) (fun i=>decide (ops.size<=i)) 0 { σ with nx:=σ.nx+ops.size }).obj t=σ.obj t:=by
   intro t
   rw [gU]
   refine jn _ _ _ _ fun j v hj=> ?_
   have:=(aj.1 hj).1
   rw [b6,gT] at this
   simp at this ⊢;omega
  exact r.drew.congr sF oP (mL _ _ _ _).2 (fm _ _ _ _).1 (fm _ _ _ _).2
theorem uI {σ:St} {a:Act} {w:World} {id:Nat} (hm:P.follows .mixedOrders=true) (h:Fits base w0 S0 σ a w) (dg:dp (fi P ops dq σ).2) (mU:xK P ops dq σ=true)
 (hQ: ∀a' w',Fits base w0 S0 (fi P ops dq σ).1 a' w'->Q .normal a' w'):(Code.region id ops true).wpIn (FW ro) m P Q a w:=
 wpIn_region_any hm (pY h dg mU hQ)
end
end Go.Abs
end
section
namespace Go.Abs
open Go.RowKit
def leV:Value->Value->List Prop
 |.int k x,.int k' y=>if k=k' then [x=y] else [False]
 |.bool x,.bool y=>[x=y]
 |.string x,.string y=>[x=y]
 |v,u=>[v=u]
def TO:List Value->List Value->List Prop
 |[],[]=>[]
 |v::r,u::q=>leV v u++TO r q
 |_,_=>[False]
def le0:DV->DV->List Prop
 |_,.any=>[]
 |.val (.agg vs),.val (.agg us)=>TO vs.toList us.toList
 |.val (.tuple vs),.val (.tuple us)=>TO vs.toList us.toList
 |.val v,.val u=>leV v u
 |_,_=>[False]
def TQ (f:DV->DV->List Prop):List (Nat->DV)->List (Nat->DV)->Nat->List Prop
 |[],[],_=>[]
 |c::r,d::q,n=>(∀i,i<n->dt (f (c i) (d i)))::TQ f r q n
 |_,_,_=>[False]
def Jg (f:DV->DV->List Prop):List DV->List DV->List Prop
 |[],[]=>[]
 |c::r,d::q=>f c d++Jg f r q
 |_,_=>[False]
def leS (f:DV->DV->List Prop):DV->DV->List Prop
 |.di m de,.di m' fo=>(m=m')::TQ f de fo m'
 |.agg cs,.agg ds=>Jg f cs ds
 |.fy cs,.fy ds=>Jg f cs ds
 |.val (.tuple vs),.fy ds=>Jg f (vs.toList.map .val) ds
 |.fy cs,.val (.tuple us)=>Jg f cs (us.toList.map .val)
 |.val (.agg vs),.agg ds=>Jg f (vs.toList.map .val) ds
 |.agg cs,.val (.agg us)=>Jg f cs (us.toList.map .val)
 |.jL g cs,.jL g' ds=>bif Nat.beq g g' then Jg f cs ds else [False]
 |.nZ g cs,.nZ g' ds=>bif Nat.beq g g' then Jg f cs ds else [False]
 |.dN cs,.dN ds=>Jg f cs ds
 |.val (.slice none 0 0),.di n _=>[n=0]
 |.mp ks has gN,.mp Qn Kl rM=>bif BV ks Qn then [∀l,has l=Kl l,∀l,Kl l=true->dt (f (gN l) (rM l))] else [False]
 |.val (.map none),.mp _ has _=>[∀l,has l=false]
 |d,d'=>le0 d d'
def Gi:Nat->DV->DV->List Prop
 |0=>le0
 |n+1=>leS (Gi n)
theorem Dw {v u:Value} (h:dp (leV v u)):v=u:=by
 unfold leV at h
 split at h
 ·split at h
  ·rename_i hk;subst hk;rw [h.one]
  ·exact h.one.elim
 ·rw [h.one]
 ·rw [h.one]
 ·exact h.one
theorem tv: ∀{l m:List Value},dp (TO l m)->l=m
 |[],[],_=>rfl
 |v::r,u::q,h=>by
  obtain ⟨h1,h2⟩:=dp.app h
  rw [Dw h1,tv h2]
 |[],_::_,h=>h.one.elim
 |_::_,[],h=>h.one.elim
section
variable {rd:Rd} {kn eL:Nat->Prop} {c9 dk:Nat->Option Loc}
theorem Dy {d d':DV} {v:Value} (h:dp (le0 d d')) (hv:Rel rd kn c9 d v):Rel rd eL dk d' v:=by
 unfold le0 at h
 split at h
 ·exact .any v
 ·cases hv;rw [cD (tv h)];exact .val _
 ·cases hv;rw [cD (tv h)];exact .val _
 ·cases hv;rw [Dw h];exact .val _
 ·exact h.one.elim
theorem kd {f:DV->DV->List Prop}: ∀{c d:List (Nat->DV)} {n:Nat},dp (TQ f c d n)->c.length=d.length/\ ∀(j:Nat) (x y:Nat->DV),c[j]? =some x->d[j]? =some y-> ∀i,i<n->dp (f (x i) (y i))
 |[],[],_,_=>⟨rfl,by simp⟩
 |x::c,y::d,n,h=>by
  obtain ⟨h1,h2⟩:=kd h.tl
  refine ⟨by simp [h1],fun j x' y' hx hy=> ?_⟩
  cases j with
  |zero=>
   simp only [aP,aa] at hx hy
   subst hx hy
   exact fun i hi=>(h.hd i hi).all
  |succ j=>exact h2 j x' y' (by simpa using hx) (by simpa using hy)
 |[],_::_,_,h=>h.one.elim
 |_::_,[],_,h=>h.one.elim
theorem xp {f:DV->DV->List Prop}: ∀{c d:List DV},dp (Jg f c d)->c.length=d.length/\ ∀(j:Nat) (x y:DV),c[j]? =some x->d[j]? =some y->dp (f x y)
 |[],[],_=>⟨rfl,by simp⟩
 |x::c,y::d,h=>by
  obtain ⟨k1,k2⟩:=dp.app h
  obtain ⟨h1,h2⟩:=xp k2
  refine ⟨by simp [h1],fun j x' y' hx hy=> ?_⟩
  cases j with
  |zero=>
   simp only [aP,aa] at hx hy
   subst hx hy
   exact k1
  |succ j=>exact h2 j x' y' (by simpa using hx) (by simpa using hy)
 |[],_::_,h=>h.one.elim
 |_::_,[],h=>h.one.elim
theorem gZ {gJ:Rd} {f:DV->DV->List Prop} {cs ds:List DV} {vs:Array Value} (h:dp (Jg f cs ds)) (hf: ∀{d d' v},dp (f d d')->Rel rd kn c9 d v->Rel gJ eL dk d' v) (hs:vs.size=cs.length)
 (hr: ∀(j:Nat) (d:DV) (u:Value),cs[j]? =some d->vs[j]? =some u->Rel rd kn c9 d u):
 vs.size=ds.length/\ ∀(j:Nat) (d:DV) (u:Value),ds[j]? =some d->vs[j]? =some u->Rel gJ eL dk d u:=by
 obtain ⟨h1,h2⟩:=xp h
 refine ⟨by omega,fun j d u hd hu=> ?_⟩
 have dK:j<cs.length:=by rw [h1];exact (aj.1 hd).1
 have hc:cs[j]? =some cs[j]:=ak dK
 exact hf (h2 j _ _ hc hd) (hr j _ u hc hu)
theorem Gv {vs:Array Value}: ∀(j:Nat) (d:DV) (u:Value),(vs.toList.map DV.val)[j]? =some d->vs[j]? =some u->Rel rd kn c9 d u:=by
 intro j d u hd hu
 simp only [aw,bt,hu,aA,aa] at hd
 subst hd;exact .val u
theorem gV: ∀(n:Nat) {d d':DV} {v:Value},dp (Gi n d d')->du rd d v->du rd d' v:=by
 intro n
 induction n with
 |zero=>intro d d' v h hv;exact Dy h hv
 |succ n ih=>
  intro d d' v h hv
  simp only [Gi] at h
  generalize Gi n=f at h ih
  unfold leS at h
  split at h
  ·rename_i m de m' fo
   obtain ⟨h1,h2⟩:=kd h.tl
   have hm:=h.hd
   subst hm
   cases hv with
   |di U hc ha hn ho hr=>
    have get: ∀(j:Nat) (f:Nat->DV),fo[j]? =some f-> ∃g,de[j]? =some g:=fun j f hf=>by
     have dK:j<de.length:=by rw [h1];exact (aj.1 hf).1
     exact ⟨_,ak dK⟩
    refine .di U hc (fun i j f hi hf=> ?_) hn (fun i j f hi hf=> ?_) fun i j f hi hf=> ?_
    ·obtain ⟨g,hg⟩:=get j f hf
     rw [<-h1];exact ha i j g hi hg
    ·obtain ⟨g,hg⟩:=get j f hf
     exact ho i j g hi hg
    ·obtain ⟨g,hg⟩:=get j f hf
     exact ih (h2 j g f hg hf i hi) (hr i j g hi hg)
  ·cases hv with
   |agg hs hr=>obtain ⟨a,b⟩:=gZ h (fun h hv=>ih h hv) hs hr;exact .agg a b
  ·cases hv with
   |fy hs hr=>obtain ⟨a,b⟩:=gZ h (fun h hv=>ih h hv) hs hr;exact .fy a b
  ·cases hv;obtain ⟨a,b⟩:=gZ h (fun h hv=>ih h hv) (by simp) Gv;exact .fy a b
  ·cases hv with
   |fy hs hr=>
    rename_i us vs
    obtain ⟨a,b⟩:=gZ h (fun h hv=>ih h hv) hs hr
    have:vs=us:=by
     apply Array.ext
     ·simpa using a
     ·intro i h1 h2
      have:=(b i (.val us[i]) vs[i] (by simp [h2]) (by simp [h1])).lO
      exact this
    rw [this];exact .val _
  ·cases hv;obtain ⟨a,b⟩:=gZ h (fun h hv=>ih h hv) (by simp) Gv;exact .agg a b
  ·cases hv with
   |agg hs hr=>
    rename_i us vs
    obtain ⟨a,b⟩:=gZ h (fun h hv=>ih h hv) hs hr
    have:vs=us:=by
     apply Array.ext
     ·simpa using a
     ·intro i h1 h2
      have:=(b i (.val us[i]) vs[i] (by simp [h2]) (by simp [h1])).lO
      exact this
    rw [this];exact .val _
  ·rename_i g cs g' ds
   cases hb:Nat.beq g g' with
   |false=>simp only [hb,ax] at h;exact h.one.elim
   |true=>
    simp only [hb,aq] at h
    obtain rfl:=ag hb
    cases hv with
    |jL hs hr=>obtain ⟨a,b⟩:=gZ h (fun h hv=>ih h hv) hs hr;exact .jL a b
  ·rename_i g cs g' ds
   cases hb:Nat.beq g g' with
   |false=>simp only [hb,ax] at h;exact h.one.elim
   |true=>
    simp only [hb,aq] at h
    obtain rfl:=ag hb
    cases hv with
    |nZ hs hr=>obtain ⟨a,b⟩:=gZ h (fun h hv=>ih h hv) hs hr;exact .nZ a b
  ·cases hv with
   |dN U ha ho hr=>
    obtain ⟨h1,h2⟩:=xp h
    refine .dN U (fun j d hd=> ?_) (fun j d hd=> ?_) fun j d hd=> ?_
    ·exact ha j _ (ak (by rw [h1];exact (aj.1 hd).1))
    ·exact ho j _ (ak (by rw [h1];exact (aj.1 hd).1))
    ·have hc:=ak (l:=_) (show j<_ by rw [h1];exact (aj.1 hd).1)
     exact ih (h2 j _ _ hc hd) (hr j _ hc)
  ·cases hv
   have hn:=h.one
   subst hn
   exact .di (fun _ _=>undef) (af _) (fun i j f hi=>by omega) (fun h=>by omega) (fun i j f hi=>by omega) fun i j f hi=>by omega
  ·rename_i ks has gN Qn Kl rM
   cases hq:BV ks Qn with
   |false=>simp only [hq,ax] at h;exact h.one.elim
   |true=>
    simp only [hq,aq] at h
    obtain rfl:=xq hq
    have h1:=h.hd
    have h2:=h.tl.one
    cases hv with
    |mp es h0 ha hk hh hd hs hr=>
     exact .mp es h0 ha (fun e he=>let ⟨l,a,b⟩:=hk e he;⟨l,a,by rw [<-h1];exact b⟩) (fun l hl=>hh l (by rw [h1];exact hl)) hd hs fun e l he AG=>by
      obtain ⟨l',a,b⟩:=hk e he
      rw [AG] at a;cases a
      exact ih (h2 l (by rw [<-h1];exact b)).all (hr e l he AG)
  ·cases hv
   have h1:=h.one
   exact .mp [] (fun _=>rfl) (fun g e=>by cases e) (fun e he=>by cases he) (fun l hl=>by rw [h1] at hl;cases hl) List.Pairwise.nil (fun e he=>by cases he) fun e l he=>by cases he
  ·exact Dy h hv
end
abbrev Ren:=List (Nat×Option Nat)
def jy (ρ:Ren) (id:Nat):Bool:=match ρ with
 |[]=>true
 |(_,some a)::r=>bif Nat.beq a id then false else jy r id
 |(_,none)::r=>jy r id
def sP (ρ:Ren) (new Dm:Nat):Bool:=match look ρ new with
 |some (some a)=>Nat.beq a Dm
 |_=>false
def zT:Ren->Bool
 |[]=>true
 |(_,some a)::r=>bif jy r a then zT r else false
 |(_,none)::r=>zT r
def vE (s:Nat) (len:Nat->Nat->Nat) (gN:Nat->Nat->Nat->DV):List (Nat->DV):=(List.range s).map fun j i=> .di (len i j) [gN i j]
def Kp (s n':Nat) (len oK:Nat->Nat->Nat) (gN rM:Nat->Nat->Nat->DV):List Nat->List Prop
 |[]=>[]
 |j::r=>(∀i,i<n'->len i j=oK i j)::(∀i q,i<n'->q<oK i j->dt (Gi 2 (gN i j q) (rM i j q)))::Kp s n' len oK gN rM r
def TP (ρ:Ren) (ob:Heap):DV->DV->List Prop
 |_,.any=>[]
 |.ptr id j,.ptr kG j'=>bif sP ρ kG id&&Nat.beq j j' then [] else [False]
 |.row s id off len,.row s' kG PV oK=>bif sP ρ kG id&&Nat.beq s s' then [off=PV,len=oK] else [False]
 |.val (.slice none 0 0),.row _ kG PV oK=>match look ρ kG with
  |some none=>[PV=0,oK=0]
  |_=>[False]
 |.row s id off len,.di n de=>match ob id with
  |some (.row n0 nW)=>bif jy ρ id&&Nat.beq nW.length s then (off+len<=n0)::(len=n)::TQ (Gi 2) (nW.map fun c i=>c (off+i)) de n else [False]
  |_=>[False]
 |.pB id,.pB kG=>bif sP ρ kG id then [] else [False]
 |.pB id,.mp ks has gN=>match ob id with
  |some (.map ks0 has0 col0 _)=>bif jy ρ id&&BV ks0 ks then Gi 3 (.mp ks0 has0 col0) (.mp ks has gN) else [False]
  |_=>[False]
 |.tL s id n,.tL s' kG n'=>bif sP ρ kG id&&Nat.beq s s' then [n=n'] else [False]
 |.tL s id n,.di n' de=>match ob id with
  |some (.oo n0 s0 len gN none)=>bif jy ρ id&&(Nat.beq s s0&&Nat.ble 1 s) then (n<=n0)::(n=n')::TQ (Gi 3) (vE s len gN) de n' else [False]
  |_=>[False]
 |d,d'=>bif d.closed then Gi 3 d d' else [False]
def leRS (f:DV->DV->List Prop) (ρ:Ren) (ob:Heap):DV->DV->List Prop
 |.agg cs,.agg ds=>Jg f cs ds
 |.jL g cs,.jL g' ds=>bif Nat.beq g g' then Jg f cs ds else [False]
 |.nZ g cs,.nZ g' ds=>bif Nat.beq g g' then Jg f cs ds else [False]
 |d,d'=>TP ρ ob d d'
def Yu (ρ:Ren) (ob:Heap):Nat->DV->DV->List Prop
 |0=>TP ρ ob
 |n+1=>leRS (Yu ρ ob n) ρ ob
def wR (ρ:Ren) (σ:St):List (Nat×DV)->List Prop
 |[]=>[]
 |(t,d)::r=>Yu ρ σ.obj 2 (σ.get t) d++wR ρ σ r
def LP (ρ:Ren) (ob:Heap):fK->fK->List Prop
 |.box cs,.box ds=>Jg (Yu ρ ob 2) cs ds
 |.row n de,.row n' fo=>(n=n')::TQ (Gi 2) de fo n'
 |.row n de,.ph n' fo=>(n=n')::TQ (Gi 2) de fo n'
 |.ph n de,.ph n' fo=>(n=n')::TQ (Gi 2) de fo n'
 |.map ks has gN _,.map Qn Kl rM none=>bif BV ks Qn then [∀l,has l=Kl l,∀l,Kl l=true->dt (Gi 2 (gN l) (rM l))] else [False]
 |.vF ks len gN _ none,.vF Qn oK rM [] none=>bif BV ks Qn then [∀l,len l=oK l,∀l i,i<oK l->dt (Gi 2 (gN l i) (rM l i))] else [False]
 |.exact g o,.exact g' o'=>[g=g',o=o']
 |.oo n s len gN none,.oo n' s' oK rM none=>bif Nat.beq s s' then (n=n')::Kp s n' len oK gN rM (List.range s) else [False]
 |_,_=>[False]
def gv (ρ:Ren) (ob:Heap):List (Nat×Option fK)->Ren->List Prop
 |[],[]=>[]
 |(id,some o)::r,(kG,some q)::ρ'=>match ob q with
  |some o0=>bif Nat.beq id kG then LP ρ ob o0 o++gv ρ ob r ρ' else [False]
  |none=>[False]
 |(id,some (.row n _))::r,(kG,none)::ρ'=>bif Nat.beq id kG then (n=0)::gv ρ ob r ρ' else [False]
 |_,_=>[False]
def rQ (n:Nat):Ren->Bool
 |[]=>true
 |(id,_)::r=>bif Nat.blt id n then rQ n r else false
def pd (ρ:Ren) (σ σ':St):List Prop:=
 bif zT ρ&&(rQ σ'.nx ρ&&(Nat.beq σ.nt σ'.nt&&Nat.beq σ.lo σ'.lo)) then wR ρ σ σ'.t++gv ρ σ.obj σ'.h ρ else [False]
end Go.Abs
end
section
namespace Go.Abs
open Go.RowKit
theorem iL {id:Nat}: ∀{ρ:Ren},jy ρ id=true-> ∀{i a:Nat},look ρ i=some (some a)->a≠id
 |(k,some b)::r,h,i,a,hl=>by
  simp only [jy] at h
  cases hb:Nat.beq b id with
  |true=>simp [hb] at h
  |false=>
   simp only [hb,ax] at h
   rw [dH] at hl
   by_cases e:k=i
   ·simp only [e,bn,aa] at hl
    subst hl
    rintro rfl
    simp at hb
   ·rw [ae e] at hl;exact iL h hl
 |(k,none)::r,h,i,a,hl=>by
  simp only [jy] at h
  rw [dH] at hl
  by_cases e:k=i
  ·simp [e] at hl
  ·rw [ae e] at hl;exact iL h hl
 |[],_,i,a,hl=>by simp [look] at hl
theorem s8: ∀{ρ:Ren},zT ρ=true-> ∀{i i' a:Nat},look ρ i=some (some a)->look ρ i'=some (some a)->i=i'
 |(k,some b)::r,h,i,i',a,h1,h2=>by
  simp only [zT] at h
  cases hb:jy r b with
  |false=>simp [hb] at h
  |true=>
   simp only [hb,aq] at h
   rw [dH] at h1 h2
   by_cases e1:k=i<;>by_cases e2:k=i'
   ·rw [<-e1,<-e2]
   ·simp only [e1,bn,aa] at h1
    rw [ae e2] at h2
    exact absurd h1.symm (iL hb h2)
   ·simp only [e2,bn,aa] at h2
    rw [ae e1] at h1
    exact absurd h2.symm (iL hb h1)
   ·rw [ae e1] at h1
    rw [ae e2] at h2
    exact s8 h h1 h2
 |(k,none)::r,h,i,i',a,h1,h2=>by
  simp only [zT] at h
  rw [dH] at h1 h2
  by_cases e1:k=i
  ·simp [e1] at h1
  ·by_cases e2:k=i'
   ·simp [e2] at h2
   ·rw [ae e1] at h1
    rw [ae e2] at h2
    exact s8 h h1 h2
 |[],_,i,i',a,h1,_=>by simp [look] at h1
theorem sY {n:Nat}: ∀{ρ:Ren},rQ n ρ=true-> ∀{i:Nat} {x:Option Nat},look ρ i=some x->i<n
 |(k,b)::r,h,i,x,hl=>by
  simp only [rQ] at h
  cases hb:Nat.blt k n with
  |false=>simp [hb] at h
  |true=>
   simp only [hb,aq] at h
   rw [dH] at hl
   by_cases e:k=i
   ·subst e;exact aH hb
   ·rw [ae e] at hl;exact sY h hl
 |[],_,i,x,hl=>by simp [look] at hl
theorem pn {ρ:Ren} {i a:Nat} (h:sP ρ i a=true):look ρ i=some (some a):=by
 unfold sP at h
 split at h
 ·rename_i b hb;rw [hb,ag h]
 ·cases h
def Hr (ρ:Ren) (id:Nat):Prop:= ∃x,look ρ id=some x
def ig (ρ:Ren) (c9:Nat->Option Loc) (id:Nat):Option Loc:=match look ρ id with
 |some (some a)=>c9 a
 |some none=>some .nil
 |none=>none
section
variable {base:Nat} {w0 w:World} {S0:Env} {σ σ':St} {kn:Nat->Prop} {c9:Nat->Option Loc} {a:Act} {ρ:Ren}
theorem jS {id g:Nat} {l:Loc} (h:ig ρ c9 id=some l) (hg:l.has g): ∃b,look ρ id=some (some b)/\c9 b=some l:=by
 unfold ig at h
 split at h
 ·rename_i b hb;exact ⟨b,hb,h⟩
 ·cases h;exact hg.elim
 ·cases h
theorem PC {ad:Addr} {u:Value} (h:df w base S0 c9 ad u):df w base S0 (ig ρ c9) ad u:=
 ⟨h.1,fun id l e hg=>let ⟨b,_,hb⟩:=jS e hg;h.2.1 b l hb hg,h.2.2⟩
theorem jO {d:DV} {v:Value} (h:du (df w base S0 c9) d v):du (df w base S0 (ig ρ c9)) d v:=
 h.mono (fun _ _ h=>PC h) (fun _ h=>h) fun _ _ h=>h.elim
theorem Au (r:R base w0 S0 σ kn c9 a w) {d d':DV} {v:Value} (h:dp (TP ρ σ.obj d d')) (hv:Rel (df w base S0 c9) kn c9 d v):Rel (df w base S0 (ig ρ c9)) (Hr ρ) (ig ρ c9) d' v:=by
 unfold TP at h
 split at h
 ·exact .any v
 ·rename_i id j kG j'
  cases hb:(sP ρ kG id&&Nat.beq j j') with
  |false=>simp only [hb,ax] at h;exact h.one.elim
  |true=>
   simp only [av] at hb
   have hl:=pn hb.1
   obtain rfl:=ag hb.2
   cases hv with
   |ptr hk hp hh=>exact .ptr ⟨_,hl⟩ hp fun g C e=>by unfold ig at e;rw [hl] at e;exact hh g C e
 ·rename_i s id off len s' kG PV oK
  cases hb:(sP ρ kG id&&Nat.beq s s') with
  |false=>simp only [hb,ax] at h;exact h.one.elim
  |true=>
   simp only [hb,aq] at h
   simp only [av] at hb
   have hl:=pn hb.1
   obtain rfl:=ag hb.2
   have e1:=h.hd
   have e2:=h.tl.one
   subst e1 e2
   cases hv with
   |row hk hp h0 hh hs=>
    exact .row ⟨_,hl⟩ hp (fun e=>by unfold ig at e;rw [hl] at e;exact h0 e) (fun g C e=>by unfold ig at e;rw [hl] at e;exact hh g C e) fun g o C e=>by unfold ig at e;rw [hl] at e;exact hs g o C e
 ·rename_i s kG PV oK
  split at h
  ·rename_i hl
   cases hv
   have e1:=h.hd
   have e2:=h.tl.one
   subst e1 e2
   exact .row ⟨_,hl⟩ ⟨_,_,rfl,fun _=>rfl⟩ (fun _=>⟨rfl,rfl,rfl⟩) (fun g C e=>by unfold ig at e;rw [hl] at e;simp at e) fun g o C e=>by unfold ig at e;rw [hl] at e;simp at e
  ·exact h.one.elim
 ·rename_i s id off len n de
  split at h
  ·rename_i n0 nW gR
   cases hb:(jy ρ id&&Nat.beq nW.length s) with
   |false=>simp only [hb,ax] at h;exact h.one.elim
   |true=>
    simp only [hb,aq] at h
    simp only [av] at hb
    obtain rfl:=ag hb.2
    have hle:=h.hd
    have hn:=h.tl.hd
    subst hn
    obtain ⟨h1,h2⟩:=kd h.tl.tl
    have Ud:de.length=nW.length:=by rw [<-h1];simp
    have tE:ke σ.obj id nW.length=true:=by unfold ke;rw [gR];exact hb.2
    obtain ⟨_,pG⟩:=r.fg _ _ gR
    obtain ⟨_,⟨rfl,_,rfl,_⟩|⟨g,C,rfl,hC,hl⟩|⟨_,rfl,p,c,rfl⟩⟩:=nG r tE hv
    rotate_left 2
    ·exact .di (fun _ _=>undef) (ao _) (fun i j f hi=>by omega) (fun h=>by omega) (fun i j f hi=>by omega) fun i j f hi=>by omega
    ·exact .di (fun _ _=>undef) (af _) (fun i j f hi=>by omega) (fun h=>by omega) (fun i j f hi=>by omega) fun i j f hi=>by omega
    ·rcases pG with ⟨nk,_⟩|⟨g',C',cv,T,oS,hh,fq,Ua,hrel⟩
     ·rw [nk] at hl;cases hl
     ·rw [hl] at oS
      cases oS
      have key: ∀(i j:Nat) (f:Nat->DV),i<len->de[j]? =some f-> ∃u,w.cell? (Addr.add ⟨g,off*nW.length,none⟩ (i*de.length+j))=some u/\fc u=true/\du (df w base S0 (ig ρ c9)) (f i) u:=by
       intro i j f hi hf
       have hj:j<nW.length:=by rw [<-Ud];exact (aj.1 hf).1
       have ot:nW[j]? =some nW[j]:=ak hj
       obtain ⟨u,hu,ho,Kd⟩:=hrel (off+i) j _ (by omega) ot
       refine ⟨u,?_,ho,jO (gV 2 (h2 j _ f (by rw [aw,ot];rfl) hf i hi) Kd)⟩
       rw [eE,Ud]
       simp only [World.cell?,hh]
       rw [show off*nW.length+(i*nW.length+j)=(off+i)*nW.length+j by rw [cE];omega,hu]
       rfl
      refine .di (fun i j=>(w.cell? (Addr.add ⟨g,off*nW.length,none⟩ (i*de.length+j))).getD undef) (by omega) (fun i j f hi hf=>⟨_,rfl,.inl ⟨?_,?_⟩,fun id2 l2 e Ss=> ?_,?_,?_⟩) (fun _ h=>by cases h) (fun i j f hi hf=> ?_) fun i j f hi hf=> ?_
      ·obtain ⟨u,hu,_⟩:=key i j f hi hf
       rw [hu];rfl
      ·obtain ⟨u,hu,ho,_⟩:=key i j f hi hf
       rw [hu];exact ho
      ·obtain ⟨b,qx,hU⟩:=jS e Ss
       rw [eE] at Ss
       exact iL hb.1 qx (r.inj _ _ _ _ _ hU hl Ss rfl)
      ·rw [eE];exact oG r hl rfl
      ·rw [eE];exact sb r hl rfl
      ·obtain ⟨u,hu,ho,_⟩:=key i j f hi hf
       rw [hu];exact ho
      ·obtain ⟨u,hu,_,hr⟩:=key i j f hi hf
       rw [hu];exact hr
  ·exact h.one.elim
 ·rename_i id kG
  cases hb:sP ρ kG id with
  |false=>simp only [hb,ax] at h;exact h.one.elim
  |true=>
   have hl:=pn hb
   cases hv with
   |pB hk hp hh=>exact .pB ⟨_,hl⟩ hp fun g bs e=>by unfold ig at e;rw [hl] at e;exact hh g bs e
 ·rename_i id ks has gN
  split at h
  ·rename_i ks0 has0 col0 hot0 gR
   cases hb:(jy ρ id&&BV ks0 ks) with
   |false=>simp only [hb,ax] at h;exact h.one.elim
   |true=>
    simp only [hb,aq] at h
    simp only [av] at hb
    refine ew (gV 3 h (Qe r (fun ad u=>PC) (fun l g hl hg ad u e hu=>⟨hu,fun id2 l2 e2 Ss=> ?_,e▸oG r hl hg,e▸sb r hl hg⟩) gR hv))
    obtain ⟨b,qx,hU⟩:=jS e2 Ss
    rw [e] at Ss
    exact iL hb.1 qx (r.inj _ _ _ _ _ hU hl Ss hg)
  ·exact h.one.elim
 ·rename_i s id n s' kG n'
  cases hb:(sP ρ kG id&&Nat.beq s s') with
  |false=>simp only [hb,ax] at h;exact h.one.elim
  |true=>
   simp only [hb,aq] at h
   simp only [av] at hb
   have hl:=pn hb.1
   have hn:n=n':=h.one
   subst hn
   cases hv with
   |tL hk hp hh=>exact .tL ⟨_,hl⟩ hp fun g C bs e=>by unfold ig at e;rw [hl] at e;exact hh g C bs e
 ·rename_i s id n n' de
  split at h
  ·rename_i n0 s0 len gN gR
   cases hb:(jy ρ id&&(Nat.beq s s0&&Nat.ble 1 s)) with
   |false=>simp only [hb,ax] at h;exact h.one.elim
   |true=>
    simp only [hb,aq] at h
    simp only [av] at hb
    obtain rfl:=ag hb.2.1
    have hle:n<=n0:=h.hd
    have hn:n=n':=h.tl.hd
    subst hn
    obtain ⟨k1,k2⟩:=kd h.tl.tl
    have k1:s=de.length:=by rw [<-k1,vE,b6,List.length_range]
    obtain ⟨_,g,C,bs,cv,T,hl,hh,fq,QG,hG,yF⟩:=r.fg _ _ gR
    obtain ⟨rfl,hnc⟩:v= .slice (some ⟨g,0,none⟩) n C/\n<=C:=by cases hv with|tL _ _ h=>exact h g C bs hl
    have own: ∀(b k:Nat) (u:Value),(Loc.oo g C bs).has b->w.cell? ⟨b,k,none⟩=some u->fc u=true->df w base S0 (ig ρ c9) ⟨b,k,none⟩ u:=fun b k u qx hc ho=>⟨.inl ⟨hc,ho⟩,fun id2 l2 e Ss=>(by
     obtain ⟨b2,q1,q2⟩:=jS e Ss
     exact iL hb.1 q1 (r.inj _ _ _ _ _ q2 hl Ss qx)),oG r hl qx,sb r hl qx⟩
    have Kg: ∀i j,i<n->j<s-> ∃u,cv[i*s+j]? =some u/\fc u=true/\du (df w base S0 (ig ρ c9)) (.di (len i j) [gN i j]) u:=fun i j hi hj=>by
     obtain ⟨u,hu,hE⟩:=hG.Uy i j (by omega) hj (by simp)
     rcases hE with ⟨rfl,h0⟩|⟨b,Cb,cvb,Tb,rfl,c2,c3,c4,c5,c6⟩
     ·rw [h0]
      exact ⟨_,hu,rfl,.di (fun _ _=>undef) (af _) (fun i j f hi=>by omega) (fun h=>by omega) (fun i j f hi=>by omega) fun i j f hi=>by omega⟩
     ·refine ⟨_,hu,rfl,.di (fun q _=>cvb.getD q undef) c5 (fun q k f hq hf=>⟨_,rfl,?_⟩) (fun _ h=>by cases h) (fun q k f hq hf=> ?_) fun q k f hq hf=> ?_⟩
      ·match k,hf with
       |0,hf=>
        obtain ⟨x,x1,x2,x3⟩:=c6 q hq
        have e1:cvb.getD q undef=x:=by rw [aC,x1];rfl
        rw [e1,eE]
        simp only [aL,b7,aE,Nat.mul_one,bU]
        exact own b q x (.inr c2) (by simp only [World.cell?,c3,x1];rfl) x2
      ·obtain ⟨x,x1,x2,x3⟩:=c6 q hq
       have e1:cvb.getD q undef=x:=by rw [aC,x1];rfl
       rw [e1];exact x2
      ·match k,hf with
       |0,hf=>
        cases hf
        obtain ⟨x,x1,x2,x3⟩:=c6 q hq
        have e1:cvb.getD q undef=x:=by rw [aC,x1];rfl
        rw [e1];exact jO x3
    refine .di (fun i j=>cv.getD (i*s+j) undef) hnc (fun i j f hi hf=>⟨_,rfl,?_⟩) (fun _ h=>by cases h) (fun i j f hi hf=> ?_) fun i j f hi hf=> ?_
    ·have hj:j<s:=by rw [k1];exact (aj.1 hf).1
     obtain ⟨u,hu,ho,_⟩:=Kg i j hi hj
     have e1:cv.getD (i*s+j) undef=u:=by rw [aC,hu];rfl
     rw [e1,eE,aE,<-k1]
     exact own g _ u (.inl rfl) (by simp only [World.cell?,hh,hu];rfl) ho
    ·have hj:j<s:=by rw [k1];exact (aj.1 hf).1
     obtain ⟨u,hu,ho,_⟩:=Kg i j hi hj
     have e1:cv.getD (i*s+j) undef=u:=by rw [aC,hu];rfl
     rw [e1];exact ho
    ·have hj:j<s:=by rw [k1];exact (aj.1 hf).1
     obtain ⟨u,hu,ho,hr⟩:=Kg i j hi hj
     have e1:cv.getD (i*s+j) undef=u:=by rw [aC,hu];rfl
     have hf0:(vE s len gN)[j]? =some (fun i=> .di (len i j) [gN i j]):=by
      rw [vE,aw,List.getElem?_range hj];rfl
     rw [e1]
     exact gV 3 (k2 j _ f hf0 hf i hi) hr
  ·exact h.one.elim
 ·cases hc:d.closed with
  |false=>simp only [hc,ax] at h;exact h.one.elim
  |true=>
   simp only [hc,aq] at h
   exact ew (jO (gV 3 h (hv.close hc)))
theorem Dx (r:R base w0 S0 σ kn c9 a w): ∀(n:Nat) {d d':DV} {v:Value},dp (Yu ρ σ.obj n d d')->Rel (df w base S0 c9) kn c9 d v->Rel (df w base S0 (ig ρ c9)) (Hr ρ) (ig ρ c9) d' v:=by
 intro n
 induction n with
 |zero=>intro d d' v h hv;exact Au r h hv
 |succ n ih=>
  intro d d' v h hv
  simp only [Yu] at h
  generalize Yu ρ σ.obj n=f at h ih
  unfold leRS at h
  split at h
  ·cases hv with
   |agg hs hr=>obtain ⟨x,y⟩:=gZ h (fun h hv=>ih h hv) hs hr;exact .agg x y
  ·rename_i g cs g' ds
   cases hb:Nat.beq g g' with
   |false=>simp only [hb,ax] at h;exact h.one.elim
   |true=>
    simp only [hb,aq] at h
    obtain rfl:=ag hb
    cases hv with
    |jL hs hr=>obtain ⟨x,y⟩:=gZ h (fun h hv=>ih h hv) hs hr;exact .jL x y
  ·rename_i g cs g' ds
   cases hb:Nat.beq g g' with
   |false=>simp only [hb,ax] at h;exact h.one.elim
   |true=>
    simp only [hb,aq] at h
    obtain rfl:=ag hb
    cases hv with
    |nZ hs hr=>obtain ⟨x,y⟩:=gZ h (fun h hv=>ih h hv) hs hr;exact .nZ x y
  ·exact Au r h hv
theorem xX: ∀{l:List (Nat×DV)},dp (wR ρ σ l)-> ∀{t:Nat} {d:DV},look l t=some d->dp (Yu ρ σ.obj 2 (σ.get t) d)
 |(k,d0)::r,h,t,d,hl=>by
  obtain ⟨h1,h2⟩:=dp.app h
  rw [dH] at hl
  by_cases e:k=t
  ·subst e
   simp only [bn,aa] at hl
   subst hl;exact h1
  ·rw [ae e] at hl;exact xX h2 hl
 |[],_,t,d,hl=>by simp [look] at hl
theorem nK {ob:Heap}: ∀{l:List (Nat×Option fK)} {ρ':Ren},dp (gv ρ ob l ρ')-> ∀{id:Nat},
 (∀x,look l id=some x-> ∃o,x=some o/\((∃q o0,look ρ' id=some (some q)/\ob q=some o0/\dp (LP ρ ob o0 o))\/(look ρ' id=some none/\ ∃de,o= .row 0 de)))/\(∀x,look ρ' id=some x-> ∃o,look l id=some (some o))
 |[],[],_,id=>⟨fun x h=>by simp [look] at h,fun x h=>by simp [look] at h⟩
 |(i,some o)::r,(i',some q)::ρ',h,id=>by
  simp only [gv] at h
  split at h
  ·rename_i o0 hq
   cases hb:Nat.beq i i' with
   |false=>simp only [hb,ax] at h;exact h.one.elim
   |true=>
    simp only [hb,aq] at h
    obtain rfl:=ag hb
    obtain ⟨h1,h2⟩:=dp.app h
    obtain ⟨k1,k2⟩:=nK h2 (id:=id)
    simp only [dH]
    by_cases e:i=id
    ·simp only [e,bn]
     exact ⟨fun x hx=>by cases hx;exact ⟨o,rfl,.inl ⟨q,o0,rfl,hq,h1⟩⟩,fun x hx=>⟨o,rfl⟩⟩
    ·simp only [e,cg];exact ⟨k1,k2⟩
  ·exact h.one.elim
 |(i,some (.row n de))::r,(i',none)::ρ',h,id=>by
  simp only [gv] at h
  cases hb:Nat.beq i i' with
  |false=>simp only [hb,ax] at h;exact h.one.elim
  |true=>
   simp only [hb,aq] at h
   obtain rfl:=ag hb
   have hn:=h.hd
   subst hn
   obtain ⟨k1,k2⟩:=nK h.tl (id:=id)
   simp only [dH]
   by_cases e:i=id
   ·simp only [e,bn]
    exact ⟨fun x hx=>by cases hx;exact ⟨_,rfl,.inr ⟨by trivial,de,rfl⟩⟩,fun x hx=>⟨_,rfl⟩⟩
   ·simp only [e,cg];exact ⟨k1,k2⟩
 |(i,some (.box cs))::r,(i',none)::ρ',h,id=>by simp only [gv] at h;exact h.one.elim
 |(i,some (.ph ..))::r,(i',none)::ρ',h,id=>by simp only [gv] at h;exact h.one.elim
 |(i,some (.map ..))::r,(i',none)::ρ',h,id=>by simp only [gv] at h;exact h.one.elim
 |(i,some (.vF ..))::r,(i',none)::ρ',h,id=>by simp only [gv] at h;exact h.one.elim
 |(i,some .tok)::r,(i',none)::ρ',h,id=>by simp only [gv] at h;exact h.one.elim
 |(i,some (.oo ..))::r,(i',none)::ρ',h,id=>by simp only [gv] at h;exact h.one.elim
 |(i,some (.exact ..))::r,(i',none)::ρ',h,id=>by simp only [gv] at h;exact h.one.elim
 |(i,none)::r,(i',none)::ρ',h,id=>by simp only [gv] at h;exact h.one.elim
 |(i,none)::r,(i',some q)::ρ',h,id=>by simp only [gv] at h;exact h.one.elim
 |[],x::ρ',h,id=>by simp only [gv] at h;exact h.one.elim
 |(i,some (.row n de))::r,[],h,id=>by simp only [gv] at h;exact h.one.elim
 |(i,some (.box cs))::r,[],h,id=>by simp only [gv] at h;exact h.one.elim
 |(i,some (.ph ..))::r,[],h,id=>by simp only [gv] at h;exact h.one.elim
 |(i,some (.map ..))::r,[],h,id=>by simp only [gv] at h;exact h.one.elim
 |(i,some (.vF ..))::r,[],h,id=>by simp only [gv] at h;exact h.one.elim
 |(i,some .tok)::r,[],h,id=>by simp only [gv] at h;exact h.one.elim
 |(i,some (.oo ..))::r,[],h,id=>by simp only [gv] at h;exact h.one.elim
 |(i,some (.exact ..))::r,[],h,id=>by simp only [gv] at h;exact h.one.elim
 |(i,none)::r,[],h,id=>by simp only [gv] at h;exact h.one.elim
theorem yn {s n':Nat} {len oK:Nat->Nat->Nat} {gN rM:Nat->Nat->Nat->DV}: ∀{l:List Nat},dp (Kp s n' len oK gN rM l)-> ∀j,j∈l->(∀i,i<n'->len i j=oK i j)/\ ∀i q,i<n'->q<oK i j->dt (Gi 2 (gN i j q) (rM i j q))
 |[],_,j,hj=>by cases hj
 |x::r,h,j,hj=>by
  rcases aS.1 hj with rfl|hj
  ·exact ⟨h.hd,h.tl.hd⟩
  ·exact yn h.tl.tl j hj
theorem Hc (r:R base w0 S0 σ kn c9 a w) {l:Option Loc} {o0 o:fK} (h:dp (LP ρ σ.obj o0 o)) (pG:iG w (df w base S0 c9) kn c9 l o0):iG w (df w base S0 (ig ρ c9)) (Hr ρ) (ig ρ c9) l o:=by
 unfold LP at h
 split at h
 ·obtain ⟨g,C,cv,T,hl,hh,hs,hr,ho⟩:=pG
  obtain ⟨e1,e2⟩:=gZ h (fun h hv=>Dx r 2 h hv) hs hr
  exact ⟨g,C,cv,T,hl,hh,e1,e2,ho⟩
 ·rename_i n de n' fo
  have hn:=h.hd
  subst hn
  obtain ⟨k1,k2⟩:=kd h.tl
  rcases pG with ⟨hl,hn⟩|⟨g,C,cv,T,hl,hh,hs,hn,hr⟩
  ·exact .inl ⟨hl,hn⟩
  ·refine .inr ⟨g,C,cv,T,hl,hh,by rw [<-k1];exact hs,hn,fun i j f hi hf=> ?_⟩
   have hj:j<de.length:=by rw [k1];exact (aj.1 hf).1
   have ot:de[j]? =some de[j]:=ak hj
   obtain ⟨u,hu,ho,Kd⟩:=hr i j _ hi ot
   rw [<-k1]
   exact ⟨u,hu,ho,jO (gV 2 (k2 j _ f ot hf i hi) Kd)⟩
 ·rename_i n de n' fo
  have hn:=h.hd
  subst hn
  obtain ⟨k1,k2⟩:=kd h.tl
  rcases pG with ⟨hl,hn⟩|⟨g,C,cv,T,hl,hh,hs,hn,hr⟩
  ·exact .inl ⟨hl,hn⟩
  ·refine .inr ⟨g,0,C,cv,T,.inr ⟨hl,rfl⟩,hh,by rw [<-k1,aE,hs];exact af _,hn,fun i j f hi hf=> ?_⟩
   have hj:j<de.length:=by rw [k1];exact (aj.1 hf).1
   have ot:de[j]? =some de[j]:=ak hj
   obtain ⟨u,hu,ho,Kd⟩:=hr i j _ hi ot
   rw [<-k1,aE]
   exact ⟨u,hu,ho,jO (gV 2 (k2 j _ f ot hf i hi) Kd)⟩
 ·rename_i n de n' fo
  have hn:=h.hd
  subst hn
  obtain ⟨k1,k2⟩:=kd h.tl
  rcases pG with ⟨hl,hn⟩|⟨g,o,C,cv,T,hl,hh,hs,hn,hr⟩
  ·exact .inl ⟨hl,hn⟩
  ·refine .inr ⟨g,o,C,cv,T,hl,hh,by rw [<-k1];exact hs,hn,fun i j f hi hf=> ?_⟩
   have hj:j<de.length:=by rw [k1];exact (aj.1 hf).1
   have ot:de[j]? =some de[j]:=ak hj
   obtain ⟨u,hu,ho,Kd⟩:=hr i j _ hi ot
   rw [<-k1]
   exact ⟨u,hu,ho,jO (gV 2 (k2 j _ f ot hf i hi) Kd)⟩
 ·rename_i ks has gN _ Qn Kl rM
  cases hq:BV ks Qn with
  |false=>simp only [hq,ax] at h;exact h.one.elim
  |true=>
   simp only [hq,aq] at h
   obtain rfl:=xq hq
   have h1:=h.hd
   have h2:=h.tl.one
   obtain ⟨g,es,clock,hl,hh,hm,pF,_⟩:=pG
   refine ⟨g,es,clock,hl,hh,⟨fun e he=>let ⟨l,a,b⟩:=hm.hk e he;⟨l,a,by rw [<-h1];exact b⟩,fun l hl=>hm.hh l (by rw [h1];exact hl),hm.hd,hm.hs,fun e l he AG=> ?_⟩,pF,fun _ _ h=>by cases h⟩
   obtain ⟨l',a,b⟩:=hm.hk e he
   rw [AG] at a;cases a
   exact jO (gV 2 (h2 l (by rw [<-h1];exact b)).all (hm.h e l he AG))
 ·rename_i ks len gN _ Qn oK rM
  cases hq:BV ks Qn with
  |false=>simp only [hq,ax] at h;exact h.one.elim
  |true=>
   simp only [hq,aq] at h
   obtain rfl:=xq hq
   have h1:=h.hd
   have h2:=h.tl.one
   obtain ⟨g,bs,es,clock,hl,hh,hG,yF,_⟩:=pG
   refine ⟨g,bs,es,clock,hl,hh,⟨hG.hk,hG.hd,fun l hl hn=>by rw [<-h1];exact hG.P9 l hl hn,fun e l he AG hn=> ?_,hG.sep⟩,yF,fun _ _ h=>by cases h⟩
   rcases hG.Uy e l he AG hn with ⟨e1,e2⟩|⟨g',C,cv,T,a1,a2,a3,a4,a5,a6⟩
   ·exact .inl ⟨e1,by rw [<-h1];exact e2⟩
   ·rw [h1] at a1 a5 a6
    exact .inr ⟨g',C,cv,T,a1,a2,a3,a4,a5,fun i hi=>let ⟨u,x1,x2,x3⟩:=a6 i hi;⟨u,x1,x2,jO (gV 2 (h2 l i hi).all x3)⟩⟩
 ·have e:=h.hd
  have e2:=h.tl.one
  subst e
  subst e2
  exact pG
 ·rename_i n s len gN n' s' oK rM
  cases hb:Nat.beq s s' with
  |false=>simp only [hb,ax] at h;exact h.one.elim
  |true=>
   simp only [hb,aq] at h
   obtain rfl:=ag hb
   have hn:n=n':=h.hd
   subst hn
   have hs:=yn h.tl
   obtain ⟨g,C,bs,cv,T,hl,hh,fq,QG,hG,yF⟩:=pG
   refine ⟨g,C,bs,cv,T,hl,hh,fq,QG,⟨fun i j hi hj _=> ?_,fun i j i' j' b m C m' C' a1 a2 a3 a4 _ _ a5=>hG.sep i j i' j' b m C m' C' a1 a2 a3 a4 (by simp) (by simp) a5⟩,yF⟩
   obtain ⟨q1,q2⟩:=hs j (a8.2 hj)
   obtain ⟨u,hu,hE⟩:=hG.Uy i j hi hj (by simp)
   refine ⟨u,hu,?_⟩
   rcases hE with ⟨h1,h2⟩|⟨b,Cb,cvb,Tb,c1,c2,c3,c4,c5,c6⟩
   ·exact .inl ⟨h1,by rw [<-q1 i hi];exact h2⟩
   ·rw [q1 i hi] at c1 c5 c6
    exact .inr ⟨b,Cb,cvb,Tb,c1,c2,c3,c4,c5,fun q hq=>let ⟨x,x1,x2,x3⟩:=c6 q hq;⟨x,x1,x2,jO (gV 2 (q2 i q hi hq).all x3)⟩⟩
 ·exact h.one.elim
theorem O4 (hshp: ∀d v,(d,v)∈S0.sh->Rel (df w base S0 (ig ρ c9)) (Hr ρ) (ig ρ c9) d v) (L3:S0.wb≠none->σ'.rn=true) (h:dp (pd ρ σ σ')) (r:R base w0 S0 σ kn c9 a w):R base w0 S0 σ' (Hr ρ) (ig ρ c9) a w/\ ∀i,Hr ρ i->i<σ'.nx:=by
 unfold pd at h
 cases hb:(zT ρ&&(rQ σ'.nx ρ&&(Nat.beq σ.nt σ'.nt&&Nat.beq σ.lo σ'.lo))) with
 |false=>simp only [hb,ax] at h;exact h.one.elim
 |true=>
  simp only [hb,aq] at h
  simp only [av] at hb
  obtain ⟨qx,hU,QW,hb4⟩:=hb
  have T7:=ag QW
  have lS:=ag hb4
  obtain ⟨h1,h2⟩:=dp.app h
  refine ⟨⟨r.below,r.xs,r.fw,r.rH,r.nM,L3,fun B hB id g bs e=> ?_,fun d v h=>(aT.1 h).elim (fun h=>ew (jO (r.tM d v h))) (hshp d v),r.size.trans T7,fun t=> ?_,fun id o ho=> ?_,fun i i' l l' g e1 e2 g1 g2=> ?_,fun i l g e hg=> ?_,fun i l e=> ?_,fun t ht=>r.EF t (by rw [lS];exact ht)⟩,fun i ⟨x,hx⟩=>sY hU hx⟩
  ·obtain ⟨b,_,hb⟩:=jS e (.inl rfl)
   exact r.lR B hB b g bs hb
  ·unfold St.get
   cases hl:look σ'.t t with
   |none=>exact .any _
   |some d=>exact Dx r 2 (xX h1 hl) (r.tmps t)
  ·unfold St.obj at ho
   cases hl:look σ'.h id with
   |none=>simp [hl] at ho
   |some x=>
    simp only [hl] at ho
    subst ho
    obtain ⟨o',e,hx⟩:=(nK h2 (id:=id)).1 _ hl
    cases e
    rcases hx with ⟨q,o0,hq,gR,dg⟩|⟨hq,de,rfl⟩
    ·refine ⟨⟨_,hq⟩,?_⟩
     have hblk:ig ρ c9 id=c9 q:=by unfold ig;rw [hq]
     rw [hblk]
     exact Hc r dg (r.fg _ _ gR).2
    ·refine ⟨⟨_,hq⟩,.inl ⟨?_,rfl⟩⟩
     unfold ig;rw [hq]
  ·obtain ⟨b,hb1',hb2'⟩:=jS e1 g1
   obtain ⟨b',hb1'',hb2''⟩:=jS e2 g2
   have:=r.inj _ _ _ _ _ hb2' hb2'' g1 g2
   subst this
   exact s8 qx hb1' hb1''
  ·obtain ⟨b,_,hb⟩:=jS e hg
   exact r.ge _ _ _ hb hg
  ·have: ∃x,look ρ i=some x:=by
    unfold ig at e
    split at e
    ·rename_i b hb;exact ⟨_,hb⟩
    ·rename_i hb;exact ⟨_,hb⟩
    ·cases e
   obtain ⟨x,hx⟩:=this
   obtain ⟨o,ho⟩:=(nK h2 (id:=i)).2 x hx
   exact ⟨o,by unfold St.obj;rw [ho]⟩
theorem D7 (tD:S0.sh=[]) (L3:S0.wb≠none->σ'.rn=true) (h:dp (pd ρ σ σ')) (r:R base w0 S0 σ kn c9 a w):R base w0 S0 σ' (Hr ρ) (ig ρ c9) a w/\ ∀i,Hr ρ i->i<σ'.nx:=
 O4 (fun d v h=>by rw [tD] at h;cases h) L3 h r
theorem weaken (tD:S0.sh=[]) (L3:S0.wb≠none->σ'.rn=true) (h:dp (pd ρ σ σ')) (hf:Fits base w0 S0 σ a w):Fits base w0 S0 σ' a w:=
 let ⟨_,_,r,_⟩:=hf
 ⟨_,_,D7 tD L3 h r⟩
end
end Go.Abs
end
