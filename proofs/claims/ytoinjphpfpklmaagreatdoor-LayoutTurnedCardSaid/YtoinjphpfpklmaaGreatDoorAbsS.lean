/- Contracts and what they stand on. -/
import Derived.Test.YtoinjphpfpklmaaGreatDoorAbsP
set_option linter.unusedVariables false
set_option linter.unusedSimpArgs false
section
namespace Go.Abs
open Go.RowKit
theorem sa {α:Type} (p q:α->Bool) (hpq: ∀x,q x=true->p x=true): ∀(l:List α) (i:α),i∈l->p i=true->q i=false->l.countP q<l.countP p
 |x::r,i,h,hp,hq=>by
  have hle: ∀(l:List α),l.countP q<=l.countP p:=fun l=>by
   induction l with
   |nil=>simp
   |cons y l ih=>
    simp only [List.countP_cons]
    have:=hpq y
    cases hy:q y with
    |false=>simp;omega
    |true=>simp [this hy];exact ih
  simp only [List.countP_cons]
  rcases aR.1 h with rfl|h
  ·have:=hle r
   simp [hp,hq];omega
  ·have:=sa p q hpq r i h hp hq
   have h2:=hpq x
   cases hx:q x with
   |false=>simp;omega
   |true=>simp [h2 hx];exact this
section
variable {P:Program} {ro:Option Nat} {m:Nat} {ops:Array Oper} {dz:List (Nat×fx)} {base:Nat} {w0:World} {S0:Env} {Q:Exit->Act->World->Prop}
theorem zq {f g:kk} {t:Nat} (hf:f.tw=some t) (hg:g.tw=some t\/t∈g.tr):meets f g=true:=by
 unfold meets
 have:rH (Nt f.tw) (Nt g.tw++g.tr)=true:=pd (i:=t) (by rw [hf];exact au.2 rfl) (by
  rcases hg with h|h
  ·rw [h];exact ax
  ·exact aU _ h)
 rw [this];rfl
theorem Hj {f g:kk} {t:Nat} (hg:g.tw=some t) (hf:t∈f.tr):meets f g=true:=by
 unfold meets
 have:rH (Nt g.tw) f.tr=true:=pd (i:=t) (by rw [hg];exact au.2 rfl) hf
 rw [this];simp
theorem zr {f g:kk} {i:Nat} (hf:i∈f.hw) (hg:i∈g.hw\/i∈g.hr):meets f g=true:=by
 unfold meets
 have:rH f.hw (g.hw++g.hr)=true:=pd hf (aO.2 hg)
 rw [this];simp
theorem Hk {f g:kk} {i:Nat} (hg:i∈g.hw) (hf:i∈f.hr):meets f g=true:=by
 unfold meets
 have:rH g.hw f.hr=true:=pd hg hf
 rw [this];simp
theorem jS {α:Type}: ∀{l:List (Nat×α)} {i:Nat} {v:α},look l i=some v->i∈l.map (·.1)
 |(k,x)::r,i,v,h=>by
  rw [dG] at h
  by_cases e:k=i
  ·simp [e]
  ·rw [ab e] at h
   exact ay _ (jS h)
structure Setup (P:Program) (ops:Array Oper) (dz:List (Nat×fx)) (base:Nat) (w0:World) (S0:Env) (Q:Exit->Act->World->Prop) (n0:Nat) (σ:St):Prop where
 vc: ∀(j:Nat) (d:Option Tmp) (e:fg),(trace P ops dz n0 ops.toList 0 σ)[j]? =some (d,e)->jH σ.nt σ.lo d=true/\dw e.vc
 ord:p5 (sl ops.toList []) (kQ P ops dz n0 ops.toList 0 σ) ops.toList (kQ P ops dz n0 ops.toList 0 σ) 0=true
 fin: ∀kn di a w,R base w0 S0 (canon (trace P ops dz n0 ops.toList 0 σ) (fun _=>true) 0 σ) kn di a w->(∀i,kn i->i<n0+ops.size)->Q .normal a w
variable {n0:Nat} {σ:St}
theorem lX: ∀(l:List Oper) (k:Nat) (σ:St),(kQ P ops dz n0 l k σ).length=l.length
 |[],_,_=>rfl
 |o::r,k,σ=>by simp only [kQ,aH,lX r]
def pre (ops:Array Oper) (j i:Nat):Bool:=((sl ops.toList []).getD j 0).testBit i
theorem Setup.down (s:Setup P ops dz base w0 S0 Q n0 σ) {j:Nat} {o:Oper} (ho:ops[j]? =some o):(∀e∈o.after.toList,Region.binds .any e=true->e.on<j)/\
 (∀i,i<ops.size->pre ops j i=true-> ∃e∈o.after.toList,Region.binds .any e=true/\(e.on=i\/pre ops e.on i=true)):=by
 have mJ:ops.toList[j]? =some o:=by simpa using ho
 have hj:j<ops.size:=(aF.1 ho).1
 have hf:(kQ P ops dz n0 ops.toList 0 σ)[j]? =some ((kQ P ops dz n0 ops.toList 0 σ)[j]'(by rw [lX];simpa using hj)):=ak _
 obtain ⟨_,h2,h3⟩:=pZ s.ord j o _ mJ hf
 rw [aE] at h2 h3
 refine ⟨r8 h3,fun i hi hp=> ?_⟩
 rw [lX] at h2
 obtain ⟨e,he,hb,h⟩:=qA (lL h2 i (by simpa using hi) hp)
 exact ⟨e,he,hb,h⟩
theorem Setup.pair (s:Setup P ops dz base w0 S0 Q n0 σ) {i j:Nat} {f g:kk} (Kk:i<j) (hf:(kQ P ops dz n0 ops.toList 0 σ)[i]? =some f) (hg:(kQ P ops dz n0 ops.toList 0 σ)[j]? =some g) (hm:meets f g=true):
 pre ops j i=true:=by
 have hj:j<ops.toList.length:=by rw [<-lX (P:=P) (ops:=ops) (dz:=dz) (n0:=n0) ops.toList 0 σ];exact (ai.1 hg).1
 obtain ⟨h1,_,_⟩:=pZ s.ord j _ g (ak hj) hg
 rw [aE] at h1
 have:=vq h1 i f (by rw [bS,ag Kk];exact hf) hm
 rwa [aE] at this
theorem Setup.step (s:Setup P ops dz base w0 S0 Q n0 σ) {L:Nat->Bool} (pt: ∀j,j<ops.size->L j=true-> ∀i,i<ops.size->pre ops j i=true->L i=true) {K:Nat} {o:Oper} (ho:ops[K]? =some o) (hK:L K=false)
 (jq: ∀i,i<ops.size->pre ops K i=true->L i=true) {d:Option Tmp} {e:fg} (he:(trace P ops dz n0 ops.toList 0 σ)[K]? =some (d,e)):
 d=o.dst/\jl P ops (mA dz K) (n0+K) (canon (trace P ops dz n0 ops.toList 0 σ) L 0 σ) o=e/\
 (∀t,((canon (trace P ops dz n0 ops.toList 0 σ) L 0 σ).uG d e).get t=(canon (trace P ops dz n0 ops.toList 0 σ) (fun i=>L i||decide (i=K)) 0 σ).get t)/\
 (∀i,((canon (trace P ops dz n0 ops.toList 0 σ) L 0 σ).uG d e).obj i=(canon (trace P ops dz n0 ops.toList 0 σ) (fun i=>L i||decide (i=K)) 0 σ).obj i):=by
 have mJ:ops.toList[K]? =some o:=by simpa using ho
 have Kt:K<ops.size:=(aF.1 ho).1
 have Fb:=mW (P:=P) (ops:=ops) (dz:=dz) (n0:=n0) ops.toList 0 σ K o mJ
 rw [Fb] at he
 simp only [aE,aa,aB] at he
 obtain ⟨rfl,he⟩:=he
 have UJ:=py (P:=P) (ops:=ops) (dz:=dz) (n0:=n0) ops.toList 0 σ K o mJ
 simp only [aE] at UJ Fb
 rw [he] at UJ Fb
 -- a place that K reads or writes: whoever else writes it is on the right side
 have side: ∀(j:Nat) (dj:Option Tmp) (ej:fg),(trace P ops dz n0 ops.toList 0 σ)[j]? =some (dj,ej)->j≠K->
  ((∃t,dj=some t/\(o.dst=some t\/t∈kH ops o))\/(∃i,i∈ej.hw.map (·.1)/\(i∈e.hw.map (·.1)\/i∈iU (canon ((trace P ops dz n0 ops.toList 0 σ).take K) (fun _=>true) 0 σ) (mG o.op))))->
  (j<K->L j=true)/\(K<j->L j=false):=by
  intro j dj ej hj ji hm
  have Rl:j<ops.toList.length:=by
   have:=(ai.1 hj).1
   rwa [gT] at this
  have Uz:ops.toList[j]? =some ops.toList[j]:=ak Rl
  have Zb:=mW (P:=P) (ops:=ops) (dz:=dz) (n0:=n0) ops.toList 0 σ j _ Uz
  rw [Zb] at hj
  simp only [aE,aa,aB] at hj
  obtain ⟨rfl,hej⟩:=hj
  have Cq:=py (P:=P) (ops:=ops) (dz:=dz) (n0:=n0) ops.toList 0 σ j _ Uz
  simp only [aE] at Cq
  rw [hej] at Cq
  refine ⟨fun dR=> ?_,fun dR=> ?_⟩
  ·refine jq j (by simpa using Rl) (s.pair dR Cq UJ ?_)
   rcases hm with ⟨t,h1,h2⟩|⟨i,h1,h2⟩
   ·exact zq (t:=t) h1 h2
   ·exact zr (i:=i) h1 h2
  ·have hp:pre ops j K=true:=by
    refine s.pair dR UJ Cq ?_
    rcases hm with ⟨t,h1,h2|h2⟩|⟨i,h1,h2|h2⟩
    ·exact zq (t:=t) h2 (.inl h1)
    ·exact Hj (t:=t) h1 h2
    ·exact zr (i:=i) h2 (.inl h1)
    ·exact Hk (i:=i) h1 h2
   cases hLj:L j with
   |false=>rfl
   |true=>
    have:=pt j (by simpa using Rl) hLj K Kt hp
    rw [hK] at this;cases this
 have LR: ∀t,(o.dst=some t\/t∈kH ops o)->(canon (trace P ops dz n0 ops.toList 0 σ) L 0 σ).get t=(canon ((trace P ops dz n0 ops.toList 0 σ).take K) (fun _=>true) 0 σ).get t:=by
  intro t ht
  rw [iI,iI,List.map_take]
  refine ni K L hK _ 0 _ (aq _) fun j v hj=> ?_
  rw [aE]
  rw [aw] at hj
  cases hx:(trace P ops dz n0 ops.toList 0 σ)[j]? with
  |none=>simp [hx] at hj
  |some x=>
   obtain ⟨dj,ej⟩:=x
   simp only [hx,aA,aa,tW] at hj
   by_cases Rm:j=K
   ·subst Rm;exact ⟨fun h=>by omega,fun h=>by omega⟩
   ·split at hj
    ·rename_i hd
     exact side j dj ej hx Rm (.inl ⟨t,hd,ht⟩)
    ·cases hj
 have Aq: ∀i,(i∈e.hw.map (·.1)\/i∈iU (canon ((trace P ops dz n0 ops.toList 0 σ).take K) (fun _=>true) 0 σ) (mG o.op))->(canon (trace P ops dz n0 ops.toList 0 σ) L 0 σ).obj i=(canon ((trace P ops dz n0 ops.toList 0 σ).take K) (fun _=>true) 0 σ).obj i:=by
  intro i hi
  rw [gU,gU,List.map_take]
  refine ni K L hK _ 0 _ (aq _) fun j v hj=> ?_
  rw [aE]
  rw [aw] at hj
  cases hx:(trace P ops dz n0 ops.toList 0 σ)[j]? with
  |none=>simp [hx] at hj
  |some x=>
   obtain ⟨dj,ej⟩:=x
   simp only [hx,aA,aa,hW] at hj
   by_cases Rm:j=K
   ·subst Rm;exact ⟨fun h=>by omega,fun h=>by omega⟩
   ·exact side j dj ej hx Rm (.inr ⟨i,jS hj,hi⟩)
 refine ⟨rfl,?_,fun t=> ?_,fun i=> ?_⟩
 ·rw [<-he]
  exact (rE (fun t ht=>(LR t (.inr ht)).symm) (fun i hi=>(Aq i (.inr hi)).symm) ((ft _ _ _ _).1.trans (ft _ _ _ _).1.symm) (fun i hi=>(Aq i (.inl (by rw [he] at hi;exact hi))).symm)).symm
 ·rw [St.Fl,iI t _ (fun i=>L i||decide (i=K))]
  have Ki:=ph K L ((trace P ops dz n0 ops.toList 0 σ).map (tW t)) 0 (σ.get t) (aq _) (fun v hv j u hj dR=>by
   rw [aE] at dR ⊢
   rw [bJ,aw,Fb] at hv
   simp only [aA,aa,tW] at hv
   split at hv
   ·rename_i hd
    rw [aw] at hj
    cases hx:(trace P ops dz n0 ops.toList 0 σ)[j]? with
    |none=>simp [hx] at hj
    |some x=>
     obtain ⟨dj,ej⟩:=x
     simp only [hx,aA,aa,tW] at hj
     split at hj
     ·rename_i ZE
      exact (side j dj ej hx (by omega) (.inl ⟨t,ZE,.inl hd⟩)).2 dR
     ·cases hj
   ·cases hv)
  rw [Ki,bJ,aw,Fb]
  simp only [aA,tW]
  by_cases hd:o.dst=some t
  ·simp [hd]
  ·simp only [hd,cE,iI]
 ·rw [St.EV,gU i _ (fun i=>L i||decide (i=K))]
  have Ki:=ph K L ((trace P ops dz n0 ops.toList 0 σ).map (hW i)) 0 (σ.obj i) (aq _) (fun v hv j u hj dR=>by
   rw [aE] at dR ⊢
   rw [bJ,aw,Fb] at hv
   simp only [aA,aa,hW] at hv
   rw [aw] at hj
   cases hx:(trace P ops dz n0 ops.toList 0 σ)[j]? with
   |none=>simp [hx] at hj
   |some x=>
    obtain ⟨dj,ej⟩:=x
    simp only [hx,aA,aa,hW] at hj
    exact (side j dj ej hx (by omega) (.inr ⟨i,jS hj,.inl (jS hv)⟩)).2 dR)
  rw [Ki,bJ,aw,Fb]
  simp only [aA,hW]
  cases hl:look e.hw i with
  |some v=>rfl
  |none=>simp only [gU]
theorem Setup.any (s:Setup P ops dz base w0 S0 Q n0 σ): ∀(n:Nat) (listed:Array Bool) (kn:Nat->Prop) (di:Nat->Option Loc) (a:Act) (w:World),listed.size=ops.size->
 (List.range ops.size).countP (fun i=> !listed.getD i true)<=n->
 (∀j,j<ops.size->listed.getD j true=true-> ∀i,i<ops.size->pre ops j i=true->listed.getD i true=true)->
 R base w0 S0 (canon (trace P ops dz n0 ops.toList 0 σ) (fun i=>listed.getD i true) 0 σ) kn di a w->(∀i,kn i->i<n0\/ ∃j,j<ops.size/\listed.getD j true=true/\i=n0+j)->
 wpAnyIn (FW ro) m P .any ops Q n listed a w:=by
 -- when none is ready, all are listed
 have FK: ∀(listed:Array Bool),listed.size=ops.size->Region.ready .any ops listed=[]-> ∀i,i<ops.size->listed.getD i true=true:=by
  intro listed eW hr i
  induction i using Nat.strongRecOn with
  |_ i ih=>
   intro hi
   cases Rj:listed.getD i true with
   |true=>rfl
   |false=>
    exfalso
    have qt:i∈Region.ready .any ops listed:=by
     unfold Region.ready
     refine bH.2 ⟨bg.2 hi,?_⟩
     have ho:ops[i]? =some ops[i]:=az hi
     simp only [Rj,ho,Bool.not_false,Bool.true_and,aA,cD]
     rw [b6]
     intro e he
     have hd:=(s.down ho).1 e (bw.2 he)
     cases hb:Region.binds .any e with
     |false=>rfl
     |true=>
      have dR:=hd hb
      have h1:=ih e.on dR (by omega)
      have:listed.getD e.on false=true:=by
       rw [av] at h1 ⊢
       have hx:listed[e.on]? =some listed[e.on]:=az (by omega)
       rw [hx] at h1 ⊢
       simpa using h1
      simp [this]
    rw [hr] at qt
    cases qt
 have last: ∀(listed:Array Bool) (kn:Nat->Prop) (di:Nat->Option Loc) (a:Act) (w:World),listed.size=ops.size->Region.ready .any ops listed=[]->
  R base w0 S0 (canon (trace P ops dz n0 ops.toList 0 σ) (fun i=>listed.getD i true) 0 σ) kn di a w->(∀i,kn i->i<n0\/ ∃j,j<ops.size/\listed.getD j true=true/\i=n0+j)->Q .normal a w:=by
  intro listed kn di a w eW hr hR kr
  have fp:=FK listed eW hr
  have same:(fun i=>listed.getD i true)=fun _=>true:=by
   funext i
   by_cases hi:i<ops.size
   ·exact fp i hi
   ·rw [av,Array.getElem?_eq_none (by omega)];rfl
  rw [same] at hR
  refine s.fin kn di a w hR fun i hi=> ?_
  rcases kr i hi with h|⟨j,hj,_,rfl⟩
  ·omega
  ·omega
 intro n
 induction n with
 |zero=>
  intro listed kn di a w eW Rw pt hR kr
  have hr:Region.ready .any ops listed=[]:=by
   have h0: ∀i∈List.range ops.size,¬((!listed.getD i true)=true):=by
    have:(List.range ops.size).countP (fun i=> !listed.getD i true)=0:=Nat.le_zero.1 Rw
    exact List.countP_eq_zero.1 this
   unfold Region.ready
   refine List.filter_eq_nil_iff.2 fun i hi h=> ?_
   simp only [an] at h
   exact h0 i hi h.1
  exact ⟨hr,last listed kn di a w eW hr hR kr⟩
 |succ n ih=>
  intro listed kn di a w eW Rw pt hR kr
  refine ⟨fun hr=>last listed kn di a w eW hr hR kr,fun K hK=> ?_⟩
  unfold Region.ready at hK
  obtain ⟨hK1,S8⟩:=bH.1 hK
  have Kt:K<ops.size:=bg.1 hK1
  have ho:ops[K]? =some ops[K]:=az Kt
  simp only [an,ho,aA,cD] at S8
  have ZL:listed.getD K true=false:=by simpa using S8.1
  have Km: ∀e∈ops[K].after.toList,Region.binds .any e=true->listed.getD e.on true=true:=by
   intro e he hb
   have:=(b6.1 S8.2) e (bw.1 he)
   simp only [hb,Bool.not_true,Bool.false_or] at this
   rw [av] at this ⊢
   cases hx:listed[e.on]? with
   |some v=>rw [hx] at this;simpa using this
   |none=>rfl
  have jq: ∀i,i<ops.size->pre ops K i=true->listed.getD i true=true:=by
   intro i hi hp
   obtain ⟨e,he,hb,h⟩:=(s.down ho).2 i hi hp
   have h1:=Km e he hb
   rcases h with rfl|h
   ·exact h1
   ·exact pt e.on (by have:=(s.down ho).1 e he hb;omega) h1 i hi h
  have hlen:K<(trace P ops dz n0 ops.toList 0 σ).length:=by rw [gT];simpa using Kt
  have Q3:(trace P ops dz n0 ops.toList 0 σ)[K]? =some ((trace P ops dz n0 ops.toList 0 σ)[K].1,(trace P ops dz n0 ops.toList 0 σ)[K].2):=ak hlen
  obtain ⟨hd,Rr,qu,nk⟩:=s.step (L:=fun i=>listed.getD i true) (fun j hj hL i hi hp=>pt j hj hL i hi hp) ho ZL jq Q3
  obtain ⟨ff,dr⟩:=s.vc K _ _ Q3
  rw [<-Rr] at dr
  have UB:=(nb (trace P ops dz n0 ops.toList 0 σ) (fun i=>listed.getD i true) 0 σ).2
  have fJ: ¬kn (n0+K):=fun h=>by
   rcases kr _ h with h|⟨j,_,hj,e⟩
   ·omega
   ·have:j=K:=by omega
    subst this
    rw [ZL] at hj;cases hj
  unfold wpOpIn
  simp only [ho]
  refine rD hR fJ dr (by rw [UB,(ft _ _ _ _).2,<-hd];exact ff) fun a' w' ⟨eV,du,hR',kE⟩=> ?_
  have px: ∀i,(listed.setIfInBounds K true).getD i true=(listed.getD i true||decide (i=K)):=by
   intro i
   simp only [av,bp]
   by_cases e:K=i
   ·subst e
    simp [eW,Kt]
   ·have: ¬(i=K):=fun h=>e h.symm
    simp [e,this]
  refine ih (listed.setIfInBounds K true) eV du a' w' (by simpa using eW) ?_ ?_ ?_ ?_
  ·have:=sa (fun i=> !listed.getD i true) (fun i=> !(listed.setIfInBounds K true).getD i true) (fun x hx=>by
    rw [px] at hx;simp at hx;simpa using hx.1) (List.range ops.size) K (bg.2 Kt) (by simp [ZL]) (by simp [px])
   omega
  ·intro j hj hL i hi hp
   rw [px] at hL ⊢
   simp only [bA,ah] at hL ⊢
   rcases hL with hL|rfl
   ·exact .inl (pt j hj hL i hi hp)
   ·exact .inl (jq i hi hp)
  ·have e1:(fun i=>(listed.setIfInBounds K true).getD i true)=fun i=>listed.getD i true||decide (i=K):=funext px
   rw [e1]
   rw [Rr,<-hd] at hR'
   exact hR'.congr (fun t=>(qu t).symm) (fun i=>(nk i).symm) ((nb _ _ _ _).2.trans UB.symm) ((ft _ _ _ _).1.trans (ft _ _ _ _).1.symm) ((ft _ _ _ _).2.trans (ft _ _ _ _).2.symm)
  ·intro i hi
   rcases kE i hi with h|h
   ·rcases kr i h with h|⟨j,h1,h2,h3⟩
    ·exact .inl h
    ·exact .inr ⟨j,h1,by rw [px,h2];rfl,h3⟩
   ·exact .inr ⟨K,Kt,by rw [px];simp,h⟩
def xP (P:Program) (ops:Array Oper) (dz:List (Nat×fx)) (σ:St):Bool:=
 p5 (sl ops.toList []) (kQ P ops dz σ.nx ops.toList 0 { σ with nx:=σ.nx+ops.size }) ops.toList (kQ P ops dz σ.nx ops.toList 0 { σ with nx:=σ.nx+ops.size }) 0
theorem qK {σ:St} {a:Act} {w:World} (h:Fits base w0 S0 σ a w) (dr:dw (fq P ops dz σ).2) (nj:xP P ops dz σ=true)
 (hQ: ∀a' w',Fits base w0 S0 (fq P ops dz σ).1 a' w'->Q .normal a' w'):wpAnyIn (FW ro) m P .any ops Q ops.size (Array.replicate ops.size false) a { w with drawn:=w.drawn+1 }:=by
 obtain ⟨kn,di,r,hk⟩:=h
 have hnx:=sy (P:=P) ops dz σ.nx ops.toList 0 { σ with nx:=σ.nx+ops.size } []
 have s:Setup P ops dz base w0 S0 Q σ.nx { σ with nx:=σ.nx+ops.size }:=by
  refine ⟨rp ops.toList 0 _ [] dr,nj,fun eV du a' w' hR kE=>hQ a' w' ⟨eV,du,?_,fun i hi=> ?_⟩⟩
  ·unfold fq
   rw [pS];exact hR
  ·have:=kE i hi
   show i<(ja P ops dz σ.nx ops.toList 0 { σ with nx:=σ.nx+ops.size } []).1.nx
   rw [hnx.1];exact this
 have Q8: ∀i,(Array.replicate ops.size false).getD i true=decide (ops.size<=i):=by
  intro i
  rw [av,Array.getElem?_replicate]
  by_cases hi:i<ops.size
  ·rw [ag hi]
   have:decide (ops.size<=i)=false:=by simp;omega
   rw [this];rfl
  ·rw [ab hi]
   have:decide (ops.size<=i)=true:=by simp;omega
   rw [this];rfl
 refine s.any ops.size (Array.replicate ops.size false) kn di a _ (by simp) (aV List.countP_le_length (by simp)) (fun j hj hL=> ?_) ?_ fun i hi=> .inl (hk i hi)
 ·rw [Q8] at hL;simp at hL;omega
 ·have e1:(fun i=>(Array.replicate ops.size false).getD i true)=fun i=>decide (ops.size<=i):=funext Q8
  rw [e1]
  have qu: ∀t,(canon (trace P ops dz σ.nx ops.toList 0 { σ with nx:=σ.nx+ops.size }) (fun i=>decide (ops.size<=i)) 0 { σ with nx:=σ.nx+ops.size }).get t=σ.get t:=by
   intro t
   rw [iI]
   refine jo _ _ _ _ fun j v hj=> ?_
   have:=(ai.1 hj).1
   rw [cp,gT] at this
   simp at this ⊢;omega
  have nk: ∀t,(canon (trace P ops dz σ.nx ops.toList 0 { σ with nx:=σ.nx+ops.size }) (fun i=>decide (ops.size<=i)) 0 { σ with nx:=σ.nx+ops.size }).obj t=σ.obj t:=by
   intro t
   rw [gU]
   refine jo _ _ _ _ fun j v hj=> ?_
   have:=(ai.1 hj).1
   rw [cp,gT] at this
   simp at this ⊢;omega
  exact r.drew.congr qu nk (nb _ _ _ _).2 (ft _ _ _ _).1 (ft _ _ _ _).2
theorem vb {σ:St} {a:Act} {w:World} {id:Nat} (hm:P.follows .mixedOrders=true) (h:Fits base w0 S0 σ a w) (dr:dw (fq P ops dz σ).2) (nj:xP P ops dz σ=true)
 (hQ: ∀a' w',Fits base w0 S0 (fq P ops dz σ).1 a' w'->Q .normal a' w'):(Code.region id ops true).wpIn (FW ro) m P Q a w:=
 wpIn_region_any hm (qK h dr nj hQ)
end
end Go.Abs
end
section
namespace Go.Abs
open Go.RowKit
def leV:Value->Value->List Prop
 |.int k x,.int k' y=>if k=k' then [x=y] else [False]
 |.bool x,.bool y=>[x=y]
 |.string x,.string y=>[x=y]
 |v,u=>[v=u]
def Ul:List Value->List Value->List Prop
 |[],[]=>[]
 |v::r,u::q=>leV v u++Ul r q
 |_,_=>[False]
def le0:DV->DV->List Prop
 |_,.any=>[]
 |.val (.agg vs),.val (.agg us)=>Ul vs.toList us.toList
 |.val (.tuple vs),.val (.tuple us)=>Ul vs.toList us.toList
 |.val v,.val u=>leV v u
 |_,_=>[False]
def QJ (f:DV->DV->List Prop):List (Nat->DV)->List (Nat->DV)->Nat->List Prop
 |[],[],_=>[]
 |c::r,d::q,n=>(∀i,i<n->dC (f (c i) (d i)))::QJ f r q n
 |_,_,_=>[False]
def E6 (f:DV->DV->List Prop):List DV->List DV->List Prop
 |[],[]=>[]
 |c::r,d::q=>f c d++E6 f r q
 |_,_=>[False]
def leS (f:DV->DV->List Prop):DV->DV->List Prop
 |.dt m dp,.dt m' eB=>(m=m')::QJ f dp eB m'
 |.agg cs,.agg ds=>E6 f cs ds
 |.fC cs,.fC ds=>E6 f cs ds
 |.val (.tuple vs),.fC ds=>E6 f (vs.toList.map .val) ds
 |.fC cs,.val (.tuple us)=>E6 f cs (us.toList.map .val)
 |.val (.agg vs),.agg ds=>E6 f (vs.toList.map .val) ds
 |.agg cs,.val (.agg us)=>E6 f cs (us.toList.map .val)
 |.jt g cs,.jt g' ds=>bif Nat.beq g g' then E6 f cs ds else [False]
 |.oB g cs,.oB g' ds=>bif Nat.beq g g' then E6 f cs ds else [False]
 |.dV cs,.dV ds=>E6 f cs ds
 |.val (.slice none 0 0),.dt n _=>[n=0]
 |.mp ks has eQ,.mp nL Kr sd=>bif mI ks nL then [∀l,has l=Kr l,∀l,Kr l=true->dC (f (eQ l) (sd l))] else [False]
 |.val (.map none),.mp _ has _=>[∀l,has l=false]
 |d,d'=>le0 d d'
def yy:Nat->DV->DV->List Prop
 |0=>le0
 |n+1=>leS (yy n)
theorem DU {v u:Value} (h:dw (leV v u)):v=u:=by
 unfold leV at h
 split at h
 ·split at h
  ·rename_i hk;subst hk;rw [h.one]
  ·exact h.one.elim
 ·rw [h.one]
 ·rw [h.one]
 ·exact h.one
theorem ua: ∀{l m:List Value},dw (Ul l m)->l=m
 |[],[],_=>rfl
 |v::r,u::q,h=>by
  obtain ⟨h1,h2⟩:=dw.app h
  rw [DU h1,ua h2]
 |[],_::_,h=>h.one.elim
 |_::_,[],h=>h.one.elim
section
variable {rd:Rd} {kn eV:Nat->Prop} {di du:Nat->Option Loc}
theorem DX {d d':DV} {v:Value} (h:dw (le0 d d')) (hv:Rel rd kn di d v):Rel rd eV du d' v:=by
 unfold le0 at h
 split at h
 ·exact .any v
 ·cases hv;rw [cB (ua h)];exact .val _
 ·cases hv;rw [cB (ua h)];exact .val _
 ·cases hv;rw [DU h];exact .val _
 ·exact h.one.elim
theorem jB {f:DV->DV->List Prop}: ∀{c d:List (Nat->DV)} {n:Nat},dw (QJ f c d n)->c.length=d.length/\ ∀(j:Nat) (x y:Nat->DV),c[j]? =some x->d[j]? =some y-> ∀i,i<n->dw (f (x i) (y i))
 |[],[],_,_=>⟨rfl,by simp⟩
 |x::c,y::d,n,h=>by
  obtain ⟨h1,h2⟩:=jB h.tl
  refine ⟨by simp [h1],fun j x' y' hx hy=> ?_⟩
  cases j with
  |zero=>
   simp only [aL,aa] at hx hy
   subst hx hy
   exact fun i hi=>(h.hd i hi).all
  |succ j=>exact h2 j x' y' (by simpa using hx) (by simpa using hy)
 |[],_::_,_,h=>h.one.elim
 |_::_,[],_,h=>h.one.elim
theorem pg {f:DV->DV->List Prop}: ∀{c d:List DV},dw (E6 f c d)->c.length=d.length/\ ∀(j:Nat) (x y:DV),c[j]? =some x->d[j]? =some y->dw (f x y)
 |[],[],_=>⟨rfl,by simp⟩
 |x::c,y::d,h=>by
  obtain ⟨k1,k2⟩:=dw.app h
  obtain ⟨h1,h2⟩:=pg k2
  refine ⟨by simp [h1],fun j x' y' hx hy=> ?_⟩
  cases j with
  |zero=>
   simp only [aL,aa] at hx hy
   subst hx hy
   exact k1
  |succ j=>exact h2 j x' y' (by simpa using hx) (by simpa using hy)
 |[],_::_,h=>h.one.elim
 |_::_,[],h=>h.one.elim
theorem gV {gF:Rd} {f:DV->DV->List Prop} {cs ds:List DV} {vs:Array Value} (h:dw (E6 f cs ds)) (hf: ∀{d d' v},dw (f d d')->Rel rd kn di d v->Rel gF eV du d' v) (hs:vs.size=cs.length)
 (hr: ∀(j:Nat) (d:DV) (u:Value),cs[j]? =some d->vs[j]? =some u->Rel rd kn di d u):
 vs.size=ds.length/\ ∀(j:Nat) (d:DV) (u:Value),ds[j]? =some d->vs[j]? =some u->Rel gF eV du d u:=by
 obtain ⟨h1,h2⟩:=pg h
 refine ⟨by omega,fun j d u hd hu=> ?_⟩
 have dR:j<cs.length:=by rw [h1];exact (ai.1 hd).1
 have hc:cs[j]? =some cs[j]:=ak dR
 exact hf (h2 j _ _ hc hd) (hr j _ u hc hu)
theorem GB {vs:Array Value}: ∀(j:Nat) (d:DV) (u:Value),(vs.toList.map DV.val)[j]? =some d->vs[j]? =some u->Rel rd kn di d u:=by
 intro j d u hd hu
 simp only [aw,bo,hu,aA,aa] at hd
 subst hd;exact .val u
theorem fG: ∀(n:Nat) {d d':DV} {v:Value},dw (yy n d d')->dA rd d v->dA rd d' v:=by
 intro n
 induction n with
 |zero=>intro d d' v h hv;exact DX h hv
 |succ n ih=>
  intro d d' v h hv
  simp only [yy] at h
  generalize yy n=f at h ih
  unfold leS at h
  split at h
  ·rename_i m dp m' eB
   obtain ⟨h1,h2⟩:=jB h.tl
   have hm:=h.hd
   subst hm
   cases hv with
   |dt U hc ha hn ho hr=>
    have get: ∀(j:Nat) (f:Nat->DV),eB[j]? =some f-> ∃g,dp[j]? =some g:=fun j f hf=>by
     have dR:j<dp.length:=by rw [h1];exact (ai.1 hf).1
     exact ⟨_,ak dR⟩
    refine .dt U hc (fun i j f hi hf=> ?_) hn (fun i j f hi hf=> ?_) fun i j f hi hf=> ?_
    ·obtain ⟨g,hg⟩:=get j f hf
     rw [<-h1];exact ha i j g hi hg
    ·obtain ⟨g,hg⟩:=get j f hf
     exact ho i j g hi hg
    ·obtain ⟨g,hg⟩:=get j f hf
     exact ih (h2 j g f hg hf i hi) (hr i j g hi hg)
  ·cases hv with
   |agg hs hr=>obtain ⟨a,b⟩:=gV h (fun h hv=>ih h hv) hs hr;exact .agg a b
  ·cases hv with
   |fC hs hr=>obtain ⟨a,b⟩:=gV h (fun h hv=>ih h hv) hs hr;exact .fC a b
  ·cases hv;obtain ⟨a,b⟩:=gV h (fun h hv=>ih h hv) (by simp) GB;exact .fC a b
  ·cases hv with
   |fC hs hr=>
    rename_i us vs
    obtain ⟨a,b⟩:=gV h (fun h hv=>ih h hv) hs hr
    have:vs=us:=by
     apply Array.ext
     ·simpa using a
     ·intro i h1 h2
      have:=(b i (.val us[i]) vs[i] (by simp [h2]) (by simp [h1])).k5
      exact this
    rw [this];exact .val _
  ·cases hv;obtain ⟨a,b⟩:=gV h (fun h hv=>ih h hv) (by simp) GB;exact .agg a b
  ·cases hv with
   |agg hs hr=>
    rename_i us vs
    obtain ⟨a,b⟩:=gV h (fun h hv=>ih h hv) hs hr
    have:vs=us:=by
     apply Array.ext
     ·simpa using a
     ·intro i h1 h2
      have:=(b i (.val us[i]) vs[i] (by simp [h2]) (by simp [h1])).k5
      exact this
    rw [this];exact .val _
  ·rename_i g cs g' ds
   cases hb:Nat.beq g g' with
   |false=>simp only [hb,ar] at h;exact h.one.elim
   |true=>
    simp only [hb,ao] at h
    obtain rfl:=af hb
    cases hv with
    |jt hs hr=>obtain ⟨a,b⟩:=gV h (fun h hv=>ih h hv) hs hr;exact .jt a b
  ·rename_i g cs g' ds
   cases hb:Nat.beq g g' with
   |false=>simp only [hb,ar] at h;exact h.one.elim
   |true=>
    simp only [hb,ao] at h
    obtain rfl:=af hb
    cases hv with
    |oB hs hr=>obtain ⟨a,b⟩:=gV h (fun h hv=>ih h hv) hs hr;exact .oB a b
  ·cases hv with
   |dV U ha ho hr=>
    obtain ⟨h1,h2⟩:=pg h
    refine .dV U (fun j d hd=> ?_) (fun j d hd=> ?_) fun j d hd=> ?_
    ·exact ha j _ (ak (by rw [h1];exact (ai.1 hd).1))
    ·exact ho j _ (ak (by rw [h1];exact (ai.1 hd).1))
    ·have hc:=ak (l:=_) (show j<_ by rw [h1];exact (ai.1 hd).1)
     exact ih (h2 j _ _ hc hd) (hr j _ hc)
  ·cases hv
   have hn:=h.one
   subst hn
   exact .dt (fun _ _=>undef) (ae _) (fun i j f hi=>by omega) (fun h=>by omega) (fun i j f hi=>by omega) fun i j f hi=>by omega
  ·rename_i ks has eQ nL Kr sd
   cases hq:mI ks nL with
   |false=>simp only [hq,ar] at h;exact h.one.elim
   |true=>
    simp only [hq,ao] at h
    obtain rfl:=iX hq
    have h1:=h.hd
    have h2:=h.tl.one
    cases hv with
    |mp es h0 ha hk hh hd hs hr=>
     exact .mp es h0 ha (fun e he=>let ⟨l,a,b⟩:=hk e he;⟨l,a,by rw [<-h1];exact b⟩) (fun l hl=>hh l (by rw [h1];exact hl)) hd hs fun e l he A9=>by
      obtain ⟨l',a,b⟩:=hk e he
      rw [A9] at a;cases a
      exact ih (h2 l (by rw [<-h1];exact b)).all (hr e l he A9)
  ·cases hv
   have h1:=h.one
   exact .mp [] (fun _=>rfl) (fun g e=>by cases e) (fun e he=>by cases he) (fun l hl=>by rw [h1] at hl;cases hl) List.Pairwise.nil (fun e he=>by cases he) fun e l he=>by cases he
  ·exact DX h hv
end
abbrev Ren:=List (Nat×Option Nat)
def jz (ρ:Ren) (id:Nat):Bool:=match ρ with
 |[]=>true
 |(_,some a)::r=>bif Nat.beq a id then false else jz r id
 |(_,none)::r=>jz r id
def tp (ρ:Ren) (new wV:Nat):Bool:=match look ρ new with
 |some (some a)=>Nat.beq a wV
 |_=>false
def Ap:Ren->Bool
 |[]=>true
 |(_,some a)::r=>bif jz r a then Ap r else false
 |(_,none)::r=>Ap r
def vN (s:Nat) (len:Nat->Nat->Nat) (eQ:Nat->Nat->Nat->DV):List (Nat->DV):=(List.range s).map fun j i=> .dt (len i j) [eQ i j]
def Kv (s n':Nat) (len pf:Nat->Nat->Nat) (eQ sd:Nat->Nat->Nat->DV):List Nat->List Prop
 |[]=>[]
 |j::r=>(∀i,i<n'->len i j=pf i j)::(∀i q,i<n'->q<pf i j->dC (yy 2 (eQ i j q) (sd i j q)))::Kv s n' len pf eQ sd r
def Um (ρ:Ren) (ob:Heap):DV->DV->List Prop
 |_,.any=>[]
 |.ptr id j,.ptr kN j'=>bif tp ρ kN id&&Nat.beq j j' then [] else [False]
 |.row s id off len,.row s' kN Qr pf=>bif tp ρ kN id&&Nat.beq s s' then [off=Qr,len=pf] else [False]
 |.val (.slice none 0 0),.row _ kN Qr pf=>match look ρ kN with
  |some none=>[Qr=0,pf=0]
  |_=>[False]
 |.row s id off len,.dt n dp=>match ob id with
  |some (.row n0 oz)=>bif jz ρ id&&Nat.beq oz.length s then (off+len<=n0)::(len=n)::QJ (yy 2) (oz.map fun c i=>c (off+i)) dp n else [False]
  |_=>[False]
 |.lg id,.lg kN=>bif tp ρ kN id then [] else [False]
 |.lg id,.mp ks has eQ=>match ob id with
  |some (.map ks0 has0 col0 _)=>bif jz ρ id&&mI ks0 ks then yy 3 (.mp ks0 has0 col0) (.mp ks has eQ) else [False]
  |_=>[False]
 |.s6 s id n,.s6 s' kN n'=>bif tp ρ kN id&&Nat.beq s s' then [n=n'] else [False]
 |.s6 s id n,.dt n' dp=>match ob id with
  |some (.jc n0 s0 len eQ none)=>bif jz ρ id&&(Nat.beq s s0&&Nat.ble 1 s) then (n<=n0)::(n=n')::QJ (yy 3) (vN s len eQ) dp n' else [False]
  |_=>[False]
 |d,d'=>bif d.closed then yy 3 d d' else [False]
def leRS (f:DV->DV->List Prop) (ρ:Ren) (ob:Heap):DV->DV->List Prop
 |.agg cs,.agg ds=>E6 f cs ds
 |.jt g cs,.jt g' ds=>bif Nat.beq g g' then E6 f cs ds else [False]
 |.oB g cs,.oB g' ds=>bif Nat.beq g g' then E6 f cs ds else [False]
 |d,d'=>Um ρ ob d d'
def Y2 (ρ:Ren) (ob:Heap):Nat->DV->DV->List Prop
 |0=>Um ρ ob
 |n+1=>leRS (Y2 ρ ob n) ρ ob
def xf (ρ:Ren) (σ:St):List (Nat×DV)->List Prop
 |[]=>[]
 |(t,d)::r=>Y2 ρ σ.obj 2 (σ.get t) d++xf ρ σ r
def L8 (ρ:Ren) (ob:Heap):fF->fF->List Prop
 |.box cs,.box ds=>E6 (Y2 ρ ob 2) cs ds
 |.row n dp,.row n' eB=>(n=n')::QJ (yy 2) dp eB n'
 |.row n dp,.pR n' eB=>(n=n')::QJ (yy 2) dp eB n'
 |.pR n dp,.pR n' eB=>(n=n')::QJ (yy 2) dp eB n'
 |.map ks has eQ _,.map nL Kr sd none=>bif mI ks nL then [∀l,has l=Kr l,∀l,Kr l=true->dC (yy 2 (eQ l) (sd l))] else [False]
 |.np ks len eQ _ none,.np nL pf sd [] none=>bif mI ks nL then [∀l,len l=pf l,∀l i,i<pf l->dC (yy 2 (eQ l i) (sd l i))] else [False]
 |.exact g o,.exact g' o'=>[g=g',o=o']
 |.jc n s len eQ none,.jc n' s' pf sd none=>bif Nat.beq s s' then (n=n')::Kv s n' len pf eQ sd (List.range s) else [False]
 |_,_=>[False]
def gp (ρ:Ren) (ob:Heap):List (Nat×Option fF)->Ren->List Prop
 |[],[]=>[]
 |(id,some o)::r,(kN,some q)::ρ'=>match ob q with
  |some o0=>bif Nat.beq id kN then L8 ρ ob o0 o++gp ρ ob r ρ' else [False]
  |none=>[False]
 |(id,some (.row n _))::r,(kN,none)::ρ'=>bif Nat.beq id kN then (n=0)::gp ρ ob r ρ' else [False]
 |_,_=>[False]
def si (n:Nat):Ren->Bool
 |[]=>true
 |(id,_)::r=>bif Nat.blt id n then si n r else false
def pL (ρ:Ren) (σ σ':St):List Prop:=
 bif Ap ρ&&(si σ'.nx ρ&&(Nat.beq σ.nt σ'.nt&&Nat.beq σ.lo σ'.lo)) then xf ρ σ σ'.t++gp ρ σ.obj σ'.h ρ else [False]
end Go.Abs
end
section
namespace Go.Abs
open Go.RowKit
theorem iP {id:Nat}: ∀{ρ:Ren},jz ρ id=true-> ∀{i a:Nat},look ρ i=some (some a)->a≠id
 |(k,some b)::r,h,i,a,hl=>by
  simp only [jz] at h
  cases hb:Nat.beq b id with
  |true=>simp [hb] at h
  |false=>
   simp only [hb,ar] at h
   rw [dG] at hl
   by_cases e:k=i
   ·simp only [e,ba,aa] at hl
    subst hl
    rintro rfl
    simp at hb
   ·rw [ab e] at hl;exact iP h hl
 |(k,none)::r,h,i,a,hl=>by
  simp only [jz] at h
  rw [dG] at hl
  by_cases e:k=i
  ·simp [e] at hl
  ·rw [ab e] at hl;exact iP h hl
 |[],_,i,a,hl=>by simp [look] at hl
theorem tK: ∀{ρ:Ren},Ap ρ=true-> ∀{i i' a:Nat},look ρ i=some (some a)->look ρ i'=some (some a)->i=i'
 |(k,some b)::r,h,i,i',a,h1,h2=>by
  simp only [Ap] at h
  cases hb:jz r b with
  |false=>simp [hb] at h
  |true=>
   simp only [hb,ao] at h
   rw [dG] at h1 h2
   by_cases e1:k=i<;>by_cases e2:k=i'
   ·rw [<-e1,<-e2]
   ·simp only [e1,ba,aa] at h1
    rw [ab e2] at h2
    exact absurd h1.symm (iP hb h2)
   ·simp only [e2,ba,aa] at h2
    rw [ab e1] at h1
    exact absurd h2.symm (iP hb h1)
   ·rw [ab e1] at h1
    rw [ab e2] at h2
    exact tK h h1 h2
 |(k,none)::r,h,i,i',a,h1,h2=>by
  simp only [Ap] at h
  rw [dG] at h1 h2
  by_cases e1:k=i
  ·simp [e1] at h1
  ·by_cases e2:k=i'
   ·simp [e2] at h2
   ·rw [ab e1] at h1
    rw [ab e2] at h2
    exact tK h h1 h2
 |[],_,i,i',a,h1,_=>by simp [look] at h1
theorem tC {n:Nat}: ∀{ρ:Ren},si n ρ=true-> ∀{i:Nat} {x:Option Nat},look ρ i=some x->i<n
 |(k,b)::r,h,i,x,hl=>by
  simp only [si] at h
  cases hb:Nat.blt k n with
  |false=>simp [hb] at h
  |true=>
   simp only [hb,ao] at h
   rw [dG] at hl
   by_cases e:k=i
   ·subst e;exact aC hb
   ·rw [ab e] at hl;exact tC h hl
 |[],_,i,x,hl=>by simp [look] at hl
theorem pU {ρ:Ren} {i a:Nat} (h:tp ρ i a=true):look ρ i=some (some a):=by
 unfold tp at h
 split at h
 ·rename_i b hb;rw [hb,af h]
 ·cases h
def Ht (ρ:Ren) (id:Nat):Prop:= ∃x,look ρ id=some x
def ig (ρ:Ren) (di:Nat->Option Loc) (id:Nat):Option Loc:=match look ρ id with
 |some (some a)=>di a
 |some none=>some .nil
 |none=>none
section
variable {base:Nat} {w0 w:World} {S0:Env} {σ σ':St} {kn:Nat->Prop} {di:Nat->Option Loc} {a:Act} {ρ:Ren}
theorem jU {id g:Nat} {l:Loc} (h:ig ρ di id=some l) (hg:l.has g): ∃b,look ρ id=some (some b)/\di b=some l:=by
 unfold ig at h
 split at h
 ·rename_i b hb;exact ⟨b,hb,h⟩
 ·cases h;exact hg.elim
 ·cases h
theorem Qc {ad:Addr} {u:Value} (h:dq w base S0 di ad u):dq w base S0 (ig ρ di) ad u:=
 ⟨h.1,fun id l e hg=>let ⟨b,_,hb⟩:=jU e hg;h.2.1 b l hb hg,h.2.2⟩
theorem jR {d:DV} {v:Value} (h:dA (dq w base S0 di) d v):dA (dq w base S0 (ig ρ di)) d v:=
 h.mono (fun _ _ h=>Qc h) (fun _ h=>h) fun _ _ h=>h.elim
theorem AY (r:R base w0 S0 σ kn di a w) {d d':DV} {v:Value} (h:dw (Um ρ σ.obj d d')) (hv:Rel (dq w base S0 di) kn di d v):Rel (dq w base S0 (ig ρ di)) (Ht ρ) (ig ρ di) d' v:=by
 unfold Um at h
 split at h
 ·exact .any v
 ·rename_i id j kN j'
  cases hb:(tp ρ kN id&&Nat.beq j j') with
  |false=>simp only [hb,ar] at h;exact h.one.elim
  |true=>
   simp only [an] at hb
   have hl:=pU hb.1
   obtain rfl:=af hb.2
   cases hv with
   |ptr hk hp hh=>exact .ptr ⟨_,hl⟩ hp fun g C e=>by unfold ig at e;rw [hl] at e;exact hh g C e
 ·rename_i s id off len s' kN Qr pf
  cases hb:(tp ρ kN id&&Nat.beq s s') with
  |false=>simp only [hb,ar] at h;exact h.one.elim
  |true=>
   simp only [hb,ao] at h
   simp only [an] at hb
   have hl:=pU hb.1
   obtain rfl:=af hb.2
   have e1:=h.hd
   have e2:=h.tl.one
   subst e1 e2
   cases hv with
   |row hk hp h0 hh hs=>
    exact .row ⟨_,hl⟩ hp (fun e=>by unfold ig at e;rw [hl] at e;exact h0 e) (fun g C e=>by unfold ig at e;rw [hl] at e;exact hh g C e) fun g o C e=>by unfold ig at e;rw [hl] at e;exact hs g o C e
 ·rename_i s kN Qr pf
  split at h
  ·rename_i hl
   cases hv
   have e1:=h.hd
   have e2:=h.tl.one
   subst e1 e2
   exact .row ⟨_,hl⟩ ⟨_,_,rfl,fun _=>rfl⟩ (fun _=>⟨rfl,rfl,rfl⟩) (fun g C e=>by unfold ig at e;rw [hl] at e;simp at e) fun g o C e=>by unfold ig at e;rw [hl] at e;simp at e
  ·exact h.one.elim
 ·rename_i s id off len n dp
  split at h
  ·rename_i n0 oz fE
   cases hb:(jz ρ id&&Nat.beq oz.length s) with
   |false=>simp only [hb,ar] at h;exact h.one.elim
   |true=>
    simp only [hb,ao] at h
    simp only [an] at hb
    obtain rfl:=af hb.2
    have hle:=h.hd
    have hn:=h.tl.hd
    subst hn
    obtain ⟨h1,h2⟩:=jB h.tl.tl
    have UG:dp.length=oz.length:=by rw [<-h1];simp
    have rS:je σ.obj id oz.length=true:=by unfold je;rw [fE];exact hb.2
    obtain ⟨_,lU⟩:=r.eC _ _ fE
    obtain ⟨_,⟨rfl,_,rfl,_⟩|⟨g,C,rfl,hC,hl⟩|⟨_,rfl,p,c,rfl⟩⟩:=kJ r rS hv
    rotate_left 2
    ·exact .dt (fun _ _=>undef) (aq _) (fun i j f hi=>by omega) (fun h=>by omega) (fun i j f hi=>by omega) fun i j f hi=>by omega
    ·exact .dt (fun _ _=>undef) (ae _) (fun i j f hi=>by omega) (fun h=>by omega) (fun i j f hi=>by omega) fun i j f hi=>by omega
    ·rcases lU with ⟨lk,_⟩|⟨g',C',cv,T,lG,hh,eW,UD,hrel⟩
     ·rw [lk] at hl;cases hl
     ·rw [hl] at lG
      cases lG
      have key: ∀(i j:Nat) (f:Nat->DV),i<len->dp[j]? =some f-> ∃u,w.cell? (Addr.add ⟨g,off*oz.length,none⟩ (i*dp.length+j))=some u/\eL u=true/\dA (dq w base S0 (ig ρ di)) (f i) u:=by
       intro i j f hi hf
       have hj:j<oz.length:=by rw [<-UG];exact (ai.1 hf).1
       have oQ:oz[j]? =some oz[j]:=ak hj
       obtain ⟨u,hu,ho,Kh⟩:=hrel (off+i) j _ (by omega) oQ
       refine ⟨u,?_,ho,jR (fG 2 (h2 j _ f (by rw [aw,oQ];rfl) hf i hi) Kh)⟩
       rw [eF,UG]
       simp only [World.cell?,hh]
       rw [show off*oz.length+(i*oz.length+j)=(off+i)*oz.length+j by rw [cd];omega,hu]
       rfl
      refine .dt (fun i j=>(w.cell? (Addr.add ⟨g,off*oz.length,none⟩ (i*dp.length+j))).getD undef) (by omega) (fun i j f hi hf=>⟨_,rfl,.inl ⟨?_,?_⟩,fun Wa l2 e S3=> ?_,?_,?_⟩) (fun _ h=>by cases h) (fun i j f hi hf=> ?_) fun i j f hi hf=> ?_
      ·obtain ⟨u,hu,_⟩:=key i j f hi hf
       rw [hu];rfl
      ·obtain ⟨u,hu,ho,_⟩:=key i j f hi hf
       rw [hu];exact ho
      ·obtain ⟨b,pw,gJ⟩:=jU e S3
       rw [eF] at S3
       exact iP hb.1 pw (r.inj _ _ _ _ _ gJ hl S3 rfl)
      ·rw [eF];exact o8 r hl rfl
      ·rw [eF];exact sD r hl rfl
      ·obtain ⟨u,hu,ho,_⟩:=key i j f hi hf
       rw [hu];exact ho
      ·obtain ⟨u,hu,_,hr⟩:=key i j f hi hf
       rw [hu];exact hr
  ·exact h.one.elim
 ·rename_i id kN
  cases hb:tp ρ kN id with
  |false=>simp only [hb,ar] at h;exact h.one.elim
  |true=>
   have hl:=pU hb
   cases hv with
   |lg hk hp hh=>exact .lg ⟨_,hl⟩ hp fun g bs e=>by unfold ig at e;rw [hl] at e;exact hh g bs e
 ·rename_i id ks has eQ
  split at h
  ·rename_i ks0 has0 col0 hot0 fE
   cases hb:(jz ρ id&&mI ks0 ks) with
   |false=>simp only [hb,ar] at h;exact h.one.elim
   |true=>
    simp only [hb,ao] at h
    simp only [an] at hb
    refine ee (fG 3 h (QA r (fun ad u=>Qc) (fun l g hl hg ad u e hu=>⟨hu,fun Wa l2 e2 S3=> ?_,e▸o8 r hl hg,e▸sD r hl hg⟩) fE hv))
    obtain ⟨b,pw,gJ⟩:=jU e2 S3
    rw [e] at S3
    exact iP hb.1 pw (r.inj _ _ _ _ _ gJ hl S3 hg)
  ·exact h.one.elim
 ·rename_i s id n s' kN n'
  cases hb:(tp ρ kN id&&Nat.beq s s') with
  |false=>simp only [hb,ar] at h;exact h.one.elim
  |true=>
   simp only [hb,ao] at h
   simp only [an] at hb
   have hl:=pU hb.1
   have hn:n=n':=h.one
   subst hn
   cases hv with
   |s6 hk hp hh=>exact .s6 ⟨_,hl⟩ hp fun g C bs e=>by unfold ig at e;rw [hl] at e;exact hh g C bs e
 ·rename_i s id n n' dp
  split at h
  ·rename_i n0 s0 len eQ fE
   cases hb:(jz ρ id&&(Nat.beq s s0&&Nat.ble 1 s)) with
   |false=>simp only [hb,ar] at h;exact h.one.elim
   |true=>
    simp only [hb,ao] at h
    simp only [an] at hb
    obtain rfl:=af hb.2.1
    have hle:n<=n0:=h.hd
    have hn:n=n':=h.tl.hd
    subst hn
    obtain ⟨k1,k2⟩:=jB h.tl.tl
    have k1:s=dp.length:=by rw [<-k1,vN,cp,List.length_range]
    obtain ⟨_,g,C,bs,cv,T,hl,hh,eW,NT,hG,rV⟩:=r.eC _ _ fE
    obtain ⟨rfl,hnc⟩:v= .slice (some ⟨g,0,none⟩) n C/\n<=C:=by cases hv with|s6 _ _ h=>exact h g C bs hl
    have own: ∀(b k:Nat) (u:Value),(Loc.jc g C bs).has b->w.cell? ⟨b,k,none⟩=some u->eL u=true->dq w base S0 (ig ρ di) ⟨b,k,none⟩ u:=fun b k u pw hc ho=>⟨.inl ⟨hc,ho⟩,fun Wa l2 e S3=>(by
     obtain ⟨b2,q1,q2⟩:=jU e S3
     exact iP hb.1 q1 (r.inj _ _ _ _ _ q2 hl S3 pw)),o8 r hl pw,sD r hl pw⟩
    have Cr: ∀i j,i<n->j<s-> ∃u,cv[i*s+j]? =some u/\eL u=true/\dA (dq w base S0 (ig ρ di)) (.dt (len i j) [eQ i j]) u:=fun i j hi hj=>by
     obtain ⟨u,hu,hE⟩:=hG.Ju i j (by omega) hj (by simp)
     rcases hE with ⟨rfl,h0⟩|⟨b,Cb,wY,Tb,rfl,c2,c3,c4,c5,c6⟩
     ·rw [h0]
      exact ⟨_,hu,rfl,.dt (fun _ _=>undef) (ae _) (fun i j f hi=>by omega) (fun h=>by omega) (fun i j f hi=>by omega) fun i j f hi=>by omega⟩
     ·refine ⟨_,hu,rfl,.dt (fun q _=>wY.getD q undef) c5 (fun q k f hq hf=>⟨_,rfl,?_⟩) (fun _ h=>by cases h) (fun q k f hq hf=> ?_) fun q k f hq hf=> ?_⟩
      ·match k,hf with
       |0,hf=>
        obtain ⟨x,x1,x2,x3⟩:=c6 q hq
        have e1:wY.getD q undef=x:=by rw [av,x1];rfl
        rw [e1,eF]
        simp only [aH,b7,aE,Nat.mul_one,bV]
        exact own b q x (.inr c2) (by simp only [World.cell?,c3,x1];rfl) x2
      ·obtain ⟨x,x1,x2,x3⟩:=c6 q hq
       have e1:wY.getD q undef=x:=by rw [av,x1];rfl
       rw [e1];exact x2
      ·match k,hf with
       |0,hf=>
        cases hf
        obtain ⟨x,x1,x2,x3⟩:=c6 q hq
        have e1:wY.getD q undef=x:=by rw [av,x1];rfl
        rw [e1];exact jR x3
    refine .dt (fun i j=>cv.getD (i*s+j) undef) hnc (fun i j f hi hf=>⟨_,rfl,?_⟩) (fun _ h=>by cases h) (fun i j f hi hf=> ?_) fun i j f hi hf=> ?_
    ·have hj:j<s:=by rw [k1];exact (ai.1 hf).1
     obtain ⟨u,hu,ho,_⟩:=Cr i j hi hj
     have e1:cv.getD (i*s+j) undef=u:=by rw [av,hu];rfl
     rw [e1,eF,aE,<-k1]
     exact own g _ u (.inl rfl) (by simp only [World.cell?,hh,hu];rfl) ho
    ·have hj:j<s:=by rw [k1];exact (ai.1 hf).1
     obtain ⟨u,hu,ho,_⟩:=Cr i j hi hj
     have e1:cv.getD (i*s+j) undef=u:=by rw [av,hu];rfl
     rw [e1];exact ho
    ·have hj:j<s:=by rw [k1];exact (ai.1 hf).1
     obtain ⟨u,hu,ho,hr⟩:=Cr i j hi hj
     have e1:cv.getD (i*s+j) undef=u:=by rw [av,hu];rfl
     have hf0:(vN s len eQ)[j]? =some (fun i=> .dt (len i j) [eQ i j]):=by
      rw [vN,aw,List.getElem?_range hj];rfl
     rw [e1]
     exact fG 3 (k2 j _ f hf0 hf i hi) hr
  ·exact h.one.elim
 ·cases hc:d.closed with
  |false=>simp only [hc,ar] at h;exact h.one.elim
  |true=>
   simp only [hc,ao] at h
   exact ee (jR (fG 3 h (hv.close hc)))
theorem DW (r:R base w0 S0 σ kn di a w): ∀(n:Nat) {d d':DV} {v:Value},dw (Y2 ρ σ.obj n d d')->Rel (dq w base S0 di) kn di d v->Rel (dq w base S0 (ig ρ di)) (Ht ρ) (ig ρ di) d' v:=by
 intro n
 induction n with
 |zero=>intro d d' v h hv;exact AY r h hv
 |succ n ih=>
  intro d d' v h hv
  simp only [Y2] at h
  generalize Y2 ρ σ.obj n=f at h ih
  unfold leRS at h
  split at h
  ·cases hv with
   |agg hs hr=>obtain ⟨x,y⟩:=gV h (fun h hv=>ih h hv) hs hr;exact .agg x y
  ·rename_i g cs g' ds
   cases hb:Nat.beq g g' with
   |false=>simp only [hb,ar] at h;exact h.one.elim
   |true=>
    simp only [hb,ao] at h
    obtain rfl:=af hb
    cases hv with
    |jt hs hr=>obtain ⟨x,y⟩:=gV h (fun h hv=>ih h hv) hs hr;exact .jt x y
  ·rename_i g cs g' ds
   cases hb:Nat.beq g g' with
   |false=>simp only [hb,ar] at h;exact h.one.elim
   |true=>
    simp only [hb,ao] at h
    obtain rfl:=af hb
    cases hv with
    |oB hs hr=>obtain ⟨x,y⟩:=gV h (fun h hv=>ih h hv) hs hr;exact .oB x y
  ·exact AY r h hv
theorem ye: ∀{l:List (Nat×DV)},dw (xf ρ σ l)-> ∀{t:Nat} {d:DV},look l t=some d->dw (Y2 ρ σ.obj 2 (σ.get t) d)
 |(k,d0)::r,h,t,d,hl=>by
  obtain ⟨h1,h2⟩:=dw.app h
  rw [dG] at hl
  by_cases e:k=t
  ·subst e
   simp only [ba,aa] at hl
   subst hl;exact h1
  ·rw [ab e] at hl;exact ye h2 hl
 |[],_,t,d,hl=>by simp [look] at hl
theorem oe {ob:Heap}: ∀{l:List (Nat×Option fF)} {ρ':Ren},dw (gp ρ ob l ρ')-> ∀{id:Nat},
 (∀x,look l id=some x-> ∃o,x=some o/\((∃q o0,look ρ' id=some (some q)/\ob q=some o0/\dw (L8 ρ ob o0 o))\/(look ρ' id=some none/\ ∃dp,o= .row 0 dp)))/\(∀x,look ρ' id=some x-> ∃o,look l id=some (some o))
 |[],[],_,id=>⟨fun x h=>by simp [look] at h,fun x h=>by simp [look] at h⟩
 |(i,some o)::r,(i',some q)::ρ',h,id=>by
  simp only [gp] at h
  split at h
  ·rename_i o0 hq
   cases hb:Nat.beq i i' with
   |false=>simp only [hb,ar] at h;exact h.one.elim
   |true=>
    simp only [hb,ao] at h
    obtain rfl:=af hb
    obtain ⟨h1,h2⟩:=dw.app h
    obtain ⟨k1,k2⟩:=oe h2 (id:=id)
    simp only [dG]
    by_cases e:i=id
    ·simp only [e,ba]
     exact ⟨fun x hx=>by cases hx;exact ⟨o,rfl,.inl ⟨q,o0,rfl,hq,h1⟩⟩,fun x hx=>⟨o,rfl⟩⟩
    ·simp only [e,cE];exact ⟨k1,k2⟩
  ·exact h.one.elim
 |(i,some (.row n dp))::r,(i',none)::ρ',h,id=>by
  simp only [gp] at h
  cases hb:Nat.beq i i' with
  |false=>simp only [hb,ar] at h;exact h.one.elim
  |true=>
   simp only [hb,ao] at h
   obtain rfl:=af hb
   have hn:=h.hd
   subst hn
   obtain ⟨k1,k2⟩:=oe h.tl (id:=id)
   simp only [dG]
   by_cases e:i=id
   ·simp only [e,ba]
    exact ⟨fun x hx=>by cases hx;exact ⟨_,rfl,.inr ⟨by trivial,dp,rfl⟩⟩,fun x hx=>⟨_,rfl⟩⟩
   ·simp only [e,cE];exact ⟨k1,k2⟩
 |(i,some (.box cs))::r,(i',none)::ρ',h,id=>by simp only [gp] at h;exact h.one.elim
 |(i,some (.pR ..))::r,(i',none)::ρ',h,id=>by simp only [gp] at h;exact h.one.elim
 |(i,some (.map ..))::r,(i',none)::ρ',h,id=>by simp only [gp] at h;exact h.one.elim
 |(i,some (.np ..))::r,(i',none)::ρ',h,id=>by simp only [gp] at h;exact h.one.elim
 |(i,some .tok)::r,(i',none)::ρ',h,id=>by simp only [gp] at h;exact h.one.elim
 |(i,some (.jc ..))::r,(i',none)::ρ',h,id=>by simp only [gp] at h;exact h.one.elim
 |(i,some (.exact ..))::r,(i',none)::ρ',h,id=>by simp only [gp] at h;exact h.one.elim
 |(i,none)::r,(i',none)::ρ',h,id=>by simp only [gp] at h;exact h.one.elim
 |(i,none)::r,(i',some q)::ρ',h,id=>by simp only [gp] at h;exact h.one.elim
 |[],x::ρ',h,id=>by simp only [gp] at h;exact h.one.elim
 |(i,some (.row n dp))::r,[],h,id=>by simp only [gp] at h;exact h.one.elim
 |(i,some (.box cs))::r,[],h,id=>by simp only [gp] at h;exact h.one.elim
 |(i,some (.pR ..))::r,[],h,id=>by simp only [gp] at h;exact h.one.elim
 |(i,some (.map ..))::r,[],h,id=>by simp only [gp] at h;exact h.one.elim
 |(i,some (.np ..))::r,[],h,id=>by simp only [gp] at h;exact h.one.elim
 |(i,some .tok)::r,[],h,id=>by simp only [gp] at h;exact h.one.elim
 |(i,some (.jc ..))::r,[],h,id=>by simp only [gp] at h;exact h.one.elim
 |(i,some (.exact ..))::r,[],h,id=>by simp only [gp] at h;exact h.one.elim
 |(i,none)::r,[],h,id=>by simp only [gp] at h;exact h.one.elim
theorem yB {s n':Nat} {len pf:Nat->Nat->Nat} {eQ sd:Nat->Nat->Nat->DV}: ∀{l:List Nat},dw (Kv s n' len pf eQ sd l)-> ∀j,j∈l->(∀i,i<n'->len i j=pf i j)/\ ∀i q,i<n'->q<pf i j->dC (yy 2 (eQ i j q) (sd i j q))
 |[],_,j,hj=>by cases hj
 |x::r,h,j,hj=>by
  rcases aR.1 hj with rfl|hj
  ·exact ⟨h.hd,h.tl.hd⟩
  ·exact yB h.tl.tl j hj
theorem Hg (r:R base w0 S0 σ kn di a w) {l:Option Loc} {o0 o:fF} (h:dw (L8 ρ σ.obj o0 o)) (lU:iu w (dq w base S0 di) kn di l o0):iu w (dq w base S0 (ig ρ di)) (Ht ρ) (ig ρ di) l o:=by
 unfold L8 at h
 split at h
 ·obtain ⟨g,C,cv,T,hl,hh,hs,hr,ho⟩:=lU
  obtain ⟨e1,e2⟩:=gV h (fun h hv=>DW r 2 h hv) hs hr
  exact ⟨g,C,cv,T,hl,hh,e1,e2,ho⟩
 ·rename_i n dp n' eB
  have hn:=h.hd
  subst hn
  obtain ⟨k1,k2⟩:=jB h.tl
  rcases lU with ⟨hl,hn⟩|⟨g,C,cv,T,hl,hh,hs,hn,hr⟩
  ·exact .inl ⟨hl,hn⟩
  ·refine .inr ⟨g,C,cv,T,hl,hh,by rw [<-k1];exact hs,hn,fun i j f hi hf=> ?_⟩
   have hj:j<dp.length:=by rw [k1];exact (ai.1 hf).1
   have oQ:dp[j]? =some dp[j]:=ak hj
   obtain ⟨u,hu,ho,Kh⟩:=hr i j _ hi oQ
   rw [<-k1]
   exact ⟨u,hu,ho,jR (fG 2 (k2 j _ f oQ hf i hi) Kh)⟩
 ·rename_i n dp n' eB
  have hn:=h.hd
  subst hn
  obtain ⟨k1,k2⟩:=jB h.tl
  rcases lU with ⟨hl,hn⟩|⟨g,C,cv,T,hl,hh,hs,hn,hr⟩
  ·exact .inl ⟨hl,hn⟩
  ·refine .inr ⟨g,0,C,cv,T,.inr ⟨hl,rfl⟩,hh,by rw [<-k1,aE,hs];exact ae _,hn,fun i j f hi hf=> ?_⟩
   have hj:j<dp.length:=by rw [k1];exact (ai.1 hf).1
   have oQ:dp[j]? =some dp[j]:=ak hj
   obtain ⟨u,hu,ho,Kh⟩:=hr i j _ hi oQ
   rw [<-k1,aE]
   exact ⟨u,hu,ho,jR (fG 2 (k2 j _ f oQ hf i hi) Kh)⟩
 ·rename_i n dp n' eB
  have hn:=h.hd
  subst hn
  obtain ⟨k1,k2⟩:=jB h.tl
  rcases lU with ⟨hl,hn⟩|⟨g,o,C,cv,T,hl,hh,hs,hn,hr⟩
  ·exact .inl ⟨hl,hn⟩
  ·refine .inr ⟨g,o,C,cv,T,hl,hh,by rw [<-k1];exact hs,hn,fun i j f hi hf=> ?_⟩
   have hj:j<dp.length:=by rw [k1];exact (ai.1 hf).1
   have oQ:dp[j]? =some dp[j]:=ak hj
   obtain ⟨u,hu,ho,Kh⟩:=hr i j _ hi oQ
   rw [<-k1]
   exact ⟨u,hu,ho,jR (fG 2 (k2 j _ f oQ hf i hi) Kh)⟩
 ·rename_i ks has eQ _ nL Kr sd
  cases hq:mI ks nL with
  |false=>simp only [hq,ar] at h;exact h.one.elim
  |true=>
   simp only [hq,ao] at h
   obtain rfl:=iX hq
   have h1:=h.hd
   have h2:=h.tl.one
   obtain ⟨g,es,clock,hl,hh,hm,mh,_⟩:=lU
   refine ⟨g,es,clock,hl,hh,⟨fun e he=>let ⟨l,a,b⟩:=hm.hk e he;⟨l,a,by rw [<-h1];exact b⟩,fun l hl=>hm.hh l (by rw [h1];exact hl),hm.hd,hm.hs,fun e l he A9=> ?_⟩,mh,fun _ _ h=>by cases h⟩
   obtain ⟨l',a,b⟩:=hm.hk e he
   rw [A9] at a;cases a
   exact jR (fG 2 (h2 l (by rw [<-h1];exact b)).all (hm.h e l he A9))
 ·rename_i ks len eQ _ nL pf sd
  cases hq:mI ks nL with
  |false=>simp only [hq,ar] at h;exact h.one.elim
  |true=>
   simp only [hq,ao] at h
   obtain rfl:=iX hq
   have h1:=h.hd
   have h2:=h.tl.one
   obtain ⟨g,bs,es,clock,hl,hh,hG,rV,_⟩:=lU
   refine ⟨g,bs,es,clock,hl,hh,⟨hG.hk,hG.hd,fun l hl hn=>by rw [<-h1];exact hG.E0 l hl hn,fun e l he A9 hn=> ?_,hG.sep⟩,rV,fun _ _ h=>by cases h⟩
   rcases hG.Ju e l he A9 hn with ⟨e1,e2⟩|⟨g',C,cv,T,a1,a2,a3,a4,a5,a6⟩
   ·exact .inl ⟨e1,by rw [<-h1];exact e2⟩
   ·rw [h1] at a1 a5 a6
    exact .inr ⟨g',C,cv,T,a1,a2,a3,a4,a5,fun i hi=>let ⟨u,x1,x2,x3⟩:=a6 i hi;⟨u,x1,x2,jR (fG 2 (h2 l i hi).all x3)⟩⟩
 ·have e:=h.hd
  have e2:=h.tl.one
  subst e
  subst e2
  exact lU
 ·rename_i n s len eQ n' s' pf sd
  cases hb:Nat.beq s s' with
  |false=>simp only [hb,ar] at h;exact h.one.elim
  |true=>
   simp only [hb,ao] at h
   obtain rfl:=af hb
   have hn:n=n':=h.hd
   subst hn
   have hs:=yB h.tl
   obtain ⟨g,C,bs,cv,T,hl,hh,eW,NT,hG,rV⟩:=lU
   refine ⟨g,C,bs,cv,T,hl,hh,eW,NT,⟨fun i j hi hj _=> ?_,fun i j i' j' b m C m' C' a1 a2 a3 a4 _ _ a5=>hG.sep i j i' j' b m C m' C' a1 a2 a3 a4 (by simp) (by simp) a5⟩,rV⟩
   obtain ⟨q1,q2⟩:=hs j (bg.2 hj)
   obtain ⟨u,hu,hE⟩:=hG.Ju i j hi hj (by simp)
   refine ⟨u,hu,?_⟩
   rcases hE with ⟨h1,h2⟩|⟨b,Cb,wY,Tb,c1,c2,c3,c4,c5,c6⟩
   ·exact .inl ⟨h1,by rw [<-q1 i hi];exact h2⟩
   ·rw [q1 i hi] at c1 c5 c6
    exact .inr ⟨b,Cb,wY,Tb,c1,c2,c3,c4,c5,fun q hq=>let ⟨x,x1,x2,x3⟩:=c6 q hq;⟨x,x1,x2,jR (fG 2 (q2 i q hi hq).all x3)⟩⟩
 ·exact h.one.elim
theorem PL (hshp: ∀d v,(d,v)∈S0.sh->Rel (dq w base S0 (ig ρ di)) (Ht ρ) (ig ρ di) d v) (Mn:S0.wb≠none->σ'.rn=true) (h:dw (pL ρ σ σ')) (r:R base w0 S0 σ kn di a w):R base w0 S0 σ' (Ht ρ) (ig ρ di) a w/\ ∀i,Ht ρ i->i<σ'.nx:=by
 unfold pL at h
 cases hb:(Ap ρ&&(si σ'.nx ρ&&(Nat.beq σ.nt σ'.nt&&Nat.beq σ.lo σ'.lo))) with
 |false=>simp only [hb,ar] at h;exact h.one.elim
 |true=>
  simp only [hb,ao] at h
  simp only [an] at hb
  obtain ⟨pw,gJ,Jt,hb4⟩:=hb
  have UB:=af Jt
  have j5:=af hb4
  obtain ⟨h1,h2⟩:=dw.app h
  refine ⟨⟨r.below,r.xs,r.fv,r.qD,r.nM,Mn,fun B hB id g bs e=> ?_,fun d v h=>(aO.1 h).elim (fun h=>ee (jR (r.uk d v h))) (hshp d v),r.size.trans UB,fun t=> ?_,fun id o ho=> ?_,fun i i' l l' g e1 e2 g1 g2=> ?_,fun i l g e hg=> ?_,fun i l e=> ?_,fun t ht=>r.yr t (by rw [j5];exact ht)⟩,fun i ⟨x,hx⟩=>tC gJ hx⟩
  ·obtain ⟨b,_,hb⟩:=jU e (.inl rfl)
   exact r.lh B hB b g bs hb
  ·unfold St.get
   cases hl:look σ'.t t with
   |none=>exact .any _
   |some d=>exact DW r 2 (ye h1 hl) (r.tmps t)
  ·unfold St.obj at ho
   cases hl:look σ'.h id with
   |none=>simp [hl] at ho
   |some x=>
    simp only [hl] at ho
    subst ho
    obtain ⟨o',e,hx⟩:=(oe h2 (id:=id)).1 _ hl
    cases e
    rcases hx with ⟨q,o0,hq,fE,dr⟩|⟨hq,dp,rfl⟩
    ·refine ⟨⟨_,hq⟩,?_⟩
     have hblk:ig ρ di id=di q:=by unfold ig;rw [hq]
     rw [hblk]
     exact Hg r dr (r.eC _ _ fE).2
    ·refine ⟨⟨_,hq⟩,.inl ⟨?_,rfl⟩⟩
     unfold ig;rw [hq]
  ·obtain ⟨b,hb1',hb2'⟩:=jU e1 g1
   obtain ⟨b',hb1'',hb2''⟩:=jU e2 g2
   have:=r.inj _ _ _ _ _ hb2' hb2'' g1 g2
   subst this
   exact tK pw hb1' hb1''
  ·obtain ⟨b,_,hb⟩:=jU e hg
   exact r.ge _ _ _ hb hg
  ·have: ∃x,look ρ i=some x:=by
    unfold ig at e
    split at e
    ·rename_i b hb;exact ⟨_,hb⟩
    ·rename_i hb;exact ⟨_,hb⟩
    ·cases e
   obtain ⟨x,hx⟩:=this
   obtain ⟨o,ho⟩:=(oe h2 (id:=i)).2 x hx
   exact ⟨o,by unfold St.obj;rw [ho]⟩
theorem Eu (sY:S0.sh=[]) (Mn:S0.wb≠none->σ'.rn=true) (h:dw (pL ρ σ σ')) (r:R base w0 S0 σ kn di a w):R base w0 S0 σ' (Ht ρ) (ig ρ di) a w/\ ∀i,Ht ρ i->i<σ'.nx:=
 PL (fun d v h=>by rw [sY] at h;cases h) Mn h r
theorem weaken (sY:S0.sh=[]) (Mn:S0.wb≠none->σ'.rn=true) (h:dw (pL ρ σ σ')) (hf:Fits base w0 S0 σ a w):Fits base w0 S0 σ' a w:=
 let ⟨_,_,r,_⟩:=hf
 ⟨_,_,Eu sY Mn h r⟩
end
end Go.Abs
end
