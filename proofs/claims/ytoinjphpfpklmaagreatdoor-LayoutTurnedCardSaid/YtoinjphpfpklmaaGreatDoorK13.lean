/- Contracts and what they stand on. -/
import Derived.TacticsIn
import Derived.Test.YtoinjphpfpklmaaGreatDoorKm
import Derived.RangeFuncBox
import Derived.OwnWalkIn
import Derived.TacticsInMore
import Derived.LoopIn
set_option linter.unusedVariables false
set_option linter.unusedSimpArgs false
section
namespace Go.Abs
open Go Go.RowKit
def Bu (ops:List Oper):Bool:=(List.range ops.length).all fun j=>match ops[j]? with
 |some o=>o.after.toList.all fun e=> !Region.binds .any e||decide (e.on<j)
 |none=>true
def Ll (ops:List Oper) (m:Nat):Bool:=(List.range m).all fun i=>(List.range (m+1)).any fun j=>decide (i<j)&&match ops[j]? with
 |some o=>o.after.toList.any fun e=>Region.binds .any e&&decide (e.on=i)
 |none=>false
def BB (ops:List Oper) (m:Nat):Bool:=(List.range ops.length).all fun j=>decide (j<=m)||match ops[j]? with
 |some o=>o.after.toList.any fun e=>Region.binds .any e&&decide (e.on=j - 1)
 |none=>false
def AK (ops:List Oper) (m:Nat):Bool:=(ops.take m).all fun o=>o.guard.isNone
theorem nv {ops:Array Oper} (h:Bu ops.toList=true) {j:Nat} {o:Oper} (ho:ops[j]? =some o): ∀e∈o.after,Region.binds .any e=true->e.on<j:=by
 intro e he hb
 have hj:j<ops.toList.length:=by simpa using (aF.1 ho).1
 have h1:=b9.1 h j (bg.2 hj)
 have mJ:ops.toList[j]? =some o:=by simpa using ho
 simp only [mJ] at h1
 have h2:=b9.1 h1 e (by simpa using he)
 simpa [hb] using h2
theorem JM {ops:Array Oper} {m:Nat} (h:Ll ops.toList m=true) {i:Nat} (hi:i<m): ∃j o e,i<j/\j<=m/\ops[j]? =some o/\e∈o.after/\Region.binds .any e=true/\e.on=i:=by
 have h1:=b9.1 h i (bg.2 hi)
 obtain ⟨j,hj,h2⟩:=List.any_eq_true.1 h1
 rw [an,ah] at h2
 obtain ⟨h3,h4⟩:=h2
 cases ho:ops.toList[j]? with
 |none=>simp [ho] at h4
 |some o=>
  simp only [ho] at h4
  obtain ⟨e,he,h5⟩:=List.any_eq_true.1 h4
  rw [an,ah] at h5
  exact ⟨j,o,e,h3,by have:=bg.1 hj;omega,by simpa using ho,by simpa using he,h5.1,h5.2⟩
theorem yH {ops:Array Oper} {m:Nat} (h:BB ops.toList m=true) {j:Nat} {o:Oper} (ho:ops[j]? =some o) (hj:m<j): ∃e∈o.after,Region.binds .any e=true/\e.on=j - 1:=by
 have hjs:j<ops.toList.length:=by simpa using (aF.1 ho).1
 have h1:=b9.1 h j (bg.2 hjs)
 have mJ:ops.toList[j]? =some o:=by simpa using ho
 rw [bA,ah] at h1
 rcases h1 with h1|h1
 ·omega
 ·simp only [mJ] at h1
  obtain ⟨e,he,h5⟩:=List.any_eq_true.1 h1
  rw [an,ah] at h5
  exact ⟨e,by simpa using he,h5.1,h5.2⟩
theorem mem_ready {ops:Array Oper} {L:Array Bool} {i:Nat}:i∈Region.ready .any ops L↔ ∃o,ops[i]? =some o/\L.getD i true=false/\ ∀e∈o.after,Region.binds .any e=true->L.getD e.on false=true:=by
 unfold Region.ready
 rw [bH,bg]
 constructor
 ·rintro ⟨hi,h⟩
  have ho:ops[i]? =some ops[i]:=az hi
  simp only [ho,aA,cD,an,aM] at h
  refine ⟨_,ho,h.1,fun e he hb=> ?_⟩
  have:=(b6.1 h.2) e he
  simpa [hb] using this
 ·rintro ⟨o,ho,h1,h2⟩
  refine ⟨(aF.1 ho).1,?_⟩
  simp only [ho,aA,cD,an,aM]
  refine ⟨h1,b6.2 fun e he=> ?_⟩
  cases hb:Region.binds .any e with
  |false=>rfl
  |true=>simpa using h2 e he hb
theorem jD {L:Array Bool} {i:Nat} (h:i<L.size):L.getD i true=L.getD i false:=by
 simp [av,h]
theorem BJ {ops:Array Oper} {L:Array Bool} (hd:Bu ops.toList=true) (hs:L.size=ops.size) (hr:Region.ready .any ops L=[]): ∀i,i<ops.size->L.getD i false=true:=by
 intro i
 induction i using Nat.strongRecOn with
 |_ i ih=>
  intro hi
  cases hl:L.getD i true with
  |true=>rw [<-jD (by omega)];exact hl
  |false=>
   exfalso
   have ho:ops[i]? =some ops[i]:=az hi
   have:i∈Region.ready .any ops L:=mem_ready.2 ⟨_,ho,hl,fun e he hb=>ih e.on (nv hd ho e he hb) (by have:=nv hd ho e he hb;omega)⟩
   rw [hr] at this
   cases this
section
variable {F:Fence} {n:Nat} {P:Program} {ops pre:Array Oper} {Q:Exit->Act->World->Prop}
theorem Sv {m:Nat} (hd:Bu ops.toList=true) (hc:BB ops.toList m=true): ∀(r p fuel:Nat) (L:Array Bool) (a:Act) (w:World),m<=p->p+r=ops.size->r<=fuel->L.size=ops.size->
 (∀i,i<ops.size->L.getD i false=decide (i<p))->wpOpsIn F n P ops Q (List.range' p r) a w->wpAnyIn F n P .any ops Q fuel L a w:=by
 intro r
 induction r with
 |zero=>
  intro p fuel L a w hp hs hf eW hL h
  have yW:Region.ready .any ops L=[]:=by
   apply List.eq_nil_iff_forall_not_mem.2
   intro i hi
   obtain ⟨o,ho,h1,_⟩:=mem_ready.1 hi
   have lV:=(aF.1 ho).1
   rw [jD (by omega),hL i lV,aj] at h1
   omega
  have hQ:Q .normal a w:=by simpa [wpOpsIn] using h
  cases fuel with
  |zero=>exact ⟨yW,hQ⟩
  |succ f=>exact ⟨fun _=>hQ,fun i hi=>by rw [yW] at hi;cases hi⟩
 |succ r ih=>
  intro p fuel L a w hp hs hf eW hL h
  cases fuel with
  |zero=>omega
  |succ f=>
   have D2:p<ops.size:=by omega
   have ho:ops[p]? =some ops[p]:=az D2
   have qt:p∈Region.ready .any ops L:=mem_ready.2 ⟨_,ho,by rw [jD (by omega),hL p D2];simp,fun e he hb=>by
    have:=nv hd ho e he hb
    rw [hL _ (by omega),ah];exact this⟩
   refine ⟨fun hn=>(by rw [hn] at qt;cases qt),fun i hi=> ?_⟩
   obtain ⟨o,hoi,h1,h2⟩:=mem_ready.1 hi
   have his:=(aF.1 hoi).1
   rw [jD (by omega),hL i his,aj] at h1
   have hip:i=p:=by
    rcases a8 p i with dR|iG
    ·exfalso
     obtain ⟨e,he,hb,heq⟩:=yH hc hoi (by omega)
     have:=h2 e he hb
     rw [hL _ (by omega),ah] at this
     omega
    ·omega
   subst hip
   rw [List.range'_succ,wpOpsIn_cons] at h
   refine wpOpIn_mono (fun a' w' h'=>ih (i+1) f _ a' w' (by omega) (by omega) (by omega) (by simpa using eW) (fun k hk=> ?_) h') h
   rw [av,bp]
   by_cases e:i=k
   ·subst e
    rw [ag rfl,ag (by omega),bz (by omega)];rfl
   ·have:=hL k hk
    rw [av] at this
    rw [ab e,this,bu]
    omega
def Lr (F:Fence) (n:Nat) (P:Program) (ops:Array Oper) (Q:Exit->Act->World->Prop) (m r:Nat):Exit->Act->World->Prop
 |.normal,a,w=>wpOpsIn F n P ops Q (List.range' m r) a w
 |e,a,w=>Q e a w
theorem JJ {m r:Nat} {o:Oper} {a:Act} {w:World} {K:Act->World->Prop} (h:o.wpIn F n P a w K (Lr F n P ops Q m r)):o.wpIn F n P a w K Q:=by
 unfold Oper.wpIn at*
 refine ⟨h.1,?_⟩
 have hh:=h.2
 generalize (o.semAt F.round a.eval).run P w=res at*
 have lo:LetsOut (Lr F n P ops Q m r)->LetsOut Q:=fun ⟨a,w,q⟩=>⟨a,w,q⟩
 cases res with
 |ok x w'=>
  cases x<;>simp only [Oper.uponIn] at hh ⊢<;>
   first
    |exact hh
    |exact ⟨hh.1,CallsIn.mono hh.2 (fun e w'' he=>by cases e<;>first|exact he|exact lo he)⟩
    |exact ⟨hh.1,RoundIn.mono hh.2 (fun e w'' he=>by cases e<;>first|exact he|exact lo he)⟩
 |halt x w'=>cases x<;>simp only [Oper.uponIn] at hh ⊢<;>exact hh
theorem OA {tl:List Oper} (NQ:ops.toList=pre.toList++tl) (hd:Bu ops.toList=true) (hu:Ll ops.toList pre.size=true) (hc:BB ops.toList pre.size=true) (hg:AK ops.toList pre.size=true) (htl:tl≠[]):
 ∀(f:Nat) (L L':Array Bool) (a:Act) (w:World),L.size=pre.size->L'.size=ops.size->(∀i,i<pre.size->L'.getD i false=L.getD i false)->(∀i,pre.size<=i->i<ops.size->L'.getD i false=false)->
  (∀j o,pre[j]? =some o->L.getD j false=true-> ∀e∈o.after,Region.binds .any e=true->L.getD e.on false=true)->
  wpAnyIn F n P .any pre (Lr F n P ops Q pre.size tl.length) f L a w->wpAnyIn F n P .any ops Q (f+tl.length) L' a w:=by
 have eW:ops.size=pre.size+tl.length:=by
  have:=de List.length NQ
  simpa using this
 have jq: ∀i,i<pre.size->ops[i]? =pre[i]? :=fun i hi=>by
  have:=de (fun l:List Oper=>l[i]?) NQ
  simp only [bo] at this
  rw [this,aW (by simpa using hi),bo]
 have hdp:Bu pre.toList=true:=by
  refine b9.2 fun j hj=> ?_
  have oJ:j<pre.size:=by simpa using hj
  have h1:=b9.1 hd j (bg.2 (by simp;omega))
  rw [bo] at h1 ⊢
  rw [jq j oJ] at h1
  exact h1
 have hgn: ∀i o,i<pre.size->ops[i]? =some o->o.guard=none:=fun i o hi ho=>by
  have hm:o∈ops.toList.take pre.size:=by
   refine aD (i:=i) ?_
   rw [bS,ag hi];simpa using ho
  have:=b9.1 hg o hm
  simpa using this
 -- the ones of the tail wait for all others
 have wait: ∀(L L':Array Bool),L.size=pre.size->L'.size=ops.size->(∀i,i<pre.size->L'.getD i false=L.getD i false)->(∀i,pre.size<=i->i<ops.size->L'.getD i false=false)->
  (∀j o,pre[j]? =some o->L.getD j false=true-> ∀e∈o.after,Region.binds .any e=true->L.getD e.on false=true)->
  ∀i,i∈Region.ready .any ops L'->pre.size<=i-> ∀k,k<pre.size->L.getD k false=true:=by
  intro L L' hL Wu pn vJ iH i hi iG
  obtain ⟨o,ho,_,h2⟩:=mem_ready.1 hi
  have his:=(aF.1 ho).1
  have Zv:i=pre.size:=by
   rcases a8 pre.size i with dR|hge'
   ·exfalso
    obtain ⟨e,he,hb,heq⟩:=yH hc ho dR
    have:=h2 e he hb
    rw [vJ _ (by omega) (by omega)] at this
    cases this
   ·omega
  subst Zv
  intro k hk
  generalize hq:pre.size - k=q
  induction q using Nat.strongRecOn generalizing k with
  |_ q ih=>
   obtain ⟨j,oj,e,h3,h4,h5,h6,h7,h8⟩:=JM hu hk
   rcases a8 j pre.size with hj|hj
   ·have:=iH j oj (by rw [<-jq j hj];exact h5) (ih (pre.size - j) (by omega) j hj rfl) e h6 h7
    rw [h8] at this;exact this
   ·have hje:j=pre.size:=by omega
    rw [hje,ho] at h5
    cases h5
    have:=h2 e h6 h7
    rw [h8,pn k hk] at this
    exact this
 -- all of the others are listed
 have done: ∀(f:Nat) (L L':Array Bool) (a:Act) (w:World),L.size=pre.size->L'.size=ops.size->(∀i,i<pre.size->L'.getD i false=L.getD i false)->(∀i,pre.size<=i->i<ops.size->L'.getD i false=false)->
  (∀k,k<pre.size->L.getD k false=true)->Lr F n P ops Q pre.size tl.length .normal a w->wpAnyIn F n P .any ops Q (f+tl.length) L' a w:=by
  intro f L L' a w hL Wu pn vJ fp hT
  refine Sv hd hc tl.length pre.size _ L' a w (ae _) (by omega) (by omega) Wu (fun i hi=> ?_) hT
  rcases a8 i pre.size with h|h
  ·rw [pn i h,fp i h,bz h]
  ·rw [vJ i h hi,bI (by omega)]
 intro f
 induction f with
 |zero=>
  intro L L' a w hL Wu pn vJ iH h
  exact done 0 L L' a w hL Wu pn vJ (BJ hdp hL h.1) h.2
 |succ f ih=>
  intro L L' a w hL Wu pn vJ iH h
  obtain ⟨h0,h1⟩:=h
  by_cases hr:Region.ready .any pre L=[]
  ·exact done (f+1) L L' a w hL Wu pn vJ (BJ hdp hL hr) (h0 hr)
  ·have YS: ¬ ∀k,k<pre.size->L.getD k false=true:=fun fp=>by
    obtain ⟨k,hk⟩:=List.exists_mem_of_ne_nil _ hr
    obtain ⟨o,ho,h3,_⟩:=mem_ready.1 hk
    have SS:=(aF.1 ho).1
    rw [jD (by omega),fp k SS] at h3
    cases h3
   have hlen:0<tl.length:=List.length_pos_iff.2 htl
   rw [show f+1+tl.length=(f+tl.length)+1 by omega]
   have Zh: ∀i,i∈Region.ready .any ops L'->i<pre.size/\i∈Region.ready .any pre L:=fun i hi=>by
    rcases a8 i pre.size with dR|iG
    ·refine ⟨dR,?_⟩
     obtain ⟨o,ho,h3,h4⟩:=mem_ready.1 hi
     rw [jD (by omega),pn i dR,<-jD (by omega)] at h3
     refine mem_ready.2 ⟨o,by rw [<-jq i dR];exact ho,h3,fun e he hb=> ?_⟩
     have:=h4 e he hb
     rw [pn _ (by have:=nv hd ho e he hb;omega)] at this
     exact this
    ·exact absurd (wait L L' hL Wu pn vJ iH i hi iG) YS
   refine ⟨fun hn=> ?_,fun i hi=> ?_⟩
   ·exfalso
    obtain ⟨k,hk⟩:=List.exists_mem_of_ne_nil _ hr
    obtain ⟨o,ho,h3,h4⟩:=mem_ready.1 hk
    have SS:=(aF.1 ho).1
    have:k∈Region.ready .any ops L':=mem_ready.2 ⟨o,by rw [jq k SS];exact ho,by rw [jD (by omega),pn k SS,<-jD (by omega)];exact h3,fun e he hb=>by
     rw [pn _ (by have:=nv hdp ho e he hb;omega)];exact h4 e he hb⟩
    rw [hn] at this
    cases this
   ·obtain ⟨dR,hip⟩:=Zh i hi
    have h5:=h1 i hip
    obtain ⟨o,ho,_,h4⟩:=mem_ready.1 hip
    have mJ:ops[i]? =some o:=by rw [jq i dR];exact ho
    have hgo:=hgn i o dR mJ
    unfold wpOpIn at h5 ⊢
    simp only [ho,mJ,Region.wanted,hgo,ba] at h5 ⊢
    refine Oper.wpIn_mono (fun a' w' h'=>ih (L.setIfInBounds i true) (L'.setIfInBounds i true) a' w' (by simpa using hL) (by simpa using Wu) (fun k hk=> ?_) (fun k uf oo=> ?_) (fun j oj Uz hj e he hb=> ?_) h') (JJ h5)
    ·have:=pn k hk
     simp only [av,bp] at this ⊢
     by_cases e:i=k
     ·subst e
      rw [ag rfl,ag rfl,ag (by omega),ag (by omega)]
     ·rw [ab e,ab e];exact this
    ·have:=vJ k uf oo
     simp only [av,bp] at this ⊢
     rw [ab (by omega)];exact this
    ·have mono: ∀k,L.getD k false=true->(L.setIfInBounds i true).getD k false=true:=fun k hk=>by
      simp only [av,bp] at hk ⊢
      by_cases e:i=k
      ·subst e;rw [ag rfl,ag (by omega)];rfl
      ·rw [ab e];exact hk
     by_cases e':j=i
     ·subst e'
      rw [ho] at Uz
      cases Uz
      exact mono _ (h4 e he hb)
     ·refine mono _ (iH j oj Uz ?_ e he hb)
      simp only [av,bp] at hj ⊢
      rw [ab (fun h=>e' h.symm)] at hj
      exact hj
end
def isV:Op->Bool
 |.move _| .load _ _| .binOp .. | .unOp .. | .indexAddr .. | .fieldAddr .. | .index .. | .field .. | .extract .. =>true
 |_=>false
theorem vRun {P:Program} {s:Sem Value} {w w':World} {x:Next} (h:(do pure (Next.value (<-s)):Sem Next).run P w= .ok x w'): ∃v,x= .value v:=by
 rw [Sem.run_bind] at h
 cases hs:s.run P w with
 |ok v w1=>
  rw [hs] at h
  cases h;exact ⟨_,rfl⟩
 |halt y w1=>rw [hs] at h;cases h
theorem put_defers (a:Act) (d:Option Tmp) (v:Value):(a.put d v).defers=a.defers:=by cases d<;>rfl
theorem NL {P:Program} {ro:Option Nat} {ρ:Operand->Value} {o:Oper} {w w':World} {x:Next} (hv:isV o.op=true) (h:(o.semAt ro ρ).run P w= .ok x w'): ∃v,x= .value v:=by
 rw [Oper.semAt_eq ro ρ o (fun c e=>by rw [e] at hv;cases hv)] at h
 unfold execOp at h
 cases ho:o.op<;>simp only [ho,isV,bT] at hv h<;>first|exact vRun h|skip
 exact ⟨_,by cases h;rfl⟩
theorem KV {F:Fence} {n:Nat} {P:Program} {md:Region.Mode} {pre:Array Oper} {Q:Exit->Act->World->Prop} {I:Act->Prop} (hv: ∀o∈pre.toList,isV o.op=true) (hI: ∀a o v,o∈pre.toList->I a->I (a.put o.dst v)):
 ∀(f:Nat) (L:Array Bool) (a:Act) (w:World),I a->wpAnyIn F n P md pre Q f L a w->wpAnyIn F n P md pre (fun e a' w'=>(e= .normal->I a')/\Q e a' w') f L a w:=by
 intro f
 induction f with
 |zero=>exact fun L a w hd h=>⟨h.1,fun _=>hd,h.2⟩
 |succ f ih=>
  intro L a w hd h
  refine ⟨fun hr=>⟨fun _=>hd,h.1 hr⟩,fun i hi=> ?_⟩
  have h1:=h.2 i hi
  unfold wpOpIn at h1 ⊢
  split
  ·rename_i ho
   simp only [ho] at h1
   exact ih _ _ _ hd h1
  ·rename_i o ho
   simp only [ho] at h1
   have UE:o∈pre.toList:=by rw [bw];exact cz ho
   have hov:=hv o UE
   split
   ·rename_i hw
    rw [ag hw] at h1
    unfold Oper.wpIn at h1 ⊢
    refine ⟨h1.1,?_⟩
    have h2:=h1.2
    generalize jb:(o.semAt F.round a.eval).run P w=res at h2
    cases res with
    |ok x w'=>
     obtain ⟨v,rfl⟩:=NL hov jb
     simp only [Oper.uponIn] at h2 ⊢
     exact ih _ _ _ (hI _ _ _ UE hd) h2
    |halt x w'=>
     cases x<;>simp only [Oper.uponIn] at h2 ⊢
     exact ⟨fun h=>(by cases h),h2⟩
   ·rename_i hw
    rw [ab hw] at h1
    exact ⟨h1.1,ih _ _ _ (hI _ _ _ UE hd) h1.2⟩
theorem JK {F:Fence} {n:Nat} {P:Program} {o:Oper} {a:Act} {w:World} {K:Act->World->Prop} {Q Q':Exit->Act->World->Prop} (hq: ∀e a w,Q e a w->Q' e a w) (h:o.wpIn F n P a w K Q):o.wpIn F n P a w K Q':=by
 unfold Oper.wpIn at*
 refine ⟨h.1,?_⟩
 have hh:=h.2
 generalize (o.semAt F.round a.eval).run P w=res at*
 have lo:LetsOut Q->LetsOut Q':=fun ⟨a,w,q⟩=>⟨a,w,hq _ _ _ q⟩
 cases res with
 |ok x w'=>
  cases x<;>simp only [Oper.uponIn] at hh ⊢<;>
   first
    |exact hh
    |exact ⟨hh.1,CallsIn.mono hh.2 (fun e w'' he=>by cases e<;>first|exact he|exact lo he|exact hq _ _ _ he)⟩
    |exact ⟨hh.1,RoundIn.mono hh.2 (fun e w'' he=>by cases e<;>first|exact he|exact lo he|exact hq _ _ _ he)⟩
 |halt x w'=>cases x<;>simp only [Oper.uponIn] at hh ⊢<;>first|exact hh|exact hq _ _ _ hh
theorem Sw {F:Fence} {n:Nat} {P:Program} {md:Region.Mode} {ops:Array Oper} {Q Q':Exit->Act->World->Prop} (hq: ∀e a w,Q e a w->Q' e a w):
 ∀(f:Nat) (L:Array Bool) (a:Act) (w:World),wpAnyIn F n P md ops Q f L a w->wpAnyIn F n P md ops Q' f L a w:=by
 intro f
 induction f with
 |zero=>exact fun L a w h=>⟨h.1,hq _ _ _ h.2⟩
 |succ f ih=>
  intro L a w h
  refine ⟨fun hr=>hq _ _ _ (h.1 hr),fun i hi=> ?_⟩
  have h1:=h.2 i hi
  unfold wpOpIn at h1 ⊢
  split
  ·rename_i ho
   simp only [ho] at h1
   exact ih _ _ _ h1
  ·rename_i o ho
   simp only [ho] at h1
   split
   ·rename_i hw
    rw [ag hw] at h1
    exact JK hq (Oper.wpIn_mono (fun a' w'=>ih _ a' w') h1)
   ·rename_i hw
    rw [ab hw] at h1
    exact ⟨h1.1,ih _ _ _ h1.2⟩
section
variable {P:Program} {ro:Option Nat} {m:Nat} {ops pre:Array Oper} {dz:List (Nat×fx)} {base:Nat} {w0:World} {S0:Env} {Q:Exit->Act->World->Prop}
theorem tM {tl:List Oper} {σ:St} {a:Act} {w:World} {id:Nat} (hm:P.follows .mixedOrders=true) (NQ:ops.toList=pre.toList++tl) (hb:(Bu ops.toList&&(Ll ops.toList pre.size&&(BB ops.toList pre.size&&AK ops.toList pre.size)))=true) (htl:tl≠[])
 (h:Fits base w0 S0 σ a w) (dr:dw (fq P pre dz σ).2) (nj:xP P pre dz σ=true)
 (zz:(pre.toList.all fun o=>isV o.op)=true)
 (hQ: ∀a' w',a'.defers=a.defers->(∀t,(pre.toList.all fun o=>o.dst !=some t)=true->a'.tmps.getD t undef=a.tmps.getD t undef)->Fits base w0 S0 (fq P pre dz σ).1 a' w'->wpListIn (FW ro) m P ops Q tl a' w'):(Code.region id ops true).wpIn (FW ro) m P Q a w:=by
 simp only [an] at hb
 obtain ⟨h1,h2,h3,h4⟩:=hb
 refine wpIn_region_any hm ?_
 have eW:ops.size=pre.size+tl.length:=by
  have:=de List.length NQ
  simpa using this
 have rep: ∀(k i:Nat),(Array.replicate k false).getD i false=false:=fun k i=>by
  simp only [av,Array.getElem?_replicate]
  split<;>rfl
 rw [show wpAnyIn (FW ro) m P .any ops Q ops.size=wpAnyIn (FW ro) m P .any ops Q (pre.size+tl.length) by rw [eW]]
 refine OA NQ h1 h2 h3 h4 htl pre.size (Array.replicate pre.size false) (Array.replicate ops.size false) a _ (by simp) (by simp) (fun i _=>by rw [rep,rep]) (fun i _ _=>rep _ _) (fun j o _ hj=>by rw [rep] at hj;cases hj) ?_
 have h5:=qK (ro:=ro) (m:=m) (Q:=fun e a' w'=>match e with| .normal=>Fits base w0 S0 (fq P pre dz σ).1 a' w'|_=>False) h dr nj fun _ _ h=>h
 have h6:=KV (I:=fun a'=>a'.defers=a.defers/\ ∀t,(pre.toList.all fun o=>o.dst !=some t)=true->a'.tmps.getD t undef=a.tmps.getD t undef) (fun o ho=>b9.1 zz o ho)
  (fun a1 o v ho ⟨i1,i2⟩=>⟨by rw [put_defers];exact i1,fun t ht=>(by
    rw [<-i2 t ht]
    have:=b9.1 ht o ho
    have ji:o.dst≠some t:=by simpa using this
    cases hd:o.dst with
    |none=>rfl
    |some d=>
     have hdt:d≠t:=fun e=>ji (by rw [hd,e])
     simp only [Act.put,av,bp,ab hdt])⟩) _ _ a _ ⟨rfl,fun _ _=>rfl⟩ h5
 exact Sw (fun e a' w' ⟨x,y⟩=>by
  cases e<;>simp only at y
  have h7:=hQ a' w' (x rfl).1 (x rfl).2 y
  rw [<-wpOpsIn_eq_wpListIn tl pre.size (fun j=>by
   have:=de (fun l:List Oper=>l[pre.size+j]?) NQ
   simp only [bo] at this
   rw [this,bk (by simp)]
   simp)] at h7
  exact h7) _ _ _ _ h6
theorem xj (k:Nat) {σ:St} {a:Act} {w:World} {id:Nat} (hm:P.follows .mixedOrders=true)
 (hb:(Bu ops.toList&&(Ll ops.toList (List.take k ops.toList).toArray.size&&(BB ops.toList (List.take k ops.toList).toArray.size&&AK ops.toList (List.take k ops.toList).toArray.size)))=true) (htl:(List.drop k ops.toList).isEmpty=false)
 (nj:xP P (List.take k ops.toList).toArray dz σ=true) (zz:((List.take k ops.toList).all fun o=>isV o.op)=true)
 (h:Fits base w0 S0 σ a w) (dr:dw (fq P (List.take k ops.toList).toArray dz σ).2)
 (hQ: ∀a' w',a'.defers=a.defers->(∀t,((List.take k ops.toList).all fun o=>o.dst !=some t)=true->a'.tmps.getD t undef=a.tmps.getD t undef)->Fits base w0 S0 (fq P (List.take k ops.toList).toArray dz σ).1 a' w'->wpListIn (FW ro) m P ops Q (List.drop k ops.toList) a' w'):(Code.region id ops true).wpIn (FW ro) m P Q a w:=
 tM hm (by simp) hb (fun e=>by rw [e] at htl;cases htl) h dr nj (by simpa using zz) (fun a' w' h1 h2 h3=>hQ a' w' h1 (fun t ht=>h2 t (by simpa using ht)) h3)
theorem KZ {l l':List Prop} (h:l=l') (hp:dw l'):dw l:=h▸hp
theorem R.Ey {σ:St} {kn:Nat->Prop} {di:Nat->Option Loc} {a:Act} {w:World} {t:Nat} {v:Value} (r:R base w0 S0 σ kn di a w) (h:σ.get t= .val v):a.tmps.getD t undef=v:=by
 have:=r.tmps t
 rw [h] at this
 exact this.k5
theorem Kx {σ:St} {a:Act} {w:World} (hd:a.defers=[]) (hs:a.tmps.size=σ.nt) (hh:σ.h=[]) (j5:σ.lo=0) (ht: ∀t,dA (iN w w.heap.size) (σ.get t) (a.tmps.getD t undef)) (Wn:jv (iN w w.heap.size)):
 Fits w.heap.size w ⟨fun _=>True,[],w,none,fun _=>False,fun _=>undef⟩ σ a w:=by
 have ho: ∀id,σ.obj id=none:=fun id=>by unfold St.obj;rw [hh];rfl
 refine ⟨fun _=>False,fun _=>none,⟨gM.refl _ _ _,(fun _ h=>h.elim),ae _,⟨(by rw [hd];exact ⟨List.nodup_nil,fun _=>rfl⟩),fun d h=>(by rw [hd] at h;cases h)⟩,⟨ae _,(fun B h=>by cases h),fun _ _ h _ _=>h⟩,(fun h=>absurd rfl h),(fun B h=>by cases h),fun d v h=>((Wn d v (by simpa using h)).mono (fun a u h=>⟨h.1,(fun _ _ e=>by cases e),.inl trivial,fun B h=>by cases h⟩) (fun _ h=>h) fun _ _ h=>h.elim),hs,fun t=> ?_,(fun id o h=>by rw [ho] at h;cases h),(fun _ _ _ _ _ h=>by cases h),(fun _ _ _ h=>by cases h),(fun _ _ h=>by cases h),fun t ht=>by rw [j5] at ht;exact absurd ht (aG t)⟩,fun _ h=>h.elim⟩
 exact (ht t).mono (fun a u h=>⟨h.1,(fun _ _ e=>by cases e),.inl trivial,fun B h=>by cases h⟩) (fun _ h=>h) fun _ _ h=>h.elim
end
end Go.Abs
end
section
set_option maxRecDepth 100000
namespace Go.Abs
open Go Go.RowKit
attribute [local go_sem] Oper.semAt_some
theorem lZ {w:World} {N0 n:Nat} {A:Nat->Int} {v:Value} (h:dA (iN w N0) (.dV [nums n A]) v):
 ∃a s c,v= .pointer (some a)/\w.cell? a=some (.slice s n c)/\n<=c/\ ∀k,k<n-> ∃b,s=some b/\w.cell? (b.add k)=some (.int .i64 (A k)):=by
 cases h with
 |dV U ha jh h=>
  rename_i a
  have h0:=h 0 _ rfl
  have a0:=o6 (ha 0 _ rfl).1 (jh 0 _ rfl)
  rw [Addr.add,ag rfl] at a0
  generalize e:U 0=u at h0 a0
  cases h0 with
  |dt V hc hb hn ho hr=>
   rename_i s c
   refine ⟨a,s,c,rfl,a0,hc,fun k hk=> ?_⟩
   obtain ⟨b,pw,gJ⟩:=hb k 0 _ hk rfl
   have gJ:=o6 gJ.1 (ho k 0 _ hk rfl)
   refine ⟨b,pw,?_⟩
   have hv:=hr k 0 _ hk rfl
   generalize e2:V k 0=x at gJ hv
   cases hv
   simpa using gJ
def J8 (M:Nat) (A B:Nat->Int) (k:Nat):Int×Int:=(A (k/M)+A (k/M+1),B (k%M)+B (k%M+1))
theorem Qx {M:Nat} (A B:Nat->Int) {a b:Nat} (hb:b<M):J8 M A B (M*a+b)=(A a+A (a+1),B b+B (b+1)):=by
 have h1:(M*a+b)/M=a:=by rw [Nat.mul_add_div (by omega),Nat.div_eq_of_lt hb,bV]
 have h2:(M*a+b)%M=b:=by rw [Nat.mul_add_mod,Nat.mod_eq_of_lt hb]
 simp only [J8,h1,h2]
theorem wB {a b P M:Nat} (ha:a<P) (hb:b<M):M*a+b<M*P:=by
 have:M*(a+1)<=M*P:=Nat.mul_le_mul_left _ ha
 rw [Nat.mul_add,Nat.mul_one] at this
 omega
theorem Y1 (l:List Value) (h:l.length=41): ∃u0 u1 u2 u3 u4 u5 u6 u7 u8 u9 u10 u11 u12 u13 u14 u15 u16 u17 u18 u19 u20 u21 u22 u23 u24 u25 u26 u27 u28 u29 u30 u31 u32 u33 u34 u35 u36 u37 u38 u39 u40,l=[u0,u1,u2,u3,u4,u5,u6,u7,u8,u9,u10,u11,u12,u13,u14,u15,u16,u17,u18,u19,u20,u21,u22,u23,u24,u25,u26,u27,u28,u29,u30,u31,u32,u33,u34,u35,u36,u37,u38,u39,u40]:=by
 have ex: ∀(n:Nat) (l:List Value),l.length=n+1-> ∃u r,l=u::r/\r.length=n:=fun n l h=>by
  cases l with
  |nil=>cases h
  |cons u r=>exact ⟨u,r,rfl,by simpa using h⟩
 obtain ⟨u0,l0,e0,h0⟩:=ex 40 l h
 obtain ⟨u1,l1,e1,h1⟩:=ex 39 l0 h0
 obtain ⟨u2,l2,e2,h2⟩:=ex 38 l1 h1
 obtain ⟨u3,l3,e3,h3⟩:=ex 37 l2 h2
 obtain ⟨u4,l4,e4,h4⟩:=ex 36 l3 h3
 obtain ⟨u5,l5,e5,h5⟩:=ex 35 l4 h4
 obtain ⟨u6,l6,e6,h6⟩:=ex 34 l5 h5
 obtain ⟨u7,l7,e7,h7⟩:=ex 33 l6 h6
 obtain ⟨u8,l8,e8,h8⟩:=ex 32 l7 h7
 obtain ⟨u9,l9,e9,h9⟩:=ex 31 l8 h8
 obtain ⟨u10,l10,Z3,h10⟩:=ex 30 l9 h9
 obtain ⟨u11,l11,Z2,h11⟩:=ex 29 l10 h10
 obtain ⟨u12,l12,Z1,h12⟩:=ex 28 l11 h11
 obtain ⟨u13,l13,Z0,h13⟩:=ex 27 l12 h12
 obtain ⟨u14,l14,ZZ,h14⟩:=ex 26 l13 h13
 obtain ⟨u15,l15,ZY,h15⟩:=ex 25 l14 h14
 obtain ⟨u16,l16,ZW,h16⟩:=ex 24 l15 h15
 obtain ⟨u17,l17,ZV,h17⟩:=ex 23 l16 h16
 obtain ⟨u18,l18,e18,h18⟩:=ex 22 l17 h17
 obtain ⟨u19,l19,e19,h19⟩:=ex 21 l18 h18
 obtain ⟨u20,l20,e20,h20⟩:=ex 20 l19 h19
 obtain ⟨u21,l21,e21,h21⟩:=ex 19 l20 h20
 obtain ⟨u22,l22,e22,h22⟩:=ex 18 l21 h21
 obtain ⟨u23,l23,e23,h23⟩:=ex 17 l22 h22
 obtain ⟨u24,l24,e24,h24⟩:=ex 16 l23 h23
 obtain ⟨u25,l25,e25,h25⟩:=ex 15 l24 h24
 obtain ⟨u26,l26,e26,h26⟩:=ex 14 l25 h25
 obtain ⟨u27,l27,e27,h27⟩:=ex 13 l26 h26
 obtain ⟨u28,l28,e28,h28⟩:=ex 12 l27 h27
 obtain ⟨u29,l29,e29,h29⟩:=ex 11 l28 h28
 obtain ⟨u30,l30,e30,h30⟩:=ex 10 l29 h29
 obtain ⟨u31,l31,e31,h31⟩:=ex 9 l30 h30
 obtain ⟨u32,l32,e32,h32⟩:=ex 8 l31 h31
 obtain ⟨u33,l33,e33,h33⟩:=ex 7 l32 h32
 obtain ⟨u34,l34,e34,h34⟩:=ex 6 l33 h33
 obtain ⟨u35,l35,e35,h35⟩:=ex 5 l34 h34
 obtain ⟨u36,l36,e36,h36⟩:=ex 4 l35 h35
 obtain ⟨u37,l37,e37,h37⟩:=ex 3 l36 h36
 obtain ⟨u38,l38,e38,h38⟩:=ex 2 l37 h37
 obtain ⟨u39,l39,ZU,h39⟩:=ex 1 l38 h38
 obtain ⟨u40,l40,ZT,h40⟩:=ex 0 l39 h39
 have e41:=List.length_eq_zero_iff.1 h40
 subst e41 ZT ZU e38 e37 e36 e35 e34 e33 e32 e31 e30 e29 e28 e27 e26 e25 e24 e23 e22 e21 e20 e19 e18 ZV ZW ZY ZZ Z0 Z1 Z2 Z3 e9 e8 e7 e6 e5 e4 e3 e2 e1 e0
 exact ⟨u0,u1,u2,u3,u4,u5,u6,u7,u8,u9,u10,u11,u12,u13,u14,u15,u16,u17,u18,u19,u20,u21,u22,u23,u24,u25,u26,u27,u28,u29,u30,u31,u32,u33,u34,u35,u36,u37,u38,u39,u40,rfl⟩
theorem A2 {w:World} {g:Nat} (h:jZ w g):g<w.heap.size:=by obtain ⟨o,h,_⟩:=h;exact ef h
theorem o7 {w w':World} {N0:Nat} (hb: ∀k,k<w.heap.size->w'.heap[k]? =w.heap[k]?) (a:Addr) (u:Value) (h:iN w N0 a u):iN w' N0 a u:=
 ⟨tN (hb a.block (gD h.1)) h.1,fun ⟨o,e,h3⟩=>h.2 ⟨o,by rw [<-hb a.block (gD h.1)];exact e,h3⟩⟩
theorem ve {w:World} {N0:Nat} (a:Addr) (u:Value) (h:iN w N0 a u):iN w w.heap.size a u:=⟨h.1,A2⟩
set_option maxHeartbeats 4000000 in
theorem Sg (N0 nx ny:Nat) (hx:nx<=1000000) (hy:ny<=1000000) (A B:Nat->Int) (hA: ∀i,i<nx-> -2000000<=A i/\A i<=2000000) (hB: ∀i,i<ny-> -2000000<=B i/\B i<=2000000) (m l:Nat) (lb:Array Value) (J Jx:List { x:Nat//x<(ny - 1)*(nx - 1) }->World->Prop) (W:World)
 (hab:AbidesFrom W.heap.size J) (wX:lb.size=2) (hr: ∀(j:Nat) (d:DV) (v:Value),[DV.dV [nums nx A],DV.dV [nums ny B]][j]? =some d->lb[j]? =some v->dA (iN W N0) d v) (hg:jv (iN W N0))
 (hY: ∀pre x W1,J pre W1->pre.length<(ny - 1)*(nx - 1)->YieldAt Fence.wide (m - 1) prog l #[.int .i64 (J8 (ny - 1) A B x.1).1,.int .i64 (J8 (ny - 1) A B x.1).2] W1 fun e W'=>
   (e= .returned (.bool true)/\J (pre++[x]) W'/\KpC [.dV [nums nx A],.dV [nums ny B]] lb N0 W1 W')\/(e= .returned (.bool false)/\Jx (pre++[x]) W'))
 (h0:J [] W):
 CallsIn Fence.wide m prog 175 (#[.func (.yield l) #[] #[]]++lb) W fun e W'=>(∃v,e= .returned v)/\((∃xs,xs.map (·.1)=List.range ((ny - 1)*(nx - 1))/\J xs W')\/(∃pre,True/\Jx pre W')):=by
 obtain ⟨v0,v1,rfl⟩: ∃v0 v1,lb= #[v0,v1]:=by
  match lb,wX with
  |⟨[v0,v1]⟩,_=>exact ⟨v0,v1,rfl⟩
 obtain ⟨a0,s0,c0,rfl,Ff,NV,rU⟩:=lZ (hr 0 _ _ rfl rfl)
 obtain ⟨a1,s1,c1,rfl,UL,hle1,uh⟩:=lZ (hr 1 _ _ rfl rfl)
 clear Ff NV rU UL hle1 uh s0 c0 s1 c1
 refine callsIn_of_wp Go.Proofs.Tryz.func175 rfl trivial ?_ rfl
 simp only [Go.Proofs.Tryz.ntmps175,bZ,aH,b7,Nat.reduceAdd,Nat.reduceSub,Array.replicate_succ,Array.replicate_zero,List.push_toArray,List.append_toArray,cO,aT]
 gi_wp2
 gi_loopw [4] (fun i wr=> ∃(a:Nat) (pre:List { x:Nat//x<(ny - 1)*(nx - 1) }),a<=nx - 1/\pre.map (·.1)=List.range ((ny - 1)*a)/\i= .int .i64 ((a+1:Nat):Int)/\J pre wr/\KpC [.dV [nums nx A],.dV [nums ny B]] #[.pointer (some a0),.pointer (some a1)] N0 W wr)
  (fun i _=>(nx+5 - intOf i).toNat)
 case atStart=>exact ⟨0,[],aq _,rfl,rfl,h0,⟨fun j d v hj hv h=>h,fun h=>h⟩⟩
 case round=>
  obtain ⟨a,pre,ha,jq,rfl,hJ,hK⟩:=hrel
  obtain ⟨a0',s0,c0,e0,Ff,NV,rU⟩:=lZ (hK.1 0 _ _ rfl rfl (hr 0 _ _ rfl rfl))
  cases e0
  by_cases dR:a<nx - 1
  ·obtain ⟨ia,hia0⟩: ∃ia:Int,ia=((a+1:Nat):Int):=⟨_,rfl⟩
   rw [<-hia0]
   have hia:(a:Int)+1<=ia/\ia<=a+1:=by omega
   clear hia0
   have hia2:ia<(nx:Int):=by omega
   gi_wp2
   gi_loopw [5] (fun k wr=> ∃(b:Nat) (pre:List { x:Nat//x<(ny - 1)*(nx - 1) }),b<=ny - 1/\pre.map (·.1)=List.range ((ny - 1)*a+b)/\k= .int .i64 ((b+1:Nat):Int)/\J pre wr/\KpC [.dV [nums nx A],.dV [nums ny B]] #[.pointer (some a0),.pointer (some a1)] N0 W wr)
    (fun i _=>(ny+5 - intOf i).toNat)
   case atStart=>exact ⟨0,pre,aq _,by simpa using jq,rfl,hJ,hK⟩
   case round=>
    clear hJ jq rU Ff NV hK pre
    obtain ⟨b,pre,hb,jq,rfl,hJ,hK⟩:=hrel
    obtain ⟨a1',s1,c1,e1,UL,hle1,uh⟩:=lZ (hK.1 1 _ _ rfl rfl (hr 1 _ _ rfl rfl))
    cases e1
    by_cases xC:b<ny - 1
    ·obtain ⟨ib,hib0⟩: ∃ib:Int,ib=((b+1:Nat):Int):=⟨_,rfl⟩
     rw [<-hib0]
     have hib:(b:Int)+1<=ib/\ib<=b+1:=by omega
     clear hib0
     have hib2:ib<(ny:Int):=by omega
     have hlen:pre.length=(ny - 1)*a+b:=by
      have:=de List.length jq
      simpa using this
     have Kl:=wB dR xC
     obtain ⟨a0',s0,c0,e0,Ff,NV,rU⟩:=lZ (hK.1 0 _ _ rfl rfl (hr 0 _ _ rfl rfl))
     cases e0
     obtain ⟨d0,rfl,Rt⟩:=rU a (by omega)
     obtain ⟨d0',ed0,hd0'⟩:=rU (a+1) (by omega)
     obtain ⟨d1,rfl,hd1⟩:=uh b (by omega)
     obtain ⟨d1',ed1,hd1'⟩:=uh (b+1) (by omega)
     cases ed0
     cases ed1
     have pw:=hA a (by omega)
     have gJ:=hA (a+1) (by omega)
     have Jt:=hB b (by omega)
     have hb4:=hB (b+1) (by omega)
     clear rU uh Rt hd1 hd0' hd1' Ff NV
     gi_wp2
     change Code.wpIn (FW none) m prog (Code.region 6 _ true) _ _ _
     have ta:(ia - 1).toNat=a:=by omega
     have ta':ia.toNat=a+1:=by omega
     have tb:(ib - 1).toNat=b:=by omega
     have tb':ib.toNat=b+1:=by omega
     refine xj 21 (dz:=[]) (base:=wr.heap.size) (w0:=wr) (S0:=⟨fun _=>True,[],wr,none,fun _=>False,fun _=>undef⟩)
      (σ:={ t:=[(0,.val (.func (.yield l) #[] #[])),(1,.dV [nums nx A]),(2,.dV [nums ny B]),(4,.val (.int .i64 ia)),(5,.val (.int .i64 ib))],h:=[],nx:=0,nt:=41 }) dJ (by kernel_rfl) (by kernel_rfl) (by kernel_rfl) (by kernel_rfl) ?_ ?_ ?_
     ·refine Kx rfl rfl rfl rfl (fun t=> ?_) ((hK.2 hg).mono ve)
      match t with
      |0=>exact .val _
      |1=>exact (hK.1 0 _ _ rfl rfl (hr 0 _ _ rfl rfl)).mono ve (fun _ h=>h) fun _ _ h=>h.elim
      |2=>exact (hK.1 1 _ _ rfl rfl (hr 1 _ _ rfl rfl)).mono ve (fun _ h=>h) fun _ _ h=>h.elim
      |3=>exact .any _
      |4=>exact .val _
      |5=>exact .val _
      |t+6=>exact .any _
     ·refine KZ (l':=[dh (ia - 1),0<=ia - 1/\ia - 1<(nx:Int),0<=ia/\ia<(nx:Int),dh (A (ia - 1).toNat+A ia.toNat),
       dh (ib - 1),0<=ib - 1/\ib - 1<(ny:Int),0<=ib/\ib<(ny:Int),dh (B (ib - 1).toNat+B ib.toNat)]) (by kernel_rfl) ?_
      rw [ta,ta',tb,tb']
      intro p hp
      simp only [aR,List.not_mem_nil,or_false] at hp
      rcases hp with rfl|rfl|rfl|rfl|rfl|rfl|rfl|rfl<;>(try unfold dh)<;>omega
     ·rintro ⟨⟨tm⟩,ds⟩ w' hd fA ⟨kn,di,r,hk⟩
      have eW:tm.length=41:=r.size
      have e0:=fA 0 (by kernel_rfl)
      have e1:=fA 1 (by kernel_rfl)
      have e2:=fA 2 (by kernel_rfl)
      have e3:=fA 3 (by kernel_rfl)
      have e4:=fA 4 (by kernel_rfl)
      have e5:=fA 5 (by kernel_rfl)
      have e6:=fA 6 (by kernel_rfl)
      have e7:=fA 7 (by kernel_rfl)
      have e8:=fA 8 (by kernel_rfl)
      have e9:=fA 9 (by kernel_rfl)
      have Z3:=fA 10 (by kernel_rfl)
      have Z2:=fA 11 (by kernel_rfl)
      have Z1:=fA 12 (by kernel_rfl)
      have Z0:=fA 13 (by kernel_rfl)
      have ZZ:=fA 14 (by kernel_rfl)
      have ZY:=fA 15 (by kernel_rfl)
      have ZW:=fA 16 (by kernel_rfl)
      have ZV:=fA 17 (by kernel_rfl)
      have ZU:=fA 39 (by kernel_rfl)
      have ZT:=fA 40 (by kernel_rfl)
      have e18:=r.Ey (t:=18) (v:= .func (.yield l) #[] #[]) (by kernel_rfl)
      have e28:=r.Ey (t:=28) (v:= .int .i64 (A (ia - 1).toNat+A ia.toNat)) (by kernel_rfl)
      have e38:=r.Ey (t:=38) (v:= .int .i64 (B (ib - 1).toNat+B ib.toNat)) (by kernel_rfl)
      rw [ta,ta'] at e28
      rw [tb,tb'] at e38
      have Kp:=r.below
      have hJ2:J pre w':=hab _ _ _ none hJ ⟨Kp.os,Kp.tape,Kp.output,Kp.size,fun k hk _=>Kp.block k hk fun h=>h⟩ (fun r e=>by cases e)
      have S8:KpC [.dV [nums nx A],.dV [nums ny B]] #[.pointer (some a0),.pointer (some a1)] N0 W w':=⟨fun j d v hj hv h=>
       (hK.1 j d v hj hv h).mono (o7 fun k hk=>Kp.block k hk fun h=>h) (fun _ h=>h) fun _ _ h=>h.elim,fun h=>(hK.2 h).mono (o7 fun k hk=>Kp.block k hk fun h=>h)⟩
      clear r hk fA
      obtain ⟨u0,u1,u2,u3,u4,u5,u6,u7,u8,u9,u10,u11,u12,u13,u14,u15,u16,u17,u18,u19,u20,u21,u22,u23,u24,u25,u26,u27,u28,u29,u30,u31,u32,u33,u34,u35,u36,u37,u38,u39,u40,rfl⟩:=Y1 tm eW
      change u0=_ at e0
      change u1=_ at e1
      change u2=_ at e2
      change u3=_ at e3
      change u4=_ at e4
      change u5=_ at e5
      change u6=_ at e6
      change u7=_ at e7
      change u8=_ at e8
      change u9=_ at e9
      change u10=_ at Z3
      change u11=_ at Z2
      change u12=_ at Z1
      change u13=_ at Z0
      change u14=_ at ZZ
      change u15=_ at ZY
      change u16=_ at ZW
      change u17=_ at ZV
      change u18=_ at e18
      change u28=_ at e28
      change u38=_ at e38
      change u39=_ at ZU
      change u40=_ at ZT
      change ds=[] at hd
      subst e0 e1 e2 e4 e5 e18 e28 e38 hd
      have E:Aside (_/\_/\_/\_/\_/\_/\_/\_/\_/\_/\_/\_/\_/\_/\_):=⟨e3,e6,e7,e8,e9,Z3,Z2,Z1,Z0,ZZ,ZY,ZW,ZV,ZU,ZT⟩
      clear e3 e6 e7 e8 e9 Z3 Z2 Z1 Z0 ZZ ZY ZW ZV ZU ZT
      obtain ⟨fn,tmps,assign,body,hy,hR⟩:=hY pre ⟨_,Kl⟩ w' hJ2 (by omega)
      dsimp only at hy hR
      rw [Qx A B xC] at hy
      dsimp only at hy
      change wpListIn Fence.wide m prog _ _ [_,_] _ _
      gi_wp2
      refine ⟨fun h=>absurd h (by decide),hR.mono ?_⟩
      rintro e W3 (⟨rfl,hJ3,Gm⟩|⟨rfl,ZM⟩)
      ·gi_wp2
       go_roundw
       case rel=>
        obtain ⟨e3,e6,e7,e8,e9,Z3,Z2,Z1,Z0,ZZ,ZY,ZW,ZV,ZU,ZT⟩:=E.out
        subst e3 e6 e7 e8 e9 Z3 Z2 Z1 Z0 ZZ ZY ZW ZV ZU ZT
        exact ⟨_,_,_,_,_,_,_,_,_,_,_,_,_,_,_,_,_,_,_,_,_,_,_,_,_,_,_,_,_,_,⟨b+1,pre++[⟨_,Kl⟩],by omega,by rw [dd,jq,<-cC,List.range_succ];rfl,by congr 1<;>omega,hJ3,⟨fun j d v hj hv h=>Gm.1 j d v hj hv (S8.1 j d v hj hv h),fun h=>Gm.2 (S8.2 h)⟩⟩,rfl⟩
       case measure=>simp [intOf];omega
      ·gi_wp2
       refine bodyPost_ret (results_none rfl _ _ _) rfl ?_
       exact ⟨⟨_,rfl⟩,.inr ⟨_,trivial,ZM⟩⟩
    ·obtain rfl:b=ny - 1:=by omega
     gi_wp2
     go_roundw
     case rel=>exact ⟨a+1,pre,by omega,by rw [Nat.mul_add,Nat.mul_one];exact jq,by congr 1;omega,hJ,hK⟩
     case measure=>simp [intOf];omega
  ·obtain rfl:a=nx - 1:=by omega
   gi_wp2
   go_end0
   exact ⟨⟨_,rfl⟩,.inl ⟨pre,jq,hJ⟩⟩
theorem Oq (nx ny:Nat) (A B:Nat->Int) (hx:nx<=1000000) (hy:ny<=1000000) (hA: ∀i,i<nx-> -2000000<=A i/\A i<=2000000) (hB: ∀i,i<ny-> -2000000<=B i/\B i<=2000000):
 FN prog 175 [.dV [nums nx A],.dV [nums ny B]] ((ny - 1)*(nx - 1)) fun k=>[.int .i64 (J8 (ny - 1) A B k).1,.int .i64 (J8 (ny - 1) A B k).2]:=by
 refine ⟨?_,fun m lb w wX hr hg l J Jx W hW hab _ hY h0=> ?_⟩
 ·exact ⟨_,Go.Proofs.Tryz.func175,rfl,by kernel_rfl⟩
 ·have hrW: ∀(j:Nat) (d:DV) (v:Value),[DV.dV [nums nx A],DV.dV [nums ny B]][j]? =some d->lb[j]? =some v->dA (iN W w.heap.size) d v:=fun j d v hj hv=>
   (hr j d v hj hv).mono (o7 fun k hk=>hW.block k hk) (fun _ h=>h) fun _ _ h=>h.elim
  exact Sg w.heap.size nx ny hx hy A B hA hB m l lb J Jx W hab wX hrW (hg.mono (o7 fun k hk=>hW.block k hk)) hY h0
end Go.Abs
end
section
set_option maxRecDepth 100000
namespace Go.Abs
open Go
def hasB (n:Nat) (X Y:Nat->Int) (x y:Int) (i:Nat):Bool:=decide (lo n X i=hi n X i/\2*lo n X i>x/\2*lo n Y i<y/\y<2*hi n Y i)
def kg (n:Nat) (X Y:Nat->Int) (x y:Int):Nat->Bool
 |0=>false
 |k+1=>if hasB n X Y x y k=true then !(kg n X Y x y k) else kg n X Y x y k
def Qi:fx:= .res fun l=>dB (kg (aN l) (aX l) (aY l) (aI l 1) (aI l 2) (aN l))
abbrev lR (l:List Int):DV:=nums l.length (fun i=>l.getD i 0)
abbrev H5 (l:List Int):List (Nat->DV):=[fun i=>dI (l.getD i 0)]
def Qh:fx:= .take fun l=>((fP ((List.range (aN l)).map (aX l))).length,fun i=>(fP ((List.range (aN l)).map (aX l))).getD i 0)
def jy (N:Nat->Nat) (X:Nat->Nat->Int) (i k:Nat):List Int:=fw N X i++(List.range k).map (X i)
theorem DK (N:Nat->Nat) (X:Nat->Nat->Int) (i:Nat):jy N X i 0=fw N X i:=by simp [jy]
theorem G7 (N:Nat->Nat) (X:Nat->Nat->Int) (i:Nat):jy N X i (N i)=fw N X (i+1):=rfl
theorem Au (N:Nat->Nat) (X:Nat->Nat->Int) (i k:Nat):(jy N X i k).length=(fw N X i).length+k:=by simp [jy]
theorem mP (N:Nat->Nat) (X:Nat->Nat->Int) (i k:Nat):jy N X i (k+1)=jy N X i k++[X i k]:=by
 simp only [jy,List.range_succ,dd,bR,List.map_nil,cA]
theorem Ac (l:List Int) (x:Int) (j:Nat) (h:j<l.length+1):(if j<l.length then l.getD j 0 else x)=(l++[x]).getD j 0:=by
 split
 ·rename_i h1;simp [aW h1]
 ·rw [show j=l.length by omega];simp
theorem DI (l:List Int):(List.range l.length).map (fun i=>l.getD i 0)=l:=by
 apply List.ext_getElem
 ·simp
 ·intro i h1 h2
  simp [h2]
theorem FJ (N:Nat->Nat) (X:Nat->Nat->Int) {i m:Nat} (h:i<=m):(fw N X i).length<=(fw N X m).length:=by
 induction m with
 |zero=>rw [show i=0 by omega];exact ae _
 |succ m ih=>
  rcases a8 i (m+1) with h1|h1
  ·have:=ih (by omega)
   simp only [fw,aS];omega
  ·rw [show i=m+1 by omega];exact ae _
noncomputable def OC (n:Nat) (X Y:Nat->Int) (x y:Int):eA:={ dz:=[(5,[(2,Qe)])],loops:=[(0,{ ι:=Nat,keep:=[0,1,2,12],boxes:=[],ts:=fun _ i=>[(7,dB (kg n X Y x y i)),(13,dI (i:Int))],inv:=fun _ i=>i<=n,mu:=fun _ i=>n - i,rd:=fun _ σ=>(ez (σ.get 13)).toNat })],dK:=[] }
namespace wt
noncomputable section
structure Z where
 n:Nat
 X:Nat->Int
 Y:Nat->Int
 x:Int
 y:Int
variable (z:Z) (i0:Nat) (p:Prop) (P:List Prop) (a:Int) (k:Nat) (g h:Bool)
abbrev x0:=lo z.n z.X (i0:Int)
abbrev x1:=if g=true then h else false
abbrev x2:=x0 z i0==hi z.n z.X (i0:Int)
abbrev x3:=x1 (x2 z i0) (decide ((2*x0 z i0)>z.x))
abbrev x4:=Int.toNat ((i0:Int)+1)
abbrev x5:=Value.int IntKind.i64 a
abbrev x6:=x1 (x3 z i0) (decide ((2*lo z.n z.Y (i0:Int))<z.y))
abbrev x7:=g=kg z.n z.X z.Y z.x z.y k
abbrev x8:List Prop:=p::rf z.n::(∀i0<z.n,rf (z.X i0))::(∀i0<z.n,rf (z.Y i0))::rf z.x::rf z.y::rf (z.n:Int)::P
abbrev x9:=VT.dk [dh ((i0:Int)+1)] (VT.done (p::x8 z ((i0:Int)+1=(↑(x4 i0):Int)) [x4 i0<=z.n,z.n - x4 i0<z.n - i0]))
abbrev xt:VT:=VT.loop Nat (fun i0=>i0<=z.n) (Int.toNat 0) (x7 z (Int.toNat 0) false::x8 z (0=(↑(Int.toNat 0):Int)) []) (fun i0=>VT.ite (decide ((i0:Int)<(z.n:Int))) (VT.dk [dv prog 150 [DV.dt z.n [fun i0=>DV.val (x5 (z.X i0)),fun i0=>DV.val (x5 (z.Y i0))],DV.val (x5 (i0:Int))] (DV.fC [DV.val (Value.agg (Array.mk [x5 (x0 z i0),x5 (lo z.n z.Y (i0:Int))])),DV.val (Value.agg (Array.mk [x5 (hi z.n z.X (i0:Int)),x5 (hi z.n z.Y (i0:Int))]))])] (VT.dk [ri (x2 z i0=true),ri (x2 z i0=true),x2 z i0=true->dh (2*x0 z i0),ri (x2 z i0=true),ri (x2 z i0=true),ri (x2 z i0=true),ri (x3 z i0=true),ri (x3 z i0=true),x3 z i0=true->dh (2*lo z.n z.Y (i0:Int)),ri (x3 z i0=true),ri (x3 z i0=true),ri (x3 z i0=true),ri (x6 z i0=true),ri (x6 z i0=true),x6 z i0=true->dh (2*hi z.n z.Y (i0:Int)),ri (x6 z i0=true),ri (x6 z i0=true),ri (x6 z i0=true)] (VT.ite (x1 (x6 z i0) (decide (z.y<(2*hi z.n z.Y (i0:Int))))) (x9 z i0 (x7 z (x4 i0) (!(kg z.n z.X z.Y z.x z.y i0)))) (x9 z i0 (x7 z (x4 i0) (kg z.n z.X z.Y z.x z.y i0)))))) (VT.done [x7 z z.n (kg z.n z.X z.Y z.x z.y i0)]))
end
end wt
open wt in
theorem Mv (n:Nat) (X Y:Nat->Int) (x y:Int) (hn:0<n) (jO:n<=800) (hX:kd n X) (hY:kd n Y):dv prog 148 [my n X Y,dI x,dI y] (dB (kg n X Y x y n)):=by
 refine dm dJ (OC n X Y x y) (V:=xt ⟨n,X,Y,x,y⟩) (by kernel_rfl) ?_
 simp only [xt,x0,x1,x2,x3,x4,x5,x6,x7,x8,x9,Rf,VT.holds,dC,Sq]
 refine ⟨⟨rfl,rfl⟩,aq n,fun i hi=>⟨fun dR=> ?_,fun iG=>by rw [show i=n by omega]⟩⟩
 have b1:=V4 hn hX i
 have b2:=V4 hn hY i
 have b3:=hi_bd hn hY i
 refine ⟨JV n X Y i hn (by omega) (by omega) (by omega),⟨fun _=>by unfold dh;omega,fun _=>by unfold dh;omega,fun _=>by unfold dh;omega⟩,fun h=>⟨by unfold dh;omega,?_,by omega,by omega,by omega⟩,fun h=>⟨by unfold dh;omega,?_,by omega,by omega,by omega⟩⟩
 ·rw [kg,ag]
  unfold hasB
  rw [ah]
  exact ⟨h.1.1.1,h.1.1.2,h.1.2,h.2⟩
 ·rw [kg,ab]
  unfold hasB
  rw [ah]
  rintro ⟨h1,h2,h3,h4⟩
  exact h ⟨⟨h1,h2⟩,h3⟩ h4
noncomputable def IJ (m:Nat) (N:Nat->Nat) (X Y:Nat->Nat->Int):eA:={ dz:=[(11,[(1,Qh),(3,Qh)])],loops:=[(0,{ ι:=Nat,keep:=[11,12],boxes:=[],ts:=fun _ i=>[(13,dI (i:Int))],rw:=fun _ i=>[(3,1,(fw N X i).length,H5 (fw N X i)),(4,1,(fw N Y i).length,H5 (fw N Y i))],inv:=fun _ i=>i<=m,mu:=fun _ i=>m - i,rd:=fun _ σ=>(ez (σ.get 13)).toNat }),(2,{ ι:=Nat,keep:=[11,12,13,17,18],boxes:=[],ts:=fun _ k=>[(19,dI (k:Int))],rw:=fun σ k=>[(3,1,(jy N X (ez (σ.get 13)).toNat k).length,H5 (jy N X (ez (σ.get 13)).toNat k)),(4,1,(jy N Y (ez (σ.get 13)).toNat k).length,H5 (jy N Y (ez (σ.get 13)).toNat k))],inv:=fun σ k=>k<=N (ez (σ.get 13)).toNat,mu:=fun σ k=>N (ez (σ.get 13)).toNat - k,rd:=fun _ σ=>(ez (σ.get 19)).toNat })],dK:=[] }
namespace wu
noncomputable section
structure Z where
 m:Nat
 N:Nat->Nat
 X:Nat->Nat->Int
 Y:Nat->Nat->Int
variable (z:Z) (i0 i1 i2:Nat) (p:Prop) (P:List Prop) (a:Int) (k:Nat) (kY:Nat->Nat->Int) (yS:List Int) (NK:Nat->Int)
abbrev x0:Int:=(i0:Int)
abbrev x1:=Int.toNat (x0 i0)
abbrev x2:=jy z.N kY (x1 i0) k
abbrev x3:=List.length (x2 z i0 k kY)
abbrev x4:=List.getD yS i1 0
abbrev x5:=List.length (fw z.N kY i0)
abbrev x6:=Int.toNat 0
abbrev x7:=List.map NK (List.range (x5 z i0 kY))
abbrev x8:=Int.toNat (x0 i0+1)
abbrev x9:=Int.toNat ((i1:Int)+1)
abbrev dM:=x4 i1 (fw z.N z.X i0)
abbrev dQ:=x4 i1 (fw z.N z.Y i0)
abbrev dS:List Prop:=p::rf (0:Nat)::P
abbrev dT:=List.length (fw z.N kY (x8 i0))
abbrev dU:=List.getD (x2 z i0 k kY) i2 0
abbrev dY:Int:=(↑(z.N (x1 i0)):Int)
abbrev eb:=List.length (fP (fw z.N kY z.m))
abbrev eE:=x4 i1 (fP (x7 z i0 kY NK))
abbrev eH:=(nat_lit 0)=0
abbrev eT:=DV.val (Value.int IntKind.i64 a)
abbrev eG:=i1<(z.N (x1 i0))->rf (kY (x1 i0) i1)
abbrev eZ:=List.length (fP (x7 z i0 z.X (fun i1=>dM z i0 i1)))
abbrev fi:=List.length (fP (x7 z i0 z.Y (fun i1=>dQ z i0 i1)))
abbrev fR:List Prop:=p::rf z.m::(∀i0<z.m,rf (z.N i0)/\(∀i1<(z.N i0),rf (z.X i0 i1))/\(∀i1<(z.N i0),rf (z.Y i0 i1)))::rf (z.m:Int)::P
abbrev xt:VT:=VT.loop Nat (fun i0=>i0<=z.m) x6 (dS (0=(x6:Int)) (dS eH (fR z eH [eH,eH]))) (fun i0=>VT.ite (decide ((x0 i0)<(z.m:Int))) (VT.dk [0<=x0 i0/\x0 i0<(z.m:Int)] (VT.loop Nat (fun i1=>i1<=(z.N (x1 i0))) x6 (dS (0=(x6:Int)) (dS (x5 z i0 z.X=x3 z i0 x6 z.X) (fR z (x5 z i0 z.Y=x3 z i0 x6 z.Y) [rf (x0 i0),rf (z.N (x1 i0)),∀(i1:Nat),eG z i0 i1 z.X,∀(i1:Nat),eG z i0 i1 z.Y,rf (dY z i0),x5 z i0 z.X=x3 z i0 x6 z.X,∀i1<x3 z i0 x6 z.X,dM z i0 i1=x4 i1 (x2 z i0 x6 z.X),x5 z i0 z.Y=x3 z i0 x6 z.Y,∀i1<x3 z i0 x6 z.Y,dQ z i0 i1=x4 i1 (x2 z i0 x6 z.Y)]))) (fun i1=>VT.ite (decide ((i1:Int)<(dY z i0))) (VT.dk [0<=(i1:Int)/\(i1:Int)<dY z i0] (VT.dk [x3 z i0 i1 z.X<=x3 z i0 i1 z.X,(x3 z i0 i1 z.X+1)*((nat_lit 7)+1)<=140737488355328,(1:Nat)<=(1:Nat),x3 z i0 i1 z.Y<=x3 z i0 i1 z.Y,(x3 z i0 i1 z.Y+1)*((nat_lit 7)+1)<=140737488355328,(1:Nat)<=(1:Nat)] (VT.dk [dh ((i1:Int)+1)] (VT.done (dS ((i1:Int)+1=(↑(x9 i1):Int)) (dS (x3 z i0 i1 z.X+1=x3 z i0 (x9 i1) z.X) (fR z (x3 z i0 i1 z.Y+1=x3 z i0 (x9 i1) z.Y) [rf (x0 i0),rf (z.N (x1 i0)),∀(i1:Nat),eG z i0 i1 z.X,∀(i1:Nat),eG z i0 i1 z.Y,rf (dY z i0),x3 z i0 i1 z.X+1=x3 z i0 (x9 i1) z.X,∀i2<x3 z i0 (x9 i1) z.X,(if (decide (i2<(x3 z i0 i1 z.X)))=true then (dU z i0 i2 i1 z.X) else (z.X (x1 i0) (Int.toNat (i1:Int))))=dU z i0 i2 (x9 i1) z.X,x3 z i0 i1 z.Y+1=x3 z i0 (x9 i1) z.Y,∀i2<x3 z i0 (x9 i1) z.Y,(if (decide (i2<(x3 z i0 i1 z.Y)))=true then (dU z i0 i2 i1 z.Y) else (z.Y (x1 i0) (Int.toNat (i1:Int))))=dU z i0 i2 (x9 i1) z.Y,x9 i1<=(z.N (x1 i0)),(z.N (x1 i0)) - x9 i1<(z.N (x1 i0)) - i1]))))))) (VT.dk [dh (x0 i0+1)] (VT.done (dS (x0 i0+1=(↑(x8 i0):Int)) (dS (x3 z i0 i1 z.X=dT z i0 z.X) (fR z (x3 z i0 i1 z.Y=dT z i0 z.Y) [x3 z i0 i1 z.X=dT z i0 z.X,∀i2<dT z i0 z.X,dU z i0 i2 i1 z.X=List.getD (fw z.N z.X (x8 i0)) i2 0,x3 z i0 i1 z.Y=dT z i0 z.Y,∀i2<dT z i0 z.Y,dU z i0 i2 i1 z.Y=List.getD (fw z.N z.Y (x8 i0)) i2 0,x8 i0<=z.m,z.m - x8 i0<z.m - i0])))))))) (VT.dk [rf (x5 z i0 z.X),kM (fun i1=>eT (dM z i0 i1)),FnK prog 174 (x5 z i0 z.X) (fun i1=>vI (eT (dM z i0 i1))) (eZ z i0) (fun i1=>eE z i0 i1 z.X (fun i1=>dM z i0 i1)),rf (x5 z i0 z.Y),kM (fun i1=>eT (dQ z i0 i1)),FnK prog 174 (x5 z i0 z.Y) (fun i1=>vI (eT (dQ z i0 i1))) (fi z i0) (fun i1=>eE z i0 i1 z.Y (fun i1=>dQ z i0 i1))] (VT.done [eZ z i0<=eZ z i0,fi z i0<=fi z i0,eZ z i0=eb z z.X,∀i1<eb z z.X,eE z i0 i1 z.X (fun i1=>dM z i0 i1)=x4 i1 (fP (fw z.N z.X z.m)),fi z i0=eb z z.Y,∀i1<eb z z.Y,eE z i0 i1 z.Y (fun i1=>dQ z i0 i1)=x4 i1 (fP (fw z.N z.Y z.m))])))
end
end wu
open wu in
theorem Ve (m:Nat) (N:Nat->Nat) (X Y:Nat->Nat->Int) (hm:m<=1000000) (hb:(fw N X m).length<=1000000):dv prog 147 [.dt m [fun i=>my (N i) (X i) (Y i)]] (.jt 175 [.dV [lR (fP (fw N X m))],.dV [lR (fP (fw N Y m))]]):=by
 refine dm dJ (IJ m N X Y) (V:=xt ⟨m,N,X,Y⟩) (by kernel_rfl) ?_
 simp only [xt,x0,x1,x2,x3,x4,x5,x6,x7,x8,x9,dM,dQ,dS,dT,dU,dY,eb,eE,eH,eT,eG,eZ,fi,fR,Rf,VT.holds,dC,Sq]
 have gJ:(fw N Y m).length<=1000000:=by rw [BL N Y X];exact hb
 have hr: ∀l:List Int,List.map (fun a=>l.getD a 0) (List.range l.length)=l:=DI
 refine ⟨rfl,aq m,fun i hi=>⟨fun dR=>⟨⟨by omega,dR⟩,?_,aq _,fun k hk=>⟨fun oo=> ?_,fun oo=> ?_⟩⟩,fun iG=> ?_⟩⟩
 ·simp only [DK,bO,ck,b8];rfl
 ·have e1:=FJ N X (show i+1<=m by omega)
  have e2:=FJ N Y (show i+1<=m by omega)
  have e3:=Au N X i k
  have e4:=Au N Y i k
  have e5:(fw N X (i+1)).length=(fw N X i).length+N i:=by simp [fw]
  have e6:(fw N Y (i+1)).length=(fw N Y i).length+N i:=by simp [fw]
  have f1:(jy N X i k).length+1=(jy N X i (k+1)).length:=by rw [mP];simp
  have f2:(jy N Y i k).length+1=(jy N Y i (k+1)).length:=by rw [mP];simp
  have g1: ∀j,j<(jy N X i (k+1)).length->(if j<(jy N X i k).length then (jy N X i k).getD j 0 else X i k)=(jy N X i (k+1)).getD j 0:=fun j hj=>by
   rw [mP];exact Ac _ _ j (by omega)
  have g2: ∀j,j<(jy N Y i (k+1)).length->(if j<(jy N Y i k).length then (jy N Y i k).getD j 0 else Y i k)=(jy N Y i (k+1)).getD j 0:=fun j hj=>by
   rw [mP];exact Ac _ _ j (by omega)
  exact ⟨⟨by omega,oo⟩,⟨ae _,by omega,ae _,ae _,by omega,ae _⟩,by unfold dh;omega,by omega,f1,f2,f1,g1,f2,g2,by omega,by omega⟩
 ·obtain rfl:k=N i:=by omega
  simp only [G7,bO,ck,b8]
  exact ⟨by unfold dh;omega,by omega,by omega,by omega⟩
 ·obtain rfl:i=m:=by omega
  have l1:=Me (fw N X i).length (fun j=>(fw N X i).getD j 0) hb
  have l2:=Me (fw N Y i).length (fun j=>(fw N Y i).getD j 0) gJ
  refine ⟨⟨fun _=>trivial,l1,fun _=>trivial,l2⟩,ae _,ae _,?_⟩
  simp only [hr,bO,b8,ck]
end Go.Abs
end
section
set_option maxRecDepth 100000
namespace Go.Abs
open Go
abbrev N2 (n m:Nat) (i:Nat):Nat:=if decide (i=0)=true then n else m
abbrev X2 (X X':Nat->Int) (i k:Nat):Int:=if decide (i=0)=true then X k else X' k
def gr (n:Nat) (X:Nat->Int) (m:Nat) (X':Nat->Int):List Int:=fP (fw (N2 n m) (X2 X X') 2)
def wC (n:Nat) (X Y:Nat->Int) (m:Nat) (X' Y':Nat->Int):Nat:=((gr n Y m Y').length - 1)*((gr n X m X').length - 1)
def jJ (n:Nat) (X Y:Nat->Int) (m:Nat) (X' Y':Nat->Int) (k:Nat):Int×Int:=J8 ((gr n Y m Y').length - 1) (fun i=>(gr n X m X').getD i 0) (fun i=>(gr n Y m Y').getD i 0) k
def y9 (n:Nat) (X Y:Nat->Int) (m:Nat) (X' Y':Nat->Int) (k:Nat):Bool:=kg m X' Y' (jJ n X Y m X' Y' k).1 (jJ n X Y m X' Y' k).2 m&& !kg n X Y (jJ n X Y m X' Y' k).1 (jJ n X Y m X' Y' k).2 n
def E2 (n:Nat) (X Y:Nat->Int) (m:Nat) (X' Y':Nat->Int) (k:Nat):Bool:=kg m X' Y' (jJ n X Y m X' Y' k).1 (jJ n X Y m X' Y' k).2 m&&kg n X Y (jJ n X Y m X' Y' k).1 (jJ n X Y m X' Y' k).2 n
def nW (n:Nat) (X Y:Nat->Int) (m:Nat) (X' Y':Nat->Int):Bool:=decide (∀k,k<wC n X Y m X' Y'->y9 n X Y m X' Y' k=false)
def AO (n:Nat) (X Y:Nat->Int) (m:Nat) (X' Y':Nat->Int):Bool:= !decide (∀k,k<wC n X Y m X' Y'->E2 n X Y m X' Y' k=false)
def rCov:fx:= .res fun l=>dB (nW (aN l) (aX l) (aY l) (lenOf (arg l 1)) (ic 0 (arg l 1)) (ic 1 (arg l 1)))
abbrev Qk (n:Nat) (X Y:Nat->Int) (m:Nat) (X' Y':Nat->Int):fx:= .res fun _=> .jt 175 [.dV [lR (gr n X m X')],.dV [lR (gr n Y m Y')]]
theorem xE (n:Nat) (X:Nat->Int) (m:Nat) (X':Nat->Int) (b:Int) (hX: ∀k,k<n-> -b<=X k/\X k<=b) (O9: ∀k,k<m-> -b<=X' k/\X' k<=b): ∀i,i<(gr n X m X').length-> -b<=(gr n X m X').getD i 0/\(gr n X m X').getD i 0<=b:=fun i hi=>by
 have h1:=((jm (fw (N2 n m) (X2 X X') 2)).2 _).1 (Bd hi)
 refine MU (m:=2) (fun i hi k hk=> ?_) _ h1
 match i,hi with
 |0,_=>exact hX k hk
 |1,_=>exact O9 k hk
theorem xF (n:Nat) (X:Nat->Int) (m:Nat) (X':Nat->Int):(gr n X m X').length<=n+m:=by
 have h:=tX (fw (N2 n m) (X2 X X') 2)
 simpa [gr,fw,N2] using h
theorem HI (n:Nat) (X Y:Nat->Int) (m:Nat) (X' Y':Nat->Int) (jO:n<=800) (hX:kd n X) (hY:kd n Y) (SQ:m<=800) (O9:kd m X') (S7:kd m Y'):
 FN prog 175 [.dV [lR (gr n X m X')],.dV [lR (gr n Y m Y')]] (wC n X Y m X' Y') fun k=>[.int .i64 (jJ n X Y m X' Y' k).1,.int .i64 (jJ n X Y m X' Y' k).2]:=by
 have l1:=xF n X m X'
 have l2:=xF n Y m Y'
 refine Oq _ _ _ _ (by omega) (by omega) (fun i hi=> ?_) (fun i hi=> ?_)
 ·have:=xE n X m X' 1000000 hX O9 i hi;omega
 ·have:=xE n Y m Y' 1000000 hY S7 i hi;omega
theorem RC (n:Nat) (X Y:Nat->Int) (m:Nat) (X' Y':Nat->Int) (jO:n<=800) (SQ:m<=800):
 dv prog 147 [.dt 2 [fun i=>my (N2 n m i) (X2 X X' i) (X2 Y Y' i)]] (.jt 175 [.dV [lR (gr n X m X')],.dV [lR (gr n Y m Y')]]):=
 Ve 2 (N2 n m) (X2 X X') (X2 Y Y') (by omega) (by simp [fw,N2];omega)
theorem zl (n:Nat) (X Y:Nat->Int) (m:Nat) (X' Y':Nat->Int):(DV.dt 2 [fun i=>DV.dt (if i=0 then n else m) [fun k=>DV.val (Value.int .i64 (if i=0 then X k else X' k)),fun k=>DV.val (Value.int .i64 (if i=0 then Y k else Y' k))]])= .dt 2 [fun i=>my (N2 n m i) (X2 X X' i) (X2 Y Y' i)]:=by
 congr 2
 funext i
 by_cases h:i=0
 ·subst h;rfl
 ·have hd:decide (i=0)=false:=by simp [h]
  have e1:N2 n m i=m:=by unfold N2;rw [hd];rfl
  have e2:X2 X X' i=X':=by funext k;unfold X2;rw [hd];rfl
  have e3:X2 Y Y' i=Y':=by funext k;unfold X2;rw [hd];rfl
  rw [e1,e2,e3]
  simp only [ab h]
noncomputable def FZ (n:Nat) (X Y:Nat->Int) (m:Nat) (X' Y':Nat->Int):eA:={ dz:=[(1,[(3,Qk n X Y m X' Y')]),(4,[(3,Qi),(8,Qi)])],loops:=[],dK:=[],TV:=[(0,{ N:=wC n X Y m X' Y',enc:=fun k=>[.int .i64 (jJ n X Y m X' Y' k).1,.int .i64 (jJ n X Y m X' Y' k).2],keep:=[2,3,4,10],boxes:=[2,3,4],bx:=fun _ _=>[],inv:=fun _ pre=> ∀k∈pre,y9 n X Y m X' Y' k=false })] }
namespace wv
noncomputable section
structure Z where
 n:Nat
 X:Nat->Int
 Y:Nat->Int
 m:Nat
 X':Nat->Int
 Y':Nat->Int
variable (z:Z) (i0 i1:Nat) (p:Prop) (P:List Prop) (a:Int) (k l:Nat) (g:Bool) (A:DV) (jM qn:Nat->Int)
abbrev x0:=jJ z.n z.X z.Y z.m z.X' z.Y' k
abbrev x1:=DV.val (Value.int IntKind.i64 a)
abbrev x2 (i0:List Nat×Nat):=kg k jM qn (Prod.fst (x0 z (Prod.snd i0))) (Prod.snd (x0 z (Prod.snd i0))) l
abbrev x3:=List.getD (gr z.n jM z.m qn) i0 0
abbrev x4:=List.length (gr z.n z.X z.m z.X')
abbrev x5:=List.length (gr z.n z.Y z.m z.Y')
abbrev x6:=wC z.n z.X z.Y z.m z.X' z.Y'
abbrev x7 (i0:List Nat×Nat):List Prop:=ri (x2 z z.m z.m z.X' z.Y' i0=true)::P
abbrev x8:=p->y9 z.n z.X z.Y z.m z.X' z.Y' k=false
abbrev x9:List Value:=[Value.int IntKind.i64 (Prod.fst (x0 z i0)),Value.int IntKind.i64 (Prod.snd (x0 z i0))]
abbrev dM (i0:List Nat×Nat):=dv prog 148 [A,x1 (Prod.fst (x0 z (Prod.snd i0))),x1 (Prod.snd (x0 z (Prod.snd i0)))] (DV.val (Value.bool g))
abbrev dQ:=x1 (if (decide (i0=(0:Nat)))=true then (jM i1) else (qn i1))
abbrev dS:List DV:=[DV.dV [DV.dt (x4 z) [fun i0=>x1 (x3 z i0 z.X z.X')]],DV.dV [DV.dt (x5 z) [fun i0=>x1 (x3 z i0 z.Y z.Y')]]]
abbrev dT:List Prop:=[rf (x4 z),∀i0<x4 z,rf (x3 z i0 z.X z.X'),rf (x5 z),∀i0<x5 z,rf (x3 z i0 z.Y z.Y'),rf z.n,∀i0<z.n,rf (z.X i0),∀i0<z.n,rf (z.Y i0),rf z.m,∀i0<z.m,rf (z.X' i0),∀i0<z.m,rf (z.Y' i0),rf false,p]
abbrev dU:=VT.done [g=nW z.n z.X z.Y z.m z.X' z.Y']
abbrev xt:VT:=VT.dk [(2:Nat)<=(2:Nat),dv prog 147 [DV.dt 2 [fun i0=>DV.dt (if (decide (i0=(0:Nat)))=true then z.n else z.m) [fun i1=>dQ i0 i1 z.X z.X',fun i1=>dQ i0 i1 z.Y z.Y']]] (DV.jt (175:FuncId) (dS z))] (VT.dk (FN prog (175:FuncId) (dS z) (x6 z) (fun i0=>x9 z i0)::(∀i0<x6 z,List.length (x9 z i0)=Array.size (List.toArray [(11:Nat),(12:Nat)]))::dT z (∀(i0:Nat),x8 z (i0∈[]) i0)) (VT.cut (List Nat×Nat) (fun (i0:List Nat×Nat)=>(∀(i1:Nat),x8 z (i1∈(Prod.fst i0)) i1)/\Prod.snd i0<x6 z/\List.length (Prod.fst i0)<x6 z/\(∀(i1:Nat),(i1∈(Prod.fst i0))->i1<x6 z)) (VT.cut Unit (fun (i0:Unit)=> ∀(i0:Nat),x8 z (i0∈(List.range (x6 z))) i0) (VT.done []) (fun (i0:Unit)=>dU z true)) (fun (i0:List Nat×Nat)=>VT.dk (dM z (x2 z z.m z.m z.X' z.Y' i0) (DV.dt z.m [fun i0=>x1 (z.X' i0),fun i0=>x1 (z.Y' i0)]) i0::x7 z (x7 z (x7 z ((x2 z z.m z.m z.X' z.Y' i0=true->dM z (x2 z z.n z.n z.X z.Y i0) (DV.dt z.n [fun i0=>x1 (z.X i0),fun i0=>x1 (z.Y i0)]) i0)::x7 z [ri (x2 z z.m z.m z.X' z.Y' i0=true)] i0) i0) i0) i0) (VT.ite (if (x2 z z.m z.m z.X' z.Y' i0)=true then (!(x2 z z.n z.n z.X z.Y i0)) else false) (dU z false) (VT.done (dT z (∀(i1:Nat),x8 z (i1∈((Prod.fst i0)++[Prod.snd i0])) i1)))))))
end
end wv
open wv in
theorem R4 (n:Nat) (X Y:Nat->Int) (m:Nat) (X' Y':Nat->Int) (hn:0<n) (jO:n<=800) (hX:kd n X) (hY:kd n Y) (hm:0<m) (SQ:m<=800) (O9:kd m X') (S7:kd m Y'):dv prog 146 [my n X Y,my m X' Y'] (dB (nW n X Y m X' Y')):=by
 refine dm dJ (FZ n X Y m X' Y') (V:=xt ⟨n,X,Y,m,X',Y'⟩) (by kernel_rfl) ?_
 simp only [xt,x0,x1,x2,x3,x4,x5,x6,x7,x8,x9,dM,dQ,dS,dT,dU,Rf,VT.holds,dC,Sq]
 rw [zl]
 refine ⟨⟨ae _,RC n X Y m X' Y' jO SQ⟩,⟨HI n X Y m X' Y' jO hX hY SQ O9 S7,fun _ _=>rfl,fun k hk=>by cases hk⟩,fun _ h=> ?_,fun i ⟨h1,h2,h3,h4⟩=>⟨⟨Mv m X' Y' _ _ hm SQ O9 S7,fun _=>Mv n X Y _ _ hn jO hX hY⟩,fun h=> ?_,fun h k hk=> ?_⟩⟩
 ·rw [bX,nW,ah]
  exact fun k hk=>h k (bg.2 hk)
 ·rw [bX,nW,aj]
  intro fp
  have:=fp i.2 h2
  simp [y9,h.1,h.2] at this
 ·rcases aO.1 hk with hk|hk
  ·exact h1 k hk
  ·rw [au.1 hk,y9]
   cases ha:kg m X' Y' (jJ n X Y m X' Y' i.2).1 (jJ n X Y m X' Y' i.2).2 m with
   |false=>rfl
   |true=>rw [h ha];rfl
noncomputable def IH (n:Nat) (X Y:Nat->Int) (m:Nat) (X' Y':Nat->Int):eA:={ dz:=[(1,[(3,Qk n X Y m X' Y')]),(4,[(3,Qi),(8,Qi)])],loops:=[],dK:=[],TV:=[(0,{ N:=wC n X Y m X' Y',enc:=fun k=>[.int .i64 (jJ n X Y m X' Y' k).1,.int .i64 (jJ n X Y m X' Y' k).2],keep:=[2,3,4,10],boxes:=[2,3,4],bx:=fun _ _=>[],inv:=fun _ pre=> ∀k∈pre,E2 n X Y m X' Y' k=false })] }
namespace ww
noncomputable section
structure Z where
 n:Nat
 X:Nat->Int
 Y:Nat->Int
 m:Nat
 X':Nat->Int
 Y':Nat->Int
variable (z:Z) (i0 i1:Nat) (p:Prop) (P:List Prop) (a:Int) (k l:Nat) (g:Bool) (A:DV) (jM qn:Nat->Int)
abbrev x0:=jJ z.n z.X z.Y z.m z.X' z.Y' k
abbrev x1:=DV.val (Value.int IntKind.i64 a)
abbrev x2 (i0:List Nat×Nat):=kg k jM qn (Prod.fst (x0 z (Prod.snd i0))) (Prod.snd (x0 z (Prod.snd i0))) l
abbrev x3:=List.getD (gr z.n jM z.m qn) i0 0
abbrev x4:=List.length (gr z.n z.X z.m z.X')
abbrev x5:=List.length (gr z.n z.Y z.m z.Y')
abbrev x6:=wC z.n z.X z.Y z.m z.X' z.Y'
abbrev x7:=p->E2 z.n z.X z.Y z.m z.X' z.Y' k=false
abbrev x8 (i0:List Nat×Nat):List Prop:=ri (x2 z z.m z.m z.X' z.Y' i0=true)::P
abbrev x9:List Value:=[Value.int IntKind.i64 (Prod.fst (x0 z i0)),Value.int IntKind.i64 (Prod.snd (x0 z i0))]
abbrev dM (i0:List Nat×Nat):=dv prog 148 [A,x1 (Prod.fst (x0 z (Prod.snd i0))),x1 (Prod.snd (x0 z (Prod.snd i0)))] (DV.val (Value.bool g))
abbrev dQ:=x1 (if (decide (i0=(0:Nat)))=true then (jM i1) else (qn i1))
abbrev dS:List Prop:=[rf (x4 z),∀i0<x4 z,rf (x3 z i0 z.X z.X'),rf (x5 z),∀i0<x5 z,rf (x3 z i0 z.Y z.Y'),rf z.n,∀i0<z.n,rf (z.X i0),∀i0<z.n,rf (z.Y i0),rf z.m,∀i0<z.m,rf (z.X' i0),∀i0<z.m,rf (z.Y' i0),rf false,p]
abbrev dT:List DV:=[DV.dV [DV.dt (x4 z) [fun i0=>x1 (x3 z i0 z.X z.X')]],DV.dV [DV.dt (x5 z) [fun i0=>x1 (x3 z i0 z.Y z.Y')]]]
abbrev dU:=VT.done [g=AO z.n z.X z.Y z.m z.X' z.Y']
abbrev xt:VT:=VT.dk [(2:Nat)<=(2:Nat),dv prog 147 [DV.dt 2 [fun i0=>DV.dt (if (decide (i0=(0:Nat)))=true then z.n else z.m) [fun i1=>dQ i0 i1 z.X z.X',fun i1=>dQ i0 i1 z.Y z.Y']]] (DV.jt (175:FuncId) (dT z))] (VT.dk (FN prog (175:FuncId) (dT z) (x6 z) (fun i0=>x9 z i0)::(∀i0<x6 z,List.length (x9 z i0)=Array.size (List.toArray [(11:Nat),(12:Nat)]))::dS z (∀(i0:Nat),x7 z (i0∈[]) i0)) (VT.cut (List Nat×Nat) (fun (i0:List Nat×Nat)=>(∀(i1:Nat),x7 z (i1∈(Prod.fst i0)) i1)/\Prod.snd i0<x6 z/\List.length (Prod.fst i0)<x6 z/\(∀(i1:Nat),(i1∈(Prod.fst i0))->i1<x6 z)) (VT.cut Unit (fun (i0:Unit)=> ∀(i0:Nat),x7 z (i0∈(List.range (x6 z))) i0) (VT.done []) (fun (i0:Unit)=>dU z false)) (fun (i0:List Nat×Nat)=>VT.dk (dM z (x2 z z.m z.m z.X' z.Y' i0) (DV.dt z.m [fun i0=>x1 (z.X' i0),fun i0=>x1 (z.Y' i0)]) i0::x8 z (x8 z (x8 z [x2 z z.m z.m z.X' z.Y' i0=true->dM z (x2 z z.n z.n z.X z.Y i0) (DV.dt z.n [fun i0=>x1 (z.X i0),fun i0=>x1 (z.Y i0)]) i0,ri (x2 z z.m z.m z.X' z.Y' i0=true)] i0) i0) i0) (VT.ite (if (x2 z z.m z.m z.X' z.Y' i0)=true then (x2 z z.n z.n z.X z.Y i0) else false) (dU z true) (VT.done (dS z (∀(i1:Nat),x7 z (i1∈((Prod.fst i0)++[Prod.snd i0])) i1)))))))
end
end ww
open ww in
theorem Uh (n:Nat) (X Y:Nat->Int) (m:Nat) (X' Y':Nat->Int) (hn:0<n) (jO:n<=800) (hX:kd n X) (hY:kd n Y) (hm:0<m) (SQ:m<=800) (O9:kd m X') (S7:kd m Y'):dv prog 108 [my n X Y,my m X' Y'] (dB (AO n X Y m X' Y')):=by
 refine dm dJ (IH n X Y m X' Y') (V:=xt ⟨n,X,Y,m,X',Y'⟩) (by kernel_rfl) ?_
 simp only [xt,x0,x1,x2,x3,x4,x5,x6,x7,x8,x9,dM,dQ,dS,dT,dU,Rf,VT.holds,dC,Sq]
 rw [zl]
 refine ⟨⟨ae _,RC n X Y m X' Y' jO SQ⟩,⟨HI n X Y m X' Y' jO hX hY SQ O9 S7,fun _ _=>rfl,fun k hk=>by cases hk⟩,fun _ h=> ?_,fun i ⟨h1,h2,h3,h4⟩=>⟨⟨Mv m X' Y' _ _ hm SQ O9 S7,fun _=>Mv n X Y _ _ hn jO hX hY⟩,fun h=> ?_,fun h k hk=> ?_⟩⟩
 ·rw [bX,AO,bj,ah]
  exact fun k hk=>h k (bg.2 hk)
 ·rw [bX,AO,aM,aj]
  intro fp
  have:=fp i.2 h2
  simp [E2,h.1,h.2] at this
 ·rcases aO.1 hk with hk|hk
  ·exact h1 k hk
  ·rw [au.1 hk,E2]
   cases ha:kg m X' Y' (jJ n X Y m X' Y' i.2).1 (jJ n X Y m X' Y' i.2).2 m with
   |false=>rfl
   |true=>rw [h ha];rfl
end Go.Abs
end
