/- Contracts and what they stand on. -/
import Derived.TacticsIn
import Derived.Test.YtoinjphpfpklmaaGreatDoorKm
import Derived.RangeFuncBox
import Derived.OwnWalkIn
import Derived.TacticsInMore
import Derived.LoopIn
set_option linter.unusedVariables false
set_option linter.unusedSimpArgs false
section
namespace Go.Abs
open Go Go.RowKit
def A4 (ops:List Oper):Bool:=(List.range ops.length).all fun j=>match ops[j]? with
 |some o=>o.after.toList.all fun e=> !Region.binds .any e||decide (e.on<j)
 |none=>true
def La (ops:List Oper) (m:Nat):Bool:=(List.range m).all fun i=>(List.range (m+1)).any fun j=>decide (i<j)&&match ops[j]? with
 |some o=>o.after.toList.any fun e=>Region.binds .any e&&decide (e.on=i)
 |none=>false
def Bf (ops:List Oper) (m:Nat):Bool:=(List.range ops.length).all fun j=>decide (j<=m)||match ops[j]? with
 |some o=>o.after.toList.any fun e=>Region.binds .any e&&decide (e.on=j - 1)
 |none=>false
def Al (ops:List Oper) (m:Nat):Bool:=(ops.take m).all fun o=>o.guard.isNone
theorem mY {ops:Array Oper} (h:A4 ops.toList=true) {j:Nat} {o:Oper} (ho:ops[j]? =some o): ∀e∈o.after,Region.binds .any e=true->e.on<j:=by
 intro e he hb
 have hj:j<ops.toList.length:=by simpa using (aJ.1 ho).1
 have h1:=bV.1 h j (a8.2 hj)
 have oQ:ops.toList[j]? =some o:=by simpa using ho
 simp only [oQ] at h1
 have h2:=bV.1 h1 e (by simpa using he)
 simpa [hb] using h2
theorem JB {ops:Array Oper} {m:Nat} (h:La ops.toList m=true) {i:Nat} (hi:i<m): ∃j o e,i<j/\j<=m/\ops[j]? =some o/\e∈o.after/\Region.binds .any e=true/\e.on=i:=by
 have h1:=bV.1 h i (a8.2 hi)
 obtain ⟨j,hj,h2⟩:=List.any_eq_true.1 h1
 rw [av,ai] at h2
 obtain ⟨h3,h4⟩:=h2
 cases ho:ops.toList[j]? with
 |none=>simp [ho] at h4
 |some o=>
  simp only [ho] at h4
  obtain ⟨e,he,h5⟩:=List.any_eq_true.1 h4
  rw [av,ai] at h5
  exact ⟨j,o,e,h3,by have:=a8.1 hj;omega,by simpa using ho,by simpa using he,h5.1,h5.2⟩
theorem yu {ops:Array Oper} {m:Nat} (h:Bf ops.toList m=true) {j:Nat} {o:Oper} (ho:ops[j]? =some o) (hj:m<j): ∃e∈o.after,Region.binds .any e=true/\e.on=j - 1:=by
 have hjs:j<ops.toList.length:=by simpa using (aJ.1 ho).1
 have h1:=bV.1 h j (a8.2 hjs)
 have oQ:ops.toList[j]? =some o:=by simpa using ho
 rw [cC,ai] at h1
 rcases h1 with h1|h1
 ·omega
 ·simp only [oQ] at h1
  obtain ⟨e,he,h5⟩:=List.any_eq_true.1 h1
  rw [av,ai] at h5
  exact ⟨e,by simpa using he,h5.1,h5.2⟩
theorem mem_ready {ops:Array Oper} {L:Array Bool} {i:Nat}:i∈Region.ready .any ops L↔ ∃o,ops[i]? =some o/\L.getD i true=false/\ ∀e∈o.after,Region.binds .any e=true->L.getD e.on false=true:=by
 unfold Region.ready
 rw [bR,a8]
 constructor
 ·rintro ⟨hi,h⟩
  have ho:ops[i]? =some ops[i]:=aD hi
  simp only [ho,aA,cK,av,bA] at h
  refine ⟨_,ho,h.1,fun e he hb=> ?_⟩
  have:=(bS.1 h.2) e he
  simpa [hb] using this
 ·rintro ⟨o,ho,h1,h2⟩
  refine ⟨(aJ.1 ho).1,?_⟩
  simp only [ho,aA,cK,av,bA]
  refine ⟨h1,bS.2 fun e he=> ?_⟩
  cases hb:Region.binds .any e with
  |false=>rfl
  |true=>simpa using h2 e he hb
theorem jA {L:Array Bool} {i:Nat} (h:i<L.size):L.getD i true=L.getD i false:=by
 simp [aC,h]
theorem Bn {ops:Array Oper} {L:Array Bool} (hd:A4 ops.toList=true) (hs:L.size=ops.size) (hr:Region.ready .any ops L=[]): ∀i,i<ops.size->L.getD i false=true:=by
 intro i
 induction i using Nat.strongRecOn with
 |_ i ih=>
  intro hi
  cases hl:L.getD i true with
  |true=>rw [<-jA (by omega)];exact hl
  |false=>
   exfalso
   have ho:ops[i]? =some ops[i]:=aD hi
   have:i∈Region.ready .any ops L:=mem_ready.2 ⟨_,ho,hl,fun e he hb=>ih e.on (mY hd ho e he hb) (by have:=mY hd ho e he hb;omega)⟩
   rw [hr] at this
   cases this
section
variable {F:Fence} {n:Nat} {P:Program} {ops pre:Array Oper} {Q:Exit->Act->World->Prop}
theorem R5 {m:Nat} (hd:A4 ops.toList=true) (hc:Bf ops.toList m=true): ∀(r p fuel:Nat) (L:Array Bool) (a:Act) (w:World),m<=p->p+r=ops.size->r<=fuel->L.size=ops.size->
 (∀i,i<ops.size->L.getD i false=decide (i<p))->wpOpsIn F n P ops Q (List.range' p r) a w->wpAnyIn F n P .any ops Q fuel L a w:=by
 intro r
 induction r with
 |zero=>
  intro p fuel L a w hp hs hf fq hL h
  have B2:Region.ready .any ops L=[]:=by
   apply List.eq_nil_iff_forall_not_mem.2
   intro i hi
   obtain ⟨o,ho,h1,_⟩:=mem_ready.1 hi
   have pH:=(aJ.1 ho).1
   rw [jA (by omega),hL i pH,an] at h1
   omega
  have hQ:Q .normal a w:=by simpa [wpOpsIn] using h
  cases fuel with
  |zero=>exact ⟨B2,hQ⟩
  |succ f=>exact ⟨fun _=>hQ,fun i hi=>by rw [B2] at hi;cases hi⟩
 |succ r ih=>
  intro p fuel L a w hp hs hf fq hL h
  cases fuel with
  |zero=>omega
  |succ f=>
   have DC:p<ops.size:=by omega
   have ho:ops[p]? =some ops[p]:=aD DC
   have B3:p∈Region.ready .any ops L:=mem_ready.2 ⟨_,ho,by rw [jA (by omega),hL p DC];simp,fun e he hb=>by
    have:=mY hd ho e he hb
    rw [hL _ (by omega),ai];exact this⟩
   refine ⟨fun hn=>(by rw [hn] at B3;cases B3),fun i hi=> ?_⟩
   obtain ⟨o,hoi,h1,h2⟩:=mem_ready.1 hi
   have his:=(aJ.1 hoi).1
   rw [jA (by omega),hL i his,an] at h1
   have hip:i=p:=by
    rcases aU p i with dK|iy
    ·exfalso
     obtain ⟨e,he,hb,heq⟩:=yu hc hoi (by omega)
     have:=h2 e he hb
     rw [hL _ (by omega),ai] at this
     omega
    ·omega
   subst hip
   rw [List.range'_succ,wpOpsIn_cons] at h
   refine wpOpIn_mono (fun a' w' h'=>ih (i+1) f _ a' w' (by omega) (by omega) (by omega) (by simpa using fq) (fun k hk=> ?_) h') h
   rw [aC,bo]
   by_cases e:i=k
   ·subst e
    rw [ah rfl,ah (by omega),bk (by omega)];rfl
   ·have:=hL k hk
    rw [aC] at this
    rw [ae e,this,cH]
    omega
def Lf (F:Fence) (n:Nat) (P:Program) (ops:Array Oper) (Q:Exit->Act->World->Prop) (m r:Nat):Exit->Act->World->Prop
 |.normal,a,w=>wpOpsIn F n P ops Q (List.range' m r) a w
 |e,a,w=>Q e a w
theorem Jw {m r:Nat} {o:Oper} {a:Act} {w:World} {K:Act->World->Prop} (h:o.wpIn F n P a w K (Lf F n P ops Q m r)):o.wpIn F n P a w K Q:=by
 unfold Oper.wpIn at*
 refine ⟨h.1,?_⟩
 have hh:=h.2
 generalize (o.semAt F.round a.eval).run P w=res at*
 have lo:LetsOut (Lf F n P ops Q m r)->LetsOut Q:=fun ⟨a,w,q⟩=>⟨a,w,q⟩
 cases res with
 |ok x w'=>
  cases x<;>simp only [Oper.uponIn] at hh ⊢<;>
   first
    |exact hh
    |exact ⟨hh.1,CallsIn.mono hh.2 (fun e ZZ he=>by cases e<;>first|exact he|exact lo he)⟩
    |exact ⟨hh.1,RoundIn.mono hh.2 (fun e ZZ he=>by cases e<;>first|exact he|exact lo he)⟩
 |halt x w'=>cases x<;>simp only [Oper.uponIn] at hh ⊢<;>exact hh
theorem NS {tl:List Oper} (Nj:ops.toList=pre.toList++tl) (hd:A4 ops.toList=true) (hu:La ops.toList pre.size=true) (hc:Bf ops.toList pre.size=true) (hg:Al ops.toList pre.size=true) (htl:tl≠[]):
 ∀(f:Nat) (L L':Array Bool) (a:Act) (w:World),L.size=pre.size->L'.size=ops.size->(∀i,i<pre.size->L'.getD i false=L.getD i false)->(∀i,pre.size<=i->i<ops.size->L'.getD i false=false)->
  (∀j o,pre[j]? =some o->L.getD j false=true-> ∀e∈o.after,Region.binds .any e=true->L.getD e.on false=true)->
  wpAnyIn F n P .any pre (Lf F n P ops Q pre.size tl.length) f L a w->wpAnyIn F n P .any ops Q (f+tl.length) L' a w:=by
 have fq:ops.size=pre.size+tl.length:=by
  have:=congrArg List.length Nj
  simpa using this
 have jq: ∀i,i<pre.size->ops[i]? =pre[i]? :=fun i hi=>by
  have:=congrArg (fun l:List Oper=>l[i]?) Nj
  simp only [bt] at this
  rw [this,aM (by simpa using hi),bt]
 have hdp:A4 pre.toList=true:=by
  refine bV.2 fun j hj=> ?_
  have xx:j<pre.size:=by simpa using hj
  have h1:=bV.1 hd j (a8.2 (by simp;omega))
  rw [bt] at h1 ⊢
  rw [jq j xx] at h1
  exact h1
 have hgn: ∀i o,i<pre.size->ops[i]? =some o->o.guard=none:=fun i o hi ho=>by
  have hm:o∈ops.toList.take pre.size:=by
   refine aG (i:=i) ?_
   rw [bG,ah hi];simpa using ho
  have:=bV.1 hg o hm
  simpa using this
 -- the ones of the tail wait for all others
 have wait: ∀(L L':Array Bool),L.size=pre.size->L'.size=ops.size->(∀i,i<pre.size->L'.getD i false=L.getD i false)->(∀i,pre.size<=i->i<ops.size->L'.getD i false=false)->
  (∀j o,pre[j]? =some o->L.getD j false=true-> ∀e∈o.after,Region.binds .any e=true->L.getD e.on false=true)->
  ∀i,i∈Region.ready .any ops L'->pre.size<=i-> ∀k,k<pre.size->L.getD k false=true:=by
  intro L L' hL V3 oO vA jg i hi iy
  obtain ⟨o,ho,_,h2⟩:=mem_ready.1 hi
  have his:=(aJ.1 ho).1
  have YV:i=pre.size:=by
   rcases aU pre.size i with dK|hge'
   ·exfalso
    obtain ⟨e,he,hb,heq⟩:=yu hc ho dK
    have:=h2 e he hb
    rw [vA _ (by omega) (by omega)] at this
    cases this
   ·omega
  subst YV
  intro k hk
  generalize hq:pre.size - k=q
  induction q using Nat.strongRecOn generalizing k with
  |_ q ih=>
   obtain ⟨j,oj,e,h3,h4,h5,h6,h7,h8⟩:=JB hu hk
   rcases aU j pre.size with hj|hj
   ·have:=jg j oj (by rw [<-jq j hj];exact h5) (ih (pre.size - j) (by omega) j hj rfl) e h6 h7
    rw [h8] at this;exact this
   ·have hje:j=pre.size:=by omega
    rw [hje,ho] at h5
    cases h5
    have:=h2 e h6 h7
    rw [h8,oO k hk] at this
    exact this
 -- all of the others are listed
 have done: ∀(f:Nat) (L L':Array Bool) (a:Act) (w:World),L.size=pre.size->L'.size=ops.size->(∀i,i<pre.size->L'.getD i false=L.getD i false)->(∀i,pre.size<=i->i<ops.size->L'.getD i false=false)->
  (∀k,k<pre.size->L.getD k false=true)->Lf F n P ops Q pre.size tl.length .normal a w->wpAnyIn F n P .any ops Q (f+tl.length) L' a w:=by
  intro f L L' a w hL V3 oO vA fh hT
  refine R5 hd hc tl.length pre.size _ L' a w (af _) (by omega) (by omega) V3 (fun i hi=> ?_) hT
  rcases aU i pre.size with h|h
  ·rw [oO i h,fh i h,bk h]
  ·rw [vA i h hi,bg (by omega)]
 intro f
 induction f with
 |zero=>
  intro L L' a w hL V3 oO vA jg h
  exact done 0 L L' a w hL V3 oO vA (Bn hdp hL h.1) h.2
 |succ f ih=>
  intro L L' a w hL V3 oO vA jg h
  obtain ⟨h0,h1⟩:=h
  by_cases hr:Region.ready .any pre L=[]
  ·exact done (f+1) L L' a w hL V3 oO vA (Bn hdp hL hr) (h0 hr)
  ·have Yn: ¬ ∀k,k<pre.size->L.getD k false=true:=fun fh=>by
    obtain ⟨k,hk⟩:=List.exists_mem_of_ne_nil _ hr
    obtain ⟨o,ho,h3,_⟩:=mem_ready.1 hk
    have YS:=(aJ.1 ho).1
    rw [jA (by omega),fh k YS] at h3
    cases h3
   have hlen:0<tl.length:=List.length_pos_iff.2 htl
   rw [show f+1+tl.length=(f+tl.length)+1 by omega]
   have YF: ∀i,i∈Region.ready .any ops L'->i<pre.size/\i∈Region.ready .any pre L:=fun i hi=>by
    rcases aU i pre.size with dK|iy
    ·refine ⟨dK,?_⟩
     obtain ⟨o,ho,h3,h4⟩:=mem_ready.1 hi
     rw [jA (by omega),oO i dK,<-jA (by omega)] at h3
     refine mem_ready.2 ⟨o,by rw [<-jq i dK];exact ho,h3,fun e he hb=> ?_⟩
     have:=h4 e he hb
     rw [oO _ (by have:=mY hd ho e he hb;omega)] at this
     exact this
    ·exact absurd (wait L L' hL V3 oO vA jg i hi iy) Yn
   refine ⟨fun hn=> ?_,fun i hi=> ?_⟩
   ·exfalso
    obtain ⟨k,hk⟩:=List.exists_mem_of_ne_nil _ hr
    obtain ⟨o,ho,h3,h4⟩:=mem_ready.1 hk
    have YS:=(aJ.1 ho).1
    have:k∈Region.ready .any ops L':=mem_ready.2 ⟨o,by rw [jq k YS];exact ho,by rw [jA (by omega),oO k YS,<-jA (by omega)];exact h3,fun e he hb=>by
     rw [oO _ (by have:=mY hdp ho e he hb;omega)];exact h4 e he hb⟩
    rw [hn] at this
    cases this
   ·obtain ⟨dK,hip⟩:=YF i hi
    have h5:=h1 i hip
    obtain ⟨o,ho,_,h4⟩:=mem_ready.1 hip
    have oQ:ops[i]? =some o:=by rw [jq i dK];exact ho
    have hgo:=hgn i o dK oQ
    unfold wpOpIn at h5 ⊢
    simp only [ho,oQ,Region.wanted,hgo,bn] at h5 ⊢
    refine Oper.wpIn_mono (fun a' w' h'=>ih (L.setIfInBounds i true) (L'.setIfInBounds i true) a' w' (by simpa using hL) (by simpa using V3) (fun k hk=> ?_) (fun k wJ qz=> ?_) (fun j oj T6 hj e he hb=> ?_) h') (Jw h5)
    ·have:=oO k hk
     simp only [aC,bo] at this ⊢
     by_cases e:i=k
     ·subst e
      rw [ah rfl,ah rfl,ah (by omega),ah (by omega)]
     ·rw [ae e,ae e];exact this
    ·have:=vA k wJ qz
     simp only [aC,bo] at this ⊢
     rw [ae (by omega)];exact this
    ·have mono: ∀k,L.getD k false=true->(L.setIfInBounds i true).getD k false=true:=fun k hk=>by
      simp only [aC,bo] at hk ⊢
      by_cases e:i=k
      ·subst e;rw [ah rfl,ah (by omega)];rfl
      ·rw [ae e];exact hk
     by_cases e':j=i
     ·subst e'
      rw [ho] at T6
      cases T6
      exact mono _ (h4 e he hb)
     ·refine mono _ (jg j oj T6 ?_ e he hb)
      simp only [aC,bo] at hj ⊢
      rw [ae (fun h=>e' h.symm)] at hj
      exact hj
end
def isV:Op->Bool
 |.move _| .load _ _| .binOp .. | .unOp .. | .indexAddr .. | .fieldAddr .. | .index .. | .field .. | .extract .. =>true
 |_=>false
theorem vRun {P:Program} {s:Sem Value} {w w':World} {x:Next} (h:(do pure (Next.value (<-s)):Sem Next).run P w= .ok x w'): ∃v,x= .value v:=by
 rw [Sem.run_bind] at h
 cases hs:s.run P w with
 |ok v w1=>
  rw [hs] at h
  cases h;exact ⟨_,rfl⟩
 |halt y w1=>rw [hs] at h;cases h
theorem put_defers (a:Act) (d:Option Tmp) (v:Value):(a.put d v).defers=a.defers:=by cases d<;>rfl
theorem Nd {P:Program} {ro:Option Nat} {ρ:Operand->Value} {o:Oper} {w w':World} {x:Next} (hv:isV o.op=true) (h:(o.semAt ro ρ).run P w= .ok x w'): ∃v,x= .value v:=by
 rw [Oper.semAt_eq ro ρ o (fun c e=>by rw [e] at hv;cases hv)] at h
 unfold execOp at h
 cases ho:o.op<;>simp only [ho,isV,bB] at hv h<;>first|exact vRun h|skip
 exact ⟨_,by cases h;rfl⟩
theorem KL {F:Fence} {n:Nat} {P:Program} {md:Region.Mode} {pre:Array Oper} {Q:Exit->Act->World->Prop} {I:Act->Prop} (hv: ∀o∈pre.toList,isV o.op=true) (hI: ∀a o v,o∈pre.toList->I a->I (a.put o.dst v)):
 ∀(f:Nat) (L:Array Bool) (a:Act) (w:World),I a->wpAnyIn F n P md pre Q f L a w->wpAnyIn F n P md pre (fun e a' w'=>(e= .normal->I a')/\Q e a' w') f L a w:=by
 intro f
 induction f with
 |zero=>exact fun L a w hd h=>⟨h.1,fun _=>hd,h.2⟩
 |succ f ih=>
  intro L a w hd h
  refine ⟨fun hr=>⟨fun _=>hd,h.1 hr⟩,fun i hi=> ?_⟩
  have h1:=h.2 i hi
  unfold wpOpIn at h1 ⊢
  split
  ·rename_i ho
   simp only [ho] at h1
   exact ih _ _ _ hd h1
  ·rename_i o ho
   simp only [ho] at h1
   have Ub:o∈pre.toList:=by rw [bJ];exact b9 ho
   have hov:=hv o Ub
   split
   ·rename_i hw
    rw [ah hw] at h1
    unfold Oper.wpIn at h1 ⊢
    refine ⟨h1.1,?_⟩
    have h2:=h1.2
    generalize kO:(o.semAt F.round a.eval).run P w=res at h2
    cases res with
    |ok x w'=>
     obtain ⟨v,rfl⟩:=Nd hov kO
     simp only [Oper.uponIn] at h2 ⊢
     exact ih _ _ _ (hI _ _ _ Ub hd) h2
    |halt x w'=>
     cases x<;>simp only [Oper.uponIn] at h2 ⊢
     exact ⟨fun h=>(by cases h),h2⟩
   ·rename_i hw
    rw [ae hw] at h1
    exact ⟨h1.1,ih _ _ _ (hI _ _ _ Ub hd) h1.2⟩
theorem Jy {F:Fence} {n:Nat} {P:Program} {o:Oper} {a:Act} {w:World} {K:Act->World->Prop} {Q Q':Exit->Act->World->Prop} (hq: ∀e a w,Q e a w->Q' e a w) (h:o.wpIn F n P a w K Q):o.wpIn F n P a w K Q':=by
 unfold Oper.wpIn at*
 refine ⟨h.1,?_⟩
 have hh:=h.2
 generalize (o.semAt F.round a.eval).run P w=res at*
 have lo:LetsOut Q->LetsOut Q':=fun ⟨a,w,q⟩=>⟨a,w,hq _ _ _ q⟩
 cases res with
 |ok x w'=>
  cases x<;>simp only [Oper.uponIn] at hh ⊢<;>
   first
    |exact hh
    |exact ⟨hh.1,CallsIn.mono hh.2 (fun e ZZ he=>by cases e<;>first|exact he|exact lo he|exact hq _ _ _ he)⟩
    |exact ⟨hh.1,RoundIn.mono hh.2 (fun e ZZ he=>by cases e<;>first|exact he|exact lo he|exact hq _ _ _ he)⟩
 |halt x w'=>cases x<;>simp only [Oper.uponIn] at hh ⊢<;>first|exact hh|exact hq _ _ _ hh
theorem R6 {F:Fence} {n:Nat} {P:Program} {md:Region.Mode} {ops:Array Oper} {Q Q':Exit->Act->World->Prop} (hq: ∀e a w,Q e a w->Q' e a w):
 ∀(f:Nat) (L:Array Bool) (a:Act) (w:World),wpAnyIn F n P md ops Q f L a w->wpAnyIn F n P md ops Q' f L a w:=by
 intro f
 induction f with
 |zero=>exact fun L a w h=>⟨h.1,hq _ _ _ h.2⟩
 |succ f ih=>
  intro L a w h
  refine ⟨fun hr=>hq _ _ _ (h.1 hr),fun i hi=> ?_⟩
  have h1:=h.2 i hi
  unfold wpOpIn at h1 ⊢
  split
  ·rename_i ho
   simp only [ho] at h1
   exact ih _ _ _ h1
  ·rename_i o ho
   simp only [ho] at h1
   split
   ·rename_i hw
    rw [ah hw] at h1
    exact Jy hq (Oper.wpIn_mono (fun a' w'=>ih _ a' w') h1)
   ·rename_i hw
    rw [ae hw] at h1
    exact ⟨h1.1,ih _ _ _ h1.2⟩
section
variable {P:Program} {ro:Option Nat} {m:Nat} {ops pre:Array Oper} {dq:List (Nat×fE)} {base:Nat} {w0:World} {S0:Env} {Q:Exit->Act->World->Prop}
theorem s9 {tl:List Oper} {σ:St} {a:Act} {w:World} {id:Nat} (hm:P.follows .mixedOrders=true) (Nj:ops.toList=pre.toList++tl) (hb:(A4 ops.toList&&(La ops.toList pre.size&&(Bf ops.toList pre.size&&Al ops.toList pre.size)))=true) (htl:tl≠[])
 (h:Fits base w0 S0 σ a w) (dg:dp (fi P pre dq σ).2) (mU:xK P pre dq σ=true)
 (Ji:(pre.toList.all fun o=>isV o.op)=true)
 (hQ: ∀a' w',a'.defers=a.defers->(∀t,(pre.toList.all fun o=>o.dst !=some t)=true->a'.tmps.getD t undef=a.tmps.getD t undef)->Fits base w0 S0 (fi P pre dq σ).1 a' w'->wpListIn (FW ro) m P ops Q tl a' w'):(Code.region id ops true).wpIn (FW ro) m P Q a w:=by
 simp only [av] at hb
 obtain ⟨h1,h2,h3,h4⟩:=hb
 refine wpIn_region_any hm ?_
 have fq:ops.size=pre.size+tl.length:=by
  have:=congrArg List.length Nj
  simpa using this
 have rep: ∀(k i:Nat),(Array.replicate k false).getD i false=false:=fun k i=>by
  simp only [aC,Array.getElem?_replicate]
  split<;>rfl
 rw [show wpAnyIn (FW ro) m P .any ops Q ops.size=wpAnyIn (FW ro) m P .any ops Q (pre.size+tl.length) by rw [fq]]
 refine NS Nj h1 h2 h3 h4 htl pre.size (Array.replicate pre.size false) (Array.replicate ops.size false) a _ (by simp) (by simp) (fun i _=>by rw [rep,rep]) (fun i _ _=>rep _ _) (fun j o _ hj=>by rw [rep] at hj;cases hj) ?_
 have h5:=pY (ro:=ro) (m:=m) (Q:=fun e a' w'=>match e with| .normal=>Fits base w0 S0 (fi P pre dq σ).1 a' w'|_=>False) h dg mU fun _ _ h=>h
 have h6:=KL (I:=fun a'=>a'.defers=a.defers/\ ∀t,(pre.toList.all fun o=>o.dst !=some t)=true->a'.tmps.getD t undef=a.tmps.getD t undef) (fun o ho=>bV.1 Ji o ho)
  (fun a1 o v ho ⟨i1,i2⟩=>⟨by rw [put_defers];exact i1,fun t ht=>(by
    rw [<-i2 t ht]
    have:=bV.1 ht o ho
    have nj:o.dst≠some t:=by simpa using this
    cases hd:o.dst with
    |none=>rfl
    |some d=>
     have hdt:d≠t:=fun e=>nj (by rw [hd,e])
     simp only [Act.put,aC,bo,ae hdt])⟩) _ _ a _ ⟨rfl,fun _ _=>rfl⟩ h5
 exact R6 (fun e a' w' ⟨x,y⟩=>by
  cases e<;>simp only at y
  have h7:=hQ a' w' (x rfl).1 (x rfl).2 y
  rw [<-wpOpsIn_eq_wpListIn tl pre.size (fun j=>by
   have:=congrArg (fun l:List Oper=>l[pre.size+j]?) Nj
   simp only [bt] at this
   rw [this,a7 (by simp)]
   simp)] at h7
  exact h7) _ _ _ _ h6
theorem xc (k:Nat) {σ:St} {a:Act} {w:World} {id:Nat} (hm:P.follows .mixedOrders=true)
 (hb:(A4 ops.toList&&(La ops.toList (List.take k ops.toList).toArray.size&&(Bf ops.toList (List.take k ops.toList).toArray.size&&Al ops.toList (List.take k ops.toList).toArray.size)))=true) (htl:(List.drop k ops.toList).isEmpty=false)
 (mU:xK P (List.take k ops.toList).toArray dq σ=true) (Ji:((List.take k ops.toList).all fun o=>isV o.op)=true)
 (h:Fits base w0 S0 σ a w) (dg:dp (fi P (List.take k ops.toList).toArray dq σ).2)
 (hQ: ∀a' w',a'.defers=a.defers->(∀t,((List.take k ops.toList).all fun o=>o.dst !=some t)=true->a'.tmps.getD t undef=a.tmps.getD t undef)->Fits base w0 S0 (fi P (List.take k ops.toList).toArray dq σ).1 a' w'->wpListIn (FW ro) m P ops Q (List.drop k ops.toList) a' w'):(Code.region id ops true).wpIn (FW ro) m P Q a w:=
 s9 hm (by simp) hb (fun e=>by rw [e] at htl;cases htl) h dg mU (by simpa using Ji) (fun a' w' h1 h2 h3=>hQ a' w' h1 (fun t ht=>h2 t (by simpa using ht)) h3)
theorem KO {l l':List Prop} (h:l=l') (hp:dp l'):dp l:=h▸hp
theorem R.Ef {σ:St} {kn:Nat->Prop} {c9:Nat->Option Loc} {a:Act} {w:World} {t:Nat} {v:Value} (r:R base w0 S0 σ kn c9 a w) (h:σ.get t= .val v):a.tmps.getD t undef=v:=by
 have:=r.tmps t
 rw [h] at this
 exact this.lO
theorem Kq {σ:St} {a:Act} {w:World} (hd:a.defers=[]) (hs:a.tmps.size=σ.nt) (hh:σ.h=[]) (lS:σ.lo=0) (ht: ∀t,du (iJ w w.heap.size) (σ.get t) (a.tmps.getD t undef)) (VV:ju (iJ w w.heap.size)):
 Fits w.heap.size w ⟨fun _=>True,[],w,none,fun _=>False,fun _=>undef⟩ σ a w:=by
 have ho: ∀id,σ.obj id=none:=fun id=>by unfold St.obj;rw [hh];rfl
 refine ⟨fun _=>False,fun _=>none,⟨iR.refl _ _ _,(fun _ h=>h.elim),af _,⟨(by rw [hd];exact ⟨List.nodup_nil,fun _=>rfl⟩),fun d h=>(by rw [hd] at h;cases h)⟩,⟨af _,(fun B h=>by cases h),fun _ _ h _ _=>h⟩,(fun h=>absurd rfl h),(fun B h=>by cases h),fun d v h=>((VV d v (by simpa using h)).mono (fun a u h=>⟨h.1,(fun _ _ e=>by cases e),.inl trivial,fun B h=>by cases h⟩) (fun _ h=>h) fun _ _ h=>h.elim),hs,fun t=> ?_,(fun id o h=>by rw [ho] at h;cases h),(fun _ _ _ _ _ h=>by cases h),(fun _ _ _ h=>by cases h),(fun _ _ h=>by cases h),fun t ht=>by rw [lS] at ht;exact absurd ht (aF t)⟩,fun _ h=>h.elim⟩
 exact (ht t).mono (fun a u h=>⟨h.1,(fun _ _ e=>by cases e),.inl trivial,fun B h=>by cases h⟩) (fun _ h=>h) fun _ _ h=>h.elim
end
end Go.Abs
end
section
set_option maxRecDepth 100000
namespace Go.Abs
open Go Go.RowKit
attribute [local go_sem] Oper.semAt_some
theorem lK {w:World} {N0 n:Nat} {A:Nat->Int} {v:Value} (h:du (iJ w N0) (.dN [nums n A]) v):
 ∃a s c,v= .pointer (some a)/\w.cell? a=some (.slice s n c)/\n<=c/\ ∀k,k<n-> ∃b,s=some b/\w.cell? (b.add k)=some (.int .i64 (A k)):=by
 cases h with
 |dN U ha jR h=>
  rename_i a
  have h0:=h 0 _ rfl
  have a0:=oE (ha 0 _ rfl).1 (jR 0 _ rfl)
  rw [Addr.add,ah rfl] at a0
  generalize e:U 0=u at h0 a0
  cases h0 with
  |di V hc hb hn ho hr=>
   rename_i s c
   refine ⟨a,s,c,rfl,a0,hc,fun k hk=> ?_⟩
   obtain ⟨b,qx,hU⟩:=hb k 0 _ hk rfl
   have hU:=oE hU.1 (ho k 0 _ hk rfl)
   refine ⟨b,qx,?_⟩
   have hv:=hr k 0 _ hk rfl
   generalize e2:V k 0=x at hU hv
   cases hv
   simpa using hU
def J5 (M:Nat) (A B:Nat->Int) (k:Nat):Int×Int:=(A (k/M)+A (k/M+1),B (k%M)+B (k%M+1))
theorem Qb {M:Nat} (A B:Nat->Int) {a b:Nat} (hb:b<M):J5 M A B (M*a+b)=(A a+A (a+1),B b+B (b+1)):=by
 have h1:(M*a+b)/M=a:=by rw [Nat.mul_add_div (by omega),Nat.div_eq_of_lt hb,bU]
 have h2:(M*a+b)%M=b:=by rw [Nat.mul_add_mod,cG hb]
 simp only [J5,h1,h2]
theorem vX {a b P M:Nat} (ha:a<P) (hb:b<M):M*a+b<M*P:=by
 have:M*(a+1)<=M*P:=Nat.mul_le_mul_left _ ha
 rw [Nat.mul_add,Nat.mul_one] at this
 omega
theorem Yt (l:List Value) (h:l.length=41): ∃u0 u1 u2 u3 u4 u5 u6 u7 u8 u9 u10 u11 u12 u13 u14 u15 u16 u17 u18 u19 u20 u21 u22 u23 u24 u25 u26 u27 u28 u29 u30 u31 u32 u33 u34 u35 u36 u37 u38 u39 u40,l=[u0,u1,u2,u3,u4,u5,u6,u7,u8,u9,u10,u11,u12,u13,u14,u15,u16,u17,u18,u19,u20,u21,u22,u23,u24,u25,u26,u27,u28,u29,u30,u31,u32,u33,u34,u35,u36,u37,u38,u39,u40]:=by
 have ex: ∀(n:Nat) (l:List Value),l.length=n+1-> ∃u r,l=u::r/\r.length=n:=fun n l h=>by
  cases l with
  |nil=>cases h
  |cons u r=>exact ⟨u,r,rfl,by simpa using h⟩
 obtain ⟨u0,l0,e0,h0⟩:=ex 40 l h
 obtain ⟨u1,l1,e1,h1⟩:=ex 39 l0 h0
 obtain ⟨u2,l2,e2,h2⟩:=ex 38 l1 h1
 obtain ⟨u3,l3,e3,h3⟩:=ex 37 l2 h2
 obtain ⟨u4,l4,e4,h4⟩:=ex 36 l3 h3
 obtain ⟨u5,l5,e5,h5⟩:=ex 35 l4 h4
 obtain ⟨u6,l6,e6,h6⟩:=ex 34 l5 h5
 obtain ⟨u7,l7,e7,h7⟩:=ex 33 l6 h6
 obtain ⟨u8,l8,e8,h8⟩:=ex 32 l7 h7
 obtain ⟨u9,l9,e9,h9⟩:=ex 31 l8 h8
 obtain ⟨u10,l10,Zs,h10⟩:=ex 30 l9 h9
 obtain ⟨u11,l11,Zr,h11⟩:=ex 29 l10 h10
 obtain ⟨u12,l12,Zq,h12⟩:=ex 28 l11 h11
 obtain ⟨u13,l13,Zp,h13⟩:=ex 27 l12 h12
 obtain ⟨u14,l14,Zo,h14⟩:=ex 26 l13 h13
 obtain ⟨u15,l15,Zn,h15⟩:=ex 25 l14 h14
 obtain ⟨u16,l16,Zm,h16⟩:=ex 24 l15 h15
 obtain ⟨u17,l17,Zl,h17⟩:=ex 23 l16 h16
 obtain ⟨u18,l18,e18,h18⟩:=ex 22 l17 h17
 obtain ⟨u19,l19,e19,h19⟩:=ex 21 l18 h18
 obtain ⟨u20,l20,e20,h20⟩:=ex 20 l19 h19
 obtain ⟨u21,l21,e21,h21⟩:=ex 19 l20 h20
 obtain ⟨u22,l22,e22,h22⟩:=ex 18 l21 h21
 obtain ⟨u23,l23,e23,h23⟩:=ex 17 l22 h22
 obtain ⟨u24,l24,e24,h24⟩:=ex 16 l23 h23
 obtain ⟨u25,l25,e25,h25⟩:=ex 15 l24 h24
 obtain ⟨u26,l26,e26,h26⟩:=ex 14 l25 h25
 obtain ⟨u27,l27,e27,h27⟩:=ex 13 l26 h26
 obtain ⟨u28,l28,e28,h28⟩:=ex 12 l27 h27
 obtain ⟨u29,l29,e29,h29⟩:=ex 11 l28 h28
 obtain ⟨u30,l30,e30,h30⟩:=ex 10 l29 h29
 obtain ⟨u31,l31,e31,h31⟩:=ex 9 l30 h30
 obtain ⟨u32,l32,e32,h32⟩:=ex 8 l31 h31
 obtain ⟨u33,l33,e33,h33⟩:=ex 7 l32 h32
 obtain ⟨u34,l34,e34,h34⟩:=ex 6 l33 h33
 obtain ⟨u35,l35,e35,h35⟩:=ex 5 l34 h34
 obtain ⟨u36,l36,e36,h36⟩:=ex 4 l35 h35
 obtain ⟨u37,l37,e37,h37⟩:=ex 3 l36 h36
 obtain ⟨u38,l38,e38,h38⟩:=ex 2 l37 h37
 obtain ⟨u39,l39,Zk,h39⟩:=ex 1 l38 h38
 obtain ⟨u40,l40,Zj,h40⟩:=ex 0 l39 h39
 have e41:=List.length_eq_zero_iff.1 h40
 subst e41 Zj Zk e38 e37 e36 e35 e34 e33 e32 e31 e30 e29 e28 e27 e26 e25 e24 e23 e22 e21 e20 e19 e18 Zl Zm Zn Zo Zp Zq Zr Zs e9 e8 e7 e6 e5 e4 e3 e2 e1 e0
 exact ⟨u0,u1,u2,u3,u4,u5,u6,u7,u8,u9,u10,u11,u12,u13,u14,u15,u16,u17,u18,u19,u20,u21,u22,u23,u24,u25,u26,u27,u28,u29,u30,u31,u32,u33,u34,u35,u36,u37,u38,u39,u40,rfl⟩
theorem Aw {w:World} {g:Nat} (h:jV w g):g<w.heap.size:=by obtain ⟨o,h,_⟩:=h;exact dY h
theorem oF {w w':World} {N0:Nat} (hb: ∀k,k<w.heap.size->w'.heap[k]? =w.heap[k]?) (a:Addr) (u:Value) (h:iJ w N0 a u):iJ w' N0 a u:=
 ⟨xe (hb a.block (gE h.1)) h.1,fun ⟨o,e,h3⟩=>h.2 ⟨o,by rw [<-hb a.block (gE h.1)];exact e,h3⟩⟩
theorem uJ {w:World} {N0:Nat} (a:Addr) (u:Value) (h:iJ w N0 a u):iJ w w.heap.size a u:=⟨h.1,Aw⟩
set_option maxHeartbeats 4000000 in
theorem RT (N0 nx ny:Nat) (hx:nx<=1000000) (hy:ny<=1000000) (A B:Nat->Int) (hA: ∀i,i<nx-> -2000000<=A i/\A i<=2000000) (hB: ∀i,i<ny-> -2000000<=B i/\B i<=2000000) (m l:Nat) (lb:Array Value) (J Jx:List { x:Nat//x<(ny - 1)*(nx - 1) }->World->Prop) (W:World)
 (hab:AbidesFrom W.heap.size J) (B4:lb.size=2) (hr: ∀(j:Nat) (d:DV) (v:Value),[DV.dN [nums nx A],DV.dN [nums ny B]][j]? =some d->lb[j]? =some v->du (iJ W N0) d v) (hg:ju (iJ W N0))
 (hY: ∀pre x W1,J pre W1->pre.length<(ny - 1)*(nx - 1)->YieldAt Fence.wide (m - 1) prog l #[.int .i64 (J5 (ny - 1) A B x.1).1,.int .i64 (J5 (ny - 1) A B x.1).2] W1 fun e W'=>
   (e= .returned (.bool true)/\J (pre++[x]) W'/\ZS [.dN [nums nx A],.dN [nums ny B]] lb N0 W1 W')\/(e= .returned (.bool false)/\Jx (pre++[x]) W'))
 (h0:J [] W):
 CallsIn Fence.wide m prog 175 (#[.func (.yield l) #[] #[]]++lb) W fun e W'=>(∃v,e= .returned v)/\((∃xs,xs.map (·.1)=List.range ((ny - 1)*(nx - 1))/\J xs W')\/(∃pre,True/\Jx pre W')):=by
 obtain ⟨v0,v1,rfl⟩: ∃v0 v1,lb= #[v0,v1]:=by
  match lb,B4 with
  |⟨[v0,v1]⟩,_=>exact ⟨v0,v1,rfl⟩
 obtain ⟨a0,s0,c0,rfl,L8,Nn,ru⟩:=lK (hr 0 _ _ rfl rfl)
 obtain ⟨a1,s1,c1,rfl,Y5,hle1,tI⟩:=lK (hr 1 _ _ rfl rfl)
 clear L8 Nn ru Y5 hle1 tI s0 c0 s1 c1
 refine callsIn_of_wp Go.Proofs.Tryz.func175 rfl trivial ?_ rfl
 simp only [Go.Proofs.Tryz.ntmps175,cc,aL,b7,Nat.reduceAdd,Nat.reduceSub,Array.replicate_succ,Array.replicate_zero,List.push_toArray,List.append_toArray,cT,bp]
 gi_wp2
 gi_loopw [4] (fun i wr=> ∃(a:Nat) (pre:List { x:Nat//x<(ny - 1)*(nx - 1) }),a<=nx - 1/\pre.map (·.1)=List.range ((ny - 1)*a)/\i= .int .i64 ((a+1:Nat):Int)/\J pre wr/\ZS [.dN [nums nx A],.dN [nums ny B]] #[.pointer (some a0),.pointer (some a1)] N0 W wr)
  (fun i _=>(nx+5 - intOf i).toNat)
 case atStart=>exact ⟨0,[],ao _,rfl,rfl,h0,⟨fun j d v hj hv h=>h,fun h=>h⟩⟩
 case round=>
  obtain ⟨a,pre,ha,jq,rfl,hJ,hK⟩:=hrel
  obtain ⟨a0',s0,c0,e0,L8,Nn,ru⟩:=lK (hK.1 0 _ _ rfl rfl (hr 0 _ _ rfl rfl))
  cases e0
  by_cases dK:a<nx - 1
  ·obtain ⟨ia,hia0⟩: ∃ia:Int,ia=((a+1:Nat):Int):=⟨_,rfl⟩
   rw [<-hia0]
   have hia:(a:Int)+1<=ia/\ia<=a+1:=by omega
   clear hia0
   have hia2:ia<(nx:Int):=by omega
   gi_wp2
   gi_loopw [5] (fun k wr=> ∃(b:Nat) (pre:List { x:Nat//x<(ny - 1)*(nx - 1) }),b<=ny - 1/\pre.map (·.1)=List.range ((ny - 1)*a+b)/\k= .int .i64 ((b+1:Nat):Int)/\J pre wr/\ZS [.dN [nums nx A],.dN [nums ny B]] #[.pointer (some a0),.pointer (some a1)] N0 W wr)
    (fun i _=>(ny+5 - intOf i).toNat)
   case atStart=>exact ⟨0,pre,ao _,by simpa using jq,rfl,hJ,hK⟩
   case round=>
    clear hJ jq ru L8 Nn hK pre
    obtain ⟨b,pre,hb,jq,rfl,hJ,hK⟩:=hrel
    obtain ⟨a1',s1,c1,e1,Y5,hle1,tI⟩:=lK (hK.1 1 _ _ rfl rfl (hr 1 _ _ rfl rfl))
    cases e1
    by_cases xw:b<ny - 1
    ·obtain ⟨ib,hib0⟩: ∃ib:Int,ib=((b+1:Nat):Int):=⟨_,rfl⟩
     rw [<-hib0]
     have hib:(b:Int)+1<=ib/\ib<=b+1:=by omega
     clear hib0
     have hib2:ib<(ny:Int):=by omega
     have hlen:pre.length=(ny - 1)*a+b:=by
      have:=congrArg List.length jq
      simpa using this
     have Kf:=vX dK xw
     obtain ⟨a0',s0,c0,e0,L8,Nn,ru⟩:=lK (hK.1 0 _ _ rfl rfl (hr 0 _ _ rfl rfl))
     cases e0
     obtain ⟨d0,rfl,Y3⟩:=ru a (by omega)
     obtain ⟨d0',ed0,hd0'⟩:=ru (a+1) (by omega)
     obtain ⟨d1,rfl,hd1⟩:=tI b (by omega)
     obtain ⟨d1',ed1,hd1'⟩:=tI (b+1) (by omega)
     cases ed0
     cases ed1
     have qx:=hA a (by omega)
     have hU:=hA (a+1) (by omega)
     have QW:=hB b (by omega)
     have hb4:=hB (b+1) (by omega)
     clear ru tI Y3 hd1 hd0' hd1' L8 Nn
     gi_wp2
     change Code.wpIn (FW none) m prog (Code.region 6 _ true) _ _ _
     have ta:(ia - 1).toNat=a:=by omega
     have ta':ia.toNat=a+1:=by omega
     have tb:(ib - 1).toNat=b:=by omega
     have tb':ib.toNat=b+1:=by omega
     refine xc 21 (dq:=[]) (base:=wr.heap.size) (w0:=wr) (S0:=⟨fun _=>True,[],wr,none,fun _=>False,fun _=>undef⟩)
      (σ:={ t:=[(0,.val (.func (.yield l) #[] #[])),(1,.dN [nums nx A]),(2,.dN [nums ny B]),(4,.val (.int .i64 ia)),(5,.val (.int .i64 ib))],h:=[],nx:=0,nt:=41 }) dv (by kernel_rfl) (by kernel_rfl) (by kernel_rfl) (by kernel_rfl) ?_ ?_ ?_
     ·refine Kq rfl rfl rfl rfl (fun t=> ?_) ((hK.2 hg).mono uJ)
      match t with
      |0=>exact .val _
      |1=>exact (hK.1 0 _ _ rfl rfl (hr 0 _ _ rfl rfl)).mono uJ (fun _ h=>h) fun _ _ h=>h.elim
      |2=>exact (hK.1 1 _ _ rfl rfl (hr 1 _ _ rfl rfl)).mono uJ (fun _ h=>h) fun _ _ h=>h.elim
      |3=>exact .any _
      |4=>exact .val _
      |5=>exact .val _
      |t+6=>exact .any _
     ·refine KO (l':=[cZ (ia - 1),0<=ia - 1/\ia - 1<(nx:Int),0<=ia/\ia<(nx:Int),cZ (A (ia - 1).toNat+A ia.toNat),
       cZ (ib - 1),0<=ib - 1/\ib - 1<(ny:Int),0<=ib/\ib<(ny:Int),cZ (B (ib - 1).toNat+B ib.toNat)]) (by kernel_rfl) ?_
      rw [ta,ta',tb,tb']
      intro p hp
      simp only [aS,List.not_mem_nil,or_false] at hp
      rcases hp with rfl|rfl|rfl|rfl|rfl|rfl|rfl|rfl<;>(try unfold cZ)<;>omega
     ·rintro ⟨⟨tm⟩,ds⟩ w' hd fL ⟨kn,c9,r,hk⟩
      have fq:tm.length=41:=r.size
      have e0:=fL 0 (by kernel_rfl)
      have e1:=fL 1 (by kernel_rfl)
      have e2:=fL 2 (by kernel_rfl)
      have e3:=fL 3 (by kernel_rfl)
      have e4:=fL 4 (by kernel_rfl)
      have e5:=fL 5 (by kernel_rfl)
      have e6:=fL 6 (by kernel_rfl)
      have e7:=fL 7 (by kernel_rfl)
      have e8:=fL 8 (by kernel_rfl)
      have e9:=fL 9 (by kernel_rfl)
      have Zs:=fL 10 (by kernel_rfl)
      have Zr:=fL 11 (by kernel_rfl)
      have Zq:=fL 12 (by kernel_rfl)
      have Zp:=fL 13 (by kernel_rfl)
      have Zo:=fL 14 (by kernel_rfl)
      have Zn:=fL 15 (by kernel_rfl)
      have Zm:=fL 16 (by kernel_rfl)
      have Zl:=fL 17 (by kernel_rfl)
      have Zk:=fL 39 (by kernel_rfl)
      have Zj:=fL 40 (by kernel_rfl)
      have e18:=r.Ef (t:=18) (v:= .func (.yield l) #[] #[]) (by kernel_rfl)
      have e28:=r.Ef (t:=28) (v:= .int .i64 (A (ia - 1).toNat+A ia.toNat)) (by kernel_rfl)
      have e38:=r.Ef (t:=38) (v:= .int .i64 (B (ib - 1).toNat+B ib.toNat)) (by kernel_rfl)
      rw [ta,ta'] at e28
      rw [tb,tb'] at e38
      have Kj:=r.below
      have hJ2:J pre w':=hab _ _ _ none hJ ⟨Kj.os,Kj.tape,Kj.output,Kj.size,fun k hk _=>Kj.block k hk fun h=>h⟩ (fun r e=>by cases e)
      have Sx:ZS [.dN [nums nx A],.dN [nums ny B]] #[.pointer (some a0),.pointer (some a1)] N0 W w':=⟨fun j d v hj hv h=>
       (hK.1 j d v hj hv h).mono (oF fun k hk=>Kj.block k hk fun h=>h) (fun _ h=>h) fun _ _ h=>h.elim,fun h=>(hK.2 h).mono (oF fun k hk=>Kj.block k hk fun h=>h)⟩
      clear r hk fL
      obtain ⟨u0,u1,u2,u3,u4,u5,u6,u7,u8,u9,u10,u11,u12,u13,u14,u15,u16,u17,u18,u19,u20,u21,u22,u23,u24,u25,u26,u27,u28,u29,u30,u31,u32,u33,u34,u35,u36,u37,u38,u39,u40,rfl⟩:=Yt tm fq
      change u0=_ at e0
      change u1=_ at e1
      change u2=_ at e2
      change u3=_ at e3
      change u4=_ at e4
      change u5=_ at e5
      change u6=_ at e6
      change u7=_ at e7
      change u8=_ at e8
      change u9=_ at e9
      change u10=_ at Zs
      change u11=_ at Zr
      change u12=_ at Zq
      change u13=_ at Zp
      change u14=_ at Zo
      change u15=_ at Zn
      change u16=_ at Zm
      change u17=_ at Zl
      change u18=_ at e18
      change u28=_ at e28
      change u38=_ at e38
      change u39=_ at Zk
      change u40=_ at Zj
      change ds=[] at hd
      subst e0 e1 e2 e4 e5 e18 e28 e38 hd
      have E:Aside (_/\_/\_/\_/\_/\_/\_/\_/\_/\_/\_/\_/\_/\_/\_):=⟨e3,e6,e7,e8,e9,Zs,Zr,Zq,Zp,Zo,Zn,Zm,Zl,Zk,Zj⟩
      clear e3 e6 e7 e8 e9 Zs Zr Zq Zp Zo Zn Zm Zl Zk Zj
      obtain ⟨fn,tmps,assign,body,hy,hR⟩:=hY pre ⟨_,Kf⟩ w' hJ2 (by omega)
      dsimp only at hy hR
      rw [Qb A B xw] at hy
      dsimp only at hy
      change wpListIn Fence.wide m prog _ _ [_,_] _ _
      gi_wp2
      refine ⟨fun h=>absurd h (by decide),hR.mono ?_⟩
      rintro e W3 (⟨rfl,hJ3,Gj⟩|⟨rfl,Zb⟩)
      ·gi_wp2
       go_roundw
       case rel=>
        obtain ⟨e3,e6,e7,e8,e9,Zs,Zr,Zq,Zp,Zo,Zn,Zm,Zl,Zk,Zj⟩:=E.out
        subst e3 e6 e7 e8 e9 Zs Zr Zq Zp Zo Zn Zm Zl Zk Zj
        exact ⟨_,_,_,_,_,_,_,_,_,_,_,_,_,_,_,_,_,_,_,_,_,_,_,_,_,_,_,_,_,_,⟨b+1,pre++[⟨_,Kf⟩],by omega,by rw [cU,jq,<-bT,List.range_succ];rfl,by congr 1<;>omega,hJ3,⟨fun j d v hj hv h=>Gj.1 j d v hj hv (Sx.1 j d v hj hv h),fun h=>Gj.2 (Sx.2 h)⟩⟩,rfl⟩
       case measure=>simp [intOf];omega
      ·gi_wp2
       refine bodyPost_ret (results_none rfl _ _ _) rfl ?_
       exact ⟨⟨_,rfl⟩,.inr ⟨_,trivial,Zb⟩⟩
    ·obtain rfl:b=ny - 1:=by omega
     gi_wp2
     go_roundw
     case rel=>exact ⟨a+1,pre,by omega,by rw [Nat.mul_add,Nat.mul_one];exact jq,by congr 1;omega,hJ,hK⟩
     case measure=>simp [intOf];omega
  ·obtain rfl:a=nx - 1:=by omega
   gi_wp2
   go_end0
   exact ⟨⟨_,rfl⟩,.inl ⟨pre,jq,hJ⟩⟩
theorem NI (nx ny:Nat) (A B:Nat->Int) (hx:nx<=1000000) (hy:ny<=1000000) (hA: ∀i,i<nx-> -2000000<=A i/\A i<=2000000) (hB: ∀i,i<ny-> -2000000<=B i/\B i<=2000000):
 FG prog 175 [.dN [nums nx A],.dN [nums ny B]] ((ny - 1)*(nx - 1)) fun k=>[.int .i64 (J5 (ny - 1) A B k).1,.int .i64 (J5 (ny - 1) A B k).2]:=by
 refine ⟨?_,fun m lb w B4 hr hg l J Jx W hW hab _ hY h0=> ?_⟩
 ·exact ⟨_,Go.Proofs.Tryz.func175,rfl,by kernel_rfl⟩
 ·have hrW: ∀(j:Nat) (d:DV) (v:Value),[DV.dN [nums nx A],DV.dN [nums ny B]][j]? =some d->lb[j]? =some v->du (iJ W w.heap.size) d v:=fun j d v hj hv=>
   (hr j d v hj hv).mono (oF fun k hk=>hW.block k hk) (fun _ h=>h) fun _ _ h=>h.elim
  exact RT w.heap.size nx ny hx hy A B hA hB m l lb J Jx W hab B4 hrW (hg.mono (oF fun k hk=>hW.block k hk)) hY h0
end Go.Abs
end
section
set_option maxRecDepth 100000
namespace Go.Abs
open Go
def hasB (n:Nat) (X Y:Nat->Int) (x y:Int) (i:Nat):Bool:=decide (lo n X i=hi n X i/\2*lo n X i>x/\2*lo n Y i<y/\y<2*hi n Y i)
def kr (n:Nat) (X Y:Nat->Int) (x y:Int):Nat->Bool
 |0=>false
 |k+1=>if hasB n X Y x y k=true then !(kr n X Y x y k) else kr n X Y x y k
def PH:fE:= .res fun l=>dB (kr (aN l) (aX l) (aY l) (aI l 1) (aI l 2) (aN l))
abbrev lF (l:List Int):DV:=nums l.length (fun i=>l.getD i 0)
abbrev H2 (l:List Int):List (Nat->DV):=[fun i=>dI (l.getD i 0)]
def PG:fE:= .take fun l=>((fO ((List.range (aN l)).map (aX l))).length,fun i=>(fO ((List.range (aN l)).map (aX l))).getD i 0)
def jx (N:Nat->Nat) (X:Nat->Nat->Int) (i k:Nat):List Int:=ff N X i++(List.range k).map (X i)
theorem Di (N:Nat->Nat) (X:Nat->Nat->Int) (i:Nat):jx N X i 0=ff N X i:=by simp [jx]
theorem G2 (N:Nat->Nat) (X:Nat->Nat->Int) (i:Nat):jx N X i (N i)=ff N X (i+1):=rfl
theorem zX (N:Nat->Nat) (X:Nat->Nat->Int) (i k:Nat):(jx N X i k).length=(ff N X i).length+k:=by simp [jx]
theorem mz (N:Nat->Nat) (X:Nat->Nat->Int) (i k:Nat):jx N X i (k+1)=jx N X i k++[X i k]:=by
 simp only [jx,List.range_succ,cU,bO,List.map_nil,cz]
theorem zI (l:List Int) (x:Int) (j:Nat) (h:j<l.length+1):(if j<l.length then l.getD j 0 else x)=(l++[x]).getD j 0:=by
 split
 ·rename_i h1;simp [aM h1]
 ·rw [show j=l.length by omega];simp
theorem Dg (l:List Int):(List.range l.length).map (fun i=>l.getD i 0)=l:=by
 apply List.ext_getElem
 ·simp
 ·intro i h1 h2
  simp [h2]
theorem FD (N:Nat->Nat) (X:Nat->Nat->Int) {i m:Nat} (h:i<=m):(ff N X i).length<=(ff N X m).length:=by
 induction m with
 |zero=>rw [show i=0 by omega];exact af _
 |succ m ih=>
  rcases aU i (m+1) with h1|h1
  ·have:=ih (by omega)
   simp only [ff,aO];omega
  ·rw [show i=m+1 by omega];exact af _
noncomputable def NU (n:Nat) (X Y:Nat->Int) (x y:Int):eH:={ dq:=[(5,[(2,PE)])],loops:=[(0,{ ι:=Nat,keep:=[0,1,2,12],boxes:=[],ts:=fun _ i=>[(7,dB (kr n X Y x y i)),(13,dI (i:Int))],inv:=fun _ i=>i<=n,mu:=fun _ i=>n - i,rd:=fun _ σ=>(eA (σ.get 13)).toNat })],dw:=[] }
namespace wt
noncomputable section
structure Z where
 n:Nat
 X:Nat->Int
 Y:Nat->Int
 x:Int
 y:Int
variable (z:Z) (i0:Nat) (p:Prop) (P:List Prop) (a:Int) (k:Nat) (g h:Bool)
abbrev x0:=lo z.n z.X (i0:Int)
abbrev x1:=if g=true then h else false
abbrev x2:=x0 z i0==hi z.n z.X (i0:Int)
abbrev x3:=x1 (x2 z i0) (decide ((2*x0 z i0)>z.x))
abbrev x4:=Int.toNat ((i0:Int)+1)
abbrev x5:=Value.int IntKind.i64 a
abbrev x6:=x1 (x3 z i0) (decide ((2*lo z.n z.Y (i0:Int))<z.y))
abbrev x7:=g=kr z.n z.X z.Y z.x z.y k
abbrev x8:List Prop:=p::rf z.n::(∀i0<z.n,rf (z.X i0))::(∀i0<z.n,rf (z.Y i0))::rf z.x::rf z.y::rf (z.n:Int)::P
abbrev x9:=VT.da [cZ ((i0:Int)+1)] (VT.done (p::x8 z ((i0:Int)+1=(↑(x4 i0):Int)) [x4 i0<=z.n,z.n - x4 i0<z.n - i0]))
abbrev xt:VT:=VT.loop Nat (fun i0=>i0<=z.n) (Int.toNat 0) (x7 z (Int.toNat 0) false::x8 z (0=(↑(Int.toNat 0):Int)) []) (fun i0=>VT.ite (decide ((i0:Int)<(z.n:Int))) (VT.da [dm prog 150 [DV.di z.n [fun i0=>DV.val (x5 (z.X i0)),fun i0=>DV.val (x5 (z.Y i0))],DV.val (x5 (i0:Int))] (DV.fy [DV.val (Value.agg (Array.mk [x5 (x0 z i0),x5 (lo z.n z.Y (i0:Int))])),DV.val (Value.agg (Array.mk [x5 (hi z.n z.X (i0:Int)),x5 (hi z.n z.Y (i0:Int))]))])] (VT.da [ri (x2 z i0=true),ri (x2 z i0=true),x2 z i0=true->cZ (2*x0 z i0),ri (x2 z i0=true),ri (x2 z i0=true),ri (x2 z i0=true),ri (x3 z i0=true),ri (x3 z i0=true),x3 z i0=true->cZ (2*lo z.n z.Y (i0:Int)),ri (x3 z i0=true),ri (x3 z i0=true),ri (x3 z i0=true),ri (x6 z i0=true),ri (x6 z i0=true),x6 z i0=true->cZ (2*hi z.n z.Y (i0:Int)),ri (x6 z i0=true),ri (x6 z i0=true),ri (x6 z i0=true)] (VT.ite (x1 (x6 z i0) (decide (z.y<(2*hi z.n z.Y (i0:Int))))) (x9 z i0 (x7 z (x4 i0) (!(kr z.n z.X z.Y z.x z.y i0)))) (x9 z i0 (x7 z (x4 i0) (kr z.n z.X z.Y z.x z.y i0)))))) (VT.done [x7 z z.n (kr z.n z.X z.Y z.x z.y i0)]))
end
end wt
open wt in
theorem Ma (n:Nat) (X Y:Nat->Int) (x y:Int) (hn:0<n) (jH:n<=800) (hX:kM n X) (hY:kM n Y):dm prog 148 [mh n X Y,dI x,dI y] (dB (kr n X Y x y n)):=by
 refine db dv (NU n X Y x y) (V:=xt ⟨n,X,Y,x,y⟩) (by kernel_rfl) ?_
 simp only [xt,x0,x1,x2,x3,x4,x5,x6,x7,x8,x9,Rf,VT.holds,dt,Sq]
 refine ⟨⟨rfl,rfl⟩,ao n,fun i hi=>⟨fun dK=> ?_,fun iy=>by rw [show i=n by omega]⟩⟩
 have b1:=VG hn hX i
 have b2:=VG hn hY i
 have b3:=hi_bd hn hY i
 refine ⟨JN n X Y i hn (by omega) (by omega) (by omega),⟨fun _=>by unfold cZ;omega,fun _=>by unfold cZ;omega,fun _=>by unfold cZ;omega⟩,fun h=>⟨by unfold cZ;omega,?_,by omega,by omega,by omega⟩,fun h=>⟨by unfold cZ;omega,?_,by omega,by omega,by omega⟩⟩
 ·rw [kr,ah]
  unfold hasB
  rw [ai]
  exact ⟨h.1.1.1,h.1.1.2,h.1.2,h.2⟩
 ·rw [kr,ae]
  unfold hasB
  rw [ai]
  rintro ⟨h1,h2,h3,h4⟩
  exact h ⟨⟨h1,h2⟩,h3⟩ h4
noncomputable def IE (m:Nat) (N:Nat->Nat) (X Y:Nat->Nat->Int):eH:={ dq:=[(11,[(1,PG),(3,PG)])],loops:=[(0,{ ι:=Nat,keep:=[11,12],boxes:=[],ts:=fun _ i=>[(13,dI (i:Int))],rw:=fun _ i=>[(3,1,(ff N X i).length,H2 (ff N X i)),(4,1,(ff N Y i).length,H2 (ff N Y i))],inv:=fun _ i=>i<=m,mu:=fun _ i=>m - i,rd:=fun _ σ=>(eA (σ.get 13)).toNat }),(2,{ ι:=Nat,keep:=[11,12,13,17,18],boxes:=[],ts:=fun _ k=>[(19,dI (k:Int))],rw:=fun σ k=>[(3,1,(jx N X (eA (σ.get 13)).toNat k).length,H2 (jx N X (eA (σ.get 13)).toNat k)),(4,1,(jx N Y (eA (σ.get 13)).toNat k).length,H2 (jx N Y (eA (σ.get 13)).toNat k))],inv:=fun σ k=>k<=N (eA (σ.get 13)).toNat,mu:=fun σ k=>N (eA (σ.get 13)).toNat - k,rd:=fun _ σ=>(eA (σ.get 19)).toNat })],dw:=[] }
namespace wu
noncomputable section
structure Z where
 m:Nat
 N:Nat->Nat
 X:Nat->Nat->Int
 Y:Nat->Nat->Int
variable (z:Z) (i0 i1 i2:Nat) (p:Prop) (P:List Prop) (a:Int) (k:Nat) (oh:Nat->Nat->Int) (Qr:List Int) (TX:Nat->Int)
abbrev x0:Int:=(i0:Int)
abbrev x1:=Int.toNat (x0 i0)
abbrev x2:=jx z.N oh (x1 i0) k
abbrev x3:=List.length (x2 z i0 k oh)
abbrev x4:=List.getD Qr i1 0
abbrev x5:=List.length (ff z.N oh i0)
abbrev x6:=Int.toNat 0
abbrev x7:=List.map TX (List.range (x5 z i0 oh))
abbrev x8:=Int.toNat (x0 i0+1)
abbrev x9:=Int.toNat ((i1:Int)+1)
abbrev dC:=x4 i1 (ff z.N z.X i0)
abbrev dA:=x4 i1 (ff z.N z.Y i0)
abbrev dz:List Prop:=p::rf (0:Nat)::P
abbrev dG:=List.length (ff z.N oh (x8 i0))
abbrev dL:=List.getD (x2 z i0 k oh) i2 0
abbrev dR:Int:=(↑(z.N (x1 i0)):Int)
abbrev dQ:=List.length (fO (ff z.N oh z.m))
abbrev ep:=x4 i1 (fO (x7 z i0 oh TX))
abbrev eu:=(nat_lit 0)=0
abbrev eG:=DV.val (Value.int IntKind.i64 a)
abbrev ez:=i1<(z.N (x1 i0))->rf (oh (x1 i0) i1)
abbrev eF:=List.length (fO (x7 z i0 z.X (fun i1=>dC z i0 i1)))
abbrev eQ:=List.length (fO (x7 z i0 z.Y (fun i1=>dA z i0 i1)))
abbrev fC:List Prop:=p::rf z.m::(∀i0<z.m,rf (z.N i0)/\(∀i1<(z.N i0),rf (z.X i0 i1))/\(∀i1<(z.N i0),rf (z.Y i0 i1)))::rf (z.m:Int)::P
abbrev xt:VT:=VT.loop Nat (fun i0=>i0<=z.m) x6 (dz (0=(x6:Int)) (dz eu (fC z eu [eu,eu]))) (fun i0=>VT.ite (decide ((x0 i0)<(z.m:Int))) (VT.da [0<=x0 i0/\x0 i0<(z.m:Int)] (VT.loop Nat (fun i1=>i1<=(z.N (x1 i0))) x6 (dz (0=(x6:Int)) (dz (x5 z i0 z.X=x3 z i0 x6 z.X) (fC z (x5 z i0 z.Y=x3 z i0 x6 z.Y) [rf (x0 i0),rf (z.N (x1 i0)),∀(i1:Nat),ez z i0 i1 z.X,∀(i1:Nat),ez z i0 i1 z.Y,rf (dR z i0),x5 z i0 z.X=x3 z i0 x6 z.X,∀i1<x3 z i0 x6 z.X,dC z i0 i1=x4 i1 (x2 z i0 x6 z.X),x5 z i0 z.Y=x3 z i0 x6 z.Y,∀i1<x3 z i0 x6 z.Y,dA z i0 i1=x4 i1 (x2 z i0 x6 z.Y)]))) (fun i1=>VT.ite (decide ((i1:Int)<(dR z i0))) (VT.da [0<=(i1:Int)/\(i1:Int)<dR z i0] (VT.da [x3 z i0 i1 z.X<=x3 z i0 i1 z.X,(x3 z i0 i1 z.X+1)*((nat_lit 7)+1)<=140737488355328,(1:Nat)<=(1:Nat),x3 z i0 i1 z.Y<=x3 z i0 i1 z.Y,(x3 z i0 i1 z.Y+1)*((nat_lit 7)+1)<=140737488355328,(1:Nat)<=(1:Nat)] (VT.da [cZ ((i1:Int)+1)] (VT.done (dz ((i1:Int)+1=(↑(x9 i1):Int)) (dz (x3 z i0 i1 z.X+1=x3 z i0 (x9 i1) z.X) (fC z (x3 z i0 i1 z.Y+1=x3 z i0 (x9 i1) z.Y) [rf (x0 i0),rf (z.N (x1 i0)),∀(i1:Nat),ez z i0 i1 z.X,∀(i1:Nat),ez z i0 i1 z.Y,rf (dR z i0),x3 z i0 i1 z.X+1=x3 z i0 (x9 i1) z.X,∀i2<x3 z i0 (x9 i1) z.X,(if (decide (i2<(x3 z i0 i1 z.X)))=true then (dL z i0 i2 i1 z.X) else (z.X (x1 i0) (Int.toNat (i1:Int))))=dL z i0 i2 (x9 i1) z.X,x3 z i0 i1 z.Y+1=x3 z i0 (x9 i1) z.Y,∀i2<x3 z i0 (x9 i1) z.Y,(if (decide (i2<(x3 z i0 i1 z.Y)))=true then (dL z i0 i2 i1 z.Y) else (z.Y (x1 i0) (Int.toNat (i1:Int))))=dL z i0 i2 (x9 i1) z.Y,x9 i1<=(z.N (x1 i0)),(z.N (x1 i0)) - x9 i1<(z.N (x1 i0)) - i1]))))))) (VT.da [cZ (x0 i0+1)] (VT.done (dz (x0 i0+1=(↑(x8 i0):Int)) (dz (x3 z i0 i1 z.X=dG z i0 z.X) (fC z (x3 z i0 i1 z.Y=dG z i0 z.Y) [x3 z i0 i1 z.X=dG z i0 z.X,∀i2<dG z i0 z.X,dL z i0 i2 i1 z.X=List.getD (ff z.N z.X (x8 i0)) i2 0,x3 z i0 i1 z.Y=dG z i0 z.Y,∀i2<dG z i0 z.Y,dL z i0 i2 i1 z.Y=List.getD (ff z.N z.Y (x8 i0)) i2 0,x8 i0<=z.m,z.m - x8 i0<z.m - i0])))))))) (VT.da [rf (x5 z i0 z.X),kF (fun i1=>eG (dC z i0 i1)),FnK prog 174 (x5 z i0 z.X) (fun i1=>vz (eG (dC z i0 i1))) (eF z i0) (fun i1=>ep z i0 i1 z.X (fun i1=>dC z i0 i1)),rf (x5 z i0 z.Y),kF (fun i1=>eG (dA z i0 i1)),FnK prog 174 (x5 z i0 z.Y) (fun i1=>vz (eG (dA z i0 i1))) (eQ z i0) (fun i1=>ep z i0 i1 z.Y (fun i1=>dA z i0 i1))] (VT.done [eF z i0<=eF z i0,eQ z i0<=eQ z i0,eF z i0=dQ z z.X,∀i1<dQ z z.X,ep z i0 i1 z.X (fun i1=>dC z i0 i1)=x4 i1 (fO (ff z.N z.X z.m)),eQ z i0=dQ z z.Y,∀i1<dQ z z.Y,ep z i0 i1 z.Y (fun i1=>dA z i0 i1)=x4 i1 (fO (ff z.N z.Y z.m))])))
end
end wu
open wu in
theorem UI (m:Nat) (N:Nat->Nat) (X Y:Nat->Nat->Int) (hm:m<=1000000) (hb:(ff N X m).length<=1000000):dm prog 147 [.di m [fun i=>mh (N i) (X i) (Y i)]] (.jL 175 [.dN [lF (fO (ff N X m))],.dN [lF (fO (ff N Y m))]]):=by
 refine db dv (IE m N X Y) (V:=xt ⟨m,N,X,Y⟩) (by kernel_rfl) ?_
 simp only [xt,x0,x1,x2,x3,x4,x5,x6,x7,x8,x9,dC,dA,dz,dG,dL,dR,dQ,ep,eu,eG,ez,eF,eQ,fC,Rf,VT.holds,dt,Sq]
 have hU:(ff N Y m).length<=1000000:=by rw [Bo N Y X];exact hb
 have hr: ∀l:List Int,List.map (fun a=>l.getD a 0) (List.range l.length)=l:=Dg
 refine ⟨rfl,ao m,fun i hi=>⟨fun dK=>⟨⟨by omega,dK⟩,?_,ao _,fun k hk=>⟨fun qz=> ?_,fun qz=> ?_⟩⟩,fun iy=> ?_⟩⟩
 ·simp only [Di,cY,cQ,cR];rfl
 ·have e1:=FD N X (show i+1<=m by omega)
  have e2:=FD N Y (show i+1<=m by omega)
  have e3:=zX N X i k
  have e4:=zX N Y i k
  have e5:(ff N X (i+1)).length=(ff N X i).length+N i:=by simp [ff]
  have e6:(ff N Y (i+1)).length=(ff N Y i).length+N i:=by simp [ff]
  have f1:(jx N X i k).length+1=(jx N X i (k+1)).length:=by rw [mz];simp
  have f2:(jx N Y i k).length+1=(jx N Y i (k+1)).length:=by rw [mz];simp
  have g1: ∀j,j<(jx N X i (k+1)).length->(if j<(jx N X i k).length then (jx N X i k).getD j 0 else X i k)=(jx N X i (k+1)).getD j 0:=fun j hj=>by
   rw [mz];exact zI _ _ j (by omega)
  have g2: ∀j,j<(jx N Y i (k+1)).length->(if j<(jx N Y i k).length then (jx N Y i k).getD j 0 else Y i k)=(jx N Y i (k+1)).getD j 0:=fun j hj=>by
   rw [mz];exact zI _ _ j (by omega)
  exact ⟨⟨by omega,qz⟩,⟨af _,by omega,af _,af _,by omega,af _⟩,by unfold cZ;omega,by omega,f1,f2,f1,g1,f2,g2,by omega,by omega⟩
 ·obtain rfl:k=N i:=by omega
  simp only [G2,cY,cQ,cR]
  exact ⟨by unfold cZ;omega,by omega,by omega,by omega⟩
 ·obtain rfl:i=m:=by omega
  have l1:=LU (ff N X i).length (fun j=>(ff N X i).getD j 0) hb
  have l2:=LU (ff N Y i).length (fun j=>(ff N Y i).getD j 0) hU
  refine ⟨⟨fun _=>trivial,l1,fun _=>trivial,l2⟩,af _,af _,?_⟩
  simp only [hr,cY,cR,cQ]
end Go.Abs
end
section
set_option maxRecDepth 100000
namespace Go.Abs
open Go
abbrev N2 (n m:Nat) (i:Nat):Nat:=if decide (i=0)=true then n else m
abbrev X2 (X X':Nat->Int) (i k:Nat):Int:=if decide (i=0)=true then X k else X' k
def gr (n:Nat) (X:Nat->Int) (m:Nat) (X':Nat->Int):List Int:=fO (ff (N2 n m) (X2 X X') 2)
def vY (n:Nat) (X Y:Nat->Int) (m:Nat) (X' Y':Nat->Int):Nat:=((gr n Y m Y').length - 1)*((gr n X m X').length - 1)
def jF (n:Nat) (X Y:Nat->Int) (m:Nat) (X' Y':Nat->Int) (k:Nat):Int×Int:=J5 ((gr n Y m Y').length - 1) (fun i=>(gr n X m X').getD i 0) (fun i=>(gr n Y m Y').getD i 0) k
def yO (n:Nat) (X Y:Nat->Int) (m:Nat) (X' Y':Nat->Int) (k:Nat):Bool:=kr m X' Y' (jF n X Y m X' Y' k).1 (jF n X Y m X' Y' k).2 m&& !kr n X Y (jF n X Y m X' Y' k).1 (jF n X Y m X' Y' k).2 n
def ER (n:Nat) (X Y:Nat->Int) (m:Nat) (X' Y':Nat->Int) (k:Nat):Bool:=kr m X' Y' (jF n X Y m X' Y' k).1 (jF n X Y m X' Y' k).2 m&&kr n X Y (jF n X Y m X' Y' k).1 (jF n X Y m X' Y' k).2 n
def nu (n:Nat) (X Y:Nat->Int) (m:Nat) (X' Y':Nat->Int):Bool:=decide (∀k,k<vY n X Y m X' Y'->yO n X Y m X' Y' k=false)
def J7 (n:Nat) (X Y:Nat->Int) (m:Nat) (X' Y':Nat->Int):Bool:= !decide (∀k,k<vY n X Y m X' Y'->ER n X Y m X' Y' k=false)
def rCov:fE:= .res fun l=>dB (nu (aN l) (aX l) (aY l) (lenOf (arg l 1)) (iQ 0 (arg l 1)) (iQ 1 (arg l 1)))
abbrev PK (n:Nat) (X Y:Nat->Int) (m:Nat) (X' Y':Nat->Int):fE:= .res fun _=> .jL 175 [.dN [lF (gr n X m X')],.dN [lF (gr n Y m Y')]]
theorem xz (n:Nat) (X:Nat->Int) (m:Nat) (X':Nat->Int) (b:Int) (hX: ∀k,k<n-> -b<=X k/\X k<=b) (Oo: ∀k,k<m-> -b<=X' k/\X' k<=b): ∀i,i<(gr n X m X').length-> -b<=(gr n X m X').getD i 0/\(gr n X m X').getD i 0<=b:=fun i hi=>by
 have h1:=((iO (ff (N2 n m) (X2 X X') 2)).2 _).1 (AK hi)
 refine Ms (m:=2) (fun i hi k hk=> ?_) _ h1
 match i,hi with
 |0,_=>exact hX k hk
 |1,_=>exact Oo k hk
theorem xA (n:Nat) (X:Nat->Int) (m:Nat) (X':Nat->Int):(gr n X m X').length<=n+m:=by
 have h:=tt (ff (N2 n m) (X2 X X') 2)
 simpa [gr,ff,N2] using h
theorem HH (n:Nat) (X Y:Nat->Int) (m:Nat) (X' Y':Nat->Int) (jH:n<=800) (hX:kM n X) (hY:kM n Y) (Nl:m<=800) (Oo:kM m X') (Sw:kM m Y'):
 FG prog 175 [.dN [lF (gr n X m X')],.dN [lF (gr n Y m Y')]] (vY n X Y m X' Y') fun k=>[.int .i64 (jF n X Y m X' Y' k).1,.int .i64 (jF n X Y m X' Y' k).2]:=by
 have l1:=xA n X m X'
 have l2:=xA n Y m Y'
 refine NI _ _ _ _ (by omega) (by omega) (fun i hi=> ?_) (fun i hi=> ?_)
 ·have:=xz n X m X' 1000000 hX Oo i hi;omega
 ·have:=xz n Y m Y' 1000000 hY Sw i hi;omega
theorem Q3 (n:Nat) (X Y:Nat->Int) (m:Nat) (X' Y':Nat->Int) (jH:n<=800) (Nl:m<=800):
 dm prog 147 [.di 2 [fun i=>mh (N2 n m i) (X2 X X' i) (X2 Y Y' i)]] (.jL 175 [.dN [lF (gr n X m X')],.dN [lF (gr n Y m Y')]]):=
 UI 2 (N2 n m) (X2 X X') (X2 Y Y') (by omega) (by simp [ff,N2];omega)
theorem y5 (n:Nat) (X Y:Nat->Int) (m:Nat) (X' Y':Nat->Int):(DV.di 2 [fun i=>DV.di (if i=0 then n else m) [fun k=>DV.val (Value.int .i64 (if i=0 then X k else X' k)),fun k=>DV.val (Value.int .i64 (if i=0 then Y k else Y' k))]])= .di 2 [fun i=>mh (N2 n m i) (X2 X X' i) (X2 Y Y' i)]:=by
 congr 2
 funext i
 by_cases h:i=0
 ·subst h;rfl
 ·have hd:decide (i=0)=false:=by simp [h]
  have e1:N2 n m i=m:=by unfold N2;rw [hd];rfl
  have e2:X2 X X' i=X':=by funext k;unfold X2;rw [hd];rfl
  have e3:X2 Y Y' i=Y':=by funext k;unfold X2;rw [hd];rfl
  rw [e1,e2,e3]
  simp only [ae h]
noncomputable def FR (n:Nat) (X Y:Nat->Int) (m:Nat) (X' Y':Nat->Int):eH:={ dq:=[(1,[(3,PK n X Y m X' Y')]),(4,[(3,PH),(8,PH)])],loops:=[],dw:=[],Tu:=[(0,{ N:=vY n X Y m X' Y',enc:=fun k=>[.int .i64 (jF n X Y m X' Y' k).1,.int .i64 (jF n X Y m X' Y' k).2],keep:=[2,3,4,10],boxes:=[2,3,4],bx:=fun _ _=>[],inv:=fun _ pre=> ∀k∈pre,yO n X Y m X' Y' k=false })] }
namespace wv
noncomputable section
structure Z where
 n:Nat
 X:Nat->Int
 Y:Nat->Int
 m:Nat
 X':Nat->Int
 Y':Nat->Int
variable (z:Z) (i0 i1:Nat) (p:Prop) (P:List Prop) (a:Int) (k l:Nat) (g:Bool) (A:DV) (mR yA:Nat->Int)
abbrev x0:=jF z.n z.X z.Y z.m z.X' z.Y' k
abbrev x1:=DV.val (Value.int IntKind.i64 a)
abbrev x2 (i0:List Nat×Nat):=kr k mR yA (Prod.fst (x0 z (Prod.snd i0))) (Prod.snd (x0 z (Prod.snd i0))) l
abbrev x3:=List.getD (gr z.n mR z.m yA) i0 0
abbrev x4:=List.length (gr z.n z.X z.m z.X')
abbrev x5:=List.length (gr z.n z.Y z.m z.Y')
abbrev x6:=vY z.n z.X z.Y z.m z.X' z.Y'
abbrev x7 (i0:List Nat×Nat):List Prop:=ri (x2 z z.m z.m z.X' z.Y' i0=true)::P
abbrev x8:=p->yO z.n z.X z.Y z.m z.X' z.Y' k=false
abbrev x9:List Value:=[Value.int IntKind.i64 (Prod.fst (x0 z i0)),Value.int IntKind.i64 (Prod.snd (x0 z i0))]
abbrev dC (i0:List Nat×Nat):=dm prog 148 [A,x1 (Prod.fst (x0 z (Prod.snd i0))),x1 (Prod.snd (x0 z (Prod.snd i0)))] (DV.val (Value.bool g))
abbrev dA:=x1 (if (decide (i0=(0:Nat)))=true then (mR i1) else (yA i1))
abbrev dz:List DV:=[DV.dN [DV.di (x4 z) [fun i0=>x1 (x3 z i0 z.X z.X')]],DV.dN [DV.di (x5 z) [fun i0=>x1 (x3 z i0 z.Y z.Y')]]]
abbrev dG:List Prop:=[rf (x4 z),∀i0<x4 z,rf (x3 z i0 z.X z.X'),rf (x5 z),∀i0<x5 z,rf (x3 z i0 z.Y z.Y'),rf z.n,∀i0<z.n,rf (z.X i0),∀i0<z.n,rf (z.Y i0),rf z.m,∀i0<z.m,rf (z.X' i0),∀i0<z.m,rf (z.Y' i0),rf false,p]
abbrev dL:=VT.done [g=nu z.n z.X z.Y z.m z.X' z.Y']
abbrev xt:VT:=VT.da [(2:Nat)<=(2:Nat),dm prog 147 [DV.di 2 [fun i0=>DV.di (if (decide (i0=(0:Nat)))=true then z.n else z.m) [fun i1=>dA i0 i1 z.X z.X',fun i1=>dA i0 i1 z.Y z.Y']]] (DV.jL (175:FuncId) (dz z))] (VT.da (FG prog (175:FuncId) (dz z) (x6 z) (fun i0=>x9 z i0)::(∀i0<x6 z,List.length (x9 z i0)=Array.size (List.toArray [(11:Nat),(12:Nat)]))::dG z (∀(i0:Nat),x8 z (i0∈[]) i0)) (VT.cut (List Nat×Nat) (fun (i0:List Nat×Nat)=>(∀(i1:Nat),x8 z (i1∈(Prod.fst i0)) i1)/\Prod.snd i0<x6 z/\List.length (Prod.fst i0)<x6 z/\(∀(i1:Nat),(i1∈(Prod.fst i0))->i1<x6 z)) (VT.cut Unit (fun (i0:Unit)=> ∀(i0:Nat),x8 z (i0∈(List.range (x6 z))) i0) (VT.done []) (fun (i0:Unit)=>dL z true)) (fun (i0:List Nat×Nat)=>VT.da (dC z (x2 z z.m z.m z.X' z.Y' i0) (DV.di z.m [fun i0=>x1 (z.X' i0),fun i0=>x1 (z.Y' i0)]) i0::x7 z (x7 z (x7 z ((x2 z z.m z.m z.X' z.Y' i0=true->dC z (x2 z z.n z.n z.X z.Y i0) (DV.di z.n [fun i0=>x1 (z.X i0),fun i0=>x1 (z.Y i0)]) i0)::x7 z [ri (x2 z z.m z.m z.X' z.Y' i0=true)] i0) i0) i0) i0) (VT.ite (if (x2 z z.m z.m z.X' z.Y' i0)=true then (!(x2 z z.n z.n z.X z.Y i0)) else false) (dL z false) (VT.done (dG z (∀(i1:Nat),x8 z (i1∈((Prod.fst i0)++[Prod.snd i0])) i1)))))))
end
end wv
open wv in
theorem RF (n:Nat) (X Y:Nat->Int) (m:Nat) (X' Y':Nat->Int) (hn:0<n) (jH:n<=800) (hX:kM n X) (hY:kM n Y) (hm:0<m) (Nl:m<=800) (Oo:kM m X') (Sw:kM m Y'):dm prog 146 [mh n X Y,mh m X' Y'] (dB (nu n X Y m X' Y')):=by
 refine db dv (FR n X Y m X' Y') (V:=xt ⟨n,X,Y,m,X',Y'⟩) (by kernel_rfl) ?_
 simp only [xt,x0,x1,x2,x3,x4,x5,x6,x7,x8,x9,dC,dA,dz,dG,dL,Rf,VT.holds,dt,Sq]
 rw [y5]
 refine ⟨⟨af _,Q3 n X Y m X' Y' jH Nl⟩,⟨HH n X Y m X' Y' jH hX hY Nl Oo Sw,fun _ _=>rfl,fun k hk=>by cases hk⟩,fun _ h=> ?_,fun i ⟨h1,h2,h3,h4⟩=>⟨⟨Ma m X' Y' _ _ hm Nl Oo Sw,fun _=>Ma n X Y _ _ hn jH hX hY⟩,fun h=> ?_,fun h k hk=> ?_⟩⟩
 ·rw [bW,nu,ai]
  exact fun k hk=>h k (a8.2 hk)
 ·rw [bW,nu,an]
  intro fh
  have:=fh i.2 h2
  simp [yO,h.1,h.2] at this
 ·rcases aT.1 hk with hk|hk
  ·exact h1 k hk
  ·rw [au.1 hk,yO]
   cases ha:kr m X' Y' (jF n X Y m X' Y' i.2).1 (jF n X Y m X' Y' i.2).2 m with
   |false=>rfl
   |true=>rw [h ha];rfl
noncomputable def IC (n:Nat) (X Y:Nat->Int) (m:Nat) (X' Y':Nat->Int):eH:={ dq:=[(1,[(3,PK n X Y m X' Y')]),(4,[(3,PH),(8,PH)])],loops:=[],dw:=[],Tu:=[(0,{ N:=vY n X Y m X' Y',enc:=fun k=>[.int .i64 (jF n X Y m X' Y' k).1,.int .i64 (jF n X Y m X' Y' k).2],keep:=[2,3,4,10],boxes:=[2,3,4],bx:=fun _ _=>[],inv:=fun _ pre=> ∀k∈pre,ER n X Y m X' Y' k=false })] }
namespace ww
noncomputable section
structure Z where
 n:Nat
 X:Nat->Int
 Y:Nat->Int
 m:Nat
 X':Nat->Int
 Y':Nat->Int
variable (z:Z) (i0 i1:Nat) (p:Prop) (P:List Prop) (a:Int) (k l:Nat) (g:Bool) (A:DV) (mR yA:Nat->Int)
abbrev x0:=jF z.n z.X z.Y z.m z.X' z.Y' k
abbrev x1:=DV.val (Value.int IntKind.i64 a)
abbrev x2 (i0:List Nat×Nat):=kr k mR yA (Prod.fst (x0 z (Prod.snd i0))) (Prod.snd (x0 z (Prod.snd i0))) l
abbrev x3:=List.getD (gr z.n mR z.m yA) i0 0
abbrev x4:=List.length (gr z.n z.X z.m z.X')
abbrev x5:=List.length (gr z.n z.Y z.m z.Y')
abbrev x6:=vY z.n z.X z.Y z.m z.X' z.Y'
abbrev x7:=p->ER z.n z.X z.Y z.m z.X' z.Y' k=false
abbrev x8 (i0:List Nat×Nat):List Prop:=ri (x2 z z.m z.m z.X' z.Y' i0=true)::P
abbrev x9:List Value:=[Value.int IntKind.i64 (Prod.fst (x0 z i0)),Value.int IntKind.i64 (Prod.snd (x0 z i0))]
abbrev dC (i0:List Nat×Nat):=dm prog 148 [A,x1 (Prod.fst (x0 z (Prod.snd i0))),x1 (Prod.snd (x0 z (Prod.snd i0)))] (DV.val (Value.bool g))
abbrev dA:=x1 (if (decide (i0=(0:Nat)))=true then (mR i1) else (yA i1))
abbrev dz:List Prop:=[rf (x4 z),∀i0<x4 z,rf (x3 z i0 z.X z.X'),rf (x5 z),∀i0<x5 z,rf (x3 z i0 z.Y z.Y'),rf z.n,∀i0<z.n,rf (z.X i0),∀i0<z.n,rf (z.Y i0),rf z.m,∀i0<z.m,rf (z.X' i0),∀i0<z.m,rf (z.Y' i0),rf false,p]
abbrev dG:List DV:=[DV.dN [DV.di (x4 z) [fun i0=>x1 (x3 z i0 z.X z.X')]],DV.dN [DV.di (x5 z) [fun i0=>x1 (x3 z i0 z.Y z.Y')]]]
abbrev dL:=VT.done [g=J7 z.n z.X z.Y z.m z.X' z.Y']
abbrev xt:VT:=VT.da [(2:Nat)<=(2:Nat),dm prog 147 [DV.di 2 [fun i0=>DV.di (if (decide (i0=(0:Nat)))=true then z.n else z.m) [fun i1=>dA i0 i1 z.X z.X',fun i1=>dA i0 i1 z.Y z.Y']]] (DV.jL (175:FuncId) (dG z))] (VT.da (FG prog (175:FuncId) (dG z) (x6 z) (fun i0=>x9 z i0)::(∀i0<x6 z,List.length (x9 z i0)=Array.size (List.toArray [(11:Nat),(12:Nat)]))::dz z (∀(i0:Nat),x7 z (i0∈[]) i0)) (VT.cut (List Nat×Nat) (fun (i0:List Nat×Nat)=>(∀(i1:Nat),x7 z (i1∈(Prod.fst i0)) i1)/\Prod.snd i0<x6 z/\List.length (Prod.fst i0)<x6 z/\(∀(i1:Nat),(i1∈(Prod.fst i0))->i1<x6 z)) (VT.cut Unit (fun (i0:Unit)=> ∀(i0:Nat),x7 z (i0∈(List.range (x6 z))) i0) (VT.done []) (fun (i0:Unit)=>dL z false)) (fun (i0:List Nat×Nat)=>VT.da (dC z (x2 z z.m z.m z.X' z.Y' i0) (DV.di z.m [fun i0=>x1 (z.X' i0),fun i0=>x1 (z.Y' i0)]) i0::x8 z (x8 z (x8 z [x2 z z.m z.m z.X' z.Y' i0=true->dC z (x2 z z.n z.n z.X z.Y i0) (DV.di z.n [fun i0=>x1 (z.X i0),fun i0=>x1 (z.Y i0)]) i0,ri (x2 z z.m z.m z.X' z.Y' i0=true)] i0) i0) i0) (VT.ite (if (x2 z z.m z.m z.X' z.Y' i0)=true then (x2 z z.n z.n z.X z.Y i0) else false) (dL z true) (VT.done (dz z (∀(i1:Nat),x7 z (i1∈((Prod.fst i0)++[Prod.snd i0])) i1)))))))
end
end ww
open ww in
theorem TK (n:Nat) (X Y:Nat->Int) (m:Nat) (X' Y':Nat->Int) (hn:0<n) (jH:n<=800) (hX:kM n X) (hY:kM n Y) (hm:0<m) (Nl:m<=800) (Oo:kM m X') (Sw:kM m Y'):dm prog 108 [mh n X Y,mh m X' Y'] (dB (J7 n X Y m X' Y')):=by
 refine db dv (IC n X Y m X' Y') (V:=xt ⟨n,X,Y,m,X',Y'⟩) (by kernel_rfl) ?_
 simp only [xt,x0,x1,x2,x3,x4,x5,x6,x7,x8,x9,dC,dA,dz,dG,dL,Rf,VT.holds,dt,Sq]
 rw [y5]
 refine ⟨⟨af _,Q3 n X Y m X' Y' jH Nl⟩,⟨HH n X Y m X' Y' jH hX hY Nl Oo Sw,fun _ _=>rfl,fun k hk=>by cases hk⟩,fun _ h=> ?_,fun i ⟨h1,h2,h3,h4⟩=>⟨⟨Ma m X' Y' _ _ hm Nl Oo Sw,fun _=>Ma n X Y _ _ hn jH hX hY⟩,fun h=> ?_,fun h k hk=> ?_⟩⟩
 ·rw [bW,J7,bK,ai]
  exact fun k hk=>h k (a8.2 hk)
 ·rw [bW,J7,bA,an]
  intro fh
  have:=fh i.2 h2
  simp [ER,h.1,h.2] at this
 ·rcases aT.1 hk with hk|hk
  ·exact h1 k hk
  ·rw [au.1 hk,ER]
   cases ha:kr m X' Y' (jF n X Y m X' Y' i.2).1 (jF n X Y m X' Y' i.2).2 m with
   |false=>rfl
   |true=>rw [h ha];rfl
end Go.Abs
end
