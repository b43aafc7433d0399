/- Contracts and what they stand on. -/
import Derived.Test.YtoinjphpfpklmaaGreatDoorAbsD
import Derived.Laws.CopyRow
import Derived.Laws.Cells
import Derived.Laws.Entries
import Derived.IntWalk
import Derived.ChangeKeysEq
set_option linter.unusedVariables false
set_option linter.unusedSimpArgs false
section
namespace Go.Abs
open Go.RowKit
def dw (l:List Prop):Prop:= ∀p∈l,p
theorem dw.app {l m:List Prop} (h:dw (l++m)):dw l/\dw m:=⟨fun p hp=>h p (aP _ hp),fun p hp=>h p (aU _ hp)⟩
theorem dw.one {p:Prop} (h:dw [p]):p:=h p (au.2 rfl)
theorem dw.hd {p:Prop} {l:List Prop} (h:dw (p::l)):p:=h p ax
theorem dw.tl {p:Prop} {l:List Prop} (h:dw (p::l)):dw l:=fun q hq=>h q (ay _ hq)
theorem dn {q:Prop} (h:dw bad.vc):q:=(h False (au.2 rfl)).elim
theorem dC.all: ∀{l:List Prop},dC l->dw l
 |[],_=>fun _ hp=>by cases hp
 |[p],h=>fun q hq=>by rw [au.1 hq];exact h
 |p::q::r,h=>fun x hx=>by
  rcases aR.1 hx with rfl|hx
  ·exact h.1
  ·exact dC.all h.2 x hx
def St.fX (σ:St) (e:fg):St:={ σ with h:=e.hw++σ.h }
theorem eF (g o n:Nat):(⟨g,o,none⟩:Addr).add n=⟨g,o+n,none⟩:=by unfold Addr.add;split<;>simp_all
section
variable {P:Program} {base:Nat} {w0 w:World} {S0:Env} {σ:St} {kn:Nat->Prop} {di:Nat->Option Loc} {a:Act}
def ma (P:Program) (base:Nat) (w0:World) (S0:Env) (σ:St) (kn:Nat->Prop) (a:Act) (w:World) (id:Nat) (s:Sem Value) (e:fg):Prop:=
 ∃v w',s.run P w= .ok v w'/\ ∃eV du,R base w0 S0 (σ.fX e) eV du a w'/\Rel (dq w' base S0 du) eV du e.d v/\ ∀i,eV i->kn i\/i=id
def Still (P:Program) (base:Nat) (S0:Env) (kn:Nat->Prop) (di:Nat->Option Loc) (w:World) (s:Sem Value) (e:fg):Prop:=
 e.hw=[]/\ ∃v,s.run P w= .ok v w/\Rel (dq w base S0 di) kn di e.d v
theorem Still.runs (r:R base w0 S0 σ kn di a w) {id:Nat} {s:Sem Value} {e:fg} (h:Still P base S0 kn di w s e):ma P base w0 S0 σ kn a w id s e:=by
 obtain ⟨hw,v,hr,hv⟩:=h
 refine ⟨v,w,hr,kn,di,?_,hv,fun i hi=> .inl hi⟩
 have:σ.fX e=σ:=by unfold St.fX;rw [hw];rfl
 rw [this];exact r
theorem ee {rd:Rd} {d:DV} {v:Value} (h:dA rd d v) {kn:Nat->Prop} {di:Nat->Option Loc}:Rel rd kn di d v:=
 h.mono (fun _ _ h=>h) (fun _ h=>h.elim) fun _ _ h=>h.elim
theorem pV (r:R base w0 S0 σ kn di a w) {p:DV} {cs:List DV} {vc:List Prop} {v:Value} (h:pW σ.obj p=some (cs,vc)) (dr:dw vc)
 (hv:Rel (dq w base S0 di) kn di p v): ∃ad,v= .pointer (some ad)/\ ∀(j:Nat) (d:DV),cs[j]? =some d-> ∃u,w.cell? (ad.add j)=some u/\Rel (dq w base S0 di) kn di d u:=by
 unfold pW at h
 split at h
 ·rename_i id j
  split at h
  ·rename_i cs0 ho
   simp only [aa,aB] at h
   obtain ⟨rfl,rfl⟩:=h
   obtain ⟨_,g,C,cv,T,hl,hh,hs,hr,_⟩:=r.eC _ _ ho
   cases hv with
   |ptr hk _ hp=>
    refine ⟨_,hp g C hl,fun j' d hd=> ?_⟩
    rw [bK] at hd
    have dR:j+j'<cv.size:=by
     rw [hs];exact (ai.1 hd).1
    refine ⟨cv[j+j'],?_,hr _ _ _ hd (az dR)⟩
    rw [eF]
    simp [World.cell?,hh,dR]
  ·cases h
 ·rename_i s id i j
  split at h
  ·rename_i n dp ho
   cases hb:Nat.beq dp.length s
   ·simp [hb] at h
   ·simp only [hb,ao,aa,aB] at h
    obtain ⟨rfl,rfl⟩:=h
    have Ze:dp.length=s:=af hb
    subst Ze
    have hi:i<n:=dr.one
    obtain ⟨_,mJ⟩:=r.eC _ _ ho
    rcases mJ with ⟨_,hn⟩|⟨g,C,cv,T,hl,hh,hs,hn,hr⟩
    ·omega
    ·cases hv with
     |ka hk _ hp=>
      refine ⟨_,hp g C hl,fun j' d hd=> ?_⟩
      rw [aw,bK] at hd
      cases hc:dp[j+j']? with
      |none=>simp [hc] at hd
      |some f=>
       simp only [hc,aA,aa] at hd
       subst hd
       obtain ⟨u,hu,_,hrel⟩:=hr i (j+j') f hi hc
       refine ⟨u,?_,ee hrel⟩
       rw [eF]
       simp only [World.cell?,hh]
       rw [show i*dp.length+j+j'=i*dp.length+(j+j') by omega,hu]
       rfl
  ·rename_i n dp ho
   cases hb:Nat.beq dp.length s
   ·simp [hb] at h
   ·simp only [hb,ao,aa,aB] at h
    obtain ⟨rfl,rfl⟩:=h
    have Ze:dp.length=s:=af hb
    subst Ze
    have hi:i<n:=dr.one
    obtain ⟨_,mJ⟩:=r.eC _ _ ho
    rcases mJ with ⟨_,hn⟩|⟨g,o,C,cv,T,hl,hh,hs,hn,hr⟩
    ·omega
    ·cases hv with
     |ka hk _ hp hp2=>
      have Gl:v= .pointer (some ⟨g,o+(i*dp.length+j),none⟩):=by
       rcases hl with hl|⟨hl,rfl⟩
       ·exact hp2 g o C hl
       ·rw [aE];exact hp g C hl
      refine ⟨_,Gl,fun j' d hd=> ?_⟩
      rw [aw,bK] at hd
      cases hc:dp[j+j']? with
      |none=>simp [hc] at hd
      |some f=>
       simp only [hc,aA,aa] at hd
       subst hd
       obtain ⟨u,hu,_,hrel⟩:=hr i (j+j') f hi hc
       refine ⟨u,?_,ee hrel⟩
       rw [eF]
       simp only [World.cell?,hh]
       rw [show o+(i*dp.length+j)+j'=o+(i*dp.length+(j+j')) by omega,hu]
       rfl
  ·cases h
 ·rename_i cs0
  simp only [aa,aB] at h
  obtain ⟨rfl,rfl⟩:=h
  cases hv with
  |dV U ha ho hr=>exact ⟨_,rfl,fun j d hd=>⟨U j,o6 (ha j d hd).1 (ho j d hd),ee (hr j d hd)⟩⟩
 ·cases h
theorem mX {t:TypeId} {b:Bool} (h:yO P t=some b) (w:World):(isAgg t).run P w= .ok b w:=by
 unfold yO at h
 split at h
 ·rename_i hu;cases h;simp [isAgg,run_underlying hu]
 ·rename_i hu;cases h;simp [isAgg,run_underlying hu]
 ·rename_i d h1 h2 hu
  cases h
  simp only [isAgg,Sem.run_bind,run_underlying hu,Result.andThen_ok]
  rfl
 ·cases h
theorem fM {t:TypeId} {n:Nat} (h:iv P t=some n) (w:World):(sizeOf t).run P w= .ok n w:=by
 unfold iv at h
 split at h
 ·rename_i i hi;cases h;simp [sizeOf,typeInfo,hi]
 ·cases h
theorem vS (r:R base w0 S0 σ kn di a w) {t:TypeId} {p:DV} {v:Value} (dr:dw (r5 P σ.obj t p).vc)
 (hv:Rel (dq w base S0 di) kn di p v):Still P base S0 kn di w (Instr.loadAt t v) (r5 P σ.obj t p):=by
 unfold r5 at dr ⊢
 split at dr
 ·rename_i n cs vc h1 h2 h3
  cases hb:Nat.ble n cs.length
  ·simp only [hb,ar] at dr;exact dn dr
  ·simp only [hb,ao] at dr ⊢
   have hn:n<=cs.length:=aC hb
   obtain ⟨ad,rfl,hc⟩:=pV r h3 dr hv
   refine ⟨rfl,.agg ((List.range n).map fun j=>(w.cell? (ad.add j)).getD undef).toArray,?_,?_⟩
   ·have hl:=run_loadCells (P:=P) w ad n (fun j=>(w.cell? (ad.add j)).getD undef) (fun j hj=>by
     obtain ⟨u,hu,_⟩:=hc j cs[j] (ak (by omega))
     rw [hu];rfl)
    simp only [Instr.loadAt,Instr.sureAddr,loadVar,Sem.run_bind,Sem.run_pure,Result.andThen_ok,mX h1,ba,fM h2,hl]
   ·refine Rel.nd (by simp;omega) fun j d u hd hu=> ?_
    rw [bS] at hd
    split at hd
    ·rename_i hj
     obtain ⟨u',qV,hrel⟩:=hc j d hd
     simp [hj,qV] at hu
     subst hu;exact hrel
    ·cases hd
 ·rename_i n d rest vc h1 h2 h3
  obtain ⟨ad,rfl,hc⟩:=pV r h3 dr hv
  obtain ⟨u,hu,hrel⟩:=hc 0 d rfl
  refine ⟨rfl,u,?_,hrel⟩
  have qV:w.cell? ad=some u:=by simpa [Addr.add] using hu
  simp [Instr.loadAt,Instr.sureAddr,loadVar,mX h1,qV]
 ·exact dn dr
theorem Bi {ad:Addr} {fd:Field} {k:Nat} (h:iv P fd.type=some (k+1)) (w:World):(fieldPlace ad fd).run P w= .ok (ad.add fd.offset) w:=by
 simp [fieldPlace,fM h]
theorem add_add (ad:Addr) (i j:Nat):(ad.add i).add j=ad.add (i+j):=by
 unfold Addr.add
 by_cases hi:i=0<;>by_cases hj:j=0<;>simp [hi,hj,cC]
theorem G5 {id j:Nat} {v:Value} {rd:Rd} (hv:Rel rd kn di (.ptr id j) v):kn id/\(∃p,v= .pointer (some p))/\ ∀g C,di id=some (.at_ g C)->v= .pointer (some ⟨g,j,none⟩):=by
 cases hv with|ptr hk hv h=>exact ⟨hk,hv,h⟩
theorem vU {s:TypeId} {x:DV} {f:Nat} {v:Value} {e:fg} (he:r6 P s x f=e) (dr:dw e.vc)
 (hv:Rel (dq w base S0 di) kn di x v):Still P base S0 kn di w (Instr.fieldAt s v f) e:=by
 unfold r6 at he
 split at he
 ·rename_i fs hu
  split at he
  ·rename_i fd hf
   split at he
   ·rename_i k hk
    have run: ∀ad,(Instr.fieldAt s (.pointer (some ad)) f).run P w= .ok (.pointer (some (ad.add fd.offset))) w:=fun ad=>by
     simp [Instr.fieldAt,run_underlying hu,hf,Instr.sureAddr,Bi hk]
    split at he
    ·rename_i id j
     subst he
     cases hv with
     |ptr kr hp h=>
      obtain ⟨ad,rfl⟩:=hp
      refine ⟨rfl,_,run ad,.ptr kr ⟨_,rfl⟩ fun g C hb=> ?_⟩
      have:=h g C hb
      simp only [Value.pointer.injEq,aa] at this
      rw [this,eF]
    ·rename_i s' id i j
     subst he
     cases hv with
     |ka kr hp h h2=>
      obtain ⟨ad,rfl⟩:=hp
      refine ⟨rfl,_,run ad,.ka kr ⟨_,rfl⟩ (fun g C hb=> ?_) fun g o C hb=> ?_⟩
      ·have:=h g C hb
       simp only [Value.pointer.injEq,aa] at this
       rw [this,eF,cC]
      ·have:=h2 g o C hb
       simp only [Value.pointer.injEq,aa] at this
       rw [this,eF,cC,cC]
    ·rename_i s' id i j
     have key: ∀q,j+fd.offset=q->({ d:= .kO s' id i q }:fg)=e->Still P base S0 kn di w (Instr.fieldAt s v f) e:=fun q hq he=>by
      subst he
      cases hv with
      |kO kr hp h=>
       obtain ⟨ad,rfl⟩:=hp
       refine ⟨rfl,_,run ad,.kO kr ⟨_,rfl⟩ fun g C bs hb=> ?_⟩
       have:=h g C bs hb
       simp only [Value.pointer.injEq,aa] at this
       rw [this,eF,cC,hq]
     split at he
     ·rename_i hq;exact key 0 hq he
     ·rename_i hq;exact key 1 hq he
     ·rename_i hq;exact key 2 hq he
     ·rename_i hq;exact key 3 hq he
     ·subst he;exact dn dr
    ·rename_i cs
     subst he
     cases hv with
     |dV U ha ho hr=>
      refine ⟨rfl,_,run _,.dV (fun j=>U (fd.offset+j)) (fun j d hd=> ?_) (fun j d hd=> ?_) fun j d hd=> ?_⟩
      ·rw [bK] at hd
       rw [add_add];exact ha _ _ hd
      ·rw [bK] at hd
       exact ho _ _ hd
      ·rw [bK] at hd
       exact hr _ _ hd
    ·subst he;exact dn dr
   ·subst he;exact dn dr
  ·subst he;exact dn dr
 ·subst he;exact dn dr
theorem eR {x:DV} {v:Value} {cs:List DV} {rd:Rd} (hv:Rel rd kn di x v) (h:ju x=some cs):
 ∃vs,v= .agg vs/\vs.size=cs.length/\ ∀(j:Nat) (d:DV) (u:Value),cs[j]? =some d->vs[j]? =some u->Rel rd kn di d u:=by
 unfold ju at h
 split at h
 ·cases h
  cases hv with
  |agg hs hr=>exact ⟨_,rfl,hs,hr⟩
 ·cases h
  cases hv
  refine ⟨_,rfl,by simp,fun j d u hd hu=> ?_⟩
  simp only [aw,bo,hu,aA,aa] at hd
  subst hd;exact .val u
 ·cases h
theorem Az {t:TypeId} {cs:List DV} {vs:Array Value} {rd:Rd} {off n:Nat} (h1:yO P t=some true) (h2:iv P t=some n) (hn:off+n<=cs.length) (hs:vs.size=cs.length)
 (hr: ∀(j:Nat) (d:DV) (u:Value),cs[j]? =some d->vs[j]? =some u->Rel rd kn di d u):
 ∃v,(part t vs off).run P w= .ok v w/\Rel rd kn di (nd ((cs.drop off).take n)) v:=by
 refine ⟨.agg (vs.extract off (off+n)),by simp [part,mX h1,fM h2],?_⟩
 refine Rel.nd (by simp;omega) fun j d u hd hu=> ?_
 rw [bS] at hd
 split at hd
 ·rename_i hj
  rw [bK] at hd
  rw [Array.getElem?_extract] at hu
  split at hu
  ·exact hr _ _ _ hd hu
  ·cases hu
 ·cases hd
theorem AA {t:TypeId} {cs:List DV} {vs:Array Value} {rd:Rd} {off:Nat} {d:DV} (h1:yO P t=some false) (hd:cs[off]? =some d) (hs:vs.size=cs.length)
 (hr: ∀(j:Nat) (d:DV) (u:Value),cs[j]? =some d->vs[j]? =some u->Rel rd kn di d u):
 ∃v,(part t vs off).run P w= .ok v w/\Rel rd kn di d v:=by
 have dR:off<vs.size:=by rw [hs];exact (ai.1 hd).1
 have hu:vs[off]? =some vs[off]:=az dR
 exact ⟨vs[off],by simp [part,mX h1,hu],hr _ _ _ hd hu⟩
theorem CC {t:TypeId} {x:DV} {f:Nat} {v:Value} {e:fg} (he:Fu P t x f=e) (dr:dw e.vc)
 (hv:Rel (dq w base S0 di) kn di x v):Still P base S0 kn di w (Instr.field t v f) e:=by
 unfold Fu at he
 split at he
 ·rename_i fs hu
  split at he
  ·rename_i fd hf
   split at he
   ·rename_i n cs h1 h2 h3
    cases hb:Nat.ble (fd.offset+n) cs.length
    ·simp only [hb,ar] at he;subst he;exact dn dr
    ·simp only [hb,ao] at he
     subst he
     obtain ⟨vs,rfl,hs,hr⟩:=eR hv h3
     obtain ⟨v,dN,hrel⟩:=Az (w:=w) h1 h2 (aC hb) hs hr
     exact ⟨rfl,v,by simp [Instr.field,run_underlying hu,hf,asAgg,dN],hrel⟩
   ·rename_i n cs h1 h2 h3
    split at he
    ·rename_i d hd
     subst he
     obtain ⟨vs,rfl,hs,hr⟩:=eR hv h3
     obtain ⟨v,dN,hrel⟩:=AA (w:=w) h1 hd hs hr
     exact ⟨rfl,v,by simp [Instr.field,run_underlying hu,hf,asAgg,dN],hrel⟩
    ·subst he;exact dn dr
   ·subst he;exact dn dr
  ·subst he;exact dn dr
 ·subst he;exact dn dr
theorem y7 {x:DV} {i:Nat} {v:Value} {e:fg} (he:xO x i=e) (dr:dw e.vc)
 (hv:Rel (dq w base S0 di) kn di x v):Still P base S0 kn di w (Instr.extract v i) e:=by
 unfold xO at he
 split at he
 ·split at he
  ·rename_i d hd
   subst he
   cases hv with
   |fC hs hr=>
    rename_i vs
    have dR:i<vs.size:=by rw [hs];exact (ai.1 hd).1
    have hu:vs[i]? =some vs[i]:=az dR
    exact ⟨rfl,vs[i],by simp [Instr.extract,hu],hr _ _ _ hd hu⟩
  ·subst he;exact dn dr
 ·split at he
  ·rename_i u hu
   subst he
   cases hv
   exact ⟨rfl,u,by simp [Instr.extract,hu],.val u⟩
  ·subst he;exact dn dr
 ·subst he;exact dn dr
theorem Hv (_r:R base w0 S0 σ kn di a w) {id s:Nat} (h:je σ.obj id s=true): ∃n dp,σ.obj id=some (.row n dp)/\dp.length=s:=by
 unfold je at h
 split at h
 ·rename_i n dp ho;exact ⟨n,dp,ho,af h⟩
 ·cases h
theorem kJ (r:R base w0 S0 σ kn di a w) {s id off len:Nat} {v:Value} (h:je σ.obj id s=true) (hv:Rel (dq w base S0 di) kn di (.row s id off len) v):
 kn id/\((v= .slice none 0 0/\off=0/\len=0/\di id=some .nil)\/(∃g C,v= .slice (some ⟨g,off*s,none⟩) len (C - off)/\off+len<=C/\di id=some (.at_ g C))\/(0<off/\len=0/\ ∃p c,v= .slice p 0 c)):=by
 obtain ⟨n,dp,ho,hs⟩:=Hv r h
 obtain ⟨_,lU⟩:=r.eC _ _ ho
 cases hv with
 |row hk hp h0 h=>
  refine ⟨hk,?_⟩
  rcases lU with ⟨hl,_⟩|⟨g,C,cv,T,hl,_⟩
  ·obtain ⟨e1,e2,e3⟩:=h0 hl;exact .inl ⟨e1,e2,e3,hl⟩
  ·rcases h g C hl with ⟨e1,e2⟩|⟨e1,rfl⟩
   ·exact .inr (.inl ⟨g,C,e1,e2,hl⟩)
   ·exact .inr (.inr ⟨e1,rfl,let ⟨p,c,e,_⟩:=hp;⟨p,c,e⟩⟩)
theorem GY (r:R base w0 S0 σ kn di a w) {s id off len:Nat} {v:Value} (h:xB σ.obj id s=true) (hv:Rel (dq w base S0 di) kn di (.row s id off len) v):
 kn id/\((v= .slice none 0 0/\off=0/\len=0/\di id=some .nil)\/(∃g o C,v= .slice (some ⟨g,o+off*s,none⟩) len (C - off)/\off+len<=C/\(di id=some (.sub g o C)\/(di id=some (.at_ g C)/\o=0)))\/(0<off/\len=0/\ ∃p c,v= .slice p 0 c)):=by
 cases hb:je σ.obj id s with
 |true=>
  obtain ⟨hk,h1|⟨g,C,e,hC,hl⟩|h1⟩:=kJ r hb hv
  ·exact ⟨hk,.inl h1⟩
  ·exact ⟨hk,.inr (.inl ⟨g,0,C,by rw [aE];exact e,hC,.inr ⟨hl,rfl⟩⟩)⟩
  ·exact ⟨hk,.inr (.inr h1)⟩
 |false=>
  unfold xB at h
  split at h
  ·rename_i n dp ho;unfold je at hb;rw [ho] at hb;simp only at hb;rw [hb] at h;cases h
  ·rename_i n dp ho
   obtain ⟨_,lU⟩:=r.eC _ _ ho
   cases hv with
   |row hk hp h0 h1 h2=>
    refine ⟨hk,?_⟩
    rcases lU with ⟨hl,_⟩|⟨g,o,C,cv,T,hl,_⟩
    ·obtain ⟨e1,e2,e3⟩:=h0 hl;exact .inl ⟨e1,e2,e3,hl⟩
    ·rcases hl with hl|⟨hl,rfl⟩
     ·rcases h2 g o C hl with ⟨e1,e2⟩|⟨e1,rfl⟩
      ·exact .inr (.inl ⟨g,o,C,e1,e2,.inl hl⟩)
      ·exact .inr (.inr ⟨e1,rfl,let ⟨p,c,e,_⟩:=hp;⟨p,c,e⟩⟩)
     ·rcases h1 g C hl with ⟨e1,e2⟩|⟨e1,rfl⟩
      ·exact .inr (.inl ⟨g,0,C,by rw [aE];exact e1,e2,.inr ⟨hl,rfl⟩⟩)
      ·exact .inr (.inr ⟨e1,rfl,let ⟨p,c,e,_⟩:=hp;⟨p,c,e⟩⟩)
  ·cases h
theorem FL (off i:Nat):ml off i=off+i:=by cases off<;>simp [ml]
theorem HQ (r:R base w0 S0 σ kn di a w) {t ty:TypeId} {x:DV} {v:Value} {e:fg} (he:Ec P σ.obj t x=e) (dr:dw e.vc)
 (hv:Rel (dq w base S0 di) kn di x v):Still P base S0 kn di w (Builtin.len_ #[t] ty #[v]) e:=by
 unfold Ec at he
 split at he
 ·rename_i s id off len
  split at he
  ·rename_i el hu
   subst he
   cases hv with
   |row hk hp _ _ _=>
    obtain ⟨p,c,rfl,_⟩:=hp
    exact ⟨rfl,_,by simp [Builtin.len_,run_underlying hu];rfl,.val _⟩
  ·subst he;exact dn dr
 ·rename_i s id len
  split at he
  ·rename_i el hu
   subst he
   cases hv with
   |s6 hk hp _=>
    obtain ⟨p,c,rfl,_⟩:=hp
    exact ⟨rfl,_,by simp [Builtin.len_,run_underlying hu];rfl,.val _⟩
  ·subst he;exact dn dr
 ·unfold RO at he
  split at he
  ·split at he
   ·rename_i el hu
    subst he
    cases hv with
    |dt U hc ha hn _ hr=>exact ⟨rfl,_,by simp [Builtin.len_,run_underlying hu];rfl,.val _⟩
   ·subst he;exact dn dr
  ·split at he
   ·rename_i el hu
    subst he
    cases hv
    exact ⟨rfl,_,by simp [Builtin.len_,run_underlying hu];rfl,.val _⟩
   ·subst he;exact dn dr
  ·split at he
   ·rename_i hu
    subst he
    cases hv
    exact ⟨rfl,_,by simp [Builtin.len_,run_underlying hu];rfl,.val _⟩
   ·subst he;exact dn dr
  ·subst he;exact dn dr
end
end Go.Abs
end
section
namespace Go.Abs
open Go.RowKit
section
variable {P:Program} {base:Nat} {w0 w:World} {S0:Env} {σ:St} {kn:Nat->Prop} {di:Nat->Option Loc} {a:Act}
theorem pK {n:Int} (h:dh n):IntKind.i64.wrap n=n:=IntWalk.i64_in n h
theorem and3 {x:Int} (h0:0<=x) (h1:x<=9223372036854775807):IntKind.i64.wrap ((BitVec.ofInt 64 x&&&BitVec.ofInt 64 3).toNat:Int)=x%4:=by
 have e:(BitVec.ofInt 64 x&&&BitVec.ofInt 64 3).toNat=(x%4).toNat:=by
  obtain ⟨n,rfl⟩:=Int.eq_ofNat_of_zero_le h0
  have h3:(BitVec.ofInt 64 3).toNat=3:=by decide
  have hn:(BitVec.ofInt 64 (n:Int)).toNat=n:=by
   rw [BitVec.ofInt_natCast,BitVec.toNat_ofNat,Nat.mod_eq_of_lt (by omega)]
  rw [BitVec.toNat_and,h3,hn]
  have:=Nat.and_two_pow_sub_one_eq_mod n 2
  simp only [Nat.reducePow,Nat.reduceSub] at this
  rw [this]
  omega
 rw [e]
 exact (pK (n:=((x%4).toNat:Int)) ⟨by omega,by omega⟩).trans (by omega)
theorem HR {oc:fx} {op:BinOp} {k:IntKind} {x y:Int} {e:fg} {t:TypeId} {ox oy:Operand} (he:RP oc op k x y=e) (dr:dw e.vc):
 Still P base S0 kn di w (do eqGuard op t ox oy (.int k x) (.int k y);binOp op t (.int k x) (.int k y)) e:=by
 have ok: ∀u,e.d= .val u->e.hw=[]->(do eqGuard op t ox oy (.int k x) (.int k y);binOp op t (.int k x) (.int k y):Sem Value).run P w= .ok u w->Still P base S0 kn di w (do eqGuard op t ox oy (.int k x) (.int k y);binOp op t (.int k x) (.int k y)) e:=by
  intro u hd hw hr
  exact ⟨hw,u,hr,by rw [hd];exact .val u⟩
 unfold RP at he
 split at he
 ·subst he;exact ok _ rfl rfl (by simp [eqGuard,binOp,Op.intCmp])
 ·subst he;exact ok _ rfl rfl (by simp [eqGuard,binOp,Op.intCmp])
 ·subst he;exact ok _ rfl rfl (by simp [eqGuard,binOp,Op.intCmp])
 ·subst he;exact ok _ rfl rfl (by simp [eqGuard,binOp,Op.intCmp])
 ·subst he;exact ok _ rfl rfl (by simp [eqGuard,binOp,Op.intCmp])
 ·subst he;exact ok _ rfl rfl (by simp [eqGuard,binOp,Op.intCmp])
 ·split at he
  ·subst he;exact ok _ rfl rfl (by simp [eqGuard,binOp,Op.intArith,pK dr.one])
  ·subst he;exact ok _ rfl rfl (by simp [eqGuard,binOp,Op.intArith])
 ·subst he;exact ok _ rfl rfl (by simp [eqGuard,binOp,Op.intArith])
 ·split at he
  ·subst he;exact ok _ rfl rfl (by simp [eqGuard,binOp,Op.intArith,pK dr.one])
  ·subst he;exact ok _ rfl rfl (by simp [eqGuard,binOp,Op.intArith])
 ·subst he;exact ok _ rfl rfl (by simp [eqGuard,binOp,Op.intArith])
 ·split at he
  ·subst he;exact ok _ rfl rfl (by simp [eqGuard,binOp,Op.intArith,pK dr.one])
  ·subst he;exact ok _ rfl rfl (by simp [eqGuard,binOp,Op.intArith])
 ·subst he;exact ok _ rfl rfl (by simp [eqGuard,binOp,Op.intArith])
 ·split at he
  ·subst he
   obtain ⟨h1,h2,h3⟩:=dr.one
   have hq:x.tdiv y=x/y:=Int.tdiv_eq_ediv_of_nonneg h1
   have nU:dh (x/y):=⟨by have:=cq h1 (Int.le_of_lt h2);omega,by have:=Int.ediv_le_self y h1;omega⟩
   exact ok _ rfl rfl (by simp [eqGuard,binOp,Op.intDiv,show y≠0 by omega,hq,pK nU])
  ·subst he;exact dn dr
 ·subst he;exact ok _ rfl rfl (by simp [eqGuard,binOp,Op.intDiv,dr.one])
 ·subst he
  obtain ⟨h1,h2⟩:=dr.one
  exact ok _ rfl rfl (by simp [eqGuard,binOp,Op.intDiv,show y≠0 by omega,Int.tmod_eq_emod_of_nonneg h1])
 ·subst he;exact ok _ rfl rfl (by simp [eqGuard,binOp,Op.intDiv,dr.one])
 ·split at he
  ·subst he
   obtain ⟨h1,h2,rfl⟩:=dr.one
   have h3:=and3 h1 h2
   rw [show BitVec.ofInt 64 3=3#64 from rfl] at h3
   exact ok _ rfl rfl (by
    simp only [eqGuard,binOp,Op.intBits,IntKind.bits]
    simp
    exact h3)
  ·subst he;exact dn dr
 ·subst he;exact dn dr
theorem HO {op:BinOp} {x y:ByteArray} {e:fg} {t:TypeId} {ox oy:Operand} (he:RM op x y=e) (dr:dw e.vc):
 Still P base S0 kn di w (do eqGuard op t ox oy (.string x) (.string y);binOp op t (.string x) (.string y)) e:=by
 have ok: ∀u,e.d= .val u->e.hw=[]->(do eqGuard op t ox oy (.string x) (.string y);binOp op t (.string x) (.string y):Sem Value).run P w= .ok u w->Still P base S0 kn di w (do eqGuard op t ox oy (.string x) (.string y);binOp op t (.string x) (.string y)) e:=by
  intro u hd hw hr
  exact ⟨hw,u,hr,by rw [hd];exact .val u⟩
 unfold RM at he
 split at he
 ·subst he
  have h:=dr.one
  exact ok _ rfl rfl (by simp [eqGuard,binOp,Op.stringOp];omega)
 ·subst he;exact ok _ rfl rfl (by simp [eqGuard,binOp,Op.stringOp])
 ·subst he;exact ok _ rfl rfl (by simp [eqGuard,binOp,Op.stringOp])
 ·subst he;exact ok _ rfl rfl (by simp [eqGuard,binOp,Op.stringOp])
 ·subst he;exact dn dr
theorem HW {oc:fx} {op:BinOp} {d1 d2:DV} {v1 v2:Value} {e:fg} {t:TypeId} {ox oy:Operand} (he:RT oc op d1 d2=e) (dr:dw e.vc)
 (h1:Rel (dq w base S0 di) kn di d1 v1) (h2:Rel (dq w base S0 di) kn di d2 v2):
 Still P base S0 kn di w (do eqGuard op t ox oy v1 v2;binOp op t v1 v2) e:=by
 unfold RT at he
 split at he
 ·cases h1;cases h2
  split at he
  ·rename_i hk;subst hk;exact HR he dr
  ·subst he;exact dn dr
 ·cases h1;cases h2;exact HO he dr
 ·subst he;exact dn dr
theorem Bp {neg:Bool} {op:BinOp} {d1 d2:DV} {v1 v2:Value} {e:fg} {t:TypeId} {ox oy:Operand} (nN:op=if neg then .neq else .eql) (he:UZ P neg t d1 d2=e) (dr:dw e.vc)
 (h1:Rel (dq w base S0 di) kn di d1 v1) (h2:Rel (dq w base S0 di) kn di d2 v2):
 Still P base S0 kn di w (do eqGuard op t ox oy v1 v2;binOp op t v1 v2) e:=by
 unfold UZ at he
 split at he
 ·rename_i x y
  cases h1;cases h2
  split at he
  ·rename_i hu
   subst he;subst nN
   have he: ∀d,(Op.equalIn (d+1) t (.bool x) (.bool y)).run P w= .ok (x==y) w:=fun d=>by simp [Op.equalIn,run_underlying hu]
   have he':(Op.equal t (.bool x) (.bool y)).run P w= .ok (x==y) w:=he 9999
   refine ⟨rfl,_,?_,.val _⟩
   cases neg
   ·have hb:binOp .eql t (.bool x) (.bool y)=(do pure (.bool (<-Op.equal t (.bool x) (.bool y)))):=rfl
    have hg:(eqGuard .eql t ox oy (.bool x) (.bool y)).run P w= .ok () w:=by simp [eqGuard]
    simp only [Sem.run_bind,ab Bool.false_ne_true,hg,hb,he',Result.andThen_ok,Sem.run_pure]
   ·have hb:binOp .neq t (.bool x) (.bool y)=(do pure (.bool (!(<-Op.equal t (.bool x) (.bool y))))):=rfl
    have hg:(eqGuard .neq t ox oy (.bool x) (.bool y)).run P w= .ok () w:=by simp [eqGuard]
    simp only [Sem.run_bind,ba,hg,hb,he',Result.andThen_ok,Sem.run_pure]
  ·subst he;exact dn dr
 ·subst he;exact dn dr
theorem n9 {t:TypeId} {cs:List DV} {vs:Array Value} {rd:Rd} {off:Nat} {d:DV} (h:DL P t cs off=some d) (hs:vs.size=cs.length)
 (hr: ∀(j:Nat) (d:DV) (u:Value),cs[j]? =some d->vs[j]? =some u->Rel rd kn di d u):
 ∃v,(part t vs off).run P w= .ok v w/\Rel rd kn di d v:=by
 unfold DL at h
 split at h
 ·rename_i n h1 h2
  cases hb:Nat.ble (off+n) cs.length
  ·simp [hb] at h
  ·simp only [hb,ao,aa] at h
   subst h
   exact Az h1 h2 (aC hb) hs hr
 ·rename_i h1
  exact AA h1 h hs hr
 ·cases h
theorem qz {rd:Rd}: ∀(d:Nat) {t:TypeId} {x y:DV} {u v:Value} {b:Bool},RU P d t x y=some b->Rel rd kn di x u->Rel rd kn di y v->
 ∀k,(Op.equalIn (k+d) t u v).run P w= .ok b w
 |0,t,x,y,u,v,b,h,_,_=>by cases h
 |d+1,t,x,y,u,v,b,h,hx,hy=>by
  intro k
  rw [show k+(d+1)=(k+d)+1 from rfl]
  unfold RU at h
  split at h
  ·rename_i q hu
   split at h
   ·split at h
    ·rename_i hk
     cases h;cases hx;cases hy
     subst hk
     exact run_equalIn_int w (k+d) t _ _ _ _ hu
    ·cases h
   ·cases h
  ·rename_i hu
   split at h
   ·cases h;cases hx;cases hy
    exact run_equalIn_bool' w (k+d) t _ _ hu
   ·cases h
  ·rename_i hu
   split at h
   ·cases h;cases hx;cases hy
    exact run_equalIn_string w (k+d) t _ _ hu
   ·cases h
  ·rename_i fs hu
   split at h
   ·rename_i xs ys h1 h2
    cases hp:P.stoodInHeld t
    ·simp only [hp,ar] at h
     obtain ⟨us,rfl,hus,hur⟩:=eR hx h1
     obtain ⟨vs,rfl,zz,hvr⟩:=eR hy h2
     have hf:P.fieldsOf t=fs:=by simp [Program.fieldsOf,hu]
     rw [run_equalIn_struct w (k+d) t us vs (by rw [hf];exact hu) hp,hf]
     generalize fs.toList=l at h
     clear hf hu hx hy h1 h2
     induction l generalizing b with
     |nil=>cases h;simp [Op.eqFields]
     |cons f l ih=>
      simp only [KG] at h
      cases hn:f.name== "_"
      ·simp only [hn,ar] at h
       split at h
       ·rename_i a1 a2 g1 g2
        split at h
        ·rename_i c1 c2 e1 e2
         cases h
         obtain ⟨u1,r1,Np⟩:=n9 (w:=w) g1 hus hur
         obtain ⟨u2,r2,EJ⟩:=n9 (w:=w) g2 zz hvr
         have h3:=qz d e1 Np EJ k
         have h4:=ih _ e2
         simp only [Op.eqFields,show f.name≠ "_" from by simpa using hn,ne_eq,not_false_eq_true,ba,Sem.run_bind,r1,r2,h3,Result.andThen_ok]
         cases c1
         ·simp
         ·simpa using h4
        ·cases h
       ·cases h
      ·simp [hn] at h
    ·simp [hp] at h
   ·cases h
  ·rename_i n e hu
   split at h
   ·rename_i xs ys sz h1 h2 eW
    obtain ⟨us,rfl,hus,hur⟩:=eR hx h1
    obtain ⟨vs,rfl,zz,hvr⟩:=eR hy h2
    obtain ⟨i,hi,rfl⟩: ∃i,P.info? e=some i/\i.size=sz:=by
     unfold iv at eW
     split at eW
     ·rename_i i hi;exact ⟨i,hi,bc eW⟩
     ·cases eW
    have hc:P.cellsOf e=i.size:=by simp [Program.cellsOf,hi]
    rw [run_equalIn_array w (k+d) us vs hu hi,hc]
    generalize List.range n=l at h
    clear hx hy h1 h2
    induction l generalizing b with
    |nil=>cases h;simp [Op.eqItems]
    |cons q l ih=>
     simp only [KF] at h
     split at h
     ·rename_i a1 a2 g1 g2
      split at h
      ·rename_i c1 c2 e1 e2
       cases h
       obtain ⟨u1,r1,Np⟩:=n9 (w:=w) g1 hus hur
       obtain ⟨u2,r2,EJ⟩:=n9 (w:=w) g2 zz hvr
       have h3:=qz d e1 Np EJ k
       have h4:=ih _ e2
       simp only [Op.eqItems,Sem.run_bind,r1,r2,h3,Result.andThen_ok]
       cases c1
       ·simp
       ·simpa using h4
      ·cases h
     ·cases h
   ·cases h
  ·cases h
theorem HU {op:BinOp} {d1 d2:DV} {v1 v2:Value} {e:fg} {t:TypeId} {ox oy:Operand} (he:RR P op t d1 d2=e) (dr:dw e.vc)
 (h1:Rel (dq w base S0 di) kn di d1 v1) (h2:Rel (dq w base S0 di) kn di d2 v2):
 Still P base S0 kn di w (do eqGuard op t ox oy v1 v2;binOp op t v1 v2) e:=by
 unfold RR at he
 cases hg:P.eqGuardType P.depth t
 ·simp only [hg,ar] at he
  split at he
  ·rename_i xs ys b g1 g2 hb
   subst he
   obtain ⟨us,rfl,_,_⟩:=eR h1 g1
   obtain ⟨vs,rfl,_,_⟩:=eR h2 g2
   have:=qz (w:=w) 8 hb h1 h2 9992
   exact ⟨rfl,.bool b,by simp only [Sem.run_bind,run_eqGuard_agg w _ t ox oy us vs hg,Result.andThen_ok,run_eql_struct,this],.val _⟩
  ·rename_i xs ys b g1 g2 hb
   subst he
   obtain ⟨us,rfl,_,_⟩:=eR h1 g1
   obtain ⟨vs,rfl,_,_⟩:=eR h2 g2
   have:=qz (w:=w) 8 hb h1 h2 9992
   exact ⟨rfl,.bool !b,by simp only [Sem.run_bind,run_eqGuard_agg w _ t ox oy us vs hg,Result.andThen_ok,run_neq_struct,this],.val _⟩
  ·subst he;exact dn dr
 ·simp only [hg,ao] at he;subst he;exact dn dr
theorem HT {b:Bool} {v1:Value} {e:fg} {t:TypeId} {ox oy:Operand} (he:RQ P t oy b=e) (dr:dw e.vc) (h1:Rel (dq w base S0 di) kn di (.err b) v1):
 Still P base S0 kn di w (do eqGuard .neq t ox oy v1 .nilIface;binOp .neq t v1 .nilIface) e:=by
 unfold RQ at he
 cases hi:P.isIface t
 ·simp only [hi,ar] at he;subst he;exact dn dr
 ·simp only [hi,ao] at he
  cases oy with
  |const c=>
   simp only [Qp,ao] at he
   subst he
   cases h1 with
   |err a1 a2=>
    cases b with
    |true=>
     obtain rfl:=a1 rfl
     exact ⟨rfl,.bool false,by simp [eqGuard,run_neq_nil_nil_at w t hi],.val _⟩
    |false=>
     obtain ⟨u,p,rfl⟩:=a2 rfl
     exact ⟨rfl,.bool true,by simp [eqGuard,run_neq_iface_nil w t hi u p],.val _⟩
  |tmp c=>simp only [Qp,ar] at he;subst he;exact dn dr
  |global c=>simp only [Qp,ar] at he;subst he;exact dn dr
  |func c=>simp only [Qp,ar] at he;subst he;exact dn dr
theorem KB {op:UnOp} {d:DV} {v:Value} {e:fg} (he:ZS op d=e) (dr:dw e.vc) (h:Rel (dq w base S0 di) kn di d v):
 Still P base S0 kn di w (Op.unary op v) e:=by
 unfold ZS at he
 split at he
 ·cases h
  split at he
  ·subst he;exact ⟨rfl,.bool _,by simp [Op.unary],.val _⟩
  ·subst he;exact dn dr
 ·cases h
  split at he
  ·subst he
   refine ⟨rfl,_,?_,.val _⟩
   simp [Op.unary,Op.intArith,pK dr.one]
  ·subst he;exact dn dr
 ·subst he;exact dn dr
theorem Fv {src dst:TypeId} {d:DV} {v:Value} {e:fg} (hs: ∃q,P.underlying src=some q) (he:KE P dst d=e) (dr:dw e.vc) (h:Rel (dq w base S0 di) kn di d v):
 Still P base S0 kn di w (convert src dst v) e:=by
 obtain ⟨q,hq⟩:=hs
 unfold KE at he
 split at he
 ·cases h
  split at he
  ·rename_i hu
   subst he
   exact ⟨rfl,.int .i64 _,by simp [convert,run_underlying hq,run_underlying hu,Conv.intToInt,pK dr.one],.val _⟩
  ·rename_i k _ hu
   subst he
   exact ⟨rfl,.int k _,by simp [convert,run_underlying hq,run_underlying hu,Conv.intToInt],.val _⟩
  ·subst he;exact dn dr
 ·subst he;exact dn dr
theorem lM: ∀{cs:List DV} {k:IntKind} {l:List Int},ik cs=some (k,l)->cs=l.map fun n=> .val (.int k n):=by
 intro cs
 induction cs with
 |nil=>intro k l h;simp [ik] at h
 |cons d r ih=>
  intro k l h
  cases d with
  |val v=>
   cases v with
   |int k0 x=>
    cases r with
    |nil=>
     simp only [ik,aa,aB] at h
     obtain ⟨rfl,rfl⟩:=h;rfl
    |cons d' r'=>
     simp only [ik] at h
     cases hr:ik (d'::r') with
     |none=>simp [hr] at h
     |some q=>
      obtain ⟨k',l'⟩:=q
      simp only [hr] at h
      split at h
      ·rename_i hk
       subst hk
       simp only [aa,aB] at h
       obtain ⟨rfl,rfl⟩:=h
       rw [ih hr];rfl
      ·cases h
   |_=>cases r<;>simp [ik] at h
  |_=>cases r<;>simp [ik] at h
theorem yu {cs:List DV} {i:Nat} {d:DV} (h:cs[i]? =some d) {rd:Rd} {v:Value} (hr:Rel rd kn di d v):Rel rd kn di (Mb cs i) v:=by
 match cs,h with
 |[],h=>simp at h
 |[d'],h=>
  match i,h with
  |0,h=>simp at h;subst h;exact hr
  |i+1,h=>simp at h
 |c1::c2::r,h=>
  simp only [Mb]
  generalize c1::c2::r=cs at h
  cases hl:ik cs with
  |some q=>
   obtain ⟨k,l⟩:=q
   have:=lM hl
   subst this
   rw [aw] at h
   cases Rj:l[i]? with
   |none=>simp [Rj] at h
   |some n=>
    simp only [Rj,aA,aa] at h
    subst h
    simpa [List.getD,Rj] using hr
  |none=>simpa [List.getD,h] using hr
theorem sK: ∀(s j n:Nat) (cs:List DV) (i:Nat),i<n->(n - 1)*s+j<cs.length->(every s j n cs)[i]? =cs[i*s+j]?
 |_,_,0,_,_,h,_=>by omega
 |s,j,n+1,cs,i,hi,hl=>by
  have hj:j<cs.length:=by
   have:0<=(n+1 - 1)*s:=aq _
   omega
  simp only [every,ak hj]
  cases i with
  |zero=>simp [ak hj]
  |succ i=>
   simp only [aJ]
   have hn:n - 1+1=n:=by omega
   have hmul:(n - 1)*s+s=n*s:=by
    rw [<-bY];congr 1
   rw [sK s j n (cs.drop s) i (by omega) (by simp only [Nat.add_sub_cancel] at hl;rw [bn];omega),bK]
   congr 1
   rw [bY];omega
theorem CB {t:TypeId} {x i:DV} {v vi:Value} {e:fg} (he:Fq P t x i=e) (dr:dw e.vc)
 (hv:Rel (dq w base S0 di) kn di x v) (hi:Rel (dq w base S0 di) kn di i vi):Still P base S0 kn di w (Instr.index t v vi) e:=by
 unfold Fq at he
 split at he
 ·rename_i s k q hu
  cases hv;cases hi
  subst he
  have hk:0<=q/\q<(s.size:Int):=dr.one
  refine ⟨rfl,_,?_,.val _⟩
  have dR:q.toNat<s.size:=by omega
  have h2:s[q.toNat]? =some s[q.toNat]:=by simp [dR]
  have h3:s.data.getD q.toNat 0=s[q.toNat]:=by
   have:q.toNat<s.data.size:=dR
   unfold Array.getD
   rw [dif_pos this];rfl
  simp only [Instr.index,asIntOf,Sem.run_bind,Sem.run_pure,Result.andThen_ok,run_underlying hu,ag hk.1,h2]
  unfold lz
  rw [h3]
 ·rename_i len el k q hu
  cases hi
  split at he
  ·rename_i cs h1 h2 h3
   cases hb:Nat.beq cs.length len
   ·simp only [hb,ar] at he;subst he;exact dn dr
   ·simp only [hb,ao] at he
    subst he
    have hl:=af hb
    have hk:0<=q/\q<(len:Int):=dr.one
    obtain ⟨vs,rfl,hs,hr⟩:=eR hv h3
    have dR:q.toNat<cs.length:=by omega
    obtain ⟨u,dN,hrel⟩:=AA (w:=w) (off:=q.toNat) h1 (ak dR) hs hr
    exact ⟨rfl,u,by simp [Instr.index,asIntOf,run_underlying hu,hk,fM h2,dN],yu (ak dR) hrel⟩
  ·rename_i s cs h1 h2 h3
   cases hb:Nat.beq cs.length (len*s)
   ·simp only [hb,ar] at he;subst he;exact dn dr
   ·simp only [hb,ao] at he
    subst he
    have hl:=af hb
    have hk:0<=q/\q<(len:Int):=dr.one
    obtain ⟨vs,rfl,hs,hr⟩:=eR hv h3
    have hq:q.toNat<len:=by omega
    have hle:q.toNat*s+s<=cs.length:=by
     rw [hl,<-bY];exact aK _ hq
    refine ⟨rfl,.agg (vs.extract (q.toNat*s) (q.toNat*s+s)),by simp [Instr.index,asIntOf,run_underlying hu,hk,fM h2,part,mX h1],Rel.nd (by simp;omega) fun j d u hd qV=> ?_⟩
    have hj:j<s:=by
     have:=(ai.1 hd).1
     simpa using this
    rw [aw,List.getElem?_range hj] at hd
    simp only [aA,aa] at hd
    subst hd
    rw [Array.getElem?_extract] at qV
    split at qV
    ·have hlen:(len - 1)*s+j<cs.length:=by
      rw [hl]
      have:(len - 1)*s+s=len*s:=by rw [<-bY];congr 1;omega
      omega
     have e1:=sK s j len cs q.toNat hq hlen
     have dR:q.toNat*s+j<cs.length:=by omega
     rw [ak dR] at e1
     exact yu e1 (hr _ _ _ (ak dR) qV)
    ·cases qV
  ·subst he;exact dn dr
 ·subst he;exact dn dr
end
end Go.Abs
end
section
namespace Go.Abs
open Go.RowKit
theorem zm:eL=Value.oneCell':=by funext v;cases v<;>rfl
theorem zh {α:Type} (l m:List α) (j k:Nat) (h:j+m.length<=l.length):
 (l.take j++(m++l.drop (j+m.length)))[k]? =if k<j then l[k]? else if k<j+m.length then m[k - j]? else l[k]? :=by
 by_cases h1:k<j
 ·rw [ag h1,aW (by rw [aQ];omega),bS,ag h1]
 ·rw [ab h1,bk (by rw [aQ];omega),aQ]
  have hm:min j l.length=j:=by omega
  rw [hm]
  by_cases h2:k<j+m.length
  ·rw [ag h2,aW (by omega)]
  ·rw [ab h2,bk (by omega),bK]
   congr 1;omega
theorem yg {P:Program} {t:TypeId} {z:List DV} (h:n3 P t=some z): ∃v,(∀w:World,(zeroValue t).run P w= .ok v w)/\v.cells.size=z.length/\
 (∀(rd:Rd) (kn:Nat->Prop) (di:Nat->Option Loc) (j:Nat) (d:DV) (u:Value),z[j]? =some d->v.cells[j]? =some u->Rel rd kn di d u)/\ ∀u∈v.cells.toList,eL u=true:=by
 unfold n3 at h
 split at h
 ·rename_i i hi
  split at h
  ·rename_i v hz
   refine ⟨v,fun w=>by simp [zeroValue,typeInfo,hi,hz],?_,?_,?_⟩
   ·exact (Rel.cells (rd:=fun _ _=>True) (kn:=fun _=>True) (di:=fun _=>none) (.val v) h).1
   ·exact fun rd kn di=>(Rel.cells (rd:=rd) (kn:=kn) (di:=di) (.val v) h).2.1
   ·exact (Rel.cells (rd:=fun _ _=>True) (kn:=fun _=>True) (di:=fun _=>none) (.val v) h).2.2
  ·cases h
 ·cases h
def V1:DV->Prop
 |.ptr .. | .ka .. | .dV _| .jt .. | .oB .. | .val (.func (.func _) _ _)=>True
 |_=>False
section
variable {P:Program} {base:Nat} {w0 w:World} {S0:Env} {σ:St} {kn:Nat->Prop} {di:Nat->Option Loc} {a:Act}
theorem Qv (r:R base w0 S0 σ kn di a w) {id:Nat} (fJ: ¬kn id) {T:TypeId} {v:Value} {cs:List DV} (hs:v.cells.size=cs.length)
 (hr: ∀(j:Nat) (d:DV) (u:Value),cs[j]? =some d->v.cells[j]? =some u->Rel (dq w base S0 di) kn di d u) (h1: ∀u∈v.cells.toList,eL u=true) {s:Sem Value}
 (dN:s.run P w= .ok (.pointer (some ⟨w.heap.size,0,none⟩)) (w.alloc (.cells v.cells T))):
 ma P base w0 S0 σ kn a w id s { d:= .ptr id 0,hw:=[(id,some (.box cs))] }:=by
 have q:=r.new (C:=0) (T:=T) fJ (o:= .box cs) (cv:=v.cells) (.inl ⟨_,rfl⟩) ⟨w.heap.size,0,v.cells,T,rfl,heap_alloc_new w _,hs,hr,h1⟩
 refine ⟨_,_,dN,_,_,q,.ptr (.inr rfl) ⟨_,rfl⟩ fun g C hb=> ?_,fun i hi=>hi⟩
 simp only [ba,aa,Loc.at_.injEq] at hb
 rw [<-hb.1]
theorem CI (r:R base w0 S0 σ kn di a w) {id:Nat} (fJ: ¬kn id) {t:TypeId} {e:fg} {wV:Value} (he:Fx P id t=e) (dr:dw e.vc):
 ma P base w0 S0 σ kn a w id (Instr.alloc t true wV) e:=by
 unfold Fx at he
 split at he
 ·rename_i z hz
  subst he
  obtain ⟨v,dN,hs,hr,h1⟩:=yg hz
  exact Qv r fJ (T:=t) (v:=v) hs (hr _ _ _) h1 (by simp [Instr.alloc,dN,newVar,newRow])
 ·subst he;exact dn dr
theorem HV (r:R base w0 S0 σ kn di a w) {id:Nat} (fJ: ¬kn id) {t:TypeId} {e:fg} {x:DV} {v:Value} (he:RS id x=e) (dr:dw e.vc)
 (hv:Rel (dq w base S0 di) kn di x v):ma P base w0 S0 σ kn a w id (Instr.box t v) e:=by
 unfold RS at he
 split at he
 ·rename_i cs hc
  subst he
  obtain ⟨hs,hr,h1⟩:=hv.cells hc
  exact Qv r fJ (T:=t) (v:=v) hs hr h1 (by simp [Instr.box,newVar,newRow])
 ·subst he;exact dn dr
theorem JZ {b:Bool} {x y u:Value} (h:GU b x y=some u):u=if b=true then x else y:=by
 unfold GU at h
 split at h
 ·split at h
  ·rename_i hk;subst hk;cases h;cases b<;>rfl
  ·cases h
 ·cases h;cases b<;>rfl
 ·cases h;cases b<;>rfl
 ·cases h
section sels
variable {rd:Rd}
def wM (rd:Rd) (b:Bool) (d e:DV) (v:Value):Prop:=(b=true->dA rd d v)/\(b=false->dA rd e v)
theorem Ai {b:Bool} {d e:DV} {v:Value} (h:wM rd b d e v):dA rd (P7 b d e) v:=by
 unfold P7
 split
 ·rename_i x y
  split
  ·rename_i u hu
   rw [JZ hu]
   cases b
   ·exact h.2 rfl
   ·exact h.1 rfl
  ·exact .any v
 ·exact .any v
theorem j7 (f:DV->DV->DV): ∀(c d:List (Nat->DV)) (j:Nat) (g:Nat->DV),(mT f c d)[j]? =some g-> ∃x y,c[j]? =some x/\d[j]? =some y/\g=fun i=>f (x i) (y i)
 |[],_,j,g,h=>by simp [mT] at h
 |_::_,[],j,g,h=>by simp [mT] at h
 |x::c,y::d,0,g,h=>by
  simp only [mT,aL,aa] at h
  exact ⟨x,y,rfl,rfl,h.symm⟩
 |x::c,y::d,j+1,g,h=>by
  simp only [mT,aJ] at h
  simpa using j7 f c d j g h
theorem zM (f:DV->DV->DV): ∀(c d:List (Nat->DV)),c.length=d.length->(mT f c d).length=c.length
 |[],[],_=>rfl
 |x::c,y::d,h=>by simp only [mT,aH];rw [zM f c d (by simpa using h)]
 |[],_::_,h=>by simp at h
 |_::_,[],h=>by simp at h
theorem uQ {b:Bool} {n n':Nat} {c c':List (Nat->DV)} {v:Value} {f:DV->DV->DV} (hf: ∀{d e v},wM rd b d e v->dA rd (f d e) v) (hl:c.length=c'.length)
 (h:wM rd b (.dt n c) (.dt n' c') v):dA rd (.dt (if b=true then n else n') (mT f c c')) v:=by
 have hlen:=zM f c c' hl
 cases b
 ·have:=h.2 rfl
  cases this with
  |dt U hc ha hn ho hr=>
   refine .dt U (by simpa using hc) (fun i j g hi hj=> ?_) (by simpa using hn) (fun i j g hi hj=>let ⟨_,y,_,hy,_⟩:=j7 f c c' j g hj;ho i j y (by simpa using hi) hy) fun i j g hi hj=> ?_
   ·obtain ⟨x,y,hx,hy,_⟩:=j7 f c c' j g hj
    rw [hlen,hl]
    exact ha i j y (by simpa using hi) hy
   ·obtain ⟨x,y,hx,hy,rfl⟩:=j7 f c c' j g hj
    exact hf ⟨(fun h=>by cases h),fun _=>hr i j y (by simpa using hi) hy⟩
 ·have:=h.1 rfl
  cases this with
  |dt U hc ha hn ho hr=>
   refine .dt U (by simpa using hc) (fun i j g hi hj=> ?_) (by simpa using hn) (fun i j g hi hj=>let ⟨x,_,hx,_,_⟩:=j7 f c c' j g hj;ho i j x (by simpa using hi) hx) fun i j g hi hj=> ?_
   ·obtain ⟨x,y,hx,hy,_⟩:=j7 f c c' j g hj
    rw [hlen]
    exact ha i j x (by simpa using hi) hx
   ·obtain ⟨x,y,hx,hy,rfl⟩:=j7 f c c' j g hj
    exact hf ⟨fun _=>hr i j x (by simpa using hi) hx,(fun h=>by cases h)⟩
theorem Ah {b:Bool} {d e:DV} {v:Value} (h:wM rd b d e v):dA rd (P6 b d e) v:=by
 unfold P6
 split
 ·rename_i n c n' c'
  cases hb:Nat.beq c.length c'.length
  ·exact .any v
  ·exact uQ Ai (af hb) h
 ·exact Ai h
theorem eJ {b:Bool} {d e:DV} {v:Value} (h:wM rd b d e v):dA rd (th b d e) v:=by
 unfold th
 split
 ·rename_i n c n' c'
  cases hb:Nat.beq c.length c'.length
  ·exact .any v
  ·exact uQ Ah (af hb) h
 ·exact Ah h
end sels
theorem fH: ∀{cs:List DV},DV.closed.go cs=true-> ∀d∈cs,d.closed=true
 |[],_,d,hd=>by cases hd
 |c::r,h,d,hd=>by
  simp only [DV.closed.go] at h
  cases hc:c.closed
  ·simp [hc] at h
  ·simp only [hc,ao] at h
   rcases aR.1 hd with rfl|hd
   ·exact hc
   ·exact fH h d hd
theorem Rel.close {rd:Rd} {kn:Nat->Prop} {di:Nat->Option Loc} {d:DV} {v:Value} (h:Rel rd kn di d v):d.closed=true->dA rd d v:=by
 induction h with
 |val v=>intro _;exact .val v
 |agg hs _ ih=>intro hc;exact .agg hs fun j d u hd hu=>ih j d u hd hu (fH hc d (aD hd))
 |fC hs _ ih=>intro hc;exact .fC hs fun j d u hd hu=>ih j d u hd hu (fH hc d (aD hd))
 |dt U hc ha hn ho hr _=>intro _;exact .dt U hc ha hn ho hr
 |dV U ha ho hr _=>intro _;exact .dV U ha ho hr
 |mp es h0 ha hk hh hd hs h _=>intro _;exact .mp es h0 ha hk hh hd hs h
 |lg=>intro hc;simp [DV.closed] at hc
 |tok=>intro hc;simp [DV.closed] at hc
 |s6=>intro hc;simp [DV.closed] at hc
 |kO=>intro hc;simp [DV.closed] at hc
 |jt hs _ ih=>intro hc;exact .jt hs fun j d u hd hu=>ih j d u hd hu (fH hc d (aD hd))
 |oB hs _ ih=>intro hc;exact .oB hs fun j d u hd hu=>ih j d u hd hu (fH hc d (aD hd))
 |ptr=>intro hc;simp [DV.closed] at hc
 |ka=>intro hc;simp [DV.closed] at hc
 |row=>intro hc;simp [DV.closed] at hc
 |opt=>intro hc;simp [DV.closed] at hc
 |err a b=>intro _;exact .err a b
 |whole h=>intro _;exact .whole h
 |any=>intro _;exact .any _
theorem Rel.un {rd:Rd} {d:DV} {v:Value} (h:Rel rd kn di d v):(∀b,d.nw =some b->b=true)->Rel rd kn di d.un v:=by
 induction h with
 |opt hb _ ih=>
  rename_i b d v _
  intro hc
  have yA:b=true:=by
   simp only [DV.nw] at hc
   split at hc
   ·exact hc _ rfl
   ·have:=hc _ rfl;simp at this;exact this.1
  refine ih yA fun c hcd=> ?_
  have:=hc (b&&c) (by simp only [DV.nw,hcd])
  simp at this;exact this.2
 |val v=>intro _;exact .val v
 |agg hs hr _=>intro _;exact .agg hs hr
 |fC hs hr _=>intro _;exact .fC hs hr
 |dt U hc ha hn ho hr _=>intro _;exact .dt U hc ha hn ho hr
 |dV U ha ho hr _=>intro _;exact .dV U ha ho hr
 |mp es h0 ha hk hh hd hs h _=>intro _;exact .mp es h0 ha hk hh hd hs h
 |lg a b c=>intro _;exact .lg a b c
 |tok a b c=>intro _;exact .tok a b c
 |s6 a b c=>intro _;exact .s6 a b c
 |kO a b c=>intro _;exact .kO a b c
 |jt hs hr _=>intro _;exact .jt hs hr
 |oB hs hr _=>intro _;exact .oB hs hr
 |ptr a b c=>intro _;exact .ptr a b c
 |ka a b c d=>intro _;exact .ka a b c d
 |row a b c d e=>intro _;exact .row a b c d e
 |err a b=>intro _;exact .err a b
 |whole h=>intro _;exact .whole h
 |any=>intro _;exact .any _
theorem Fo {c x y:DV} {vc vx vy:Value} {e:fg} (he:KC c x y=e) (dr:dw e.vc) (hc:Rel (dq w base S0 di) kn di c vc)
 (hx:Rel (dq w base S0 di) kn di x vx) (hy:Rel (dq w base S0 di) kn di y vy):
 Still P base S0 kn di w (do pure (if <-asBool vc then vx else vy)) e:=by
 unfold KC at he
 split at he
 ·rename_i p hp
  subst he
  obtain ⟨h1,h2⟩:=dw.app dr
  obtain ⟨h2,h3⟩:=dw.app h2
  have hcu:=hc.un (fun b hb=>by rw [hb] at h1;exact h1.one)
  rw [hp] at hcu
  cases hcu
  refine ⟨rfl,if p=true then vx else vy,by simp [asBool],?_⟩
  show Rel _ _ _ (th p x.un y.un) _
  have side:th p x.un y.un= .any\/(x.un.closed=true/\y.un.closed=true):=by
   unfold th
   split
   ·rename_i hx hy;rw [hx,hy];exact .inr ⟨rfl,rfl⟩
   ·unfold P6
    split
    ·rename_i hx hy;rw [hx,hy];exact .inr ⟨rfl,rfl⟩
    ·unfold P7
     split
     ·rename_i hx hy;rw [hx,hy];exact .inr ⟨rfl,rfl⟩
     ·exact .inl rfl
  rcases side with hs|⟨s1,s2⟩
  ·rw [hs];exact .any _
  ·refine ee (eJ ⟨fun hp1=> ?_,fun hp1=> ?_⟩)
   ·subst hp1
    simp only [ba]
    exact (hx.un (fun b hb=>by rw [hb] at h2;exact h2.one rfl)).close s1
   ·subst hp1
    simp only [bT,cE]
    exact (hy.un (fun b hb=>by rw [hb] at h3;exact h3.one rfl)).close s2
 ·subst he;exact dn dr
theorem HP {x:DV} {v:Value} {rd:Rd} (hv:Rel rd kn di x v) (h:V1 x):(∃ad,v= .pointer (some ad))\/ ∃f fs cs,v= .func (.func f) fs cs:=by
 cases hv with
 |ptr _ hp _=>exact .inl hp
 |ka _ hp _=>exact .inl hp
 |dV U ha hr=>exact .inl ⟨_,rfl⟩
 |jt hs hr=>exact .inr ⟨_,_,_,rfl⟩
 |oB hs hr=>exact .inr ⟨_,_,_,rfl⟩
 |val v=>
  cases v<;>try exact False.elim h
  rename_i fn _ _
  cases fn<;>try exact False.elim h
  exact .inr ⟨_,_,_,rfl⟩
 |_=>exact h.elim
theorem qq: ∀{xs:List DV} {l:List Int},oH xs=some l->xs=l.map fun n=> .val (.int .i64 n)
 |[],l,h=>by simp [oH] at h;subst h;rfl
 |d::r,l,h=>by
  cases d with
  |val v=>
   cases v with
   |int k x=>
    cases k with
    |i64=>
     simp only [oH] at h
     cases hr:oH r with
     |none=>simp [hr] at h
     |some q=>
      simp only [hr,aa] at h
      subst h
      rw [qq hr];rfl
    |_=>simp [oH] at h
   |_=>simp [oH] at h
  |_=>simp [oH] at h
theorem GW: ∀(l:List Int) (x:Int),((l.map fun n=>Value.int .i64 n).foldlM Builtin.min2 (.int .i64 x)).run P w= .ok (.int .i64 (iD x l)) w
 |[],x=>rfl
 |y::r,x=>by simp only [bR,List.foldlM_cons,Sem.run_bind,Builtin.min2,Sem.run_pure,Result.andThen_ok,GW r,iD]
theorem GX: ∀(l:List Int) (x:Int),((l.map fun n=>Value.int .i64 n).foldlM Builtin.max2 (.int .i64 x)).run P w= .ok (.int .i64 (hP x l)) w
 |[],x=>rfl
 |y::r,x=>by simp only [bR,List.foldlM_cons,Sem.run_bind,Builtin.max2,Sem.run_pure,Result.andThen_ok,GX r,hP]
end
end Go.Abs
end
section
namespace Go.Abs
open Go.RowKit
theorem rk (i:Nat): ∀(cs:List (Nat->DV)) (vs:List DV) (m:Nat) (f:Nat->DV),vs.length<=cs.length->(kI i cs vs)[m]? =some f->
 ∃c,cs[m]? =some c/\((vs.length<=m/\f=c)\/ ∃d,vs[m]? =some d/\f=fun i'=>th (decide (i'=i)) d (c i'))
 |cs,[],m,f,_,h=>by
  have:kI i cs []=cs:=by cases cs<;>rfl
  rw [this] at h
  exact ⟨f,h,.inl ⟨by simp,rfl⟩⟩
 |[],d::vs,m,f,hl,_=>by simp at hl
 |c::cs,d::vs,0,f,_,h=>by
  simp only [kI,aL,aa] at h
  exact ⟨c,rfl,.inr ⟨d,rfl,h.symm⟩⟩
 |c::cs,d::vs,m+1,f,hl,h=>by
  simp only [kI,aJ] at h
  have:=rk i cs vs m f (by simpa using hl) h
  simpa using this
theorem yl (i:Nat): ∀(cs:List (Nat->DV)) (vs:List DV),vs.length<=cs.length->(kI i cs vs).length=cs.length
 |cs,[],_=>by cases cs<;>rfl
 |[],_::_,h=>by simp at h
 |c::cs,d::vs,h=>by simp only [kI,aH];rw [yl i cs vs (by simpa using h)]
theorem KP {s i i' j j':Nat} (hj:j<s) (oJ:j'<s) (h:i*s+j=i'*s+j'):i=i'/\j=j':=by
 have h1:(i*s+j)/s=i:=by rw [Nat.add_comm,Nat.add_mul_div_right _ _ (by omega),Nat.div_eq_of_lt hj];omega
 have h2:(i'*s+j')/s=i':=by rw [Nat.add_comm,Nat.add_mul_div_right _ _ (by omega),Nat.div_eq_of_lt oJ];omega
 have:i=i':=by rw [<-h1,<-h2,h]
 subst this
 exact ⟨rfl,by omega⟩
theorem uS {α:Type} (l m:List α) (j k n:Nat) (hm:m.length=n) (h:j+n<=l.length):
 (l.take j++(m++l.drop (j+n)))[k]? =if k<j then l[k]? else if k<j+n then m[k - j]? else l[k]? :=by
 subst hm;exact zh l m j k h
section
variable {P:Program} {base:Nat} {w0 w:World} {S0:Env} {σ:St} {kn:Nat->Prop} {di:Nat->Option Loc} {a:Act}
theorem pQ {t:TypeId} {n g o:Nat} {v:Value} {cur:Array Value} {T:TypeId} (h:iv P t=some n) (hs:v.cells.size=n) (hg:w.heap[g]? =some (.cells cur T (0,0)))
 (hl:o+n<=cur.size) (h1: ∀u∈v.cells.toList,eL u=true):
 (Instr.storeAt t (.pointer (some ⟨g,o,none⟩)) v).run P w= .ok () (w.setRow g (cur.toList.take o++(v.cells.toList++cur.toList.drop (o+n))).toArray):=by
 have hlen:v.cells.toList.length=n:=by simpa using hs
 have:=run_storeCells_at (P:=P) g o T v.cells.toList 0 cur w hg (by omega) (fun u hu=>by rw [<-zm];exact h1 u hu)
 simp only [bV,cA] at this
 rw [hlen] at this
 simp [Instr.storeAt,Instr.sureAddr,storeVar,fM h,hs,this]
theorem Cv (r:R base w0 S0 σ kn di a w) {t:TypeId} {p d:DV} {vp vd:Value} {e:fg} (he:sL P σ.obj t p d=e) (dr:dw e.vc)
 (hp:Rel (dq w base S0 di) kn di p vp) (hd:Rel (dq w base S0 di) kn di d vd):
 e.d= .any/\ ∃w',(Instr.storeAt t vp vd).run P w= .ok () w'/\R base w0 S0 (σ.fX e) kn di a w':=by
 unfold sL at he
 split at he
 ·rename_i n vs hn zz
  obtain ⟨hs,hr,h1⟩:=hd.cells zz
  cases hb:Nat.beq n vs.length
  ·simp only [hb,ar] at he;subst he;exact dn dr
  ·simp only [hb,ao] at he
   obtain rfl:=af hb
   split at he
   ·rename_i id j
    split at he
    ·rename_i cs ho
     cases gJ:Nat.ble (j+vs.length) cs.length
     ·simp only [gJ,ar] at he;subst he;exact dn dr
     ·simp only [gJ,ao] at he
      subst he
      have hle:=aC gJ
      obtain ⟨hk,g,C,cv,T,hl,hh,uF,hrel,NR⟩:=r.eC _ _ ho
      obtain ⟨_,_,hpv⟩:=G5 hp
      obtain rfl:=hpv g C hl
      have hvl:vd.cells.toList.length=vs.length:=by simpa using hs
      refine ⟨rfl,_,pQ hn hs hh (by omega) h1,?_⟩
      refine r.GF hl (by simp) rfl rfl rfl (fun k hk=>setRow_other w g k _ hk) fun mono _=>⟨g,C,_,T,rfl,setRow_heap w g cv _ T _ hh,?_,fun k d u hd hu=> ?_,fun u hu=> ?_⟩
      ·simp only [bZ,aS,aQ,bn,bF];omega
      ·rw [cy,uS _ _ _ _ _ hvl (by simpa [uF] using hle)] at hu
       rw [zh _ _ _ _ hle] at hd
       refine mono ?_
       split at hd
       ·rename_i hk;rw [ag hk] at hu;exact hrel k d u hd (by simpa using hu)
       ·rename_i hk
        rw [ab hk] at hu
        split at hd
        ·rename_i oo;rw [ag oo] at hu;exact hr _ d u hd (by simpa using hu)
        ·rename_i oo;rw [ab oo] at hu;exact hrel k d u hd (by simpa using hu)
      ·simp only [aO] at hu
       rcases hu with hu|hu|hu
       ·exact NR _ (List.mem_of_mem_take hu)
       ·exact h1 _ hu
       ·exact NR _ (List.mem_of_mem_drop hu)
    ·subst he;exact dn dr
   ·rename_i s id i j
    split at he
    ·rename_i n' dp ho
     cases gJ:(Nat.beq dp.length s&&Nat.ble (j+vs.length) s&&DV.closed.go vs)
     ·simp only [gJ,ar] at he;subst he;exact dn dr
     ·simp only [gJ,ao] at he
      subst he
      simp only [an] at gJ
      obtain ⟨⟨gJ,Jt⟩,iH⟩:=gJ
      obtain rfl:=af gJ
      have hle:=aC Jt
      have hi:i<n':=dr.one
      obtain ⟨hk,mJ⟩:=r.eC _ _ ho
      rcases mJ with ⟨_,h0⟩|⟨g,C,cv,T,hl,hh,eW,hC,hrel⟩
      ·omega
      ·have hpv: ∀g C,di id=some (.at_ g C)->vp= .pointer (some ⟨g,i*dp.length+j,none⟩):=by cases hp with|ka _ _ h=>exact h
       obtain rfl:=hpv g C hl
       have hvl:vd.cells.toList.length=vs.length:=by simpa using hs
       have kq:i*dp.length+j+vs.length<=cv.size:=by
        have:i*dp.length+dp.length<=C*dp.length:=by rw [<-bY];exact aK _ (by omega)
        omega
       refine ⟨rfl,_,pQ hn hs hh kq h1,?_⟩
       have ug:(dp.take j++kI i (dp.drop j) vs).length=dp.length:=by
        rw [aS,yl _ _ _ (by rw [bn];omega),aQ,bn];omega
       refine r.GF hl (by simp) rfl rfl rfl (fun k hk=>setRow_other w g k _ hk) fun _ tu=> .inr ⟨g,C,_,T,rfl,setRow_heap w g cv _ T _ hh,?_,hC,fun i' j' f lV hf=> ?_⟩
       ·rw [ug]
        simp only [bZ,aS,aQ,bn,bF];omega
       ·rw [ug]
        have oJ:j'<dp.length:=by rw [<-ug];exact (ai.1 hf).1
        have hcf:dp[j']? =some dp[j']:=ak oJ
        obtain ⟨u0,Y9,hone0,Q9⟩:=hrel i' j' _ lV hcf
        rw [cy,uS _ _ _ _ _ hvl (by simpa using kq)]
        simp only [bo]
        by_cases Zx:i'=i/\j<=j'/\j'<j+vs.length
        ·obtain ⟨rfl,hj1,O8⟩:=Zx
         rw [ab (by omega),ag (by omega)]
         have ll:(kI i' (dp.drop j) vs)[j' - j]? =some f:=by
          rw [bk (by rw [aQ];omega),aQ] at hf
          rwa [show min j dp.length=j by omega] at hf
         obtain ⟨c,hc,⟨iG,_⟩|⟨d',rT,rfl⟩⟩:=rk i' _ vs _ f (by rw [bn];omega) ll
         ·omega
         ·have dR:j' - j<vd.cells.size:=by omega
          have hu:vd.cells[j' - j]? =some vd.cells[j' - j]:=az dR
          refine ⟨vd.cells[j' - j],?_,h1 _ (bw.2 (Array.getElem_mem _)),?_⟩
          ·rw [show i'*dp.length+j' - (i'*dp.length+j)=j' - j by omega];exact hu
          ·refine tu (eJ ⟨fun _=> ?_,fun h=> ?_⟩)
           ·exact (hr _ d' _ rT hu).close (fH iH _ (aD rT))
           ·simp at h
        ·have fe: ¬(¬i'*dp.length+j'<i*dp.length+j/\i'*dp.length+j'<i*dp.length+j+vs.length):=by
          rintro ⟨hx,hy⟩
          obtain ⟨m,hm⟩: ∃m,i'*dp.length+j'=i*dp.length+(j+m):=⟨i'*dp.length+j' - (i*dp.length+j),by omega⟩
          obtain ⟨e1,e2⟩:=KP oJ (by omega) hm
          exact Zx ⟨e1,by omega,by omega⟩
         refine ⟨u0,?_,hone0,?_⟩
         ·split
          ·exact Y9
          ·rename_i hx;rw [ab (fun hy=>fe ⟨hx,hy⟩)];exact Y9
         ·refine tu ?_
          by_cases hjj:j'<j
          ·rw [aW (by rw [aQ];omega),bS,ag hjj,hcf] at hf
           cases hf;exact Q9
          ·have ll:(kI i (dp.drop j) vs)[j' - j]? =some f:=by
            rw [bk (by rw [aQ];omega),aQ] at hf
            rwa [show min j dp.length=j by omega] at hf
           obtain ⟨c,hc,h⟩:=rk i _ vs _ f (by rw [bn];omega) ll
           rw [bK,show j+(j' - j)=j' by omega,hcf] at hc
           cases hc
           rcases h with ⟨_,rfl⟩|⟨d',rT,rfl⟩
           ·exact Q9
           ·have hm:j' - j<vs.length:=(ai.1 rT).1
            have ji:i'≠i:=fun e=>Zx ⟨e,by omega,by omega⟩
            refine eJ ⟨fun h=> ?_,fun _=>Q9⟩
            simp at h;exact absurd h ji
    ·subst he;exact dn dr
   ·subst he;exact dn dr
 ·subst he;exact dn dr
end
end Go.Abs
end
