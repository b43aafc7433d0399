/- append and calls, as the abstract machine has them. -/
import Derived.Test.YtoinjphpfpklmaaGreatDoorAbsKS
set_option linter.unusedVariables false
set_option linter.unusedSimpArgs false
namespace Go.Abs
open Go.RowKit
theorem pJ (n:Nat): ∀(c d:List (Nat->DV)) (j:Nat) (g:Nat->DV),(kF n c d)[j]? =some g-> ∃x y,c[j]? =some x/\d[j]? =some y/\g=By n x y
 |[],_,j,g,h=>by simp [kF] at h
 |_::_,[],j,g,h=>by simp [kF] at h
 |x::c,y::d,0,g,h=>by
  simp only [kF,aL,aa] at h
  exact ⟨x,y,rfl,rfl,h.symm⟩
 |x::c,y::d,j+1,g,h=>by
  simp only [kF,aJ] at h
  simpa using pJ n c d j g h
theorem pI (n:Nat): ∀(c d:List (Nat->DV)),c.length=d.length->(kF n c d).length=c.length
 |[],[],_=>rfl
 |x::c,y::d,h=>by simp only [kF,aH];rw [pI n c d (by simpa using h)]
 |[],_::_,h=>by simp at h
 |_::_,[],h=>by simp at h
theorem sc {rd:Rd} {n m i:Nat} {c d:Nat->DV} (hi:i<n+m):(i<n-> ∀u,dA rd (c i) u->dA rd (By n c d i) u)/\(n<=i-> ∀u,dA rd (d (i - n)) u->dA rd (By n c d i) u):=by
 unfold By
 refine ⟨fun h u hr=>eJ ⟨fun _=>hr,fun e=> ?_⟩,fun h u hr=>eJ ⟨fun e=> ?_,fun _=>hr⟩⟩
 ·simp at e;omega
 ·simp at e;omega
section
variable {P:Program} {base:Nat} {w0 w w':World} {S0:Env} {σ σ':St} {kn:Nat->Prop} {di:Nat->Option Loc} {a:Act}
theorem JT {t:TypeId} {n:Nat} (h:iv P t=some n): ∃i,P.info? t=some i/\i.size=n:=by
 unfold iv at h
 split at h
 ·rename_i i hi;cases h;exact ⟨i,hi,rfl⟩
 ·cases h
theorem GI {t:TypeId} {n:Nat} {i:TypeInfo} (h:JU P t=some n) (hi:P.info? t=some i):i.bytes=n:=by
 unfold JU at h
 rw [hi] at h
 simpa using h
theorem Bs (r:R base w0 S0 σ kn di a w) {id:Nat} (fJ: ¬kn id) {t ty:TypeId} {x y:DV} {vx vy:Value} {e:fg} (he:pC P σ.obj id t x y=e) (dr:dw e.vc)
 (hx:Rel (dq w base S0 di) kn di x vx) (hy:Rel (dq w base S0 di) kn di y vy):ma P base w0 S0 σ kn a w id (Builtin.append_ #[t,t] ty #[vx,vy]) e:=by
 unfold pC at he
 split at he
 ·rename_i el hu
  split at he
  ·rename_i s Ij z hs hb hz
   obtain ⟨i,v0,hi,SU,Wp⟩:=nZ hz
   have NN:=(Wp (fun _ _=>True) (fun _=>True) (fun _=>none)).1
   cases Cs:(Nat.beq z.length s&&Nat.ble 1 s)
   ·simp only [Cs,ar] at he;subst he;exact dn dr
   ·simp only [Cs,ao] at he
    simp only [an] at Cs
    have Wc:=af Cs.1
    have Wh:0<s:=aC Cs.2
    obtain ⟨i',lV,eW⟩:=JT hs
    rw [hi] at lV
    cases lV
    have Mt:=GI hb hi
    split at he
    ·rename_i m jI Yo Uy
     cases hbc:Nat.beq jI.length s
     ·simp only [hbc,ar] at he;subst he;exact dn dr
     ·simp only [hbc,ao] at he
      have ug:=af hbc
      split at he
      ·subst he
       cases hx
       obtain ⟨A,c,news,rfl,lk,Rg,ZF,NR,Zm⟩:=mF r Uy dr.tl ug hy
       have hid0:di id=none:=r.fresh fJ
       obtain ⟨v',w',dN,eV,du,hR,hrel,hk⟩:=appendCore (ty:=ty) (n:=0) (dp:=jI) (F:=jI) r (fun _=>ag rfl) hu hi SU eW Mt (by rw [NN,Wc]) Wh ug ug (r.mover (q:=id) fJ fun l e=>by rw [hid0] at e;cases e) (.inl ⟨rfl,rfl⟩)
        lk Rg ZF NR Zm (fun rd i j f _ hf=>⟨fun h=>by omega,fun _=>⟨f,hf,fun u h=>h⟩⟩) (by have:=dr.hd;rw [aE];exact this)
       rw [aE] at hR hrel
       refine ⟨v',w',dN,eV,du,hR.congr (fun _=>rfl) (fun j=> ?_) rfl rfl rfl,hrel,hk⟩
       show ((σ.setObj id (some (.row m jI))).obj j)=_
       rw [St.dH,St.dH,St.dH]
       by_cases e:id=j<;>simp [e]
      ·rename_i s' q len
       split at he
       ·rename_i n dp fE
        cases D3:(Nat.beq s s'&&Nat.beq dp.length s)
        ·simp only [D3,ar] at he;subst he;exact dn dr
        ·simp only [D3,ao] at he
         simp only [an] at D3
         obtain rfl:=af D3.1
         have iH:=af D3.2
         have rS:je σ.obj q s=true:=by unfold je;rw [fE];exact D3.2
         obtain ⟨hkq,kD⟩:=kJ r rS hx
         obtain ⟨_,lU⟩:=r.eC _ _ fE
         have dest:len<=n->(vx= .slice none 0 0/\len=0)\/ ∃g C cv T,vx= .slice (some ⟨g,0,none⟩) len C/\len<=C/\BE di q=some g/\w.heap[g]? =some (.cells cv T (0,0))/\cv.size=C*s/\
          ∀(i j:Nat) (f:Nat->DV),i<len->dp[j]? =some f-> ∃u,cv[i*s+j]? =some u/\eL u=true/\dA (dq w base S0 di) (f i) u:=by
          intro lk
          rcases kD with ⟨h1,_,h2,h3⟩|⟨g,C,h1,h2,h3⟩|⟨h1,_⟩
          rotate_left 2
          ·omega
          ·exact .inl ⟨h1,h2⟩
          ·rcases lU with ⟨h4,_⟩|⟨g',C',cv,T,h4,hh,rR,UD,hrel⟩
           ·rw [h3] at h4;cases h4
           ·rw [h3] at h4
            cases h4
            refine .inr ⟨g,C,cv,T,by rw [h1];simp,by omega,by simp only [BE,h3],hh,by rw [rR,iH],fun i j f hi hj=> ?_⟩
            obtain ⟨u,hu,ho,hr⟩:=hrel i j f (by omega) hj
            rw [iH] at hu
            exact ⟨u,hu,ho,hr⟩
         ·subst he
          obtain ⟨A,c,news,rfl,lk,Rg,ZF,NR,Zm⟩:=mF r Uy dr.tl.tl ug hy
          obtain ⟨v',w',dN,eV,du,hR,hrel,hk⟩:=appendCore (ty:=ty) (n:=len) (dp:=dp) (F:=kF len dp jI) r (fun _=>ag rfl) hu hi SU eW Mt (by rw [NN,Wc]) Wh (by rw [pI _ _ _ (by omega),iH]) iH (r.mover (q:=q) fJ fun l e=>by
           rcases lU with ⟨h,_⟩|⟨g,C,_,_,h,_⟩<;>rw [e] at h<;>cases h
           ·exact .inl rfl
           ·exact .inr ⟨_,_,rfl⟩) (dest dr.hd)
           lk Rg ZF NR Zm (fun rd i j f lV hf=>by
            obtain ⟨c',d',h1,h2,rfl⟩:=pJ _ _ _ _ _ hf
            obtain ⟨k1,k2⟩:=sc (rd:=rd) (c:=c') (d:=d') lV
            exact ⟨fun h=>⟨c',h1,k1 h⟩,fun h=>⟨d',h2,k2 h⟩⟩) dr.tl.hd
          exact ⟨v',w',dN,eV,du,hR,hrel,hk⟩
       ·rename_i n dp fE
        cases D3:(Nat.beq s s'&&Nat.beq dp.length s)
        ·simp only [D3,ar] at he;subst he;exact dn dr
        ·simp only [D3,ao] at he
         simp only [an] at D3
         obtain rfl:=af D3.1
         have iH:=af D3.2
         have rS:xB σ.obj q s=true:=by unfold xB;rw [fE];exact D3.2
         obtain ⟨hkq,kD⟩:=GY r rS hx
         obtain ⟨_,lU⟩:=r.eC _ _ fE
         have dest:len<=n->(vx= .slice none 0 0/\len=0)\/ ∃g o C cv T,vx= .slice (some ⟨g,o,none⟩) len C/\len<=C/\Im di q=some g/\w.heap[g]? =some (.cells cv T (0,0))/\o+C*s<=cv.size/\
          ∀(i j:Nat) (f:Nat->DV),i<len->dp[j]? =some f-> ∃u,cv[o+(i*s+j)]? =some u/\eL u=true/\dA (dq w base S0 di) (f i) u:=by
          intro lk
          rcases kD with ⟨h1,_,h2,h3⟩|⟨g,o,C,h1,h2,h3⟩|⟨h1,_⟩
          rotate_left 2
          ·omega
          ·exact .inl ⟨h1,h2⟩
          ·rcases lU with ⟨h4,_⟩|⟨g',o',C',cv,T,h4,hh,rR,UD,hrel⟩
           ·rcases h3 with h3|⟨h3,_⟩<;>rw [h3] at h4<;>cases h4
           ·have hq:g'=g/\o'=o/\C'=C/\Im di q=some g:=by
             rcases h3 with h3|⟨h3,rfl⟩<;>rcases h4 with h4|⟨h4,rfl⟩<;>rw [h3] at h4<;>cases h4<;>exact ⟨rfl,rfl,rfl,by simp only [Im,h3]⟩
            obtain ⟨rfl,rfl,rfl,hbe⟩:=hq
            refine .inr ⟨g',o',C',cv,T,by rw [h1];simp,by omega,hbe,hh,by rw [<-iH];exact rR,fun i j f hi hj=> ?_⟩
            obtain ⟨u,hu,ho,hr⟩:=hrel i j f (by omega) hj
            rw [iH] at hu
            exact ⟨u,hu,ho,hr⟩
         ·subst he
          obtain ⟨A,c,news,rfl,lk,Rg,ZF,NR,Zm⟩:=mF r Uy dr.tl.tl ug hy
          obtain ⟨v',w',dN,eV,du,hR,hrel,hk⟩:=Iw (ty:=ty) (n:=len) (dp:=dp) (F:=kF len dp jI) r (fun _=>ag rfl) hu hi SU eW Mt (by rw [NN,Wc]) Wh (by rw [pI _ _ _ (by omega),iH]) iH (r.Qw (q:=q) fJ (fun l e=>by
           rcases lU with ⟨h,_⟩|⟨g,o,C,_,_,h,_⟩
           ·rw [e] at h;cases h;exact .inl rfl
           ·rcases h with h|⟨h,_⟩<;>rw [e] at h<;>cases h
            ·exact .inr ⟨_,.inr ⟨_,_,rfl⟩⟩
            ·exact .inr ⟨_,.inl ⟨_,rfl⟩⟩) (fun g hg=>Ek hg)) (dest dr.hd)
           lk Rg ZF NR Zm (fun rd i j f lV hf=>by
            obtain ⟨c',d',h1,h2,rfl⟩:=pJ _ _ _ _ _ hf
            obtain ⟨k1,k2⟩:=sc (rd:=rd) (c:=c') (d:=d') lV
            exact ⟨fun h=>⟨c',h1,k1 h⟩,fun h=>⟨d',h2,k2 h⟩⟩) dr.tl.hd
          exact ⟨v',w',dN,eV,du,hR,hrel,hk⟩
       ·subst he;exact dn dr
      ·rename_i tk mi
       split at he
       ·rename_i ks len eQ qY fE
        split at he
        ·rename_i l HD
         cases pw:Nat.beq s 1
         ·simp only [pw,ar] at he;subst he;exact dn dr
         ·simp only [pw,ao] at he
          subst he
          obtain rfl:=af pw
          obtain ⟨A,c,news,rfl,lk,Rg,ZF,NR,Zm⟩:=mF r Uy dr.tl ug hy
          obtain ⟨_,g,bs,es,clock,vL,hh,hG,rV,nV⟩:=r.eC _ _ fE
          obtain ⟨v',Wr,rW⟩:=nV tk l (sF HD)
          have jg:vx=v':=by cases hx with|tok _ _ h=>exact h v' Wr
          subst jg
          have Cr:xV w (dq w base S0 di) bs (len l) (eQ l) vx:=by
           rcases rW with ⟨e,he,hk,rfl⟩|⟨h1,rfl⟩
           ·exact hG.Ju e l he hk (by simp)
           ·exact .inl ⟨rfl,hG.E0 l h1 (by simp)⟩
          obtain ⟨D,hD,HE⟩: ∃D:Option Nat,(∀g,D=some g->g∈bs/\ ∃n C,vx= .slice (some ⟨g,0,none⟩) n C)/\((vx= .slice none 0 0/\len l=0)\/ ∃g C cv T,vx= .slice (some ⟨g,0,none⟩) (len l) C/\len l<=C/\D=some g/\w.heap[g]? =some (.cells cv T (0,0))/\cv.size=C*1/\
           ∀(i j:Nat) (f:Nat->DV),i<len l->[eQ l][j]? =some f-> ∃u,cv[i*1+j]? =some u/\eL u=true/\dA (dq w base S0 di) (f i) u):=by
           rcases Cr with ⟨h1,h0⟩|⟨g',C,cv,T,h1,h2,h3,h4,h5,h6⟩
           ·exact ⟨none,(fun _ h=>by cases h),.inl ⟨h1,h0⟩⟩
           ·refine ⟨some g',(fun _ h=>by cases h;exact ⟨h2,_,_,h1⟩),.inr ⟨g',C,cv,T,h1,h5,rfl,h3,by omega,fun i j f hi hf=> ?_⟩⟩
            have hj:j=0:=by
             have:=(ai.1 hf).1
             simp at this;exact this
            subst hj
            simp at hf
            subst hf
            simpa using h6 i hi
          obtain ⟨v',w',dN,eV,du,hR,hrel,hk⟩:=appendCore (ty:=ty) (n:=len l) (dp:=[eQ l]) (F:=kF (len l) [eQ l] jI) r (fun _=>ag rfl) hu hi SU eW Mt (by rw [NN,Wc]) Wh (by rw [pI _ _ _ (by simpa using ug.symm)];rfl) rfl (r.Y0 fJ vL hh hG rV rW hD) HE
           lk Rg ZF NR Zm (fun rd i j f lV hf=>by
            obtain ⟨c',d',h1,h2,rfl⟩:=pJ _ _ _ _ _ hf
            obtain ⟨k1,k2⟩:=sc (rd:=rd) (c:=c') (d:=d') lV
            exact ⟨fun h=>⟨c',h1,k1 h⟩,fun h=>⟨d',h2,k2 h⟩⟩) dr.hd
          exact ⟨v',w',dN,eV,du,hR,hrel,hk⟩
        ·subst he;exact dn dr
       ·subst he;exact dn dr
      ·subst he;exact dn dr
    ·subst he;exact dn dr
  ·subst he;exact dn dr
 ·subst he;exact dn dr
def gn:DV->List Nat
 |.row _ id _ _=>[id]
 |.lg id=>[id]
 |_=>[]
theorem QA (r:R base w0 S0 σ kn di a w) {m:Nat} {ks:KS} {has:List Int->Bool} {eQ:List Int->DV} {qY:Option (Nat×List Int)} {v:Value} {gF:Rd} (fc: ∀a u,dq w base S0 di a u->gF a u)
 (gu: ∀l g,di m=some l->l.has g-> ∀ad u,ad.block=g->Ar w ad u->gF ad u) (fE:σ.obj m=some (.map ks has eQ qY)) (hv:Rel (dq w base S0 di) kn di (.lg m) v):dA gF (.mp ks has eQ) v:=by
 obtain ⟨_,g,es,clock,hl,hh,hm,_,_⟩:=r.eC _ _ fE
 have Gk:v= .map (some g):=by cases hv with|lg _ _ h=>exact h g [] hl
 subst Gk
 refine .mp (es.toList.map fun e=>(e.key,e.val)) (fun h=>by cases h) (fun g' e=> ?_) (fun p hp=> ?_) (fun l hl=> ?_) ?_ (fun p hp=> ?_) fun p l hp hk=> ?_
 ·cases e
  exact gu _ g hl (.inl rfl) _ _ rfl (.inr (.inl ⟨es,clock,hh,rfl⟩))
 ·obtain ⟨e,he,rfl⟩:=bf.1 hp
  exact hm.hk e he
 ·obtain ⟨e,he,hk⟩:=hm.hh l hl
  exact ⟨_,bf.2 ⟨e,he,rfl⟩,hk⟩
 ·rw [List.pairwise_map];exact hm.hd
 ·obtain ⟨e,he,rfl⟩:=bf.1 hp
  exact hm.hs e he
 ·obtain ⟨e,he,rfl⟩:=bf.1 hp
  exact (hm.h e l he hk).mono fc (fun _ h=>h) fun _ _ h=>h.elim
theorem vD (r:R base w0 S0 σ kn di a w) {d d':DV} {vc:List Prop} {v:Value} {gF:Rd} (fc: ∀a u,dq w base S0 di a u->gF a u)
 (gu: ∀id l g,id∈gn d->di id=some l->l.has g-> ∀ad u,ad.block=g->Ar w ad u->gF ad u) (h:nh σ.obj d=some (d',vc)) (dr:dw vc) (hv:Rel (dq w base S0 di) kn di d v):
 dA gF d' v/\((∀id,id∉gn d)->dA (dq w base S0 di) d' v):=by
 have open_: ∀{d v},dA (dq w base S0 di) d v->dA gF d v:=fun h=>h.mono fc (fun _ h=>h) fun _ _ h=>h.elim
 unfold nh at h
 split at h
 ·rename_i s id off len
  refine ⟨?_,fun ji=>absurd (au.2 rfl) (ji id)⟩
  split at h
  ·rename_i n dp fE
   cases hb:Nat.beq dp.length s
   ·simp [hb] at h
   ·simp only [hb,ao] at h
    have uF:=af hb
    have rS:je σ.obj id s=true:=by unfold je;rw [fE];exact hb
    have gen: ∀nz,nz=dp.map (fun c i=>c (i+off))->len+off<=n->dA gF (.dt len nz) v:=by
     intro nz hcx hle
     have hlx:nz.length=s:=by rw [hcx];simpa using uF
     obtain ⟨_,⟨rfl,_,rfl,_⟩|⟨g,C,rfl,hC,hl⟩|⟨_,rfl,p,c,rfl⟩⟩:=kJ r rS hv
     rotate_left 2
     ·exact .dt (fun _ _=>undef) (aq _) (fun i j f hi=>by omega) (fun h=>by omega) (fun i j f hi=>by omega) fun i j f hi=>by omega
     ·exact .dt (fun _ _=>undef) (ae _) (fun i j f hi=>by omega) (fun h=>by omega) (fun i j f hi=>by omega) fun i j f hi=>by omega
     ·obtain ⟨_,lU⟩:=r.eC _ _ fE
      rcases lU with ⟨lk,_⟩|⟨g',C',cv,T,lG,hh,eW,UD,hrel⟩
      ·rw [lk] at hl;cases hl
      ·rw [hl] at lG
       cases lG
       have key: ∀(i j:Nat) (f:Nat->DV),i<len->nz[j]? =some f-> ∃u,w.cell? (Addr.add ⟨g,off*s,none⟩ (i*nz.length+j))=some u/\eL u=true/\dA (dq w base S0 di) (f i) u:=by
        intro i j f hi hf
        rw [hcx,aw] at hf
        cases oQ:dp[j]? with
        |none=>simp [oQ] at hf
        |some f'=>
         simp only [oQ,aA,aa] at hf
         subst hf
         obtain ⟨u,hu,ho,Kh⟩:=hrel (i+off) j f' (by omega) oQ
         rw [uF] at hu
         refine ⟨u,?_,ho,Kh⟩
         rw [eF,hlx]
         simp only [World.cell?,hh]
         rw [show off*s+(i*s+j)=(i+off)*s+j by rw [cd];omega,hu]
         rfl
       have val: ∀(i j:Nat) (f:Nat->DV),i<len->nz[j]? =some f->w.cell? (Addr.add ⟨g,off*s,none⟩ (i*nz.length+j))=some ((w.cell? (Addr.add ⟨g,off*s,none⟩ (i*nz.length+j))).getD undef):=by
        intro i j f hi hf
        obtain ⟨u,hu,_⟩:=key i j f hi hf
        rw [hu];rfl
       refine .dt (fun i j=>(w.cell? (Addr.add ⟨g,off*s,none⟩ (i*nz.length+j))).getD undef) (by omega) (fun i j f hi hf=>⟨_,rfl,gu id _ g (au.2 rfl) hl rfl _ _ (by rw [eF]) (.inl ⟨val i j f hi hf,by obtain ⟨u,hu,ho,_⟩:=key i j f hi hf;rw [hu];exact ho⟩)⟩) (fun _ h=>by cases h) (fun i j f hi hf=> ?_) fun i j f hi hf=> ?_
       ·obtain ⟨u,hu,ho,_⟩:=key i j f hi hf
        rw [hu];exact ho
       ·obtain ⟨u,hu,_,hr⟩:=key i j f hi hf
        rw [hu];exact open_ hr
    simp only [aa,aB] at h
    obtain ⟨rfl,rfl⟩:=h
    exact gen _ rfl dr.one
  ·cases h
 ·rename_i m
  refine ⟨?_,fun ji=>absurd (au.2 rfl) (ji m)⟩
  split at h
  ·rename_i ks has eQ qY fE
   simp only [aa,aB] at h
   obtain ⟨rfl,rfl⟩:=h
   exact QA r fc (fun l g=>gu m l g (au.2 rfl)) fE hv
  ·cases h
 ·cases hc:d.closed
  ·simp [hc] at h
  ·simp only [hc,ao,aa,aB] at h
   obtain ⟨rfl,rfl⟩:=h
   have:=hv.close hc
   exact ⟨open_ this,fun _=>this⟩
theorem o8 (r:R base w0 S0 σ kn di a w) {id g:Nat} {l:Loc} (hl:di id=some l) (hg:l.has g):S0.S g\/base<=g:=(r.ge _ _ _ hl hg).1.elim .inr fun h=> .inl (r.xs _ h)
theorem sD (r:R base w0 S0 σ kn di a w) {id g:Nat} {l:Loc} (hl:di id=some l) (hg:l.has g): ∀B,S0.wb=some B->jZ w g->g<B:=fun B hB ⟨o,h,h2⟩=>by
 rcases r.pb hl hg with ⟨_,_,h'⟩|⟨bs,_,rfl,_⟩
 ·rw [h] at h';cases h';rcases h2 with ⟨_,_,h2⟩|⟨_,_,_,_,h2⟩<;>cases h2
 ·exact r.lh B hB id g bs hl
theorem tY (r:R base w0 S0 σ kn di a w) {d d':DV} {vc:List Prop} {v:Value} (h:nh σ.obj d=some (d',vc)) (dr:dw vc) (hv:Rel (dq w base S0 di) kn di d v):
 dA (iC w S0.S base) d' v/\((∀id,id∉gn d)->dA (dq w base S0 di) d' v):=
 vD r (fun a u ⟨x,_,y,_⟩=>⟨x,y⟩) (fun id l g _ hl hg ad u e hu=>⟨hu,e▸o8 r hl hg⟩) h dr hv
theorem rI (r:R base w0 S0 σ kn di a w) {gF:Rd} (fc: ∀a u,dq w base S0 di a u->gF a u): ∀{ds es:List DV} {vc:List Prop} {vs:List Value},
 (∀d id l g,d∈ds->id∈gn d->di id=some l->l.has g-> ∀ad u,ad.block=g->Ar w ad u->gF ad u)->jT σ.obj ds=some (es,vc)->dw vc->vs.length=ds.length->
 (∀(j:Nat) (d:DV) (v:Value),ds[j]? =some d->vs[j]? =some v->Rel (dq w base S0 di) kn di d v)->
 ∀(j:Nat) (d:DV) (v:Value),es[j]? =some d->vs[j]? =some v->dA gF d v
 |[],es,vc,vs,_,h,_,_,_=>by
  simp only [jT,aa,aB] at h
  obtain ⟨rfl,rfl⟩:=h
  simp
 |d::ds,es,vc,vs,gu,h,dr,hl,hv=>by
  simp only [jT] at h
  split at h
  ·rename_i e GA MB uK h1 h2
   simp only [aa,aB] at h
   obtain ⟨rfl,rfl⟩:=h
   obtain ⟨Hz,Hy⟩:=dw.app dr
   match vs,hl with
   |v::vs,hl=>
    have k1:=(vD r fc (fun id l g hm=>gu d id l g ax hm) h1 Hz (hv 0 d v rfl rfl)).1
    have l1:=rI r fc (fun d' id l g hm=>gu d' id l g (ay _ hm)) h2 Hy (by simpa using hl) (fun j d v hd jg=>hv (j+1) d v hd jg)
    intro j d' v' hd jg
    cases j with
    |zero=>simp at hd jg;subst hd jg;exact k1
    |succ j=>exact l1 j d' v' (by simpa using hd) (by simpa using jg)
  ·cases h
def kK (i:Nat):List DV->Bool
 |[]=>false
 |.row _ id _ _::r=>decide (id=i)||kK i r
 |.lg id::r=>decide (id=i)||kK i r
 |_::r=>kK i r
theorem o4 {i:Nat}: ∀{l:List DV},kK i l=true↔ ∃d∈l,i∈gn d
 |[]=>by simp [kK]
 |d::l=>by
  have ih:=o4 (i:=i) (l:=l)
  have h1:(∃d',d'∈d::l/\i∈gn d')↔i∈gn d\/ ∃d',d'∈l/\i∈gn d':=by
   constructor
   ·rintro ⟨d',hd,hi⟩
    rcases aR.1 hd with rfl|hd
    ·exact .inl hi
    ·exact .inr ⟨d',hd,hi⟩
   ·rintro (hi|⟨d',hd,hi⟩)
    ·exact ⟨d,ax,hi⟩
    ·exact ⟨d',ay _ hd,hi⟩
  rw [h1,<-ih]
  have e1: ∀id:Nat,(i∈[id]↔id=i):=fun id=>by rw [au];exact bX
  cases d<;>simp only [kK,gn,bA,ah,List.not_mem_nil,false_or,e1]
theorem sG {h:List (Nat×Option fF)} {i:Nat}: ∀{l:List DV},look (eu l++h) i=if kK i l=true then some none else look h i
 |[]=>by simp [eu,kK]
 |d::l=>by
  have ih:=sG (h:=h) (i:=i) (l:=l)
  have own: ∀id,look ((id,none)::(eu l++h)) i=if (decide (id=i)||kK i l)=true then some none else look h i:=fun id=>by
   simp only [dG,bA,ah]
   by_cases e:id=i
   ·rw [ag e,ag (.inl e)]
   ·rw [ab e,ih]
    by_cases h2:kK i l=true
    ·rw [ag h2,ag (.inr h2)]
    ·rw [ab h2,ab (fun h=>h.elim e h2)]
  cases d with
  |row s id off len=>exact own id
  |lg id=>exact own id
  |_=>exact ih
theorem R.eu (r:R base w0 S0 σ kn di a w) (l:List DV) (hl: ∀d id v,d∈l->id∈gn d->di id≠some (.is v)):
 ∃du,R base w0 S0 { σ with h:=Abs.eu l++σ.h } kn du a w/\(∀id x,du id=some x->di id=some x)/\ ∀d id,d∈l->id∈gn d->du id=none:=by
 refine ⟨fun id=>if kK id l=true then none else di id,?_,fun id x e=> ?_,fun d id hm hi=>ag (o4.2 ⟨d,hm,hi⟩)⟩
 ·have nk: ∀i,St.obj { σ with h:=Abs.eu l++σ.h } i=if kK i l=true then none else σ.obj i:=fun i=>by
   unfold St.obj
   simp only [sG]
   by_cases h:kK i l=true
   ·rw [ag h,ag h]
   ·rw [ab h,ab h]
  refine r.step (fun _=>False) (fun i=>kK i l=true) (ae _) rfl rfl rfl (fun _ _ _=>rfl) (fun _ h=>h.elim) (fun _ h=>h) (fun i h=>ab h) (fun i v h _ e=> ?_) (fun i x g h e=> ?_) (fun i x h _ e=> ?_) rfl rfl rfl (fun _=>rfl) (fun i h=>by rw [nk,ab h])
   (fun _ _ _ i o h e=> ?_) (fun i x h e=> ?_) (fun i i' _ _ _ h _ e=> ?_) fun B _ i g bs h e=> ?_
  ·obtain ⟨d,hd,hi⟩:=o4.1 h
   exact absurd e (hl d i v hd hi)
  ·rw [ag h] at e;cases e
  ·rw [ag h] at e;cases e
  ·rw [nk,ag h] at e;cases e
  ·rw [ag h] at e;cases e
  ·rw [ag h] at e;cases e
  ·rw [ag h] at e;cases e
 ·have e:(if kK id l=true then none else di id)=some x:=e
  split at e
  ·cases e
  ·exact e
theorem zu (r:R base w0 S0 σ kn di a w) {d:DV} {p:DV×List Prop} (h:nh σ.obj d=some p): ∀id v,id∈gn d->di id≠some (.is v):=by
 intro id v hi e
 cases d with
 |row s i off len=>
  obtain rfl:=au.1 hi
  simp only [nh] at h
  split at h
  ·rename_i n dp fE
   have:=(r.eC _ _ fE).2
   rw [e] at this
   rcases this with ⟨h,_⟩|⟨_,_,_,_,h,_⟩<;>cases h
  ·cases h
 |lg i=>
  obtain rfl:=au.1 hi
  simp only [nh] at h
  split at h
  ·rename_i ks has eQ qY fE
   obtain ⟨_,_,_,h,_⟩:=(r.eC _ _ fE).2
   rw [e] at h;cases h
  ·cases h
 |_=>simp [gn] at hi
theorem rK (r:R base w0 S0 σ kn di a w): ∀{ds:List DV} {p:List DV×List Prop},jT σ.obj ds=some p-> ∀d id v,d∈ds->id∈gn d->di id≠some (.is v)
 |[],_,_,d,_,_,hd,_=>by cases hd
 |d::ds,p,h,d',id,v,hd,hi=>by
  simp only [jT] at h
  split at h
  ·rename_i e GA MB uK h1 h2
   rcases aR.1 hd with rfl|hd
   ·exact zu r h1 id v hi
   ·exact rK r h2 d' id v hd hi
  ·cases h
theorem jn (r:R base w0 S0 σ kn di a w): ∀{ds es:List DV} {vc:List Prop} {vs:List Value},jT σ.obj ds=some (es,vc)->dw vc->vs.length=ds.length->
 (∀(j:Nat) (d:DV) (v:Value),ds[j]? =some d->vs[j]? =some v->Rel (dq w base S0 di) kn di d v)->
 es.length=ds.length/\(∀(j:Nat) (d:DV) (v:Value),es[j]? =some d->vs[j]? =some v->dA (fu w (fun _=>True)) d v)/\
  (uj ds=false-> ∀(j:Nat) (d:DV) (v:Value),es[j]? =some d->vs[j]? =some v->dA (dq w base S0 di) d v)
 |[],es,vc,vs,h,_,_,_=>by
  simp only [jT,aa,aB] at h
  obtain ⟨rfl,rfl⟩:=h
  exact ⟨rfl,by simp,by simp⟩
 |d::ds,es,vc,vs,h,dr,hl,hv=>by
  simp only [jT] at h
  split at h
  ·rename_i e GA MB uK h1 h2
   simp only [aa,aB] at h
   obtain ⟨rfl,rfl⟩:=h
   obtain ⟨Hz,Hy⟩:=dw.app dr
   match vs,hl with
   |v::vs,hl=>
    obtain ⟨k1,k2⟩:=tY r h1 Hz (hv 0 d v rfl rfl)
    obtain ⟨l1,l2,l3⟩:=jn r h2 Hy (by simpa using hl) (fun j d v hd jg=>hv (j+1) d v hd jg)
    refine ⟨by simp [l1],fun j d' v' hd jg=> ?_,fun kD j d' v' hd jg=> ?_⟩
    ·cases j with
     |zero=>simp at hd jg;subst hd jg;exact k1.mono (fun a u ⟨x,_⟩=>⟨x,trivial⟩) (fun _ h=>h) fun _ _ h=>h.elim
     |succ j=>exact l2 j d' v' (by simpa using hd) (by simpa using jg)
    ·have Zn: ∀id,id∉gn d:=by
      intro id hi
      cases d<;>simp [gn] at hi<;>simp [uj] at kD
     have hrow':uj ds=false:=by
      cases d<;>simp only [uj] at kD<;>first|exact kD|cases kD
     cases j with
     |zero=>simp at hd jg;subst hd jg;exact k2 Zn
     |succ j=>exact l3 hrow' j d' v' (by simpa using hd) (by simpa using jg)
  ·cases h
theorem rB: ∀{cs:List DV},DV.plain.go cs=true-> ∀d∈cs,d.plain=true
 |[],_,d,hd=>by cases hd
 |c::r,h,d,hd=>by
  simp only [DV.plain.go] at h
  cases hc:c.plain
  ·simp [hc] at h
  ·simp only [hc,ao] at h
   rcases aR.1 hd with rfl|hd
   ·exact hc
   ·exact rB h d hd
theorem Rel.plain {rd gF:Rd} {kn:Nat->Prop} {di:Nat->Option Loc} {d:DV} {v:Value} (h:Rel rd kn di d v):d.plain=true->dA gF d v:=by
 induction h with
 |val v=>intro _;exact .val v
 |agg hs _ ih=>intro hc;exact .agg hs fun j d u hd hu=>ih j d u hd hu (rB hc d (aD hd))
 |fC hs _ ih=>intro hc;exact .fC hs fun j d u hd hu=>ih j d u hd hu (rB hc d (aD hd))
 |dt=>intro hc;simp [DV.plain] at hc
 |dV=>intro hc;simp [DV.plain] at hc
 |mp=>intro hc;simp [DV.plain] at hc
 |lg=>intro hc;simp [DV.plain] at hc
 |tok=>intro hc;simp [DV.plain] at hc
 |s6=>intro hc;simp [DV.plain] at hc
 |kO=>intro hc;simp [DV.plain] at hc
 |jt=>intro hc;simp [DV.plain] at hc
 |oB=>intro hc;simp [DV.plain] at hc
 |ptr=>intro hc;simp [DV.plain] at hc
 |ka=>intro hc;simp [DV.plain] at hc
 |row=>intro hc;simp [DV.plain] at hc
 |opt=>intro hc;simp [DV.plain] at hc
 |err=>intro hc;simp [DV.plain] at hc
 |whole=>intro hc;simp [DV.plain] at hc
 |any=>intro hc;simp [DV.plain] at hc
theorem Z9 (r:R base w0 S0 σ kn di a w) {id:Nat} {cs:List DV} {v:Value} {gF:Rd} (fc: ∀a u,dq w base S0 di a u->gF a u) (gu: ∀l g,di id=some l->l.has g-> ∀ad u,ad.block=g->Ar w ad u->gF ad u)
 (fE:σ.obj id=some (.box cs)) (hc:DV.closed.go cs=true) (hv:Rel (dq w base S0 di) kn di (.ptr id 0) v):dA gF (.dV cs) v:=by
 obtain ⟨g,C,cv,T,lH,hh,eW,hr,ho⟩:=(r.eC _ _ fE).2
 cases hv with
 |ptr hk hv h=>
  rw [h g C lH]
  have cell: ∀(j:Nat) (d:DV),cs[j]? =some d-> ∃u,cv[j]? =some u/\w.cell? (Addr.add ⟨g,0,none⟩ j)=some u:=fun j d hd=>by
   have h2:j<cv.size:=by have:=(ai.1 hd).1;omega
   refine ⟨_,az h2,?_⟩
   rw [eF,aE]
   simp only [World.cell?,hh,az h2]
   rfl
  refine .dV (fun j=>(w.cell? (Addr.add ⟨g,0,none⟩ j)).getD undef) (fun j d hd=> ?_) (fun j d hd=> ?_) fun j d hd=> ?_
  ·obtain ⟨u,h1,h3⟩:=cell j d hd
   exact gu _ g lH rfl _ _ (by rw [eF]) (.inl ⟨by rw [h3];rfl,by rw [h3];exact ho u (bw.2 (cz h1))⟩)
  ·obtain ⟨u,h1,h3⟩:=cell j d hd
   rw [h3]
   exact ho u (bw.2 (cz h1))
  ·obtain ⟨u,h1,h3⟩:=cell j d hd
   rw [h3]
   exact ((hr j d u hd h1).close (fH hc d (aD hd))).mono fc (fun _ h=>h) fun _ _ h=>h.elim
theorem Qm {d:DV} {id:Nat} (h:id∈gn d):id∈lj d:=by cases d<;>first|exact h|simp [gn] at h
theorem QF {d:DV} {id:Nat} (h:id∈lj d):id∈jA d:=by cases d<;>first|exact h|simp [lj] at h
def wN (w:World) (di:Nat->Option Loc) (gF:Rd) (ids:List Nat):Prop:= ∀id l g,id∈ids->di id=some l->l.has g-> ∀ad u,ad.block=g->Ar w ad u->gF ad u
theorem AV (r:R base w0 S0 σ kn di a w) {gF:Rd} (fc: ∀a u,dq w base S0 di a u->gF a u) {d d':DV} {vc:List Prop} {v:Value} (gu:wN w di gF (lj d)) (h:qM σ.obj d=some (d',vc)) (dr:dw vc) (hv:Rel (dq w base S0 di) kn di d v):dA gF d' v:=by
 unfold qM at h
 split at h
 ·rename_i id
  split at h
  ·rename_i cs fE
   cases hc:DV.closed.go cs
   ·simp [hc] at h
   ·simp only [hc,ao,aa,aB] at h
    obtain ⟨rfl,rfl⟩:=h
    exact Z9 r fc (fun l g=>gu id l g (au.2 rfl)) fE hc hv
  ·cases h
 ·exact (vD r fc (fun id l g hi=>gu id l g (Qm hi)) h dr hv).1
theorem xv (r:R base w0 S0 σ kn di a w) {gF:Rd} (fc: ∀a u,dq w base S0 di a u->gF a u): ∀{ds es:List DV} {vc:List Prop},wN w di gF (jA.go ds)->ng σ.obj ds=some (es,vc)->dw vc->es.length=ds.length/\
 ∀(j:Nat) (d e:DV) (v:Value),ds[j]? =some d->es[j]? =some e->Rel (dq w base S0 di) kn di d v->dA gF e v
 |[],es,vc,_,h,_=>by
  simp only [ng,aa,aB] at h
  obtain ⟨rfl,rfl⟩:=h
  exact ⟨rfl,by simp⟩
 |d::ds,es,vc,gu,h,dr=>by
  simp only [ng] at h
  split at h
  ·rename_i e GA MB uK h1 h2
   simp only [aa,aB] at h
   obtain ⟨rfl,rfl⟩:=h
   obtain ⟨k1,k2⟩:=dw.app dr
   obtain ⟨l1,l2⟩:=xv r fc (fun id l g hi=>gu id l g (aU _ hi)) h2 k2
   refine ⟨by simp [l1],fun j d' e' v hd he hv=> ?_⟩
   cases j with
   |zero=>
    simp only [aL,aa] at hd he
    subst hd he
    exact AV r fc (fun id l g hi=>gu id l g (aP _ hi)) h1 k1 hv
   |succ j=>exact l2 j d' e' v (by simpa using hd) (by simpa using he) hv
  ·cases h
theorem vG (r:R base w0 S0 σ kn di a w) {gF:Rd} (fc: ∀a u,dq w base S0 di a u->gF a u) {d d':DV} {vc:List Prop} {v:Value} (gu:wN w di gF (jA d)) (h:qN σ.obj d=some (d',vc)) (dr:dw vc) (hv:Rel (dq w base S0 di) kn di d v):dA gF d' v:=by
 unfold qN at h
 split at h
 ·rename_i f cs
  split at h
  ·rename_i es PO hl
   simp only [aa,aB] at h
   obtain ⟨rfl,rfl⟩:=h
   obtain ⟨l1,l2⟩:=xv r fc gu hl dr
   cases hv with
   |jt hs hr=>
    refine .jt (by rw [l1];exact hs) fun j d u hd hu=> ?_
    have dR:=(ai.1 hd).1
    have rT:=ak (l1▸dR)
    exact l2 j _ d u rT hd (hr j _ u rT hu)
  ·cases h
 ·rename_i cs
  split at h
  ·rename_i es PO hl
   simp only [aa,aB] at h
   obtain ⟨rfl,rfl⟩:=h
   obtain ⟨l1,l2⟩:=xv r fc gu hl dr
   cases hv with
   |agg hs hr=>
    refine .agg (by rw [l1];exact hs) fun j d u hd hu=> ?_
    have dR:=(ai.1 hd).1
    have rT:=ak (l1▸dR)
    exact l2 j _ d u rT hd (hr j _ u rT hu)
  ·cases h
 ·exact AV r fc (fun id l g hi=>gu id l g (QF hi)) h dr hv
theorem Hq (r:R base w0 S0 σ kn di a w) {d d':DV} {vc:List Prop} {v:Value} (h:qN σ.obj d=some (d',vc)) (dr:dw vc) (hv:Rel (dq w base S0 di) kn di d v):dA (fu w fun _=>True) d' v:=
 vG r (fun a u h=>⟨h.1,trivial⟩) (fun _ _ _ _ _ _ _ _ _ h=>⟨h,trivial⟩) h dr hv
theorem p9 (r:R base w0 S0 σ kn di a w): ∀{ds es:List DV} {vc:List Prop} {vs:List Value},kc σ.obj ds=some (es,vc)->dw vc->vs.length=ds.length->
 (∀(j:Nat) (d:DV) (v:Value),ds[j]? =some d->vs[j]? =some v->Rel (dq w base S0 di) kn di d v)->
 es.length=ds.length/\ ∀(j:Nat) (d:DV) (v:Value),es[j]? =some d->vs[j]? =some v->dA (fu w (fun _=>True)) d v
 |[],es,vc,vs,h,_,_,_=>by
  simp only [kc,aa,aB] at h
  obtain ⟨rfl,rfl⟩:=h
  exact ⟨rfl,by simp⟩
 |d::ds,es,vc,vs,h,dr,hl,hv=>by
  simp only [kc] at h
  split at h
  ·rename_i e GA MB uK h1 h2
   simp only [aa,aB] at h
   obtain ⟨rfl,rfl⟩:=h
   obtain ⟨Hz,Hy⟩:=dw.app dr
   match vs,hl with
   |v::vs,hl=>
    have k1:=Hq r h1 Hz (hv 0 d v rfl rfl)
    obtain ⟨l1,l2⟩:=p9 r h2 Hy (by simpa using hl) (fun j d v hd jg=>hv (j+1) d v hd jg)
    refine ⟨by simp [l1],fun j d' v' hd jg=> ?_⟩
    cases j with
    |zero=>simp at hd jg;subst hd jg;exact k1
    |succ j=>exact l2 j d' v' (by simpa using hd) (by simpa using jg)
  ·cases h
theorem DT (r:R base w0 S0 σ kn di a w) {gF:Rd} (fc: ∀a u,dq w base S0 di a u->gF a u): ∀{ds es:List DV} {vc:List Prop} {vs:List Value},wN w di gF (qH ds)->kc σ.obj ds=some (es,vc)->dw vc->vs.length=ds.length->
 (∀(j:Nat) (d:DV) (v:Value),ds[j]? =some d->vs[j]? =some v->Rel (dq w base S0 di) kn di d v)->
 ∀(j:Nat) (d:DV) (v:Value),es[j]? =some d->vs[j]? =some v->dA gF d v
 |[],es,vc,vs,_,h,_,_,_=>by
  simp only [kc,aa,aB] at h
  obtain ⟨rfl,rfl⟩:=h
  simp
 |d::ds,es,vc,vs,gu,h,dr,hl,hv=>by
  simp only [kc] at h
  split at h
  ·rename_i e GA MB uK h1 h2
   simp only [aa,aB] at h
   obtain ⟨rfl,rfl⟩:=h
   obtain ⟨Hz,Hy⟩:=dw.app dr
   match vs,hl with
   |v::vs,hl=>
    have k1:=vG r fc (fun id l g hi=>gu id l g (aP _ hi)) h1 Hz (hv 0 d v rfl rfl)
    have l1:=DT r fc (fun id l g hi=>gu id l g (aU _ hi)) h2 Hy (by simpa using hl) (fun j d v hd jg=>hv (j+1) d v hd jg)
    intro j d' v' hd jg
    cases j with
    |zero=>simp at hd jg;subst hd jg;exact k1
    |succ j=>exact l1 j d' v' (by simpa using hd) (by simpa using jg)
  ·cases h
theorem Hp (r:R base w0 S0 σ kn di a w) {d:DV} {p:DV×List Prop} (h:qM σ.obj d=some p): ∀id v,id∈lj d->di id≠some (.is v):=by
 intro id v hi e
 unfold qM at h
 split at h
 ·rename_i i
  obtain rfl:=au.1 hi
  split at h
  ·rename_i cs fE
   have:=(r.eC _ _ fE).2
   rw [e] at this
   obtain ⟨_,_,_,_,h,_⟩:=this
   cases h
  ·cases h
 ·rename_i NS
  refine zu r h id v ?_ e
  cases d with
  |ptr i off=>
   unfold nh at h
   simp [DV.closed] at h
  |_=>exact hi
theorem xw (r:R base w0 S0 σ kn di a w): ∀{ds:List DV} {p:List DV×List Prop},ng σ.obj ds=some p-> ∀id v,id∈jA.go ds->di id≠some (.is v)
 |[],_,_,_,_,hi=>by cases hi
 |d::ds,p,h,id,v,hi=>by
  simp only [ng] at h
  split at h
  ·rename_i e GA MB uK h1 h2
   rcases aO.1 hi with hi|hi
   ·exact Hp r h1 id v hi
   ·exact xw r h2 id v hi
  ·cases h
theorem QG (r:R base w0 S0 σ kn di a w) {d:DV} {p:DV×List Prop} (h:qN σ.obj d=some p): ∀id v,id∈jA d->di id≠some (.is v):=by
 intro id v hi
 unfold qN at h
 split at h
 ·split at h
  ·rename_i hl;exact xw r hl id v hi
  ·cases h
 ·split at h
  ·rename_i hl;exact xw r hl id v hi
  ·cases h
 ·rename_i h1 h2
  refine Hp r h id v ?_
  cases d with
  |jt f cs=>exact absurd rfl (h1 f cs)
  |agg cs=>exact absurd rfl (h2 cs)
  |_=>exact hi
theorem xx (r:R base w0 S0 σ kn di a w): ∀{ds:List DV} {p:List DV×List Prop},kc σ.obj ds=some p-> ∀id v,id∈qH ds->di id≠some (.is v)
 |[],_,_,_,_,hi=>by cases hi
 |d::ds,p,h,id,v,hi=>by
  simp only [kc] at h
  split at h
  ·rename_i e GA MB uK h1 h2
   rcases aO.1 hi with hi|hi
   ·exact QG r h1 id v hi
   ·exact xx r h2 id v hi
  ·cases h
theorem AL {id:Nat}: ∀{l:List Nat},id∈l->DV.lg id∈vu l
 |i::l,h=>by
  rcases aR.1 h with rfl|h
  ·exact ax
  ·exact ay _ (AL h)
theorem zp {d:DV} {id:Nat}: ∀{l:List Nat},d∈vu l->id∈gn d->id∈l
 |[],h,_=>by cases h
 |i::l,h,hi=>by
  rcases aR.1 h with rfl|h
  ·obtain rfl:=au.1 hi
   exact ax
  ·exact ay _ (zp h hi)
theorem R.MX (r:R base w0 S0 σ kn di a w) (hb:Below w.heap.size w w') {id:Nat} {l:Loc} {n:Nat} {dp:List (Nat->DV)} (fJ: ¬kn id) (rQ:S0.wb=none) (hl: ∀g C,l= .at_ g C->w.heap.size<=g/\g<w'.heap.size)
 (ho:(l= .nil/\n=0)\/ ∃g C cv T,l= .at_ g C/\w'.heap[g]? =some (.cells cv T (0,0))/\cv.size=C*dp.length/\n<=C/\
   ∀(i j:Nat) (f:Nat->DV),i<n->dp[j]? =some f-> ∃u,cv[i*dp.length+j]? =some u/\eL u=true/\dA (fun ad u=>Ar w' ad u/\ad.block≠g/\(∀id l,di id=some l-> ¬l.has ad.block)/\(S0.S ad.block\/base<=ad.block)) (f i) u):
 R base w0 S0 (σ.setObj id (some (.row n dp))) (fun i=>kn i\/i=id) (fun i=>if i=id then some l else di i) a w':=by
 refine r.newAt fJ hb (fun g hg=> ?_) (fun B hB=>by rw [rQ] at hB;cases hB) fun _ _=> ?_
 ·rcases ho with ⟨rfl,_⟩|⟨g',C,_,_,rfl,_⟩
  ·exact hg.elim
  ·cases hg;exact hl _ _ rfl
 ·rcases ho with ⟨h1,h2⟩|⟨g,C,cv,T,h1,h2,h3,h4,h5⟩
  ·exact .inl ⟨by rw [h1],h2⟩
  ·refine .inr ⟨g,C,cv,T,by rw [h1],h2,h3,h4,fun i j f hi hj=> ?_⟩
   obtain ⟨u,hu,mJ,hr⟩:=h5 i j f hi hj
   refine ⟨u,hu,mJ,hr.mono (fun ad u ⟨k1,k2,k3,k4⟩=>⟨k1,fun i' l' e hg=> ?_,k4,fun B hB=>by rw [rQ] at hB;cases hB⟩) (fun _ h=>h) fun _ _ h=>h.elim⟩
   have e:(if i'=id then some l else di i')=some l':=e
   split at e
   ·rw [h1] at e;cases e;exact k2 hg
   ·exact k3 _ _ e hg
theorem R.Qb (r:R base w0 S0 σ kn di a w) {id:Nat} {o:fF} (hk:kn id) (ho:iu w (dq w base S0 di) kn di (di id) o):R base w0 S0 (σ.setObj id (some o)) kn di a w:=by
 refine ⟨r.below,r.xs,r.fv,r.qD,r.nM,r.J2,r.lh,r.yk,r.size,r.tmps,fun i o' h=> ?_,r.inj,r.ge,fun i l e=> ?_,r.yr⟩
 ·rw [St.dH] at h
  by_cases e:id=i
  ·subst e
   simp only [ba,aa] at h
   subst h
   exact ⟨hk,ho⟩
  ·rw [ab e] at h
   exact r.eC i o' h
 ·rw [St.dH]
  by_cases e':id=i
  ·exact ⟨o,by simp [e']⟩
  ·rw [ab e'];exact r.live i l e
theorem uc {c:Nat->DV} (h:kM c) (i:Nat):c i= .val (.int .i64 (vI (c i))):=by
 have:=h i
 split at this
 ·rename_i n e
  rw [e];rfl
 ·exact this.elim
theorem R.uk (r:R base w0 S0 σ kn di a w):jv (dq w base S0 di):=fun d v hd=>(r.yk d v (aP _ hd)).close (by
 rcases P5 hd with ⟨cs,e⟩|⟨cs,e⟩<;>(rw [e];rfl))
theorem vB {α:Type}: ∀(l m:List (Nat×α)) (i:Nat),look (l++m) i=match look l i with|some v=>some v|none=>look m i
 |[],m,i=>rfl
 |(k,v)::r,m,i=>by
  simp only [aT,dG]
  by_cases h:k=i
  ·simp [h]
  ·simp only [ab h];exact vB r m i
def tid (d:DV) (o:WO):Option Nat:=match d,o with
 |.row _ id _ _,.row _=>some id
 |.ptr id _,.box _=>some id
 |_,_=>none
def zW (di:Nat->Option Loc) (d:DV) (o:WO):Option Nat:=match tid d o with
 |some id=>BE di id
 |none=>none
def oU (di:Nat->Option Loc):List DV->List WO->Nat->Option Nat
 |[],_,_=>none
 |d::_,q,0=>zW di d (PJ q)
 |_::r,q,j+1=>oU di r q.tail j
theorem uL: ∀{l:List (Nat->DV)},dw (Ew l)-> ∀f∈l,∀i,∃v,f i= .val v
 |[],_,f,hf,_=>by cases hf
 |c::r,h,f,hf,i=>by
  rcases aR.1 hf with rfl|hf
  ·have h1:=h.hd i
   split at h1
   ·rename_i v e;exact ⟨v,e⟩
   ·exact h1.elim
  ·exact uL h.tl f hf i
theorem Gu (r:R base w0 S0 σ kn di a w) {S:Nat->Prop} (hS: ∀k,(∀id l,di id=some l-> ¬l.has k)->S k) {d:DV} {o:WO} {x:WA} {hw:List (Nat×Option fF)} {vc:List Prop} {v:Value}
 (Mp: ∀id l g,id∈V0 d o->di id=some l->l.has g->S g) (h:oR σ.obj d o=some (x,hw,vc)) (dr:dw vc) (hv:Rel (dq w base S0 di) kn di d v):
 x.pre w S v (zW di d o)/\((hw=[]/\tid d o=none)\/ ∃id ob fK,hw=[(id,some fK)]/\tid d o=some id/\σ.obj id=some ob/\(∀l,di id=some l->l= .nil\/ ∃g C,l= .at_ g C)/\
  ∀{w':World} {rd:Rd} {rd2:Rd},x.post w' rd v->iu w' rd2 kn di (di id) fK):=by
 have fc: ∀a u,dq w base S0 di a u->fu w S a u:=fun ad u h=>⟨h.1,hS _ h.2.1⟩
 unfold oR at h
 split at h
 ·rename_i s id off len eB
  split at h
  ·rename_i n dp fE
   cases hb:(Nat.beq dp.length s&&Nat.beq eB.length s)
   ·simp [hb] at h
   ·simp only [hb,ao,aa,aB] at h
    obtain ⟨rfl,rfl,rfl⟩:=h
    simp only [an] at hb
    have UL:=af hb.1
    have hc2:=af hb.2
    have lk:len=n:=dr.hd
    subst lk
    have Zj:=uL dr.tl
    obtain ⟨kr,lU⟩:=r.eC _ _ fE
    have Gl:(v= .slice none 0 0/\len=0/\di id=some .nil)\/ ∃g C,v= .slice (some ⟨g,0,none⟩) len C/\di id=some (.at_ g C):=by
     cases hv with
     |row hk hp h0 h=>
      rcases lU with ⟨hl,hn⟩|⟨g,C,cv,T,hl,_⟩
      ·exact .inl ⟨(h0 hl).1,hn,hl⟩
      ·refine .inr ⟨g,C,?_,hl⟩
       rcases h g C hl with ⟨e,_⟩|⟨e,_⟩
       ·simpa using e
       ·omega
    refine ⟨⟨by omega,?_⟩,.inr ⟨id,_,_,rfl,rfl,fE,fun l hl=> ?_,fun {w' rd rd2} vK=> ?_⟩⟩
    ·rcases Gl with ⟨h1,h2,h3⟩|⟨g,C,h1,h3⟩
     ·exact .inl ⟨h1,h2,by simp only [zW,tid,BE,h3]⟩
     ·refine .inr ⟨g,C,by simp only [zW,tid,BE,h3],h1,?_⟩
      rcases lU with ⟨hl,_⟩|⟨g',C',cv,T,hl,hh,eW,hn,hc⟩
      ·rw [h3] at hl;cases hl
      ·rw [h3] at hl
       cases hl
       exact ⟨cv,T,hh,eW,hn,fun i j f hi hf=>let ⟨u,a,b,c⟩:=hc i j f hi hf;⟨u,a,b,c.mono fc (fun _ h=>h) fun _ _ h=>h.elim⟩⟩
    ·rcases Gl with ⟨_,_,h3⟩|⟨g,C,_,h3⟩<;>rw [h3] at hl<;>cases hl
     ·exact .inl rfl
     ·exact .inr ⟨_,_,rfl⟩
    ·rcases Gl with ⟨h1,h2,h3⟩|⟨g,C,h1,h3⟩
     ·exact .inl ⟨h3,h2⟩
     ·obtain ⟨cv,T,hh,eW,hn,hc⟩:=vK g C h1
      exact .inr ⟨g,C,cv,T,h3,hh,eW,hn,fun i j f hi hf=>by
       obtain ⟨u,a,b,c⟩:=hc i j f hi hf
       obtain ⟨v',e⟩:=Zj f (aD hf) i
       rw [e] at c ⊢
       have:=c.k5
       subst this
       exact ⟨_,a,b,.val _⟩⟩
  ·cases h
 ·rename_i id kS
  split at h
  ·rename_i cs fE
   cases hb:(Nat.beq kS.length cs.length&&(DV.closed.go cs&&DV.plain.go kS))
   ·simp [hb] at h
   ·simp only [hb,ao,aa,aB] at h
    obtain ⟨rfl,rfl,rfl⟩:=h
    simp only [an] at hb
    obtain ⟨pw,gJ,Jt⟩:=hb
    have hlen:=af pw
    obtain ⟨g,C,cv,T,hl,hh,eW,hr,ho⟩:=(r.eC _ _ fE).2
    have Gk:v= .pointer (some ⟨g,0,none⟩):=by cases hv with|ptr _ _ h=>exact h g C hl
    refine ⟨⟨hlen,g,by simp only [zW,tid,BE,hl],Gk,cv,T,hh,eW,fun j d u hd hu=> ?_,ho⟩,.inr ⟨id,_,_,rfl,rfl,fE,fun l lG=> ?_,fun {w' rd rd2} vK=> ?_⟩⟩
    ·exact ((hr j d u hd hu).close (fH gJ d (aD hd))).mono fc (fun _ h=>h) fun _ _ h=>h.elim
    ·rw [hl] at lG;cases lG;exact .inr ⟨_,_,rfl⟩
    ·obtain ⟨s9,T',SV,rR,O5,mJ⟩:=vK g Gk
     exact ⟨g,C,s9,T',hl,SV,rR,fun j d u hd hu=>ee ((O5 j d u hd hu).plain (rB Jt d (aD hd))),mJ⟩
  ·cases h
 ·split at h
  ·rename_i e PO hle
   simp only [aa,aB] at h
   obtain ⟨rfl,rfl,rfl⟩:=h
   have ht:tid d .no=none:=by cases d<;>rfl
   refine ⟨⟨by simp only [zW,ht],?_⟩,.inl ⟨rfl,ht⟩⟩
   exact vG r fc (fun id l g hi hl hg ad u e hu=>⟨hu,e▸Mp id l g hi hl hg⟩) hle dr hv
  ·cases h
 ·cases h
theorem uI (r:R base w0 S0 σ kn di a w) {S:Nat->Prop} (hS: ∀k,(∀id l,di id=some l-> ¬l.has k)->S k): ∀{ds:List DV} {q:List WO} {xs:List WA} {hw:List (Nat×Option fF)} {vc:List Prop} {vs:List Value},
 (∀id l g,id∈Tv ds q->di id=some l->l.has g->S g)->q7 σ.obj ds q=some (xs,hw,vc)->dw vc->vs.length=ds.length->(∀(j:Nat) (d:DV) (v:Value),ds[j]? =some d->vs[j]? =some v->Rel (dq w base S0 di) kn di d v)->
 xs.length=ds.length/\(∀(j:Nat) (x:WA) (v:Value),xs[j]? =some x->vs[j]? =some v->x.pre w S v (oU di ds q j))/\(∀j,ds.length<=j->oU di ds q j=none)/\
 (∀j g,oU di ds q j=some g-> ∃id C,id∈hw.map (·.1)/\di id=some (.at_ g C))/\
 (∀i j g,(hw.map (·.1)).Nodup->oU di ds q i=some g->oU di ds q j=some g->i=j)/\
 (∀id,id∈hw.map (·.1)->kn id/\(∃ob,σ.obj id=some ob)/\(∀l,di id=some l->l= .nil\/ ∃g C,l= .at_ g C)/\ ∃fK j,look hw id=some (some fK)/\ ∀g C,di id=some (.at_ g C)->oU di ds q j=some g)/\
 ∀{w':World} {rd rd2:Rd},(hw.map (·.1)).Nodup->(∀(j:Nat) (x:WA) (v:Value),xs[j]? =some x->vs[j]? =some v->x.post w' rd v)-> ∀id fK,look hw id=some (some fK)->iu w' rd2 kn di (di id) fK
 |[],q,xs,hw,vc,vs,_,h,_,_,_=>by
  simp only [q7,aa,aB] at h
  obtain ⟨rfl,rfl,rfl⟩:=h
  exact ⟨rfl,by simp,fun _ _=>rfl,fun j g h=>by simp [oU] at h,fun i j g _ h=>by simp [oU] at h,by simp,fun _ _ id fK h=>by cases h⟩
 |d::ds,q,xs,hw,vc,vs,Mp,h,dr,hl,hv=>by
  simp only [q7] at h
  split at h
  ·rename_i x h1 GA xs1 Jr uK e1 e2
   simp only [aa,aB] at h
   obtain ⟨rfl,rfl,rfl⟩:=h
   obtain ⟨Hz,Hy⟩:=dw.app dr
   match vs,hl with
   |v::vs,hl=>
    obtain ⟨k1,k2⟩:=Gu r hS (fun id l g hi=>Mp id l g (aP _ hi)) e1 Hz (hv 0 d v rfl rfl)
    obtain ⟨l1,l2,l3,l4,l5,l6,l7⟩:=uI r hS (fun id l g hi=>Mp id l g (aU _ hi)) e2 Hy (by simpa using hl) (fun j d v hd jg=>hv (j+1) d v hd jg)
    have first: ∀g,zW di d (PJ q)=some g-> ∃id C fK,h1=[(id,some fK)]/\di id=some (.at_ g C):=fun g hg=>by
     rcases k2 with ⟨_,ht⟩|⟨id,ob,fK,rfl,ht,_⟩
     ·simp [zW,ht] at hg
     ·simp only [zW,ht] at hg
      obtain ⟨C,hC⟩:=xQ hg
      exact ⟨id,C,fK,rfl,hC⟩
    refine ⟨by simp [l1],fun j x' v' hx jg=> ?_,fun j hj=> ?_,fun j g hg=> ?_,fun i j g qW hi hj=> ?_,fun id fJ=> ?_,fun {w' rd rd2} qW vK id fK HD=> ?_⟩
    ·cases j with
     |zero=>simp at hx jg;subst hx jg;exact k1
     |succ j=>exact l2 j x' v' (by simpa using hx) (by simpa using jg)
    ·cases j with
     |zero=>simp at hj
     |succ j=>exact l3 j (by simpa using hj)
    ·cases j with
     |zero=>
      obtain ⟨id,C,fK,rfl,hC⟩:=first g hg
      exact ⟨id,C,by simp,hC⟩
     |succ j=>
      obtain ⟨id,C,hm,hC⟩:=l4 j g hg
      exact ⟨id,C,by simp only [dd,aO];exact .inr hm,hC⟩
    ·have Wy: ∀j,zW di d (PJ q)=some g->oU di ds q.tail j=some g->False:=fun j e1' e2'=>by
      obtain ⟨id,C,fK,rfl,hC⟩:=first g e1'
      obtain ⟨kN,C',hm,hC'⟩:=l4 j g e2'
      have:id=kN:=r.inj _ _ _ _ g hC hC' rfl rfl
      subst this
      simp only [dd,bR,List.map_nil,List.singleton_append,cY] at qW
      exact qW.1 hm
     have hnd2:(Jr.map (·.1)).Nodup:=by
      rw [dd] at qW
      exact (List.nodup_append.1 qW).2.1
     cases i with
     |zero=>cases j with
      |zero=>rfl
      |succ j=>exact (Wy j hi hj).elim
     |succ i=>cases j with
      |zero=>exact (Wy i hj hi).elim
      |succ j=>rw [l5 i j g hnd2 hi hj]
    ·simp only [dd,aO] at fJ
     by_cases nU:id∈h1.map (·.1)
     ·rcases k2 with ⟨rfl,ht⟩|⟨kN,ob,fK,rfl,ht,fE,Q6,_⟩
      ·simp at nU
      ·simp at nU
       subst nU
       refine ⟨(r.eC _ _ fE).1,⟨ob,fE⟩,Q6,fK,0,by simp [look],fun g C hC=> ?_⟩
       simp only [oU,zW,ht,BE,hC]
     ·obtain ⟨m1,m2,m3,fK,j,m4,m5⟩:=l6 id (fJ.resolve_left nU)
      refine ⟨m1,m2,m3,fK,j+1,?_,m5⟩
      rcases k2 with ⟨rfl,ht⟩|⟨kN,ob,YR,rfl,ht,_⟩
      ·exact m4
      ·simp at nU
       show look ((kN,some YR)::Jr) id=_
       rw [dG,ab (fun e=>nU e.symm)]
       exact m4
    ·rcases k2 with ⟨rfl,ht⟩|⟨kN,ob,YR,rfl,ht,fE,Q6,hpo⟩
     ·exact l7 qW (fun j x v hx jg=>vK (j+1) x v (by simpa using hx) (by simpa using jg)) id fK HD
     ·have HD:look ((kN,some YR)::Jr) id=some (some fK):=HD
      rw [dG] at HD
      split at HD
      ·rename_i e
       cases HD
       subst e
       exact hpo (vK 0 x v rfl rfl)
      ·simp only [dd,bR,List.map_nil,List.singleton_append,cY] at qW
       exact l7 qW.2 (fun j x v hx jg=>vK (j+1) x v (by simpa using hx) (by simpa using jg)) id fK HD
  ·cases h
theorem yt: ∀{l:List Nat},AJ l=true->l.Nodup
 |[],_=>List.nodup_nil
 |x::r,h=>by
  simp only [AJ] at h
  cases hx:r.any (Nat.beq x)
  ·simp only [hx,ar] at h
   refine cY.2 ⟨fun hm=> ?_,yt h⟩
   have:=List.any_eq_false.1 hx x hm
   simp at this
  ·simp [hx] at h
theorem Iz {l m:List Nat} (h:KU l m=true) {x:Nat} (hx:x∈l) (hm:x∈m):False:=by
 have h1:=b9.1 h x hx
 simp only [aM] at h1
 have:=List.any_eq_false.1 h1 x hm
 simp at this
theorem Gs (r:R base w0 S0 σ kn di a w) {f:FuncId} {g:List DV->List WO×DV} {args:List DV} {vs:List Value} {e:fg} {id:Nat} (fJ: ¬kn id) (he:Dn P f σ.obj args g=e) (dr:dw e.vc) (hl:vs.length=args.length)
 (hv: ∀(j:Nat) (d:DV) (v:Value),args[j]? =some d->vs[j]? =some v->Rel (dq w base S0 di) kn di d v):
 gA P f/\Calls P f vs.toArray w fun en w'=> ∃v eV du,en= .returned v/\R base w0 S0 (σ.fX e) eV du a w'/\Rel (dq w' base S0 du) eV du e.d v/\ ∀i,eV i->kn i\/i=id:=by
 unfold Dn at he
 split at he
 ·rename_i es vc0 _
  split at he
  ·rename_i was hw vc d hwa jb
   cases hb:AJ (hw.map (·.1))&&KU (Tv args (g es).1) (hw.map (·.1))
   ·simp only [hb,ar] at he;subst he;exact dn dr
   ·simp only [hb,ao] at he
    subst he
    rw [an] at hb
    have qW:=yt hb.1
    obtain ⟨h1,h2⟩:=dw.app dr
    have hS: ∀k,(∀id l,di id=some l-> ¬l.has k)-> ∀id l,id∈hw.map (·.1)->di id=some l-> ¬l.has k:=fun k h id l _=>h id l
    obtain ⟨l1,l2,l3,l4,l5,l6,l7⟩:=uI (S:=fun k=> ∀id l,id∈hw.map (·.1)->di id=some l-> ¬l.has k) r hS (fun id l k hi hl hg kN l' hm lG nJ=>Iz hb.2 hi (r.inj _ _ _ _ _ hl lG hg nJ▸hm)) hwa h1 hl hv
    have hc:=h2.one.2 (fun k=> ∀id l,id∈hw.map (·.1)->di id=some l-> ¬l.has k) w vs.toArray (oU di args (g es).1) (by simp [hl,l1]) (fun j x v hx jg=>l2 j x v hx (by simpa using jg)) (fun j hj=>l3 j (by omega)) (fun i j k=>l5 i j k qW)
     (fun j k hk hS=>by obtain ⟨kN,C,hm,hC⟩:=l4 j k hk;exact hS kN _ hm hC rfl) (r.uk.mono fun ad u ⟨x,y,_⟩=>⟨x,fun id l _=>y id l⟩)
    refine ⟨h2.one.1,hc.mono fun en w' ⟨v,sZ,hr,Ba,vK⟩=>⟨v,kn,di,sZ,?_,?_,fun _ h=> .inl h⟩⟩
    ·have nk: ∀i,(σ.fX { d,hw,vc:=vc++[WR P f was (g es).2] }).obj i=match look hw i with|some o=>o|none=>σ.obj i:=fun i=>by
      unfold St.fX St.obj
      rw [vB]
      cases look hw i<;>rfl
     have notin: ∀i,¬i∈hw.map (·.1)->look hw i=none:=fun i h=>by
      cases HD:look hw i with
      |none=>rfl
      |some v=>exact absurd (bf.2 ⟨(i,v),sF HD,rfl⟩) h
     refine r.step (fun k=> ∃j,oU di args (g es).1 j=some k) (fun i=>i∈hw.map (·.1)) Ba.size Ba.os Ba.tape Ba.output (fun k hk hx=>Ba.block k hk hx) (fun k ⟨j,hk⟩=> ?_) (fun _ h=>h) (fun _ _=>rfl) (fun _ _ _ _ h=>h) (fun i l k h e hg=> .inl ⟨i,l,h,e,hg⟩) (fun i l h hi e=>⟨l,e,rfl⟩) rfl rfl rfl (fun _=>rfl)
      (fun i h=>by rw [nk,notin i h]) (fun _ _ _ i o h e=> ?_) (fun i l h e=> ?_) (fun i i' l l' k h h' e e' hg nJ=>r.inj _ _ _ _ _ e e' hg nJ) (fun B hB i k bs h e=>r.lh B hB i k bs e) Ba.drawn
     ·obtain ⟨kN,C,hm,hC⟩:=l4 j k hk
      exact ⟨kN,_,hm,hC,rfl⟩
     ·obtain ⟨m1,_,_,fK,j,m4,_⟩:=l6 i h
      rw [nk,m4] at e
      cases e
      exact ⟨m1,l7 qW (fun j x v hx jg=>vK j x v hx (by simpa using jg)) i o m4⟩
     ·obtain ⟨_,_,_,fK,j,m4,_⟩:=l6 i h
      exact ⟨fK,by rw [nk,m4]⟩
    ·have plain: ∀d0:DV,d0=(g es).2->(∀s p off n,d0≠ .row s p off n)->Rel (dq w' base S0 di) kn di d v:=fun d0 Rt ji=>by
      rw [<-Rt] at jb hr
      have NP:d0.plain=true/\d=d0:=by
       unfold PH at jb
       split at jb
       ·exact absurd rfl (ji _ _ _ _)
       ·cases hp:d0.plain
        ·simp [hp] at jb
        ·simp only [hp,ao,aa] at jb;exact ⟨rfl,jb.symm⟩
      rw [NP.2]
      have O5:dA (iC w' (fun k=> ∀id l,id∈hw.map (·.1)->di id=some l-> ¬l.has k) w.heap.size) d0 v:=by
       unfold IB at hr
       split at hr
       ·exact absurd rfl (ji _ _ _ _)
       ·exact hr
      exact ee (O5.plain NP.1)
     generalize Rt:(g es).2=d0 at jb hr
     cases d0 with
     |row s p off n=>
      simp only [PH] at jb
      split at jb
      ·rename_i s' kN len hp
       cases rV:Nat.beq s s'
       ·simp [rV] at jb
       ·simp only [rV,ao,aa] at jb
        subst jb
        have NP:p<vs.length:=by rw [hl];exact (ai.1 hp).1
        have hvp:=ak NP
        have hrel:=hv p _ _ hp hvp
        have e0:vs.toArray[p]? =some vs[p]:=by simp
        simp only [IB] at hr
        rw [e0] at hr
        cases hrel with
        |row hk hx h0 h jC=>
         rcases hr with ⟨e1,rfl,rfl⟩|⟨g0,m0,C,e1,rfl,hn⟩
         ·refine .row hk ⟨_,_,rfl,fun _=>rfl⟩ (fun _=>⟨rfl,rfl,rfl⟩) (fun g1 C1 pw=> ?_) fun g1 o1 C1 pw=> ?_
          ·rcases h g1 C1 pw with ⟨e2,_⟩|⟨e2,_⟩
           ·rw [bc e1] at e2;cases e2
           ·omega
          ·rcases jC g1 o1 C1 pw with ⟨e2,_⟩|⟨e2,_⟩
           ·rw [bc e1] at e2;cases e2
           ·omega
         ·refine .row hk ⟨_,_,rfl,fun h=>by cases h⟩ (fun pw=> ?_) (fun g1 C1 pw=> ?_) fun g1 o1 C1 pw=> ?_
          ·have:=(h0 pw).1
           rw [bc e1] at this;cases this
          ·rcases h g1 C1 pw with ⟨e2,_⟩|⟨e2,_⟩
           ·have e3:=(bc e1).symm.trans e2
            simp at e3
            obtain ⟨rfl,rfl,rfl⟩:=e3
            exact .inl ⟨by simp,by omega⟩
           ·omega
          ·rcases jC g1 o1 C1 pw with ⟨e2,_⟩|⟨e2,_⟩
           ·have e3:=(bc e1).symm.trans e2
            simp at e3
            obtain ⟨⟨rfl,e4⟩,rfl,rfl⟩:=e3
            have:o1=0:=by omega
            subst this
            exact .inl ⟨by simp,by omega⟩
           ·omega
      ·cases jb
     |_=>exact plain _ Rt.symm (by simp)
  ·subst he;exact dn dr
 ·subst he;exact dn dr
theorem vl {s id off n:Nat}: ∀pre:List DV,DV.plain.go (pre++[.row s id off n])=false
 |[]=>rfl
 |d::r=>by
  simp only [aT,DV.plain.go,vl r]
  cases d.plain<;>rfl
theorem Cg {s id off n:Nat} {pre:List DV}:(DV.agg (pre++[.row s id off n])).plain=false:=by
 unfold DV.plain
 exact vl pre
theorem MW {rd:Rd} {kn:Nat->Prop} {di:Nat->Option Loc} {pre:List DV} {us:List Value} {d:DV} {v:Value} (hl:us.length=pre.length) (h:dA rd (.agg pre) (.agg us.toArray)) (hd:Rel rd kn di d v):Rel rd kn di (.agg (pre++[d])) (.agg (us++[v]).toArray):=by
 cases h with
 |agg hs hr=>
  refine .agg (by simp [hl]) fun j d' u rT hu=> ?_
  rw [cy] at hu
  by_cases hj:j<pre.length
  ·rw [aW hj] at rT
   rw [aW (by omega)] at hu
   exact ee (hr j d' u rT (by simpa using hu))
  ·rw [bk (by omega)] at rT
   rw [bk (by omega)] at hu
   have e1:j - pre.length=0:=by
    have:=(ai.1 rT).1
    simp at this;omega
   rw [e1] at rT
   rw [show j - us.length=0 by omega] at hu
   simp at rT hu
   subst rT hu
   exact hd
theorem TP (r:R base w0 S0 σ kn di a w) {gF:Rd} (fc: ∀a u,dq w base S0 di a u->gF a u) {id g C:Nat} (lH:di id=some (.at_ g C)) {d d':DV} {vc:List Prop} {v:Value}
 (gu:wN w di gF ((lj d).filter fun i=> !(Nat.beq i id))) (h:GO σ.obj id d=some (d',vc)) (dr:dw vc) (hv:Rel (dq w base S0 di) kn di d v):Rel gF (fun i=>i=0) (td g) d' v:=by
 have other: ∀{d:DV},wN w di gF ((lj d).filter fun i=> !(Nat.beq i id))->Rel (dq w base S0 di) kn di d v->(lj d).any (Nat.beq id)=false->qM σ.obj d=some (d',vc)->Rel gF (fun i=>i=0) (td g) d' v:=fun {d} gu hv hb h=>by
  refine ee (AV r fc (fun i l k hi=>gu i l k (bH.2 ⟨hi,?_⟩)) h dr hv)
  have:=List.any_eq_false.1 hb i hi
  cases e:Nat.beq i id
  ·rfl
  ·have:=af e
   subst this
   simp at this
 unfold GO at h
 split at h
 ·rename_i i
  cases e:Nat.beq i id
  ·rw [e,ar] at h
   refine other gu hv ?_ h
   simp only [lj,List.any_cons,List.any_nil,Bool.or_false]
   cases e2:Nat.beq id i
   ·rfl
   ·have:=af e2
    rw [this,Nat.beq_refl] at e;cases e
  ·rw [e,ao] at h
   cases h
   have:=af e
   subst this
   cases hv with
   |ptr hk hp hh=>exact .ptr rfl hp fun g' C' e2=>by cases e2;exact hh g C lH
 ·cases hb:(lj d).any (Nat.beq id)
  ·rw [hb,ar] at h
   exact other gu hv hb h
  ·rw [hb,ao] at h;cases h
theorem LH (r:R base w0 S0 σ kn di a w) {gF:Rd} (fc: ∀a u,dq w base S0 di a u->gF a u) {id g C:Nat} (lH:di id=some (.at_ g C)): ∀{ds es:List DV} {vc:List Prop},wN w di gF ((jA.go ds).filter fun i=> !(Nat.beq i id))->GP σ.obj id ds=some (es,vc)->dw vc->es.length=ds.length/\
 ∀(j:Nat) (d e:DV) (v:Value),ds[j]? =some d->es[j]? =some e->Rel (dq w base S0 di) kn di d v->Rel gF (fun i=>i=0) (td g) e v
 |[],es,vc,_,h,_=>by
  simp only [GP,aa,aB] at h
  obtain ⟨rfl,rfl⟩:=h
  exact ⟨rfl,by simp⟩
 |d::ds,es,vc,gu,h,dr=>by
  simp only [GP] at h
  split at h
  ·rename_i e GA MB uK h1 h2
   simp only [aa,aB] at h
   obtain ⟨rfl,rfl⟩:=h
   obtain ⟨k1,k2⟩:=dw.app dr
   obtain ⟨l1,l2⟩:=LH r fc lH (fun id l g hi=>gu id l g (by simp only [jA.go,List.filter_append];exact aU _ hi)) h2 k2
   refine ⟨by simp [l1],fun j d' e' v hd he hv=> ?_⟩
   cases j with
   |zero=>
    simp only [aL,aa] at hd he
    subst hd he
    exact TP r fc lH (fun id l g hi=>gu id l g (by simp only [jA.go,List.filter_append];exact aP _ hi)) h1 k1 hv
   |succ j=>exact l2 j d' e' v (by simpa using hd) (by simpa using he) hv
  ·cases h
theorem YA (r:R base w0 S0 σ kn di a w) {gF:Rd} (fc: ∀a u,dq w base S0 di a u->gF a u) {id g C:Nat} (lH:di id=some (.at_ g C)) {d d':DV} {vc:List Prop} {v:Value}
 (gu:wN w di gF ((jA d).filter fun i=> !(Nat.beq i id))) (h:YB σ.obj id d=some (d',vc)) (dr:dw vc) (hv:Rel (dq w base S0 di) kn di d v):Rel gF (fun i=>i=0) (td g) d' v:=by
 unfold YB at h
 split at h
 ·rename_i f cs
  split at h
  ·rename_i es PO hl
   simp only [aa,aB] at h
   obtain ⟨rfl,rfl⟩:=h
   obtain ⟨l1,l2⟩:=LH r fc lH gu hl dr
   cases hv with
   |jt hs hr=>
    refine .jt (by rw [l1];exact hs) fun j d u hd hu=> ?_
    have dR:=(ai.1 hd).1
    have rT:=ak (l1▸dR)
    exact l2 j _ d u rT hd (hr j _ u rT hu)
  ·cases h
 ·cases hb:(jA d).any (Nat.beq id)
  ·rw [hb,ar] at h
   refine ee (vG r fc (fun i l k hi=>gu i l k (bH.2 ⟨hi,?_⟩)) h dr hv)
   have:=List.any_eq_false.1 hb i hi
   cases e:Nat.beq i id
   ·rfl
   ·have:=af e
    subst this
    simp at this
  ·rw [hb,ao] at h;cases h
theorem LI (r:R base w0 S0 σ kn di a w) {gF:Rd} (fc: ∀a u,dq w base S0 di a u->gF a u) {id g C:Nat} (lH:di id=some (.at_ g C)): ∀{ds es:List DV} {vc:List Prop} {vs:List Value},wN w di gF (others id ds)->GS σ.obj id ds=some (es,vc)->dw vc->vs.length=ds.length->
 (∀(j:Nat) (d:DV) (v:Value),ds[j]? =some d->vs[j]? =some v->Rel (dq w base S0 di) kn di d v)->
 es.length=ds.length/\ ∀(j:Nat) (d:DV) (v:Value),es[j]? =some d->vs[j]? =some v->Rel gF (fun i=>i=0) (td g) d v
 |[],es,vc,vs,_,h,_,_,_=>by
  simp only [GS,aa,aB] at h
  obtain ⟨rfl,rfl⟩:=h
  exact ⟨rfl,by simp⟩
 |d::ds,es,vc,vs,gu,h,dr,hl,hv=>by
  simp only [GS] at h
  split at h
  ·rename_i e GA MB uK h1 h2
   simp only [aa,aB] at h
   obtain ⟨rfl,rfl⟩:=h
   obtain ⟨Hz,Hy⟩:=dw.app dr
   match vs,hl with
   |v::vs,hl=>
    have k1:=YA r fc lH (fun id l g hi=>gu id l g (by simp only [others,qH,List.filter_append];exact aP _ hi)) h1 Hz (hv 0 d v rfl rfl)
    obtain ⟨l1,l2⟩:=LI r fc lH (fun id l g hi=>gu id l g (by simp only [others,qH,List.filter_append];exact aU _ hi)) h2 Hy (by simpa using hl) (fun j d v hd jg=>hv (j+1) d v hd jg)
    refine ⟨by simp [l1],fun j d' v' hd jg=> ?_⟩
    cases j with
    |zero=>simp at hd jg;subst hd jg;exact k1
    |succ j=>exact l2 j d' v' (by simpa using hd) (by simpa using jg)
  ·cases h
theorem GQ (r:R base w0 S0 σ kn di a w) {f:FuncId} {k c:Nat} {g:List DV->List DV×DV} {args:List DV} {vs:List Value} {e:fg} {id:Nat} (he:DA P f σ.obj args k c g=e) (rQ:S0.wb=none\/e.d.plain=true) (dr:dw e.vc) (hl:vs.length=args.length)
 (hv: ∀(j:Nat) (d:DV) (v:Value),args[j]? =some d->vs[j]? =some v->Rel (dq w base S0 di) kn di d v):
 gA P f/\Calls P f vs.toArray w fun en w'=> ∃v eV du,en= .returned v/\R base w0 S0 (σ.fX e) eV du a w'/\Rel (dq w' base S0 du) eV du e.d v/\ ∀i,eV i->kn i\/i=id:=by
 unfold DA at he
 split at he
 ·rename_i ib _
  split at he
  ·rename_i es vc0 ds vc yY sY
   split at he
   ·rename_i cs fE
    generalize (g es).1=kS at he
    generalize (g es).2=res at he
    cases hb:Nat.beq kS.length cs.length&&(DV.closed.go cs&&(DV.plain.go kS&&(res.closed&& !res.plain)))
    ·simp only [hb,ar] at he;subst he;exact dn dr
    ·simp only [hb,ao] at he
     subst he
     simp only [an,aM] at hb
     obtain ⟨pw,gJ,Jt,hb4,hb5⟩:=hb
     have hlen:=af pw
     have pk:S0.wb=none:=rQ.resolve_right (by simp [hb5])
     obtain ⟨h1,h2⟩:=dw.app dr
     have nU: ∀i,i∈others ib args->i∈qH args/\i≠ib:=fun i hi=>by
      obtain ⟨h3,h4⟩:=bH.1 hi
      exact ⟨h3,fun e=>by rw [e,Nat.beq_refl] at h4;cases h4⟩
     obtain ⟨du,r',jC,nm⟩:=r.eu (vu (others ib args)) (fun d i v hd hi=>xx r yY i v (nU i (zp hd hi)).1)
     have hnin:kK ib (vu (others ib args))=false:=by
      cases hr:kK ib (vu (others ib args))
      ·rfl
      ·obtain ⟨d,hd,hi⟩:=o4.1 hr
       exact absurd rfl (nU ib (zp hd hi)).2
     have nk: ∀i,St.obj { σ with h:=Abs.eu (vu (others ib args))++σ.h } i=if kK i (vu (others ib args))=true then none else σ.obj i:=fun i=>by
      unfold St.obj
      simp only [sG]
      by_cases h:kK i (vu (others ib args))=true
      ·rw [ag h,ag h]
      ·rw [ab h,ab h]
     have Zl:St.obj { σ with h:=Abs.eu (vu (others ib args))++σ.h } ib=some (.box cs):=by rw [nk,ab (by rw [hnin];decide)];exact fE
     obtain ⟨kr,gb,C,cv,T,lG,hh,eW,_,ho⟩:=r'.eC _ _ Zl
     have lH:di ib=some (.at_ gb C):=jC _ _ lG
     obtain ⟨_,gb2,C2,cv2,T2,oI,hh2,hsz2,hr,_⟩:=r.eC _ _ fE
     rw [lH] at oI
     cases oI
     rw [hh] at hh2
     cases hh2
     have fc: ∀ad u,dq w base S0 di ad u->fu w (fun k=>k<w.heap.size/\(∀id l,du id=some l-> ¬l.has k)/\(S0.S k\/base<=k)) ad u:=fun ad u ⟨x,y,z,_⟩=>⟨x,gD x,fun id l e=>y id l (jC _ _ e),z⟩
     obtain ⟨l1,l2⟩:=LI r fc lH (fun i l k hi N5 hg ad u e hu=>⟨hu,gD hu,fun kN l' e' nJ=>(by
      have e3:=jC _ _ e'
      rw [e] at nJ
      have:=r.inj _ _ _ _ _ e3 N5 nJ hg
      rw [this,nm (.lg i) i (AL hi) (au.2 rfl)] at e'
      cases e'),e▸o8 r N5 hg⟩) sY h1 hl hv
     have hc:=h2.one.2 (fun k=>k<w.heap.size/\(∀id l,du id=some l-> ¬l.has k)/\(S0.S k\/base<=k)) w vs.toArray gb (by simp [hl,l1])
      (fun j d v hd jg=>l2 j d v hd (by simpa using jg)) ⟨cv,T,hh,eW,fun j d u hd hu=>((hr j d u hd hu).close (fH gJ d (aD hd))).mono fc (fun _ h=>h) fun _ _ h=>h.elim,ho⟩
      (fun h=>h.2.1 ib _ lG rfl) (r.uk.mono fc)
     refine ⟨h2.one.1,hc.mono fun en w' ⟨v,sZ,hrel,Ba,ZG⟩=>⟨v,kn,du,sZ,?_,ee (hrel.mono (fun ad u ⟨x,y⟩=>⟨x,?_,?_,fun B hB=>by rw [pk] at hB;cases hB⟩) (fun _ h=>h) fun _ _ h=>h.elim),fun _ h=> .inl h⟩⟩
     ·refine r'.step (fun k=>k=gb) (fun i=>i=ib) Ba.size Ba.os Ba.tape Ba.output (fun k hk hx=>Ba.block k hk hx) (fun k hk=>⟨ib,_,rfl,lG,hk⟩) (fun _ h=>h) (fun _ _=>rfl) (fun _ _ _ _ h=>h) (fun i l k h e hg=> .inl ⟨i,l,h,e,hg⟩) (fun i l h hi e=>⟨l,e,rfl⟩) rfl rfl rfl (fun _=>rfl)
       (fun i h=> ?_) (fun _ _ _ i o h e=> ?_) (fun i l h e=> ?_) (fun i i' l l' k h h' _ _ _ _=>by rw [h,h']) (fun B hB=>by rw [pk] at hB;cases hB) Ba.drawn
      ·unfold St.fX St.obj
       simp only [aT,dG]
       rw [ab (fun e=>h e.symm)]
      ·subst h
       have e2:(σ.fX { d:=res,hw:=(i,some (.box kS))::Abs.eu (vu (others i args)),vc:=vc++[FnS P f ds cs kS res] }).obj i=some (.box kS):=by
        unfold St.fX St.obj
        simp only [aT,dG,ba]
       rw [e2] at e
       cases e
       obtain ⟨s9,T',SV,rR,O5,mJ⟩:=ZG
       exact ⟨kr,gb,C,s9,T',lG,SV,rR,fun j d u hd hu=>ee ((O5 j d u hd hu).plain (rB Jt d (aD hd))),mJ⟩
      ·subst h
       exact ⟨.box kS,by unfold St.fX St.obj;simp only [aT,dG,ba]⟩
     ·intro i l N5 hg
      rcases y with ⟨_,y,_⟩|y
      ·exact y i l N5 hg
      ·have:=(r'.ge i l _ N5 hg).2;omega
     ·rcases y with ⟨_,_,y⟩|y
      ·exact y
      ·have:=r.fv;exact .inr (by omega)
   ·subst he;exact dn dr
  ·subst he;exact dn dr
 ·subst he;exact dn dr
theorem FG (r:R base w0 S0 σ kn di a w) {f:FuncId} {g:Nat->List (Nat->DV)->DV->(Nat->Int)×DV} {args:List DV} {vs:List Value} {e:fg} {id:Nat} (he:uB P f σ.obj args g=e) (dr:dw e.vc) (hl:vs.length=args.length)
 (hv: ∀(j:Nat) (d:DV) (v:Value),args[j]? =some d->vs[j]? =some v->Rel (dq w base S0 di) kn di d v):
 gA P f/\Calls P f vs.toArray w fun en w'=> ∃v eV du,en= .returned v/\R base w0 S0 (σ.fX e) eV du a w'/\Rel (dq w' base S0 du) eV du e.d v/\ ∀i,eV i->kn i\/i=id:=by
 unfold uB at he
 split at he
 ·rename_i x b
  split at he
  ·rename_i s ri len fE
   unfold FF at he
   split at he
   ·rename_i n c lU
    split at he
    ·rename_i u y hy
     cases hb:Nat.beq s 1&& !(Nat.beq b ri)
     ·simp only [hb,ar] at he;subst he;exact dr.hd.elim
     ·simp only [hb,ao] at he
      subst he
      simp only [an,aM] at hb
      have Jr:=af hb.1
      subst Jr
      have hbr:b≠ri:=fun h=>by have h2:=hb.2;rw [h,Nat.beq_refl] at h2;exact Bool.noConfusion h2
      have lk:len=n:=dr.hd
      have Rb:0<len:=dr.tl.hd
      have Rv:kM c:=dr.tl.tl.hd
      have hf:=dr.tl.tl.tl.one
      subst lk
      match vs,hl with
      |[v0,v1],_=>
       have h0:=hv 0 _ v0 rfl rfl
       have h1:=hv 1 _ v1 rfl rfl
       cases h0
       obtain ⟨hkb,gb,Cb,cb,T,wX,hhb,Q5,hrb,hob1⟩:=r.eC _ _ fE
       obtain ⟨hkr,kD⟩:=r.eC _ _ lU
       rcases kD with ⟨_,hz⟩|⟨gr,C,cv,T2,Wk,hhr,hszr,NT,hcr⟩
       ·omega
       ·have Hz:v1= .pointer (some ⟨gb,0,none⟩):=by cases h1 with|ptr _ _ h=>exact h gb Cb wX
        subst Hz
        have ji:gb≠gr:=fun h=>hbr (r.inj _ _ _ _ gb wX Wk rfl h)
        have Q5:cb.size=1:=Q5
        have hcb0:cb[0]? =some (.slice (some ⟨gr,0,none⟩) len C):=by
         have hu:=az (show 0<cb.size by omega)
         have Ra:=hrb 0 _ _ rfl hu
         rw [hu]
         generalize cb[0]=u0 at Ra
         cases Ra with
         |row _ _ _ h _=>
          rcases h gr C Wk with ⟨e1,_⟩|⟨e1,_⟩
          ·rw [e1];simp
          ·omega
        have hszr':cv.size=C:=by simpa using hszr
        have hcv: ∀i,i<len->cv[i]? =some (.int .i64 (vI (c i))):=fun i hi=>by
         obtain ⟨u',qV,_,O5⟩:=hcr i 0 c hi rfl
         rw [uc Rv i] at O5
         cases O5
         simpa using qV
        refine ⟨hf.1,(hf.2 (fun k=> ∀id l,di id=some l-> ¬l.has k) w gb gr C cb cv T T2 (r.uk.mono fun ad u ⟨x,y,_⟩=>⟨x,y⟩) (fun h=>h _ _ wX rfl) (fun h=>h _ _ Wk rfl) hhb Q5 hcb0 ji hhr hszr' NT hcv).mono fun en w' ⟨sZ,Ba,⟨cb',T',pw,gJ,Jt⟩,s9,T2',hr1,hr2,hr3⟩=>⟨y,kn,di,sZ,?_,.val _,fun _ h=> .inl h⟩⟩
        refine r.step (fun k=>k=gb\/k=gr) (fun i=>i=b\/i=ri) Ba.size Ba.os Ba.tape Ba.output (fun k hk hx=>Ba.block k hk hx) (fun k hk=> ?_) (fun _ h=>h) (fun _ _=>rfl) (fun _ _ _ _ h=>h) (fun i l k h e hg=> .inl ⟨i,l,h,e,hg⟩) (fun i l h hi e=>⟨l,e,rfl⟩) rfl rfl rfl (fun _=>rfl)
         (fun i h=> ?_) (fun _ _ _ i o h e=> ?_) (fun i l h e=> ?_) (fun i i' l l' k h h' e e' hg nJ=>r.inj _ _ _ _ _ e e' hg nJ) (fun B hB i k bs h e=>r.lh B hB i k bs e) Ba.drawn
        ·rcases hk with rfl|rfl
         ·exact ⟨b,_,.inl rfl,wX,rfl⟩
         ·exact ⟨ri,_,.inr rfl,Wk,rfl⟩
        ·unfold St.fX St.obj
         simp only [aT,cO,dG]
         rw [ab (fun e=>h (.inr e.symm))]
        ·rcases h with rfl|rfl
         ·have e2:(σ.fX { d:= .val y,hw:=[(ri,some (.row len [fun i=> .val (.int .i64 ((g len [c] (.val u)).1 i))]))],vc:=[len=len,0<len,kM c,FnB P f u len (fun i=>vI (c i)) (g len [c] (.val u)).1 y] }).obj i=some (.box [.row 1 ri 0 len]):=by
           unfold St.fX
           rw [show ∀(h:List (Nat×Option fF)),St.obj { σ with h:=[(ri,some (.row len [fun i=> .val (.int .i64 ((g len [c] (.val u)).1 i))]))]++σ.h } i=σ.obj i from fun _=>by
            unfold St.obj
            simp only [aT,cO,dG]
            rw [ab (fun e=>hbr e.symm)]]
           ·exact fE
           ·exact []
          rw [e2] at e
          cases e
          refine ⟨hkb,gb,Cb,cb',T',wX,pw,gJ,fun j d u hd hu=> ?_,fun u hu=> ?_⟩
          ·match j,hd with
           |0,hd=>
            cases hd
            rw [Jt] at hu
            cases hu
            refine .row hkr ⟨_,_,rfl,fun h=>by cases h⟩ (fun h=>by rw [Wk] at h;cases h) (fun g' C' h=> ?_) (fun g' o' C' h=>by rw [Wk] at h;cases h)
            rw [Wk] at h
            cases h
            exact .inl ⟨by simp,by omega⟩
          ·obtain ⟨k,hk,rfl⟩:=List.getElem_of_mem hu
           have kE:k<cb'.size:=by simpa using hk
           have:k=0:=by omega
           subst this
           have:=az kE
           rw [Jt] at this
           simp only [Array.getElem_toList]
           rw [<-bc this]
           rfl
         ·have e2:(σ.fX { d:= .val y,hw:=[(i,some (.row len [fun j=> .val (.int .i64 ((g len [c] (.val u)).1 j))]))],vc:=[len=len,0<len,kM c,FnB P f u len (fun j=>vI (c j)) (g len [c] (.val u)).1 y] }).obj i=some (.row len [fun j=> .val (.int .i64 ((g len [c] (.val u)).1 j))]):=by
           unfold St.fX St.obj
           simp only [aT,dG,ba]
          rw [e2] at e
          cases e
          refine ⟨hkr,.inr ⟨gr,C,s9,T2',Wk,hr1,by simp [hr2],NT,fun j q f hj hq=> ?_⟩⟩
          match q,hq with
          |0,hq=>
           cases hq
           exact ⟨_,by simpa using hr3 j hj,rfl,.val _⟩
        ·rcases h with rfl|rfl
         ·refine ⟨.box [.row 1 ri 0 len],?_⟩
          unfold St.fX St.obj
          simp only [aT,cO,dG]
          rw [ab (fun e=>hbr e.symm)]
          exact fE
         ·exact ⟨.row len [fun j=> .val (.int .i64 ((g len [c] (.val u)).1 j))],by unfold St.fX St.obj;simp only [aT,dG,ba]⟩
    ·subst he;exact dr.hd.elim
   ·subst he;exact dr.hd.elim
  ·subst he;exact dn dr
 ·subst he;exact dn dr
theorem vV (r:R base w0 S0 σ kn di a w) {f:FuncId} {oc:fx} {args:List DV} {vs:List Value} {e:fg} {id:Nat} (fJ: ¬kn id) (he:r7 P oc id σ.obj f args=e) (rQ:S0.wb=none\/e.d.plain=true) (dr:dw e.vc) (hl:vs.length=args.length)
 (hv: ∀(j:Nat) (d:DV) (v:Value),args[j]? =some d->vs[j]? =some v->Rel (dq w base S0 di) kn di d v):
 gA P f/\Calls P f vs.toArray w fun en w'=> ∃v eV du,en= .returned v/\R base w0 S0 (σ.fX e) eV du a w'/\Rel (dq w' base S0 du) eV du e.d v/\ ∀i,eV i->kn i\/i=id:=by
 have effH0: ∀d vc,σ.fX { d,vc }=σ:=fun _ _=>rfl
 unfold r7 at he
 split at he
 ·rename_i g
  cases Ba:Bc args
  case true=>
   simp only [Ba,ao] at he
   split at he
   ·rename_i es vc yY
    generalize g es=d at he
    cases hp:d.plain
    ·simp only [hp,ar] at he
     cases iH:d.closed
     ·simp only [iH,ar] at he;subst he;exact dn dr
     ·simp only [iH,ao] at he
      subst he
      have pk:S0.wb=none:=rQ.resolve_right (by simp [hp])
      obtain ⟨h1,h2⟩:=dw.app dr
      obtain ⟨l1,_⟩:=p9 r yY h1 hl hv
      obtain ⟨du,r',jC,nm⟩:=r.eu (vu (qH args)) (fun d id v hd hi=>xx r yY id v (zp hd hi))
      have l3:=DT (gF:=dq w base S0 du) r (fun ad u ⟨x,y,z,q⟩=>⟨x,fun id l e=>y id l (jC _ _ e),z,q⟩)
       (fun id l g hi lH hg ad u e hu=>⟨hu,fun kN l' e' nJ=>(by
         have e3:=jC _ _ e'
         rw [e] at nJ
         have:=r.inj _ _ _ _ _ e3 lH nJ hg
         rw [this,nm (.lg id) id (AL hi) (au.2 rfl)] at e'
         cases e'),e▸o8 r lH hg,fun B hB=>by rw [pk] at hB;cases hB⟩) yY h1 hl hv
      have hc:=h2.one.2 (fun k=>k<w.heap.size/\(∀id l,du id=some l-> ¬l.has k)/\(S0.S k\/base<=k)) w vs.toArray (by simp [hl,l1])
       (fun j d v hd jg=>(l3 j d v hd (by simpa using jg)).mono (fun ad u ⟨x,y,z,_⟩=>⟨x,gD x,y,z⟩) (fun _ h=>h) fun _ _ h=>h.elim) (r'.uk.mono fun ad u ⟨x,y,z,_⟩=>⟨x,gD x,y,z⟩)
      refine ⟨h2.one.1,hc.mono fun en w' ⟨v,sZ,hrel,hb⟩=>⟨v,kn,du,sZ,r'.world hb,ee (hrel.mono (fun ad u ⟨x,y⟩=>⟨x,?_,?_,fun B hB=>by rw [pk] at hB;cases hB⟩) (fun _ h=>h) fun _ _ h=>h.elim),fun _ h=> .inl h⟩⟩
      ·intro id l lH hg
       rcases y with ⟨_,y,_⟩|y
       ·exact y id l lH hg
       ·have:=(r'.ge id l _ lH hg).2;omega
      ·rcases y with ⟨_,_,y⟩|y
       ·exact y
       ·have:=r.fv;exact .inr (by omega)
    ·simp only [hp,ao] at he
     subst he
     obtain ⟨h1,h2⟩:=dw.app dr
     obtain ⟨l1,l2⟩:=p9 r yY h1 hl hv
     have hc:=h2.one.2 (fun _=>True) w vs.toArray (by simp [hl,l1]) (fun j d v hd jg=>l2 j d v hd (by simpa using jg)) (r.uk.mono fun ad u ⟨x,_⟩=>⟨x,trivial⟩)
     exact ⟨h2.one.1,hc.mono fun en w' ⟨v,sZ,hrel,hb⟩=>⟨v,kn,di,sZ,r.world hb,ee (hrel.plain hp),fun _ h=> .inl h⟩⟩
   ·subst he;exact dn dr
  simp only [Ba,ar] at he
  split at he
  case h_2=>subst he;exact dn dr
  rename_i es vc yY
  unfold MM at he
  generalize g es=d at he
  cases kD:uj args
  ·simp only [kD,ar] at he
   cases iH:d.closed
   ·simp only [iH,ar] at he;subst he;exact dn dr
   ·simp only [iH,ao] at he
    subst he
    obtain ⟨h1,h2⟩:=dw.app dr
    by_cases hp:d.plain=true
    ·obtain ⟨l1,l2,_⟩:=jn r yY h1 hl hv
     have hc:=h2.one.2 (fun _=>True) w vs.toArray (by simp [hl,l1]) (fun j d v hd jg=>l2 j d v hd (by simpa using jg)) (r.uk.mono fun ad u ⟨x,_⟩=>⟨x,trivial⟩)
     exact ⟨h2.one.1,hc.mono fun en w' ⟨v,sZ,hrel,hb⟩=>⟨v,kn,di,sZ,r.world hb,ee (hrel.plain hp),fun _ h=> .inl h⟩⟩
    have pk:S0.wb=none:=rQ.resolve_right hp
    obtain ⟨l1,_,l3⟩:=jn r yY h1 hl hv
    have hc:=h2.one.2 (fun k=>k<w.heap.size/\(∀id l,di id=some l-> ¬l.has k)/\(S0.S k\/base<=k)) w vs.toArray (by simp [hl,l1])
     (fun j d v hd jg=>(l3 kD j d v hd (by simpa using jg)).mono (fun ad u ⟨x,y,z,_⟩=>⟨x,gD x,y,z⟩) (fun _ h=>h) fun _ _ h=>h.elim) (r.uk.mono fun ad u ⟨x,y,z,_⟩=>⟨x,gD x,y,z⟩)
    refine ⟨h2.one.1,hc.mono fun en w' ⟨v,sZ,hrel,hb⟩=>⟨v,kn,di,sZ,r.world hb,ee (hrel.mono (fun ad u ⟨x,y⟩=>⟨x,?_,?_,fun B hB=>by rw [pk] at hB;cases hB⟩) (fun _ h=>h) fun _ _ h=>h.elim),fun _ h=> .inl h⟩⟩
    ·intro id l lH hg
     rcases y with ⟨_,y,_⟩|y
     ·exact y id l lH hg
     ·have:=(r.ge id l _ lH hg).2;omega
    ·rcases y with ⟨_,_,y⟩|y
     ·exact y
     ·have:=r.fv;exact .inr (by omega)
  ·simp only [kD,ao] at he
   cases hp:d.plain
   ·simp only [hp,ar] at he
    cases iH:d.closed
    ·simp only [iH,ar] at he;subst he;exact dn dr
    ·simp only [iH,ao] at he
     subst he
     have pk:S0.wb=none:=rQ.resolve_right (by simp [hp])
     obtain ⟨h1,h2⟩:=dw.app dr
     obtain ⟨l1,_,_⟩:=jn r yY h1 hl hv
     obtain ⟨du,r',jC,nm⟩:=r.eu args (rK r yY)
     have l3:=rI (gF:=dq w base S0 du) r (fun ad u ⟨x,y,z,q⟩=>⟨x,fun id l e=>y id l (jC _ _ e),z,q⟩)
      (fun d id l g hm hi lH hg ad u e hu=>⟨hu,fun kN l' e' nJ=>(by
        have e3:=jC _ _ e'
        rw [e] at nJ
        have:=r.inj _ _ _ _ _ e3 lH nJ hg
        rw [this,nm d id hm hi] at e'
        cases e'),e▸o8 r lH hg,fun B hB=>by rw [pk] at hB;cases hB⟩) yY h1 hl hv
     have hc:=h2.one.2 (fun k=>k<w.heap.size/\(∀id l,du id=some l-> ¬l.has k)/\(S0.S k\/base<=k)) w vs.toArray (by simp [hl,l1])
      (fun j d v hd jg=>(l3 j d v hd (by simpa using jg)).mono (fun ad u ⟨x,y,z,_⟩=>⟨x,gD x,y,z⟩) (fun _ h=>h) fun _ _ h=>h.elim) (r'.uk.mono fun ad u ⟨x,y,z,_⟩=>⟨x,gD x,y,z⟩)
     refine ⟨h2.one.1,hc.mono fun en w' ⟨v,sZ,hrel,hb⟩=>⟨v,kn,du,sZ,r'.world hb,ee (hrel.mono (fun ad u ⟨x,y⟩=>⟨x,?_,?_,fun B hB=>by rw [pk] at hB;cases hB⟩) (fun _ h=>h) fun _ _ h=>h.elim),fun _ h=> .inl h⟩⟩
     ·intro id l lH hg
      rcases y with ⟨_,y,_⟩|y
      ·exact y id l lH hg
      ·have:=(r'.ge id l _ lH hg).2;omega
     ·rcases y with ⟨_,_,y⟩|y
      ·exact y
      ·have:=r.fv;exact .inr (by omega)
   ·simp only [hp,ao] at he
    subst he
    obtain ⟨h1,h2⟩:=dw.app dr
    obtain ⟨l1,l2,_⟩:=jn r yY h1 hl hv
    have hc:=h2.one.2 (fun _=>True) w vs.toArray (by simp [hl,l1]) (fun j d v hd jg=>l2 j d v hd (by simpa using jg)) (r.uk.mono fun ad u ⟨x,_⟩=>⟨x,trivial⟩)
    exact ⟨h2.one.1,hc.mono fun en w' ⟨v,sZ,hrel,hb⟩=>⟨v,kn,di,sZ,r.world hb,ee (hrel.plain hp),fun _ h=> .inl h⟩⟩
 ·rename_i g
  split at he
  ·rename_i es vc yY
   unfold P9 at he
   split at he
   rename_i n dp _
   subst he
   have pk:S0.wb=none:=rQ.resolve_right (by simp [DV.plain])
   obtain ⟨h1,h2⟩:=dw.app dr
   obtain ⟨l1,_,_⟩:=jn r yY h1 hl hv
   obtain ⟨du,r',jC,nm⟩:=r.eu args (rK r yY)
   have l3:=rI (gF:=dq w base S0 du) r (fun ad u ⟨x,y,z,q⟩=>⟨x,fun id l e=>y id l (jC _ _ e),z,q⟩)
    (fun d id l g hm hi lH hg ad u e hu=>⟨hu,fun kN l' e' nJ=>(by
      have e3:=jC _ _ e'
      rw [e] at nJ
      have:=r.inj _ _ _ _ _ e3 lH nJ hg
      rw [this,nm d id hm hi] at e'
      cases e'),e▸o8 r lH hg,fun B hB=>by rw [pk] at hB;cases hB⟩) yY h1 hl hv
   have hc:=h2.one.2 (fun k=>k<w.heap.size/\(∀id l,du id=some l-> ¬l.has k)/\(S0.S k\/base<=k)) w vs.toArray (by simp [hl,l1])
    (fun j d v hd jg=>(l3 j d v hd (by simpa using jg)).mono (fun ad u ⟨x,y,z,_⟩=>⟨x,gD x,y,z⟩) (fun _ h=>h) fun _ _ h=>h.elim) (r'.uk.mono fun ad u ⟨x,y,z,_⟩=>⟨x,gD x,y,z⟩)
   refine ⟨h2.one.1,hc.mono fun en w' ⟨v,sZ,hb,kD⟩=> ?_⟩
   rcases kD with ⟨rfl,rfl⟩|⟨g,C,cv,T,rfl,hg,hh,eW,hn,kf⟩
   ·refine ⟨_,_,_,sZ,r'.MX hb (l:= .nil) fJ pk (fun g C e=>by cases e) (.inl ⟨rfl,rfl⟩),.row (.inr rfl) ⟨_,_,rfl,fun _=>rfl⟩ (fun _=>⟨rfl,rfl,rfl⟩) (fun g C e=>by simp at e) (fun g o C e=>by simp at e),fun _ h=>h⟩
   ·refine ⟨_,_,_,sZ,r'.MX hb (l:= .at_ g C) fJ pk (fun g' C' e=>by cases e;exact ⟨hg,ef hh⟩) (.inr ⟨g,C,cv,T,rfl,hh,eW,hn,fun i j f hi hj=> ?_⟩),.row (.inr rfl) ⟨_,_,rfl,fun h=>by cases h⟩ (fun e=>by simp at e) (fun g' C' e=> ?_) (fun g' o' C' e=>by simp at e),fun _ h=>h⟩
    ·obtain ⟨u,hu,ho,hr⟩:=kf i j f hi hj
     refine ⟨u,hu,ho,hr.mono (fun ad u ⟨x,y,z⟩=>⟨x,y,?_,?_⟩) (fun _ h=>h) fun _ _ h=>h.elim⟩
     ·intro kN l' e nJ
      rcases z with ⟨_,z,_⟩|z
      ·exact z _ _ e nJ
      ·have:=(r'.ge _ _ _ e nJ).2;omega
     ·rcases z with ⟨_,_,z⟩|z
      ·exact z
      ·have:=r.fv;exact .inr (by omega)
    ·simp only [ba,aa] at e
     cases e
     exact .inl ⟨by simp,by omega⟩
  ·subst he;exact dn dr
 ·rename_i g
  split at he
  ·rename_i es vc yY
   unfold LK at he
   split at he
   rename_i pre n dp _
   cases hpc:DV.closed.go pre
   ·simp only [hpc,ar] at he;subst he;exact dn dr
   simp only [hpc,ao] at he
   subst he
   have pk:S0.wb=none:=rQ.resolve_right (by rw [Cg];decide)
   obtain ⟨h1,h2⟩:=dw.app dr
   obtain ⟨l1,_,_⟩:=jn r yY h1 hl hv
   obtain ⟨du,r',jC,nm⟩:=r.eu args (rK r yY)
   have l3:=rI (gF:=dq w base S0 du) r (fun ad u ⟨x,y,z,q⟩=>⟨x,fun id l e=>y id l (jC _ _ e),z,q⟩)
    (fun d id l g hm hi lH hg ad u e hu=>⟨hu,fun kN l' e' nJ=>(by
      have e3:=jC _ _ e'
      rw [e] at nJ
      have:=r.inj _ _ _ _ _ e3 lH nJ hg
      rw [this,nm d id hm hi] at e'
      cases e'),e▸o8 r lH hg,fun B hB=>by rw [pk] at hB;cases hB⟩) yY h1 hl hv
   have hc:=h2.one.2 (fun k=>k<w.heap.size/\(∀id l,du id=some l-> ¬l.has k)/\(S0.S k\/base<=k)) w vs.toArray (by simp [hl,l1])
    (fun j d v hd jg=>(l3 j d v hd (by simpa using jg)).mono (fun ad u ⟨x,y,z,_⟩=>⟨x,gD x,y,z⟩) (fun _ h=>h) fun _ _ h=>h.elim) (r'.uk.mono fun ad u ⟨x,y,z,_⟩=>⟨x,gD x,y,z⟩)
   refine ⟨h2.one.1,hc.mono fun en w' ⟨us,v,sZ,hul,hb,kD⟩=> ?_⟩
   rcases kD with ⟨rfl,rfl,jq⟩|⟨g,C,cv,T,rfl,hg,hh,eW,hn,kf,jq⟩
   ·refine ⟨_,_,_,sZ,r'.MX hb (l:= .nil) fJ pk (fun g C e=>by cases e) (.inl ⟨rfl,rfl⟩),MW hul (jq.mono (fun ad u ⟨x,y⟩=>⟨x,fun i l e Zz=> ?_,?_,fun B hB=>by rw [pk] at hB;cases hB⟩) (fun _ h=>h) fun _ _ h=>h.elim) (.row (.inr rfl) ⟨_,_,rfl,fun _=>rfl⟩ (fun _=>⟨rfl,rfl,rfl⟩) (fun g C e=>by simp at e) (fun g o C e=>by simp at e)),fun _ h=>h⟩
    ·have e:(if i=id then some Loc.nil else du i)=some l:=e
     split at e
     ·cases e;exact Zz
     ·rcases y with ⟨_,y,_⟩|y
      ·exact y _ _ e Zz
      ·have:=(r'.ge _ _ _ e Zz).2;omega
    ·rcases y with ⟨_,_,y⟩|y
     ·exact y
     ·have:=r.fv;exact .inr (by omega)
   ·refine ⟨_,_,_,sZ,r'.MX hb (l:= .at_ g C) fJ pk (fun g' C' e=>by cases e;exact ⟨hg,ef hh⟩) (.inr ⟨g,C,cv,T,rfl,hh,eW,hn,fun i j f hi hj=> ?_⟩),MW hul (jq.mono (fun ad u ⟨x,y,z⟩=>⟨x,fun i l e Zz=> ?_,?_,fun B hB=>by rw [pk] at hB;cases hB⟩) (fun _ h=>h) fun _ _ h=>h.elim) (.row (.inr rfl) ⟨_,_,rfl,fun h=>by cases h⟩ (fun e=>by simp at e) (fun g' C' e=> ?_) (fun g' o' C' e=>by simp at e)),fun _ h=>h⟩
    ·obtain ⟨u,hu,ho,hr⟩:=kf i j f hi hj
     refine ⟨u,hu,ho,hr.mono (fun ad u ⟨x,y,z⟩=>⟨x,y,?_,?_⟩) (fun _ h=>h) fun _ _ h=>h.elim⟩
     ·intro kN l' e nJ
      rcases z with ⟨_,z,_⟩|z
      ·exact z _ _ e nJ
      ·have:=(r'.ge _ _ _ e nJ).2;omega
     ·rcases z with ⟨_,_,z⟩|z
      ·exact z
      ·have:=r.fv;exact .inr (by omega)
    ·have e:(if i=id then some (Loc.at_ g C) else du i)=some l:=e
     split at e
     ·cases e;exact y Zz
     ·rcases z with ⟨_,z,_⟩|z
      ·exact z _ _ e Zz
      ·have:=(r'.ge _ _ _ e Zz).2;omega
    ·rcases z with ⟨_,_,z⟩|z
     ·exact z
     ·have:=r.fv;exact .inr (by omega)
    ·simp only [ba,aa] at e
     cases e
     exact .inl ⟨by simp,by omega⟩
  ·subst he;exact dn dr
 ·rename_i g
  split at he
  ·rename_i es vc yY
   generalize g es=A' at he
   unfold uN at he
   split at he
   ·rename_i s kN off len rest
    split at he
    ·rename_i n c fE
     cases hb:Nat.beq s 1&&DV.closed.go rest with
     |false=>simp only [hb,ar] at he;subst he;exact dn dr
     |true=>
      simp only [hb,ao] at he
      rw [an] at hb
      obtain ⟨Jr,iH⟩:=hb
      have Jr:=af Jr
      subst Jr
      subst he
      have lk:len=n:=dr.hd
      have Rv:=dr.tl.hd
      have hft:=dr.tl.tl.one
      subst lk
      match vs,hl with
      |v0::vs,hl=>
       have h0:=hv 0 _ v0 rfl rfl
       have hrest: ∀(j:Nat) (d:DV) (v:Value),rest[j]? =some d->vs[j]? =some v->dA (fu w fun _=>True) d v:=fun j d v hd jg=>
        ((hv (j+1) d v (by simpa using hd) (by simpa using jg)).close (fH iH d (aD hd))).mono (fun _ _ h=>⟨h.1,trivial⟩) (fun _ h=>h) fun _ _ h=>h.elim
       obtain ⟨yW,rW⟩:=hft.2 w v0 vs (by simpa using hl) hrest
       refine ⟨hft.1,?_⟩
       obtain ⟨hk,ho⟩:=r.eC _ _ fE
       cases h0 with
       |row kE Gl hz hg=>
        rcases ho with ⟨Fc,hn0⟩|⟨g,C,cv,T,Kj,hh,eW,hn,hc⟩
        ·obtain ⟨rfl,_,_⟩:=hz Fc
         refine (yW rfl hn0).mono fun en w' ⟨sZ,hb⟩=>⟨_,kn,di,sZ,?_,.val _,fun _ h=> .inl h⟩
         exact (r.world hb).Qb hk (.inl ⟨Fc,hn0⟩)
        ·obtain ⟨rfl,_⟩:v0= .slice (some ⟨g,0*1,none⟩) len (C - 0)/\0+len<=C:=(hg g C Kj).resolve_right fun h=>by omega
         have rR:cv.size=C:=by simpa using eW
         refine (rW g C cv T (by simp) hn hh rR (fun i hi=> ?_)).mono fun en w' ⟨sZ,s9,w1,Ze,N4,e1,e2,e3,e4,e5,uf,hg1,hb⟩=>⟨_,kn,di,sZ,?_,.val _,fun _ h=> .inl h⟩
         ·obtain ⟨u,hu,_,hr⟩:=hc i 0 c hi rfl
          rw [uc Rv i] at hr
          cases hr
          simpa using hu
         ·refine (r.GF (o:= .row len [fun i=> .val (.int .i64 (A' i))]) Kj e1 e2 e3 e4 uf (fun _ _=>Or.inr ⟨g,C,s9,T,rfl,hg1,by simp [Ze],hn,fun i j f hi hj=> ?_⟩) e5).world hb
          match j,hj with
          |0,hj=>
           cases hj
           exact ⟨_,by simpa using N4 i hi,rfl,.val _⟩
    ·subst he;exact dn dr
   ·subst he;exact dn dr
  ·subst he;exact dn dr
 ·rename_i g
  split at he
  ·rename_i es vc yY
   generalize (g es).1=n' at he
   generalize (g es).2=A' at he
   unfold uO at he
   split at he
   ·rename_i s kN off len
    split at he
    ·rename_i n c fE
     cases hb:Nat.beq s 1 with
     |false=>simp only [hb,ar] at he;subst he;exact dn dr
     |true=>
      simp only [hb,ao] at he
      have Jr:=af hb
      subst Jr
      subst he
      have lk:len=n:=dr.hd
      have Rv:=dr.tl.hd
      have hft:=dr.tl.tl.one
      subst lk
      match vs,hl with
      |[v0],hl=>
       have h0:=hv 0 _ v0 rfl rfl
       obtain ⟨yW,rW⟩:=hft.2 w v0
       refine ⟨hft.1,?_⟩
       obtain ⟨hk,ho⟩:=r.eC _ _ fE
       cases h0 with
       |row kE Gl hz hg=>
        rcases ho with ⟨Fc,hn0⟩|⟨g,C,cv,T,Kj,hh,eW,hn,hc⟩
        ·obtain ⟨rfl,_,_⟩:=hz Fc
         obtain ⟨hz0,hnil2⟩:=yW rfl hn0
         subst hz0
         refine hnil2.mono fun en w' ⟨sZ,hb⟩=>⟨_,kn,di,sZ,?_,.row kE ⟨_,_,rfl,fun _=>rfl⟩ (fun _=>⟨rfl,rfl,rfl⟩) (fun g C e=>(by rw [Fc] at e;cases e)) (fun g o C e=>(by rw [Fc] at e;cases e)),fun _ h=> .inl h⟩
         exact (r.world hb).Qb hk (.inl ⟨Fc,rfl⟩)
        ·obtain ⟨rfl,_⟩:v0= .slice (some ⟨g,0*1,none⟩) len (C - 0)/\0+len<=C:=(hg g C Kj).resolve_right fun h=>by omega
         have rR:cv.size=C:=by simpa using eW
         obtain ⟨hle,rW⟩:=rW g C cv T (by simp) hn hh rR (fun i hi=>by
          obtain ⟨u,hu,_,hr⟩:=hc i 0 c hi rfl
          rw [uc Rv i] at hr
          cases hr
          simpa using hu)
         refine rW.mono fun en w' ⟨sZ,s9,w1,Ze,N4,e1,e2,e3,e4,e5,uf,hg1,hb⟩=>⟨_,kn,di,sZ,?_,.row kE ⟨_,_,rfl,fun h=>by cases h⟩ (fun e=>(by rw [Kj] at e;cases e)) (fun g' C' e=>(by rw [Kj] at e;cases e;exact .inl ⟨by simp,by omega⟩)) (fun g' o' C' e=>(by rw [Kj] at e;cases e)),fun _ h=> .inl h⟩
         refine (r.GF (o:= .row n' [fun i=> .val (.int .i64 (A' i))]) Kj e1 e2 e3 e4 uf (fun _ _=>Or.inr ⟨g,C,s9,T,rfl,hg1,by simp [Ze],by omega,fun i j f hi hj=> ?_⟩) e5).world hb
         match j,hj with
         |0,hj=>
          cases hj
          exact ⟨_,by simpa using N4 i hi,rfl,.val _⟩
    ·subst he;exact dn dr
   ·subst he;exact dn dr
  ·subst he;exact dn dr
 ·exact Gs r fJ he dr hl hv
 ·exact GQ r he rQ dr hl hv
 ·exact FG r he dr hl hv
 ·subst he;exact dn dr
end
end Go.Abs
