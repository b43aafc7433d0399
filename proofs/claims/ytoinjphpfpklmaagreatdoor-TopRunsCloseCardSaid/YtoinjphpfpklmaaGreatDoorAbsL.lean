/- append and calls, as the abstract machine has them. -/
import Derived.Test.YtoinjphpfpklmaaGreatDoorAbsKS
set_option linter.unusedVariables false
set_option linter.unusedSimpArgs false
namespace Go.Abs
open Go.RowKit
theorem pb (n:Nat): ∀(c d:List (Nat->DV)) (j:Nat) (g:Nat->DV),(ky n c d)[j]? =some g-> ∃x y,c[j]? =some x/\d[j]? =some y/\g=Ba n x y
 |[],_,j,g,h=>by simp [ky] at h
 |_::_,[],j,g,h=>by simp [ky] at h
 |x::c,y::d,0,g,h=>by
  simp only [ky,aP,aa] at h
  exact ⟨x,y,rfl,rfl,h.symm⟩
 |x::c,y::d,j+1,g,h=>by
  simp only [ky,aK] at h
  simpa using pb n c d j g h
theorem o9 (n:Nat): ∀(c d:List (Nat->DV)),c.length=d.length->(ky n c d).length=c.length
 |[],[],_=>rfl
 |x::c,y::d,h=>by simp only [ky,aL];rw [o9 n c d (by simpa using h)]
 |[],_::_,h=>by simp at h
 |_::_,[],h=>by simp at h
theorem rL {rd:Rd} {n m i:Nat} {c d:Nat->DV} (hi:i<n+m):(i<n-> ∀u,du rd (c i) u->du rd (Ba n c d i) u)/\(n<=i-> ∀u,du rd (d (i - n)) u->du rd (Ba n c d i) u):=by
 unfold Ba
 refine ⟨fun h u hr=>mw ⟨fun _=>hr,fun e=> ?_⟩,fun h u hr=>mw ⟨fun e=> ?_,fun _=>hr⟩⟩
 ·simp at e;omega
 ·simp at e;omega
section
variable {P:Program} {base:Nat} {w0 w w':World} {S0:Env} {σ σ':St} {kn:Nat->Prop} {c9:Nat->Option Loc} {a:Act}
theorem JK {t:TypeId} {n:Nat} (h:iS P t=some n): ∃i,P.info? t=some i/\i.size=n:=by
 unfold iS at h
 split at h
 ·rename_i i hi;cases h;exact ⟨i,hi,rfl⟩
 ·cases h
theorem GB {t:TypeId} {n:Nat} {i:TypeInfo} (h:JL P t=some n) (hi:P.info? t=some i):i.bytes=n:=by
 unfold JL at h
 rw [hi] at h
 simpa using h
theorem A2 (r:R base w0 S0 σ kn c9 a w) {id:Nat} (fS: ¬kn id) {t ty:TypeId} {x y:DV} {vx vy:Value} {e:eW} (he:oZ P σ.obj id t x y=e) (dg:dp e.vc)
 (hx:Rel (df w base S0 c9) kn c9 x vx) (hy:Rel (df w base S0 c9) kn c9 y vy):lV P base w0 S0 σ kn a w id (Builtin.append_ #[t,t] ty #[vx,vy]) e:=by
 unfold oZ at he
 split at he
 ·rename_i el hu
  split at he
  ·rename_i s Ih z hs hb hz
   obtain ⟨i,v0,hi,Sr,VZ⟩:=nE hz
   have Sj:=(VZ (fun _ _=>True) (fun _=>True) (fun _=>none)).1
   cases QU:(Nat.beq z.length s&&Nat.ble 1 s)
   ·simp only [QU,ax] at he;subst he;exact dc dg
   ·simp only [QU,aq] at he
    simp only [av] at QU
    have hzl:=ag QU.1
    have hs0:0<s:=aH QU.2
    obtain ⟨i',pH,fq⟩:=JK hs
    rw [hi] at pH
    cases pH
    have On:=GB hb hi
    split at he
    ·rename_i m jE XP T5
     cases hbc:Nat.beq jE.length s
     ·simp only [hbc,ax] at he;subst he;exact dc dg
     ·simp only [hbc,aq] at he
      have tH:=ag hbc
      split at he
      ·subst he
       cases hx
       obtain ⟨A,c,news,rfl,nk,T8,Y4,Nk,YL⟩:=mg r T5 dg.tl tH hy
       have hid0:c9 id=none:=r.fresh fS
       obtain ⟨v',w',ef,eL,dk,hR,hrel,hk⟩:=appendCore (ty:=ty) (n:=0) (de:=jE) (F:=jE) r (fun _=>ah rfl) hu hi Sr fq On (by rw [Sj,hzl]) hs0 tH tH (r.mover (q:=id) fS fun l e=>by rw [hid0] at e;cases e) (.inl ⟨rfl,rfl⟩)
        nk T8 Y4 Nk YL (fun rd i j f _ hf=>⟨fun h=>by omega,fun _=>⟨f,hf,fun u h=>h⟩⟩) (by have:=dg.hd;rw [aE];exact this)
       rw [aE] at hR hrel
       refine ⟨v',w',ef,eL,dk,hR.congr (fun _=>rfl) (fun j=> ?_) rfl rfl rfl,hrel,hk⟩
       show ((σ.setObj id (some (.row m jE))).obj j)=_
       rw [St.dE,St.dE,St.dE]
       by_cases e:id=j<;>simp [e]
      ·rename_i s' q len
       split at he
       ·rename_i n de gR
        cases B6:(Nat.beq s s'&&Nat.beq de.length s)
        ·simp only [B6,ax] at he;subst he;exact dc dg
        ·simp only [B6,aq] at he
         simp only [av] at B6
         obtain rfl:=ag B6.1
         have jg:=ag B6.2
         have tE:ke σ.obj q s=true:=by unfold ke;rw [gR];exact B6.2
         obtain ⟨hkq,mS⟩:=nG r tE hx
         obtain ⟨_,pG⟩:=r.fg _ _ gR
         have dest:len<=n->(vx= .slice none 0 0/\len=0)\/ ∃g C cv T,vx= .slice (some ⟨g,0,none⟩) len C/\len<=C/\Bi c9 q=some g/\w.heap[g]? =some (.cells cv T (0,0))/\cv.size=C*s/\
          ∀(i j:Nat) (f:Nat->DV),i<len->de[j]? =some f-> ∃u,cv[i*s+j]? =some u/\fc u=true/\du (df w base S0 c9) (f i) u:=by
          intro nk
          rcases mS with ⟨h1,_,h2,h3⟩|⟨g,C,h1,h2,h3⟩|⟨h1,_⟩
          rotate_left 2
          ·omega
          ·exact .inl ⟨h1,h2⟩
          ·rcases pG with ⟨h4,_⟩|⟨g',C',cv,T,h4,hh,xv,Ua,hrel⟩
           ·rw [h3] at h4;cases h4
           ·rw [h3] at h4
            cases h4
            refine .inr ⟨g,C,cv,T,by rw [h1];simp,by omega,by simp only [Bi,h3],hh,by rw [xv,jg],fun i j f hi hj=> ?_⟩
            obtain ⟨u,hu,ho,hr⟩:=hrel i j f (by omega) hj
            rw [jg] at hu
            exact ⟨u,hu,ho,hr⟩
         ·subst he
          obtain ⟨A,c,news,rfl,nk,T8,Y4,Nk,YL⟩:=mg r T5 dg.tl.tl tH hy
          obtain ⟨v',w',ef,eL,dk,hR,hrel,hk⟩:=appendCore (ty:=ty) (n:=len) (de:=de) (F:=ky len de jE) r (fun _=>ah rfl) hu hi Sr fq On (by rw [Sj,hzl]) hs0 (by rw [o9 _ _ _ (by omega),jg]) jg (r.mover (q:=q) fS fun l e=>by
           rcases pG with ⟨h,_⟩|⟨g,C,_,_,h,_⟩<;>rw [e] at h<;>cases h
           ·exact .inl rfl
           ·exact .inr ⟨_,_,rfl⟩) (dest dg.hd)
           nk T8 Y4 Nk YL (fun rd i j f pH hf=>by
            obtain ⟨c',d',h1,h2,rfl⟩:=pb _ _ _ _ _ hf
            obtain ⟨k1,k2⟩:=rL (rd:=rd) (c:=c') (d:=d') pH
            exact ⟨fun h=>⟨c',h1,k1 h⟩,fun h=>⟨d',h2,k2 h⟩⟩) dg.tl.hd
          exact ⟨v',w',ef,eL,dk,hR,hrel,hk⟩
       ·rename_i n de gR
        cases B6:(Nat.beq s s'&&Nat.beq de.length s)
        ·simp only [B6,ax] at he;subst he;exact dc dg
        ·simp only [B6,aq] at he
         simp only [av] at B6
         obtain rfl:=ag B6.1
         have jg:=ag B6.2
         have tE:xu σ.obj q s=true:=by unfold xu;rw [gR];exact B6.2
         obtain ⟨hkq,mS⟩:=GQ r tE hx
         obtain ⟨_,pG⟩:=r.fg _ _ gR
         have dest:len<=n->(vx= .slice none 0 0/\len=0)\/ ∃g o C cv T,vx= .slice (some ⟨g,o,none⟩) len C/\len<=C/\Im c9 q=some g/\w.heap[g]? =some (.cells cv T (0,0))/\o+C*s<=cv.size/\
          ∀(i j:Nat) (f:Nat->DV),i<len->de[j]? =some f-> ∃u,cv[o+(i*s+j)]? =some u/\fc u=true/\du (df w base S0 c9) (f i) u:=by
          intro nk
          rcases mS with ⟨h1,_,h2,h3⟩|⟨g,o,C,h1,h2,h3⟩|⟨h1,_⟩
          rotate_left 2
          ·omega
          ·exact .inl ⟨h1,h2⟩
          ·rcases pG with ⟨h4,_⟩|⟨g',o',C',cv,T,h4,hh,xv,Ua,hrel⟩
           ·rcases h3 with h3|⟨h3,_⟩<;>rw [h3] at h4<;>cases h4
           ·have hq:g'=g/\o'=o/\C'=C/\Im c9 q=some g:=by
             rcases h3 with h3|⟨h3,rfl⟩<;>rcases h4 with h4|⟨h4,rfl⟩<;>rw [h3] at h4<;>cases h4<;>exact ⟨rfl,rfl,rfl,by simp only [Im,h3]⟩
            obtain ⟨rfl,rfl,rfl,hbe⟩:=hq
            refine .inr ⟨g',o',C',cv,T,by rw [h1];simp,by omega,hbe,hh,by rw [<-jg];exact xv,fun i j f hi hj=> ?_⟩
            obtain ⟨u,hu,ho,hr⟩:=hrel i j f (by omega) hj
            rw [jg] at hu
            exact ⟨u,hu,ho,hr⟩
         ·subst he
          obtain ⟨A,c,news,rfl,nk,T8,Y4,Nk,YL⟩:=mg r T5 dg.tl.tl tH hy
          obtain ⟨v',w',ef,eL,dk,hR,hrel,hk⟩:=Iv (ty:=ty) (n:=len) (de:=de) (F:=ky len de jE) r (fun _=>ah rfl) hu hi Sr fq On (by rw [Sj,hzl]) hs0 (by rw [o9 _ _ _ (by omega),jg]) jg (r.P8 (q:=q) fS (fun l e=>by
           rcases pG with ⟨h,_⟩|⟨g,o,C,_,_,h,_⟩
           ·rw [e] at h;cases h;exact .inl rfl
           ·rcases h with h|⟨h,_⟩<;>rw [e] at h<;>cases h
            ·exact .inr ⟨_,.inr ⟨_,_,rfl⟩⟩
            ·exact .inr ⟨_,.inl ⟨_,rfl⟩⟩) (fun g hg=>DW hg)) (dest dg.hd)
           nk T8 Y4 Nk YL (fun rd i j f pH hf=>by
            obtain ⟨c',d',h1,h2,rfl⟩:=pb _ _ _ _ _ hf
            obtain ⟨k1,k2⟩:=rL (rd:=rd) (c:=c') (d:=d') pH
            exact ⟨fun h=>⟨c',h1,k1 h⟩,fun h=>⟨d',h2,k2 h⟩⟩) dg.tl.hd
          exact ⟨v',w',ef,eL,dk,hR,hrel,hk⟩
       ·subst he;exact dc dg
      ·rename_i tk mi
       split at he
       ·rename_i ks len gN ym gR
        split at he
        ·rename_i l HA
         cases qx:Nat.beq s 1
         ·simp only [qx,ax] at he;subst he;exact dc dg
         ·simp only [qx,aq] at he
          subst he
          obtain rfl:=ag qx
          obtain ⟨A,c,news,rfl,nk,T8,Y4,Nk,YL⟩:=mg r T5 dg.tl tH hy
          obtain ⟨_,g,bs,es,clock,hlm,hh,hG,yF,tG⟩:=r.fg _ _ gR
          obtain ⟨v',hbt,sI⟩:=tG tk l (se HA)
          have jf:vx=v':=by cases hx with|tok _ _ h=>exact h v' hbt
          subst jf
          have Kg:Cr w (df w base S0 c9) bs (len l) (gN l) vx:=by
           rcases sI with ⟨e,he,hk,rfl⟩|⟨h1,rfl⟩
           ·exact hG.Uy e l he hk (by simp)
           ·exact .inl ⟨rfl,hG.P9 l h1 (by simp)⟩
          obtain ⟨D,hD,HD⟩: ∃D:Option Nat,(∀g,D=some g->g∈bs/\ ∃n C,vx= .slice (some ⟨g,0,none⟩) n C)/\((vx= .slice none 0 0/\len l=0)\/ ∃g C cv T,vx= .slice (some ⟨g,0,none⟩) (len l) C/\len l<=C/\D=some g/\w.heap[g]? =some (.cells cv T (0,0))/\cv.size=C*1/\
           ∀(i j:Nat) (f:Nat->DV),i<len l->[gN l][j]? =some f-> ∃u,cv[i*1+j]? =some u/\fc u=true/\du (df w base S0 c9) (f i) u):=by
           rcases Kg with ⟨h1,h0⟩|⟨g',C,cv,T,h1,h2,h3,h4,h5,h6⟩
           ·exact ⟨none,(fun _ h=>by cases h),.inl ⟨h1,h0⟩⟩
           ·refine ⟨some g',(fun _ h=>by cases h;exact ⟨h2,_,_,h1⟩),.inr ⟨g',C,cv,T,h1,h5,rfl,h3,by omega,fun i j f hi hf=> ?_⟩⟩
            have hj:j=0:=by
             have:=(aj.1 hf).1
             simp at this;exact this
            subst hj
            simp at hf
            subst hf
            simpa using h6 i hi
          obtain ⟨v',w',ef,eL,dk,hR,hrel,hk⟩:=appendCore (ty:=ty) (n:=len l) (de:=[gN l]) (F:=ky (len l) [gN l] jE) r (fun _=>ah rfl) hu hi Sr fq On (by rw [Sj,hzl]) hs0 (by rw [o9 _ _ _ (by simpa using tH.symm)];rfl) rfl (r.Yr fS hlm hh hG yF sI hD) HD
           nk T8 Y4 Nk YL (fun rd i j f pH hf=>by
            obtain ⟨c',d',h1,h2,rfl⟩:=pb _ _ _ _ _ hf
            obtain ⟨k1,k2⟩:=rL (rd:=rd) (c:=c') (d:=d') pH
            exact ⟨fun h=>⟨c',h1,k1 h⟩,fun h=>⟨d',h2,k2 h⟩⟩) dg.hd
          exact ⟨v',w',ef,eL,dk,hR,hrel,hk⟩
        ·subst he;exact dc dg
       ·subst he;exact dc dg
      ·subst he;exact dc dg
    ·subst he;exact dc dg
  ·subst he;exact dc dg
 ·subst he;exact dc dg
def gu:DV->List Nat
 |.row _ id _ _=>[id]
 |.pB id=>[id]
 |_=>[]
theorem Qe (r:R base w0 S0 σ kn c9 a w) {m:Nat} {ks:KS} {has:List Int->Bool} {gN:List Int->DV} {ym:Option (Nat×List Int)} {v:Value} {gJ:Rd} (eP: ∀a u,df w base S0 c9 a u->gJ a u)
 (gQ: ∀l g,c9 m=some l->l.has g-> ∀ad u,ad.block=g->BC w ad u->gJ ad u) (gR:σ.obj m=some (.map ks has gN ym)) (hv:Rel (df w base S0 c9) kn c9 (.pB m) v):du gJ (.mp ks has gN) v:=by
 obtain ⟨_,g,es,clock,hl,hh,hm,_,_⟩:=r.fg _ _ gR
 have hvg:v= .map (some g):=by cases hv with|pB _ _ h=>exact h g [] hl
 subst hvg
 refine .mp (es.toList.map fun e=>(e.key,e.val)) (fun h=>by cases h) (fun g' e=> ?_) (fun p hp=> ?_) (fun l hl=> ?_) ?_ (fun p hp=> ?_) fun p l hp hk=> ?_
 ·cases e
  exact gQ _ g hl (.inl rfl) _ _ rfl (.inr (.inl ⟨es,clock,hh,rfl⟩))
 ·obtain ⟨e,he,rfl⟩:=br.1 hp
  exact hm.hk e he
 ·obtain ⟨e,he,hk⟩:=hm.hh l hl
  exact ⟨_,br.2 ⟨e,he,rfl⟩,hk⟩
 ·rw [List.pairwise_map];exact hm.hd
 ·obtain ⟨e,he,rfl⟩:=br.1 hp
  exact hm.hs e he
 ·obtain ⟨e,he,rfl⟩:=br.1 hp
  exact (hm.h e l he hk).mono eP (fun _ h=>h) fun _ _ h=>h.elim
theorem vl (r:R base w0 S0 σ kn c9 a w) {d d':DV} {vc:List Prop} {v:Value} {gJ:Rd} (eP: ∀a u,df w base S0 c9 a u->gJ a u)
 (gQ: ∀id l g,id∈gu d->c9 id=some l->l.has g-> ∀ad u,ad.block=g->BC w ad u->gJ ad u) (h:mP σ.obj d=some (d',vc)) (dg:dp vc) (hv:Rel (df w base S0 c9) kn c9 d v):
 du gJ d' v/\((∀id,id∉gu d)->du (df w base S0 c9) d' v):=by
 have open_: ∀{d v},du (df w base S0 c9) d v->du gJ d v:=fun h=>h.mono eP (fun _ h=>h) fun _ _ h=>h.elim
 unfold mP at h
 split at h
 ·rename_i s id off len
  refine ⟨?_,fun nj=>absurd (au.2 rfl) (nj id)⟩
  split at h
  ·rename_i n de gR
   cases hb:Nat.beq de.length s
   ·simp [hb] at h
   ·simp only [hb,aq] at h
    have xy:=ag hb
    have tE:ke σ.obj id s=true:=by unfold ke;rw [gR];exact hb
    have gen: ∀na,na=de.map (fun c i=>c (i+off))->len+off<=n->du gJ (.di len na) v:=by
     intro na hcx hle
     have hlx:na.length=s:=by rw [hcx];simpa using xy
     obtain ⟨_,⟨rfl,_,rfl,_⟩|⟨g,C,rfl,hC,hl⟩|⟨_,rfl,p,c,rfl⟩⟩:=nG r tE hv
     rotate_left 2
     ·exact .di (fun _ _=>undef) (ao _) (fun i j f hi=>by omega) (fun h=>by omega) (fun i j f hi=>by omega) fun i j f hi=>by omega
     ·exact .di (fun _ _=>undef) (af _) (fun i j f hi=>by omega) (fun h=>by omega) (fun i j f hi=>by omega) fun i j f hi=>by omega
     ·obtain ⟨_,pG⟩:=r.fg _ _ gR
      rcases pG with ⟨nk,_⟩|⟨g',C',cv,T,oS,hh,fq,Ua,hrel⟩
      ·rw [nk] at hl;cases hl
      ·rw [hl] at oS
       cases oS
       have key: ∀(i j:Nat) (f:Nat->DV),i<len->na[j]? =some f-> ∃u,w.cell? (Addr.add ⟨g,off*s,none⟩ (i*na.length+j))=some u/\fc u=true/\du (df w base S0 c9) (f i) u:=by
        intro i j f hi hf
        rw [hcx,aw] at hf
        cases ot:de[j]? with
        |none=>simp [ot] at hf
        |some f'=>
         simp only [ot,aA,aa] at hf
         subst hf
         obtain ⟨u,hu,ho,Kd⟩:=hrel (i+off) j f' (by omega) ot
         rw [xy] at hu
         refine ⟨u,?_,ho,Kd⟩
         rw [eE,hlx]
         simp only [World.cell?,hh]
         rw [show off*s+(i*s+j)=(i+off)*s+j by rw [cE];omega,hu]
         rfl
       have val: ∀(i j:Nat) (f:Nat->DV),i<len->na[j]? =some f->w.cell? (Addr.add ⟨g,off*s,none⟩ (i*na.length+j))=some ((w.cell? (Addr.add ⟨g,off*s,none⟩ (i*na.length+j))).getD undef):=by
        intro i j f hi hf
        obtain ⟨u,hu,_⟩:=key i j f hi hf
        rw [hu];rfl
       refine .di (fun i j=>(w.cell? (Addr.add ⟨g,off*s,none⟩ (i*na.length+j))).getD undef) (by omega) (fun i j f hi hf=>⟨_,rfl,gQ id _ g (au.2 rfl) hl rfl _ _ (by rw [eE]) (.inl ⟨val i j f hi hf,by obtain ⟨u,hu,ho,_⟩:=key i j f hi hf;rw [hu];exact ho⟩)⟩) (fun _ h=>by cases h) (fun i j f hi hf=> ?_) fun i j f hi hf=> ?_
       ·obtain ⟨u,hu,ho,_⟩:=key i j f hi hf
        rw [hu];exact ho
       ·obtain ⟨u,hu,_,hr⟩:=key i j f hi hf
        rw [hu];exact open_ hr
    simp only [aa,aB] at h
    obtain ⟨rfl,rfl⟩:=h
    exact gen _ rfl dg.one
  ·cases h
 ·rename_i m
  refine ⟨?_,fun nj=>absurd (au.2 rfl) (nj m)⟩
  split at h
  ·rename_i ks has gN ym gR
   simp only [aa,aB] at h
   obtain ⟨rfl,rfl⟩:=h
   exact Qe r eP (fun l g=>gQ m l g (au.2 rfl)) gR hv
  ·cases h
 ·cases hc:d.closed
  ·simp [hc] at h
  ·simp only [hc,aq,aa,aB] at h
   obtain ⟨rfl,rfl⟩:=h
   have:=hv.close hc
   exact ⟨open_ this,fun _=>this⟩
theorem oG (r:R base w0 S0 σ kn c9 a w) {id g:Nat} {l:Loc} (hl:c9 id=some l) (hg:l.has g):S0.S g\/base<=g:=(r.ge _ _ _ hl hg).1.elim .inr fun h=> .inl (r.xs _ h)
theorem sb (r:R base w0 S0 σ kn c9 a w) {id g:Nat} {l:Loc} (hl:c9 id=some l) (hg:l.has g): ∀B,S0.wb=some B->jV w g->g<B:=fun B hB ⟨o,h,h2⟩=>by
 rcases r.oH hl hg with ⟨_,_,h'⟩|⟨bs,_,rfl,_⟩
 ·rw [h] at h';cases h';rcases h2 with ⟨_,_,h2⟩|⟨_,_,_,_,h2⟩<;>cases h2
 ·exact r.lR B hB id g bs hl
theorem tu (r:R base w0 S0 σ kn c9 a w) {d d':DV} {vc:List Prop} {v:Value} (h:mP σ.obj d=some (d',vc)) (dg:dp vc) (hv:Rel (df w base S0 c9) kn c9 d v):
 du (lY w S0.S base) d' v/\((∀id,id∉gu d)->du (df w base S0 c9) d' v):=
 vl r (fun a u ⟨x,_,y,_⟩=>⟨x,y⟩) (fun id l g _ hl hg ad u e hu=>⟨hu,e▸oG r hl hg⟩) h dg hv
theorem q9 (r:R base w0 S0 σ kn c9 a w) {gJ:Rd} (eP: ∀a u,df w base S0 c9 a u->gJ a u): ∀{ds es:List DV} {vc:List Prop} {vs:List Value},
 (∀d id l g,d∈ds->id∈gu d->c9 id=some l->l.has g-> ∀ad u,ad.block=g->BC w ad u->gJ ad u)->jQ σ.obj ds=some (es,vc)->dp vc->vs.length=ds.length->
 (∀(j:Nat) (d:DV) (v:Value),ds[j]? =some d->vs[j]? =some v->Rel (df w base S0 c9) kn c9 d v)->
 ∀(j:Nat) (d:DV) (v:Value),es[j]? =some d->vs[j]? =some v->du gJ d v
 |[],es,vc,vs,_,h,_,_,_=>by
  simp only [jQ,aa,aB] at h
  obtain ⟨rfl,rfl⟩:=h
  simp
 |d::ds,es,vc,vs,gQ,h,dg,hl,hv=>by
  simp only [jQ] at h
  split at h
  ·rename_i e Gu Mg uo h1 h2
   simp only [aa,aB] at h
   obtain ⟨rfl,rfl⟩:=h
   obtain ⟨EZ,Hw⟩:=dp.app dg
   match vs,hl with
   |v::vs,hl=>
    have k1:=(vl r eP (fun id l g hm=>gQ d id l g ay hm) h1 EZ (hv 0 d v rfl rfl)).1
    have l1:=q9 r eP (fun d' id l g hm=>gQ d' id l g (az _ hm)) h2 Hw (by simpa using hl) (fun j d v hd jf=>hv (j+1) d v hd jf)
    intro j d' v' hd jf
    cases j with
    |zero=>simp at hd jf;subst hd jf;exact k1
    |succ j=>exact l1 j d' v' (by simpa using hd) (by simpa using jf)
  ·cases h
def kD (i:Nat):List DV->Bool
 |[]=>false
 |.row _ id _ _::r=>decide (id=i)||kD i r
 |.pB id::r=>decide (id=i)||kD i r
 |_::r=>kD i r
theorem oC {i:Nat}: ∀{l:List DV},kD i l=true↔ ∃d∈l,i∈gu d
 |[]=>by simp [kD]
 |d::l=>by
  have ih:=oC (i:=i) (l:=l)
  have h1:(∃d',d'∈d::l/\i∈gu d')↔i∈gu d\/ ∃d',d'∈l/\i∈gu d':=by
   constructor
   ·rintro ⟨d',hd,hi⟩
    rcases aS.1 hd with rfl|hd
    ·exact .inl hi
    ·exact .inr ⟨d',hd,hi⟩
   ·rintro (hi|⟨d',hd,hi⟩)
    ·exact ⟨d,ay,hi⟩
    ·exact ⟨d',az _ hd,hi⟩
  rw [h1,<-ih]
  have e1: ∀id:Nat,(i∈[id]↔id=i):=fun id=>by rw [au];exact bW
  cases d<;>simp only [kD,gu,cC,ai,List.not_mem_nil,false_or,e1]
theorem sf {h:List (Nat×Option fK)} {i:Nat}: ∀{l:List DV},look (dV l++h) i=if kD i l=true then some none else look h i
 |[]=>by simp [dV,kD]
 |d::l=>by
  have ih:=sf (h:=h) (i:=i) (l:=l)
  have own: ∀id,look ((id,none)::(dV l++h)) i=if (decide (id=i)||kD i l)=true then some none else look h i:=fun id=>by
   simp only [dH,cC,ai]
   by_cases e:id=i
   ·rw [ah e,ah (.inl e)]
   ·rw [ae e,ih]
    by_cases h2:kD i l=true
    ·rw [ah h2,ah (.inr h2)]
    ·rw [ae h2,ae (fun h=>h.elim e h2)]
  cases d with
  |row s id off len=>exact own id
  |pB id=>exact own id
  |_=>exact ih
theorem R.dV (r:R base w0 S0 σ kn c9 a w) (l:List DV) (hl: ∀d id v,d∈l->id∈gu d->c9 id≠some (.is v)):
 ∃dk,R base w0 S0 { σ with h:=Abs.dV l++σ.h } kn dk a w/\(∀id x,dk id=some x->c9 id=some x)/\ ∀d id,d∈l->id∈gu d->dk id=none:=by
 refine ⟨fun id=>if kD id l=true then none else c9 id,?_,fun id x e=> ?_,fun d id hm hi=>ah (oC.2 ⟨d,hm,hi⟩)⟩
 ·have oP: ∀i,St.obj { σ with h:=Abs.dV l++σ.h } i=if kD i l=true then none else σ.obj i:=fun i=>by
   unfold St.obj
   simp only [sf]
   by_cases h:kD i l=true
   ·rw [ah h,ah h]
   ·rw [ae h,ae h]
  refine r.step (fun _=>False) (fun i=>kD i l=true) (af _) rfl rfl rfl (fun _ _ _=>rfl) (fun _ h=>h.elim) (fun _ h=>h) (fun i h=>ae h) (fun i v h _ e=> ?_) (fun i x g h e=> ?_) (fun i x h _ e=> ?_) rfl rfl rfl (fun _=>rfl) (fun i h=>by rw [oP,ae h])
   (fun _ _ _ i o h e=> ?_) (fun i x h e=> ?_) (fun i i' _ _ _ h _ e=> ?_) fun B _ i g bs h e=> ?_
  ·obtain ⟨d,hd,hi⟩:=oC.1 h
   exact absurd e (hl d i v hd hi)
  ·rw [ah h] at e;cases e
  ·rw [ah h] at e;cases e
  ·rw [oP,ah h] at e;cases e
  ·rw [ah h] at e;cases e
  ·rw [ah h] at e;cases e
  ·rw [ah h] at e;cases e
 ·have e:(if kD id l=true then none else c9 id)=some x:=e
  split at e
  ·cases e
  ·exact e
theorem zb (r:R base w0 S0 σ kn c9 a w) {d:DV} {p:DV×List Prop} (h:mP σ.obj d=some p): ∀id v,id∈gu d->c9 id≠some (.is v):=by
 intro id v hi e
 cases d with
 |row s i off len=>
  obtain rfl:=au.1 hi
  simp only [mP] at h
  split at h
  ·rename_i n de gR
   have:=(r.fg _ _ gR).2
   rw [e] at this
   rcases this with ⟨h,_⟩|⟨_,_,_,_,h,_⟩<;>cases h
  ·cases h
 |pB i=>
  obtain rfl:=au.1 hi
  simp only [mP] at h
  split at h
  ·rename_i ks has gN ym gR
   obtain ⟨_,_,_,h,_⟩:=(r.fg _ _ gR).2
   rw [e] at h;cases h
  ·cases h
 |_=>simp [gu] at hi
theorem rh (r:R base w0 S0 σ kn c9 a w): ∀{ds:List DV} {p:List DV×List Prop},jQ σ.obj ds=some p-> ∀d id v,d∈ds->id∈gu d->c9 id≠some (.is v)
 |[],_,_,d,_,_,hd,_=>by cases hd
 |d::ds,p,h,d',id,v,hd,hi=>by
  simp only [jQ] at h
  split at h
  ·rename_i e Gu Mg uo h1 h2
   rcases aS.1 hd with rfl|hd
   ·exact zb r h1 id v hi
   ·exact rh r h2 d' id v hd hi
  ·cases h
theorem jm (r:R base w0 S0 σ kn c9 a w): ∀{ds es:List DV} {vc:List Prop} {vs:List Value},jQ σ.obj ds=some (es,vc)->dp vc->vs.length=ds.length->
 (∀(j:Nat) (d:DV) (v:Value),ds[j]? =some d->vs[j]? =some v->Rel (df w base S0 c9) kn c9 d v)->
 es.length=ds.length/\(∀(j:Nat) (d:DV) (v:Value),es[j]? =some d->vs[j]? =some v->du (fQ w (fun _=>True)) d v)/\
  (tK ds=false-> ∀(j:Nat) (d:DV) (v:Value),es[j]? =some d->vs[j]? =some v->du (df w base S0 c9) d v)
 |[],es,vc,vs,h,_,_,_=>by
  simp only [jQ,aa,aB] at h
  obtain ⟨rfl,rfl⟩:=h
  exact ⟨rfl,by simp,by simp⟩
 |d::ds,es,vc,vs,h,dg,hl,hv=>by
  simp only [jQ] at h
  split at h
  ·rename_i e Gu Mg uo h1 h2
   simp only [aa,aB] at h
   obtain ⟨rfl,rfl⟩:=h
   obtain ⟨EZ,Hw⟩:=dp.app dg
   match vs,hl with
   |v::vs,hl=>
    obtain ⟨k1,k2⟩:=tu r h1 EZ (hv 0 d v rfl rfl)
    obtain ⟨l1,l2,l3⟩:=jm r h2 Hw (by simpa using hl) (fun j d v hd jf=>hv (j+1) d v hd jf)
    refine ⟨by simp [l1],fun j d' v' hd jf=> ?_,fun mS j d' v' hd jf=> ?_⟩
    ·cases j with
     |zero=>simp at hd jf;subst hd jf;exact k1.mono (fun a u ⟨x,_⟩=>⟨x,trivial⟩) (fun _ h=>h) fun _ _ h=>h.elim
     |succ j=>exact l2 j d' v' (by simpa using hd) (by simpa using jf)
    ·have YM: ∀id,id∉gu d:=by
      intro id hi
      cases d<;>simp [gu] at hi<;>simp [tK] at mS
     have hrow':tK ds=false:=by
      cases d<;>simp only [tK] at mS<;>first|exact mS|cases mS
     cases j with
     |zero=>simp at hd jf;subst hd jf;exact k2 YM
     |succ j=>exact l3 hrow' j d' v' (by simpa using hd) (by simpa using jf)
  ·cases h
theorem qU: ∀{cs:List DV},DV.plain.go cs=true-> ∀d∈cs,d.plain=true
 |[],_,d,hd=>by cases hd
 |c::r,h,d,hd=>by
  simp only [DV.plain.go] at h
  cases hc:c.plain
  ·simp [hc] at h
  ·simp only [hc,aq] at h
   rcases aS.1 hd with rfl|hd
   ·exact hc
   ·exact qU h d hd
theorem Rel.plain {rd gJ:Rd} {kn:Nat->Prop} {c9:Nat->Option Loc} {d:DV} {v:Value} (h:Rel rd kn c9 d v):d.plain=true->du gJ d v:=by
 induction h with
 |val v=>intro _;exact .val v
 |agg hs _ ih=>intro hc;exact .agg hs fun j d u hd hu=>ih j d u hd hu (qU hc d (aG hd))
 |fy hs _ ih=>intro hc;exact .fy hs fun j d u hd hu=>ih j d u hd hu (qU hc d (aG hd))
 |di=>intro hc;simp [DV.plain] at hc
 |dN=>intro hc;simp [DV.plain] at hc
 |mp=>intro hc;simp [DV.plain] at hc
 |pB=>intro hc;simp [DV.plain] at hc
 |tok=>intro hc;simp [DV.plain] at hc
 |tL=>intro hc;simp [DV.plain] at hc
 |k5=>intro hc;simp [DV.plain] at hc
 |jL=>intro hc;simp [DV.plain] at hc
 |nZ=>intro hc;simp [DV.plain] at hc
 |ptr=>intro hc;simp [DV.plain] at hc
 |jZ=>intro hc;simp [DV.plain] at hc
 |row=>intro hc;simp [DV.plain] at hc
 |opt=>intro hc;simp [DV.plain] at hc
 |err=>intro hc;simp [DV.plain] at hc
 |whole=>intro hc;simp [DV.plain] at hc
 |any=>intro hc;simp [DV.plain] at hc
theorem ZF (r:R base w0 S0 σ kn c9 a w) {id:Nat} {cs:List DV} {v:Value} {gJ:Rd} (eP: ∀a u,df w base S0 c9 a u->gJ a u) (gQ: ∀l g,c9 id=some l->l.has g-> ∀ad u,ad.block=g->BC w ad u->gJ ad u)
 (gR:σ.obj id=some (.box cs)) (hc:DV.closed.go cs=true) (hv:Rel (df w base S0 c9) kn c9 (.ptr id 0) v):du gJ (.dN cs) v:=by
 obtain ⟨g,C,cv,T,lg,hh,fq,hr,ho⟩:=(r.fg _ _ gR).2
 cases hv with
 |ptr hk hv h=>
  rw [h g C lg]
  have cell: ∀(j:Nat) (d:DV),cs[j]? =some d-> ∃u,cv[j]? =some u/\w.cell? (Addr.add ⟨g,0,none⟩ j)=some u:=fun j d hd=>by
   have h2:j<cv.size:=by have:=(aj.1 hd).1;omega
   refine ⟨_,aD h2,?_⟩
   rw [eE,aE]
   simp only [World.cell?,hh,aD h2]
   rfl
  refine .dN (fun j=>(w.cell? (Addr.add ⟨g,0,none⟩ j)).getD undef) (fun j d hd=> ?_) (fun j d hd=> ?_) fun j d hd=> ?_
  ·obtain ⟨u,h1,h3⟩:=cell j d hd
   exact gQ _ g lg rfl _ _ (by rw [eE]) (.inl ⟨by rw [h3];rfl,by rw [h3];exact ho u (bJ.2 (b9 h1))⟩)
  ·obtain ⟨u,h1,h3⟩:=cell j d hd
   rw [h3]
   exact ho u (bJ.2 (b9 h1))
  ·obtain ⟨u,h1,h3⟩:=cell j d hd
   rw [h3]
   exact ((hr j d u hd h1).close (gn hc d (aG hd))).mono eP (fun _ h=>h) fun _ _ h=>h.elim
theorem PO {d:DV} {id:Nat} (h:id∈gu d):id∈kY d:=by cases d<;>first|exact h|simp [gu] at h
theorem Qk {d:DV} {id:Nat} (h:id∈kY d):id∈jz d:=by cases d<;>first|exact h|simp [kY] at h
def wD (w:World) (c9:Nat->Option Loc) (gJ:Rd) (ids:List Nat):Prop:= ∀id l g,id∈ids->c9 id=some l->l.has g-> ∀ad u,ad.block=g->BC w ad u->gJ ad u
theorem Aq (r:R base w0 S0 σ kn c9 a w) {gJ:Rd} (eP: ∀a u,df w base S0 c9 a u->gJ a u) {d d':DV} {vc:List Prop} {v:Value} (gQ:wD w c9 gJ (kY d)) (h:p6 σ.obj d=some (d',vc)) (dg:dp vc) (hv:Rel (df w base S0 c9) kn c9 d v):du gJ d' v:=by
 unfold p6 at h
 split at h
 ·rename_i id
  split at h
  ·rename_i cs gR
   cases hc:DV.closed.go cs
   ·simp [hc] at h
   ·simp only [hc,aq,aa,aB] at h
    obtain ⟨rfl,rfl⟩:=h
    exact ZF r eP (fun l g=>gQ id l g (au.2 rfl)) gR hc hv
  ·cases h
 ·exact (vl r eP (fun id l g hi=>gQ id l g (PO hi)) h dg hv).1
theorem xm (r:R base w0 S0 σ kn c9 a w) {gJ:Rd} (eP: ∀a u,df w base S0 c9 a u->gJ a u): ∀{ds es:List DV} {vc:List Prop},wD w c9 gJ (jz.go ds)->mO σ.obj ds=some (es,vc)->dp vc->es.length=ds.length/\
 ∀(j:Nat) (d e:DV) (v:Value),ds[j]? =some d->es[j]? =some e->Rel (df w base S0 c9) kn c9 d v->du gJ e v
 |[],es,vc,_,h,_=>by
  simp only [mO,aa,aB] at h
  obtain ⟨rfl,rfl⟩:=h
  exact ⟨rfl,by simp⟩
 |d::ds,es,vc,gQ,h,dg=>by
  simp only [mO] at h
  split at h
  ·rename_i e Gu Mg uo h1 h2
   simp only [aa,aB] at h
   obtain ⟨rfl,rfl⟩:=h
   obtain ⟨k1,k2⟩:=dp.app dg
   obtain ⟨l1,l2⟩:=xm r eP (fun id l g hi=>gQ id l g (aW _ hi)) h2 k2
   refine ⟨by simp [l1],fun j d' e' v hd he hv=> ?_⟩
   cases j with
   |zero=>
    simp only [aP,aa] at hd he
    subst hd he
    exact Aq r eP (fun id l g hi=>gQ id l g (aR _ hi)) h1 k1 hv
   |succ j=>exact l2 j d' e' v (by simpa using hd) (by simpa using he) hv
  ·cases h
theorem vq (r:R base w0 S0 σ kn c9 a w) {gJ:Rd} (eP: ∀a u,df w base S0 c9 a u->gJ a u) {d d':DV} {vc:List Prop} {v:Value} (gQ:wD w c9 gJ (jz d)) (h:p7 σ.obj d=some (d',vc)) (dg:dp vc) (hv:Rel (df w base S0 c9) kn c9 d v):du gJ d' v:=by
 unfold p7 at h
 split at h
 ·rename_i f cs
  split at h
  ·rename_i es O6 hl
   simp only [aa,aB] at h
   obtain ⟨rfl,rfl⟩:=h
   obtain ⟨l1,l2⟩:=xm r eP gQ hl dg
   cases hv with
   |jL hs hr=>
    refine .jL (by rw [l1];exact hs) fun j d u hd hu=> ?_
    have dK:=(aj.1 hd).1
    have rq:=ak (l1▸dK)
    exact l2 j _ d u rq hd (hr j _ u rq hu)
  ·cases h
 ·rename_i cs
  split at h
  ·rename_i es O6 hl
   simp only [aa,aB] at h
   obtain ⟨rfl,rfl⟩:=h
   obtain ⟨l1,l2⟩:=xm r eP gQ hl dg
   cases hv with
   |agg hs hr=>
    refine .agg (by rw [l1];exact hs) fun j d u hd hu=> ?_
    have dK:=(aj.1 hd).1
    have rq:=ak (l1▸dK)
    exact l2 j _ d u rq hd (hr j _ u rq hu)
  ·cases h
 ·exact Aq r eP (fun id l g hi=>gQ id l g (Qk hi)) h dg hv
theorem Hm (r:R base w0 S0 σ kn c9 a w) {d d':DV} {vc:List Prop} {v:Value} (h:p7 σ.obj d=some (d',vc)) (dg:dp vc) (hv:Rel (df w base S0 c9) kn c9 d v):du (fQ w fun _=>True) d' v:=
 vq r (fun a u h=>⟨h.1,trivial⟩) (fun _ _ _ _ _ _ _ _ _ h=>⟨h,trivial⟩) h dg hv
theorem pD (r:R base w0 S0 σ kn c9 a w): ∀{ds es:List DV} {vc:List Prop} {vs:List Value},j6 σ.obj ds=some (es,vc)->dp vc->vs.length=ds.length->
 (∀(j:Nat) (d:DV) (v:Value),ds[j]? =some d->vs[j]? =some v->Rel (df w base S0 c9) kn c9 d v)->
 es.length=ds.length/\ ∀(j:Nat) (d:DV) (v:Value),es[j]? =some d->vs[j]? =some v->du (fQ w (fun _=>True)) d v
 |[],es,vc,vs,h,_,_,_=>by
  simp only [j6,aa,aB] at h
  obtain ⟨rfl,rfl⟩:=h
  exact ⟨rfl,by simp⟩
 |d::ds,es,vc,vs,h,dg,hl,hv=>by
  simp only [j6] at h
  split at h
  ·rename_i e Gu Mg uo h1 h2
   simp only [aa,aB] at h
   obtain ⟨rfl,rfl⟩:=h
   obtain ⟨EZ,Hw⟩:=dp.app dg
   match vs,hl with
   |v::vs,hl=>
    have k1:=Hm r h1 EZ (hv 0 d v rfl rfl)
    obtain ⟨l1,l2⟩:=pD r h2 Hw (by simpa using hl) (fun j d v hd jf=>hv (j+1) d v hd jf)
    refine ⟨by simp [l1],fun j d' v' hd jf=> ?_⟩
    cases j with
    |zero=>simp at hd jf;subst hd jf;exact k1
    |succ j=>exact l2 j d' v' (by simpa using hd) (by simpa using jf)
  ·cases h
theorem Dv (r:R base w0 S0 σ kn c9 a w) {gJ:Rd} (eP: ∀a u,df w base S0 c9 a u->gJ a u): ∀{ds es:List DV} {vc:List Prop} {vs:List Value},wD w c9 gJ (pW ds)->j6 σ.obj ds=some (es,vc)->dp vc->vs.length=ds.length->
 (∀(j:Nat) (d:DV) (v:Value),ds[j]? =some d->vs[j]? =some v->Rel (df w base S0 c9) kn c9 d v)->
 ∀(j:Nat) (d:DV) (v:Value),es[j]? =some d->vs[j]? =some v->du gJ d v
 |[],es,vc,vs,_,h,_,_,_=>by
  simp only [j6,aa,aB] at h
  obtain ⟨rfl,rfl⟩:=h
  simp
 |d::ds,es,vc,vs,gQ,h,dg,hl,hv=>by
  simp only [j6] at h
  split at h
  ·rename_i e Gu Mg uo h1 h2
   simp only [aa,aB] at h
   obtain ⟨rfl,rfl⟩:=h
   obtain ⟨EZ,Hw⟩:=dp.app dg
   match vs,hl with
   |v::vs,hl=>
    have k1:=vq r eP (fun id l g hi=>gQ id l g (aR _ hi)) h1 EZ (hv 0 d v rfl rfl)
    have l1:=Dv r eP (fun id l g hi=>gQ id l g (aW _ hi)) h2 Hw (by simpa using hl) (fun j d v hd jf=>hv (j+1) d v hd jf)
    intro j d' v' hd jf
    cases j with
    |zero=>simp at hd jf;subst hd jf;exact k1
    |succ j=>exact l1 j d' v' (by simpa using hd) (by simpa using jf)
  ·cases h
theorem Hl (r:R base w0 S0 σ kn c9 a w) {d:DV} {p:DV×List Prop} (h:p6 σ.obj d=some p): ∀id v,id∈kY d->c9 id≠some (.is v):=by
 intro id v hi e
 unfold p6 at h
 split at h
 ·rename_i i
  obtain rfl:=au.1 hi
  split at h
  ·rename_i cs gR
   have:=(r.fg _ _ gR).2
   rw [e] at this
   obtain ⟨_,_,_,_,h,_⟩:=this
   cases h
  ·cases h
 ·rename_i hno
  refine zb r h id v ?_ e
  cases d with
  |ptr i off=>
   unfold mP at h
   simp [DV.closed] at h
  |_=>exact hi
theorem xn (r:R base w0 S0 σ kn c9 a w): ∀{ds:List DV} {p:List DV×List Prop},mO σ.obj ds=some p-> ∀id v,id∈jz.go ds->c9 id≠some (.is v)
 |[],_,_,_,_,hi=>by cases hi
 |d::ds,p,h,id,v,hi=>by
  simp only [mO] at h
  split at h
  ·rename_i e Gu Mg uo h1 h2
   rcases aT.1 hi with hi|hi
   ·exact Hl r h1 id v hi
   ·exact xn r h2 id v hi
  ·cases h
theorem Ql (r:R base w0 S0 σ kn c9 a w) {d:DV} {p:DV×List Prop} (h:p7 σ.obj d=some p): ∀id v,id∈jz d->c9 id≠some (.is v):=by
 intro id v hi
 unfold p7 at h
 split at h
 ·split at h
  ·rename_i hl;exact xn r hl id v hi
  ·cases h
 ·split at h
  ·rename_i hl;exact xn r hl id v hi
  ·cases h
 ·rename_i h1 h2
  refine Hl r h id v ?_
  cases d with
  |jL f cs=>exact absurd rfl (h1 f cs)
  |agg cs=>exact absurd rfl (h2 cs)
  |_=>exact hi
theorem xo (r:R base w0 S0 σ kn c9 a w): ∀{ds:List DV} {p:List DV×List Prop},j6 σ.obj ds=some p-> ∀id v,id∈pW ds->c9 id≠some (.is v)
 |[],_,_,_,_,hi=>by cases hi
 |d::ds,p,h,id,v,hi=>by
  simp only [j6] at h
  split at h
  ·rename_i e Gu Mg uo h1 h2
   rcases aT.1 hi with hi|hi
   ·exact Ql r h1 id v hi
   ·exact xo r h2 id v hi
  ·cases h
theorem Am {id:Nat}: ∀{l:List Nat},id∈l->DV.pB id∈uY l
 |i::l,h=>by
  rcases aS.1 h with rfl|h
  ·exact ay
  ·exact az _ (Am h)
theorem y6 {d:DV} {id:Nat}: ∀{l:List Nat},d∈uY l->id∈gu d->id∈l
 |[],h,_=>by cases h
 |i::l,h,hi=>by
  rcases aS.1 h with rfl|h
  ·obtain rfl:=au.1 hi
   exact ay
  ·exact az _ (y6 h hi)
theorem R.Mv (r:R base w0 S0 σ kn c9 a w) (hb:Below w.heap.size w w') {id:Nat} {l:Loc} {n:Nat} {de:List (Nat->DV)} (fS: ¬kn id) (sT:S0.wb=none) (hl: ∀g C,l= .at_ g C->w.heap.size<=g/\g<w'.heap.size)
 (ho:(l= .nil/\n=0)\/ ∃g C cv T,l= .at_ g C/\w'.heap[g]? =some (.cells cv T (0,0))/\cv.size=C*de.length/\n<=C/\
   ∀(i j:Nat) (f:Nat->DV),i<n->de[j]? =some f-> ∃u,cv[i*de.length+j]? =some u/\fc u=true/\du (fun ad u=>BC w' ad u/\ad.block≠g/\(∀id l,c9 id=some l-> ¬l.has ad.block)/\(S0.S ad.block\/base<=ad.block)) (f i) u):
 R base w0 S0 (σ.setObj id (some (.row n de))) (fun i=>kn i\/i=id) (fun i=>if i=id then some l else c9 i) a w':=by
 refine r.newAt fS hb (fun g hg=> ?_) (fun B hB=>by rw [sT] at hB;cases hB) fun _ _=> ?_
 ·rcases ho with ⟨rfl,_⟩|⟨g',C,_,_,rfl,_⟩
  ·exact hg.elim
  ·cases hg;exact hl _ _ rfl
 ·rcases ho with ⟨h1,h2⟩|⟨g,C,cv,T,h1,h2,h3,h4,h5⟩
  ·exact .inl ⟨by rw [h1],h2⟩
  ·refine .inr ⟨g,C,cv,T,by rw [h1],h2,h3,h4,fun i j f hi hj=> ?_⟩
   obtain ⟨u,hu,oQ,hr⟩:=h5 i j f hi hj
   refine ⟨u,hu,oQ,hr.mono (fun ad u ⟨k1,k2,k3,k4⟩=>⟨k1,fun i' l' e hg=> ?_,k4,fun B hB=>by rw [sT] at hB;cases hB⟩) (fun _ h=>h) fun _ _ h=>h.elim⟩
   have e:(if i'=id then some l else c9 i')=some l':=e
   split at e
   ·rw [h1] at e;cases e;exact k2 hg
   ·exact k3 _ _ e hg
theorem R.Vp (r:R base w0 S0 σ kn c9 a w) {id:Nat} {o:fK} (hk:kn id) (ho:iG w (df w base S0 c9) kn c9 (c9 id) o):R base w0 S0 (σ.setObj id (some o)) kn c9 a w:=by
 refine ⟨r.below,r.xs,r.fw,r.rH,r.nM,r.LB,r.lR,r.yx,r.size,r.tmps,fun i o' h=> ?_,r.inj,r.ge,fun i l e=> ?_,r.EF⟩
 ·rw [St.dE] at h
  by_cases e:id=i
  ·subst e
   simp only [bn,aa] at h
   subst h
   exact ⟨hk,ho⟩
  ·rw [ae e] at h
   exact r.fg i o' h
 ·rw [St.dE]
  by_cases e':id=i
  ·exact ⟨o,by simp [e']⟩
  ·rw [ae e'];exact r.live i l e
theorem tC {c:Nat->DV} (h:kF c) (i:Nat):c i= .val (.int .i64 (vz (c i))):=by
 have:=h i
 split at this
 ·rename_i n e
  rw [e];rfl
 ·exact this.elim
theorem R.tM (r:R base w0 S0 σ kn c9 a w):ju (df w base S0 c9):=fun d v hd=>(r.yx d v (aR _ hd)).close (by
 rcases Pt hd with ⟨cs,e⟩|⟨cs,e⟩<;>(rw [e];rfl))
theorem vg {α:Type}: ∀(l m:List (Nat×α)) (i:Nat),look (l++m) i=match look l i with|some v=>some v|none=>look m i
 |[],m,i=>rfl
 |(k,v)::r,m,i=>by
  simp only [bp,dH]
  by_cases h:k=i
  ·simp [h]
  ·simp only [ae h];exact vg r m i
def tid (d:DV) (o:WO):Option Nat:=match d,o with
 |.row _ id _ _,.row _=>some id
 |.ptr id _,.box _=>some id
 |_,_=>none
def zB (c9:Nat->Option Loc) (d:DV) (o:WO):Option Nat:=match tid d o with
 |some id=>Bi c9 id
 |none=>none
def oz (c9:Nat->Option Loc):List DV->List WO->Nat->Option Nat
 |[],_,_=>none
 |d::_,q,0=>zB c9 d (O0 q)
 |_::r,q,j+1=>oz c9 r q.tail j
theorem uq: ∀{l:List (Nat->DV)},dp (D8 l)-> ∀f∈l,∀i,∃v,f i= .val v
 |[],_,f,hf,_=>by cases hf
 |c::r,h,f,hf,i=>by
  rcases aS.1 hf with rfl|hf
  ·have h1:=h.hd i
   split at h1
   ·rename_i v e;exact ⟨v,e⟩
   ·exact h1.elim
  ·exact uq h.tl f hf i
theorem Gq (r:R base w0 S0 σ kn c9 a w) {S:Nat->Prop} (hS: ∀k,(∀id l,c9 id=some l-> ¬l.has k)->S k) {d:DV} {o:WO} {x:WA} {hw:List (Nat×Option fK)} {vc:List Prop} {v:Value}
 (L4: ∀id l g,id∈Vz d o->c9 id=some l->l.has g->S g) (h:ov σ.obj d o=some (x,hw,vc)) (dg:dp vc) (hv:Rel (df w base S0 c9) kn c9 d v):
 x.pre w S v (zB c9 d o)/\((hw=[]/\tid d o=none)\/ ∃id ob fF,hw=[(id,some fF)]/\tid d o=some id/\σ.obj id=some ob/\(∀l,c9 id=some l->l= .nil\/ ∃g C,l= .at_ g C)/\
  ∀{w':World} {rd:Rd} {Z2:Rd},x.post w' rd v->iG w' Z2 kn c9 (c9 id) fF):=by
 have eP: ∀a u,df w base S0 c9 a u->fQ w S a u:=fun ad u h=>⟨h.1,hS _ h.2.1⟩
 unfold ov at h
 split at h
 ·rename_i s id off len fo
  split at h
  ·rename_i n de gR
   cases hb:(Nat.beq de.length s&&Nat.beq fo.length s)
   ·simp [hb] at h
   ·simp only [hb,aq,aa,aB] at h
    obtain ⟨rfl,rfl,rfl⟩:=h
    simp only [av] at hb
    have Y5:=ag hb.1
    have hc2:=ag hb.2
    have nk:len=n:=dg.hd
    subst nk
    have YH:=uq dg.tl
    obtain ⟨kL,pG⟩:=r.fg _ _ gR
    have Sk:(v= .slice none 0 0/\len=0/\c9 id=some .nil)\/ ∃g C,v= .slice (some ⟨g,0,none⟩) len C/\c9 id=some (.at_ g C):=by
     cases hv with
     |row hk hp h0 h=>
      rcases pG with ⟨hl,hn⟩|⟨g,C,cv,T,hl,_⟩
      ·exact .inl ⟨(h0 hl).1,hn,hl⟩
      ·refine .inr ⟨g,C,?_,hl⟩
       rcases h g C hl with ⟨e,_⟩|⟨e,_⟩
       ·simpa using e
       ·omega
    refine ⟨⟨by omega,?_⟩,.inr ⟨id,_,_,rfl,rfl,gR,fun l hl=> ?_,fun {w' rd Z2} vB=> ?_⟩⟩
    ·rcases Sk with ⟨h1,h2,h3⟩|⟨g,C,h1,h3⟩
     ·exact .inl ⟨h1,h2,by simp only [zB,tid,Bi,h3]⟩
     ·refine .inr ⟨g,C,by simp only [zB,tid,Bi,h3],h1,?_⟩
      rcases pG with ⟨hl,_⟩|⟨g',C',cv,T,hl,hh,fq,hn,hc⟩
      ·rw [h3] at hl;cases hl
      ·rw [h3] at hl
       cases hl
       exact ⟨cv,T,hh,fq,hn,fun i j f hi hf=>let ⟨u,a,b,c⟩:=hc i j f hi hf;⟨u,a,b,c.mono eP (fun _ h=>h) fun _ _ h=>h.elim⟩⟩
    ·rcases Sk with ⟨_,_,h3⟩|⟨g,C,_,h3⟩<;>rw [h3] at hl<;>cases hl
     ·exact .inl rfl
     ·exact .inr ⟨_,_,rfl⟩
    ·rcases Sk with ⟨h1,h2,h3⟩|⟨g,C,h1,h3⟩
     ·exact .inl ⟨h3,h2⟩
     ·obtain ⟨cv,T,hh,fq,hn,hc⟩:=vB g C h1
      exact .inr ⟨g,C,cv,T,h3,hh,fq,hn,fun i j f hi hf=>by
       obtain ⟨u,a,b,c⟩:=hc i j f hi hf
       obtain ⟨v',e⟩:=YH f (aG hf) i
       rw [e] at c ⊢
       have:=c.lO
       subst this
       exact ⟨_,a,b,.val _⟩⟩
  ·cases h
 ·rename_i id vS
  split at h
  ·rename_i cs gR
   cases hb:(Nat.beq vS.length cs.length&&(DV.closed.go cs&&DV.plain.go vS))
   ·simp [hb] at h
   ·simp only [hb,aq,aa,aB] at h
    obtain ⟨rfl,rfl,rfl⟩:=h
    simp only [av] at hb
    obtain ⟨qx,hU,QW⟩:=hb
    have hlen:=ag qx
    obtain ⟨g,C,cv,T,hl,hh,fq,hr,ho⟩:=(r.fg _ _ gR).2
    have hvg:v= .pointer (some ⟨g,0,none⟩):=by cases hv with|ptr _ _ h=>exact h g C hl
    refine ⟨⟨hlen,g,by simp only [zB,tid,Bi,hl],hvg,cv,T,hh,fq,fun j d u hd hu=> ?_,ho⟩,.inr ⟨id,_,_,rfl,rfl,gR,fun l oS=> ?_,fun {w' rd Z2} vB=> ?_⟩⟩
    ·exact ((hr j d u hd hu).close (gn hU d (aG hd))).mono eP (fun _ h=>h) fun _ _ h=>h.elim
    ·rw [hl] at oS;cases oS;exact .inr ⟨_,_,rfl⟩
    ·obtain ⟨yM,T',hh',xv,Sl,oQ⟩:=vB g hvg
     exact ⟨g,C,yM,T',hl,hh',xv,fun j d u hd hu=>ew ((Sl j d u hd hu).plain (qU QW d (aG hd))),oQ⟩
  ·cases h
 ·split at h
  ·rename_i e O6 hle
   simp only [aa,aB] at h
   obtain ⟨rfl,rfl,rfl⟩:=h
   have ht:tid d .no=none:=by cases d<;>rfl
   refine ⟨⟨by simp only [zB,ht],?_⟩,.inl ⟨rfl,ht⟩⟩
   exact vq r eP (fun id l g hi hl hg ad u e hu=>⟨hu,e▸L4 id l g hi hl hg⟩) hle dg hv
  ·cases h
 ·cases h
theorem uj (r:R base w0 S0 σ kn c9 a w) {S:Nat->Prop} (hS: ∀k,(∀id l,c9 id=some l-> ¬l.has k)->S k): ∀{ds:List DV} {q:List WO} {xs:List WA} {hw:List (Nat×Option fK)} {vc:List Prop} {vs:List Value},
 (∀id l g,id∈SZ ds q->c9 id=some l->l.has g->S g)->qC σ.obj ds q=some (xs,hw,vc)->dp vc->vs.length=ds.length->(∀(j:Nat) (d:DV) (v:Value),ds[j]? =some d->vs[j]? =some v->Rel (df w base S0 c9) kn c9 d v)->
 xs.length=ds.length/\(∀(j:Nat) (x:WA) (v:Value),xs[j]? =some x->vs[j]? =some v->x.pre w S v (oz c9 ds q j))/\(∀j,ds.length<=j->oz c9 ds q j=none)/\
 (∀j g,oz c9 ds q j=some g-> ∃id C,id∈hw.map (·.1)/\c9 id=some (.at_ g C))/\
 (∀i j g,(hw.map (·.1)).Nodup->oz c9 ds q i=some g->oz c9 ds q j=some g->i=j)/\
 (∀id,id∈hw.map (·.1)->kn id/\(∃ob,σ.obj id=some ob)/\(∀l,c9 id=some l->l= .nil\/ ∃g C,l= .at_ g C)/\ ∃fF j,look hw id=some (some fF)/\ ∀g C,c9 id=some (.at_ g C)->oz c9 ds q j=some g)/\
 ∀{w':World} {rd Z2:Rd},(hw.map (·.1)).Nodup->(∀(j:Nat) (x:WA) (v:Value),xs[j]? =some x->vs[j]? =some v->x.post w' rd v)-> ∀id fF,look hw id=some (some fF)->iG w' Z2 kn c9 (c9 id) fF
 |[],q,xs,hw,vc,vs,_,h,_,_,_=>by
  simp only [qC,aa,aB] at h
  obtain ⟨rfl,rfl,rfl⟩:=h
  exact ⟨rfl,by simp,fun _ _=>rfl,fun j g h=>by simp [oz] at h,fun i j g _ h=>by simp [oz] at h,by simp,fun _ _ id fF h=>by cases h⟩
 |d::ds,q,xs,hw,vc,vs,L4,h,dg,hl,hv=>by
  simp only [qC] at h
  split at h
  ·rename_i x h1 Gu xs1 Ni uo e1 e2
   simp only [aa,aB] at h
   obtain ⟨rfl,rfl,rfl⟩:=h
   obtain ⟨EZ,Hw⟩:=dp.app dg
   match vs,hl with
   |v::vs,hl=>
    obtain ⟨k1,k2⟩:=Gq r hS (fun id l g hi=>L4 id l g (aR _ hi)) e1 EZ (hv 0 d v rfl rfl)
    obtain ⟨l1,l2,l3,l4,l5,l6,l7⟩:=uj r hS (fun id l g hi=>L4 id l g (aW _ hi)) e2 Hw (by simpa using hl) (fun j d v hd jf=>hv (j+1) d v hd jf)
    have first: ∀g,zB c9 d (O0 q)=some g-> ∃id C fF,h1=[(id,some fF)]/\c9 id=some (.at_ g C):=fun g hg=>by
     rcases k2 with ⟨_,ht⟩|⟨id,ob,fF,rfl,ht,_⟩
     ·simp [zB,ht] at hg
     ·simp only [zB,ht] at hg
      obtain ⟨C,hC⟩:=xM hg
      exact ⟨id,C,fF,rfl,hC⟩
    refine ⟨by simp [l1],fun j x' v' hx jf=> ?_,fun j hj=> ?_,fun j g hg=> ?_,fun i j g vC hi hj=> ?_,fun id fS=> ?_,fun {w' rd Z2} vC vB id fF HA=> ?_⟩
    ·cases j with
     |zero=>simp at hx jf;subst hx jf;exact k1
     |succ j=>exact l2 j x' v' (by simpa using hx) (by simpa using jf)
    ·cases j with
     |zero=>simp at hj
     |succ j=>exact l3 j (by simpa using hj)
    ·cases j with
     |zero=>
      obtain ⟨id,C,fF,rfl,hC⟩:=first g hg
      exact ⟨id,C,by simp,hC⟩
     |succ j=>
      obtain ⟨id,C,hm,hC⟩:=l4 j g hg
      exact ⟨id,C,by simp only [cU,aT];exact .inr hm,hC⟩
    ·have V6: ∀j,zB c9 d (O0 q)=some g->oz c9 ds q.tail j=some g->False:=fun j e1' e2'=>by
      obtain ⟨id,C,fF,rfl,hC⟩:=first g e1'
      obtain ⟨kG,C',hm,hC'⟩:=l4 j g e2'
      have:id=kG:=r.inj _ _ _ _ g hC hC' rfl rfl
      subst this
      simp only [cU,bO,List.map_nil,List.singleton_append,cV] at vC
      exact vC.1 hm
     have hnd2:(Ni.map (·.1)).Nodup:=by
      rw [cU] at vC
      exact (List.nodup_append.1 vC).2.1
     cases i with
     |zero=>cases j with
      |zero=>rfl
      |succ j=>exact (V6 j hi hj).elim
     |succ i=>cases j with
      |zero=>exact (V6 i hj hi).elim
      |succ j=>rw [l5 i j g hnd2 hi hj]
    ·simp only [cU,aT] at fS
     by_cases sj:id∈h1.map (·.1)
     ·rcases k2 with ⟨rfl,ht⟩|⟨kG,ob,fF,rfl,ht,gR,QC,_⟩
      ·simp at sj
      ·simp at sj
       subst sj
       refine ⟨(r.fg _ _ gR).1,⟨ob,gR⟩,QC,fF,0,by simp [look],fun g C hC=> ?_⟩
       simp only [oz,zB,ht,Bi,hC]
     ·obtain ⟨m1,m2,m3,fF,j,m4,m5⟩:=l6 id (fS.resolve_left sj)
      refine ⟨m1,m2,m3,fF,j+1,?_,m5⟩
      rcases k2 with ⟨rfl,ht⟩|⟨kG,ob,Ym,rfl,ht,_⟩
      ·exact m4
      ·simp at sj
       show look ((kG,some Ym)::Ni) id=_
       rw [dH,ae (fun e=>sj e.symm)]
       exact m4
    ·rcases k2 with ⟨rfl,ht⟩|⟨kG,ob,Ym,rfl,ht,gR,QC,hpo⟩
     ·exact l7 vC (fun j x v hx jf=>vB (j+1) x v (by simpa using hx) (by simpa using jf)) id fF HA
     ·have HA:look ((kG,some Ym)::Ni) id=some (some fF):=HA
      rw [dH] at HA
      split at HA
      ·rename_i e
       cases HA
       subst e
       exact hpo (vB 0 x v rfl rfl)
      ·simp only [cU,bO,List.map_nil,List.singleton_append,cV] at vC
       exact l7 vC.2 (fun j x v hx jf=>vB (j+1) x v (by simpa using hx) (by simpa using jf)) id fF HA
  ·cases h
theorem yg: ∀{l:List Nat},Ak l=true->l.Nodup
 |[],_=>List.nodup_nil
 |x::r,h=>by
  simp only [Ak] at h
  cases hx:r.any (Nat.beq x)
  ·simp only [hx,ax] at h
   refine cV.2 ⟨fun hm=> ?_,yg h⟩
   have:=List.any_eq_false.1 hx x hm
   simp at this
  ·simp [hx] at h
theorem Iw {l m:List Nat} (h:KK l m=true) {x:Nat} (hx:x∈l) (hm:x∈m):False:=by
 have h1:=bV.1 h x hx
 simp only [bA] at h1
 have:=List.any_eq_false.1 h1 x hm
 simp at this
theorem Gn (r:R base w0 S0 σ kn c9 a w) {f:FuncId} {g:List DV->List WO×DV} {args:List DV} {vs:List Value} {e:eW} {id:Nat} (fS: ¬kn id) (he:CW P f σ.obj args g=e) (dg:dp e.vc) (hl:vs.length=args.length)
 (hv: ∀(j:Nat) (d:DV) (v:Value),args[j]? =some d->vs[j]? =some v->Rel (df w base S0 c9) kn c9 d v):
 gC P f/\Calls P f vs.toArray w fun en w'=> ∃v eL dk,en= .returned v/\R base w0 S0 (σ.iu e) eL dk a w'/\Rel (df w' base S0 dk) eL dk e.d v/\ ∀i,eL i->kn i\/i=id:=by
 unfold CW at he
 split at he
 ·rename_i es vc0 _
  split at he
  ·rename_i was hw vc d hwa kO
   cases hb:Ak (hw.map (·.1))&&KK (SZ args (g es).1) (hw.map (·.1))
   ·simp only [hb,ax] at he;subst he;exact dc dg
   ·simp only [hb,aq] at he
    subst he
    rw [av] at hb
    have vC:=yg hb.1
    obtain ⟨h1,h2⟩:=dp.app dg
    have hS: ∀k,(∀id l,c9 id=some l-> ¬l.has k)-> ∀id l,id∈hw.map (·.1)->c9 id=some l-> ¬l.has k:=fun k h id l _=>h id l
    obtain ⟨l1,l2,l3,l4,l5,l6,l7⟩:=uj (S:=fun k=> ∀id l,id∈hw.map (·.1)->c9 id=some l-> ¬l.has k) r hS (fun id l k hi hl hg kG l' hm oS om=>Iw hb.2 hi (r.inj _ _ _ _ _ hl oS hg om▸hm)) hwa h1 hl hv
    have hc:=h2.one.2 (fun k=> ∀id l,id∈hw.map (·.1)->c9 id=some l-> ¬l.has k) w vs.toArray (oz c9 args (g es).1) (by simp [hl,l1]) (fun j x v hx jf=>l2 j x v hx (by simpa using jf)) (fun j hj=>l3 j (by omega)) (fun i j k=>l5 i j k vC)
     (fun j k hk hS=>by obtain ⟨kG,C,hm,hC⟩:=l4 j k hk;exact hS kG _ hm hC rfl) (r.tM.mono fun ad u ⟨x,y,_⟩=>⟨x,fun id l _=>y id l⟩)
    refine ⟨h2.one.1,hc.mono fun en w' ⟨v,sG,hr,AI,vB⟩=>⟨v,kn,c9,sG,?_,?_,fun _ h=> .inl h⟩⟩
    ·have oP: ∀i,(σ.iu { d,hw,vc:=vc++[FnW P f was (g es).2] }).obj i=match look hw i with|some o=>o|none=>σ.obj i:=fun i=>by
      unfold St.iu St.obj
      rw [vg]
      cases look hw i<;>rfl
     have notin: ∀i,¬i∈hw.map (·.1)->look hw i=none:=fun i h=>by
      cases HA:look hw i with
      |none=>rfl
      |some v=>exact absurd (br.2 ⟨(i,v),se HA,rfl⟩) h
     refine r.step (fun k=> ∃j,oz c9 args (g es).1 j=some k) (fun i=>i∈hw.map (·.1)) AI.size AI.os AI.tape AI.output (fun k hk hx=>AI.block k hk hx) (fun k ⟨j,hk⟩=> ?_) (fun _ h=>h) (fun _ _=>rfl) (fun _ _ _ _ h=>h) (fun i l k h e hg=> .inl ⟨i,l,h,e,hg⟩) (fun i l h hi e=>⟨l,e,rfl⟩) rfl rfl rfl (fun _=>rfl)
      (fun i h=>by rw [oP,notin i h]) (fun _ _ _ i o h e=> ?_) (fun i l h e=> ?_) (fun i i' l l' k h h' e e' hg om=>r.inj _ _ _ _ _ e e' hg om) (fun B hB i k bs h e=>r.lR B hB i k bs e) AI.drawn
     ·obtain ⟨kG,C,hm,hC⟩:=l4 j k hk
      exact ⟨kG,_,hm,hC,rfl⟩
     ·obtain ⟨m1,_,_,fF,j,m4,_⟩:=l6 i h
      rw [oP,m4] at e
      cases e
      exact ⟨m1,l7 vC (fun j x v hx jf=>vB j x v hx (by simpa using jf)) i o m4⟩
     ·obtain ⟨_,_,_,fF,j,m4,_⟩:=l6 i h
      exact ⟨fF,by rw [oP,m4]⟩
    ·have plain: ∀d0:DV,d0=(g es).2->(∀s p off n,d0≠ .row s p off n)->Rel (df w' base S0 c9) kn c9 d v:=fun d0 Y3 nj=>by
      rw [<-Y3] at kO hr
      have YI:d0.plain=true/\d=d0:=by
       unfold OY at kO
       split at kO
       ·exact absurd rfl (nj _ _ _ _)
       ·cases hp:d0.plain
        ·simp [hp] at kO
        ·simp only [hp,aq,aa] at kO;exact ⟨rfl,kO.symm⟩
      rw [YI.2]
      have Sl:du (lY w' (fun k=> ∀id l,id∈hw.map (·.1)->c9 id=some l-> ¬l.has k) w.heap.size) d0 v:=by
       unfold ZQ at hr
       split at hr
       ·exact absurd rfl (nj _ _ _ _)
       ·exact hr
      exact ew (Sl.plain YI.1)
     generalize Y3:(g es).2=d0 at kO hr
     cases d0 with
     |row s p off n=>
      simp only [OY] at kO
      split at kO
      ·rename_i s' kG len hp
       cases yF:Nat.beq s s'
       ·simp [yF] at kO
       ·simp only [yF,aq,aa] at kO
        subst kO
        have YI:p<vs.length:=by rw [hl];exact (aj.1 hp).1
        have hvp:=ak YI
        have hrel:=hv p _ _ hp hvp
        have e0:vs.toArray[p]? =some vs[p]:=by simp
        simp only [ZQ] at hr
        rw [e0] at hr
        cases hrel with
        |row hk hx h0 h kN=>
         rcases hr with ⟨e1,rfl,rfl⟩|⟨g0,m0,C,e1,rfl,hn⟩
         ·refine .row hk ⟨_,_,rfl,fun _=>rfl⟩ (fun _=>⟨rfl,rfl,rfl⟩) (fun g1 C1 qx=> ?_) fun g1 o1 C1 qx=> ?_
          ·rcases h g1 C1 qx with ⟨e2,_⟩|⟨e2,_⟩
           ·rw [bF e1] at e2;cases e2
           ·omega
          ·rcases kN g1 o1 C1 qx with ⟨e2,_⟩|⟨e2,_⟩
           ·rw [bF e1] at e2;cases e2
           ·omega
         ·refine .row hk ⟨_,_,rfl,fun h=>by cases h⟩ (fun qx=> ?_) (fun g1 C1 qx=> ?_) fun g1 o1 C1 qx=> ?_
          ·have:=(h0 qx).1
           rw [bF e1] at this;cases this
          ·rcases h g1 C1 qx with ⟨e2,_⟩|⟨e2,_⟩
           ·have e3:=(bF e1).symm.trans e2
            simp at e3
            obtain ⟨rfl,rfl,rfl⟩:=e3
            exact .inl ⟨by simp,by omega⟩
           ·omega
          ·rcases kN g1 o1 C1 qx with ⟨e2,_⟩|⟨e2,_⟩
           ·have e3:=(bF e1).symm.trans e2
            simp at e3
            obtain ⟨⟨rfl,e4⟩,rfl,rfl⟩:=e3
            have:o1=0:=by omega
            subst this
            exact .inl ⟨by simp,by omega⟩
           ·omega
      ·cases kO
     |_=>exact plain _ Y3.symm (by simp)
  ·subst he;exact dc dg
 ·subst he;exact dc dg
theorem uR {s id off n:Nat}: ∀pre:List DV,DV.plain.go (pre++[.row s id off n])=false
 |[]=>rfl
 |d::r=>by
  simp only [bp,DV.plain.go,uR r]
  cases d.plain<;>rfl
theorem BP {s id off n:Nat} {pre:List DV}:(DV.agg (pre++[.row s id off n])).plain=false:=by
 unfold DV.plain
 exact uR pre
theorem Mu {rd:Rd} {kn:Nat->Prop} {c9:Nat->Option Loc} {pre:List DV} {us:List Value} {d:DV} {v:Value} (hl:us.length=pre.length) (h:du rd (.agg pre) (.agg us.toArray)) (hd:Rel rd kn c9 d v):Rel rd kn c9 (.agg (pre++[d])) (.agg (us++[v]).toArray):=by
 cases h with
 |agg hs hr=>
  refine .agg (by simp [hl]) fun j d' u rq hu=> ?_
  rw [cJ] at hu
  by_cases hj:j<pre.length
  ·rw [aM hj] at rq
   rw [aM (by omega)] at hu
   exact ew (hr j d' u rq (by simpa using hu))
  ·rw [a7 (by omega)] at rq
   rw [a7 (by omega)] at hu
   have e1:j - pre.length=0:=by
    have:=(aj.1 rq).1
    simp at this;omega
   rw [e1] at rq
   rw [show j - us.length=0 by omega] at hu
   simp at rq hu
   subst rq hu
   exact hd
theorem Tm (r:R base w0 S0 σ kn c9 a w) {gJ:Rd} (eP: ∀a u,df w base S0 c9 a u->gJ a u) {id g C:Nat} (lg:c9 id=some (.at_ g C)) {d d':DV} {vc:List Prop} {v:Value}
 (gQ:wD w c9 gJ ((kY d).filter fun i=> !(Nat.beq i id))) (h:GH σ.obj id d=some (d',vc)) (dg:dp vc) (hv:Rel (df w base S0 c9) kn c9 d v):Rel gJ (fun i=>i=0) (NP g) d' v:=by
 have other: ∀{d:DV},wD w c9 gJ ((kY d).filter fun i=> !(Nat.beq i id))->Rel (df w base S0 c9) kn c9 d v->(kY d).any (Nat.beq id)=false->p6 σ.obj d=some (d',vc)->Rel gJ (fun i=>i=0) (NP g) d' v:=fun {d} gQ hv hb h=>by
  refine ew (Aq r eP (fun i l k hi=>gQ i l k (bR.2 ⟨hi,?_⟩)) h dg hv)
  have:=List.any_eq_false.1 hb i hi
  cases e:Nat.beq i id
  ·rfl
  ·have:=ag e
   subst this
   simp at this
 unfold GH at h
 split at h
 ·rename_i i
  cases e:Nat.beq i id
  ·rw [e,ax] at h
   refine other gQ hv ?_ h
   simp only [kY,List.any_cons,List.any_nil,Bool.or_false]
   cases e2:Nat.beq id i
   ·rfl
   ·have:=ag e2
    rw [this,Nat.beq_refl] at e;cases e
  ·rw [e,aq] at h
   cases h
   have:=ag e
   subst this
   cases hv with
   |ptr hk hp hh=>exact .ptr rfl hp fun g' C' e2=>by cases e2;exact hh g C lg
 ·cases hb:(kY d).any (Nat.beq id)
  ·rw [hb,ax] at h
   exact other gQ hv hb h
  ·rw [hb,aq] at h;cases h
theorem Ls (r:R base w0 S0 σ kn c9 a w) {gJ:Rd} (eP: ∀a u,df w base S0 c9 a u->gJ a u) {id g C:Nat} (lg:c9 id=some (.at_ g C)): ∀{ds es:List DV} {vc:List Prop},wD w c9 gJ ((jz.go ds).filter fun i=> !(Nat.beq i id))->GI σ.obj id ds=some (es,vc)->dp vc->es.length=ds.length/\
 ∀(j:Nat) (d e:DV) (v:Value),ds[j]? =some d->es[j]? =some e->Rel (df w base S0 c9) kn c9 d v->Rel gJ (fun i=>i=0) (NP g) e v
 |[],es,vc,_,h,_=>by
  simp only [GI,aa,aB] at h
  obtain ⟨rfl,rfl⟩:=h
  exact ⟨rfl,by simp⟩
 |d::ds,es,vc,gQ,h,dg=>by
  simp only [GI] at h
  split at h
  ·rename_i e Gu Mg uo h1 h2
   simp only [aa,aB] at h
   obtain ⟨rfl,rfl⟩:=h
   obtain ⟨k1,k2⟩:=dp.app dg
   obtain ⟨l1,l2⟩:=Ls r eP lg (fun id l g hi=>gQ id l g (by simp only [jz.go,List.filter_append];exact aW _ hi)) h2 k2
   refine ⟨by simp [l1],fun j d' e' v hd he hv=> ?_⟩
   cases j with
   |zero=>
    simp only [aP,aa] at hd he
    subst hd he
    exact Tm r eP lg (fun id l g hi=>gQ id l g (by simp only [jz.go,List.filter_append];exact aR _ hi)) h1 k1 hv
   |succ j=>exact l2 j d' e' v (by simpa using hd) (by simpa using he) hv
  ·cases h
theorem X7 (r:R base w0 S0 σ kn c9 a w) {gJ:Rd} (eP: ∀a u,df w base S0 c9 a u->gJ a u) {id g C:Nat} (lg:c9 id=some (.at_ g C)) {d d':DV} {vc:List Prop} {v:Value}
 (gQ:wD w c9 gJ ((jz d).filter fun i=> !(Nat.beq i id))) (h:X8 σ.obj id d=some (d',vc)) (dg:dp vc) (hv:Rel (df w base S0 c9) kn c9 d v):Rel gJ (fun i=>i=0) (NP g) d' v:=by
 unfold X8 at h
 split at h
 ·rename_i f cs
  split at h
  ·rename_i es O6 hl
   simp only [aa,aB] at h
   obtain ⟨rfl,rfl⟩:=h
   obtain ⟨l1,l2⟩:=Ls r eP lg gQ hl dg
   cases hv with
   |jL hs hr=>
    refine .jL (by rw [l1];exact hs) fun j d u hd hu=> ?_
    have dK:=(aj.1 hd).1
    have rq:=ak (l1▸dK)
    exact l2 j _ d u rq hd (hr j _ u rq hu)
  ·cases h
 ·cases hb:(jz d).any (Nat.beq id)
  ·rw [hb,ax] at h
   refine ew (vq r eP (fun i l k hi=>gQ i l k (bR.2 ⟨hi,?_⟩)) h dg hv)
   have:=List.any_eq_false.1 hb i hi
   cases e:Nat.beq i id
   ·rfl
   ·have:=ag e
    subst this
    simp at this
  ·rw [hb,aq] at h;cases h
theorem Lt (r:R base w0 S0 σ kn c9 a w) {gJ:Rd} (eP: ∀a u,df w base S0 c9 a u->gJ a u) {id g C:Nat} (lg:c9 id=some (.at_ g C)): ∀{ds es:List DV} {vc:List Prop} {vs:List Value},wD w c9 gJ (others id ds)->GL σ.obj id ds=some (es,vc)->dp vc->vs.length=ds.length->
 (∀(j:Nat) (d:DV) (v:Value),ds[j]? =some d->vs[j]? =some v->Rel (df w base S0 c9) kn c9 d v)->
 es.length=ds.length/\ ∀(j:Nat) (d:DV) (v:Value),es[j]? =some d->vs[j]? =some v->Rel gJ (fun i=>i=0) (NP g) d v
 |[],es,vc,vs,_,h,_,_,_=>by
  simp only [GL,aa,aB] at h
  obtain ⟨rfl,rfl⟩:=h
  exact ⟨rfl,by simp⟩
 |d::ds,es,vc,vs,gQ,h,dg,hl,hv=>by
  simp only [GL] at h
  split at h
  ·rename_i e Gu Mg uo h1 h2
   simp only [aa,aB] at h
   obtain ⟨rfl,rfl⟩:=h
   obtain ⟨EZ,Hw⟩:=dp.app dg
   match vs,hl with
   |v::vs,hl=>
    have k1:=X7 r eP lg (fun id l g hi=>gQ id l g (by simp only [others,pW,List.filter_append];exact aR _ hi)) h1 EZ (hv 0 d v rfl rfl)
    obtain ⟨l1,l2⟩:=Lt r eP lg (fun id l g hi=>gQ id l g (by simp only [others,pW,List.filter_append];exact aW _ hi)) h2 Hw (by simpa using hl) (fun j d v hd jf=>hv (j+1) d v hd jf)
    refine ⟨by simp [l1],fun j d' v' hd jf=> ?_⟩
    cases j with
    |zero=>simp at hd jf;subst hd jf;exact k1
    |succ j=>exact l2 j d' v' (by simpa using hd) (by simpa using jf)
  ·cases h
theorem GJ (r:R base w0 S0 σ kn c9 a w) {f:FuncId} {k c:Nat} {g:List DV->List DV×DV} {args:List DV} {vs:List Value} {e:eW} {id:Nat} (he:Dc P f σ.obj args k c g=e) (sT:S0.wb=none\/e.d.plain=true) (dg:dp e.vc) (hl:vs.length=args.length)
 (hv: ∀(j:Nat) (d:DV) (v:Value),args[j]? =some d->vs[j]? =some v->Rel (df w base S0 c9) kn c9 d v):
 gC P f/\Calls P f vs.toArray w fun en w'=> ∃v eL dk,en= .returned v/\R base w0 S0 (σ.iu e) eL dk a w'/\Rel (df w' base S0 dk) eL dk e.d v/\ ∀i,eL i->kn i\/i=id:=by
 unfold Dc at he
 split at he
 ·rename_i ib _
  split at he
  ·rename_i es vc0 ds vc AE tD
   split at he
   ·rename_i cs gR
    generalize (g es).1=vS at he
    generalize (g es).2=res at he
    cases hb:Nat.beq vS.length cs.length&&(DV.closed.go cs&&(DV.plain.go vS&&(res.closed&& !res.plain)))
    ·simp only [hb,ax] at he;subst he;exact dc dg
    ·simp only [hb,aq] at he
     subst he
     simp only [av,bA] at hb
     obtain ⟨qx,hU,QW,hb4,hb5⟩:=hb
     have hlen:=ag qx
     have oN:S0.wb=none:=sT.resolve_right (by simp [hb5])
     obtain ⟨h1,h2⟩:=dp.app dg
     have sj: ∀i,i∈others ib args->i∈pW args/\i≠ib:=fun i hi=>by
      obtain ⟨h3,h4⟩:=bR.1 hi
      exact ⟨h3,fun e=>by rw [e,Nat.beq_refl] at h4;cases h4⟩
     obtain ⟨dk,r',kN,mV⟩:=r.dV (uY (others ib args)) (fun d i v hd hi=>xo r AE i v (sj i (y6 hd hi)).1)
     have hnin:kD ib (uY (others ib args))=false:=by
      cases hr:kD ib (uY (others ib args))
      ·rfl
      ·obtain ⟨d,hd,hi⟩:=oC.1 hr
       exact absurd rfl (sj ib (y6 hd hi)).2
     have oP: ∀i,St.obj { σ with h:=Abs.dV (uY (others ib args))++σ.h } i=if kD i (uY (others ib args))=true then none else σ.obj i:=fun i=>by
      unfold St.obj
      simp only [sf]
      by_cases h:kD i (uY (others ib args))=true
      ·rw [ah h,ah h]
      ·rw [ae h,ae h]
     have YK:St.obj { σ with h:=Abs.dV (uY (others ib args))++σ.h } ib=some (.box cs):=by rw [oP,ae (by rw [hnin];decide)];exact gR
     obtain ⟨kL,gb,C,cv,T,oS,hh,fq,_,ho⟩:=r'.fg _ _ YK
     have lg:c9 ib=some (.at_ gb C):=kN _ _ oS
     obtain ⟨_,gb2,C2,cv2,T2,yE,hh2,hsz2,hr,_⟩:=r.fg _ _ gR
     rw [lg] at yE
     cases yE
     rw [hh] at hh2
     cases hh2
     have eP: ∀ad u,df w base S0 c9 ad u->fQ w (fun k=>k<w.heap.size/\(∀id l,dk id=some l-> ¬l.has k)/\(S0.S k\/base<=k)) ad u:=fun ad u ⟨x,y,z,_⟩=>⟨x,gE x,fun id l e=>y id l (kN _ _ e),z⟩
     obtain ⟨l1,l2⟩:=Lt r eP lg (fun i l k hi QV hg ad u e hu=>⟨hu,gE hu,fun kG l' e' om=>(by
      have e3:=kN _ _ e'
      rw [e] at om
      have:=r.inj _ _ _ _ _ e3 QV om hg
      rw [this,mV (.pB i) i (Am hi) (au.2 rfl)] at e'
      cases e'),e▸oG r QV hg⟩) tD h1 hl hv
     have hc:=h2.one.2 (fun k=>k<w.heap.size/\(∀id l,dk id=some l-> ¬l.has k)/\(S0.S k\/base<=k)) w vs.toArray gb (by simp [hl,l1])
      (fun j d v hd jf=>l2 j d v hd (by simpa using jf)) ⟨cv,T,hh,fq,fun j d u hd hu=>((hr j d u hd hu).close (gn hU d (aG hd))).mono eP (fun _ h=>h) fun _ _ h=>h.elim,ho⟩
      (fun h=>h.2.1 ib _ oS rfl) (r.tM.mono eP)
     refine ⟨h2.one.1,hc.mono fun en w' ⟨v,sG,hrel,AI,hbox⟩=>⟨v,kn,dk,sG,?_,ew (hrel.mono (fun ad u ⟨x,y⟩=>⟨x,?_,?_,fun B hB=>by rw [oN] at hB;cases hB⟩) (fun _ h=>h) fun _ _ h=>h.elim),fun _ h=> .inl h⟩⟩
     ·refine r'.step (fun k=>k=gb) (fun i=>i=ib) AI.size AI.os AI.tape AI.output (fun k hk hx=>AI.block k hk hx) (fun k hk=>⟨ib,_,rfl,oS,hk⟩) (fun _ h=>h) (fun _ _=>rfl) (fun _ _ _ _ h=>h) (fun i l k h e hg=> .inl ⟨i,l,h,e,hg⟩) (fun i l h hi e=>⟨l,e,rfl⟩) rfl rfl rfl (fun _=>rfl)
       (fun i h=> ?_) (fun _ _ _ i o h e=> ?_) (fun i l h e=> ?_) (fun i i' l l' k h h' _ _ _ _=>by rw [h,h']) (fun B hB=>by rw [oN] at hB;cases hB) AI.drawn
      ·unfold St.iu St.obj
       simp only [bp,dH]
       rw [ae (fun e=>h e.symm)]
      ·subst h
       have e2:(σ.iu { d:=res,hw:=(i,some (.box vS))::Abs.dV (uY (others i args)),vc:=vc++[FnS P f ds cs vS res] }).obj i=some (.box vS):=by
        unfold St.iu St.obj
        simp only [bp,dH,bn]
       rw [e2] at e
       cases e
       obtain ⟨yM,T',hh',xv,Sl,oQ⟩:=hbox
       exact ⟨kL,gb,C,yM,T',oS,hh',xv,fun j d u hd hu=>ew ((Sl j d u hd hu).plain (qU QW d (aG hd))),oQ⟩
      ·subst h
       exact ⟨.box vS,by unfold St.iu St.obj;simp only [bp,dH,bn]⟩
     ·intro i l QV hg
      rcases y with ⟨_,y,_⟩|y
      ·exact y i l QV hg
      ·have:=(r'.ge i l _ QV hg).2;omega
     ·rcases y with ⟨_,_,y⟩|y
      ·exact y
      ·have:=r.fw;exact .inr (by omega)
   ·subst he;exact dc dg
  ·subst he;exact dc dg
 ·subst he;exact dc dg
theorem Fx (r:R base w0 S0 σ kn c9 a w) {f:FuncId} {g:Nat->List (Nat->DV)->DV->(Nat->Int)×DV} {args:List DV} {vs:List Value} {e:eW} {id:Nat} (he:tY P f σ.obj args g=e) (dg:dp e.vc) (hl:vs.length=args.length)
 (hv: ∀(j:Nat) (d:DV) (v:Value),args[j]? =some d->vs[j]? =some v->Rel (df w base S0 c9) kn c9 d v):
 gC P f/\Calls P f vs.toArray w fun en w'=> ∃v eL dk,en= .returned v/\R base w0 S0 (σ.iu e) eL dk a w'/\Rel (df w' base S0 dk) eL dk e.d v/\ ∀i,eL i->kn i\/i=id:=by
 unfold tY at he
 split at he
 ·rename_i x b
  split at he
  ·rename_i s ri len gR
   unfold Fw at he
   split at he
   ·rename_i n c pG
    split at he
    ·rename_i u y hy
     cases hb:Nat.beq s 1&& !(Nat.beq b ri)
     ·simp only [hb,ax] at he;subst he;exact dg.hd.elim
     ·simp only [hb,aq] at he
      subst he
      simp only [av,bA] at hb
      have Ni:=ag hb.1
      subst Ni
      have hbr:b≠ri:=fun h=>by have h2:=hb.2;rw [h,Nat.beq_refl] at h2;exact Bool.noConfusion h2
      have nk:len=n:=dg.hd
      have YG:0<len:=dg.tl.hd
      have QQ:kF c:=dg.tl.tl.hd
      have hf:=dg.tl.tl.tl.one
      subst nk
      match vs,hl with
      |[v0,v1],_=>
       have h0:=hv 0 _ v0 rfl rfl
       have h1:=hv 1 _ v1 rfl rfl
       cases h0
       obtain ⟨hkb,gb,Cb,cb,T,B4,hhb,Yy,hrb,hob1⟩:=r.fg _ _ gR
       obtain ⟨hkr,mS⟩:=r.fg _ _ pG
       rcases mS with ⟨_,hz⟩|⟨gr,C,cv,T2,VQ,hhr,hszr,QG,hcr⟩
       ·omega
       ·have EZ:v1= .pointer (some ⟨gb,0,none⟩):=by cases h1 with|ptr _ _ h=>exact h gb Cb B4
        subst EZ
        have nj:gb≠gr:=fun h=>hbr (r.inj _ _ _ _ gb B4 VQ rfl h)
        have Yy:cb.size=1:=Yy
        have hcb0:cb[0]? =some (.slice (some ⟨gr,0,none⟩) len C):=by
         have hu:=aD (show 0<cb.size by omega)
         have hr0:=hrb 0 _ _ rfl hu
         rw [hu]
         generalize cb[0]=u0 at hr0
         cases hr0 with
         |row _ _ _ h _=>
          rcases h gr C VQ with ⟨e1,_⟩|⟨e1,_⟩
          ·rw [e1];simp
          ·omega
        have hszr':cv.size=C:=by simpa using hszr
        have hcv: ∀i,i<len->cv[i]? =some (.int .i64 (vz (c i))):=fun i hi=>by
         obtain ⟨u',DA,_,Sl⟩:=hcr i 0 c hi rfl
         rw [tC QQ i] at Sl
         cases Sl
         simpa using DA
        refine ⟨hf.1,(hf.2 (fun k=> ∀id l,c9 id=some l-> ¬l.has k) w gb gr C cb cv T T2 (r.tM.mono fun ad u ⟨x,y,_⟩=>⟨x,y⟩) (fun h=>h _ _ B4 rfl) (fun h=>h _ _ VQ rfl) hhb Yy hcb0 nj hhr hszr' QG hcv).mono fun en w' ⟨sG,AI,⟨cb',T',qx,hU,QW⟩,yM,T2',hr1,hr2,hr3⟩=>⟨y,kn,c9,sG,?_,.val _,fun _ h=> .inl h⟩⟩
        refine r.step (fun k=>k=gb\/k=gr) (fun i=>i=b\/i=ri) AI.size AI.os AI.tape AI.output (fun k hk hx=>AI.block k hk hx) (fun k hk=> ?_) (fun _ h=>h) (fun _ _=>rfl) (fun _ _ _ _ h=>h) (fun i l k h e hg=> .inl ⟨i,l,h,e,hg⟩) (fun i l h hi e=>⟨l,e,rfl⟩) rfl rfl rfl (fun _=>rfl)
         (fun i h=> ?_) (fun _ _ _ i o h e=> ?_) (fun i l h e=> ?_) (fun i i' l l' k h h' e e' hg om=>r.inj _ _ _ _ _ e e' hg om) (fun B hB i k bs h e=>r.lR B hB i k bs e) AI.drawn
        ·rcases hk with rfl|rfl
         ·exact ⟨b,_,.inl rfl,B4,rfl⟩
         ·exact ⟨ri,_,.inr rfl,VQ,rfl⟩
        ·unfold St.iu St.obj
         simp only [bp,cT,dH]
         rw [ae (fun e=>h (.inr e.symm))]
        ·rcases h with rfl|rfl
         ·have e2:(σ.iu { d:= .val y,hw:=[(ri,some (.row len [fun i=> .val (.int .i64 ((g len [c] (.val u)).1 i))]))],vc:=[len=len,0<len,kF c,FnB P f u len (fun i=>vz (c i)) (g len [c] (.val u)).1 y] }).obj i=some (.box [.row 1 ri 0 len]):=by
           unfold St.iu
           rw [show ∀(h:List (Nat×Option fK)),St.obj { σ with h:=[(ri,some (.row len [fun i=> .val (.int .i64 ((g len [c] (.val u)).1 i))]))]++σ.h } i=σ.obj i from fun _=>by
            unfold St.obj
            simp only [bp,cT,dH]
            rw [ae (fun e=>hbr e.symm)]]
           ·exact gR
           ·exact []
          rw [e2] at e
          cases e
          refine ⟨hkb,gb,Cb,cb',T',B4,qx,hU,fun j d u hd hu=> ?_,fun u hu=> ?_⟩
          ·match j,hd with
           |0,hd=>
            cases hd
            rw [QW] at hu
            cases hu
            refine .row hkr ⟨_,_,rfl,fun h=>by cases h⟩ (fun h=>by rw [VQ] at h;cases h) (fun g' C' h=> ?_) (fun g' o' C' h=>by rw [VQ] at h;cases h)
            rw [VQ] at h
            cases h
            exact .inl ⟨by simp,by omega⟩
          ·obtain ⟨k,hk,rfl⟩:=List.getElem_of_mem hu
           have kZ:k<cb'.size:=by simpa using hk
           have:k=0:=by omega
           subst this
           have:=aD kZ
           rw [QW] at this
           simp only [Array.getElem_toList]
           rw [<-bF this]
           rfl
         ·have e2:(σ.iu { d:= .val y,hw:=[(i,some (.row len [fun j=> .val (.int .i64 ((g len [c] (.val u)).1 j))]))],vc:=[len=len,0<len,kF c,FnB P f u len (fun j=>vz (c j)) (g len [c] (.val u)).1 y] }).obj i=some (.row len [fun j=> .val (.int .i64 ((g len [c] (.val u)).1 j))]):=by
           unfold St.iu St.obj
           simp only [bp,dH,bn]
          rw [e2] at e
          cases e
          refine ⟨hkr,.inr ⟨gr,C,yM,T2',VQ,hr1,by simp [hr2],QG,fun j q f hj hq=> ?_⟩⟩
          match q,hq with
          |0,hq=>
           cases hq
           exact ⟨_,by simpa using hr3 j hj,rfl,.val _⟩
        ·rcases h with rfl|rfl
         ·refine ⟨.box [.row 1 ri 0 len],?_⟩
          unfold St.iu St.obj
          simp only [bp,cT,dH]
          rw [ae (fun e=>hbr e.symm)]
          exact gR
         ·exact ⟨.row len [fun j=> .val (.int .i64 ((g len [c] (.val u)).1 j))],by unfold St.iu St.obj;simp only [bp,dH,bn]⟩
    ·subst he;exact dg.hd.elim
   ·subst he;exact dg.hd.elim
  ·subst he;exact dc dg
 ·subst he;exact dc dg
theorem vO (r:R base w0 S0 σ kn c9 a w) {f:FuncId} {oc:fE} {args:List DV} {vs:List Value} {e:eW} {id:Nat} (fS: ¬kn id) (he:rF P oc id σ.obj f args=e) (sT:S0.wb=none\/e.d.plain=true) (dg:dp e.vc) (hl:vs.length=args.length)
 (hv: ∀(j:Nat) (d:DV) (v:Value),args[j]? =some d->vs[j]? =some v->Rel (df w base S0 c9) kn c9 d v):
 gC P f/\Calls P f vs.toArray w fun en w'=> ∃v eL dk,en= .returned v/\R base w0 S0 (σ.iu e) eL dk a w'/\Rel (df w' base S0 dk) eL dk e.d v/\ ∀i,eL i->kn i\/i=id:=by
 have effH0: ∀d vc,σ.iu { d,vc }=σ:=fun _ _=>rfl
 unfold rF at he
 split at he
 ·rename_i g
  cases AI:AJ args
  case true=>
   simp only [AI,aq] at he
   split at he
   ·rename_i es vc AE
    generalize g es=d at he
    cases hp:d.plain
    ·simp only [hp,ax] at he
     cases jg:d.closed
     ·simp only [jg,ax] at he;subst he;exact dc dg
     ·simp only [jg,aq] at he
      subst he
      have oN:S0.wb=none:=sT.resolve_right (by simp [hp])
      obtain ⟨h1,h2⟩:=dp.app dg
      obtain ⟨l1,_⟩:=pD r AE h1 hl hv
      obtain ⟨dk,r',kN,mV⟩:=r.dV (uY (pW args)) (fun d id v hd hi=>xo r AE id v (y6 hd hi))
      have l3:=Dv (gJ:=df w base S0 dk) r (fun ad u ⟨x,y,z,q⟩=>⟨x,fun id l e=>y id l (kN _ _ e),z,q⟩)
       (fun id l g hi lg hg ad u e hu=>⟨hu,fun kG l' e' om=>(by
         have e3:=kN _ _ e'
         rw [e] at om
         have:=r.inj _ _ _ _ _ e3 lg om hg
         rw [this,mV (.pB id) id (Am hi) (au.2 rfl)] at e'
         cases e'),e▸oG r lg hg,fun B hB=>by rw [oN] at hB;cases hB⟩) AE h1 hl hv
      have hc:=h2.one.2 (fun k=>k<w.heap.size/\(∀id l,dk id=some l-> ¬l.has k)/\(S0.S k\/base<=k)) w vs.toArray (by simp [hl,l1])
       (fun j d v hd jf=>(l3 j d v hd (by simpa using jf)).mono (fun ad u ⟨x,y,z,_⟩=>⟨x,gE x,y,z⟩) (fun _ h=>h) fun _ _ h=>h.elim) (r'.tM.mono fun ad u ⟨x,y,z,_⟩=>⟨x,gE x,y,z⟩)
      refine ⟨h2.one.1,hc.mono fun en w' ⟨v,sG,hrel,hb⟩=>⟨v,kn,dk,sG,r'.world hb,ew (hrel.mono (fun ad u ⟨x,y⟩=>⟨x,?_,?_,fun B hB=>by rw [oN] at hB;cases hB⟩) (fun _ h=>h) fun _ _ h=>h.elim),fun _ h=> .inl h⟩⟩
      ·intro id l lg hg
       rcases y with ⟨_,y,_⟩|y
       ·exact y id l lg hg
       ·have:=(r'.ge id l _ lg hg).2;omega
      ·rcases y with ⟨_,_,y⟩|y
       ·exact y
       ·have:=r.fw;exact .inr (by omega)
    ·simp only [hp,aq] at he
     subst he
     obtain ⟨h1,h2⟩:=dp.app dg
     obtain ⟨l1,l2⟩:=pD r AE h1 hl hv
     have hc:=h2.one.2 (fun _=>True) w vs.toArray (by simp [hl,l1]) (fun j d v hd jf=>l2 j d v hd (by simpa using jf)) (r.tM.mono fun ad u ⟨x,_⟩=>⟨x,trivial⟩)
     exact ⟨h2.one.1,hc.mono fun en w' ⟨v,sG,hrel,hb⟩=>⟨v,kn,c9,sG,r.world hb,ew (hrel.plain hp),fun _ h=> .inl h⟩⟩
   ·subst he;exact dc dg
  simp only [AI,ax] at he
  split at he
  case h_2=>subst he;exact dc dg
  rename_i es vc AE
  unfold Mn at he
  generalize g es=d at he
  cases mS:tK args
  ·simp only [mS,ax] at he
   cases jg:d.closed
   ·simp only [jg,ax] at he;subst he;exact dc dg
   ·simp only [jg,aq] at he
    subst he
    obtain ⟨h1,h2⟩:=dp.app dg
    by_cases hp:d.plain=true
    ·obtain ⟨l1,l2,_⟩:=jm r AE h1 hl hv
     have hc:=h2.one.2 (fun _=>True) w vs.toArray (by simp [hl,l1]) (fun j d v hd jf=>l2 j d v hd (by simpa using jf)) (r.tM.mono fun ad u ⟨x,_⟩=>⟨x,trivial⟩)
     exact ⟨h2.one.1,hc.mono fun en w' ⟨v,sG,hrel,hb⟩=>⟨v,kn,c9,sG,r.world hb,ew (hrel.plain hp),fun _ h=> .inl h⟩⟩
    have oN:S0.wb=none:=sT.resolve_right hp
    obtain ⟨l1,_,l3⟩:=jm r AE h1 hl hv
    have hc:=h2.one.2 (fun k=>k<w.heap.size/\(∀id l,c9 id=some l-> ¬l.has k)/\(S0.S k\/base<=k)) w vs.toArray (by simp [hl,l1])
     (fun j d v hd jf=>(l3 mS j d v hd (by simpa using jf)).mono (fun ad u ⟨x,y,z,_⟩=>⟨x,gE x,y,z⟩) (fun _ h=>h) fun _ _ h=>h.elim) (r.tM.mono fun ad u ⟨x,y,z,_⟩=>⟨x,gE x,y,z⟩)
    refine ⟨h2.one.1,hc.mono fun en w' ⟨v,sG,hrel,hb⟩=>⟨v,kn,c9,sG,r.world hb,ew (hrel.mono (fun ad u ⟨x,y⟩=>⟨x,?_,?_,fun B hB=>by rw [oN] at hB;cases hB⟩) (fun _ h=>h) fun _ _ h=>h.elim),fun _ h=> .inl h⟩⟩
    ·intro id l lg hg
     rcases y with ⟨_,y,_⟩|y
     ·exact y id l lg hg
     ·have:=(r.ge id l _ lg hg).2;omega
    ·rcases y with ⟨_,_,y⟩|y
     ·exact y
     ·have:=r.fw;exact .inr (by omega)
  ·simp only [mS,aq] at he
   cases hp:d.plain
   ·simp only [hp,ax] at he
    cases jg:d.closed
    ·simp only [jg,ax] at he;subst he;exact dc dg
    ·simp only [jg,aq] at he
     subst he
     have oN:S0.wb=none:=sT.resolve_right (by simp [hp])
     obtain ⟨h1,h2⟩:=dp.app dg
     obtain ⟨l1,_,_⟩:=jm r AE h1 hl hv
     obtain ⟨dk,r',kN,mV⟩:=r.dV args (rh r AE)
     have l3:=q9 (gJ:=df w base S0 dk) r (fun ad u ⟨x,y,z,q⟩=>⟨x,fun id l e=>y id l (kN _ _ e),z,q⟩)
      (fun d id l g hm hi lg hg ad u e hu=>⟨hu,fun kG l' e' om=>(by
        have e3:=kN _ _ e'
        rw [e] at om
        have:=r.inj _ _ _ _ _ e3 lg om hg
        rw [this,mV d id hm hi] at e'
        cases e'),e▸oG r lg hg,fun B hB=>by rw [oN] at hB;cases hB⟩) AE h1 hl hv
     have hc:=h2.one.2 (fun k=>k<w.heap.size/\(∀id l,dk id=some l-> ¬l.has k)/\(S0.S k\/base<=k)) w vs.toArray (by simp [hl,l1])
      (fun j d v hd jf=>(l3 j d v hd (by simpa using jf)).mono (fun ad u ⟨x,y,z,_⟩=>⟨x,gE x,y,z⟩) (fun _ h=>h) fun _ _ h=>h.elim) (r'.tM.mono fun ad u ⟨x,y,z,_⟩=>⟨x,gE x,y,z⟩)
     refine ⟨h2.one.1,hc.mono fun en w' ⟨v,sG,hrel,hb⟩=>⟨v,kn,dk,sG,r'.world hb,ew (hrel.mono (fun ad u ⟨x,y⟩=>⟨x,?_,?_,fun B hB=>by rw [oN] at hB;cases hB⟩) (fun _ h=>h) fun _ _ h=>h.elim),fun _ h=> .inl h⟩⟩
     ·intro id l lg hg
      rcases y with ⟨_,y,_⟩|y
      ·exact y id l lg hg
      ·have:=(r'.ge id l _ lg hg).2;omega
     ·rcases y with ⟨_,_,y⟩|y
      ·exact y
      ·have:=r.fw;exact .inr (by omega)
   ·simp only [hp,aq] at he
    subst he
    obtain ⟨h1,h2⟩:=dp.app dg
    obtain ⟨l1,l2,_⟩:=jm r AE h1 hl hv
    have hc:=h2.one.2 (fun _=>True) w vs.toArray (by simp [hl,l1]) (fun j d v hd jf=>l2 j d v hd (by simpa using jf)) (r.tM.mono fun ad u ⟨x,_⟩=>⟨x,trivial⟩)
    exact ⟨h2.one.1,hc.mono fun en w' ⟨v,sG,hrel,hb⟩=>⟨v,kn,c9,sG,r.world hb,ew (hrel.plain hp),fun _ h=> .inl h⟩⟩
 ·rename_i g
  split at he
  ·rename_i es vc AE
   unfold Pz at he
   split at he
   rename_i n de _
   subst he
   have oN:S0.wb=none:=sT.resolve_right (by simp [DV.plain])
   obtain ⟨h1,h2⟩:=dp.app dg
   obtain ⟨l1,_,_⟩:=jm r AE h1 hl hv
   obtain ⟨dk,r',kN,mV⟩:=r.dV args (rh r AE)
   have l3:=q9 (gJ:=df w base S0 dk) r (fun ad u ⟨x,y,z,q⟩=>⟨x,fun id l e=>y id l (kN _ _ e),z,q⟩)
    (fun d id l g hm hi lg hg ad u e hu=>⟨hu,fun kG l' e' om=>(by
      have e3:=kN _ _ e'
      rw [e] at om
      have:=r.inj _ _ _ _ _ e3 lg om hg
      rw [this,mV d id hm hi] at e'
      cases e'),e▸oG r lg hg,fun B hB=>by rw [oN] at hB;cases hB⟩) AE h1 hl hv
   have hc:=h2.one.2 (fun k=>k<w.heap.size/\(∀id l,dk id=some l-> ¬l.has k)/\(S0.S k\/base<=k)) w vs.toArray (by simp [hl,l1])
    (fun j d v hd jf=>(l3 j d v hd (by simpa using jf)).mono (fun ad u ⟨x,y,z,_⟩=>⟨x,gE x,y,z⟩) (fun _ h=>h) fun _ _ h=>h.elim) (r'.tM.mono fun ad u ⟨x,y,z,_⟩=>⟨x,gE x,y,z⟩)
   refine ⟨h2.one.1,hc.mono fun en w' ⟨v,sG,hb,mS⟩=> ?_⟩
   rcases mS with ⟨rfl,rfl⟩|⟨g,C,cv,T,rfl,hg,hh,fq,hn,AH⟩
   ·refine ⟨_,_,_,sG,r'.Mv hb (l:= .nil) fS oN (fun g C e=>by cases e) (.inl ⟨rfl,rfl⟩),.row (.inr rfl) ⟨_,_,rfl,fun _=>rfl⟩ (fun _=>⟨rfl,rfl,rfl⟩) (fun g C e=>by simp at e) (fun g o C e=>by simp at e),fun _ h=>h⟩
   ·refine ⟨_,_,_,sG,r'.Mv hb (l:= .at_ g C) fS oN (fun g' C' e=>by cases e;exact ⟨hg,dY hh⟩) (.inr ⟨g,C,cv,T,rfl,hh,fq,hn,fun i j f hi hj=> ?_⟩),.row (.inr rfl) ⟨_,_,rfl,fun h=>by cases h⟩ (fun e=>by simp at e) (fun g' C' e=> ?_) (fun g' o' C' e=>by simp at e),fun _ h=>h⟩
    ·obtain ⟨u,hu,ho,hr⟩:=AH i j f hi hj
     refine ⟨u,hu,ho,hr.mono (fun ad u ⟨x,y,z⟩=>⟨x,y,?_,?_⟩) (fun _ h=>h) fun _ _ h=>h.elim⟩
     ·intro kG l' e om
      rcases z with ⟨_,z,_⟩|z
      ·exact z _ _ e om
      ·have:=(r'.ge _ _ _ e om).2;omega
     ·rcases z with ⟨_,_,z⟩|z
      ·exact z
      ·have:=r.fw;exact .inr (by omega)
    ·simp only [bn,aa] at e
     cases e
     exact .inl ⟨by simp,by omega⟩
  ·subst he;exact dc dg
 ·rename_i g
  split at he
  ·rename_i es vc AE
   unfold LA at he
   split at he
   rename_i pre n de _
   cases hpc:DV.closed.go pre
   ·simp only [hpc,ax] at he;subst he;exact dc dg
   simp only [hpc,aq] at he
   subst he
   have oN:S0.wb=none:=sT.resolve_right (by rw [BP];decide)
   obtain ⟨h1,h2⟩:=dp.app dg
   obtain ⟨l1,_,_⟩:=jm r AE h1 hl hv
   obtain ⟨dk,r',kN,mV⟩:=r.dV args (rh r AE)
   have l3:=q9 (gJ:=df w base S0 dk) r (fun ad u ⟨x,y,z,q⟩=>⟨x,fun id l e=>y id l (kN _ _ e),z,q⟩)
    (fun d id l g hm hi lg hg ad u e hu=>⟨hu,fun kG l' e' om=>(by
      have e3:=kN _ _ e'
      rw [e] at om
      have:=r.inj _ _ _ _ _ e3 lg om hg
      rw [this,mV d id hm hi] at e'
      cases e'),e▸oG r lg hg,fun B hB=>by rw [oN] at hB;cases hB⟩) AE h1 hl hv
   have hc:=h2.one.2 (fun k=>k<w.heap.size/\(∀id l,dk id=some l-> ¬l.has k)/\(S0.S k\/base<=k)) w vs.toArray (by simp [hl,l1])
    (fun j d v hd jf=>(l3 j d v hd (by simpa using jf)).mono (fun ad u ⟨x,y,z,_⟩=>⟨x,gE x,y,z⟩) (fun _ h=>h) fun _ _ h=>h.elim) (r'.tM.mono fun ad u ⟨x,y,z,_⟩=>⟨x,gE x,y,z⟩)
   refine ⟨h2.one.1,hc.mono fun en w' ⟨us,v,sG,hul,hb,mS⟩=> ?_⟩
   rcases mS with ⟨rfl,rfl,jq⟩|⟨g,C,cv,T,rfl,hg,hh,fq,hn,AH,jq⟩
   ·refine ⟨_,_,_,sG,r'.Mv hb (l:= .nil) fS oN (fun g C e=>by cases e) (.inl ⟨rfl,rfl⟩),Mu hul (jq.mono (fun ad u ⟨x,y⟩=>⟨x,fun i l e YX=> ?_,?_,fun B hB=>by rw [oN] at hB;cases hB⟩) (fun _ h=>h) fun _ _ h=>h.elim) (.row (.inr rfl) ⟨_,_,rfl,fun _=>rfl⟩ (fun _=>⟨rfl,rfl,rfl⟩) (fun g C e=>by simp at e) (fun g o C e=>by simp at e)),fun _ h=>h⟩
    ·have e:(if i=id then some Loc.nil else dk i)=some l:=e
     split at e
     ·cases e;exact YX
     ·rcases y with ⟨_,y,_⟩|y
      ·exact y _ _ e YX
      ·have:=(r'.ge _ _ _ e YX).2;omega
    ·rcases y with ⟨_,_,y⟩|y
     ·exact y
     ·have:=r.fw;exact .inr (by omega)
   ·refine ⟨_,_,_,sG,r'.Mv hb (l:= .at_ g C) fS oN (fun g' C' e=>by cases e;exact ⟨hg,dY hh⟩) (.inr ⟨g,C,cv,T,rfl,hh,fq,hn,fun i j f hi hj=> ?_⟩),Mu hul (jq.mono (fun ad u ⟨x,y,z⟩=>⟨x,fun i l e YX=> ?_,?_,fun B hB=>by rw [oN] at hB;cases hB⟩) (fun _ h=>h) fun _ _ h=>h.elim) (.row (.inr rfl) ⟨_,_,rfl,fun h=>by cases h⟩ (fun e=>by simp at e) (fun g' C' e=> ?_) (fun g' o' C' e=>by simp at e)),fun _ h=>h⟩
    ·obtain ⟨u,hu,ho,hr⟩:=AH i j f hi hj
     refine ⟨u,hu,ho,hr.mono (fun ad u ⟨x,y,z⟩=>⟨x,y,?_,?_⟩) (fun _ h=>h) fun _ _ h=>h.elim⟩
     ·intro kG l' e om
      rcases z with ⟨_,z,_⟩|z
      ·exact z _ _ e om
      ·have:=(r'.ge _ _ _ e om).2;omega
     ·rcases z with ⟨_,_,z⟩|z
      ·exact z
      ·have:=r.fw;exact .inr (by omega)
    ·have e:(if i=id then some (Loc.at_ g C) else dk i)=some l:=e
     split at e
     ·cases e;exact y YX
     ·rcases z with ⟨_,z,_⟩|z
      ·exact z _ _ e YX
      ·have:=(r'.ge _ _ _ e YX).2;omega
    ·rcases z with ⟨_,_,z⟩|z
     ·exact z
     ·have:=r.fw;exact .inr (by omega)
    ·simp only [bn,aa] at e
     cases e
     exact .inl ⟨by simp,by omega⟩
  ·subst he;exact dc dg
 ·rename_i g
  split at he
  ·rename_i es vc AE
   generalize g es=A' at he
   unfold ur at he
   split at he
   ·rename_i s kG off len rest
    split at he
    ·rename_i n c gR
     cases hb:Nat.beq s 1&&DV.closed.go rest with
     |false=>simp only [hb,ax] at he;subst he;exact dc dg
     |true=>
      simp only [hb,aq] at he
      rw [av] at hb
      obtain ⟨Ni,jg⟩:=hb
      have Ni:=ag Ni
      subst Ni
      subst he
      have nk:len=n:=dg.hd
      have QQ:=dg.tl.hd
      have hft:=dg.tl.tl.one
      subst nk
      match vs,hl with
      |v0::vs,hl=>
       have h0:=hv 0 _ v0 rfl rfl
       have hrest: ∀(j:Nat) (d:DV) (v:Value),rest[j]? =some d->vs[j]? =some v->du (fQ w fun _=>True) d v:=fun j d v hd jf=>
        ((hv (j+1) d v (by simpa using hd) (by simpa using jf)).close (gn jg d (aG hd))).mono (fun _ _ h=>⟨h.1,trivial⟩) (fun _ h=>h) fun _ _ h=>h.elim
       obtain ⟨B2,sI⟩:=hft.2 w v0 vs (by simpa using hl) hrest
       refine ⟨hft.1,?_⟩
       obtain ⟨hk,ho⟩:=r.fg _ _ gR
       cases h0 with
       |row kZ Sk hz hg=>
        rcases ho with ⟨HC,hn0⟩|⟨g,C,cv,T,HB,hh,fq,hn,hc⟩
        ·obtain ⟨rfl,_,_⟩:=hz HC
         refine (B2 rfl hn0).mono fun en w' ⟨sG,hb⟩=>⟨_,kn,c9,sG,?_,.val _,fun _ h=> .inl h⟩
         exact (r.world hb).Vp hk (.inl ⟨HC,hn0⟩)
        ·obtain ⟨rfl,_⟩:v0= .slice (some ⟨g,0*1,none⟩) len (C - 0)/\0+len<=C:=(hg g C HB).resolve_right fun h=>by omega
         have xv:cv.size=C:=by simpa using fq
         refine (sI g C cv T (by simp) hn hh xv (fun i hi=> ?_)).mono fun en w' ⟨sG,yM,w1,YC,QT,e1,e2,e3,e4,e5,wJ,hg1,hb⟩=>⟨_,kn,c9,sG,?_,.val _,fun _ h=> .inl h⟩
         ·obtain ⟨u,hu,_,hr⟩:=hc i 0 c hi rfl
          rw [tC QQ i] at hr
          cases hr
          simpa using hu
         ·refine (r.zA (o:= .row len [fun i=> .val (.int .i64 (A' i))]) HB e1 e2 e3 e4 wJ (fun _ _=>Or.inr ⟨g,C,yM,T,rfl,hg1,by simp [YC],hn,fun i j f hi hj=> ?_⟩) e5).world hb
          match j,hj with
          |0,hj=>
           cases hj
           exact ⟨_,by simpa using QT i hi,rfl,.val _⟩
    ·subst he;exact dc dg
   ·subst he;exact dc dg
  ·subst he;exact dc dg
 ·rename_i g
  split at he
  ·rename_i es vc AE
   generalize (g es).1=n' at he
   generalize (g es).2=A' at he
   unfold uu at he
   split at he
   ·rename_i s kG off len
    split at he
    ·rename_i n c gR
     cases hb:Nat.beq s 1 with
     |false=>simp only [hb,ax] at he;subst he;exact dc dg
     |true=>
      simp only [hb,aq] at he
      have Ni:=ag hb
      subst Ni
      subst he
      have nk:len=n:=dg.hd
      have QQ:=dg.tl.hd
      have hft:=dg.tl.tl.one
      subst nk
      match vs,hl with
      |[v0],hl=>
       have h0:=hv 0 _ v0 rfl rfl
       obtain ⟨B2,sI⟩:=hft.2 w v0
       refine ⟨hft.1,?_⟩
       obtain ⟨hk,ho⟩:=r.fg _ _ gR
       cases h0 with
       |row kZ Sk hz hg=>
        rcases ho with ⟨HC,hn0⟩|⟨g,C,cv,T,HB,hh,fq,hn,hc⟩
        ·obtain ⟨rfl,_,_⟩:=hz HC
         obtain ⟨hz0,hnil2⟩:=B2 rfl hn0
         subst hz0
         refine hnil2.mono fun en w' ⟨sG,hb⟩=>⟨_,kn,c9,sG,?_,.row kZ ⟨_,_,rfl,fun _=>rfl⟩ (fun _=>⟨rfl,rfl,rfl⟩) (fun g C e=>(by rw [HC] at e;cases e)) (fun g o C e=>(by rw [HC] at e;cases e)),fun _ h=> .inl h⟩
         exact (r.world hb).Vp hk (.inl ⟨HC,rfl⟩)
        ·obtain ⟨rfl,_⟩:v0= .slice (some ⟨g,0*1,none⟩) len (C - 0)/\0+len<=C:=(hg g C HB).resolve_right fun h=>by omega
         have xv:cv.size=C:=by simpa using fq
         obtain ⟨hle,sI⟩:=sI g C cv T (by simp) hn hh xv (fun i hi=>by
          obtain ⟨u,hu,_,hr⟩:=hc i 0 c hi rfl
          rw [tC QQ i] at hr
          cases hr
          simpa using hu)
         refine sI.mono fun en w' ⟨sG,yM,w1,YC,QT,e1,e2,e3,e4,e5,wJ,hg1,hb⟩=>⟨_,kn,c9,sG,?_,.row kZ ⟨_,_,rfl,fun h=>by cases h⟩ (fun e=>(by rw [HB] at e;cases e)) (fun g' C' e=>(by rw [HB] at e;cases e;exact .inl ⟨by simp,by omega⟩)) (fun g' o' C' e=>(by rw [HB] at e;cases e)),fun _ h=> .inl h⟩
         refine (r.zA (o:= .row n' [fun i=> .val (.int .i64 (A' i))]) HB e1 e2 e3 e4 wJ (fun _ _=>Or.inr ⟨g,C,yM,T,rfl,hg1,by simp [YC],by omega,fun i j f hi hj=> ?_⟩) e5).world hb
         match j,hj with
         |0,hj=>
          cases hj
          exact ⟨_,by simpa using QT i hi,rfl,.val _⟩
    ·subst he;exact dc dg
   ·subst he;exact dc dg
  ·subst he;exact dc dg
 ·exact Gn r fS he dg hl hv
 ·exact GJ r he sT dg hl hv
 ·exact Fx r he dg hl hv
 ·subst he;exact dc dg
end
end Go.Abs
