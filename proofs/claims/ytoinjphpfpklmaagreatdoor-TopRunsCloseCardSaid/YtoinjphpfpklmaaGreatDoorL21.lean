/- Contracts and what they stand on. -/
import Derived.Test.YtoinjphpfpklmaaGreatDoorK63
import Derived.Maps.RangeRun
import Derived.Lib.LazyBuf
import Derived.Shelf.SlSortCmp.NoneTotal
import Derived.Ground.SlsfProg
import Derived.Lib.SortBridge
set_option linter.unusedVariables false
set_option linter.unusedSimpArgs false
section
set_option maxRecDepth 100000
namespace Go.Abs
open Go
def ZY (b:dJ) (nB:Nat) (B:Nat->Int) (nO:Nat) (O:Nat->Int) (W G L:Int):Bool:=qv b nB nO&&(decide (ja b nB B nO O W G L=0)&&(!Jf b G W (jK nB B nO O)&&BS b G W (jK nB B nO O)))
noncomputable def CA (b:dJ) (nB:Nat) (B:Nat->Int) (nO:Nat) (O:Nat->Int) (W G L:Int):eH:={ dq:=[(1,[(1,.res fun _=>dB (qv b nB nO)),(7,.res fun _=>dI (ja b nB B nO O W G L)),(15,.res fun _=>dB (Jf b G W (jK nB B nO O))),(20,.res fun _=>dB (BS b G W (jK nB B nO O)))])],loops:=[],dw:=[] }
noncomputable abbrev qa (b:dJ) (nB:Nat) (nO:Nat) (B:Nat->Int) (O:Nat->Int) (W:Int) (G:Int) (L:Int):Bool:=if qv b nB nO=true then ja b nB B nO O W G L==(0:Int) else false
noncomputable abbrev qc (b:dJ) (nB:Nat) (nO:Nat) (B:Nat->Int) (O:Nat->Int) (W:Int) (G:Int) (L:Int):Bool:=if (qa b nB nO B O W G L)=true then !Jf b G W (jK nB B nO O) else false
noncomputable abbrev um (b:dJ) (nB:Nat) (B:Nat->Int) (nO:Nat) (O:Nat->Int) (W:Int) (G:Int) (L:Int):DV:= .agg [.val (.string b.name),.di b.nS [fun i=>(dI (b.fl i)),fun i=> .di (b.N i) [fun dS=>(dI (b.X i dS)),fun dS=>(dI (b.Y i dS))]],(dI b.dr),.di b.nO [fun i=>(dI (b.O i (0:Nat))),fun i=>(dI (b.O i (1:Nat))),fun i=>(dI (b.O i (2:Nat))),fun i=>(dI (b.O i (3:Nat))),fun i=>(dI (b.O i (4:Nat))),fun i=>(dI (b.O i (5:Nat)))],.di b.nB [fun i=>(dI (b.B i (0:Nat))),fun i=>(dI (b.B i (1:Nat))),fun i=>(dI (b.B i (2:Nat))),fun i=>(dI (b.B i (3:Nat))),fun i=>(dI (b.B i (4:Nat))),fun i=>(dI (b.B i (5:Nat)))],.di nB [fun i=>(dI (B i))],.di nO [fun i=>(dI (O i))],(dI W),(dI G),(dI L)]
theorem Jz (b:dJ) (nB:Nat) (B:Nat->Int) (nO:Nat) (O:Nat->Int) (W G L:Int) :dm prog 7 [Qq b nB B nO O W G L] (dB (ZY b nB B nO O W G L)):=by
 refine db dv (CA b nB B nO O W G L) (V:= .da [dm prog 23 [(um b nB B nO O W G L)] ((dB (qv b nB nO))),ri (qv b nB nO=true),ri (qv b nB nO=true),ri (qv b nB nO=true),ri (qv b nB nO=true),qv b nB nO=true->dm prog 29 [(jI b),.agg [.di nB [fun i=>(dI (B i))],.di nO [fun i=>(dI (O i))],(dI W),(dI G),(dI L)]] ((dI (ja b nB B nO O W G L))),ri (qv b nB nO=true),ri (qv b nB nO=true),ri ((qa b nB nO B O W G L)=true),ri ((qa b nB nO B O W G L)=true),ri ((qa b nB nO B O W G L)=true),ri ((qa b nB nO B O W G L)=true),(qa b nB nO B O W G L)=true->dm prog 30 [(jI b),.agg [.di nB [fun i=>(dI (B i))],.di nO [fun i=>(dI (O i))],(dI W),(dI G),(dI L)]] ((dB (Jf b G W (jK nB B nO O)))),ri ((qa b nB nO B O W G L)=true),ri ((qa b nB nO B O W G L)=true),ri ((qc b nB nO B O W G L)=true),(qc b nB nO B O W G L)=true->dm prog 25 [(um b nB B nO O W G L)] ((dB (BS b G W (jK nB B nO O)))),ri ((qc b nB nO B O W G L)=true)] (.done [(if (qc b nB nO B O W G L)=true then BS b G W (jK nB B nO O) else false)=ZY b nB B nO O W G L])) (by kernel_rfl) ?_
 simp only [qa,qc,VT.holds,dt,Sq]
 refine ⟨⟨Ka b nB B nO O W G L,fun hj=> ?_,fun hx=>TR b nB B nO O W G L hx.2,fun hx=>TN b nB B nO O W G L hx.1.2⟩,?_⟩
 ·obtain ⟨⟨_,_,_,j4⟩,_⟩:=LX hj
  exact Fs b nB B nO O W G L (fun i hi=>by have:=j4 i hi;omega)
 ·unfold ZY
  cases qv b nB nO<;>cases Jf b G W (jK nB B nO O)<;>cases BS b G W (jK nB B nO O)<;>simp
noncomputable def CQ (n:Nat) (X Y:Nat->Int) (d:Int):eH:={ dq:=[(1,[(1,zV)]),(11,[(2,rLnW)]),(15,[(2,JZ)]),(21,[(7,JY),(8,rRi),(12,rMo),(16,JY),(17,rRi),(21,rMo)]),(23,[(1,zV)])],loops:=[(0,{ ι:=Nat,keep:=[0,1,7,26],boxes:=[],ts:=fun _ i=>[(27,dI (i:Int))],rw:=fun _ i=>[(8,2,i,TG n X Y d)],inv:=fun _ i=>i<=n/\EJ n X Y d i=true,mu:=fun _ i=>n - i,rd:=fun _ σ=>(eA (σ.get 27)).toNat }),(2,{ ι:=Nat,keep:=[0,1,7,26,27,9,36],boxes:=[],ts:=fun σ j=>[(37,dI (j:Int)),(10,dI (Gg n X Y d (eA (σ.get 9)).toNat j))],rw:=fun σ _=>[(8,2,(eA (σ.get 27)).toNat,TG n X Y d)],inv:=fun _ j=>j<=2,mu:=fun _ j=>2 - j,rd:=fun _ σ=>(eA (σ.get 37)).toNat })],dw:=[] }
noncomputable abbrev Vx (n:Nat) (X:Nat->Int) (Y:Nat->Int) (d:Int) (i:Nat):DV:= .val (.agg (Array.mk [.int .i64 (X (Int.toNat (i:Int))+d*List.getD [(1:Int),(0:Int),(-1:Int),(0:Int)] (Int.toNat ((dD n X Y (i:Int)+(3:Int))%(4:Int))) (0:Int)),.int .i64 (Y (Int.toNat (i:Int))+d*List.getD [(0:Int),(1:Int),(0:Int),(-1:Int)] (Int.toNat ((dD n X Y (i:Int)+(3:Int))%(4:Int))) (0:Int))]))
noncomputable abbrev Vw (n:Nat) (X:Nat->Int) (Y:Nat->Int) (d:Int) (r:List Prop):List Prop:=(n=n)::(∀(i:Nat),i<n->X i=X i)::(∀(i:Nat),i<n->Y i=Y i)::(d=d)::(n=n)::(∀(i:Nat),i<n->X i=X i)::(∀(i:Nat),i<n->Y i=Y i)::((n:Int)=(n:Int))::r
namespace w3l
noncomputable section
structure Z where
 n:Nat
 X:Nat->Int
 Y:Nat->Int
 d:Int
variable (z:Z) (i0 i1:Nat) (p:Prop) (P:List Prop) (a b:Int) (g:Bool) (U:VT) (oh:Nat->Int) (tA:List Int)
abbrev x0:Int:=(i0:Int)
abbrev x1:=Int.toNat (x0 i0)
abbrev x2:=dD z.n z.X z.Y a
abbrev x3:=List.getD tA (Int.toNat ((x2 z a+3)%4)) 0
abbrev x4:List Prop:=rf z.n::(∀i0<z.n,rf (z.X i0))::(∀i0<z.n,rf (z.Y i0))::rf a::P
abbrev x5:=Int.toNat (x0 i0+1)
abbrev x6:=Int.toNat ((i1:Int)+1)
abbrev x7:List Int:=[(0:Int),(1:Int),(0:Int),-(1:Int)]
abbrev x8:List Int:=[(1:Int),(0:Int),-(1:Int),(0:Int)]
abbrev x9:=(oh (x1 i0))+z.d*x3 z (x0 i0) tA
abbrev dC:=Int.toNat 0
abbrev dA:=DV.val (Value.agg (Array.mk [Value.int IntKind.i64 a,Value.int IntKind.i64 b]))
abbrev dz:List Prop:=p::rf (0:Nat)::P
abbrev dG:=Gg z.n z.X z.Y z.d (x1 i0) i1
abbrev dL:=pA z.n z.X z.Y z.d i1
abbrev dR:=pz z.n z.X z.Y z.d i1
abbrev dQ:=x4 z (x4 z P (z.n:Int)) z.d
abbrev ep:=DV.di z.n [fun i0=>dI (z.X i0),fun i0=>dI (z.Y i0)]
abbrev eu:=List.getD [x0 i0,x0 i0+1] (Int.toNat (i1:Int)) 0
abbrev eG:=VT.ite g (VT.done [z.n=0,a=0]) U
abbrev ez:=decide (z.d<(0:Int))
abbrev eF:=(x2 z (x0 i0)+3)%4
abbrev eQ:=(x2 z (x0 i0 - 1)+3)%4
abbrev fC:List Prop:=rf (x0 i0)::rf (x0 i0)::rf (x0 i0)::rf (x0 i0+1)::P
abbrev fM:=gz i0 (pA z.n z.X z.Y z.d) (pz z.n z.X z.Y z.d)
abbrev fR:=dA (x9 z i0 z.X x8) (x9 z i0 z.Y x7)
abbrev fj:=x9 z i0 z.X x8+z.d*x3 z (x0 i0 - 1) x8
abbrev gp:=x9 z i0 z.Y x7+z.d*x3 z (x0 i0 - 1) x7
abbrev iI:=decide ((x2 z (eu i0 i1))=((x2 z (eu i0 i1 - 1)+1)%4))
abbrev ji:=if (decide (i1<(x1 i0)))=true then a else b
abbrev iq:=VT.da [cZ a] (VT.da [cZ ((i1:Int)+1)] (VT.done (((i1:Int)+1=(↑(x6 i1):Int))::dz (b=Gg z.n z.X z.Y z.d (x1 i0) (x6 i1)) (rf (x1 i0)::dQ z (fC i0 [rf (x1 i0),∀i1<x1 i0,rf (dL z i1),∀i1<x1 i0,rf (dR z i1),x6 i1<=2,2 - x6 i1<2 - i1])))))
abbrev xt:VT:=VT.da [dm prog 48 [ep z] (dI (gz z.n z.X z.Y))] (eG z (gz z.n z.X z.Y) (gz z.n z.X z.Y !=0) (VT.da [ri ((!(ez z))=true),ez z=false->(!(ez z))=true] (eG z (2:Int) (if (ez z)=true then true else (decide (z.d>(1000000:Int)))) (VT.loop Nat (fun i0=>i0<=z.n/\EJ z.n z.X z.Y z.d i0=true) dC (dz (0=(dC:Int)) ((dC=0)::dQ z [dC=0])) (fun i0=>VT.ite (decide ((x0 i0)<(z.n:Int))) (VT.da [dm prog 49 [ep z,dI (x0 i0)] (dI (ee z.n z.X z.Y (x0 i0)))] (VT.da [cZ (x0 i0+1)] (VT.loop Nat (fun i0=>i0<=2) dC ((0=(dC:Int))::dz (ee z.n z.X z.Y (x0 i0)=Gg z.n z.X z.Y z.d (x1 i0) dC) ((i0=x1 i0)::dQ z (fC i0 [i0=x1 i0,∀i1<x1 i0,rf (dL z i1),∀i1<x1 i0,rf (dR z i1)]))) (fun i1=>VT.ite (decide ((i1:Int)<(2:Int))) (VT.da [0<=(i1:Int)/\(i1:Int)<(↑(2:Nat):Int)] (VT.da [dm prog 50 [ep z,dI (eu i0 i1)] (dB (iI z i0 i1))] (VT.ite (iI z i0 i1) (iq z i0 i1 (dG z i0 i1+z.d) (dG z i0 i1+z.d)) (iq z i0 i1 (dG z i0 i1 - z.d) (dG z i0 i1 - z.d))))) (eG z (12:Int) (decide ((dG z i0 i1)<=(0:Int))) (VT.da [0<=x0 i0/\x0 i0<(z.n:Int),dm prog 53 [ep z,dI (x0 i0)] (dI (x2 z (x0 i0))),dm prog 52 [dI (x2 z (x0 i0))] (dI (eF z i0)),0<=eF z i0/\eF z i0<(↑(4:Nat):Int),dm prog 51 [dA (z.X (x1 i0)) (z.Y (x1 i0)),dA (x3 z (x0 i0) x8) (x3 z (x0 i0) x7),dI z.d] (fR z i0),cZ (x0 i0 - 1),dm prog 53 [ep z,dI (x0 i0 - 1)] (dI (x2 z (x0 i0 - 1))),dm prog 52 [dI (x2 z (x0 i0 - 1))] (dI (eQ z i0)),0<=eQ z i0/\eQ z i0<(↑(4:Nat):Int),dm prog 51 [fR z i0,dA (x3 z (x0 i0 - 1) x8) (x3 z (x0 i0 - 1) x7),dI z.d] (dA (fj z i0) (gp z i0)),x1 i0<=x1 i0,(x1 i0+1)*((nat_lit 15)+1)<=140737488355328,(1:Nat)<=(1:Nat)] (VT.da [cZ (x0 i0+1)] (VT.done (dz (x0 i0+1=(↑(x5 i0):Int)) ((x1 i0+1=x5 i0)::dQ z [x1 i0+1=x5 i0,∀i1<x5 i0,ji i0 i1 (dL z i1) (fj z i0)=dL z i1,∀i1<x5 i0,ji i0 i1 (dR z i1) (gp z i0)=dR z i1,x5 i0<=z.n/\EJ z.n z.X z.Y z.d (x5 i0)=true,z.n - x5 i0<z.n - i0])))))))))) (VT.da [i0<=i0,dm prog 54 [DV.di i0 [fun i0=>dI (pA z.n z.X z.Y z.d i0),fun i0=>dI (pz z.n z.X z.Y z.d i0)]] (dI (fM z i0))] (VT.ite (fM z i0==0) (VT.done [i0<=i0,i0=z.n,∀i0<z.n,rf (pA z.n z.X z.Y z.d i0),∀i0<z.n,rf (pz z.n z.X z.Y z.d i0),rf (0:Int)]) (eG z (2:Int) (fM z i0==2) (VT.done [z.n=0,(12:Int)=(0:Int)])))))))))
end
end w3l
open w3l in
theorem Dq (n:Nat) (X Y:Nat->Int) (d:Int) (h:gz n X Y=0) (hd:0<=d/\d<=1000000) (h0:kP n X Y d=0):dm prog 13 [mh n X Y,dI d] (.fy [.di n (TG n X Y d),dI 0]):=by
 refine db dv (CQ n X Y d) (V:=xt ⟨n,X,Y,d⟩) (by kernel_rfl) ?_
 simp only [xt,x0,x1,x2,x3,x4,x5,x6,x7,x8,x9,dC,dA,dz,dG,dL,dR,dQ,ep,eu,eG,ez,eF,eQ,fC,fM,fR,fj,gp,iI,ji,iq,Rf,VT.holds,dt,Sq]
 have hn:=fp h
 obtain ⟨hX,hY⟩:=eB h
 have m4: ∀x:Int,0<=(x+3)%4/\(x+3)%4<4:=fun x=>by omega
 simp only [gX (m4 _),gY (m4 _)]
 refine ⟨iF n X Y (by omega),fun h1=>absurd h h1,fun _=>⟨fun h1=>by omega,fun _=>⟨rfl,⟨ao _,PY⟩,fun i ⟨hi,hS⟩=>⟨fun dK=> ?_,fun iy=> ?_⟩⟩⟩⟩
 ·have hl:=vr (n:=n) (by omega) hX hY (i:Int)
  refine ⟨vj n X Y i (by omega) (by omega) (by omega) (by omega) hX hY,by unfold cZ;omega,⟨rfl,rfl⟩,by omega,fun j hj=>⟨fun YU=> ?_,fun YU=> ?_⟩⟩
  ·obtain rfl|rfl:j=0\/j=1:=by omega
   ·have e:[(i:Int),(i:Int)+1].getD 0 0=i:=rfl
    have e0:Gg n X Y d i 0=ee n X Y i:=rfl
    have e1:Gg n X Y d i (0+1)=ee n X Y i+d*eV n X Y i:=rfl
    rw [e0,e1]
    refine ⟨by omega,uU n X Y i (by omega) (by omega) (by omega) (by omega),fun hc=> ?_,fun hc=> ?_⟩
    ·rw [show eV n X Y i=1 from ah hc]
     unfold cZ;omega
    ·rw [show eV n X Y i= -1 from ae hc]
     unfold cZ;omega
   ·have e:[(i:Int),(i:Int)+1].getD 1 0=(i:Int)+1:=rfl
    have e0:Gg n X Y d i 1=ee n X Y i+d*eV n X Y i:=rfl
    have e1:Gg n X Y d i (1+1)=ee n X Y i+d*eV n X Y i+d*eV n X Y ((i:Int)+1):=rfl
    rw [e0,e1]
    have hb: -1000000<=d*eV n X Y i/\d*eV n X Y i<=1000000:=by
     rcases o5 (n:=n) (X:=X) (Y:=Y) (i:Int) with e1|e1<;>rw [e1]<;>omega
    refine ⟨by omega,uU n X Y (i+1) (by omega) (by omega) (by omega) (by omega),fun hc=> ?_,fun hc=> ?_⟩
    ·rw [show eV n X Y ((i:Int)+1)=1 from ah hc]
     unfold cZ;omega
    ·rw [show eV n X Y ((i:Int)+1)= -1 from ae hc]
     unfold cZ;omega
  ·obtain rfl:j=2:=by omega
   have e2:Gg n X Y d i 2=Dr n X Y d i:=rfl
   rw [e2]
   refine ⟨fun h1=>by have:=PZ (d:=d) (show i<n by omega) h1;omega,fun h1=> ?_⟩
   have b1:=C7 (dD n X Y i) hd
   have b2:=C7 (dD n X Y ((i:Int) - 1)) hd
   have r1:=fH n X Y i
   have r2:=fH n X Y ((i:Int) - 1)
   have x1:=hX i (by omega)
   have y1:=hY i (by omega)
   refine ⟨⟨by omega,zv n X Y i (by omega) (by omega) (by omega) (by omega),yX _ (by omega),by omega,y7 _ _ _ _ _ (by unfold m3;omega) (by unfold m3;omega) (by unfold m3;omega) (by omega) (by omega),by unfold cZ;omega,zv n X Y (i - 1) (by omega) (by omega) (by omega) (by omega),yX _ (by omega),by omega,y7 _ _ _ _ _ (by unfold m3;omega) (by unfold m3;omega) (by unfold m3;omega) (by omega) (by omega),af _,by omega,af _⟩,by unfold cZ;omega,rfl,fG (f:=pA n X Y d) rfl,fG (f:=pz n X Y d) rfl,⟨by omega,PX hS h1⟩,by omega⟩
 ·obtain rfl:i=n:=by omega
  exact ⟨⟨af _,Fp _ _ _ (by omega)⟩,fun h1=>⟨af _,rfl⟩,fun h1=>⟨fun h2=>by have:=P1 hS h2;omega,fun h2=>by have:=P0 hS h1 h2;omega⟩⟩
end Go.Abs
end
section
namespace Go.Abs
open Go Go.RowKit
section
variable {P:Program} {base:Nat} {w0 w:World} {S0:Env} {σ:St} {kn:Nat->Prop} {c9:Nat->Option Loc} {a:Act}
end
end Go.Abs
end
section
namespace Go.Abs
open Go.RowKit
section
variable {P:Program} {base:Nat} {w0 w:World} {σ:St} {kn:Nat->Prop} {c9:Nat->Option Loc} {a:Act}
theorem R.yield {S:Nat->Prop} {wr:World} {pv:Nat->Value} {g:Nat} (r:R base w0 ⟨fun k=>S k\/k=g,[],wr,none,fun k=>k=g,pv⟩ σ kn c9 a w) {id C:Nat} (fS:c9 id=some (.at_ g C)) (oP: ∃o,w.heap[g]? =some o) (hw0:base<=w0.heap.size):
 ∃w1,R base w1 ⟨S,[],wr,none,fun _=>False,pv⟩ (σ.setObj id none) kn (fun i=>if i=id then none else c9 i) a w:=by
 obtain ⟨o,hh⟩:=oP
 have Ol: ∀ad u,df w base ⟨fun k=>S k\/k=g,[],wr,none,fun k=>k=g,pv⟩ c9 ad u->df w base ⟨S,[],wr,none,fun _=>False,pv⟩ (fun i=>if i=id then none else c9 i) ad u:=fun ad u ⟨x,y,z,_⟩=>⟨x,fun i l e hg=>by
  have e:(if i=id then none else c9 i)=some l:=e
  split at e
  ·cases e
  ·exact y i l e hg,by
  rcases z with (z|z)|z
  ·exact .inl z
  ·exact absurd z (y id _ fS)
  ·exact .inr z,fun B hB=>by cases hB⟩
 have HF: ∀(i:Nat) (l:Loc),kn i->(if i=id then none else c9 i)=some l-> ∃l0,c9 i=some l0/\l0.core=l.core:=fun i l _ e=>by
  split at e
  ·cases e
  ·exact ⟨l,e,rfl⟩
 have c:Sb w w kn kn c9 (fun i=>if i=id then none else c9 i):=⟨af _,fun _ _ _=>rfl,fun i l k e hg=>by
  have e:(if i=id then none else c9 i)=some l:=e
  split at e
  ·cases e
  ·exact .inl ⟨i,l,e,hg⟩,fun _ h=>h,HF,fun i v hi e=>by
  show (if i=id then none else c9 i)=_
  split
  ·rename_i h;subst h;rw [fS] at e;cases e
  ·exact e⟩
 have rel: ∀{d v},Rel (df w base ⟨fun k=>S k\/k=g,[],wr,none,fun k=>k=g,pv⟩ c9) kn c9 d v->Rel (df w base ⟨S,[],wr,none,fun _=>False,pv⟩ (fun i=>if i=id then none else c9 i)) kn (fun i=>if i=id then none else c9 i) d v:=fun h=>h.mono Ol (fun _ h=>h) HF
 have yy: ∀{d v},du (df w base ⟨fun k=>S k\/k=g,[],wr,none,fun k=>k=g,pv⟩ c9) d v->du (df w base ⟨S,[],wr,none,fun _=>False,pv⟩ (fun i=>if i=id then none else c9 i)) d v:=fun h=>h.mono Ol (fun _ h=>h) fun _ _ h=>h.elim
 have obj: ∀{l:Option Loc} {o:fK},iG w (df w base ⟨fun k=>S k\/k=g,[],wr,none,fun k=>k=g,pv⟩ c9) kn c9 l o->iG w (df w base ⟨S,[],wr,none,fun _=>False,pv⟩ (fun i=>if i=id then none else c9 i)) kn (fun i=>if i=id then none else c9 i) l o:=fun {l o} h=>by
  have h:=h.rd Ol
  have ym: ∀t v,c9 t=some (.is v)->(if t=id then none else c9 t)=some (.is v):=fun t v e=>by
   rw [ae (fun h=>by rw [h,fS] at e;cases e)];exact e
  cases o with
  |box cs=>
   obtain ⟨g,C,cv,T,hl,hh,hs,hr,h1⟩:=h
   exact ⟨g,C,cv,T,hl,hh,hs,fun j d u a b=>(hr j d u a b).mono (fun _ _ h=>h) (fun _ h=>h) HF,h1⟩
  |map ks has gN hot'=>
   obtain ⟨g,es,clock,h1,h2,h3,h4,h5⟩:=h
   exact ⟨g,es,clock,h1,h2,h3,h4,fun t k e=>let ⟨e',a,b,c⟩:=h5 t k e;⟨e',a,b,ym _ _ c⟩⟩
  |vF ks len gN hot' uX=>
   obtain ⟨g,bs,es,clock,h1,h2,h3,h4,h5⟩:=h
   exact ⟨g,bs,es,clock,h1,h2,h3,h4,fun t k e=>let ⟨v,a,b⟩:=h5 t k e;⟨v,ym _ _ a,b⟩⟩
  |_=>exact h
 have T9: ∀{i:Nat} {l:Loc},(if i=id then none else c9 i)=some l->i≠id/\c9 i=some l:=fun {i l} e=>by
  split at e
  ·cases e
  ·rename_i h;exact ⟨h,e⟩
 have hgs:=dY hh
 refine ⟨{ w0 with heap:=w0.heap.setIfInBounds g o },⟨⟨r.below.os,r.below.tape,r.below.output,by simpa using r.below.size,fun k hk _=> ?_,r.below.drawn⟩,fun _ h=>h.elim,r.fw,⟨⟨r.rH.1.1,fun h=>by cases h⟩,r.rH.2⟩,⟨r.nM.1,(fun B h=>by cases h),r.nM.2.2⟩,(fun h=>absurd rfl h),(fun B h=>by cases h),fun d v h=>rel (r.yx d v h),r.size,fun t=>rel (r.tmps t),fun i o' h=> ?_,fun i i' l l' k h1 h2 h3 h4=>r.inj _ _ _ _ _ (T9 h1).2 (T9 h2).2 h3 h4,fun i l k e hg=> ?_,fun i l e=> ?_,r.EF⟩⟩
 ·show w.heap[k]? =(w0.heap.setIfInBounds g o)[k]?
  rw [bo]
  by_cases e:g=k
  ·subst e
   rw [ah rfl]
   split
   ·exact hh
   ·rename_i h9
    exact absurd (bz hk hw0) h9
  ·rw [ae e]
   exact r.below.block k hk fun h=>e h.symm
 ·rw [St.dE] at h
  by_cases e:id=i
  ·rw [ah e] at h;cases h
  ·rw [ae e] at h
   obtain ⟨k1,k2⟩:=r.fg i o' h
   refine ⟨k1,?_⟩
   rw [ae (fun h=>e h.symm)]
   exact obj k2
 ·obtain ⟨nj,e⟩:=T9 e
  obtain ⟨h1,h2⟩:=r.ge _ _ _ e hg
  refine ⟨.inl (h1.elim (fun h=>h) fun h=> ?_),h2⟩
  have h:k=g:=h
  subst h
  exact absurd (r.inj _ _ _ _ k e fS hg rfl) nj
 ·obtain ⟨nj,e⟩:=T9 e
  obtain ⟨o',oQ⟩:=r.live i l e
  exact ⟨o',by rw [St.dE,ae (fun h=>nj h.symm)];exact oQ⟩
end
end Go.Abs
end
section
namespace Go.Abs
open Go.RowKit
open Go.ChangeMaps (setBlock)
structure Jk where
 i0:Nat
 tm:Tmp
 t1:Tmp
 ty:TypeId
 it:Tmp
 id:Nat
 i1:Nat
 tn:Tmp
 tc:Tmp
 id2:Nat
 i2:Nat
 te:Tmp
 tl:List Oper
 rest:Code
 x0:TypeId×String×Array Edge
 x1:TypeId×String×Array Edge
 x2:TypeId×String×Array Edge
 x3:TypeId×String×Array Edge
 x4:TypeId×String×Array Edge
def Jk.mv (s:Jk):Oper:={ dst:=some s.t1,op:= .move (.tmp s.tm),type:=s.x0.1,pos:=s.x0.2.1,after:=s.x0.2.2,guard:=none }
def Jk.rg (s:Jk):Oper:={ dst:=some s.it,op:= .range s.ty (.tmp s.t1),type:=s.x1.1,pos:=s.x1.2.1,after:=s.x1.2.2,guard:=none }
def Jk.nxt (s:Jk):Oper:={ dst:=some s.tn,op:= .next (.tmp s.it) false,type:=s.x2.1,pos:=s.x2.2.1,after:=s.x2.2.2,guard:=none }
def Jk.ex (s:Jk):Oper:={ dst:=some s.tc,op:= .extract (.tmp s.tn) 0,type:=s.x3.1,pos:=s.x3.2.1,after:=s.x3.2.2,guard:=none }
def Jk.en (s:Jk):Oper:={ dst:=some s.te,op:= .entry (.tmp s.it),type:=s.x4.1,pos:=s.x4.2.1,after:=s.x4.2.2,guard:=none }
def Jk.a (s:Jk):Code:= .region s.i0 #[s.mv,s.rg] false
def Jk.body (s:Jk):Code:= .seq (.region s.i1 #[s.nxt,s.ex] false) (.seq (.cond (.tmp s.tc) .skip (.exit s.id)) (.block s.id2 (.seq (.region s.i2 (s.en::s.tl).toArray false) s.rest)))
def Jk.b (s:Jk):Code:= .block s.id (.loop s.body)
structure Wf:Type 1 where
 β:Type
 dec:β->List Int
 keyD:β->Value
 keep:List Nat
 boxes:List Nat
 ts:St->List (List Int)->List (Nat×DV):=fun _ _=>[]
 bx:St->List (List Int)->List (Nat×List DV):=fun _ _=>[]
 rw:St->List (List Int)->List (Nat×Nat×Nat×List (Nat->DV)):=fun _ _=>[]
 rb:St->List (List Int)->List (Nat×Nat×Nat×Nat×List (Nat->DV)):=fun _ _=>[]
 mo:St->List (List Int)->List (Nat×Option Nat×fK):=fun _ _=>[]
 inv:St->List (List Int)->Prop
def Wf.note (C:Wf):Bp:={ ι:=List (List Int),keep:=C.keep,boxes:=C.boxes,ts:=C.ts,bx:=C.bx,rw:=C.rw,rb:=C.rb,mo:=C.mo,inv:=C.inv,mu:=fun _ _=>0,rd:=fun _ _=>[] }
structure MG where
 r:Nat
 b:Nat
 es:Array MapEntry
 clock:Nat
def MG.ptr (g:MG):Value:= .pointer (some ⟨g.r,0,none⟩)
structure MrX (β:Type) where
 L:List (List Int)
 z:β
 vv:Value
 seen:Array Nat
section
variable {P:Program} {A:eH} {m:Nat} {base:Nat} {w0 w:World} {S0:Env} {a:Act} {Q:Exit->Act->World->Prop}
theorem vG (t:Nat) (v:Value) (h:t<a.tmps.size):(a.put (some t) v).tmps.getD t undef=v:=by
 rw [Act.vG a t v t h,ah rfl]
end
end Go.Abs
end
section
namespace Go.Abs
open Go.RowKit
structure NlS where
 i0:Nat
 tx:Tmp
 t3:Tmp
 t4:Tmp
 ty:TypeId
 ty2:TypeId
 x0:TypeId×String×Array Edge
 x1:TypeId×String×Array Edge
def NlS.mv (s:NlS):Oper:={ dst:=some s.t3,op:= .move (.tmp s.tx),type:=s.x0.1,pos:=s.x0.2.1,after:=s.x0.2.2,guard:=none }
def NlS.eq (s:NlS):Oper:={ dst:=some s.t4,op:= .binOp .eql s.ty (.tmp s.t3) (.const (.slice none 0 0)) s.ty2,type:=s.x1.1,pos:=s.x1.2.1,after:=s.x1.2.2,guard:=none }
def NlS.a (s:NlS):Code:= .region s.i0 #[s.mv,s.eq] false
end Go.Abs
end
section
set_option maxRecDepth 100000
namespace Go.Abs
open Go
def bxG (a b c d e f:Int):Bool:=decide (mb a b c d e f=0)
def gB (b:dJ) (dx dy:Int):Nat->Bool
 |0=>true
 |j+1=>gB b dx dy j&&bxG (b.B j 0+dx) (b.B j 1+dy) (b.B j 2) (b.B j 3+dx) (b.B j 4+dy) (b.B j 5)
def gO (d:DV):Bool:=match d with
 |.dN [.val (.bool b)]=>b
 |_=>false
end Go.Abs
end
section
set_option maxRecDepth 100000
namespace Go.Abs
open Go
end Go.Abs
end
section
set_option maxRecDepth 100000
namespace Go.Abs
open Go Go.RowKit Go.Lib
attribute [local go_sem] Oper.semAt_some
end Go.Abs
end
section
set_option maxRecDepth 100000
namespace Go.Abs
open Go
end Go.Abs
end
section
set_option maxRecDepth 100000
namespace Go.Abs
open Go
section
variable {n:Nat} {X Y:Nat->Int}
end
end Go.Abs
end
section
set_option maxRecDepth 100000
namespace Go.Abs
open Go
section
variable {n:Nat} {X Y:Nat->Int}
end
def Bg (gx gy:List Int) (p:Int->Int->Bool):Prop:= ∀i j,i+1<gx.length->j+1<gy.length->p (gx.getD i 0+gx.getD (i+1) 0) (gy.getD j 0+gy.getD (j+1) 0)=false
theorem Ic {gx gy:List Int} {f:Nat->Bool} {p:Int->Int->Bool} (h: ∀i j,j<gy.length - 1->f ((gy.length - 1)*i+j)=p (gx.getD i 0+gx.getD (i+1) 0) (gy.getD j 0+gy.getD (j+1) 0)):
 (∀k,k<(gy.length - 1)*(gx.length - 1)->f k=false)↔Bg gx gy p:=by
 constructor
 ·intro hc i j hi hj
  rw [<-h i j (by omega)]
  exact hc _ (vX (by omega) (by omega))
 ·intro hc k hk
  have hM:0<gy.length - 1:=Nat.pos_of_mul_pos_right (Nat.lt_of_le_of_lt (ao k) hk)
  have h1:=Nat.div_add_mod k (gy.length - 1)
  have h2:=bj k hM
  have h3:=Nat.div_lt_of_lt_mul hk
  generalize k/(gy.length - 1)=q at*
  generalize k%(gy.length - 1)=r at*
  rw [<-h1,h _ _ h2]
  exact hc _ _ (by omega) (by omega)
theorem Q5 (n:Nat) (X:Nat->Int) (m:Nat) (X':Nat->Int):Ou (gr n X m X'):=(iO _).1
theorem Q4 {n:Nat} {X:Nat->Int} {m:Nat} {X':Nat->Int} {x:Int}:x∈gr n X m X'↔(∃k,k<n/\X k=x)\/ ∃k,k<m/\X' k=x:=by
 unfold gr
 rw [(iO _).2]
 simp only [ff,cT,aT,br,a8,N2,X2,decide_true,bn,Nat.one_ne_zero,decide_false,bB,cg]
theorem RG (n:Nat) (X Y:Nat->Int) (m:Nat) (X' Y':Nat->Int):nu n X Y m X' Y'=true↔Bg (gr n X m X') (gr n Y m Y') fun x y=>kr m X' Y' x y m&& !kr n X Y x y n:=by
 unfold nu
 rw [ai]
 exact Ic (f:=yO n X Y m X' Y') fun i j hj=>by
  unfold yO
  rw [zi n X Y m X' Y' hj]
theorem Qc (n:Nat) (X Y:Nat->Int) (m:Nat) (X' Y':Nat->Int):J7 n X Y m X' Y'=false↔Bg (gr n X m X') (gr n Y m Y') fun x y=>kr m X' Y' x y m&&kr n X Y x y n:=by
 unfold J7
 rw [bK,ai]
 exact Ic (f:=ER n X Y m X' Y') fun i j hj=>by
  unfold ER
  rw [zi n X Y m X' Y' hj]
section
variable {n:Nat} {X Y:Nat->Int}
end
section
variable {b:dJ}
end
end Go.Abs
end
section
set_option maxRecDepth 100000
namespace Go.Abs
open Go
def Ry (k:Nat->Int) (x0 x1:Int) (m:Int) (c b:Nat):Bool:=decide (c%2=b/\0<=pr x0 x1 (c/2)/\0<=k c/\(m<0\/pr x0 x1 (c/2)+k c<m))
def Gk (k:Nat->Int) (x0 x1:Int):Nat->Nat->Int
 |0,_=> -1
 |c+1,b=>if Ry k x0 x1 (Gk k x0 x1 c b) c b=true then pr x0 x1 (c/2)+k c else Gk k x0 x1 c b
def KA (k:Nat->Int) (x0 x1:Int):Nat->Nat->Int
 |0,_=>0
 |c+1,b=>if Ry k x0 x1 (Gk k x0 x1 c b) c b=true then ((c/2:Nat):Int) else KA k x0 x1 c b
def Rv (K:Nat->Nat->Int) (f:Nat):Nat->Nat->Int
 |0,b=>if b=f then 0 else -1
 |i+1,b=>Gk (K i) (Rv K f i 0) (Rv K f i 1) 4 b
def dpF (K:Nat->Nat->Int) (f:Nat):Nat->Nat->Int
 |0,_=>0
 |i+1,b=>KA (K i) (Rv K f i 0) (Rv K f i 1) 4 b
def mnS (x y:Int):Nat->Int
 |0=>if 0<=x then x else -1
 |_+1=>if 0<=y/\((if 0<=x then x else -1)<0\/y<(if 0<=x then x else -1)) then y else if 0<=x then x else -1
section
variable {k:Nat->Int} {x0 x1:Int} {m:Int}
theorem Rx {X Y:Int} (hx: -1<=x0/\x0<=X) (hy: -1<=x1/\x1<=X) (hX: -1<=X) (hk: ∀c,c<4-> -1<=k c/\k c<=Y) (hY:0<=Y): ∀c b,c<=4-> -1<=Gk k x0 x1 c b/\Gk k x0 x1 c b<=X+Y
 |0,b,_=>by rw [Gk];omega
 |c+1,b,hc=>by
  have h1:=Rx hx hy hX hk hY c b (by omega)
  have h2:=hk c (by omega)
  rw [Gk]
  split
  ·rename_i h
   rw [Ry,ai] at h
   obtain ⟨_,h3,h4,_⟩:=h
   have h5:pr x0 x1 (c/2)<=X:=by
    rcases (show c/2=0\/c/2=1 by omega) with e|e<;>rw [e]
    ·exact hx.2
    ·exact hy.2
   omega
  ·exact h1
theorem Rw: ∀c b,b<=1->c<=4->0<=Gk k x0 x1 c b->(KA k x0 x1 c b=0\/KA k x0 x1 c b=1)/\0<=pr x0 x1 (KA k x0 x1 c b).toNat/\0<=k (2*(KA k x0 x1 c b).toNat+b)/\Gk k x0 x1 c b=pr x0 x1 (KA k x0 x1 c b).toNat+k (2*(KA k x0 x1 c b).toNat+b)
 |0,b,_,_,h=>by rw [Gk] at h;omega
 |c+1,b,hb,hc,h=>by
  rw [Gk] at h ⊢
  rw [KA]
  by_cases e:Ry k x0 x1 (Gk k x0 x1 c b) c b=true
  ·rw [ah e,ah e]
   rw [Ry,ai] at e
   have e2:2*((c/2:Nat):Int).toNat+b=c:=by omega
   have e3:((c/2:Nat):Int).toNat=c/2:=by omega
   rw [e2,e3]
   exact ⟨by omega,e.2.1,e.2.2.1,rfl⟩
  ·rw [ae e] at h ⊢
   rw [ae e]
   exact Rw c b hb (by omega) h
end
theorem Kz {K:Nat->Nat->Int} {f n:Nat} {Y:Int} (hY:0<=Y) (hK: ∀i c,i<n->c<4-> -1<=K i c/\K i c<=Y): ∀i b,i<=n-> -1<=Rv K f i b/\Rv K f i b<=i*Y
 |0,b,_=>by rw [Rv];split<;>omega
 |i+1,b,hi=>by
  have h0:=Kz (f:=f) hY hK i 0 (by omega)
  have h1:=Kz (f:=f) hY hK i 1 (by omega)
  have hp:0<=(i:Int)*Y:=Int.mul_nonneg (by omega) hY
  have:=Rx h0 h1 (by omega) (fun c hc=>hK i c (by omega) hc) hY 4 b (af _)
  rw [Rv,show ((i+1:Nat):Int)=(i:Int)+1 by omega,Int.add_mul]
  omega
def ko (b:dJ) (G W i a e:Int):Int:=jG (b.N 0) (b.X 0) (b.Y 0) G W i a e
def jM (nB:Nat) (B:Nat->Int) (nO:Nat) (O:Nat->Int) (x:Int):Int:=Cn (Lay.xY nB B nO O) (jK nB B nO O) x
def kR (b:dJ) (nB:Nat) (B:Nat->Int) (nO:Nat) (O:Nat->Int) (W G:Int) (i c:Nat):Int:=jM nB B nO O (ko b G W i ((c/2:Nat):Int) ((c%2:Nat):Int))
def dX (b:dJ) (nB:Nat) (B:Nat->Int) (nO:Nat) (O:Nat->Int) (W G:Int) (f i e:Nat):Int:=Rv (kR b nB B nO O W G) f i e
def dZ (b:dJ) (nB:Nat) (B:Nat->Int) (nO:Nat) (O:Nat->Int) (W G:Int) (f i c e:Nat):Int:=Gk (kR b nB B nO O W G i) (dX b nB B nO O W G f i 0) (dX b nB B nO O W G f i 1) c e
section
variable {b:dJ} {nB:Nat} {B:Nat->Int} {nO:Nat} {O:Nat->Int} {W G L:Int}
theorem vZ (hs:Lay.fN nB B nO O W G L=0) {x:Int} (h:x<=4000*jK nB B nO O): -1<=jM nB B nO O x/\jM nB B nO O x<=40010000:=by
 obtain ⟨_,u1,u2⟩:=MH hs
 unfold jM Cn
 split
 ·omega
 ·rename_i hn
  have hx:0<=x:=by omega
  have q0:0<=x/jK nB B nO O:=bZ hx (by omega)
  have q1:x/jK nB B nO O<=4000:=by
   have:=Int.ediv_le_ediv (show 0<jK nB B nO O by omega) h
   rwa [Int.mul_ediv_cancel _ (by omega)] at this
  have hb:=Lay.Eh (l:=Lay.yf (Lay.mG nB B O (nB+nO)) (Lay.uM nB B O) (Lay.qT nB) (nB+nO)) (fun p hp=>by
   obtain ⟨i,_,rfl⟩:=br.1 hp
   show 0<=Lay.qT nB i/\Lay.qT nB i<=10001
   unfold Lay.qT
   split
   ·split<;>omega
   ·omega) (x/jK nB B nO O).toNat
  have he:Lay.xY nB B nO O (x/jK nB B nO O).toNat=Lay.kB (Lay.yf (Lay.mG nB B O (nB+nO)) (Lay.uM nB B O) (Lay.qT nB) (nB+nO)) (x/jK nB B nO O).toNat:=rfl
  rw [he]
  have:10001*((x/jK nB B nO O).toNat:Int)<=40004000:=by omega
  omega
theorem qQ (h0:ja b nB B nO O W G L=0) (hl: ∀i,i<b.N 0->jG (b.N 0) (b.X 0) (b.Y 0) G W (i:Nat) 1 0<=4000*(jK nB B nO O)) {i:Nat} (hi:i<b.N 0) {a e:Int} (ha:0<=a/\a<=1) (he:0<=e/\e<=1):ko b G W i a e<=4000*jK nB B nO O/\ -9000000<=ko b G W i a e/\ko b G W i a e<=9000000:=by
 obtain ⟨hc,hs,_,_,_,_,_⟩:=fu h0
 obtain ⟨b1,b2,b3,b4,b5⟩:=js hc
 have hn4:=fp b2
 obtain ⟨hX,hY⟩:=eB b2
 have g1:=(fP hs).1
 have h1:=Vm (n:=b.N 0) (X:=b.X 0) (Y:=b.Y 0) g1 (i:Int) ha he
 have h2:=Py (n:=b.N 0) (X:=b.X 0) (Y:=b.Y 0) (by omega) hX hY g1 (i:Int) ha he
 have h3:=hl i hi
 unfold ko
 omega
theorem kR_bd (h0:ja b nB B nO O W G L=0) (hl: ∀i,i<b.N 0->jG (b.N 0) (b.X 0) (b.Y 0) G W (i:Nat) 1 0<=4000*(jK nB B nO O)) (i c:Nat) (hi:i<b.N 0) (hc:c<4): -1<=kR b nB B nO O W G i c/\kR b nB B nO O W G i c<=40010000:=
 vZ (fu h0).2.1 (qQ h0 hl hi (by omega) (by omega)).1
theorem DN (h0:ja b nB B nO O W G L=0) (hl: ∀i,i<b.N 0->jG (b.N 0) (b.X 0) (b.Y 0) G W (i:Nat) 1 0<=4000*(jK nB B nO O)) (f i e:Nat) (hi:i<=b.N 0): -1<=dX b nB B nO O W G f i e/\dX b nB B nO O W G f i e<=2000000000:=by
 have hn4:=fp (js (fu h0).1).2.1
 have h:=Kz (K:=kR b nB B nO O W G) (f:=f) (n:=b.N 0) (Y:=40010000) (by omega) (fun i c hi hc=>kR_bd h0 hl i c hi hc) i e hi
 unfold dX
 omega
variable {f i c e:Nat} {x k:Int}
theorem mc (h:c%2≠e):dZ b nB B nO O W G f i c e=dZ b nB B nO O W G f i (c+1) e:=by
 unfold dZ
 rw [Gk,ae]
 rw [Ry,ai]
 exact fun hx=>h hx.1
theorem xU (hx:pr (dX b nB B nO O W G f i 0) (dX b nB B nO O W G f i 1) (c/2)=x) (hk:kR b nB B nO O W G i c=k) (h1:c%2=e) (h2:(x>=0/\k>=0)/\(dZ b nB B nO O W G f i c e<0\/x+k<dZ b nB B nO O W G f i c e)):x+k=dZ b nB B nO O W G f i (c+1) e:=by
 unfold dZ at h2 ⊢
 rw [Gk,ah,hx,hk]
 rw [Ry,ai,hx,hk]
 exact ⟨h1,h2.1.1,h2.1.2,h2.2⟩
theorem lW (hx:pr (dX b nB B nO O W G f i 0) (dX b nB B nO O W G f i 1) (c/2)=x) (hk:kR b nB B nO O W G i c=k) (h2:x>=0/\k>=0-> ¬dZ b nB B nO O W G f i c e<0/\ ¬x+k<dZ b nB B nO O W G f i c e):dZ b nB B nO O W G f i c e=dZ b nB B nO O W G f i (c+1) e:=by
 unfold dZ at h2 ⊢
 rw [Gk,ae]
 rw [Ry,ai,hx,hk]
 exact fun h=>by
  have:=h2 ⟨h.2.1,h.2.2.1⟩
  have:=h.2.2.2
  omega
end
end Go.Abs
end
section
namespace Go.Proofs
open Go.Shelf
def Tryz.C8:Go.Shelf.Ren:=⟨fun|6=>97|15=>142|14=>141|28=>167|29=>168|20=>159|21=>160|22=>161|23=>162|24=>163|25=>164|26=>165|27=>166|46=>179|47=>180|48=>181|49=>182|50=>183|57=>190|n=>n,fun|22=>27|24=>3|25=>91|3=>3|39=>201|0=>0|53=>223|55=>225|4=>4|46=>217|45=>216|50=>175|5=>5|9=>9|66=>232|70=>236|76=>242|77=>185|n=>n,fun|n=>n⟩
theorem Tryz.Vk:Go.Proofs.SlLaysF.n6 Tryz.prog Tryz.C8:={ mixed:=by kernel_rfl,f6:=⟨Tryz.f97.name,by decide,Tryz.func97.trans (congrArg some (by kernel_rfl))⟩,f14:=⟨Tryz.f141.name,by decide,Tryz.func141.trans (congrArg some (by kernel_rfl))⟩,f15:=Tryz.func142.trans (congrArg some (by kernel_rfl)),f20:=⟨Tryz.f159.name,by decide,Tryz.func159.trans (congrArg some (by kernel_rfl))⟩,f21:=⟨Tryz.f160.name,by decide,Tryz.func160.trans (congrArg some (by kernel_rfl))⟩,f22:=⟨Tryz.f161.name,by decide,Tryz.func161.trans (congrArg some (by kernel_rfl))⟩,f23:=⟨Tryz.f162.name,by decide,Tryz.func162.trans (congrArg some (by kernel_rfl))⟩,f24:=⟨Tryz.f163.name,by decide,Tryz.func163.trans (congrArg some (by kernel_rfl))⟩,f25:=⟨Tryz.f164.name,by decide,Tryz.func164.trans (congrArg some (by kernel_rfl))⟩,f26:=⟨Tryz.f165.name,by decide,Tryz.func165.trans (congrArg some (by kernel_rfl))⟩,f27:=⟨Tryz.f166.name,by decide,Tryz.func166.trans (congrArg some (by kernel_rfl))⟩,f28:=Tryz.func167.trans (congrArg some (by kernel_rfl)),f29:=Tryz.func168.trans (congrArg some (by kernel_rfl)),f46:=⟨Tryz.f179.name,by decide,Tryz.func179.trans (congrArg some (by kernel_rfl))⟩,f47:=Tryz.func180.trans (congrArg some (by kernel_rfl)),f48:=Tryz.func181.trans (congrArg some (by kernel_rfl)),f49:=⟨Tryz.f182.name,by decide,Tryz.func182.trans (congrArg some (by kernel_rfl))⟩,f50:=⟨Tryz.f183.name,by decide,Tryz.func183.trans (congrArg some (by kernel_rfl))⟩,f57:=⟨Tryz.f190.name,by decide,Tryz.func190.trans (congrArg some (by kernel_rfl))⟩,t0:=Tryz.underlying0,a0:=Tryz.isAgg0,z0:=Tryz.sizeOf0,v0:=Tryz.zeroValue0,t3:=Tryz.underlying3,a3:=Tryz.isAgg3,z3:=Tryz.sizeOf3,v3:=Tryz.zeroValue3,t4:=Tryz.underlying4,a4:=Tryz.isAgg4,z4:=Tryz.sizeOf4,v4:=Tryz.zeroValue4,t5:=Tryz.underlying5,a5:=Tryz.isAgg5,z5:=Tryz.sizeOf5,v5:=Tryz.zeroValue5,t9:=Tryz.underlying9,a9:=Tryz.isAgg9,z9:=Tryz.sizeOf9,v9:=Tryz.zeroValue9,t22:=Tryz.underlying27,a22:=Tryz.isAgg27,z22:=Tryz.sizeOf27,v22:=Tryz.zeroValue27,a24:=Tryz.isAgg3,z24:=Tryz.sizeOf3,t25:=Tryz.underlying91,a25:=Tryz.isAgg91,z25:=Tryz.sizeOf91,v25:=Tryz.zeroValue91,t39:=Tryz.underlying201,a39:=Tryz.isAgg201,z39:=Tryz.sizeOf201,v39:=Tryz.zeroValue201,t45:=Tryz.underlying216,a45:=Tryz.isAgg216,z45:=Tryz.sizeOf216,v45:=Tryz.zeroValue216,t46:=Tryz.underlying217,a46:=Tryz.isAgg217,z46:=Tryz.sizeOf217,v46:=Tryz.zeroValue217,t50:=Tryz.underlying175,a50:=Tryz.isAgg175,z50:=Tryz.sizeOf175,v50:=Tryz.zeroValue175,t53:=Tryz.underlying223,a53:=Tryz.isAgg223,z53:=Tryz.sizeOf223,v53:=Tryz.zeroValue223,t55:=Tryz.underlying225,a55:=Tryz.isAgg225,z55:=Tryz.sizeOf225,v55:=Tryz.zeroValue225,t66:=Tryz.underlying232,a66:=Tryz.isAgg232,z66:=Tryz.sizeOf232,v66:=Tryz.zeroValue232,t70:=Tryz.underlying236,a70:=Tryz.isAgg236,z70:=Tryz.sizeOf236,v70:=Tryz.zeroValue236,t76:=Tryz.underlying242,a76:=Tryz.isAgg242,z76:=Tryz.sizeOf242,v76:=Tryz.zeroValue242,t77:=Tryz.underlying185,a77:=Tryz.isAgg185,z77:=Tryz.sizeOf185,v77:=Tryz.zeroValue185 }
end Go.Proofs
end
section
set_option maxRecDepth 100000
namespace Go.Abs.Lay
open Go Go.RowKit Go.Shelf Go.Lib Go.Sort Go.Proofs
attribute [local go_sem] Oper.semAt_some
def mJ (l:List Int):List Int:=l.mergeSort fun x y=>decide (y<=x)
abbrev Sm:=Fin 16384
def encS (x:Sm):Value:= .int .i64 (x.val:Int)
def RS (x y:Sm):Int:=(y.val:Int) - (x.val:Int)
theorem ltS (x y:Sm):ltOf RS x y=decide (y.val<x.val):=by
 unfold ltOf RS
 rw [cH];omega
theorem swoS:SWO (ltOf RS) where
 irrefl x:=by rw [ltS];simp
 trans x y z h1 h2:=by rw [ltS,ai] at*;omega
 ntrans x y z h1 h2:=by rw [ltS,an] at*;omega
theorem totS (x y:Sm) (h1:ltOf RS x y=false) (h2:ltOf RS y x=false):x=y:=by
 rw [ltS,an] at*
 exact Fin.ext (by omega)
theorem geS:(fun x y:Sm=> !ltOf RS y x)=fun x y=>decide (y.val<=x.val):=by
 funext x y
 rw [ltS]
 by_cases h:y.val<=x.val
 ·rw [bk h,bg (by omega)];rfl
 ·rw [bg h,bk (by omega)];rfl
set_option maxHeartbeats 1000000 in
theorem Zx (x y:Sm) (W:World):Calls prog 98 #[encS x,encS y] W fun e w'=>e= .returned (.int .i64 (RS x y))/\ ∃q,w'=W.drewN q:=by
 have mixed:=dv
 have h1:=x.isLt
 have h2:=y.isLt
 unfold encS RS
 generalize x.val=a at*
 generalize y.val=b at*
 go_enter Go.Proofs.Tryz.func98,Go.Proofs.Tryz.ntmps98
 go_wp2
 go_ret
 exact ⟨rfl,0,rfl⟩
def Ta (x:Int):Sm:=⟨x.toNat%16384,bj _ (by decide)⟩
theorem Mh {x:Int} (h0:0<=x) (h1:x<=10000):((Ta x).val:Int)=x:=by
 unfold Ta
 show ((x.toNat%16384:Nat):Int)=x
 omega
theorem GF (l:List Int) (h: ∀x∈l,0<=x/\x<=10000):((l.map Ta).mergeSort fun x y=> !ltOf RS y x).map (fun x=>(x.val:Int))=mJ l:=by
 rw [geS,List.map_mergeSort (s:=fun x y:Int=>decide (y<=x))]
 ·rw [List.map_map,mJ]
  congr 1
  conv=>rhs;rw [<-List.map_id l]
  exact List.map_congr_left fun x hx=>Mh (h x hx).1 (h x hx).2
 ·intro a _ b _
  rw [cH];omega
theorem X5 (n:Nat) (A:Nat->Int) (hn:n<=1000000) (hA: ∀i,i<n->0<=A i/\A i<=10000):FnT prog 97 n A (fun i=>(mJ ((List.range n).map A)).getD i 0) [.val (.func (.func 98) #[] #[])]:=by
 refine ⟨⟨_,Go.Proofs.Tryz.func97,rfl,by kernel_rfl⟩,fun w v0 vs hs hv=> ?_⟩
 match vs,hs with
 |[v1],_=>
  have r1:=hv 0 _ _ rfl rfl
  cases r1
  refine ⟨fun e h0=> ?_,fun g C cv T e hC hh fq eZ=> ?_⟩
  ·subst e
   have hS:=AnyF.slices_SortFunc_none (P:=prog) (ρ:=Tryz.C8) { Tryz.Vk with } none 0 (.func (.func 98) #[] #[]) w
   change Calls prog 97 _ _ _ at hS
   exact hS.mono fun e w' ⟨he,hw⟩=>⟨he,by rw [hw];exact Below.refl _ _⟩
  ·subst e
   have hl: ∀x∈(List.range n).map A,0<=x/\x<=10000:=fun x hx=>by
    obtain ⟨i,hi,rfl⟩:=br.1 hx
    exact hA i (a8.1 hi)
   have hd:((((List.range n).map A).map Ta).toArray).size=n:=by simp
   have eg: ∀args w,(callFunc 98 args).run prog w= .ok (.enter 98 args) w:=enters_of Go.Proofs.Tryz.func98 (by kernel_rfl) rfl
   have hH:Holds encS w g 0 (((List.range n).map A).map Ta).toArray:=fun j hj=>by
    rw [hd] at hj
    have ot:=eZ j hj
    have Y2:(((List.range n).map A).map Ta).toArray[j]! =Ta (A j):=by simp [hj]
    refine ⟨?_,?_⟩
    ·rw [Y2,encS,Mh (hA j hj).1 (hA j hj).2,aE]
     simp only [World.cell?,hh,ot]
     rfl
    ·simp [World.frozen?,hh]
   have hS:=Any.slices_SortFunc_total Tryz.Vk encS (fun _=>rfl) RS swoS 98 #[] g 0 C (((List.range n).map A).map Ta).toArray w eg (CmpReads.lays (fun _ _ _ _ x y=>Zx x y _)) hH (dY hh) (by rw [hd];omega) totS
   change Calls prog 97 _ _ _ at hS
   rw [hd] at hS
   refine hS.mono fun e w' ⟨he,m,os,hw⟩=>⟨he,?_⟩
   have hsn:=GF _ hl
   generalize rq:(((List.range n).map A).map Ta).toArray.toList.mergeSort (fun x y=> !ltOf RS y x)=d' at hw
   rw [List.toList_toArray] at rq
   rw [rq] at hsn
   have hdl:d'.length=n:=by rw [<-rq,List.length_mergeSort];simp
   refine ⟨putCells encS 0 d'.toArray cv,putRow encS (Sort.ahead w m) g 0 d'.toArray,by simp [putCells,fq],fun i hi=> ?_,by simp [putRow,mapBlock,Sort.ahead],rfl,rfl,rfl,fun h=>(by cases h),fun k hk=> ?_,?_,?_⟩
   ·have h1:i<d'.length:=by omega
    have h2:i<cv.size:=by omega
    have h3:(mJ ((List.range n).map A)).getD i 0=((d'[i]'h1).val:Int):=by rw [<-hsn];simp [h1]
    show (putCells encS 0 d'.toArray cv)[i]? =some (Value.int IntKind.i64 ((mJ ((List.range n).map A)).getD i 0))
    rw [h3]
    simp only [putCells,Array.getElem?_mapIdx,aD h2,aA,cc,ao,aE,h1,cQ,bn,bM,encS]
    simp [h1]
   ·simp only [putRow,mapBlock,Sort.ahead,cS]
    rw [ae (fun e=>hk e.symm)]
   ·simp only [putRow,mapBlock,Sort.ahead,cS,bn,hh,aA,onCells]
   ·rw [hw]
    refine ⟨rfl,rfl,rfl,by simp [sortWorld,grow],fun k hk=> ?_,fun h=>(by cases h)⟩
    simp only [sortWorld,grow]
    rw [Array.getElem?_append_left hk]
end Go.Abs.Lay
end
section
set_option maxRecDepth 100000
namespace Go.Abs.Lay
open Go
def Oh (u:Nat) (X C T:Nat->Int) (k i:Nat):Bool:=decide (eh u (X i)<=k/\0<=T (k - eh u (X i))/\T (k - eh u (X i))+C i=T k)
def lZ (u n:Nat) (X C T:Nat->Int) (k:Nat):Nat:=((List.range n).find? (Oh u X C T k)).getD 0
def lH (u n:Nat) (X C T:Nat->Int) (K:Nat):Nat->Nat
 |0=>K
 |j+1=>lH u n X C T K j - eh u (X (lZ u n X C T (lH u n X C T K j)))
def dU (u n:Nat) (X C T:Nat->Int) (b:Nat->Bool) (s:Bool) (K:Nat):Nat->List Int
 |0=>[]
 |j+1=>if lH u n X C T K j≠0/\b (lZ u n X C T (lH u n X C T K j))=s then dU u n X C T b s K j++[X (lZ u n X C T (lH u n X C T K j))] else dU u n X C T b s K j
abbrev Hh (l:List Int):DV:=nums l.length (fun i=>l.getD i 0)
def j5 (u:Nat) (T:Nat->Int) (len:Int):Bool:=decide (len%(u:Int)=0/\0<=T (len/(u:Int)).toNat)
def vV (u n:Nat) (X C T:Nat->Int) (b:Nat->Bool) (s:Bool) (len:Int):List Int:=if j5 u T len=true then mJ (dU u n X C T b s (len/(u:Int)).toNat (len/(u:Int)).toNat) else []
def rSort:fE:= .zA fun l i=>(mJ ((List.range (lenOf (arg l 0))).map (iQ 0 (arg l 0)))).getD i 0
theorem NQ {l:List (Nat×Int)} {T:Nat->Int} {k:Nat} (hc: ∀p∈l,0<=p.2): ∀(b:Int),0<=l.foldl (fun b p=>kq b (ga T k p)) b->l.foldl (fun b p=>kq b (ga T k p)) b=b\/ ∃p∈l,0<=ga T k p/\ga T k p=l.foldl (fun b p=>kq b (ga T k p)) b:=by
 induction l with
 |nil=>intro b _;exact .inl rfl
 |cons q l ih=>
  intro b h
  have h':0<=l.foldl (fun b p=>kq b (ga T k p)) (kq b (ga T k q)):=h
  show l.foldl (fun b p=>kq b (ga T k p)) (kq b (ga T k q))=b\/ ∃p∈q::l,0<=ga T k p/\ga T k p=l.foldl (fun b p=>kq b (ga T k p)) (kq b (ga T k q))
  rcases ih (fun p hp=>hc p (az _ hp)) _ h' with e|⟨p,hp,h1,h2⟩
  ·rw [e] at h' ⊢
   by_cases hq:ga T k q<0
   ·left;rw [kq,ah hq]
   ·by_cases hb:b<0\/ga T k q<b
    ·right
     exact ⟨q,ay,by omega,by rw [kq,ae hq,ah hb]⟩
    ·left;rw [kq,ae hq,ae hb]
  ·exact .inr ⟨p,az _ hp,h1,h2⟩
structure Iy (u n:Nat) (X C T:Nat->Int):Prop where
 tab:T=kB (yf u X C n)
 m1: ∀i,i<n->1<=eh u (X i)
 c0: ∀i,i<n->0<=C i/\C i<=10001
theorem Iy.bd {u n:Nat} {X C T:Nat->Int} (h:Iy u n X C T): ∀p∈yf u X C n,0<=p.2/\p.2<=10001:=fun p hp=>by
 obtain ⟨i,hi,rfl⟩:=br.1 hp
 exact h.c0 i (a8.1 hi)
theorem Iy.zero {u n:Nat} {X C T:Nat->Int} (h:Iy u n X C T):T 0=0:=by rw [h.tab,wT]
theorem sc {u:Nat} {X C T:Nat->Int} {k i:Nat}:Oh u X C T k i=true↔eh u (X i)<=k/\0<=T (k - eh u (X i))/\T (k - eh u (X i))+C i=T k:=by rw [Oh,ai]
theorem M1 {u n:Nat} {X C T:Nat->Int} (h:Iy u n X C T) {k:Nat} (hk:0<k) (hT:0<=T k): ∃i,i<n/\Oh u X C T k i=true:=by
 have e:T k=kJ (yf u X C n) T k:=by rw [h.tab];exact Eg _ hk
 rw [e] at hT
 rcases NQ (fun p hp=>(h.bd p hp).1) _ hT with h1|⟨p,hp,h1,h2⟩
 ·unfold kJ at hT;rw [h1] at hT;omega
 ·obtain ⟨i,hi,rfl⟩:=br.1 hp
  refine ⟨i,a8.1 hi,sc.2 ?_⟩
  have h3:ga T k (eh u (X i),C i)=T k:=by rw [h2,e];rfl
  unfold ga at h1 h3
  by_cases hc:1<=eh u (X i)/\eh u (X i)<=k/\0<=T (k - eh u (X i))
  ·rw [ah hc] at h3
   exact ⟨hc.2.1,hc.2.2,h3⟩
  ·rw [ae hc] at h1;omega
theorem kX {u n:Nat} {X C T:Nat->Int} (h:Iy u n X C T) {k:Nat} (hk:0<k) (hT:0<=T k):lZ u n X C T k<n/\Oh u X C T k (lZ u n X C T k)=true/\ ∀j,j<lZ u n X C T k->Oh u X C T k j=false:=by
 unfold lZ
 cases hf:(List.range n).find? (Oh u X C T k) with
 |none=>
  obtain ⟨i,hi,ho⟩:=M1 h hk hT
  exact absurd ho (List.find?_eq_none.1 hf i (a8.2 hi))
 |some i=>
  have:=List.find?_range_eq_some.1 hf
  refine ⟨a8.1 this.2.1,this.1,fun j hj=> ?_⟩
  have:=this.2.2 j hj
  simpa using this
theorem TD {u n:Nat} {X C T:Nat->Int} (h:Iy u n X C T) {k i:Nat} (hk:0<k) (hT:0<=T k) (ho:Oh u X C T k i=true) (hb: ∀j,j<i->Oh u X C T k j=false):lZ u n X C T k=i:=by
 obtain ⟨h1,h2,h3⟩:=kX h hk hT
 rcases cP (lZ u n X C T k) i with hl|hl|hl
 ·rw [hb _ hl] at h2;cases h2
 ·exact hl
 ·rw [h3 _ hl] at ho;cases ho
section
variable {u n:Nat} {X C T:Nat->Int} {b:Nat->Bool} {K:Nat}
theorem tz (h:Iy u n X C T) (hK:0<=T K): ∀j,0<=T (lH u n X C T K j)
 |0=>hK
 |j+1=>by
  have ih:=tz h hK j
  by_cases h0:lH u n X C T K j=0
  ·rw [lH,h0,Nat.zero_sub,h.zero];omega
  ·exact (sc.1 (kX h (by omega) ih).2.1).2.1
theorem Qp (h:Iy u n X C T) (hK:0<=T K) {j:Nat} (h0:lH u n X C T K j≠0):lH u n X C T K (j+1)+eh u (X (lZ u n X C T (lH u n X C T K j)))=lH u n X C T K j/\1<=eh u (X (lZ u n X C T (lH u n X C T K j))):=by
 obtain ⟨h1,h2,_⟩:=kX h (by omega) (tz h hK j)
 have h3:=(sc.1 h2).1
 have h4:=h.m1 _ h1
 rw [lH];omega
theorem rl {j:Nat} (h0:lH u n X C T K j=0): ∀i,j<=i->lH u n X C T K i=0
 |0,hi=>by rw [show j=0 by omega] at h0;exact h0
 |i+1,hi=>by
  by_cases e:j=i+1
  ·rw [<-e];exact h0
  ·rw [lH,rl h0 i (by omega),Nat.zero_sub]
theorem EU (h:Iy u n X C T) (hK:0<=T K): ∀{j:Nat},(∀i,i<j->lH u n X C T K i≠0)->lH u n X C T K j+j<=K
 |0,_=>af _
 |j+1,hj=>by
  have:=EU h hK (j:=j) fun i hi=>hj i (by omega)
  have:=Qp h hK (hj j (by omega))
  omega
theorem LW (h:Iy u n X C T) (hK:0<=T K):lH u n X C T K K=0:=by
 apply bQ
 intro h0
 have: ∀i,i<K+1->lH u n X C T K i≠0:=fun i hi h1=>h0 (rl h1 K (by omega))
 have:=EU h hK this
 omega
theorem mq {s:Bool} {j:Nat} (h0:lH u n X C T K j=0): ∀i,j<=i->dU u n X C T b s K i=dU u n X C T b s K j
 |0,hi=>by rw [show j=0 by omega]
 |i+1,hi=>by
  by_cases e:j=i+1
  ·rw [e]
  ·rw [dU,ae (fun hx=>hx.1 (rl h0 i (by omega))),mq h0 i (by omega)]
theorem zC: ∀{j:Nat},(∀i,i<j->lH u n X C T K i≠0)->(dU u n X C T b false K j).length+(dU u n X C T b true K j).length=j
 |0,_=>rfl
 |j+1,hj=>by
  have ih:=zC (j:=j) fun i hi=>hj i (by omega)
  have h0:=hj j (by omega)
  simp only [dU]
  cases hb:b (lZ u n X C T (lH u n X C T K j)) with
  |false=>
   rw [ah ⟨h0,rfl⟩,ae (fun hx=>by cases hx.2),aO,cB];omega
  |true=>
   rw [ae (fun hx=>by cases hx.2),ah ⟨h0,rfl⟩,aO,cB];omega
theorem qG (h:Iy u n X C T) (hK:0<=T K) {s:Bool}: ∀{j:Nat} {x:Int},x∈dU u n X C T b s K j-> ∃i,i<n/\x=X i/\b i=s
 |0,x,hx=>by cases hx
 |j+1,x,hx=>by
  rw [dU] at hx
  split at hx
  ·rename_i hc
   rcases aT.1 hx with hx|hx
   ·exact qG h hK hx
   ·exact ⟨_,(kX h (by omega) (tz h hK j)).1,by simpa using hx,hc.2⟩
  ·exact qG h hK hx
end
theorem lQ (l:List Int):(List.range l.length).map (fun i=>l.getD i 0)=l:=by
 apply List.ext_getElem
 ·simp
 ·intro i h1 h2;simp [h2]
theorem kU (l:List Int):(mJ l).Perm l:=List.mergeSort_perm _ _
theorem rZ (l:List Int):(mJ l).length=l.length:=(kU l).length_eq
theorem zJ {l:List Int} {x:Int} {i:Nat} (h:i<(l++[x]).length):(l++[x]).getD i 0=if i<l.length then l.getD i 0 else x:=by
 simp only [aO,aL,b7] at h
 split
 ·rename_i h1
  simp [aM h1]
 ·rw [show i=l.length by omega];simp
noncomputable def I0 (u n:Nat) (X C:Nat->Int) (b:Nat->Bool) (T:Nat->Int) (tn:Nat) (len:Int):eH:={ dq:=[(2,[(6,.pos),(14,.pos)]),(4,[(3,.pos)]),(9,[(4,.pos)]),(19,[(1,rSort)])],loops:=[(0,{ ι:=Nat,keep:=[1,2,3,6,8],boxes:=[3,6],ts:=fun _ j=>[(9,dI (lH u n X C T (len/(u:Int)).toNat j:Nat))],bx:=fun σ j=>[(8,[.row 1 (σ.nx+50) 0 (dU u n X C T b false (len/(u:Int)).toNat j).length,.row 1 (σ.nx+51) 0 (dU u n X C T b true (len/(u:Int)).toNat j).length])],rb:=fun _ j=>[(8,0,1,(dU u n X C T b false (len/(u:Int)).toNat j).length,[fun i=> .val (.int .i64 ((dU u n X C T b false (len/(u:Int)).toNat j).getD i 0))]),(8,1,1,(dU u n X C T b true (len/(u:Int)).toNat j).length,[fun i=> .val (.int .i64 ((dU u n X C T b true (len/(u:Int)).toNat j).getD i 0))])],inv:=fun _ j=> ∀i,i<j->lH u n X C T (len/(u:Int)).toNat i≠0,mu:=fun _ j=>lH u n X C T (len/(u:Int)).toNat j,rd:=fun _ σ=>Z4 (cellOf σ 0 (σ.get 8))+Z4 (cellOf σ 1 (σ.get 8)) }),(2,{ ι:=Nat,keep:=[1,2,3,6,8,9,42,43],boxes:=[3,6],ts:=fun _ i=>[(44,dI (i:Int))],bx:=fun σ _=>[(8,[.row 1 (σ.nx+50) 0 (Z4 (cellOf σ 0 (σ.get 8))),.row 1 (σ.nx+51) 0 (Z4 (cellOf σ 1 (σ.get 8)))])],rb:=fun σ _=>[(8,0,1,Z4 (cellOf σ 0 (σ.get 8)),[cOf σ 0 (cellOf σ 0 (σ.get 8))]),(8,1,1,Z4 (cellOf σ 1 (σ.get 8)),[cOf σ 0 (cellOf σ 1 (σ.get 8))])],inv:=fun σ i=>i<=n/\ ∀k,k<i->Oh u X C T (eA (σ.get 9)).toNat k=false,mu:=fun _ i=>n - i,rd:=fun _ σ=>(eA (σ.get 44)).toNat })],dw:=[],JC:=[(4,3)] }
namespace w3m
noncomputable section
structure Z where
 u:Nat
 n:Nat
 X:Nat->Int
 C:Nat->Int
 b:Nat->Bool
 T:Nat->Int
 tn:Nat
 len:Int
variable (z:Z) (i0 i1 i2:Nat) (p q:Prop) (P:List Prop) (a b:Int) (k l:Nat) (g h:Bool) (U:VT) (Oi j8b:Nat->Int) (Dz j9b:List Int)
abbrev x0:=z.len/(z.u:Int)
abbrev x1:=Int.toNat (x0 z)
abbrev x2:=Lay.dU z.u z.n z.X z.C z.T z.b g (x1 z) k
abbrev x3:=Lay.lH z.u z.n z.X z.C z.T (x1 z) k
abbrev x4:Int:=(↑(x3 z i0):Int)
abbrev x5:=z.X (Int.toNat (i1:Int))
abbrev x6:=List.length (x2 z i0 false)
abbrev x7:=List.length (x2 z i0 true)
abbrev x8:=x4 z i0 - x5 z i1/(z.u:Int)
abbrev x9:=decide ((x5 z i1/(z.u:Int))>(x4 z i0))
abbrev dC:=if g=true then true else (decide (a<(0:Int)))
abbrev dA:=dC (z.T (Int.toNat (x8 z i0 i1))) (x9 z i0 i1)
abbrev dz:=Lay.vV z.u z.n z.X z.C z.T z.b g z.len
abbrev dG:=decide (z.len<(0:Int))
abbrev dL:List Prop:=(k=List.length Dz)::p::P
abbrev dR:=rf (Value.slice none 0 0)
abbrev dQ:=if (dG z)=true then true else (z.len%(z.u:Int) !=0)
abbrev ep:=x6 z i0+1+x7 z i0
abbrev eu:=List.getD (x2 z i0 true) i1 0
abbrev eG:=List.getD (x2 z i0 false) i1 0
abbrev ez:=i1<List.length Dz->a=List.getD j9b i1 0
abbrev eF:=(0:Int)+(1:Int)
abbrev eQ:List Prop:=ri ((!g)=true)::ri ((!h)=true)::P
abbrev fC:= ∀i0<z.n,rf (z.b i0)
abbrev fM:List Prop:=rf a::rf z.n::(∀i0<z.n,rf (z.X i0))::(∀i0<z.n,rf (z.C i0))::P
abbrev fR:List Prop:=rf (0:Nat)::(k=List.length Dz)::P
abbrev fj:List Prop:=(a=b)::rf z.tn::(∀i0<z.tn,rf (z.T i0))::rf z.len::P
abbrev gp:List Prop:=ri ((!g)=true)::((!h)=true->p)::P
abbrev iI:=List.getD (Lay.mJ (List.map Oi (List.range k))) i1 0
abbrev ji:=VT.da P (VT.da [cZ a] U)
abbrev iq:=Int.toNat ((i1:Int)+1)
abbrev jj:=x2 z (ep z i0) true
abbrev jv:=x2 z (ep z i0) false
abbrev il:=x2 z (x6 z i0+x7 z i0) true
abbrev iH:=x2 z (x6 z i0+(x7 z i0+1)) true
abbrev lu:=x2 z (x6 z i0+x7 z i0) false
abbrev lq:=x2 z (x6 z i0+(x7 z i0+1)) false
abbrev ku:=0<=a/\b<(z.tn:Int)
abbrev qq:=(nat_lit 0)=0
abbrev nm:List Prop:=((!g)=true->p)::ri ((!h)=true)::P
abbrev nA:=g=false->(!h)=true
abbrev uh:=DV.val (Value.int IntKind.i64 a)
abbrev BB:=i1<k->((x3 z i1)≠(0:Nat))
abbrev BF:=fM z [fC z,dR,dR,p,k<l] (z.u:Int)
abbrev ou:=x6 z i0+(x7 z i0+1)
abbrev ug:=VT.da [0<=a/\b<(↑(2:Nat):Int)] U
abbrev BE:=iI i1 (x6 z i0) (fun i1=>eG z i0 i1)
abbrev sA:=0<=a/\0<(z.u:Int)/\b<=9223372036854775807
abbrev sL:=VT.ite (decide (a<(2:Int))) U (VT.done ((x6 z i0<=x6 z i0)::(x7 z i0<=x7 z i0)::dL p (dL q [true=Lay.j5 z.u z.T z.len] (x7 z i0) (dz z true)) (x6 z i0) (dz z false)))
abbrev lN:=fR (BF z p (x3 z k) (x3 z i0)) (x7 z i0) Dz
abbrev rV:=sL z i0 (∀(i1:Nat),ez i1 (BE z i0 i1) (dz z false) (dz z false)) p a U
abbrev uf:=(nat_lit 0)+(nat_lit 0)
abbrev Gf:=(z.T (Int.toNat (x8 z i0 i1)))+(z.C (Int.toNat (i1:Int)))
abbrev K6:=iI i1 (x7 z i0) (fun i1=>eu z i0 i1)
abbrev Ge:= ∀(i1:Nat),ez i1 (eu z i0 i1) (dz z true) (dz z true)
abbrev wN:=fM z [fC z,dR,dR] (z.u:Int)
abbrev Jd:=ji [p,k*((nat_lit 7)+1)<=140737488355328,(1:Nat)<=(1:Nat)] (x8 z i0 i1) (VT.done (fj z P (x8 z i0 i1) (↑(x3 z l):Int)))
abbrev SC:=gp p (eQ (nm q (eQ P (dA z i0 i1) (dA z i0 i1)) (dA z i0 i1) (dA z i0 i1)) (dA z i0 i1) (dA z i0 i1)) (dA z i0 i1) (dA z i0 i1)
abbrev BD:=i2<List.length Dz->(if (decide (i2<k))=true then (List.getD (x2 z i0 g) i2 0) else (x5 z i1))=List.getD j9b i2 0
abbrev wG:List Prop:=[FnT prog 97 k Oi j8b [DV.val (Value.func (Fn.func 98) (Array.mk []) (Array.mk []))]]
abbrev Ob:=fM z (fC z::rf (z.n:Int)::rf (x6 z i0)::(∀i1<x6 z i0,rf (eG z i0 i1))::rf (x7 z i0)::(∀i1<x7 z i0,rf (eu z i0 i1))::rf (0:Nat)::rf (x6 z i0)::rf (0:Nat)::rf (x7 z i0)::P) (x4 z i0)
abbrev wM:=i2<k->Lay.Oh z.u z.X z.C z.T (Int.toNat (x4 z i0)) i2=false
abbrev xt:VT:=VT.da (eQ (gp (0<=z.len/\0<(z.u:Int)) (ri ((!(dG z))=true)::nA (dG z) (dG z)::eQ (gp (sA z z.len z.len) (eQ (nm (ku z (x0 z) (x0 z)) [ri ((!(dQ z))=true),nA (dQ z) (dQ z)] (dQ z) (dQ z)) (dQ z) (dQ z)) (dQ z) (dQ z)) (dQ z) (dQ z)) (dG z) (dG z)) (dG z) (dG z)) (VT.ite (dC (z.T (x1 z)) (dQ z)) (VT.done [List.length (dz z false)=0,List.length (dz z true)=0,false=Lay.j5 z.u z.T z.len]) (VT.da [sA z z.len z.len] (VT.loop Nat (fun i0=> ∀(i1:Nat),BB z i1 i0) uf (fj z (qq::qq::rf (0:Nat)::qq::rf (0:Nat)::qq::wN z) (x0 z) (↑(x3 z uf):Int)) (fun i0=>VT.ite (decide ((x4 z i0)>(0:Int))) (VT.loop Nat (fun i1=>i1<=z.n/\(∀(i2:Nat),wM z i0 i2 i1)) (Int.toNat 0) (fj z (Ob z i0 (wN z)) (0:Int) (↑(Int.toNat 0):Int)) (fun i1=>VT.ite (decide ((i1:Int)<(z.n:Int))) (VT.da [0<=(i1:Int)/\(i1:Int)<(z.n:Int)] (VT.da [sA z (x5 z i1) (x5 z i1)] (VT.da (eQ (nm (cZ (x8 z i0 i1)) (gp (ku z (x8 z i0 i1) (x8 z i0 i1)) (eQ (nA (x9 z i0 i1) (x9 z i0 i1)::ri ((!(dA z i0 i1))=true)::SC z i0 i1 (cZ (x8 z i0 i1)) (ku z (x8 z i0 i1) (x8 z i0 i1)) (SC z i0 i1 (cZ (Gf z i0 i1)) (ku z (x4 z i0) (x4 z i0)) [nA (dA z i0 i1) (dA z i0 i1)])) (x9 z i0 i1) (x9 z i0 i1)) (x9 z i0 i1) (x9 z i0 i1)) (x9 z i0 i1) (x9 z i0 i1)) (x9 z i0 i1) (x9 z i0 i1)) (VT.ite (if (dA z i0 i1)=true then true else (Gf z i0 i1 !=(z.T (Int.toNat (x4 z i0))))) (VT.da [cZ ((i1:Int)+1)] (VT.done (fj z (Ob z i0 (BF z (iq i1<=z.n/\(∀(i2:Nat),wM z i0 i2 (iq i1))) (z.n - iq i1) (z.n - i1))) ((i1:Int)+1) (↑(iq i1):Int)))) (VT.ite (z.b (Int.toNat (i1:Int))) (Jd z i0 i1 (x7 z i0<=x7 z i0) (dL (∀(i1:Nat),ez i1 (eG z i0 i1) (lq z i0) (lq z i0)) (dL (∀(i2:Nat),BD z i0 i1 i2 (x7 z i0) true (iH z i0) (iH z i0)) (fR (fR (BF z (∀(i1:Nat),BB z i1 (ou z i0)) (x3 z (ou z i0)) (x3 z i0)) (x7 z i0+1) (iH z i0)) (x6 z i0) (lq z i0)) (x7 z i0+1) (iH z i0)) (x6 z i0) (lq z i0)) (x7 z i0+1) (ou z i0)) (Jd z i0 i1 (x6 z i0<=x6 z i0) (dL (∀(i2:Nat),BD z i0 i1 i2 (x6 z i0) false (jv z i0) (jv z i0)) (dL (∀(i1:Nat),ez i1 (eu z i0 i1) (jj z i0) (jj z i0)) (fR (lN z i0 (∀(i1:Nat),BB z i1 (ep z i0)) (ep z i0) (jj z i0)) (x6 z i0+1) (jv z i0)) (x7 z i0) (jj z i0)) (x6 z i0+1) (jv z i0)) (x6 z i0+1) (ep z i0))))))) (VT.done (fj z (dL (∀(i1:Nat),ez i1 (eG z i0 i1) (lu z i0) (lu z i0)) (dL (∀(i1:Nat),ez i1 (eu z i0 i1) (il z i0) (il z i0)) (fR (lN z i0 (∀(i1:Nat),BB z i1 (x6 z i0+x7 z i0)) (x6 z i0+x7 z i0) (il z i0)) (x6 z i0) (lu z i0)) (x7 z i0) (il z i0)) (x6 z i0) (lu z i0)) (x4 z i0) (↑(x3 z (x6 z i0+x7 z i0)):Int))))) (sL z i0 (∀(i1:Nat),ez i1 (eG z i0 i1) (dz z false) (dz z false)) (Ge z i0) (0:Int) (ug (0:Int) (0:Int) (ji (rf (x6 z i0)::kF (fun i1=>uh (eG z i0 i1))::wG (x6 z i0) (fun i1=>vz (uh (eG z i0 i1))) (fun i1=>BE z i0 i1)) eF (rV z i0 (Ge z i0) eF (ug eF eF (ji (rf (x7 z i0)::kF (fun i1=>uh (eu z i0 i1))::wG (x7 z i0) (fun i1=>vz (uh (eu z i0 i1))) (fun i1=>K6 z i0 i1)) (eF+1) (rV z i0 (∀(i1:Nat),ez i1 (K6 z i0 i1) (dz z true) (dz z true)) (eF+1) (ug (eF+1) (eF+1) (VT.da [False] (VT.da [cZ (eF+1+1)] (VT.done [False])))))))))))))))
end
end w3m
open w3m in
theorem UF (u n:Nat) (X C:Nat->Int) (b:Nat->Bool) (T:Nat->Int) (tn:Nat) (len:Int) (hu:1<=u) (hu2:u<=10000) (hn:n<=16) (yC:Iy u n X C T) (hX: ∀i,i<n->1<=X i/\X i<=10000) (h0:0<=len) (h1:len<=4000*(u:Int)) (htn:(len/(u:Int)).toNat+1<=tn) (htn2:tn<=100000):dm prog 38 [UK u n X C b,nums tn T,dI len] (.fy [.agg [Hh (vV u n X C T b false len),Hh (vV u n X C T b true len)],dB (j5 u T len)]):=by
 refine db dv (I0 u n X C b T tn len) (V:=xt ⟨u,n,X,C,b,T,tn,len⟩) (by kernel_rfl) ?_
 simp only [xt,x0,x1,x2,x3,x4,x5,x6,x7,x8,x9,dC,dA,dz,dG,dL,dR,dQ,ep,eu,eG,ez,eF,eQ,fC,fM,fR,fj,gp,iI,ji,iq,jj,jv,il,iH,lu,lq,ku,qq,nm,nA,uh,BB,BF,ou,ug,BE,sA,sL,lN,rV,uf,Gf,K6,Ge,wN,Jd,SC,BD,wG,Ob,wM,Rf,VT.holds,dt,Sq]
 obtain ⟨q0,q1⟩:=PL hu h0 h1
 have hbd:=Eh yC.bd
 rw [<-yC.tab] at hbd
 refine ⟨⟨fun _=>⟨h0,by omega⟩,fun _=>⟨h0,by omega,by omega⟩,fun _=>⟨q0,by omega⟩⟩,fun h=> ?_,fun ⟨h,hT⟩=> ?_⟩
 ·have e:j5 u T len=false:=by
   rw [j5,an]
   rintro ⟨e1,e2⟩
   rcases h with (h|h)|h
   ·omega
   ·exact h e1
   ·omega
  rw [vV,vV,e]
  exact ⟨rfl,rfl,rfl⟩
 have hr:len%(u:Int)=0:=by
  apply bQ
  intro e;exact h (.inr e)
 have j7:j5 u T len=true:=by rw [j5,ai];exact ⟨hr,by omega⟩
 have hK:0<=T (len/(u:Int)).toNat:=by omega
 simp only [vV,j7,bn]
 have hQ:len/(u:Int)=((len/(u:Int)).toNat:Int):=by omega
 generalize hKK:(len/(u:Int)).toNat=K at*
 rw [hQ]
 have htn':K+1<=tn:=by omega
 have hK4:K<=4000:=by omega
 have hend:=LW yC hK
 have B3: ∀s j x,x∈dU u n X C T b s K j->1<=x/\x<=10000:=fun s j x hx=>by
  obtain ⟨i,hi,rfl,_⟩:=qG yC hK hx
  exact hX i hi
 refine ⟨⟨h0,by omega,by omega⟩,rfl,(fun i hi=>absurd hi (aF i)),fun j hj=>⟨fun hk=>⟨rfl,⟨ao _,fun k hk=>absurd hk (aF k)⟩,fun i ⟨hi,hb⟩=>⟨fun dK=> ?_,fun iy=> ?_⟩⟩,fun hk=> ?_⟩⟩
 ·have pH:i<n:=by omega
  have hx:=hX i pH
  have hc:=yC.c0 i pH
  have e:X i/(u:Int)=(eh u (X i):Int):=by
   unfold eh
   have:=bZ (a:=X i) (b:=(u:Int)) (by omega) (by omega)
   omega
  have m1:=yC.m1 i pH
  have hle:=EU yC hK hj
  have hTk:=tz yC hK j
  have hlen:=zC (b:=b) hj
  have e1:(dU u n X C T b false K j).length+((dU u n X C T b true K j).length+1)=j+1:=by omega
  have e2:(dU u n X C T b false K j).length+1+(dU u n X C T b true K j).length=j+1:=by omega
  simp only [e,Int.toNat_sub,e1,e2]
  have t1:=hbd (lH u n X C T K j - eh u (X i))
  refine ⟨⟨by omega,by omega⟩,⟨by omega,by omega,by omega⟩,⟨fun _=>by unfold cZ;omega,fun _=>⟨by omega,by omega⟩,fun _=>by unfold cZ;omega,fun _=>⟨by omega,by omega⟩,fun _=>by unfold cZ;omega,fun _=>⟨by omega,by omega⟩⟩,fun h2=>⟨by unfold cZ;omega,rfl,⟨by omega,fun k qz=> ?_⟩,by omega⟩,fun ⟨h2,h3⟩=> ?_⟩
  ·by_cases ek:k=i
   ·rw [ek,Bool.eq_false_iff]
    intro ho
    obtain ⟨o1,o2,o3⟩:=sc.1 ho
    rcases h2 with (h2|h2)|h2
    ·omega
    ·omega
    ·exact h2 o3
   ·exact hb k (by omega)
  ·have ho:Oh u X C T (lH u n X C T K j) i=true:=sc.2 ⟨by omega,by omega,h3⟩
   have hp:=TD yC (by omega) hTk ho hb
   have nj:lH u n X C T K j≠0:=by omega
   have LY:lH u n X C T K (j+1)=lH u n X C T K j - eh u (X i):=by rw [lH,hp]
   have YU: ∀i2,i2<j+1-> ¬lH u n X C T K i2=0:=fun i2 VU=>by
    by_cases e4:i2=j
    ·rw [e4];exact nj
    ·exact hj i2 (by omega)
   refine ⟨fun hbt=> ?_,fun Y8=> ?_⟩
   ·have f1:dU u n X C T b false K (j+1)=dU u n X C T b false K j:=by rw [dU,hp,ae (fun hx=>by rw [hbt] at hx;cases hx.2)]
    have f2:dU u n X C T b true K (j+1)=dU u n X C T b true K j++[X i]:=by rw [dU,hp,ah ⟨nj,hbt⟩]
    have f3:(dU u n X C T b true K (j+1)).length=(dU u n X C T b true K j).length+1:=by rw [f2];simp
    refine ⟨⟨af _,by omega,af _⟩,by unfold cZ;omega,by rw [LY];omega,by rw [f1],fun i2 _=>by rw [f1],f3.symm,fun i2 VU=> ?_,by rw [f1],f3.symm,YU,by rw [LY];omega⟩
    rw [f2] at VU ⊢
    rw [zJ VU]
   ·have f1:dU u n X C T b true K (j+1)=dU u n X C T b true K j:=by rw [dU,hp,ae (fun hx=>by rw [Y8] at hx;cases hx.2)]
    have f2:dU u n X C T b false K (j+1)=dU u n X C T b false K j++[X i]:=by rw [dU,hp,ah ⟨nj,Y8⟩]
    have f3:(dU u n X C T b false K (j+1)).length=(dU u n X C T b false K j).length+1:=by rw [f2];simp
    refine ⟨⟨af _,by omega,af _⟩,by unfold cZ;omega,by rw [LY];omega,f3.symm,fun i2 VU=> ?_,by rw [f1],fun i2 _=>by rw [f1],f3.symm,by rw [f1],YU,by rw [LY];omega⟩
    rw [f2] at VU ⊢
    rw [zJ VU]
 ·exfalso
  obtain ⟨p1,p2,_⟩:=kX yC (by omega) (tz yC hK j)
  rw [hb _ (by omega)] at p2
  cases p2
 ·have VR:lH u n X C T K j=0:=by omega
  have hle:=EU yC hK hj
  have s1: ∀s,dU u n X C T b s K K=dU u n X C T b s K j:=fun s=>mq VR K (by omega)
  have hlen:=zC (b:=b) hj
  have hA: ∀s,∀i,i<(dU u n X C T b s K j).length->0<=(dU u n X C T b s K j).getD i 0/\(dU u n X C T b s K j).getD i 0<=10000:=fun s i hi=>by
   have hm:(dU u n X C T b s K j).getD i 0∈dU u n X C T b s K j:=by
    rw [bc,ak hi];exact List.getElem_mem hi
   have:=B3 s j _ hm
   omega
  have hs:=fun s (hn:(dU u n X C T b s K j).length<=1000000)=>X5 _ _ hn (hA s)
  simp only [s1,lQ,rZ] at hs ⊢
  exact ⟨fun _=>⟨⟨by omega,by omega⟩,⟨fun _=>trivial,hs false (by omega)⟩,by unfold cZ;omega,fun _=>⟨⟨by omega,by omega⟩,⟨fun _=>trivial,hs true (by omega)⟩,by unfold cZ;omega,fun h=>absurd h (by omega),fun _=>⟨af _,af _,trivial,fun _ _=>trivial,trivial,fun _ _=>trivial,trivial⟩⟩,fun h=>absurd h (by omega)⟩,fun h=>absurd h (by omega)⟩
end Go.Abs.Lay
end
