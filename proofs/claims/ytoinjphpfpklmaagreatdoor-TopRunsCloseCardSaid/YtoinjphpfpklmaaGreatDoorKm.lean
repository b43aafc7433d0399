/- Contracts and what they stand on. -/
import Derived.Test.YtoinjphpfpklmaaGreatDoorK5
import Derived.Shelf.Sort.Plain
import Derived.Shelf.Slices.CompactI
import Derived.Ground.Names2Prog
import Derived.Ground.NamesProg
import Derived.WalkKit
import Derived.Shelf.Slices.In.SortNone
import Derived.Lib.RowBridge
set_option linter.unusedVariables false
set_option linter.unusedSimpArgs false
section
set_option maxRecDepth 100000
namespace Go.Abs
open Go
def NF (n:Nat) (X Y:Nat->Int) (p q:Int):Nat->Int
 |0=>0
 |k+1=>if crB n X Y p q k=true then NF n X Y p q k+1 else NF n X Y p q k
theorem Bb (n:Nat) (X Y:Nat->Int) (p q:Int): ∀k,0<=NF n X Y p q k/\NF n X Y p q k<=k/\(UC n X Y p q k=true↔NF n X Y p q k%2=1)
 |0=>by simp [NF,UC]
 |k+1=>by
  obtain ⟨h1,h2,h3⟩:=Bb n X Y p q k
  simp only [NF,UC]
  split
  ·refine ⟨by omega,by omega,?_⟩
   cases hc:UC n X Y p q k with
   |true=>have:=h3.1 hc;simp;omega
   |false=>
    have: ¬NF n X Y p q k%2=1:=fun h=>by rw [h3.2 h] at hc;cases hc
    simp;omega
  ·exact ⟨h1,by omega,h3⟩
def yp (n:Nat) (X Y:Nat->Int) (j:Nat):Bool:=dO n X Y j&&(!(dO n X Y ((j:Int) - 1))||decide (dD n X Y j%2≠dD n X Y ((j:Int) - 1)%2))
theorem UA {n:Nat} {X Y:Nat->Int} (hn:0<n):dO n X Y (-1)=dO n X Y (((n - 1:Nat)):Int):=by
 have e1:ix n (-1)=ix n (((n - 1:Nat)):Int):=by
  unfold ix
  rw [show (-1+(n:Int))=(((n - 1:Nat)):Int) by omega,bw]
 have e2:ix n (-1+1)=ix n ((((n - 1:Nat)):Int)+1):=by
  unfold ix
  rw [show (((n - 1:Nat)):Int)+1=(n:Int) by omega,show (-1+1+(n:Int))=(n:Int) by omega,bw]
 unfold dO
 rw [e1,e2]
theorem Pe (d e:Int):(d - e).tmod 2=0↔d%2=e%2:=by
 rw [<-Int.dvd_iff_tmod_eq_zero,Int.dvd_iff_emod_eq_zero];omega
theorem DI {n:Nat} {X Y:Nat->Int} (hn:0<n) (h: ∀j,j<n->yp n X Y j=true): ∀j,j<n->gF n X Y j=true:=by
 intro j hj
 have h1:=h j hj
 have hp:dO n X Y ((j:Int) - 1)=true:=by
  cases j with
  |zero=>
   have h2:=h (n - 1) (by omega)
   simp only [yp,av] at h2
   rw [show ((0:Nat):Int) - 1= -1 from rfl,UA hn];exact h2.1
  |succ k=>
   have h2:=h k (by omega)
   simp only [yp,av] at h2
   rw [show ((k+1:Nat):Int) - 1=(k:Int) by omega];exact h2.1
 simp only [yp,hp,av,Bool.not_true,Bool.false_or] at h1
 simp only [gF,hp,h1.1,h1.2,Bool.and_self]
noncomputable def FY (n:Nat) (X Y:Nat->Int):eH:={ dq:=[(5,[(2,Dh)])],loops:=[(0,{ ι:=Nat,keep:=[0],boxes:=[],ts:=fun _ i=>[(3,dI (qE n X Y i)),(4,dI (i:Int))],inv:=fun _ i=>i<=n,mu:=fun _ i=>n - i,rd:=fun _ σ=>(eA (σ.get 4)).toNat })],dw:=[] }
namespace wm
noncomputable section
structure Z where
 n:Nat
 X:Nat->Int
 Y:Nat->Int
variable (z:Z) (i0:Nat) (a:Int)
abbrev x0:=(i0:Int)+1
abbrev x1:=Value.int IntKind.i64 a
abbrev x2:=Int.toNat (x0 i0)
abbrev x3:=(z.X (Int.toNat (i0:Int)))*(z.Y (ix z.n (x0 i0)))
abbrev x4:=qE z.n z.X z.Y i0+x3 z i0
abbrev x5:=(z.Y (Int.toNat (i0:Int)))*(z.X (ix z.n (x0 i0)))
abbrev xt:VT:=VT.loop Nat (fun i0=>i0<=z.n) (Int.toNat 0) [rf (0:Int),0=(↑(Int.toNat 0):Int),rf z.n,∀i0<z.n,rf (z.X i0),∀i0<z.n,rf (z.Y i0)] (fun i0=>VT.ite (decide ((i0:Int)<(z.n:Int))) (VT.da [dm prog 126 [DV.di z.n [fun i0=>DV.val (x1 (z.X i0)),fun i0=>DV.val (x1 (z.Y i0))],DV.val (x1 (i0:Int))] (DV.val (Value.agg (Array.mk [x1 (z.X (ix z.n (x0 i0))),x1 (z.Y (ix z.n (x0 i0)))])))] (VT.da [0<=(i0:Int)/\(i0:Int)<(z.n:Int),cZ (x3 z i0),cZ (x4 z i0),0<=(i0:Int)/\(i0:Int)<(z.n:Int),cZ (x5 z i0),cZ (x4 z i0 - x5 z i0)] (VT.da [cZ (x0 i0)] (VT.done [x4 z i0 - x5 z i0=qE z.n z.X z.Y (x2 i0),x0 i0=(↑(x2 i0):Int),rf z.n,∀i0<z.n,rf (z.X i0),∀i0<z.n,rf (z.Y i0),x2 i0<=z.n,z.n - x2 i0<z.n - i0])))) (VT.done [qE z.n z.X z.Y i0=qE z.n z.X z.Y z.n]))
end
end wm
open wm in
theorem O8 (n:Nat) (X Y:Nat->Int) (hn:0<n) (jH:n<=800) (hX:kM n X) (hY:kM n Y):dm prog 128 [mh n X Y] (dI (qE n X Y n)):=by
 refine db dv (FY n X Y) (V:=xt ⟨n,X,Y⟩) (by kernel_rfl) ?_
 simp only [xt,x0,x1,x2,x3,x4,x5,Rf,VT.holds,dt,Sq]
 refine ⟨rfl,ao n,fun i hi=>⟨fun h=> ?_,fun h=> ?_⟩⟩
 ·have b1:=rW hn hX hY i (i+1)
  have b2:=rW hn hX hY (i+1) i
  have b3:=Ea hn hX hY i
  have hc:=Int.mul_comm (Y (ix n i)) (X (ix n (i+1)))
  have e:=kE (n:=n) (i:=i) (by omega)
  have e2:qE n X Y (i+1)=qE n X Y i+(X (ix n i)*Y (ix n (i+1)) - X (ix n (i+1))*Y (ix n i)):=rfl
  rw [e] at b1 b2 hc e2
  simp only [cZ]
  refine ⟨xj n X Y i hn (by omega) (by omega) (by omega),by omega,by omega,by omega,by omega,by omega⟩
 ·have:i=n:=by omega
  rw [this]
noncomputable def F9 (n:Nat) (X Y:Nat->Int) (p q:Int):eH:={ dq:=[(5,[(2,Dh)]),(6,[(9,GZ),(20,GZ)]),(10,[(1,.pos)])],loops:=[(0,{ ι:=Nat,keep:=[0,3],boxes:=[3],ts:=fun _ i=>[(5,dI (NF n X Y p q i)),(6,dI (i:Int))],inv:=fun _ i=>i<=n/\ ∀j,j<i->TF n X Y p q j=false,mu:=fun _ i=>n - i,rd:=fun _ σ=>(eA (σ.get 6)).toNat })],dw:=[] }
namespace wn
noncomputable section
structure Z where
 n:Nat
 X:Nat->Int
 Y:Nat->Int
 p:Int
 q:Int
variable (z:Z) (i0 i1:Nat) (p:Prop) (P:List Prop) (a b c:Int) (k:Nat) (g h:Bool)
abbrev x0:=(i0:Int)+1
abbrev x1:=z.X (Int.toNat (i0:Int))
abbrev x2:=z.X (ix z.n (x0 i0))
abbrev x3:=if g=true then h else false
abbrev x4:=x1 z i0==x2 z i0
abbrev x5:=x3 (x4 z i0) (decide ((x1 z i0)>z.p))
abbrev x6:=z.Y (ix z.n (x0 i0))
abbrev x7:=z.Y (Int.toNat (i0:Int))
abbrev x8:List Prop:=ri (g=true)::ri (h=true)::P
abbrev x9:=decide ((min (x1 z i0) (x2 z i0)<=z.p)/\(z.p<=max (x1 z i0) (x2 z i0)))
abbrev dC:=x3 (x5 z i0) (decide (z.q>=(iM (x7 z i0) [x6 z i0])))
abbrev dA:=Int.toNat (x0 i0)
abbrev dz:=DV.val (Value.int IntKind.i64 a)
abbrev dG:=0<=(i0:Int)/\(i0:Int)<(z.n:Int)
abbrev dL:=NF z.n z.X z.Y z.p z.q i0
abbrev dR:=x8 P (x5 z i0) (x5 z i0)
abbrev dQ:=x8 P (dC z i0) (dC z i0)
abbrev ep:List Prop:=ri (g=true)::(h=true->dG z i0)::P
abbrev eu:=x8 P (x9 z i0) (x9 z i0)
abbrev eG:=x8 P (x4 z i0) (x4 z i0)
abbrev ez:List Prop:=p::(a=(k:Int))::rf z.n::(∀i0<z.n,rf (z.X i0))::(∀i0<z.n,rf (z.Y i0))::rf z.p::P
abbrev eF:=i1<k->TF z.n z.X z.Y z.p z.q i1=false
abbrev eQ:=VT.done [a=S5 z.n z.X z.Y z.p z.q]
abbrev fC:=dm prog 178 [dz a,dz b,dz c] (DV.val (Value.bool g))
abbrev fM:=decide ((min (x7 z i0) (x6 z i0)<=z.q)/\(z.q<=max (x7 z i0) (x6 z i0)))
abbrev fR:=VT.da [cZ (x0 i0)] (VT.done (ez z (a=NF z.n z.X z.Y z.p z.q (dA i0)) [rf z.q,dA i0<=z.n/\(∀(i1:Nat),eF z i1 (dA i0)),z.n - dA i0<z.n - i0] (x0 i0) (dA i0)))
abbrev xt:VT:=VT.loop Nat (fun i0=>i0<=z.n/\(∀(i1:Nat),eF z i1 i0)) (Int.toNat 0) (ez z (rf (0:Int)) [rf z.q] (0:Int) (Int.toNat 0)) (fun i0=>VT.ite (decide ((i0:Int)<(z.n:Int))) (VT.da [dm prog 126 [DV.di z.n [fun i0=>dz (z.X i0),fun i0=>dz (z.Y i0)],dz (i0:Int)] (DV.val (Value.agg (Array.mk [Value.int IntKind.i64 (x2 z i0),Value.int IntKind.i64 (x6 z i0)])))] (VT.da (dG z i0::fC z.p (x1 z i0) (x2 z i0) (x9 z i0)::eu z i0 (ep z i0 (eu z i0 (eu z i0 (eu z i0 [x9 z i0=true->fC z.q (x7 z i0) (x6 z i0) (fM z i0),ri (x9 z i0=true)]))) (x9 z i0) (x9 z i0))) (VT.ite (x3 (x9 z i0) (fM z i0)) (eQ z (0:Int)) (VT.da (dG z i0::ri (x4 z i0=true)::ep z i0 (eG z i0 (eG z i0 (eG z i0 (dR z i0 (ep z i0 (dR z i0 (dR z i0 (dR z i0 (dR z i0 (dQ z i0 (ep z i0 (dQ z i0 (dQ z i0 (dQ z i0 (dQ z i0 [])))) (dC z i0) (dC z i0))))))) (x5 z i0) (x5 z i0)))))) (x4 z i0) (x4 z i0)) (VT.ite (x3 (dC z i0) (decide (z.q<(hP (x7 z i0) [x6 z i0])))) (VT.da [cZ (dL z i0+1)] (fR z i0 (dL z i0+1))) (fR z i0 (dL z i0))))))) (VT.da [0<=dL z i0/\(0:Int)<(2:Int)] (VT.ite (dL z i0%2==1) (eQ z (1:Int)) (eQ z (-(1:Int))))))
end
end wn
open wn in
theorem O3 (n:Nat) (X Y:Nat->Int) (p q:Int) (hn:0<n) (jH:n<=800):dm prog 158 [mh n X Y,dP p q] (dI (S5 n X Y p q)):=by
 refine db dv (F9 n X Y p q) (V:=xt ⟨n,X,Y,p,q⟩) (by kernel_rfl) ?_
 simp only [xt,x0,x1,x2,x3,x4,x5,x6,x7,x8,x9,dC,dA,dz,dG,dL,dR,dQ,ep,eu,eG,ez,eF,eQ,fC,fM,fR,Rf,VT.holds,dt,Sq]
 refine ⟨rfl,⟨ao n,fun j hj=>(by omega)⟩,fun i ⟨sj,hb⟩=>⟨fun dK=> ?_,fun iy=> ?_⟩⟩
 ·have e:=kE (n:=n) (i:=i) (by omega)
  have e1:lo n X i=min (X i) (X (ix n (i+1))):=by unfold lo;rw [e]
  have e2:hi n X i=max (X i) (X (ix n (i+1))):=by unfold hi;rw [e]
  have e3:lo n Y i=min (Y i) (Y (ix n (i+1))):=by unfold lo;rw [e]
  have e4:hi n Y i=max (Y i) (Y (ix n (i+1))):=by unfold hi;rw [e]
  have m1:iM (Y i) [Y (ix n (i+1))]=lo n Y i:=by simp only [iM];split<;>omega
  have m2:hP (Y i) [Y (ix n (i+1))]=hi n Y i:=by simp only [hP];split<;>omega
  have f1:(X i=X (ix n (i+1))/\X i>p)↔(lo n X i=hi n X i/\lo n X i>p):=by omega
  have b1:=DX p (X i) (X (ix n (i+1)))
  have b2:=DX q (Y i) (Y (ix n (i+1)))
  have hr:(0:Int)<=i/\(i:Int)<n:=by omega
  rw [m1,m2]
  refine ⟨xj n X Y i hn (by omega) (by omega) (by omega),⟨hr,b1,fun _=>hr,fun _=>b2⟩,fun Nk=> ?_,fun hoff=>⟨⟨hr,fun _=>hr,fun _=>hr,fun _=>hr⟩,?_⟩⟩
  ·rw [S5,ah (fun fh=> ?_)]
   have:=fh i (by omega)
   unfold TF at this
   rw [an] at this
   exact this (by omega)
  ·have hbn: ∀j,j<i+1->TF n X Y p q j=false:=fun j hj=>by
    by_cases e:j=i
    ·subst e
     unfold TF
     rw [an]
     omega
    ·exact hb j (by omega)
   obtain ⟨c1,c2,_⟩:=Bb n X Y p q i
   refine ⟨fun hc=>⟨by unfold cZ;omega,by unfold cZ;omega,?_,rfl,⟨by omega,hbn⟩,by omega⟩,fun hc=>⟨by unfold cZ;omega,?_,rfl,⟨by omega,hbn⟩,by omega⟩⟩
   ·rw [NF,ah]
    unfold crB
    rw [ai];omega
   ·rw [NF,ae]
    unfold crB
    rw [ai];omega
 ·have fh: ∀j,j<n->TF n X Y p q j=false:=fun j hj=>hb j (by omega)
  have:i=n:=by omega
  subst this
  obtain ⟨c1,c2,c3⟩:=Bb i X Y p q i
  refine ⟨by omega,fun h=> ?_,fun h=> ?_⟩
  ·rw [S5,ae (fun hx=>hx fh),ah (c3.2 h)]
  ·rw [S5,ae (fun hx=>hx fh),ae (fun hx=>h (c3.1 hx))]
noncomputable def Ga (n:Nat) (X Y:Nat->Int):eH:={ dq:=[(2,[(1,uK)]),(7,[(5,yY),(13,yY)]),(12,[(6,Dh),(7,PI),(14,.pos),(21,PI)]),(22,[(6,Dh),(13,Dh),(14,rTouR)]),(24,[(1,rTw)])],loops:=[(0,{ ι:=Nat,keep:=[0,3],boxes:=[],ts:=fun _ i=>[(4,dI (i:Int))],inv:=fun _ i=>i<=n/\ ∀j,j<i->rS X Y j=false,mu:=fun _ i=>n - i,rd:=fun _ σ=>(eA (σ.get 4)).toNat }),(2,{ ι:=Nat,keep:=[0,3],boxes:=[],ts:=fun _ i=>[(5,dI (i:Int))],inv:=fun _ i=>i<=n/\ ∀j,j<i->yp n X Y j=true,mu:=fun _ i=>n - i,rd:=fun _ σ=>(eA (σ.get 5)).toNat }),(4,{ ι:=Nat,keep:=[0,3],boxes:=[],ts:=fun _ i=>[(8,dI (i:Int))],inv:=fun _ i=>i<=n/\ ∀j,j<i-> ∀k,k<n->j+2<=k->kS n X Y j k=false,mu:=fun _ i=>n - i,rd:=fun _ σ=>(eA (σ.get 8)).toNat }),(6,{ ι:=Nat,keep:=[0,3,8],boxes:=[],ts:=fun _ k=>[(9,dI (k:Int))],inv:=fun σ k=>(eA (σ.get 8)).toNat+1<=k/\ ∀j,j<k->(eA (σ.get 8)).toNat+2<=j->j<n->kS n X Y (eA (σ.get 8)).toNat j=false,mu:=fun _ k=>n+2 - k,rd:=fun _ σ=>(eA (σ.get 9)).toNat })],dw:=[] }
namespace wo
noncomputable section
structure Z where
 n:Nat
 X:Nat->Int
 Y:Nat->Int
variable (z:Z) (i0 i1 i2:Nat) (p:Prop) (P:List Prop) (a b:Int) (k:Nat) (g h:Bool) (E:List DV) (U V:VT) (Qr:Nat->Prop) (mR:Nat->VT)
abbrev x0:Int:=(i0:Int)
abbrev x1:Int:=(z.n:Int)
abbrev x2:=z.X (Int.toNat (x0 i0))
abbrev x3:=z.Y (Int.toNat (x0 i0))
abbrev x4:=(x0 i0+x1 z - 1)%x1 z
abbrev x5:=z.X (ix z.n (x0 i0+1))
abbrev x6:=z.Y (ix z.n (x0 i0+1))
abbrev x7:=(i1:Int)+1
abbrev x8:=DV.val (Value.int IntKind.i64 a)
abbrev x9:=sK (x2 z i0) (x3 z i0) (x5 z i0) (x6 z i0)
abbrev dC:=Int.toNat (x0 i0+1)
abbrev dA:=decide ((x9 z i0)<(0:Int))
abbrev dz:=(i1:Int)==x0 i0+1
abbrev dG:=sK (z.X (Int.toNat (x4 z i0))) (z.Y (Int.toNat (x4 z i0))) (x2 z i0) (x3 z i0)
abbrev dL:= !(ir (x2 z i0))
abbrev dR:=DV.val (Value.agg (Array.mk [Value.int IntKind.i64 a,Value.int IntKind.i64 b]))
abbrev dQ:=decide ((dG z i0)>=(0:Int))
abbrev ep:=Int.toNat (x7 i1)
abbrev eu:=((!(dA z i0))&&(dQ z i0))=true
abbrev eG:List Prop:=p::rf z.n::(∀i0<z.n,rf (z.X i0))::(∀i0<z.n,rf (z.Y i0))::P
abbrev ez:=VT.ite g (VT.done [a=gz z.n z.X z.Y]) U
abbrev eF:=((!(dz i0 i1))&&(x0 i0==0))=true
abbrev eQ:=0<=x0 i0/\x0 i0<x1 z
abbrev fC:=dm prog k E (DV.val (Value.bool g))
abbrev fM:=dR (x5 z i0) (x6 z i0)
abbrev fR:=x0 i0+1=(↑(dC i0):Int)
abbrev fj:=DV.di z.n [fun i0=>x8 (z.X i0),fun i0=>x8 (z.Y i0)]
abbrev gp:=if g=true then true else h
abbrev iI:=VT.ite (decide ((x0 i0)<(x1 z))) U V
abbrev ji:=g=false->(!h)=true
abbrev iq:=dR (x2 z i0) (x3 z i0)
abbrev jj:=VT.loop Nat Qr (Int.toNat 0) [0=(↑(Int.toNat 0):Int),rf z.n,∀i0<z.n,rf (z.X i0),∀i0<z.n,rf (z.Y i0),rf (x1 z)] mR
abbrev jv:=VT.da [cZ (x0 i0+1)] (VT.done (eG z (fR i0) [rf (x1 z),dC i0<=z.n/\p,z.n - dC i0<z.n - i0]))
abbrev il:=i2<k->Int.toNat (x0 i0)+2<=i2->i2<z.n->kS z.n z.X z.Y (Int.toNat (x0 i0)) i2=false
abbrev iH:=dR (z.X (ix z.n (x7 i1))) (z.Y (ix z.n (x7 i1)))
abbrev lu:List Prop:=ri ((!(dL z i0))=true)::((!(dL z i0))=true->p)::ri ((!(dL z i0))=true)::P
abbrev lq:=VT.da (eQ z i0::dm prog 126 [fj z,x8 (x0 i0)] (fM z i0)::P) U
abbrev ku:=decide ((4<=x1 z)/\(x1 z<=40))
abbrev qq:= ∀i0<z.n,i1+2<=i0->kS z.n z.X z.Y i1 i0=false
abbrev nm:=VT.da [cZ (x7 i1)] (VT.done (eG z (x7 i1=(↑(ep i1):Int)) [rf (x1 z),rf (x0 i0),Int.toNat (x0 i0)+1<=ep i1/\(∀(i2:Nat),il z i0 i2 (ep i1)),z.n+2 - ep i1<z.n+2 - i1]))
abbrev nA:=JF (x2 z i0) (x3 z i0) (x5 z i0) (x6 z i0) (z.X (Int.toNat (i1:Int))) (z.Y (Int.toNat (i1:Int))) (z.X (ix z.n (x7 i1))) (z.Y (ix z.n (x7 i1)))
abbrev xt:VT:=VT.da [fC (82:Nat) (ku z) [x8 (x1 z),x8 (4:Int),x8 (40:Int)]] (ez z (11:Int) (!(ku z)) (jj z (fun i0=>i0<=z.n/\(∀i1<i0,rS z.X z.Y i1=false)) (fun i0=>iI z i0 (VT.da (eQ z i0::fC (124:Nat) (ir (x2 z i0)) [x8 (x2 z i0)]::ri ((!(dL z i0))=true)::lu z i0 (eQ z i0) (ri ((!(dL z i0))=true)::lu z i0 (fC (124:Nat) (ir (x3 z i0)) [x8 (x3 z i0)]) [ji (dL z i0) (dL z i0)])) (ez z (2:Int) (gp (dL z i0) (!(ir (x3 z i0)))) (jv z i0 (∀i1<dC i0,rS z.X z.Y i1=false)))) (jj z (fun i0=>i0<=z.n/\(∀i1<i0,yp z.n z.X z.Y i1=true)) (fun i0=>iI z i0 (lq z i0 [dm prog 125 [iq z i0,fM z i0] (x8 (x9 z i0)),cZ (x0 i0+x1 z),cZ (x0 i0+x1 z - 1),0<=x0 i0+x1 z - 1/\0<x1 z,0<=x4 z i0/\x4 z i0<x1 z,eQ z i0,dm prog 125 [dR (z.X (Int.toNat (x4 z i0))) (z.Y (Int.toNat (x4 z i0))),iq z i0] (x8 (dG z i0))] (VT.da [ri ((!(dA z i0))=true),ri ((!(dA z i0))=true),ri (eu z i0),ri (eu z i0),eu z i0->cZ (x9 z i0 - dG z i0),ri (eu z i0),eu z i0->((2:Int)≠(0:Int)),ri (eu z i0),ri ((!(dA z i0))=true),(!(dA z i0))=true->dQ z i0=true->eu z i0,ji (dA z i0) (dA z i0)] (ez z (3:Int) (gp (dA z i0) (if (dQ z i0)=true then (Int.tmod (x9 z i0 - dG z i0) 2==0) else false)) (jv z i0 (∀i1<dC i0,yp z.n z.X z.Y i1=true))))) (jj z (fun i0=>i0<=z.n/\(∀i1<i0,qq z i1)) (fun i0=>iI z i0 (VT.da [cZ (x0 i0+1)] (VT.loop Nat (fun i1=>Int.toNat (x0 i0)+1<=i1/\(∀(i2:Nat),il z i0 i2 i1)) (dC i0) (eG z (fR i0) [rf (x1 z),rf (x0 i0)]) (fun i1=>VT.ite (decide ((i1:Int)<(x1 z))) (VT.da [cZ (x0 i0+1),ri ((!(dz i0 i1))=true),ri ((!(dz i0 i1))=true),ri (eF i0 i1),eF i0 i1->cZ (x1 z - 1),ri (eF i0 i1),ri (eF i0 i1),ri ((!(dz i0 i1))=true),(!(dz i0 i1))=true->(x0 i0==0)=true->eF i0 i1,ji (dz i0 i1) (dz i0 i1)] (VT.ite (gp (dz i0 i1) (if (x0 i0==0)=true then ((i1:Int)==x1 z - 1) else false)) (nm z i0 i1) (lq z i0 [0<=(i1:Int)/\(i1:Int)<x1 z,dm prog 126 [fj z,x8 (i1:Int)] (iH z i1),fC (127:Nat) (nA z i0 i1) [iq z i0,fM z i0,dR (z.X (Int.toNat (i1:Int))) (z.Y (Int.toNat (i1:Int))),iH z i1]] (ez z (12:Int) (nA z i0 i1) (nm z i0 i1))))) (jv z i0 (∀i1<dC i0,qq z i1))))) (VT.da [dm prog 128 [fj z] (x8 (qE z.n z.X z.Y z.n))] (ez z (10:Int) (decide ((qE z.n z.X z.Y z.n)<(0:Int))) (VT.done [0=gz z.n z.X z.Y]))))))))))
end
end wo
open wo in
theorem Ia (n:Nat) (X Y:Nat->Int) (jH:n<=1000000):dm prog 83 [mh n X Y] (dI (gz n X Y)):=by
 refine db dv (Ga n X Y) (V:=xt ⟨n,X,Y⟩) (by kernel_rfl) ?_
 simp only [xt,x0,x1,x2,x3,x4,x5,x6,x7,x8,x9,dC,dA,dz,dG,dL,dR,dQ,ep,eu,eG,ez,eF,eQ,fC,fM,fR,fj,gp,iI,ji,iq,jj,jv,il,iH,lu,lq,ku,qq,nm,nA,Rf,VT.holds,dt,Sq]
 refine ⟨iz _ _ _,fun h=> ?_,fun h=>⟨rfl,⟨ao n,fun j hj=>(by omega)⟩,fun i ⟨sj,hb⟩=>⟨fun dK=> ?_,fun iy=>⟨rfl,⟨ao n,fun j hj=>(by omega)⟩,fun i1 ⟨hi1,hf⟩=>⟨fun hlt1=> ?_,fun hge1=>⟨rfl,⟨ao n,fun j hj=>(by omega)⟩,fun i2 ⟨VU,hc⟩=>⟨fun xw=>⟨by unfold cZ;omega,rfl,⟨af _,fun j h1 h2=>(by omega)⟩,fun k ⟨hk,hck⟩=>⟨fun kL=> ?_,fun kL=> ?_⟩⟩,fun No=> ?_⟩⟩⟩⟩⟩⟩⟩
 ·rw [gz,ah (by omega)]
 ·have hr:(0:Int)<=i/\(i:Int)<n:=by omega
  have b1:=BX (X i)
  have b2:=BX (Y i)
  refine ⟨⟨hr,b1,fun _=>hr,fun _=>b2⟩,fun sH=> ?_,fun j7=>⟨by unfold cZ;omega,rfl,⟨by omega,fun j hj=> ?_⟩,by omega⟩⟩
  ·rw [gz,ae (by omega),ah]
   unfold kK
   rw [an]
   intro fh
   have:=fh i (by omega)
   rcases sH with hx|hx<;>simp [rS,hx] at this
  ·by_cases e:j=i
   ·subst e
    simp [rS,j7.2,j7.1]
   ·exact hb j (by omega)
 ·have hr:(0:Int)<=i1/\(i1:Int)<n:=by omega
  have e0:=kE (n:=n) (i:=i1) (by omega)
  have e1:ix n ((i1:Int) - 1+1)=i1:=by rw [show (i1:Int) - 1+1=(i1:Int) by omega,e0]
  have m1:=bm ((i1:Int)+n - 1) (show (0:Int)<n by omega)
  have m2:=bf ((i1:Int)+n - 1) (show (n:Int)≠0 by omega)
  have d1:=KB (X i1) (Y i1) (X (ix n ((i1:Int)+1))) (Y (ix n ((i1:Int)+1)))
  have d2:=KB (X (ix n ((i1:Int) - 1))) (Y (ix n ((i1:Int) - 1))) (X i1) (Y i1)
  rw [EV]
  have g1:sK (X i1) (Y i1) (X (ix n ((i1:Int)+1))) (Y (ix n ((i1:Int)+1)))=if dO n X Y i1=true then dD n X Y i1 else -1:=by
   unfold sK dO dD;rw [e0]
  have g2:sK (X (ix n ((i1:Int) - 1))) (Y (ix n ((i1:Int) - 1))) (X i1) (Y i1)=if dO n X Y ((i1:Int) - 1)=true then dD n X Y ((i1:Int) - 1) else -1:=by
   unfold sK dO dD;rw [e1]
  have r1:=fH n X Y i1
  have r2:=fH n X Y ((i1:Int) - 1)
  generalize hd:sK (X i1) (Y i1) (X (ix n ((i1:Int)+1))) (Y (ix n ((i1:Int)+1)))=d at*
  generalize he:sK (X (ix n ((i1:Int) - 1))) (Y (ix n ((i1:Int) - 1))) (X i1) (Y i1)=e at*
  have par:=Pe d e
  have b1: -1<=d/\d<=3:=by rw [g1];split<;>omega
  have b2: -1<=e/\e<=3:=by rw [g2];split<;>omega
  refine ⟨⟨hr,xj n X Y i1 (by omega) (by omega) (by omega) (by omega),d1,by unfold cZ;omega,by unfold cZ;omega,⟨by omega,by omega⟩,⟨m2,m1⟩,hr,d2⟩,⟨fun _=>by unfold cZ;omega,fun _=>by omega,fun h1 h2=>⟨h1,h2⟩⟩,fun sH=> ?_,fun j7=>⟨by unfold cZ;omega,rfl,⟨by omega,fun j hj=> ?_⟩,by omega⟩⟩
  ·have hnf:gF n X Y i1=false:=by
    unfold gF
    cases ho1:dO n X Y i1
    ·simp
    ·cases ho2:dO n X Y ((i1:Int) - 1)
     ·simp
     ·rw [ho1] at g1
      rw [ho2] at g2
      simp only [bn] at g1 g2
      simp
      omega
   have ha:kK n X Y=true:=by
    unfold kK
    rw [ai]
    exact fun j hj=>hb j (by omega)
   rw [gz,ae (by omega),ae (by rw [ha];simp),ah (fun fh=>by rw [fh i1 (by omega)] at hnf;cases hnf)]
  ·by_cases ej:j=i1
   ·subst ej
    unfold yp
    cases ho1:dO n X Y j
    ·rw [ho1] at g1;simp at g1;omega
    ·cases ho2:dO n X Y ((j:Int) - 1)
     ·simp
     ·rw [ho1] at g1
      rw [ho2] at g2
      simp only [bn] at g1 g2
      simp
      have:=j7.2 (by omega)
      omega
   ·exact hf j (by omega)
 ·have hr1:(0:Int)<=i2/\(i2:Int)<n:=by omega
  have hr2:(0:Int)<=k/\(k:Int)<n:=by omega
  have e1:=kE (n:=n) (i:=i2) (by omega)
  have e2:=kE (n:=n) (i:=k) (by omega)
  have t:=O9 (X i2) (Y i2) (X (ix n ((i2:Int)+1))) (Y (ix n ((i2:Int)+1))) (X k) (Y k) (X (ix n ((k:Int)+1))) (Y (ix n ((k:Int)+1)))
  have te:JF (X i2) (Y i2) (X (ix n ((i2:Int)+1))) (Y (ix n ((i2:Int)+1))) (X k) (Y k) (X (ix n ((k:Int)+1))) (Y (ix n ((k:Int)+1)))=JG n X Y i2 k:=by
   unfold JF JG lo hi;rw [e1,e2]
  rw [te] at t ⊢
  have cl:kS n X Y i2 k=(decide (((k:Int)+1)%(n:Int)≠(i2:Int))&&JG n X Y i2 k):=rfl
  have cm:((k:Int)+1)%(n:Int)=(i2:Int)↔(i2=0/\k=n - 1):=by
   by_cases ek:k=n - 1
   ·rw [show (k:Int)+1=n by omega,Int.emod_self];omega
   ·rw [Int.emod_eq_of_lt (by omega) (by omega)];omega
  refine ⟨⟨by unfold cZ;omega,fun _=>by unfold cZ;omega,fun h1 h2=>⟨h1,h2⟩⟩,fun hs=>⟨by unfold cZ;omega,rfl,⟨by omega,fun j h1 h2 h3=> ?_⟩,by omega⟩,fun hs=>⟨⟨hr1,xj n X Y i2 (by omega) (by omega) (by omega) (by omega),hr2,xj n X Y k (by omega) (by omega) (by omega) (by omega),t⟩,fun ht=> ?_,fun ht=>⟨by unfold cZ;omega,rfl,⟨by omega,fun j h1 h2 h3=> ?_⟩,by omega⟩⟩⟩
  ·by_cases ej:j=k
   ·subst ej
    have hx:=cm.2 (show i2=0/\j=n - 1 by omega)
    rw [cl]
    simp [hx]
   ·exact hck j (by omega) h2 h3
  ·have ha:kK n X Y=true:=by
    unfold kK
    rw [ai]
    exact fun j hj=>hb j (by omega)
   have sU:=DI (n:=n) (X:=X) (Y:=Y) (by omega) (fun j hj=>hf j (by omega))
   rw [gz,ae (by omega),ae (by rw [ha];simp),ae (fun hx=>hx sU),ah (fun fh=> ?_)]
   have h2:=fh i2 (by omega) k (by omega) (by omega)
   rw [cl,ht,Bool.and_true,an] at h2
   exact h2 (fun hx=>by have:=cm.1 hx;omega)
  ·by_cases ej:j=k
   ·subst ej
    rw [cl,ht,Bool.and_false]
   ·exact hck j (by omega) h2 h3
 ·refine ⟨by unfold cZ;omega,rfl,⟨by omega,fun j h1 k' h2 h3=> ?_⟩,by omega⟩
  by_cases e:j=i2
  ·subst e;exact hck k' (by omega) h3 h2
  ·exact hc j (by omega) k' h2 h3
 ·have ha:kK n X Y=true:=by
   unfold kK
   rw [ai]
   exact fun j hj=>hb j (by omega)
  obtain ⟨b1,b2⟩:=sy ha
  have sU:=DI (n:=n) (X:=X) (Y:=Y) (by omega) (fun j hj=>hf j (by omega))
  have jg: ∀j,j<n-> ∀k,k<n->j+2<=k->kS n X Y j k=false:=fun j hj=>hc j (by omega)
  refine ⟨O8 n X Y (by omega) (by omega) b1 b2,fun ht=> ?_,fun ht=> ?_⟩
  ·rw [gz,ae (by omega),ae (by rw [ha];simp),ae (fun hx=>hx sU),ae (fun hx=>hx jg),ah ht]
  ·rw [gz,ae (by omega),ae (by rw [ha];simp),ae (fun hx=>hx sU),ae (fun hx=>hx jg),ae ht]
end Go.Abs
end
section
set_option maxRecDepth 100000
namespace Go.Abs
open Go
abbrev nums (n:Nat) (A:Nat->Int):DV:= .di n [fun i=> .val (.int .i64 (A i))]
end Go.Abs
end
section
set_option maxRecDepth 100000
namespace Go.Abs
open Go
def ee (n:Nat) (X Y:Nat->Int) (i:Int):Int:=((X (ix n (i+1)) - X (ix n i)).natAbs:Int)+((Y (ix n (i+1)) - Y (ix n i)).natAbs:Int)
abbrev xV (n:Nat) (X Y:Nat->Int):List (Nat->DV):=[fun i=>dI (X i),fun i=>dI (Y i),fun i=>dI (X (ix n ((i:Int)+1))),fun i=>dI (Y (ix n ((i:Int)+1))),fun i=>dI (ee n X Y i),fun i=>dI (dD n X Y i)]
def uL:fE:= .res fun l=> .di (aN l) (xV (aN l) (aX l) (aY l))
def Vt:fE:= .res fun l=> .di (aN l) [fun k=>dI (lM (aN l) (aX l) (aY l) k)]
theorem xL {n:Nat} {X Y:Nat->Int} (h:gz n X Y=0) {i:Nat} (hi:i<n):dO n X Y i=true:=by
 have:=(nc h).2.2.1 i hi
 simp only [gF,av] at this
 exact this.1.1
theorem fG {f:Nat->Int} {i:Nat} {s:Int} (h:s=f i): ∀k,k<i+1->(if k<i then f k else s)=f k:=fun k hk=>by
 by_cases e:k<i
 ·rw [ah e]
 ·rw [ae e,h,show k=i by omega]
theorem EW {n:Nat} (hn:0<n) (j:Int):((ix n j:Nat):Int)=j%n:=by
 unfold ix
 rw [bw,bH (bf _ (by omega))]
theorem ix_ix {n:Nat} (hn:0<n) (j:Int):ix n (ix n j)=ix n j:=by
 have h:ix n ((ix n j:Nat):Int)=((((ix n j:Nat):Int)+n)%n).toNat:=rfl
 rw [h,EW hn,bw,Int.emod_emod]
 unfold ix
 rw [bw]
theorem Yx {n:Nat} (hn:0<n) (j:Int):ix n ((ix n j:Nat)+1)=ix n (j+1):=by
 have h:ix n (((ix n j:Nat):Int)+1)=((((ix n j:Nat):Int)+1+n)%n).toNat:=rfl
 rw [h,EW hn,bw,Int.emod_add_emod]
 unfold ix
 rw [bw]
theorem V5 {n:Nat} {X Y:Nat->Int} (hn:0<n) (j:Int):dD n X Y ((ix n j:Nat):Int)=dD n X Y j:=by
 unfold dD
 rw [ix_ix hn,Yx hn]
noncomputable def KQ (x:Int):eH:={ dq:=[],loops:=[],dw:=[] }
theorem R7 (x:Int) (h: -9223372036854775807<=x/\x<=9223372036854775807):dm prog 155 [dI x] (dI (x.natAbs:Int)):=by
 refine db dv (KQ x) (V:=VT.ite (decide (x<0)) (VT.da [cZ (-x)] (VT.done [-x=(↑(Int.natAbs x):Int)])) (VT.done [x=(↑(Int.natAbs x):Int)])) (by kernel_rfl) ?_
 simp only [VT.holds,dt,Sq]
 refine ⟨fun h=>⟨by unfold cZ;omega,by omega⟩,fun h=>by omega⟩
noncomputable def I1 (n:Nat) (X Y:Nat->Int):eH:={ dq:=[(1,[(1,zV)]),(9,[(3,Sh),(7,Sh),(10,uM),(13,JY)])],loops:=[(0,{ ι:=Nat,keep:=[0,5,15],boxes:=[],ts:=fun _ i=>[(16,dI (i:Int))],rw:=fun _ i=>[(6,6,i,xV n X Y)],inv:=fun _ i=>i<=n,mu:=fun _ i=>n - i,rd:=fun _ σ=>(eA (σ.get 16)).toNat })],dw:=[] }
namespace wq
noncomputable section
structure Z where
 n:Nat
 X:Nat->Int
 Y:Nat->Int
variable (z:Z) (i0 i1:Nat) (P:List Prop) (a b:Int) (k:Nat)
abbrev x0:=(i0:Int)+1
abbrev x1:=DV.val (Value.int IntKind.i64 a)
abbrev x2:=Int.toNat (x0 i0)
abbrev x3:=i0<Mk z.n z.X z.Y->rf a
abbrev x4:=if (decide (i1<i0))=true then a else b
abbrev x5:=z.X (ix z.n (x0 i0))
abbrev x6:=z.Y (ix z.n (x0 i0))
abbrev x7:=DV.di z.n [fun i0=>x1 (z.X i0),fun i0=>x1 (z.Y i0)]
abbrev x8:=z.X (ix z.n (i0:Int))
abbrev x9:=z.Y (ix z.n (i0:Int))
abbrev dC:List Prop:=rf z.n::(∀i0<z.n,rf (z.X i0))::(∀i0<z.n,rf (z.Y i0))::P
abbrev dA:=gz z.n z.X z.Y
abbrev dz:=dD z.n z.X z.Y (i0:Int)
abbrev dG:=dm prog k [x7 z,x1 (i0:Int)] (x1 a)
abbrev dL:=DV.val (Value.agg (Array.mk [Value.int IntKind.i64 a,Value.int IntKind.i64 b]))
abbrev dR:=(↑(Int.natAbs (x5 z i0 - x8 z i0)):Int)+(↑(Int.natAbs (x6 z i0 - x9 z i0)):Int)
abbrev xt:VT:=VT.da [dm prog 48 [x7 z] (x1 (dA z))] (VT.ite (dA z !=0) (VT.done [Mk z.n z.X z.Y=0,rf (dA z)]) (VT.loop Nat (fun i0=>i0<=z.n) (Int.toNat 0) ((0=(↑(Int.toNat 0):Int))::rf (0:Nat)::(Int.toNat 0=0)::dC z (dC z [rf (z.n:Int),Int.toNat 0=0])) (fun i0=>VT.ite (decide ((i0:Int)<(z.n:Int))) (VT.da [dm prog 109 [x7 z,x1 (i0:Int)] (dL (x8 z i0) (x9 z i0)),cZ (x0 i0),dm prog 109 [x7 z,x1 (x0 i0)] (dL (x5 z i0) (x6 z i0)),dG z i0 (dR z i0) (49:Nat),dG z i0 (dz z i0) (53:Nat),i0<=i0,(i0+1)*((nat_lit 47)+1)<=140737488355328,(1:Nat)<=(1:Nat)] (VT.da [cZ (x0 i0)] (VT.done ((x0 i0=(↑(x2 i0):Int))::rf (0:Nat)::(i0+1=x2 i0)::dC z (dC z [rf (z.n:Int),i0+1=x2 i0,∀i1<x2 i0,x4 i0 i1 (z.X i1) (x8 z i0)=(z.X i1),∀i1<x2 i0,x4 i0 i1 (z.Y i1) (x9 z i0)=(z.Y i1),∀i1<x2 i0,x4 i0 i1 (z.X (ix z.n ((i1:Int)+1))) (x5 z i0)=(z.X (ix z.n ((i1:Int)+1))),∀i1<x2 i0,x4 i0 i1 (z.Y (ix z.n ((i1:Int)+1))) (x6 z i0)=(z.Y (ix z.n ((i1:Int)+1))),∀i1<x2 i0,x4 i0 i1 (ee z.n z.X z.Y (i1:Int)) (dR z i0)=ee z.n z.X z.Y (i1:Int),∀i1<x2 i0,x4 i0 i1 (dD z.n z.X z.Y (i1:Int)) (dz z i0)=dD z.n z.X z.Y (i1:Int),x2 i0<=z.n,z.n - x2 i0<z.n - i0]))))) (VT.done [i0<=i0,i0=Mk z.n z.X z.Y,∀(i0:Nat),x3 z i0 (z.X i0),∀(i0:Nat),x3 z i0 (z.Y i0),∀(i0:Nat),x3 z i0 (x5 z i0),∀(i0:Nat),x3 z i0 (x6 z i0),∀(i0:Nat),x3 z i0 (ee z.n z.X z.Y (i0:Int)),∀(i0:Nat),x3 z i0 (dz z i0),0=dA z]))))
end
end wq
open wq in
theorem S6 (n:Nat) (X Y:Nat->Int) (jH:n<=1000000):dm prog 93 [mh n X Y] (.fy [.di (Mk n X Y) (xV n X Y),dI (gz n X Y)]):=by
 refine db dv (I1 n X Y) (V:=xt ⟨n,X,Y⟩) (by kernel_rfl) ?_
 simp only [xt,x0,x1,x2,x3,x4,x5,x6,x7,x8,x9,dC,dA,dz,dG,dL,dR,Rf,VT.holds,dt,Sq]
 refine ⟨iF n X Y jH,fun h=>by rw [Mk,ah h],fun h=>⟨rfl,ao n,fun i sj=>⟨fun dK=> ?_,fun iy=>⟨af i,?_,h.symm⟩⟩⟩⟩
 ·have hn:=fp h
  obtain ⟨hX,hY⟩:=eB h
  have e:=kE (n:=n) (i:=i) (by omega)
  have a1:=Cq n X Y i (by omega) (by omega) (by omega) (by omega)
  refine ⟨⟨a1,by unfold cZ;omega,Cq n X Y (i+1) (by omega) (by omega) (by omega) (by omega),vj n X Y i (by omega) (by omega) (by omega) (by omega) hX hY,zv n X Y i (by omega) (by omega) (by omega) (by omega),af i,by omega,af 1⟩,by unfold cZ;omega,rfl,fG (by rw [e]),fG (by rw [e]),fG (f:=fun j=>X (ix n ((j:Int)+1))) rfl,fG (f:=fun j=>Y (ix n ((j:Int)+1))) rfl,fG (f:=fun j=>ee n X Y j) rfl,fG (f:=fun j=>dD n X Y j) rfl,by omega,by omega⟩
 ·rw [Mk,ae (by rw [h];simp)]
  omega
noncomputable def F8 (n:Nat) (X Y:Nat->Int):eH:={ dq:=[(5,[(2,Dh)]),(6,[(14,.res fun l=>dI ((aI l 0).natAbs:Int)),(23,.res fun l=>dI ((aI l 0).natAbs:Int)),(30,PI)])],loops:=[(0,{ ι:=Nat,keep:=[0],boxes:=[],ts:=fun _ i=>[(4,dI (i:Int))],rw:=fun _ i=>[(3,6,i,xV n X Y)],inv:=fun _ i=>i<=n,mu:=fun _ i=>n - i,rd:=fun _ σ=>(eA (σ.get 4)).toNat })],dw:=[] }
namespace wr
noncomputable section
structure Z where
 n:Nat
 X:Nat->Int
 Y:Nat->Int
variable (z:Z) (i0 i1:Nat) (P:List Prop) (a b:Int)
abbrev x0:=(i0:Int)+1
abbrev x1:=Int.toNat (x0 i0)
abbrev x2:=z.X (ix z.n (x0 i0))
abbrev x3:=z.Y (ix z.n (x0 i0))
abbrev x4:=z.X (Int.toNat (i0:Int))
abbrev x5:=z.Y (Int.toNat (i0:Int))
abbrev x6:=DV.val (Value.int IntKind.i64 a)
abbrev x7:=if (decide (i1<i0))=true then a else b
abbrev x8:=Int.toNat 0
abbrev x9:=ix z.n ((i1:Int)+1)
abbrev dC:List Prop:=(0<=(i0:Int)/\(i0:Int)<(z.n:Int))::P
abbrev dA:List Prop:=(∀i0<z.n,rf (z.X i0))::P
abbrev dz:= ∀i0<z.n,rf (z.Y i0)
abbrev dG:Int:=(↑(Int.natAbs (x2 z i0 - x4 z i0)):Int)
abbrev dL:Int:=(↑(Int.natAbs (x3 z i0 - x5 z i0)):Int)
abbrev dR:=DV.val (Value.agg (Array.mk [Value.int IntKind.i64 a,Value.int IntKind.i64 b]))
abbrev xt:VT:=VT.loop Nat (fun i0=>i0<=z.n) x8 ((0=(x8:Int))::rf (0:Nat)::(x8=0)::rf z.n::dA z [dz z,x8=0]) (fun i0=>VT.ite (decide ((i0:Int)<(z.n:Int))) (VT.da [dm prog 126 [DV.di z.n [fun i0=>x6 (z.X i0),fun i0=>x6 (z.Y i0)],x6 (i0:Int)] (dR (x2 z i0) (x3 z i0))] (VT.da (dC z i0 (dC z i0 (cZ (x2 z i0 - x4 z i0)::dm prog 155 [x6 (x2 z i0 - x4 z i0)] (x6 (dG z i0))::dC z i0 (cZ (x3 z i0 - x5 z i0)::dm prog 155 [x6 (x3 z i0 - x5 z i0)] (x6 (dL z i0))::cZ (dG z i0+dL z i0)::dC z i0 [dm prog 125 [dR (x4 z i0) (x5 z i0),dR (x2 z i0) (x3 z i0)] (x6 (sK (x4 z i0) (x5 z i0) (x2 z i0) (x3 z i0))),i0<=i0,(i0+1)*((nat_lit 47)+1)<=140737488355328,(1:Nat)<=(1:Nat)])))) (VT.da [cZ (x0 i0)] (VT.done ((x0 i0=(↑(x1 i0):Int))::rf (0:Nat)::(i0+1=x1 i0)::rf z.n::dA z [dz z,i0+1=x1 i0,∀i1<x1 i0,x7 i0 i1 (z.X i1) (x4 z i0)=(z.X i1),∀i1<x1 i0,x7 i0 i1 (z.Y i1) (x5 z i0)=(z.Y i1),∀i1<x1 i0,x7 i0 i1 (z.X (x9 z i1)) (x2 z i0)=(z.X (x9 z i1)),∀i1<x1 i0,x7 i0 i1 (z.Y (x9 z i1)) (x3 z i0)=(z.Y (x9 z i1)),∀i1<x1 i0,x7 i0 i1 (ee z.n z.X z.Y (i1:Int)) (dG z i0+dL z i0)=ee z.n z.X z.Y (i1:Int),∀i1<x1 i0,x7 i0 i1 (dD z.n z.X z.Y (i1:Int)) (sK (x4 z i0) (x5 z i0) (x2 z i0) (x3 z i0))=dD z.n z.X z.Y (i1:Int),x1 i0<=z.n,z.n - x1 i0<z.n - i0]))))) (VT.done ((i0<=i0)::(i0=z.n)::dA z [dz z,∀i0<z.n,rf (x2 z i0),∀i0<z.n,rf (x3 z i0),∀i0<z.n,rf (ee z.n z.X z.Y (i0:Int)),∀i0<z.n,rf (dD z.n z.X z.Y (i0:Int))])))
end
end wr
open wr in
theorem qD (n:Nat) (X Y:Nat->Int) (h:gz n X Y=0):dm prog 131 [mh n X Y] (.di n (xV n X Y)):=by
 refine db dv (F8 n X Y) (V:=xt ⟨n,X,Y⟩) (by kernel_rfl) ?_
 simp only [xt,x0,x1,x2,x3,x4,x5,x6,x7,x8,x9,dC,dA,dz,dG,dL,dR,Rf,VT.holds,dt,Sq]
 have hn:=fp h
 obtain ⟨hX,hY⟩:=eB h
 refine ⟨rfl,ao n,fun i sj=>⟨fun dK=> ?_,fun iy=>⟨af i,by omega⟩⟩⟩
 have e:=kE (n:=n) (i:=i) (by omega)
 have x1:=hX i (by omega)
 have x2:=hX _ (jo (i:=(i:Int)+1) (show 0<n by omega))
 have y1:=hY i (by omega)
 have y2:=hY _ (jo (i:=(i:Int)+1) (show 0<n by omega))
 have hr:(0:Int)<=i/\(i:Int)<n:=by omega
 have hd:sK (X i) (Y i) (X (ix n ((i:Int)+1))) (Y (ix n ((i:Int)+1)))=dD n X Y i:=by
  have ho:=xL h (i:=i) (by omega)
  unfold dO at ho
  rw [e] at ho
  unfold sK dD
  rw [e,ah ho]
 have hl:(((X (ix n ((i:Int)+1)) - X i).natAbs:Int)+((Y (ix n ((i:Int)+1)) - Y i).natAbs:Int))=ee n X Y i:=by unfold ee;rw [e]
 refine ⟨xj n X Y i (by omega) (by omega) (by omega) (by omega),⟨hr,hr,by unfold cZ;omega,R7 _ (by omega),hr,by unfold cZ;omega,R7 _ (by omega),by unfold cZ;omega,hr,KB _ _ _ _,af i,by omega,af 1⟩,by unfold cZ;omega,rfl,fG rfl,fG rfl,fG (f:=fun j=>X (ix n ((j:Int)+1))) rfl,fG (f:=fun j=>Y (ix n ((j:Int)+1))) rfl,fG (f:=fun j=>ee n X Y j) hl,fG (f:=fun j=>dD n X Y j) hd,by omega,by omega⟩
noncomputable def Bx (n:Nat) (X Y:Nat->Int):eH:={ dq:=[(2,[(1,uL)]),(6,[(8,.pos)]),(7,[(2,.pos)])],loops:=[(0,{ ι:=Nat,keep:=[0,4],boxes:=[],ts:=fun _ i=>[(5,dI (i:Int))],rw:=fun _ i=>[(3,1,i,[fun k=>dI (lM n X Y k)])],inv:=fun _ i=>i<=n,mu:=fun _ i=>n - i,rd:=fun _ σ=>(eA (σ.get 5)).toNat })],dw:=[] }
namespace ws
noncomputable section
structure Z where
 n:Nat
 X:Nat->Int
 Y:Nat->Int
variable (z:Z) (i0 i1:Nat) (p:Prop) (P:List Prop) (a b:Int) (mR:Nat->Int)
abbrev x0:=(i0:Int)+1
abbrev x1:=Int.toNat (x0 i0)
abbrev x2:=DV.val (Value.int IntKind.i64 a)
abbrev x3:=(i0:Int)+(z.n:Int) - 1
abbrev x4:=i0<z.n->rf (mR (ix z.n (x0 i0)))
abbrev x5:List Prop:=rf z.n::(∀i0<z.n,rf (z.X i0))::(∀i0<z.n,rf (z.Y i0))::P
abbrev x6:=x3 z i0%(z.n:Int)
abbrev x7:=dD z.n z.X z.Y (↑(Int.toNat a):Int)
abbrev x8:= ∀i0<z.n,rf (dD z.n z.X z.Y (i0:Int))
abbrev x9:=0<=a/\b<(z.n:Int)
abbrev dC:=x5 z (x5 z ((∀(i0:Nat),x4 z i0 z.X)::(∀(i0:Nat),x4 z i0 z.Y)::(∀i0<z.n,rf (ee z.n z.X z.Y (i0:Int)))::P))
abbrev dA:=i1<x1 i0->(if (decide (i1<i0))=true then (lM z.n z.X z.Y i1) else a)=lM z.n z.X z.Y i1
abbrev dz:=VT.da [i0<=i0,(i0+1)*((nat_lit 7)+1)<=140737488355328,(1:Nat)<=(1:Nat)] (VT.da [cZ (x0 i0)] (VT.done ((x0 i0=(↑(x1 i0):Int))::rf (0:Nat)::(i0+1=x1 i0)::dC z [x8 z,i0+1=x1 i0,p,x1 i0<=z.n,z.n - x1 i0<z.n - i0])))
abbrev xt:VT:=VT.da [dm prog 131 [DV.di z.n [fun i0=>x2 (z.X i0),fun i0=>x2 (z.Y i0)]] (DV.di z.n [fun i0=>x2 (z.X i0),fun i0=>x2 (z.Y i0),fun i0=>x2 (z.X (ix z.n (x0 i0))),fun i0=>x2 (z.Y (ix z.n (x0 i0))),fun i0=>x2 (ee z.n z.X z.Y (i0:Int)),fun i0=>x2 (dD z.n z.X z.Y (i0:Int))])] (VT.loop Nat (fun i0=>i0<=z.n) (Int.toNat 0) ((0=(↑(Int.toNat 0):Int))::rf (0:Nat)::(Int.toNat 0=0)::dC z [x8 z,Int.toNat 0=0]) (fun i0=>VT.ite (decide ((i0:Int)<(z.n:Int))) (VT.da [cZ ((i0:Int)+(z.n:Int)),cZ (x3 z i0),x9 z (x3 z i0) (0:Int),x9 z (x6 z i0) (x6 z i0)] (VT.da [cZ (x7 z (x6 z i0)+1),0<=x7 z (x6 z i0)+1/\(0:Int)<(4:Int),x9 z (i0:Int) (i0:Int)] (VT.ite ((x7 z (x6 z i0)+1)%4==x7 z (i0:Int)) (dz z i0 (∀(i1:Nat),dA z i0 i1 (1:Int))) (dz z i0 (∀(i1:Nat),dA z i0 i1 (-(1:Int))))))) (VT.done [i0<=i0,i0=z.n,∀i0<z.n,rf (lM z.n z.X z.Y i0)])))
end
end ws
open ws in
theorem A7 (n:Nat) (X Y:Nat->Int) (h:gz n X Y=0):dm prog 136 [mh n X Y] (.di n [fun k=>dI (lM n X Y k)]):=by
 refine db dv (Bx n X Y) (V:=xt ⟨n,X,Y⟩) (by kernel_rfl) ?_
 simp only [xt,x0,x1,x2,x3,x4,x5,x6,x7,x8,x9,dC,dA,dz,Rf,VT.holds,dt,Sq]
 have hn:=fp h
 refine ⟨qD n X Y h,rfl,ao n,fun i sj=>⟨fun dK=> ?_,fun iy=>⟨af i,by omega⟩⟩⟩
 have hr:(0:Int)<=i/\(i:Int)<n:=by omega
 have m1:=bm ((i:Int)+n - 1) (show (0:Int)<n by omega)
 have m2:=bf ((i:Int)+n - 1) (show (n:Int)≠0 by omega)
 rw [EV,V5 (by omega)]
 have r:=fH n X Y ((i:Int) - 1)
 refine ⟨⟨by unfold cZ;omega,by unfold cZ;omega,⟨by omega,by omega⟩,m2,m1⟩,⟨by unfold cZ;omega,⟨by omega,by omega⟩,hr⟩,fun ho=>⟨⟨af i,by omega,af 1⟩,by unfold cZ;omega,rfl,fG (by rw [lM,ah ho.symm]),by omega,by omega⟩,fun ho=>⟨⟨af i,by omega,af 1⟩,by unfold cZ;omega,rfl,fG (by rw [lM,ae (fun e=>ho e.symm)]),by omega,by omega⟩⟩
end Go.Abs
end
section
namespace Go.Proofs
open Go.Shelf
def Tryz.MN:Go.Shelf.Ren:=⟨fun|189=>188|125=>142|257=>191|128=>167|129=>168|294=>192|295=>193|296=>194|297=>195|298=>196|299=>197|216=>198|300=>199|301=>200|328=>201|329=>180|330=>181|331=>202|332=>203|215=>204|343=>205|n=>n,fun|28=>27|3=>3|46=>201|0=>0|51=>223|53=>225|4=>4|183=>217|182=>216|131=>175|5=>5|9=>9|218=>232|222=>236|228=>242|229=>185|n=>n,fun|n=>n⟩
theorem Tryz.gh:Go.Proofs.Lays.n189 Tryz.prog Tryz.MN:={ mixed:=by kernel_rfl,f125:=Tryz.func142.trans (congrArg some (by kernel_rfl)),f128:=Tryz.func167.trans (congrArg some (by kernel_rfl)),f129:=Tryz.func168.trans (congrArg some (by kernel_rfl)),f189:=Tryz.func188.trans (congrArg some (by kernel_rfl)),f215:=Tryz.func204.trans (congrArg some (by kernel_rfl)),f216:=Tryz.func198.trans (congrArg some (by kernel_rfl)),f257:=Tryz.func191.trans (congrArg some (by kernel_rfl)),f294:=Tryz.func192.trans (congrArg some (by kernel_rfl)),f295:=Tryz.func193.trans (congrArg some (by kernel_rfl)),f296:=Tryz.func194.trans (congrArg some (by kernel_rfl)),f297:=Tryz.func195.trans (congrArg some (by kernel_rfl)),f298:=Tryz.func196.trans (congrArg some (by kernel_rfl)),f299:=Tryz.func197.trans (congrArg some (by kernel_rfl)),f300:=Tryz.func199.trans (congrArg some (by kernel_rfl)),f301:=Tryz.func200.trans (congrArg some (by kernel_rfl)),f328:=Tryz.func201.trans (congrArg some (by kernel_rfl)),f329:=Tryz.func180.trans (congrArg some (by kernel_rfl)),f330:=Tryz.func181.trans (congrArg some (by kernel_rfl)),f331:=Tryz.func202.trans (congrArg some (by kernel_rfl)),f332:=Tryz.func203.trans (congrArg some (by kernel_rfl)),f343:=Tryz.func205.trans (congrArg some (by kernel_rfl)),t0:=Tryz.underlying0,a0:=Tryz.isAgg0,z0:=Tryz.sizeOf0,v0:=Tryz.zeroValue0,t3:=Tryz.underlying3,a3:=Tryz.isAgg3,z3:=Tryz.sizeOf3,v3:=Tryz.zeroValue3,t4:=Tryz.underlying4,a4:=Tryz.isAgg4,z4:=Tryz.sizeOf4,v4:=Tryz.zeroValue4,t5:=Tryz.underlying5,a5:=Tryz.isAgg5,z5:=Tryz.sizeOf5,v5:=Tryz.zeroValue5,t9:=Tryz.underlying9,a9:=Tryz.isAgg9,z9:=Tryz.sizeOf9,v9:=Tryz.zeroValue9,t28:=Tryz.underlying27,a28:=Tryz.isAgg27,z28:=Tryz.sizeOf27,v28:=Tryz.zeroValue27,t46:=Tryz.underlying201,a46:=Tryz.isAgg201,z46:=Tryz.sizeOf201,v46:=Tryz.zeroValue201,t51:=Tryz.underlying223,a51:=Tryz.isAgg223,z51:=Tryz.sizeOf223,v51:=Tryz.zeroValue223,t53:=Tryz.underlying225,a53:=Tryz.isAgg225,z53:=Tryz.sizeOf225,v53:=Tryz.zeroValue225,t131:=Tryz.underlying175,a131:=Tryz.isAgg175,z131:=Tryz.sizeOf175,v131:=Tryz.zeroValue175,t182:=Tryz.underlying216,a182:=Tryz.isAgg216,z182:=Tryz.sizeOf216,v182:=Tryz.zeroValue216,t183:=Tryz.underlying217,a183:=Tryz.isAgg217,z183:=Tryz.sizeOf217,v183:=Tryz.zeroValue217,t218:=Tryz.underlying232,a218:=Tryz.isAgg232,z218:=Tryz.sizeOf232,v218:=Tryz.zeroValue232,t222:=Tryz.underlying236,a222:=Tryz.isAgg236,z222:=Tryz.sizeOf236,v222:=Tryz.zeroValue236,t228:=Tryz.underlying242,a228:=Tryz.isAgg242,z228:=Tryz.sizeOf242,v228:=Tryz.zeroValue242,t229:=Tryz.underlying185,a229:=Tryz.isAgg185,z229:=Tryz.sizeOf185,v229:=Tryz.zeroValue185 }
def Tryz.NA:Go.Shelf.Ren:=⟨fun|20=>189|n=>n,fun|22=>27|3=>3|4=>4|0=>0|n=>n,fun|n=>n⟩
theorem Tryz.V7:Go.Proofs.Lays2.n20 Tryz.prog Tryz.NA:={ mixed:=by kernel_rfl,f20:=Tryz.func189.trans (congrArg some (by kernel_rfl)),t0:=Tryz.underlying0,a0:=Tryz.isAgg0,z0:=Tryz.sizeOf0,v0:=Tryz.zeroValue0,t3:=Tryz.underlying3,a3:=Tryz.isAgg3,z3:=Tryz.sizeOf3,v3:=Tryz.zeroValue3,t4:=Tryz.underlying4,a4:=Tryz.isAgg4,z4:=Tryz.sizeOf4,v4:=Tryz.zeroValue4,t22:=Tryz.underlying27,a22:=Tryz.isAgg27,z22:=Tryz.sizeOf27,v22:=Tryz.zeroValue27,i3:=by kernel_rfl }
end Go.Proofs
end
section
set_option maxRecDepth 100000
namespace Go.Abs
open Go Go.RowKit Go.Shelf Go.Lib Go.Sort Go.Proofs
attribute [local go_sem] Oper.semAt_some
def fO (l:List Int):List Int:=Lib.compact (l.mergeSort fun x y=>decide (x<=y))
theorem tt (l:List Int):(fO l).length<=l.length:=by
 unfold fO
 have:=Lib.compact_length_le (l.mergeSort fun x y=>decide (x<=y))
 rw [List.length_mergeSort] at this
 exact this
theorem Hj (w:World):Calls prog 174 #[.slice none 0 0] w fun e w'=>e= .returned (.slice none 0 0)/\w'=w:=by
 have mixed:=dv
 have hs:=Any.slices_Sort_int_none Tryz.gh none 0
 have hc:=Any.slices_Compact_int_empty Tryz.V7 none 0
 change ∀w,Calls prog 188 _ w _ at hs
 change ∀w,Calls prog 189 _ w _ at hc
 go_enter Go.Proofs.Tryz.func174,Go.Proofs.Tryz.ntmps174
 go_wp2_with (first
  |(go_at_call 188;refine (hs _).mono ?_;rintro e w1 ⟨rfl,rfl⟩)
  |(go_at_call 189;refine (hc _).mono ?_;rintro e w1 ⟨rfl,rfl⟩))
 go_ret
 exact ⟨rfl,rfl⟩
theorem J9 (w:World) (g C n:Nat) (zs:List Int) (hl:zs.length=n) (hn:n<=C) (hC:n<=1000000) (hg:g<w.heap.size) (hH:Holds (Value.int .i64) w g 0 zs.toArray):
 Calls prog 174 #[.slice (some ⟨g,0,none⟩) n C] w fun e w'=>e= .returned (.slice (some ⟨g,0,none⟩) (fO zs).length C)/\
  ∃nn os q,w'=putRow (Value.int .i64) (Sort.ahead (grow (putRow (Value.int .i64) (Sort.ahead w nn) g 0 (zs.mergeSort fun x y=>decide (x<=y)).toArray) os) q) g 0 (fO zs++List.replicate (n - (fO zs).length) 0).toArray:=by
 have mixed:=dv
 have LZ:=Any.slices_Sort_int Tryz.gh g 0 C zs w hH hg (by omega)
 change Calls prog 188 _ w _ at LZ
 rw [hl] at LZ
 have yE:(zs.mergeSort fun x y=>decide (x<=y)).length=n:=by rw [List.length_mergeSort];exact hl
 have X:Aside (Holds (Value.int .i64) w g 0 zs.toArray/\g<w.heap.size):=⟨hH,hg⟩
 clear hH hg
 go_enter Go.Proofs.Tryz.func174,Go.Proofs.Tryz.ntmps174
 go_wp2_with (first
  |(go_at_call 188;refine LZ.mono ?_;rintro e w2 ⟨rfl,nn,os,rfl⟩
    have hH2:Holds (Value.int .i64) (grow (putRow (Value.int .i64) (Sort.ahead w nn) g 0 (zs.mergeSort fun x y=>decide (x<=y)).toArray) os) g 0 (zs.mergeSort fun x y=>decide (x<=y)).toArray:=
     holds_grow (Value.int .i64) _ os g 0 _ (by simpa [putRow,mapBlock,Sort.ahead] using X.out.2) (holds_putRow (Value.int .i64) _ g 0 _ _ (holds_ahead (Value.int .i64) w nn g 0 _ X.out.1) (by simp))
    have QP:=Any.slices_Compact_int Tryz.V7 g 0 C (zs.mergeSort fun x y=>decide (x<=y)) _ hH2 (by omega) (by omega)
    change Calls prog 189 _ _ _ at QP
    rw [yE] at QP
    clear hH2 LZ)
  |(go_at_call 189;refine QP.mono ?_;rintro e w3 ⟨rfl,q,rfl⟩))
 go_ret
 exact ⟨rfl,nn,os,q,rfl⟩
theorem EC {d:List Int} {cv:Array Value} {i:Nat} (hi:i<d.length) (hs:d.length<=cv.size):(putCells (Value.int .i64) 0 d.toArray cv)[i]? =some (.int .i64 (d.getD i 0)):=by
 have h2:i<cv.size:=by omega
 simp only [putCells,Array.getElem?_mapIdx,aD h2,aA,cc,ao,aE,hi,cQ,bn,bM]
 simp [hi]
theorem od (d:Array Int) (cv:Array Value):(putCells (Value.int .i64) 0 d cv).size=cv.size:=by simp [putCells]
theorem LU (n:Nat) (A:Nat->Int) (hn:n<=1000000):FnK prog 174 n A (fO ((List.range n).map A)).length (fun i=>(fO ((List.range n).map A)).getD i 0):=by
 refine ⟨⟨_,Go.Proofs.Tryz.func174,rfl,by kernel_rfl⟩,fun w v0=>⟨fun e h0=> ?_,fun g C cv T e hC hh fq eZ=> ?_⟩⟩
 ·subst e h0
  refine ⟨by have:=tt ((List.range 0).map A);simpa using this,(Hj w).mono fun e w' ⟨he,hw⟩=>⟨he,by rw [hw];exact Below.refl _ _⟩⟩
 ·subst e
  have hll:=tt ((List.range n).map A)
  simp only [b6,List.length_range] at hll
  refine ⟨hll,?_⟩
  have hl:((List.range n).map A).length=n:=by simp
  generalize Sj:(List.range n).map A=zs at*
  have hzi: ∀i,i<n->zs.getD i 0=A i:=fun i hi=>by rw [<-Sj];simp [hi]
  have hH:Holds (Value.int .i64) w g 0 zs.toArray:=fun j hj=>by
   have xx:j<n:=by simpa [hl] using hj
   have ot:=eZ j xx
   have Y2:zs.toArray[j]! =A j:=by
    rw [<-hzi j xx,getElem!_pos zs.toArray j hj]
    simp [bc,hl,xx]
   refine ⟨?_,?_⟩
   ·rw [Y2,aE]
    simp only [World.cell?,hh,ot]
    rfl
   ·simp [World.frozen?,hh]
  refine (J9 w g C n zs hl hC hn (dY hh) hH).mono fun e w' ⟨he,nn,os,q,hw⟩=>⟨he,?_⟩
  generalize rq:zs.mergeSort (fun x y=>decide (x<=y))=d1 at hw
  have hd1:d1.length=n:=by rw [<-rq,List.length_mergeSort];exact hl
  refine ⟨putCells (Value.int .i64) 0 (fO zs++List.replicate (n - (fO zs).length) 0).toArray (putCells (Value.int .i64) 0 d1.toArray cv),
   putRow (Value.int .i64) (putRow (Value.int .i64) (Sort.ahead w nn) g 0 d1.toArray) g 0 (fO zs++List.replicate (n - (fO zs).length) 0).toArray,by rw [od,od];exact fq,fun i hi=> ?_,by simp [putRow,mapBlock,Sort.ahead],rfl,rfl,rfl,(fun h=>by cases h),fun k hk=> ?_,?_,?_⟩
  ·rw [EC (by simp;omega) (by rw [od];simp;omega)]
   simp only [bc]
   rw [aM hi]
  ·simp only [putRow,mapBlock,Sort.ahead,cS]
   rw [ae (fun e=>hk e.symm),ae (fun e=>hk e.symm)]
  ·simp only [putRow,mapBlock,Sort.ahead,cS,bn,hh,aA,onCells]
  ·rw [hw]
   refine ⟨rfl,rfl,rfl,by simp [putRow,mapBlock,Sort.ahead,grow],fun k hk=> ?_,fun h=>by cases h⟩
   have hgs:=dY hh
   have kZ:k<w.heap.size:=by simpa [putRow,mapBlock,Sort.ahead] using hk
   simp only [putRow,mapBlock,Sort.ahead,grow,cS,Array.getElem?_append_left (show k<(w.heap.modify g _).size by simpa using kZ)]
end Go.Abs
end
section
namespace Go.Abs
open Go
def Ou (l:List Int):Prop:=l.Pairwise (·<·)
theorem R3: ∀{l m:List Int},Ou l->Ou m->(∀x,x∈l↔x∈m)->l=m
 |[],[],_,_,_=>rfl
 |[],y::s,_,_,h=>by have:=(h y).2 ay;cases this
 |x::r,[],_,_,h=>by have:=(h x).1 ay;cases this
 |x::r,y::s,hl,hm,h=>by
  have hl1:=List.pairwise_cons.1 hl
  have Sn:=List.pairwise_cons.1 hm
  have exy:x=y:=by
   rcases aS.1 ((h x).1 ay) with e|e
   ·exact e
   ·rcases aS.1 ((h y).2 ay) with e2|e2
    ·exact e2.symm
    ·have h1:=Sn.1 x e
     have h2:=hl1.1 y e2
     omega
  subst exy
  congr 1
  refine R3 hl1.2 Sn.2 fun z=> ?_
  constructor
  ·intro hz
   have h1:=hl1.1 z hz
   rcases aS.1 ((h z).1 (az _ hz)) with e|e
   ·omega
   ·exact e
  ·intro hz
   have h1:=Sn.1 z hz
   rcases aS.1 ((h z).2 (az _ hz)) with e|e
   ·omega
   ·exact e
theorem yt (d:Array Int) (hs: ∀i j,i<j->j<d.size->d[i]! <=d[j]!): ∀k,k<=d.size->Ou (Lib.compactUpTo d k)/\(∀x,x∈Lib.compactUpTo d k↔ ∃j,j<k/\d[j]! =x)
 |0,_=>by
  refine ⟨List.Pairwise.nil,fun x=>⟨fun h=>(by cases h),fun ⟨j,hj,_⟩=>(by omega)⟩⟩
 |k+1,hk=>by
  obtain ⟨h1,h2⟩:=yt d hs k (by omega)
  rw [Lib.compactUpTo_succ]
  by_cases fL:Lib.keeps d k=true
  ·rw [ah fL]
   have dK: ∀x∈Lib.compactUpTo d k,x<d[k]! :=fun x hx=>by
    obtain ⟨j,hj,rfl⟩:=(h2 x).1 hx
    have h3:=hs j k hj (by omega)
    rcases cf k with h0|h0
    ·omega
    ·have h4:d[k]! ≠d[k - 1]! :=by
      unfold Lib.keeps at fL
      intro e
      simp only [cC,ai,e] at fL
      rcases fL with h|h
      ·omega
      ·exact absurd h (by simp)
     have h5:d[j]! <=d[k - 1]! :=by
      rcases aU j (k - 1) with h|h
      ·exact hs j (k - 1) h (by omega)
      ·rw [show j=k - 1 by omega];exact cO _
     have h6:=hs (k - 1) k (by omega) (by omega)
     omega
   refine ⟨List.pairwise_append.2 ⟨h1,List.pairwise_singleton _ _,fun x hx y hy=>by rw [au.1 hy];exact dK x hx⟩,fun x=> ?_⟩
   rw [aT,h2,au]
   constructor
   ·rintro (⟨j,hj,e⟩|e)
    ·exact ⟨j,by omega,e⟩
    ·exact ⟨k,by omega,e.symm⟩
   ·rintro ⟨j,hj,e⟩
    rcases aU j k with h|h
    ·exact .inl ⟨j,h,e⟩
    ·exact .inr (by rw [<-e,show j=k by omega])
  ·rw [ae fL,List.append_nil]
   refine ⟨h1,fun x=> ?_⟩
   rw [h2]
   constructor
   ·rintro ⟨j,hj,e⟩;exact ⟨j,by omega,e⟩
   ·rintro ⟨j,hj,e⟩
    rcases aU j k with h|h
    ·exact ⟨j,h,e⟩
    ·have hjk:j=k:=by omega
     subst hjk
     unfold Lib.keeps at fL
     simp only [cC,ai,not_or] at fL
     have:d[j]! =d[j - 1]! :=by
      have h3:=fL.2
      simpa using h3
     exact ⟨j - 1,by omega,by rw [<-e,this]⟩
theorem iO (l:List Int):Ou (fO l)/\ ∀x,x∈fO l↔x∈l:=by
 have hp:=List.pairwise_mergeSort (le:=fun x y:Int=>decide (x<=y)) (fun a b c h1 h2=>by simp only [ai] at*;omega) (fun a b=>by simp only [cC,ai];omega) l
 have hm: ∀x,x∈l.mergeSort (fun x y=>decide (x<=y))↔x∈l:=fun x=>List.mem_mergeSort
 unfold fO Lib.compact
 generalize l.mergeSort (fun x y=>decide (x<=y))=s at hp hm
 have sF: ∀i,i<s.length->s.toArray[i]! =s.getD i 0:=fun i hi=>by
  rw [getElem!_pos s.toArray i (by simpa using hi)];simp [hi]
 have hs: ∀i j,i<j->j<s.toArray.size->s.toArray[i]! <=s.toArray[j]! :=fun i j L6 hj=>by
  have xx:j<s.length:=by simpa using hj
  rw [sF i (by omega),sF j xx]
  have:=List.pairwise_iff_getElem.1 hp i j (by omega) xx L6
  simp only [ai] at this
  simpa [xx,show i<s.length by omega] using this
 obtain ⟨h1,h2⟩:=yt s.toArray hs s.length (by simp)
 refine ⟨h1,fun x=> ?_⟩
 rw [h2,<-hm]
 constructor
 ·rintro ⟨j,hj,e⟩
  rw [sF j hj] at e
  rw [<-e]
  simp [hj]
 ·intro hx
  obtain ⟨j,hj,e⟩:=bX.1 hx
  exact ⟨j,hj,by rw [sF j hj];simpa [hj] using e⟩
theorem pV {l:List Int} (h:Ou l) {i j:Nat} (L6:i<j) (hj:j<l.length):l.getD i 0<l.getD j 0:=by
 have:=List.pairwise_iff_getElem.1 h i j (by omega) hj L6
 simpa [hj,show i<l.length by omega] using this
theorem FC {l:List Int} (h:Ou l) {i:Nat} (hi:i+1<l.length) {x:Int} (hx:x∈l):x<=l.getD i 0\/l.getD (i+1) 0<=x:=by
 obtain ⟨j,hj,e⟩:=bX.1 hx
 have e':l.getD j 0=x:=by simpa [hj] using e
 rcases cP j i with h1|h1|h1
 ·have:=pV h h1 (by omega);omega
 ·subst h1;omega
 ·rcases Nat.eq_or_lt_of_le (show i+1<=j by omega) with h2|h2
  ·subst h2;omega
  ·have:=pV h h2 hj;omega
def qs (x:Int):List Int->Nat
 |[]=>0
 |y::r=>if y<x then qs x r+1 else 0
def yB (x:Int) (l:List Int):List Int:=if qs x l=l.length\/l.getD (qs x l) 0≠x then l.take (qs x l)++(x::l.drop (qs x l)) else l
theorem y4 (x:Int): ∀l:List Int,qs x l<=l.length
 |[]=>af _
 |y::r=>by
  have:=y4 x r
  simp only [qs,aL]
  split<;>omega
theorem ED (x:Int): ∀(l:List Int) (j:Nat),j<qs x l->l.getD j 0<x
 |[],j,h=>by simp [qs] at h
 |y::r,j,h=>by
  simp only [qs] at h
  split at h
  ·cases j with
   |zero=>simpa using ‹y<x›
   |succ j=>simpa using ED x r j (by omega)
  ·omega
theorem EE (x:Int): ∀(l:List Int),qs x l<l.length->x<=l.getD (qs x l) 0
 |[],h=>by simp at h
 |y::r,h=>by
  simp only [qs] at h ⊢
  split
  ·rename_i hy
   rw [ah hy] at h
   have:=EE x r (by simpa using h)
   simpa using this
  ·simp;omega
theorem TB {x:Int} {l:List Int} {k:Nat} (h1: ∀j,j<k->l.getD j 0<x) (h2:k=l.length\/(k<l.length/\x<=l.getD k 0)):k=qs x l:=by
 have a1:=y4 x l
 rcases cP k (qs x l) with h|h|h
 ·have:=ED x l k h
  rcases h2 with h2|h2<;>omega
 ·exact h
 ·have dK:qs x l<l.length:=by rcases h2 with h2|h2<;>omega
  have:=EE x l dK
  have:=h1 _ h
  omega
theorem Qx {x:Int} {l:List Int} (h:Ou l):Ou (yB x l)/\ ∀y,y∈yB x l↔y=x\/y∈l:=by
 unfold yB
 have hle:=y4 x l
 have dK:=ED x l
 have sI:=EE x l
 generalize qs x l=p at*
 split
 ·rename_i hc
  have htd:l=l.take p++l.drop p:=(List.take_append_drop p l).symm
  have h2:=h
  unfold Ou at h2
  rw [htd,List.pairwise_append] at h2
  have hbig: ∀y∈l.drop p,x<y:=fun y hy=>by
   obtain ⟨j,hj,e⟩:=bX.1 hy
   rw [List.getElem_drop] at e
   have xx:p+j<l.length:=by simpa [Nat.add_comm] using (by have:=hj;rw [bq] at this;omega:p+j<l.length)
   have hp:p<l.length:=by omega
   have h3:=sI hp
   have h4:l.getD p 0≠x:=hc.resolve_left (by omega)
   have h5:l.getD p 0<=y:=by
    have ey:l.getD (p+j) 0=y:=by simpa [xx] using e
    rcases cf j with h0|h0
    ·subst h0;rw [<-ey];exact cO _
    ·have:=pV h (show p<p+j by omega) xx
     omega
   omega
  have YA: ∀y∈l.take p,y<x:=fun y hy=>by
   obtain ⟨j,hj,e⟩:=bX.1 hy
   rw [List.getElem_take] at e
   have hj1:j<p:=by have:=hj;rw [aQ] at this;omega
   have:=dK j hj1
   simpa [show j<l.length by omega,e] using this
  refine ⟨List.pairwise_append.2 ⟨h2.1,List.pairwise_cons.2 ⟨hbig,h2.2.1⟩,fun a ha b hb=> ?_⟩,fun y=> ?_⟩
  ·rcases aS.1 hb with rfl|hb
   ·exact YA a ha
   ·exact h2.2.2 a ha b hb
  ·rw [aT,aS]
   conv=>rhs;rw [htd,aT]
   constructor
   ·rintro (h|h|h)
    ·exact .inr (.inl h)
    ·exact .inl h
    ·exact .inr (.inr h)
   ·rintro (h|h|h)
    ·exact .inr (.inl h)
    ·exact .inl h
    ·exact .inr (.inr h)
 ·rename_i hc
  refine ⟨h,fun y=>⟨.inr,?_⟩⟩
  rintro (rfl|h3)
  ·have h4: ¬p=l.length/\l.getD p 0=y:=⟨fun e=>hc (.inl e),bQ fun e=>hc (.inr e)⟩
   rw [<-h4.2]
   have:p<l.length:=by omega
   simp [this]
  ·exact h3
theorem Qw (x:Int) (l:List Int):(yB x l).length<=l.length+1:=by
 unfold yB
 split
 ·have:=y4 x l
  simp only [aO,aQ,aL,bq];omega
 ·omega
def gh (A:Nat->Int):Nat->List Int
 |0=>[]
 |k+1=>yB (A k) (gh A k)
theorem Da (A:Nat->Int): ∀k,Ou (gh A k)/\ ∀x,x∈gh A k↔ ∃j,j<k/\A j=x
 |0=>⟨List.Pairwise.nil,fun x=>⟨fun h=>(by cases h),fun ⟨j,hj,_⟩=>(by omega)⟩⟩
 |k+1=>by
  obtain ⟨h1,h2⟩:=Da A k
  obtain ⟨h3,h4⟩:=Qx (x:=A k) h1
  refine ⟨h3,fun x=> ?_⟩
  show x∈yB (A k) (gh A k)↔_
  rw [h4,h2]
  constructor
  ·rintro (rfl|⟨j,hj,e⟩)
   ·exact ⟨k,by omega,rfl⟩
   ·exact ⟨j,by omega,e⟩
  ·rintro ⟨j,hj,e⟩
   rcases aU j k with h|h
   ·exact .inr ⟨j,h,e⟩
   ·exact .inl (by rw [<-e,show j=k by omega])
theorem C9 (A:Nat->Int): ∀k,(gh A k).length<=k
 |0=>af _
 |k+1=>by
  have:=Qw (A k) (gh A k)
  have:=C9 A k
  show (yB (A k) (gh A k)).length<=k+1
  omega
theorem GG (A:Nat->Int) (n:Nat):gh A n=fO ((List.range n).map A):=by
 obtain ⟨h1,h2⟩:=Da A n
 obtain ⟨h3,h4⟩:=iO ((List.range n).map A)
 refine R3 h1 h3 fun x=> ?_
 rw [h2,h4,br]
 constructor
 ·rintro ⟨j,hj,e⟩;exact ⟨j,a8.2 hj,e⟩
 ·rintro ⟨j,hj,e⟩;exact ⟨j,a8.1 hj,e⟩
def ff (N:Nat->Nat) (X:Nat->Nat->Int):Nat->List Int
 |0=>[]
 |i+1=>ff N X i++(List.range (N i)).map (X i)
theorem o6 {N:Nat->Nat} {X:Nat->Nat->Int} {i k:Nat}: ∀{m:Nat},i<m->k<N i->X i k∈ff N X m
 |m+1,h1,h2=>by
  rw [ff,aT]
  rcases aU i m with h|h
  ·exact .inl (o6 h h2)
  ·have:i=m:=by omega
   subst this
   exact .inr (br.2 ⟨k,a8.2 h2,rfl⟩)
theorem Bo (N:Nat->Nat) (X Y:Nat->Nat->Int): ∀m,(ff N X m).length=(ff N Y m).length
 |0=>rfl
 |m+1=>by simp only [ff,aO,b6,Bo N X Y m]
theorem Ms {N:Nat->Nat} {X:Nat->Nat->Int} {b:Int}: ∀{m:Nat},(∀i,i<m-> ∀k,k<N i-> -b<=X i k/\X i k<=b)-> ∀x∈ff N X m,-b<=x/\x<=b
 |0,_,x,hx=>by cases hx
 |m+1,h,x,hx=>by
  rw [ff,aT] at hx
  rcases hx with hx|hx
  ·exact Ms (fun i hi=>h i (by omega)) x hx
  ·obtain ⟨k,hk,rfl⟩:=br.1 hx
   exact h m (by omega) k (a8.1 hk)
theorem AK {l:List Int} {i:Nat} (h:i<l.length):l.getD i 0∈l:=by simp [h]
end Go.Abs
end
