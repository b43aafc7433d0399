/- Contracts and what they stand on. -/
import Derived.Test.YtoinjphpfpklmaaGreatDoorK5
import Derived.Shelf.Sort.Plain
import Derived.Shelf.Slices.CompactI
import Derived.Ground.Names2Prog
import Derived.Ground.NamesProg
import Derived.WalkKit
import Derived.Shelf.Slices.In.SortNone
import Derived.Lib.RowBridge
set_option linter.unusedVariables false
set_option linter.unusedSimpArgs false
section
set_option maxRecDepth 100000
namespace Go.Abs
open Go
def Om (n:Nat) (X Y:Nat->Int) (p q:Int):Nat->Int
 |0=>0
 |k+1=>if Pb n X Y p q k=true then Om n X Y p q k+1 else Om n X Y p q k
theorem Bz (n:Nat) (X Y:Nat->Int) (p q:Int): ∀k,0<=Om n X Y p q k/\Om n X Y p q k<=k/\(Od n X Y p q k=true↔Om n X Y p q k%2=1)
 |0=>by simp [Om,Od]
 |k+1=>by
  obtain ⟨h1,h2,h3⟩:=Bz n X Y p q k
  simp only [Om,Od]
  split
  ·refine ⟨by omega,by omega,?_⟩
   cases hc:Od n X Y p q k with
   |true=>have:=h3.1 hc;simp;omega
   |false=>
    have: ¬Om n X Y p q k%2=1:=fun h=>by rw [h3.2 h] at hc;cases hc
    simp;omega
  ·exact ⟨h1,by omega,h3⟩
def yD (n:Nat) (X Y:Nat->Int) (j:Nat):Bool:=dO n X Y j&&(!(dO n X Y ((j:Int) - 1))||decide (dD n X Y j%2≠dD n X Y ((j:Int) - 1)%2))
theorem U2 {n:Nat} {X Y:Nat->Int} (hn:0<n):dO n X Y (-1)=dO n X Y (((n - 1:Nat)):Int):=by
 have e1:ix n (-1)=ix n (((n - 1:Nat)):Int):=by
  unfold ix
  rw [show (-1+(n:Int))=(((n - 1:Nat)):Int) by omega,bM]
 have e2:ix n (-1+1)=ix n ((((n - 1:Nat)):Int)+1):=by
  unfold ix
  rw [show (((n - 1:Nat)):Int)+1=(n:Int) by omega,show (-1+1+(n:Int))=(n:Int) by omega,bM]
 unfold dO
 rw [e1,e2]
theorem PX (d e:Int):(d - e).tmod 2=0↔d%2=e%2:=by
 rw [<-Int.dvd_iff_tmod_eq_zero,Int.dvd_iff_emod_eq_zero];omega
theorem D7 {n:Nat} {X Y:Nat->Int} (hn:0<n) (h: ∀j,j<n->yD n X Y j=true): ∀j,j<n->iJ n X Y j=true:=by
 intro j hj
 have h1:=h j hj
 have hp:dO n X Y ((j:Int) - 1)=true:=by
  cases j with
  |zero=>
   have h2:=h (n - 1) (by omega)
   simp only [yD,an] at h2
   rw [show ((0:Nat):Int) - 1= -1 from rfl,U2 hn];exact h2.1
  |succ k=>
   have h2:=h k (by omega)
   simp only [yD,an] at h2
   rw [show ((k+1:Nat):Int) - 1=(k:Int) by omega];exact h2.1
 simp only [yD,hp,an,Bool.not_true,Bool.false_or] at h1
 simp only [iJ,hp,h1.1,h1.2,Bool.and_self]
noncomputable def F4 (n:Nat) (X Y:Nat->Int):eA:={ dz:=[(5,[(2,DJ)])],loops:=[(0,{ ι:=Nat,keep:=[0],boxes:=[],ts:=fun _ i=>[(3,dI (uM n X Y i)),(4,dI (i:Int))],inv:=fun _ i=>i<=n,mu:=fun _ i=>n - i,rd:=fun _ σ=>(ez (σ.get 4)).toNat })],dK:=[] }
namespace wl
noncomputable section
structure Z where
 n:Nat
 X:Nat->Int
 Y:Nat->Int
variable (z:Z) (i0:Nat) (a:Int)
abbrev x0:=(i0:Int)+1
abbrev x1:=Value.int IntKind.i64 a
abbrev x2:=Int.toNat (x0 i0)
abbrev x3:=(z.X (Int.toNat (i0:Int)))*(z.Y (ix z.n (x0 i0)))
abbrev x4:=uM z.n z.X z.Y i0+x3 z i0
abbrev x5:=(z.Y (Int.toNat (i0:Int)))*(z.X (ix z.n (x0 i0)))
abbrev xt:VT:=VT.loop Nat (fun i0=>i0<=z.n) (Int.toNat 0) [rf (0:Int),0=(↑(Int.toNat 0):Int),rf z.n,∀i0<z.n,rf (z.X i0),∀i0<z.n,rf (z.Y i0)] (fun i0=>VT.ite (decide ((i0:Int)<(z.n:Int))) (VT.dk [dv prog 126 [DV.dt z.n [fun i0=>DV.val (x1 (z.X i0)),fun i0=>DV.val (x1 (z.Y i0))],DV.val (x1 (i0:Int))] (DV.val (Value.agg (Array.mk [x1 (z.X (ix z.n (x0 i0))),x1 (z.Y (ix z.n (x0 i0)))])))] (VT.dk [0<=(i0:Int)/\(i0:Int)<(z.n:Int),dh (x3 z i0),dh (x4 z i0),0<=(i0:Int)/\(i0:Int)<(z.n:Int),dh (x5 z i0),dh (x4 z i0 - x5 z i0)] (VT.dk [dh (x0 i0)] (VT.done [x4 z i0 - x5 z i0=uM z.n z.X z.Y (x2 i0),x0 i0=(↑(x2 i0):Int),rf z.n,∀i0<z.n,rf (z.X i0),∀i0<z.n,rf (z.Y i0),x2 i0<=z.n,z.n - x2 i0<z.n - i0])))) (VT.done [uM z.n z.X z.Y i0=uM z.n z.X z.Y z.n]))
end
end wl
open wl in
theorem PR (n:Nat) (X Y:Nat->Int) (hn:0<n) (jO:n<=800) (hX:kd n X) (hY:kd n Y):dv prog 128 [my n X Y] (dI (uM n X Y n)):=by
 refine dm dJ (F4 n X Y) (V:=xt ⟨n,X,Y⟩) (by kernel_rfl) ?_
 simp only [xt,x0,x1,x2,x3,x4,x5,Rf,VT.holds,dC,Sq]
 refine ⟨rfl,aq n,fun i hi=>⟨fun h=> ?_,fun h=> ?_⟩⟩
 ·have b1:=sq hn hX hY i (i+1)
  have b2:=sq hn hX hY (i+1) i
  have b3:=JP hn hX hY i
  have hc:=Int.mul_comm (Y (ix n i)) (X (ix n (i+1)))
  have e:=rN (n:=n) (i:=i) (by omega)
  have e2:uM n X Y (i+1)=uM n X Y i+(X (ix n i)*Y (ix n (i+1)) - X (ix n (i+1))*Y (ix n i)):=rfl
  rw [e] at b1 b2 hc e2
  simp only [dh]
  refine ⟨xo n X Y i hn (by omega) (by omega) (by omega),by omega,by omega,by omega,by omega,by omega⟩
 ·have:i=n:=by omega
  rw [this]
noncomputable def Ge (n:Nat) (X Y:Nat->Int) (p q:Int):eA:={ dz:=[(5,[(2,DJ)]),(6,[(9,G4),(20,G4)]),(10,[(1,.pos)])],loops:=[(0,{ ι:=Nat,keep:=[0,3],boxes:=[3],ts:=fun _ i=>[(5,dI (Om n X Y p q i)),(6,dI (i:Int))],inv:=fun _ i=>i<=n/\ ∀j,j<i->OV n X Y p q j=false,mu:=fun _ i=>n - i,rd:=fun _ σ=>(ez (σ.get 6)).toNat })],dK:=[] }
namespace wm
noncomputable section
structure Z where
 n:Nat
 X:Nat->Int
 Y:Nat->Int
 p:Int
 q:Int
variable (z:Z) (i0 i1:Nat) (p:Prop) (P:List Prop) (a b c:Int) (k:Nat) (g h:Bool)
abbrev x0:=(i0:Int)+1
abbrev x1:=z.X (Int.toNat (i0:Int))
abbrev x2:=z.X (ix z.n (x0 i0))
abbrev x3:=if g=true then h else false
abbrev x4:=x1 z i0==x2 z i0
abbrev x5:=x3 (x4 z i0) (decide ((x1 z i0)>z.p))
abbrev x6:=z.Y (ix z.n (x0 i0))
abbrev x7:=z.Y (Int.toNat (i0:Int))
abbrev x8:List Prop:=ri (g=true)::ri (h=true)::P
abbrev x9:=decide ((min (x1 z i0) (x2 z i0)<=z.p)/\(z.p<=max (x1 z i0) (x2 z i0)))
abbrev dM:=x3 (x5 z i0) (decide (z.q>=(iD (x7 z i0) [x6 z i0])))
abbrev dQ:=Int.toNat (x0 i0)
abbrev dS:=DV.val (Value.int IntKind.i64 a)
abbrev dT:=0<=(i0:Int)/\(i0:Int)<(z.n:Int)
abbrev dU:=Om z.n z.X z.Y z.p z.q i0
abbrev dY:=x8 P (x5 z i0) (x5 z i0)
abbrev eb:=x8 P (dM z i0) (dM z i0)
abbrev eE:List Prop:=ri (g=true)::(h=true->dT z i0)::P
abbrev eH:=x8 P (x9 z i0) (x9 z i0)
abbrev eT:=x8 P (x4 z i0) (x4 z i0)
abbrev eG:List Prop:=p::(a=(k:Int))::rf z.n::(∀i0<z.n,rf (z.X i0))::(∀i0<z.n,rf (z.Y i0))::rf z.p::P
abbrev eZ:=i1<k->OV z.n z.X z.Y z.p z.q i1=false
abbrev fi:=VT.done [a=Tw z.n z.X z.Y z.p z.q]
abbrev fR:=dv prog 178 [dS a,dS b,dS c] (DV.val (Value.bool g))
abbrev fU:=decide ((min (x7 z i0) (x6 z i0)<=z.q)/\(z.q<=max (x7 z i0) (x6 z i0)))
abbrev fS:=VT.dk [dh (x0 i0)] (VT.done (eG z (a=Om z.n z.X z.Y z.p z.q (dQ i0)) [rf z.q,dQ i0<=z.n/\(∀(i1:Nat),eZ z i1 (dQ i0)),z.n - dQ i0<z.n - i0] (x0 i0) (dQ i0)))
abbrev xt:VT:=VT.loop Nat (fun i0=>i0<=z.n/\(∀(i1:Nat),eZ z i1 i0)) (Int.toNat 0) (eG z (rf (0:Int)) [rf z.q] (0:Int) (Int.toNat 0)) (fun i0=>VT.ite (decide ((i0:Int)<(z.n:Int))) (VT.dk [dv prog 126 [DV.dt z.n [fun i0=>dS (z.X i0),fun i0=>dS (z.Y i0)],dS (i0:Int)] (DV.val (Value.agg (Array.mk [Value.int IntKind.i64 (x2 z i0),Value.int IntKind.i64 (x6 z i0)])))] (VT.dk (dT z i0::fR z.p (x1 z i0) (x2 z i0) (x9 z i0)::eH z i0 (eE z i0 (eH z i0 (eH z i0 (eH z i0 [x9 z i0=true->fR z.q (x7 z i0) (x6 z i0) (fU z i0),ri (x9 z i0=true)]))) (x9 z i0) (x9 z i0))) (VT.ite (x3 (x9 z i0) (fU z i0)) (fi z (0:Int)) (VT.dk (dT z i0::ri (x4 z i0=true)::eE z i0 (eT z i0 (eT z i0 (eT z i0 (dY z i0 (eE z i0 (dY z i0 (dY z i0 (dY z i0 (dY z i0 (eb z i0 (eE z i0 (eb z i0 (eb z i0 (eb z i0 (eb z i0 [])))) (dM z i0) (dM z i0))))))) (x5 z i0) (x5 z i0)))))) (x4 z i0) (x4 z i0)) (VT.ite (x3 (dM z i0) (decide (z.q<(hP (x7 z i0) [x6 z i0])))) (VT.dk [dh (dU z i0+1)] (fS z i0 (dU z i0+1))) (fS z i0 (dU z i0))))))) (VT.dk [0<=dU z i0/\(0:Int)<(2:Int)] (VT.ite (dU z i0%2==1) (fi z (1:Int)) (fi z (-(1:Int))))))
end
end wm
open wm in
theorem PK (n:Nat) (X Y:Nat->Int) (p q:Int) (hn:0<n) (jO:n<=800):dv prog 158 [my n X Y,dP p q] (dI (Tw n X Y p q)):=by
 refine dm dJ (Ge n X Y p q) (V:=xt ⟨n,X,Y,p,q⟩) (by kernel_rfl) ?_
 simp only [xt,x0,x1,x2,x3,x4,x5,x6,x7,x8,x9,dM,dQ,dS,dT,dU,dY,eb,eE,eH,eT,eG,eZ,fi,fR,fU,fS,Rf,VT.holds,dC,Sq]
 refine ⟨rfl,⟨aq n,fun j hj=>(by omega)⟩,fun i ⟨nU,hb⟩=>⟨fun dR=> ?_,fun iG=> ?_⟩⟩
 ·have e:=rN (n:=n) (i:=i) (by omega)
  have e1:lo n X i=min (X i) (X (ix n (i+1))):=by unfold lo;rw [e]
  have e2:hi n X i=max (X i) (X (ix n (i+1))):=by unfold hi;rw [e]
  have e3:lo n Y i=min (Y i) (Y (ix n (i+1))):=by unfold lo;rw [e]
  have e4:hi n Y i=max (Y i) (Y (ix n (i+1))):=by unfold hi;rw [e]
  have m1:iD (Y i) [Y (ix n (i+1))]=lo n Y i:=by simp only [iD];split<;>omega
  have m2:hP (Y i) [Y (ix n (i+1))]=hi n Y i:=by simp only [hP];split<;>omega
  have f1:(X i=X (ix n (i+1))/\X i>p)↔(lo n X i=hi n X i/\lo n X i>p):=by omega
  have b1:=El p (X i) (X (ix n (i+1)))
  have b2:=El q (Y i) (Y (ix n (i+1)))
  have hr:(0:Int)<=i/\(i:Int)<n:=by omega
  rw [m1,m2]
  refine ⟨xo n X Y i hn (by omega) (by omega) (by omega),⟨hr,b1,fun _=>hr,fun _=>b2⟩,fun NR=> ?_,fun UA=>⟨⟨hr,fun _=>hr,fun _=>hr,fun _=>hr⟩,?_⟩⟩
  ·rw [Tw,ag (fun fp=> ?_)]
   have:=fp i (by omega)
   unfold OV at this
   rw [aj] at this
   exact this (by omega)
  ·have hbn: ∀j,j<i+1->OV n X Y p q j=false:=fun j hj=>by
    by_cases e:j=i
    ·subst e
     unfold OV
     rw [aj]
     omega
    ·exact hb j (by omega)
   obtain ⟨c1,c2,_⟩:=Bz n X Y p q i
   refine ⟨fun hc=>⟨by unfold dh;omega,by unfold dh;omega,?_,rfl,⟨by omega,hbn⟩,by omega⟩,fun hc=>⟨by unfold dh;omega,?_,rfl,⟨by omega,hbn⟩,by omega⟩⟩
   ·rw [Om,ag]
    unfold Pb
    rw [ah];omega
   ·rw [Om,ab]
    unfold Pb
    rw [ah];omega
 ·have fp: ∀j,j<n->OV n X Y p q j=false:=fun j hj=>hb j (by omega)
  have:i=n:=by omega
  subst this
  obtain ⟨c1,c2,c3⟩:=Bz i X Y p q i
  refine ⟨by omega,fun h=> ?_,fun h=> ?_⟩
  ·rw [Tw,ab (fun hx=>hx fp),ag (c3.2 h)]
  ·rw [Tw,ab (fun hx=>hx fp),ab (fun hx=>h (c3.1 hx))]
noncomputable def Gf (n:Nat) (X Y:Nat->Int):eA:={ dz:=[(2,[(1,vf)]),(7,[(5,yq),(13,yq)]),(12,[(6,DJ),(7,Qj),(14,.pos),(21,Qj)]),(22,[(6,DJ),(13,DJ),(14,rTouR)]),(24,[(1,rTw)])],loops:=[(0,{ ι:=Nat,keep:=[0,3],boxes:=[],ts:=fun _ i=>[(4,dI (i:Int))],inv:=fun _ i=>i<=n/\ ∀j,j<i->pF X Y j=false,mu:=fun _ i=>n - i,rd:=fun _ σ=>(ez (σ.get 4)).toNat }),(2,{ ι:=Nat,keep:=[0,3],boxes:=[],ts:=fun _ i=>[(5,dI (i:Int))],inv:=fun _ i=>i<=n/\ ∀j,j<i->yD n X Y j=true,mu:=fun _ i=>n - i,rd:=fun _ σ=>(ez (σ.get 5)).toNat }),(4,{ ι:=Nat,keep:=[0,3],boxes:=[],ts:=fun _ i=>[(8,dI (i:Int))],inv:=fun _ i=>i<=n/\ ∀j,j<i-> ∀k,k<n->j+2<=k->kT n X Y j k=false,mu:=fun _ i=>n - i,rd:=fun _ σ=>(ez (σ.get 8)).toNat }),(6,{ ι:=Nat,keep:=[0,3,8],boxes:=[],ts:=fun _ k=>[(9,dI (k:Int))],inv:=fun σ k=>(ez (σ.get 8)).toNat+1<=k/\ ∀j,j<k->(ez (σ.get 8)).toNat+2<=j->j<n->kT n X Y (ez (σ.get 8)).toNat j=false,mu:=fun _ k=>n+2 - k,rd:=fun _ σ=>(ez (σ.get 9)).toNat })],dK:=[] }
namespace wn
noncomputable section
structure Z where
 n:Nat
 X:Nat->Int
 Y:Nat->Int
variable (z:Z) (i0 i1 i2:Nat) (p:Prop) (P:List Prop) (a b:Int) (k:Nat) (g h:Bool) (E:List DV) (U V:VT) (yS:Nat->Prop) (jM:Nat->VT)
abbrev x0:Int:=(i0:Int)
abbrev x1:Int:=(z.n:Int)
abbrev x2:=z.X (Int.toNat (x0 i0))
abbrev x3:=z.Y (Int.toNat (x0 i0))
abbrev x4:=(x0 i0+x1 z - 1)%x1 z
abbrev x5:=z.X (ix z.n (x0 i0+1))
abbrev x6:=z.Y (ix z.n (x0 i0+1))
abbrev x7:=(i1:Int)+1
abbrev x8:=DV.val (Value.int IntKind.i64 a)
abbrev x9:=s8 (x2 z i0) (x3 z i0) (x5 z i0) (x6 z i0)
abbrev dM:=Int.toNat (x0 i0+1)
abbrev dQ:=decide ((x9 z i0)<(0:Int))
abbrev dS:=(i1:Int)==x0 i0+1
abbrev dT:=s8 (z.X (Int.toNat (x4 z i0))) (z.Y (Int.toNat (x4 z i0))) (x2 z i0) (x3 z i0)
abbrev dU:= !(gN (x2 z i0))
abbrev dY:=DV.val (Value.agg (Array.mk [Value.int IntKind.i64 a,Value.int IntKind.i64 b]))
abbrev eb:=decide ((dT z i0)>=(0:Int))
abbrev eE:=Int.toNat (x7 i1)
abbrev eH:=((!(dQ z i0))&&(eb z i0))=true
abbrev eT:List Prop:=p::rf z.n::(∀i0<z.n,rf (z.X i0))::(∀i0<z.n,rf (z.Y i0))::P
abbrev eG:=VT.ite g (VT.done [a=gI z.n z.X z.Y]) U
abbrev eZ:=((!(dS i0 i1))&&(x0 i0==0))=true
abbrev fi:=0<=x0 i0/\x0 i0<x1 z
abbrev fR:=dv prog k E (DV.val (Value.bool g))
abbrev fU:=dY (x5 z i0) (x6 z i0)
abbrev fS:=x0 i0+1=(↑(dM i0):Int)
abbrev fz:=DV.dt z.n [fun i0=>x8 (z.X i0),fun i0=>x8 (z.Y i0)]
abbrev gi:=if g=true then true else h
abbrev iA:=VT.ite (decide ((x0 i0)<(x1 z))) U V
abbrev jw:=g=false->(!h)=true
abbrev iw:=dY (x2 z i0) (x3 z i0)
abbrev jk:=VT.loop Nat yS (Int.toNat 0) [0=(↑(Int.toNat 0):Int),rf z.n,∀i0<z.n,rf (z.X i0),∀i0<z.n,rf (z.Y i0),rf (x1 z)] jM
abbrev jj:=VT.dk [dh (x0 i0+1)] (VT.done (eT z (fS i0) [rf (x1 z),dM i0<=z.n/\p,z.n - dM i0<z.n - i0]))
abbrev gQ:=i2<k->Int.toNat (x0 i0)+2<=i2->i2<z.n->kT z.n z.X z.Y (Int.toNat (x0 i0)) i2=false
abbrev iz:=dY (z.X (ix z.n (x7 i1))) (z.Y (ix z.n (x7 i1)))
abbrev mc:List Prop:=ri ((!(dU z i0))=true)::((!(dU z i0))=true->p)::ri ((!(dU z i0))=true)::P
abbrev kB:=VT.dk (fi z i0::dv prog 126 [fz z,x8 (x0 i0)] (fU z i0)::P) U
abbrev j8:=decide ((4<=x1 z)/\(x1 z<=40))
abbrev oO:= ∀i0<z.n,i1+2<=i0->kT z.n z.X z.Y i1 i0=false
abbrev mq:=VT.dk [dh (x7 i1)] (VT.done (eT z (x7 i1=(↑(eE i1):Int)) [rf (x1 z),rf (x0 i0),Int.toNat (x0 i0)+1<=eE i1/\(∀(i2:Nat),gQ z i0 i2 (eE i1)),z.n+2 - eE i1<z.n+2 - i1]))
abbrev nH:=JQ (x2 z i0) (x3 z i0) (x5 z i0) (x6 z i0) (z.X (Int.toNat (i1:Int))) (z.Y (Int.toNat (i1:Int))) (z.X (ix z.n (x7 i1))) (z.Y (ix z.n (x7 i1)))
abbrev xt:VT:=VT.dk [fR (82:Nat) (j8 z) [x8 (x1 z),x8 (4:Int),x8 (40:Int)]] (eG z (11:Int) (!(j8 z)) (jk z (fun i0=>i0<=z.n/\(∀i1<i0,pF z.X z.Y i1=false)) (fun i0=>iA z i0 (VT.dk (fi z i0::fR (124:Nat) (gN (x2 z i0)) [x8 (x2 z i0)]::ri ((!(dU z i0))=true)::mc z i0 (fi z i0) (ri ((!(dU z i0))=true)::mc z i0 (fR (124:Nat) (gN (x3 z i0)) [x8 (x3 z i0)]) [jw (dU z i0) (dU z i0)])) (eG z (2:Int) (gi (dU z i0) (!(gN (x3 z i0)))) (jj z i0 (∀i1<dM i0,pF z.X z.Y i1=false)))) (jk z (fun i0=>i0<=z.n/\(∀i1<i0,yD z.n z.X z.Y i1=true)) (fun i0=>iA z i0 (kB z i0 [dv prog 125 [iw z i0,fU z i0] (x8 (x9 z i0)),dh (x0 i0+x1 z),dh (x0 i0+x1 z - 1),0<=x0 i0+x1 z - 1/\0<x1 z,0<=x4 z i0/\x4 z i0<x1 z,fi z i0,dv prog 125 [dY (z.X (Int.toNat (x4 z i0))) (z.Y (Int.toNat (x4 z i0))),iw z i0] (x8 (dT z i0))] (VT.dk [ri ((!(dQ z i0))=true),ri ((!(dQ z i0))=true),ri (eH z i0),ri (eH z i0),eH z i0->dh (x9 z i0 - dT z i0),ri (eH z i0),eH z i0->((2:Int)≠(0:Int)),ri (eH z i0),ri ((!(dQ z i0))=true),(!(dQ z i0))=true->eb z i0=true->eH z i0,jw (dQ z i0) (dQ z i0)] (eG z (3:Int) (gi (dQ z i0) (if (eb z i0)=true then (Int.tmod (x9 z i0 - dT z i0) 2==0) else false)) (jj z i0 (∀i1<dM i0,yD z.n z.X z.Y i1=true))))) (jk z (fun i0=>i0<=z.n/\(∀i1<i0,oO z i1)) (fun i0=>iA z i0 (VT.dk [dh (x0 i0+1)] (VT.loop Nat (fun i1=>Int.toNat (x0 i0)+1<=i1/\(∀(i2:Nat),gQ z i0 i2 i1)) (dM i0) (eT z (fS i0) [rf (x1 z),rf (x0 i0)]) (fun i1=>VT.ite (decide ((i1:Int)<(x1 z))) (VT.dk [dh (x0 i0+1),ri ((!(dS i0 i1))=true),ri ((!(dS i0 i1))=true),ri (eZ i0 i1),eZ i0 i1->dh (x1 z - 1),ri (eZ i0 i1),ri (eZ i0 i1),ri ((!(dS i0 i1))=true),(!(dS i0 i1))=true->(x0 i0==0)=true->eZ i0 i1,jw (dS i0 i1) (dS i0 i1)] (VT.ite (gi (dS i0 i1) (if (x0 i0==0)=true then ((i1:Int)==x1 z - 1) else false)) (mq z i0 i1) (kB z i0 [0<=(i1:Int)/\(i1:Int)<x1 z,dv prog 126 [fz z,x8 (i1:Int)] (iz z i1),fR (127:Nat) (nH z i0 i1) [iw z i0,fU z i0,dY (z.X (Int.toNat (i1:Int))) (z.Y (Int.toNat (i1:Int))),iz z i1]] (eG z (12:Int) (nH z i0 i1) (mq z i0 i1))))) (jj z i0 (∀i1<dM i0,oO z i1))))) (VT.dk [dv prog 128 [fz z] (x8 (uM z.n z.X z.Y z.n))] (eG z (10:Int) (decide ((uM z.n z.X z.Y z.n)<(0:Int))) (VT.done [0=gI z.n z.X z.Y]))))))))))
end
end wn
open wn in
theorem Ib (n:Nat) (X Y:Nat->Int) (jO:n<=1000000):dv prog 83 [my n X Y] (dI (gI n X Y)):=by
 refine dm dJ (Gf n X Y) (V:=xt ⟨n,X,Y⟩) (by kernel_rfl) ?_
 simp only [xt,x0,x1,x2,x3,x4,x5,x6,x7,x8,x9,dM,dQ,dS,dT,dU,dY,eb,eE,eH,eT,eG,eZ,fi,fR,fU,fS,fz,gi,iA,jw,iw,jk,jj,gQ,iz,mc,kB,j8,oO,mq,nH,Rf,VT.holds,dC,Sq]
 refine ⟨iB _ _ _,fun h=> ?_,fun h=>⟨rfl,⟨aq n,fun j hj=>(by omega)⟩,fun i ⟨nU,hb⟩=>⟨fun dR=> ?_,fun iG=>⟨rfl,⟨aq n,fun j hj=>(by omega)⟩,fun i1 ⟨hi1,hf⟩=>⟨fun hlt1=> ?_,fun hge1=>⟨rfl,⟨aq n,fun j hj=>(by omega)⟩,fun i2 ⟨Wm,hc⟩=>⟨fun xC=>⟨by unfold dh;omega,rfl,⟨ae _,fun j h1 h2=>(by omega)⟩,fun k ⟨hk,hck⟩=>⟨fun kr=> ?_,fun kr=> ?_⟩⟩,fun NX=> ?_⟩⟩⟩⟩⟩⟩⟩
 ·rw [gI,ag (by omega)]
 ·have hr:(0:Int)<=i/\(i:Int)<n:=by omega
  have b1:=Cn (X i)
  have b2:=Cn (Y i)
  refine ⟨⟨hr,b1,fun _=>hr,fun _=>b2⟩,fun s5=> ?_,fun ke=>⟨by unfold dh;omega,rfl,⟨by omega,fun j hj=> ?_⟩,by omega⟩⟩
  ·rw [gI,ab (by omega),ag]
   unfold jK
   rw [aj]
   intro fp
   have:=fp i (by omega)
   rcases s5 with hx|hx<;>simp [pF,hx] at this
  ·by_cases e:j=i
   ·subst e
    simp [pF,ke.2,ke.1]
   ·exact hb j (by omega)
 ·have hr:(0:Int)<=i1/\(i1:Int)<n:=by omega
  have e0:=rN (n:=n) (i:=i1) (by omega)
  have e1:ix n ((i1:Int) - 1+1)=i1:=by rw [show (i1:Int) - 1+1=(i1:Int) by omega,e0]
  have m1:=br ((i1:Int)+n - 1) (show (0:Int)<n by omega)
  have m2:=bm ((i1:Int)+n - 1) (show (n:Int)≠0 by omega)
  have d1:=KJ (X i1) (Y i1) (X (ix n ((i1:Int)+1))) (Y (ix n ((i1:Int)+1)))
  have d2:=KJ (X (ix n ((i1:Int) - 1))) (Y (ix n ((i1:Int) - 1))) (X i1) (Y i1)
  rw [Mj]
  have g1:s8 (X i1) (Y i1) (X (ix n ((i1:Int)+1))) (Y (ix n ((i1:Int)+1)))=if dO n X Y i1=true then dD n X Y i1 else -1:=by
   unfold s8 dO dD;rw [e0]
  have g2:s8 (X (ix n ((i1:Int) - 1))) (Y (ix n ((i1:Int) - 1))) (X i1) (Y i1)=if dO n X Y ((i1:Int) - 1)=true then dD n X Y ((i1:Int) - 1) else -1:=by
   unfold s8 dO dD;rw [e1]
  have r1:=eP n X Y i1
  have r2:=eP n X Y ((i1:Int) - 1)
  generalize hd:s8 (X i1) (Y i1) (X (ix n ((i1:Int)+1))) (Y (ix n ((i1:Int)+1)))=d at*
  generalize he:s8 (X (ix n ((i1:Int) - 1))) (Y (ix n ((i1:Int) - 1))) (X i1) (Y i1)=e at*
  have par:=PX d e
  have b1: -1<=d/\d<=3:=by rw [g1];split<;>omega
  have b2: -1<=e/\e<=3:=by rw [g2];split<;>omega
  refine ⟨⟨hr,xo n X Y i1 (by omega) (by omega) (by omega) (by omega),d1,by unfold dh;omega,by unfold dh;omega,⟨by omega,by omega⟩,⟨m2,m1⟩,hr,d2⟩,⟨fun _=>by unfold dh;omega,fun _=>by omega,fun h1 h2=>⟨h1,h2⟩⟩,fun s5=> ?_,fun ke=>⟨by unfold dh;omega,rfl,⟨by omega,fun j hj=> ?_⟩,by omega⟩⟩
  ·have hnf:iJ n X Y i1=false:=by
    unfold iJ
    cases ho1:dO n X Y i1
    ·simp
    ·cases ho2:dO n X Y ((i1:Int) - 1)
     ·simp
     ·rw [ho1] at g1
      rw [ho2] at g2
      simp only [ba] at g1 g2
      simp
      omega
   have ha:jK n X Y=true:=by
    unfold jK
    rw [ah]
    exact fun j hj=>hb j (by omega)
   rw [gI,ab (by omega),ab (by rw [ha];simp),ag (fun fp=>by rw [fp i1 (by omega)] at hnf;cases hnf)]
  ·by_cases ej:j=i1
   ·subst ej
    unfold yD
    cases ho1:dO n X Y j
    ·rw [ho1] at g1;simp at g1;omega
    ·cases ho2:dO n X Y ((j:Int) - 1)
     ·simp
     ·rw [ho1] at g1
      rw [ho2] at g2
      simp only [ba] at g1 g2
      simp
      have:=ke.2 (by omega)
      omega
   ·exact hf j (by omega)
 ·have hr1:(0:Int)<=i2/\(i2:Int)<n:=by omega
  have hr2:(0:Int)<=k/\(k:Int)<n:=by omega
  have e1:=rN (n:=n) (i:=i2) (by omega)
  have e2:=rN (n:=n) (i:=k) (by omega)
  have t:=PS (X i2) (Y i2) (X (ix n ((i2:Int)+1))) (Y (ix n ((i2:Int)+1))) (X k) (Y k) (X (ix n ((k:Int)+1))) (Y (ix n ((k:Int)+1)))
  have te:JQ (X i2) (Y i2) (X (ix n ((i2:Int)+1))) (Y (ix n ((i2:Int)+1))) (X k) (Y k) (X (ix n ((k:Int)+1))) (Y (ix n ((k:Int)+1)))=Ex n X Y i2 k:=by
   unfold JQ Ex lo hi;rw [e1,e2]
  rw [te] at t ⊢
  have cl:kT n X Y i2 k=(decide (((k:Int)+1)%(n:Int)≠(i2:Int))&&Ex n X Y i2 k):=rfl
  have cm:((k:Int)+1)%(n:Int)=(i2:Int)↔(i2=0/\k=n - 1):=by
   by_cases ek:k=n - 1
   ·rw [show (k:Int)+1=n by omega,Int.emod_self];omega
   ·rw [Int.emod_eq_of_lt (by omega) (by omega)];omega
  refine ⟨⟨by unfold dh;omega,fun _=>by unfold dh;omega,fun h1 h2=>⟨h1,h2⟩⟩,fun hs=>⟨by unfold dh;omega,rfl,⟨by omega,fun j h1 h2 h3=> ?_⟩,by omega⟩,fun hs=>⟨⟨hr1,xo n X Y i2 (by omega) (by omega) (by omega) (by omega),hr2,xo n X Y k (by omega) (by omega) (by omega) (by omega),t⟩,fun ht=> ?_,fun ht=>⟨by unfold dh;omega,rfl,⟨by omega,fun j h1 h2 h3=> ?_⟩,by omega⟩⟩⟩
  ·by_cases ej:j=k
   ·subst ej
    have hx:=cm.2 (show i2=0/\j=n - 1 by omega)
    rw [cl]
    simp [hx]
   ·exact hck j (by omega) h2 h3
  ·have ha:jK n X Y=true:=by
    unfold jK
    rw [ah]
    exact fun j hj=>hb j (by omega)
   have tz:=D7 (n:=n) (X:=X) (Y:=Y) (by omega) (fun j hj=>hf j (by omega))
   rw [gI,ab (by omega),ab (by rw [ha];simp),ab (fun hx=>hx tz),ag (fun fp=> ?_)]
   have h2:=fp i2 (by omega) k (by omega) (by omega)
   rw [cl,ht,Bool.and_true,aj] at h2
   exact h2 (fun hx=>by have:=cm.1 hx;omega)
  ·by_cases ej:j=k
   ·subst ej
    rw [cl,ht,Bool.and_false]
   ·exact hck j (by omega) h2 h3
 ·refine ⟨by unfold dh;omega,rfl,⟨by omega,fun j h1 k' h2 h3=> ?_⟩,by omega⟩
  by_cases e:j=i2
  ·subst e;exact hck k' (by omega) h3 h2
  ·exact hc j (by omega) k' h2 h3
 ·have ha:jK n X Y=true:=by
   unfold jK
   rw [ah]
   exact fun j hj=>hb j (by omega)
  obtain ⟨b1,b2⟩:=sR ha
  have tz:=D7 (n:=n) (X:=X) (Y:=Y) (by omega) (fun j hj=>hf j (by omega))
  have iH: ∀j,j<n-> ∀k,k<n->j+2<=k->kT n X Y j k=false:=fun j hj=>hc j (by omega)
  refine ⟨PR n X Y (by omega) (by omega) b1 b2,fun ht=> ?_,fun ht=> ?_⟩
  ·rw [gI,ab (by omega),ab (by rw [ha];simp),ab (fun hx=>hx tz),ab (fun hx=>hx iH),ag ht]
  ·rw [gI,ab (by omega),ab (by rw [ha];simp),ab (fun hx=>hx tz),ab (fun hx=>hx iH),ab ht]
end Go.Abs
end
section
set_option maxRecDepth 100000
namespace Go.Abs
open Go
abbrev nums (n:Nat) (A:Nat->Int):DV:= .dt n [fun i=> .val (.int .i64 (A i))]
def mw (n:Nat) (A:Nat->Int) (m:Nat) (B:Nat->Int):Bool:=decide (n=m/\ ∀i,i<n->A i=B i)
noncomputable def La (n:Nat) (A:Nat->Int) (m:Nat) (B:Nat->Int):eA:={ dz:=[],loops:=[(0,{ ι:=Nat,keep:=[0,1],boxes:=[],ts:=fun _ i=>[(5,dI (i:Int))],inv:=fun _ i=>i<=n/\ ∀j,j<i->A j=B j,mu:=fun _ i=>n - i,rd:=fun _ σ=>(ez (σ.get 5)).toNat })],dK:=[] }
theorem QS (n:Nat) (A:Nat->Int) (m:Nat) (B:Nat->Int) (hn:n<=1000000000):dv prog 69 [nums n A,nums m B] (dB (mw n A m B)):=by
 refine dm dJ (La n A m B) (V:=VT.ite ((n:Int) !=(m:Int)) (VT.done [false=mw n A m B]) (VT.loop Nat (fun (a:Nat)=>a<=n/\ ∀(j:Nat),j<a->A j=B j) (0:Int).toNat [(0:Int)=(↑(0:Int).toNat:Int),n=n,∀i<n,A i=A i,m=m,∀i<m,B i=B i] fun (i:Nat)=>VT.ite (decide ((i:Int)<(n:Int))) (VT.dk [(0:Int)<=(i:Int)/\(i:Int)<(n:Int),(0:Int)<=(i:Int)/\(i:Int)<(m:Int)] (VT.ite (A (i:Int).toNat !=B (i:Int).toNat) (VT.done [false=mw n A m B]) (VT.dk [dh ((i:Int)+1)] (VT.done [(i:Int)+1=(↑((i:Int)+1).toNat:Int),n=n,∀i<n,A i=A i,m=m,∀i<m,B i=B i,Int.toNat ((i:Int)+1)<=n/\ ∀(j:Nat),j<((i:Int)+1).toNat->A j=B j,n - ((i:Int)+1).toNat<n - i])))) (VT.done [true=mw n A m B]))) (by kernel_rfl) ?_
 simp only [VT.holds,dC,Sq]
 refine ⟨fun h=> ?_,fun h=>⟨rfl,⟨by omega,fun j hj=>(by omega)⟩,fun i ⟨hi,hb⟩=>⟨fun dR=>⟨⟨by omega,by omega,by omega⟩,fun ji=> ?_,fun he=>⟨by unfold dh;omega,rfl,⟨by omega,fun j hj=> ?_⟩,by omega⟩⟩,fun iG=> ?_⟩⟩⟩
 ·unfold mw
  rw [bX,aj]
  intro hx;omega
 ·unfold mw
  rw [bX,aj]
  intro hx;exact ji (hx.2 i (by omega))
 ·by_cases e:j=i
  ·subst e;exact he
  ·exact hb j (by omega)
 ·unfold mw
  rw [bX,ah]
  exact ⟨by omega,fun j hj=>hb j (by omega)⟩
end Go.Abs
end
section
set_option maxRecDepth 100000
namespace Go.Abs
open Go
def fb (n:Nat) (X Y:Nat->Int) (i:Int):Int:=((X (ix n (i+1)) - X (ix n i)).natAbs:Int)+((Y (ix n (i+1)) - Y (ix n i)).natAbs:Int)
abbrev yc (n:Nat) (X Y:Nat->Int):List (Nat->DV):=[fun i=>dI (X i),fun i=>dI (Y i),fun i=>dI (X (ix n ((i:Int)+1))),fun i=>dI (Y (ix n ((i:Int)+1))),fun i=>dI (fb n X Y i),fun i=>dI (dD n X Y i)]
def vg:fx:= .res fun l=> .dt (aN l) (yc (aN l) (aX l) (aY l))
def VP:fx:= .res fun l=> .dt (aN l) [fun k=>dI (ov (aN l) (aX l) (aY l) k)]
theorem lp {n:Nat} {X Y:Nat->Int} (h:gI n X Y=0) {i:Nat} (hi:i<n):dO n X Y i=true:=by
 have:=(wA h).2.2.1 i hi
 simp only [iJ,an] at this
 exact this.1.1
theorem eh {f:Nat->Int} {i:Nat} {s:Int} (h:s=f i): ∀k,k<i+1->(if k<i then f k else s)=f k:=fun k hk=>by
 by_cases e:k<i
 ·rw [ag e]
 ·rw [ab e,h,show k=i by omega]
theorem E8 {n:Nat} (hn:0<n) (j:Int):((ix n j:Nat):Int)=j%n:=by
 unfold ix
 rw [bM,bG (bm _ (by omega))]
theorem ix_ix {n:Nat} (hn:0<n) (j:Int):ix n (ix n j)=ix n j:=by
 have h:ix n ((ix n j:Nat):Int)=((((ix n j:Nat):Int)+n)%n).toNat:=rfl
 rw [h,E8 hn,bM,Int.emod_emod]
 unfold ix
 rw [bM]
theorem Y6 {n:Nat} (hn:0<n) (j:Int):ix n ((ix n j:Nat)+1)=ix n (j+1):=by
 have h:ix n (((ix n j:Nat):Int)+1)=((((ix n j:Nat):Int)+1+n)%n).toNat:=rfl
 rw [h,E8 hn,bM,Int.emod_add_emod]
 unfold ix
 rw [bM]
theorem Wx {n:Nat} {X Y:Nat->Int} (hn:0<n) (j:Int):dD n X Y ((ix n j:Nat):Int)=dD n X Y j:=by
 unfold dD
 rw [ix_ix hn,Y6 hn]
noncomputable def K2 (x:Int):eA:={ dz:=[],loops:=[],dK:=[] }
theorem Sz (x:Int) (h: -9223372036854775807<=x/\x<=9223372036854775807):dv prog 155 [dI x] (dI (x.natAbs:Int)):=by
 refine dm dJ (K2 x) (V:=VT.ite (decide (x<0)) (VT.dk [dh (-x)] (VT.done [-x=(↑(Int.natAbs x):Int)])) (VT.done [x=(↑(Int.natAbs x):Int)])) (by kernel_rfl) ?_
 simp only [VT.holds,dC,Sq]
 refine ⟨fun h=>⟨by unfold dh;omega,by omega⟩,fun h=>by omega⟩
noncomputable def Jb (n:Nat) (X Y:Nat->Int):eA:={ dz:=[(1,[(1,G3)]),(9,[(3,SM),(7,SM),(10,vh),(13,Qd)])],loops:=[(0,{ ι:=Nat,keep:=[0,5,15],boxes:=[],ts:=fun _ i=>[(16,dI (i:Int))],rw:=fun _ i=>[(6,6,i,yc n X Y)],inv:=fun _ i=>i<=n,mu:=fun _ i=>n - i,rd:=fun _ σ=>(ez (σ.get 16)).toNat })],dK:=[] }
namespace wq
noncomputable section
structure Z where
 n:Nat
 X:Nat->Int
 Y:Nat->Int
variable (z:Z) (i0 i1:Nat) (P:List Prop) (a b:Int) (k:Nat)
abbrev x0:=(i0:Int)+1
abbrev x1:=DV.val (Value.int IntKind.i64 a)
abbrev x2:=Int.toNat (x0 i0)
abbrev x3:=i0<ME z.n z.X z.Y->rf a
abbrev x4:=if (decide (i1<i0))=true then a else b
abbrev x5:=z.X (ix z.n (x0 i0))
abbrev x6:=z.Y (ix z.n (x0 i0))
abbrev x7:=DV.dt z.n [fun i0=>x1 (z.X i0),fun i0=>x1 (z.Y i0)]
abbrev x8:=z.X (ix z.n (i0:Int))
abbrev x9:=z.Y (ix z.n (i0:Int))
abbrev dM:List Prop:=rf z.n::(∀i0<z.n,rf (z.X i0))::(∀i0<z.n,rf (z.Y i0))::P
abbrev dQ:=gI z.n z.X z.Y
abbrev dS:=dD z.n z.X z.Y (i0:Int)
abbrev dT:=dv prog k [x7 z,x1 (i0:Int)] (x1 a)
abbrev dU:=DV.val (Value.agg (Array.mk [Value.int IntKind.i64 a,Value.int IntKind.i64 b]))
abbrev dY:=(↑(Int.natAbs (x5 z i0 - x8 z i0)):Int)+(↑(Int.natAbs (x6 z i0 - x9 z i0)):Int)
abbrev xt:VT:=VT.dk [dv prog 48 [x7 z] (x1 (dQ z))] (VT.ite (dQ z !=0) (VT.done [ME z.n z.X z.Y=0,rf (dQ z)]) (VT.loop Nat (fun i0=>i0<=z.n) (Int.toNat 0) ((0=(↑(Int.toNat 0):Int))::rf (0:Nat)::(Int.toNat 0=0)::dM z (dM z [rf (z.n:Int),Int.toNat 0=0])) (fun i0=>VT.ite (decide ((i0:Int)<(z.n:Int))) (VT.dk [dv prog 109 [x7 z,x1 (i0:Int)] (dU (x8 z i0) (x9 z i0)),dh (x0 i0),dv prog 109 [x7 z,x1 (x0 i0)] (dU (x5 z i0) (x6 z i0)),dT z i0 (dY z i0) (49:Nat),dT z i0 (dS z i0) (53:Nat),i0<=i0,(i0+1)*((nat_lit 47)+1)<=140737488355328,(1:Nat)<=(1:Nat)] (VT.dk [dh (x0 i0)] (VT.done ((x0 i0=(↑(x2 i0):Int))::rf (0:Nat)::(i0+1=x2 i0)::dM z (dM z [rf (z.n:Int),i0+1=x2 i0,∀i1<x2 i0,x4 i0 i1 (z.X i1) (x8 z i0)=(z.X i1),∀i1<x2 i0,x4 i0 i1 (z.Y i1) (x9 z i0)=(z.Y i1),∀i1<x2 i0,x4 i0 i1 (z.X (ix z.n ((i1:Int)+1))) (x5 z i0)=(z.X (ix z.n ((i1:Int)+1))),∀i1<x2 i0,x4 i0 i1 (z.Y (ix z.n ((i1:Int)+1))) (x6 z i0)=(z.Y (ix z.n ((i1:Int)+1))),∀i1<x2 i0,x4 i0 i1 (fb z.n z.X z.Y (i1:Int)) (dY z i0)=fb z.n z.X z.Y (i1:Int),∀i1<x2 i0,x4 i0 i1 (dD z.n z.X z.Y (i1:Int)) (dS z i0)=dD z.n z.X z.Y (i1:Int),x2 i0<=z.n,z.n - x2 i0<z.n - i0]))))) (VT.done [i0<=i0,i0=ME z.n z.X z.Y,∀(i0:Nat),x3 z i0 (z.X i0),∀(i0:Nat),x3 z i0 (z.Y i0),∀(i0:Nat),x3 z i0 (x5 z i0),∀(i0:Nat),x3 z i0 (x6 z i0),∀(i0:Nat),x3 z i0 (fb z.n z.X z.Y (i0:Int)),∀(i0:Nat),x3 z i0 (dS z i0),0=dQ z]))))
end
end wq
open wq in
theorem Tx (n:Nat) (X Y:Nat->Int) (jO:n<=1000000):dv prog 93 [my n X Y] (.fC [.dt (ME n X Y) (yc n X Y),dI (gI n X Y)]):=by
 refine dm dJ (Jb n X Y) (V:=xt ⟨n,X,Y⟩) (by kernel_rfl) ?_
 simp only [xt,x0,x1,x2,x3,x4,x5,x6,x7,x8,x9,dM,dQ,dS,dT,dU,dY,Rf,VT.holds,dC,Sq]
 refine ⟨kU n X Y jO,fun h=>by rw [ME,ag h],fun h=>⟨rfl,aq n,fun i nU=>⟨fun dR=> ?_,fun iG=>⟨ae i,?_,h.symm⟩⟩⟩⟩
 ·have hn:=fO h
  obtain ⟨hX,hY⟩:=eS h
  have e:=rN (n:=n) (i:=i) (by omega)
  have a1:=CN n X Y i (by omega) (by omega) (by omega) (by omega)
  refine ⟨⟨a1,by unfold dh;omega,CN n X Y (i+1) (by omega) (by omega) (by omega) (by omega),AT n X Y i (by omega) (by omega) (by omega) (by omega) hX hY,Gy n X Y i (by omega) (by omega) (by omega) (by omega),ae i,by omega,ae 1⟩,by unfold dh;omega,rfl,eh (by rw [e]),eh (by rw [e]),eh (f:=fun j=>X (ix n ((j:Int)+1))) rfl,eh (f:=fun j=>Y (ix n ((j:Int)+1))) rfl,eh (f:=fun j=>fb n X Y j) rfl,eh (f:=fun j=>dD n X Y j) rfl,by omega,by omega⟩
 ·rw [ME,ab (by rw [h];simp)]
  omega
noncomputable def Gd (n:Nat) (X Y:Nat->Int):eA:={ dz:=[(5,[(2,DJ)]),(6,[(14,.res fun l=>dI ((aI l 0).natAbs:Int)),(23,.res fun l=>dI ((aI l 0).natAbs:Int)),(30,Qj)])],loops:=[(0,{ ι:=Nat,keep:=[0],boxes:=[],ts:=fun _ i=>[(4,dI (i:Int))],rw:=fun _ i=>[(3,6,i,yc n X Y)],inv:=fun _ i=>i<=n,mu:=fun _ i=>n - i,rd:=fun _ σ=>(ez (σ.get 4)).toNat })],dK:=[] }
namespace wr
noncomputable section
structure Z where
 n:Nat
 X:Nat->Int
 Y:Nat->Int
variable (z:Z) (i0 i1:Nat) (P:List Prop) (a b:Int)
abbrev x0:=(i0:Int)+1
abbrev x1:=Int.toNat (x0 i0)
abbrev x2:=z.X (ix z.n (x0 i0))
abbrev x3:=z.Y (ix z.n (x0 i0))
abbrev x4:=z.X (Int.toNat (i0:Int))
abbrev x5:=z.Y (Int.toNat (i0:Int))
abbrev x6:=DV.val (Value.int IntKind.i64 a)
abbrev x7:=if (decide (i1<i0))=true then a else b
abbrev x8:=Int.toNat 0
abbrev x9:=ix z.n ((i1:Int)+1)
abbrev dM:List Prop:=(0<=(i0:Int)/\(i0:Int)<(z.n:Int))::P
abbrev dQ:List Prop:=(∀i0<z.n,rf (z.X i0))::P
abbrev dS:= ∀i0<z.n,rf (z.Y i0)
abbrev dT:Int:=(↑(Int.natAbs (x2 z i0 - x4 z i0)):Int)
abbrev dU:Int:=(↑(Int.natAbs (x3 z i0 - x5 z i0)):Int)
abbrev dY:=DV.val (Value.agg (Array.mk [Value.int IntKind.i64 a,Value.int IntKind.i64 b]))
abbrev xt:VT:=VT.loop Nat (fun i0=>i0<=z.n) x8 ((0=(x8:Int))::rf (0:Nat)::(x8=0)::rf z.n::dQ z [dS z,x8=0]) (fun i0=>VT.ite (decide ((i0:Int)<(z.n:Int))) (VT.dk [dv prog 126 [DV.dt z.n [fun i0=>x6 (z.X i0),fun i0=>x6 (z.Y i0)],x6 (i0:Int)] (dY (x2 z i0) (x3 z i0))] (VT.dk (dM z i0 (dM z i0 (dh (x2 z i0 - x4 z i0)::dv prog 155 [x6 (x2 z i0 - x4 z i0)] (x6 (dT z i0))::dM z i0 (dh (x3 z i0 - x5 z i0)::dv prog 155 [x6 (x3 z i0 - x5 z i0)] (x6 (dU z i0))::dh (dT z i0+dU z i0)::dM z i0 [dv prog 125 [dY (x4 z i0) (x5 z i0),dY (x2 z i0) (x3 z i0)] (x6 (s8 (x4 z i0) (x5 z i0) (x2 z i0) (x3 z i0))),i0<=i0,(i0+1)*((nat_lit 47)+1)<=140737488355328,(1:Nat)<=(1:Nat)])))) (VT.dk [dh (x0 i0)] (VT.done ((x0 i0=(↑(x1 i0):Int))::rf (0:Nat)::(i0+1=x1 i0)::rf z.n::dQ z [dS z,i0+1=x1 i0,∀i1<x1 i0,x7 i0 i1 (z.X i1) (x4 z i0)=(z.X i1),∀i1<x1 i0,x7 i0 i1 (z.Y i1) (x5 z i0)=(z.Y i1),∀i1<x1 i0,x7 i0 i1 (z.X (x9 z i1)) (x2 z i0)=(z.X (x9 z i1)),∀i1<x1 i0,x7 i0 i1 (z.Y (x9 z i1)) (x3 z i0)=(z.Y (x9 z i1)),∀i1<x1 i0,x7 i0 i1 (fb z.n z.X z.Y (i1:Int)) (dT z i0+dU z i0)=fb z.n z.X z.Y (i1:Int),∀i1<x1 i0,x7 i0 i1 (dD z.n z.X z.Y (i1:Int)) (s8 (x4 z i0) (x5 z i0) (x2 z i0) (x3 z i0))=dD z.n z.X z.Y (i1:Int),x1 i0<=z.n,z.n - x1 i0<z.n - i0]))))) (VT.done ((i0<=i0)::(i0=z.n)::dQ z [dS z,∀i0<z.n,rf (x2 z i0),∀i0<z.n,rf (x3 z i0),∀i0<z.n,rf (fb z.n z.X z.Y (i0:Int)),∀i0<z.n,rf (dD z.n z.X z.Y (i0:Int))])))
end
end wr
open wr in
theorem q8 (n:Nat) (X Y:Nat->Int) (h:gI n X Y=0):dv prog 131 [my n X Y] (.dt n (yc n X Y)):=by
 refine dm dJ (Gd n X Y) (V:=xt ⟨n,X,Y⟩) (by kernel_rfl) ?_
 simp only [xt,x0,x1,x2,x3,x4,x5,x6,x7,x8,x9,dM,dQ,dS,dT,dU,dY,Rf,VT.holds,dC,Sq]
 have hn:=fO h
 obtain ⟨hX,hY⟩:=eS h
 refine ⟨rfl,aq n,fun i nU=>⟨fun dR=> ?_,fun iG=>⟨ae i,by omega⟩⟩⟩
 have e:=rN (n:=n) (i:=i) (by omega)
 have x1:=hX i (by omega)
 have x2:=hX _ (iV (i:=(i:Int)+1) (show 0<n by omega))
 have y1:=hY i (by omega)
 have y2:=hY _ (iV (i:=(i:Int)+1) (show 0<n by omega))
 have hr:(0:Int)<=i/\(i:Int)<n:=by omega
 have hd:s8 (X i) (Y i) (X (ix n ((i:Int)+1))) (Y (ix n ((i:Int)+1)))=dD n X Y i:=by
  have ho:=lp h (i:=i) (by omega)
  unfold dO at ho
  rw [e] at ho
  unfold s8 dD
  rw [e,ag ho]
 have hl:(((X (ix n ((i:Int)+1)) - X i).natAbs:Int)+((Y (ix n ((i:Int)+1)) - Y i).natAbs:Int))=fb n X Y i:=by unfold fb;rw [e]
 refine ⟨xo n X Y i (by omega) (by omega) (by omega) (by omega),⟨hr,hr,by unfold dh;omega,Sz _ (by omega),hr,by unfold dh;omega,Sz _ (by omega),by unfold dh;omega,hr,KJ _ _ _ _,ae i,by omega,ae 1⟩,by unfold dh;omega,rfl,eh rfl,eh rfl,eh (f:=fun j=>X (ix n ((j:Int)+1))) rfl,eh (f:=fun j=>Y (ix n ((j:Int)+1))) rfl,eh (f:=fun j=>fb n X Y j) hl,eh (f:=fun j=>dD n X Y j) hd,by omega,by omega⟩
noncomputable def BW (n:Nat) (X Y:Nat->Int):eA:={ dz:=[(2,[(1,vg)]),(6,[(8,.pos)]),(7,[(2,.pos)])],loops:=[(0,{ ι:=Nat,keep:=[0,4],boxes:=[],ts:=fun _ i=>[(5,dI (i:Int))],rw:=fun _ i=>[(3,1,i,[fun k=>dI (ov n X Y k)])],inv:=fun _ i=>i<=n,mu:=fun _ i=>n - i,rd:=fun _ σ=>(ez (σ.get 5)).toNat })],dK:=[] }
namespace ws
noncomputable section
structure Z where
 n:Nat
 X:Nat->Int
 Y:Nat->Int
variable (z:Z) (i0 i1:Nat) (p:Prop) (P:List Prop) (a b:Int) (jM:Nat->Int)
abbrev x0:=(i0:Int)+1
abbrev x1:=Int.toNat (x0 i0)
abbrev x2:=DV.val (Value.int IntKind.i64 a)
abbrev x3:=(i0:Int)+(z.n:Int) - 1
abbrev x4:=i0<z.n->rf (jM (ix z.n (x0 i0)))
abbrev x5:List Prop:=rf z.n::(∀i0<z.n,rf (z.X i0))::(∀i0<z.n,rf (z.Y i0))::P
abbrev x6:=x3 z i0%(z.n:Int)
abbrev x7:=dD z.n z.X z.Y (↑(Int.toNat a):Int)
abbrev x8:= ∀i0<z.n,rf (dD z.n z.X z.Y (i0:Int))
abbrev x9:=0<=a/\b<(z.n:Int)
abbrev dM:=x5 z (x5 z ((∀(i0:Nat),x4 z i0 z.X)::(∀(i0:Nat),x4 z i0 z.Y)::(∀i0<z.n,rf (fb z.n z.X z.Y (i0:Int)))::P))
abbrev dQ:=i1<x1 i0->(if (decide (i1<i0))=true then (ov z.n z.X z.Y i1) else a)=ov z.n z.X z.Y i1
abbrev dS:=VT.dk [i0<=i0,(i0+1)*((nat_lit 7)+1)<=140737488355328,(1:Nat)<=(1:Nat)] (VT.dk [dh (x0 i0)] (VT.done ((x0 i0=(↑(x1 i0):Int))::rf (0:Nat)::(i0+1=x1 i0)::dM z [x8 z,i0+1=x1 i0,p,x1 i0<=z.n,z.n - x1 i0<z.n - i0])))
abbrev xt:VT:=VT.dk [dv prog 131 [DV.dt z.n [fun i0=>x2 (z.X i0),fun i0=>x2 (z.Y i0)]] (DV.dt z.n [fun i0=>x2 (z.X i0),fun i0=>x2 (z.Y i0),fun i0=>x2 (z.X (ix z.n (x0 i0))),fun i0=>x2 (z.Y (ix z.n (x0 i0))),fun i0=>x2 (fb z.n z.X z.Y (i0:Int)),fun i0=>x2 (dD z.n z.X z.Y (i0:Int))])] (VT.loop Nat (fun i0=>i0<=z.n) (Int.toNat 0) ((0=(↑(Int.toNat 0):Int))::rf (0:Nat)::(Int.toNat 0=0)::dM z [x8 z,Int.toNat 0=0]) (fun i0=>VT.ite (decide ((i0:Int)<(z.n:Int))) (VT.dk [dh ((i0:Int)+(z.n:Int)),dh (x3 z i0),x9 z (x3 z i0) (0:Int),x9 z (x6 z i0) (x6 z i0)] (VT.dk [dh (x7 z (x6 z i0)+1),0<=x7 z (x6 z i0)+1/\(0:Int)<(4:Int),x9 z (i0:Int) (i0:Int)] (VT.ite ((x7 z (x6 z i0)+1)%4==x7 z (i0:Int)) (dS z i0 (∀(i1:Nat),dQ z i0 i1 (1:Int))) (dS z i0 (∀(i1:Nat),dQ z i0 i1 (-(1:Int))))))) (VT.done [i0<=i0,i0=z.n,∀i0<z.n,rf (ov z.n z.X z.Y i0)])))
end
end ws
open ws in
theorem Bw (n:Nat) (X Y:Nat->Int) (h:gI n X Y=0):dv prog 136 [my n X Y] (.dt n [fun k=>dI (ov n X Y k)]):=by
 refine dm dJ (BW n X Y) (V:=xt ⟨n,X,Y⟩) (by kernel_rfl) ?_
 simp only [xt,x0,x1,x2,x3,x4,x5,x6,x7,x8,x9,dM,dQ,dS,Rf,VT.holds,dC,Sq]
 have hn:=fO h
 refine ⟨q8 n X Y h,rfl,aq n,fun i nU=>⟨fun dR=> ?_,fun iG=>⟨ae i,by omega⟩⟩⟩
 have hr:(0:Int)<=i/\(i:Int)<n:=by omega
 have m1:=br ((i:Int)+n - 1) (show (0:Int)<n by omega)
 have m2:=bm ((i:Int)+n - 1) (show (n:Int)≠0 by omega)
 rw [Mj,Wx (by omega)]
 have r:=eP n X Y ((i:Int) - 1)
 refine ⟨⟨by unfold dh;omega,by unfold dh;omega,⟨by omega,by omega⟩,m2,m1⟩,⟨by unfold dh;omega,⟨by omega,by omega⟩,hr⟩,fun ho=>⟨⟨ae i,by omega,ae 1⟩,by unfold dh;omega,rfl,eh (by rw [ov,ag ho.symm]),by omega,by omega⟩,fun ho=>⟨⟨ae i,by omega,ae 1⟩,by unfold dh;omega,rfl,eh (by rw [ov,ab (fun e=>ho e.symm)]),by omega,by omega⟩⟩
end Go.Abs
end
section
namespace Go.Proofs
open Go.Shelf
def Tryz.Ni:Go.Shelf.Ren:=⟨fun|189=>188|125=>142|257=>191|128=>167|129=>168|294=>192|295=>193|296=>194|297=>195|298=>196|299=>197|216=>198|300=>199|301=>200|328=>201|329=>180|330=>181|331=>202|332=>203|215=>204|343=>205|n=>n,fun|28=>27|3=>3|46=>201|0=>0|51=>223|53=>225|4=>4|183=>217|182=>216|131=>175|5=>5|9=>9|218=>232|222=>236|228=>242|229=>185|n=>n,fun|n=>n⟩
theorem Tryz.ga:Go.Proofs.Lays.n189 Tryz.prog Tryz.Ni:={ mixed:=by kernel_rfl,f125:=Tryz.func142.trans (congrArg some (by kernel_rfl)),f128:=Tryz.func167.trans (congrArg some (by kernel_rfl)),f129:=Tryz.func168.trans (congrArg some (by kernel_rfl)),f189:=Tryz.func188.trans (congrArg some (by kernel_rfl)),f215:=Tryz.func204.trans (congrArg some (by kernel_rfl)),f216:=Tryz.func198.trans (congrArg some (by kernel_rfl)),f257:=Tryz.func191.trans (congrArg some (by kernel_rfl)),f294:=Tryz.func192.trans (congrArg some (by kernel_rfl)),f295:=Tryz.func193.trans (congrArg some (by kernel_rfl)),f296:=Tryz.func194.trans (congrArg some (by kernel_rfl)),f297:=Tryz.func195.trans (congrArg some (by kernel_rfl)),f298:=Tryz.func196.trans (congrArg some (by kernel_rfl)),f299:=Tryz.func197.trans (congrArg some (by kernel_rfl)),f300:=Tryz.func199.trans (congrArg some (by kernel_rfl)),f301:=Tryz.func200.trans (congrArg some (by kernel_rfl)),f328:=Tryz.func201.trans (congrArg some (by kernel_rfl)),f329:=Tryz.func180.trans (congrArg some (by kernel_rfl)),f330:=Tryz.func181.trans (congrArg some (by kernel_rfl)),f331:=Tryz.func202.trans (congrArg some (by kernel_rfl)),f332:=Tryz.func203.trans (congrArg some (by kernel_rfl)),f343:=Tryz.func205.trans (congrArg some (by kernel_rfl)),t0:=Tryz.underlying0,a0:=Tryz.isAgg0,z0:=Tryz.sizeOf0,v0:=Tryz.zeroValue0,t3:=Tryz.underlying3,a3:=Tryz.isAgg3,z3:=Tryz.sizeOf3,v3:=Tryz.zeroValue3,t4:=Tryz.underlying4,a4:=Tryz.isAgg4,z4:=Tryz.sizeOf4,v4:=Tryz.zeroValue4,t5:=Tryz.underlying5,a5:=Tryz.isAgg5,z5:=Tryz.sizeOf5,v5:=Tryz.zeroValue5,t9:=Tryz.underlying9,a9:=Tryz.isAgg9,z9:=Tryz.sizeOf9,v9:=Tryz.zeroValue9,t28:=Tryz.underlying27,a28:=Tryz.isAgg27,z28:=Tryz.sizeOf27,v28:=Tryz.zeroValue27,t46:=Tryz.underlying201,a46:=Tryz.isAgg201,z46:=Tryz.sizeOf201,v46:=Tryz.zeroValue201,t51:=Tryz.underlying223,a51:=Tryz.isAgg223,z51:=Tryz.sizeOf223,v51:=Tryz.zeroValue223,t53:=Tryz.underlying225,a53:=Tryz.isAgg225,z53:=Tryz.sizeOf225,v53:=Tryz.zeroValue225,t131:=Tryz.underlying175,a131:=Tryz.isAgg175,z131:=Tryz.sizeOf175,v131:=Tryz.zeroValue175,t182:=Tryz.underlying216,a182:=Tryz.isAgg216,z182:=Tryz.sizeOf216,v182:=Tryz.zeroValue216,t183:=Tryz.underlying217,a183:=Tryz.isAgg217,z183:=Tryz.sizeOf217,v183:=Tryz.zeroValue217,t218:=Tryz.underlying232,a218:=Tryz.isAgg232,z218:=Tryz.sizeOf232,v218:=Tryz.zeroValue232,t222:=Tryz.underlying236,a222:=Tryz.isAgg236,z222:=Tryz.sizeOf236,v222:=Tryz.zeroValue236,t228:=Tryz.underlying242,a228:=Tryz.isAgg242,z228:=Tryz.sizeOf242,v228:=Tryz.zeroValue242,t229:=Tryz.underlying185,a229:=Tryz.isAgg185,z229:=Tryz.sizeOf185,v229:=Tryz.zeroValue185 }
def Tryz.Oh:Go.Shelf.Ren:=⟨fun|20=>189|n=>n,fun|22=>27|3=>3|4=>4|0=>0|n=>n,fun|n=>n⟩
theorem Tryz.Wz:Go.Proofs.Lays2.n20 Tryz.prog Tryz.Oh:={ mixed:=by kernel_rfl,f20:=Tryz.func189.trans (congrArg some (by kernel_rfl)),t0:=Tryz.underlying0,a0:=Tryz.isAgg0,z0:=Tryz.sizeOf0,v0:=Tryz.zeroValue0,t3:=Tryz.underlying3,a3:=Tryz.isAgg3,z3:=Tryz.sizeOf3,v3:=Tryz.zeroValue3,t4:=Tryz.underlying4,a4:=Tryz.isAgg4,z4:=Tryz.sizeOf4,v4:=Tryz.zeroValue4,t22:=Tryz.underlying27,a22:=Tryz.isAgg27,z22:=Tryz.sizeOf27,v22:=Tryz.zeroValue27,i3:=by kernel_rfl }
end Go.Proofs
end
section
set_option maxRecDepth 100000
namespace Go.Abs
open Go Go.RowKit Go.Shelf Go.Lib Go.Sort Go.Proofs
attribute [local go_sem] Oper.semAt_some
def fP (l:List Int):List Int:=Lib.compact (l.mergeSort fun x y=>decide (x<=y))
theorem tX (l:List Int):(fP l).length<=l.length:=by
 unfold fP
 have:=Lib.compact_length_le (l.mergeSort fun x y=>decide (x<=y))
 rw [List.length_mergeSort] at this
 exact this
theorem Hn (w:World):Calls prog 174 #[.slice none 0 0] w fun e w'=>e= .returned (.slice none 0 0)/\w'=w:=by
 have mixed:=dJ
 have hs:=Any.slices_Sort_int_none Tryz.ga none 0
 have hc:=Any.slices_Compact_int_empty Tryz.Wz none 0
 change ∀w,Calls prog 188 _ w _ at hs
 change ∀w,Calls prog 189 _ w _ at hc
 go_enter Go.Proofs.Tryz.func174,Go.Proofs.Tryz.ntmps174
 go_wp2_with (first
  |(go_at_call 188;refine (hs _).mono ?_;rintro e w1 ⟨rfl,rfl⟩)
  |(go_at_call 189;refine (hc _).mono ?_;rintro e w1 ⟨rfl,rfl⟩))
 go_ret
 exact ⟨rfl,rfl⟩
theorem Kb (w:World) (g C n:Nat) (zs:List Int) (hl:zs.length=n) (hn:n<=C) (hC:n<=1000000) (hg:g<w.heap.size) (hH:Holds (Value.int .i64) w g 0 zs.toArray):
 Calls prog 174 #[.slice (some ⟨g,0,none⟩) n C] w fun e w'=>e= .returned (.slice (some ⟨g,0,none⟩) (fP zs).length C)/\
  ∃nn os q,w'=putRow (Value.int .i64) (Sort.ahead (grow (putRow (Value.int .i64) (Sort.ahead w nn) g 0 (zs.mergeSort fun x y=>decide (x<=y)).toArray) os) q) g 0 (fP zs++List.replicate (n - (fP zs).length) 0).toArray:=by
 have mixed:=dJ
 have Mm:=Any.slices_Sort_int Tryz.ga g 0 C zs w hH hg (by omega)
 change Calls prog 188 _ w _ at Mm
 rw [hl] at Mm
 have oI:(zs.mergeSort fun x y=>decide (x<=y)).length=n:=by rw [List.length_mergeSort];exact hl
 have X:Aside (Holds (Value.int .i64) w g 0 zs.toArray/\g<w.heap.size):=⟨hH,hg⟩
 clear hH hg
 go_enter Go.Proofs.Tryz.func174,Go.Proofs.Tryz.ntmps174
 go_wp2_with (first
  |(go_at_call 188;refine Mm.mono ?_;rintro e w2 ⟨rfl,nn,os,rfl⟩
    have hH2:Holds (Value.int .i64) (grow (putRow (Value.int .i64) (Sort.ahead w nn) g 0 (zs.mergeSort fun x y=>decide (x<=y)).toArray) os) g 0 (zs.mergeSort fun x y=>decide (x<=y)).toArray:=
     holds_grow (Value.int .i64) _ os g 0 _ (by simpa [putRow,mapBlock,Sort.ahead] using X.out.2) (holds_putRow (Value.int .i64) _ g 0 _ _ (holds_ahead (Value.int .i64) w nn g 0 _ X.out.1) (by simp))
    have Ru:=Any.slices_Compact_int Tryz.Wz g 0 C (zs.mergeSort fun x y=>decide (x<=y)) _ hH2 (by omega) (by omega)
    change Calls prog 189 _ _ _ at Ru
    rw [oI] at Ru
    clear hH2 Mm)
  |(go_at_call 189;refine Ru.mono ?_;rintro e w3 ⟨rfl,q,rfl⟩))
 go_ret
 exact ⟨rfl,nn,os,q,rfl⟩
theorem EO {d:List Int} {cv:Array Value} {i:Nat} (hi:i<d.length) (hs:d.length<=cv.size):(putCells (Value.int .i64) 0 d.toArray cv)[i]? =some (.int .i64 (d.getD i 0)):=by
 have h2:i<cv.size:=by omega
 simp only [putCells,Array.getElem?_mapIdx,az h2,aA,bZ,aq,aE,hi,ck,ba,bJ]
 simp [hi]
theorem oE (d:Array Int) (cv:Array Value):(putCells (Value.int .i64) 0 d cv).size=cv.size:=by simp [putCells]
theorem Me (n:Nat) (A:Nat->Int) (hn:n<=1000000):FnK prog 174 n A (fP ((List.range n).map A)).length (fun i=>(fP ((List.range n).map A)).getD i 0):=by
 refine ⟨⟨_,Go.Proofs.Tryz.func174,rfl,by kernel_rfl⟩,fun w v0=>⟨fun e h0=> ?_,fun g C cv T e hC hh eW fe=> ?_⟩⟩
 ·subst e h0
  refine ⟨by have:=tX ((List.range 0).map A);simpa using this,(Hn w).mono fun e w' ⟨he,hw⟩=>⟨he,by rw [hw];exact Below.refl _ _⟩⟩
 ·subst e
  have Cp:=tX ((List.range n).map A)
  simp only [cp,List.length_range] at Cp
  refine ⟨Cp,?_⟩
  have hl:((List.range n).map A).length=n:=by simp
  generalize NN:(List.range n).map A=zs at*
  have hzi: ∀i,i<n->zs.getD i 0=A i:=fun i hi=>by rw [<-NN];simp [hi]
  have hH:Holds (Value.int .i64) w g 0 zs.toArray:=fun j hj=>by
   have oJ:j<n:=by simpa [hl] using hj
   have oQ:=fe j oJ
   have ZE:zs.toArray[j]! =A j:=by
    rw [<-hzi j oJ,getElem!_pos zs.toArray j hj]
    simp [bB,hl,oJ]
   refine ⟨?_,?_⟩
   ·rw [ZE,aE]
    simp only [World.cell?,hh,oQ]
    rfl
   ·simp [World.frozen?,hh]
  refine (Kb w g C n zs hl hC hn (ef hh) hH).mono fun e w' ⟨he,nn,os,q,hw⟩=>⟨he,?_⟩
  generalize rT:zs.mergeSort (fun x y=>decide (x<=y))=d1 at hw
  have hd1:d1.length=n:=by rw [<-rT,List.length_mergeSort];exact hl
  refine ⟨putCells (Value.int .i64) 0 (fP zs++List.replicate (n - (fP zs).length) 0).toArray (putCells (Value.int .i64) 0 d1.toArray cv),
   putRow (Value.int .i64) (putRow (Value.int .i64) (Sort.ahead w nn) g 0 d1.toArray) g 0 (fP zs++List.replicate (n - (fP zs).length) 0).toArray,by rw [oE,oE];exact eW,fun i hi=> ?_,by simp [putRow,mapBlock,Sort.ahead],rfl,rfl,rfl,(fun h=>by cases h),fun k hk=> ?_,?_,?_⟩
  ·rw [EO (by simp;omega) (by rw [oE];simp;omega)]
   simp only [bB]
   rw [aW hi]
  ·simp only [putRow,mapBlock,Sort.ahead,dc]
   rw [ab (fun e=>hk e.symm),ab (fun e=>hk e.symm)]
  ·simp only [putRow,mapBlock,Sort.ahead,dc,ba,hh,aA,onCells]
  ·rw [hw]
   refine ⟨rfl,rfl,rfl,by simp [putRow,mapBlock,Sort.ahead,grow],fun k hk=> ?_,fun h=>by cases h⟩
   have hgs:=ef hh
   have kE:k<w.heap.size:=by simpa [putRow,mapBlock,Sort.ahead] using hk
   simp only [putRow,mapBlock,Sort.ahead,grow,dc,Array.getElem?_append_left (show k<(w.heap.modify g _).size by simpa using kE)]
end Go.Abs
end
section
namespace Go.Abs
open Go
def M0 (l:List Int):Prop:=l.Pairwise (·<·)
theorem BH: ∀{l m:List Int},M0 l->M0 m->(∀x,x∈l↔x∈m)->l=m
 |[],[],_,_,_=>rfl
 |[],y::s,_,_,h=>by have:=(h y).2 ax;cases this
 |x::r,[],_,_,h=>by have:=(h x).1 ax;cases this
 |x::r,y::s,hl,hm,h=>by
  have Rk:=List.pairwise_cons.1 hl
  have O6:=List.pairwise_cons.1 hm
  have exy:x=y:=by
   rcases aR.1 ((h x).1 ax) with e|e
   ·exact e
   ·rcases aR.1 ((h y).2 ax) with e2|e2
    ·exact e2.symm
    ·have h1:=O6.1 x e
     have h2:=Rk.1 y e2
     omega
  subst exy
  congr 1
  refine BH Rk.2 O6.2 fun z=> ?_
  constructor
  ·intro hz
   have h1:=Rk.1 z hz
   rcases aR.1 ((h z).1 (ay _ hz)) with e|e
   ·omega
   ·exact e
  ·intro hz
   have h1:=O6.1 z hz
   rcases aR.1 ((h z).2 (ay _ hz)) with e|e
   ·omega
   ·exact e
theorem yF (d:Array Int) (hs: ∀i j,i<j->j<d.size->d[i]! <=d[j]!): ∀k,k<=d.size->M0 (Lib.compactUpTo d k)/\(∀x,x∈Lib.compactUpTo d k↔ ∃j,j<k/\d[j]! =x)
 |0,_=>by
  refine ⟨List.Pairwise.nil,fun x=>⟨fun h=>(by cases h),fun ⟨j,hj,_⟩=>(by omega)⟩⟩
 |k+1,hk=>by
  obtain ⟨h1,h2⟩:=yF d hs k (by omega)
  rw [Lib.compactUpTo_succ]
  by_cases fA:Lib.keeps d k=true
  ·rw [ag fA]
   have dR: ∀x∈Lib.compactUpTo d k,x<d[k]! :=fun x hx=>by
    obtain ⟨j,hj,rfl⟩:=(h2 x).1 hx
    have h3:=hs j k hj (by omega)
    rcases cg k with h0|h0
    ·omega
    ·have h4:d[k]! ≠d[k - 1]! :=by
      unfold Lib.keeps at fA
      intro e
      simp only [bA,ah,e] at fA
      rcases fA with h|h
      ·omega
      ·exact absurd h (by simp)
     have h5:d[j]! <=d[k - 1]! :=by
      rcases a8 j (k - 1) with h|h
      ·exact hs j (k - 1) h (by omega)
      ·rw [show j=k - 1 by omega];exact db _
     have h6:=hs (k - 1) k (by omega) (by omega)
     omega
   refine ⟨List.pairwise_append.2 ⟨h1,List.pairwise_singleton _ _,fun x hx y hy=>by rw [au.1 hy];exact dR x hx⟩,fun x=> ?_⟩
   rw [aO,h2,au]
   constructor
   ·rintro (⟨j,hj,e⟩|e)
    ·exact ⟨j,by omega,e⟩
    ·exact ⟨k,by omega,e.symm⟩
   ·rintro ⟨j,hj,e⟩
    rcases a8 j k with h|h
    ·exact .inl ⟨j,h,e⟩
    ·exact .inr (by rw [<-e,show j=k by omega])
  ·rw [ab fA,List.append_nil]
   refine ⟨h1,fun x=> ?_⟩
   rw [h2]
   constructor
   ·rintro ⟨j,hj,e⟩;exact ⟨j,by omega,e⟩
   ·rintro ⟨j,hj,e⟩
    rcases a8 j k with h|h
    ·exact ⟨j,h,e⟩
    ·have hjk:j=k:=by omega
     subst hjk
     unfold Lib.keeps at fA
     simp only [bA,ah,not_or] at fA
     have:d[j]! =d[j - 1]! :=by
      have h3:=fA.2
      simpa using h3
     exact ⟨j - 1,by omega,by rw [<-e,this]⟩
theorem jm (l:List Int):M0 (fP l)/\ ∀x,x∈fP l↔x∈l:=by
 have hp:=List.pairwise_mergeSort (le:=fun x y:Int=>decide (x<=y)) (fun a b c h1 h2=>by simp only [ah] at*;omega) (fun a b=>by simp only [bA,ah];omega) l
 have hm: ∀x,x∈l.mergeSort (fun x y=>decide (x<=y))↔x∈l:=fun x=>List.mem_mergeSort
 unfold fP Lib.compact
 generalize l.mergeSort (fun x y=>decide (x<=y))=s at hp hm
 have qu: ∀i,i<s.length->s.toArray[i]! =s.getD i 0:=fun i hi=>by
  rw [getElem!_pos s.toArray i (by simpa using hi)];simp [hi]
 have hs: ∀i j,i<j->j<s.toArray.size->s.toArray[i]! <=s.toArray[j]! :=fun i j Kk hj=>by
  have oJ:j<s.length:=by simpa using hj
  rw [qu i (by omega),qu j oJ]
  have:=cH.1 hp i j (by omega) oJ Kk
  simp only [ah] at this
  simpa [oJ,show i<s.length by omega] using this
 obtain ⟨h1,h2⟩:=yF s.toArray hs s.length (by simp)
 refine ⟨h1,fun x=> ?_⟩
 rw [h2,<-hm]
 constructor
 ·rintro ⟨j,hj,e⟩
  rw [qu j hj] at e
  rw [<-e]
  simp [hj]
 ·intro hx
  obtain ⟨j,hj,e⟩:=cP.1 hx
  exact ⟨j,hj,by rw [qu j hj];simpa [hj] using e⟩
theorem wI {l:List Int} (h:M0 l) {i j:Nat} (Kk:i<j) (hj:j<l.length):l.getD i 0<l.getD j 0:=by
 have:=cH.1 h i j (by omega) hj Kk
 simpa [hj,show i<l.length by omega] using this
theorem MS {l:List Int} (h:M0 l) {i:Nat} (hi:i+1<l.length) {x:Int} (hx:x∈l):x<=l.getD i 0\/l.getD (i+1) 0<=x:=by
 obtain ⟨j,hj,e⟩:=cP.1 hx
 have e':l.getD j 0=x:=by simpa [hj] using e
 rcases Nat.lt_trichotomy j i with h1|h1|h1
 ·have:=wI h h1 (by omega);omega
 ·subst h1;omega
 ·rcases Nat.eq_or_lt_of_le (show i+1<=j by omega) with h2|h2
  ·subst h2;omega
  ·have:=wI h h2 hj;omega
def qT (x:Int):List Int->Nat
 |[]=>0
 |y::r=>if y<x then qT x r+1 else 0
def yT (x:Int) (l:List Int):List Int:=if qT x l=l.length\/l.getD (qT x l) 0≠x then l.take (qT x l)++(x::l.drop (qT x l)) else l
theorem zk (x:Int): ∀l:List Int,qT x l<=l.length
 |[]=>ae _
 |y::r=>by
  have:=zk x r
  simp only [qT,aH]
  split<;>omega
theorem EP (x:Int): ∀(l:List Int) (j:Nat),j<qT x l->l.getD j 0<x
 |[],j,h=>by simp [qT] at h
 |y::r,j,h=>by
  simp only [qT] at h
  split at h
  ·cases j with
   |zero=>simpa using ‹y<x›
   |succ j=>simpa using EP x r j (by omega)
  ·omega
theorem ER (x:Int): ∀(l:List Int),qT x l<l.length->x<=l.getD (qT x l) 0
 |[],h=>by simp at h
 |y::r,h=>by
  simp only [qT] at h ⊢
  split
  ·rename_i hy
   rw [ag hy] at h
   have:=ER x r (by simpa using h)
   simpa using this
  ·simp;omega
theorem T5 {x:Int} {l:List Int} {k:Nat} (h1: ∀j,j<k->l.getD j 0<x) (h2:k=l.length\/(k<l.length/\x<=l.getD k 0)):k=qT x l:=by
 have a1:=zk x l
 rcases Nat.lt_trichotomy k (qT x l) with h|h|h
 ·have:=EP x l k h
  rcases h2 with h2|h2<;>omega
 ·exact h
 ·have dR:qT x l<l.length:=by rcases h2 with h2|h2<;>omega
  have:=ER x l dR
  have:=h1 _ h
  omega
theorem QW {x:Int} {l:List Int} (h:M0 l):M0 (yT x l)/\ ∀y,y∈yT x l↔y=x\/y∈l:=by
 unfold yT
 have hle:=zk x l
 have dR:=EP x l
 have rW:=ER x l
 generalize qT x l=p at*
 split
 ·rename_i hc
  have htd:l=l.take p++l.drop p:=(List.take_append_drop p l).symm
  have h2:=h
  unfold M0 at h2
  rw [htd,List.pairwise_append] at h2
  have hbig: ∀y∈l.drop p,x<y:=fun y hy=>by
   obtain ⟨j,hj,e⟩:=cP.1 hy
   rw [List.getElem_drop] at e
   have oJ:p+j<l.length:=by simpa [Nat.add_comm] using (by have:=hj;rw [bn] at this;omega:p+j<l.length)
   have hp:p<l.length:=by omega
   have h3:=rW hp
   have h4:l.getD p 0≠x:=hc.resolve_left (by omega)
   have h5:l.getD p 0<=y:=by
    have ey:l.getD (p+j) 0=y:=by simpa [oJ] using e
    rcases cg j with h0|h0
    ·subst h0;rw [<-ey];exact db _
    ·have:=wI h (show p<p+j by omega) oJ
     omega
   omega
  have Zc: ∀y∈l.take p,y<x:=fun y hy=>by
   obtain ⟨j,hj,e⟩:=cP.1 hy
   rw [List.getElem_take] at e
   have hj1:j<p:=by have:=hj;rw [aQ] at this;omega
   have:=dR j hj1
   simpa [show j<l.length by omega,e] using this
  refine ⟨List.pairwise_append.2 ⟨h2.1,List.pairwise_cons.2 ⟨hbig,h2.2.1⟩,fun a ha b hb=> ?_⟩,fun y=> ?_⟩
  ·rcases aR.1 hb with rfl|hb
   ·exact Zc a ha
   ·exact h2.2.2 a ha b hb
  ·rw [aO,aR]
   conv=>rhs;rw [htd,aO]
   constructor
   ·rintro (h|h|h)
    ·exact .inr (.inl h)
    ·exact .inl h
    ·exact .inr (.inr h)
   ·rintro (h|h|h)
    ·exact .inr (.inl h)
    ·exact .inl h
    ·exact .inr (.inr h)
 ·rename_i hc
  refine ⟨h,fun y=>⟨.inr,?_⟩⟩
  rintro (rfl|h3)
  ·have h4: ¬p=l.length/\l.getD p 0=y:=⟨fun e=>hc (.inl e),cQ fun e=>hc (.inr e)⟩
   rw [<-h4.2]
   have:p<l.length:=by omega
   simp [this]
  ·exact h3
theorem QV (x:Int) (l:List Int):(yT x l).length<=l.length+1:=by
 unfold yT
 split
 ·have:=zk x l
  simp only [aS,aQ,aH,bn];omega
 ·omega
def ga (A:Nat->Int):Nat->List Int
 |0=>[]
 |k+1=>yT (A k) (ga A k)
theorem Dz (A:Nat->Int): ∀k,M0 (ga A k)/\ ∀x,x∈ga A k↔ ∃j,j<k/\A j=x
 |0=>⟨List.Pairwise.nil,fun x=>⟨fun h=>(by cases h),fun ⟨j,hj,_⟩=>(by omega)⟩⟩
 |k+1=>by
  obtain ⟨h1,h2⟩:=Dz A k
  obtain ⟨h3,h4⟩:=QW (x:=A k) h1
  refine ⟨h3,fun x=> ?_⟩
  show x∈yT (A k) (ga A k)↔_
  rw [h4,h2]
  constructor
  ·rintro (rfl|⟨j,hj,e⟩)
   ·exact ⟨k,by omega,rfl⟩
   ·exact ⟨j,by omega,e⟩
  ·rintro ⟨j,hj,e⟩
   rcases a8 j k with h|h
   ·exact .inr ⟨j,h,e⟩
   ·exact .inl (by rw [<-e,show j=k by omega])
theorem Dy (A:Nat->Int): ∀k,(ga A k).length<=k
 |0=>ae _
 |k+1=>by
  have:=QV (A k) (ga A k)
  have:=Dy A k
  show (yT (A k) (ga A k)).length<=k+1
  omega
theorem GN (A:Nat->Int) (n:Nat):ga A n=fP ((List.range n).map A):=by
 obtain ⟨h1,h2⟩:=Dz A n
 obtain ⟨h3,h4⟩:=jm ((List.range n).map A)
 refine BH h1 h3 fun x=> ?_
 rw [h2,h4,bf]
 constructor
 ·rintro ⟨j,hj,e⟩;exact ⟨j,bg.2 hj,e⟩
 ·rintro ⟨j,hj,e⟩;exact ⟨j,bg.1 hj,e⟩
def fw (N:Nat->Nat) (X:Nat->Nat->Int):Nat->List Int
 |0=>[]
 |i+1=>fw N X i++(List.range (N i)).map (X i)
theorem wK {N:Nat->Nat} {X:Nat->Nat->Int} {i k:Nat}: ∀{m:Nat},i<m->k<N i->X i k∈fw N X m
 |m+1,h1,h2=>by
  rw [fw,aO]
  rcases a8 i m with h|h
  ·exact .inl (wK h h2)
  ·have:i=m:=by omega
   subst this
   exact .inr (bf.2 ⟨k,bg.2 h2,rfl⟩)
theorem BL (N:Nat->Nat) (X Y:Nat->Nat->Int): ∀m,(fw N X m).length=(fw N Y m).length
 |0=>rfl
 |m+1=>by simp only [fw,aS,cp,BL N X Y m]
theorem MU {N:Nat->Nat} {X:Nat->Nat->Int} {b:Int}: ∀{m:Nat},(∀i,i<m-> ∀k,k<N i-> -b<=X i k/\X i k<=b)-> ∀x∈fw N X m,-b<=x/\x<=b
 |0,_,x,hx=>by cases hx
 |m+1,h,x,hx=>by
  rw [fw,aO] at hx
  rcases hx with hx|hx
  ·exact MU (fun i hi=>h i (by omega)) x hx
  ·obtain ⟨k,hk,rfl⟩:=bf.1 hx
   exact h m (by omega) k (bg.1 hk)
theorem Bd {l:List Int} {i:Nat} (h:i<l.length):l.getD i 0∈l:=by simp [h]
end Go.Abs
end
