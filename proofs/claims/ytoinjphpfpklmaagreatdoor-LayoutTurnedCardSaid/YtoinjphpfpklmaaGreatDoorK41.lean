/- Contracts and what they stand on. -/
import Derived.Test.YtoinjphpfpklmaaGreatDoorL6
set_option linter.unusedVariables false
set_option linter.unusedSimpArgs false
section
set_option maxRecDepth 100000
namespace Go.Abs.Lay
open Go
def mw (n:Nat) (A:Nat->Int) (m:Nat) (B:Nat->Int):Bool:=decide (n=m/\ ∀k,k<n->A k=B k)
def KW (nB:Nat) (B O:Nat->Int) (i:Nat):Int:=if i<nB then B i else O (i - nB)
def VL:fx:= .res fun l=>dB (iS (aN l) (aX l))
theorem zR (nB:Nat) (B:Nat->Int) (O:Nat->Int) (i:Nat):Int.gcd (mV nB B O i) (vh nB B O i)=mV nB B O (i+1):=by
 rw [mV,mV,la,D5]
theorem PQ {nB:Nat} {B:Nat->Int} {nO:Nat} {O:Nat->Int} (h1:1<=nB) (hB: ∀k,k<nB->1<=B k/\B k<=10000) (hO: ∀k,k<nO->1<=O k/\O k<=10000):1<=mV nB B O (nB+nO)/\mV nB B O (nB+nO)<=10000:=by
 rw [<-unit_eq];exact oT h1 hB hO
def yf (nB:Nat) (B:Nat->Int) (nO:Nat) (O:Nat->Int):Nat->Int:=j9 (wU (mV nB B O (nB+nO)) (vh nB B O) (rA nB) (nB+nO))
theorem BI (nB:Nat) (B:Nat->Int) (nO:Nat) (O:Nat->Int):gR (nB+nO) (KW nB B O)=true↔gR nB B=true\/gR nO O=true:=by
 unfold gR
 simp only [kA]
 constructor
 ·rintro ⟨k,hk,h⟩
  unfold KW at h
  split at h
  ·exact .inl ⟨k,by omega,h⟩
  ·exact .inr ⟨k - nB,by omega,h⟩
 ·rintro (⟨k,hk,h⟩|⟨k,hk,h⟩)
  ·refine ⟨k,by omega,?_⟩
   unfold KW;rw [ag hk];exact h
  ·refine ⟨nB+k,by omega,?_⟩
   unfold KW;rw [ab (by omega),Nat.add_sub_cancel_left];exact h
noncomputable def K0 (n:Nat) (A:Nat->Int) (m:Nat) (B:Nat->Int):eA:={ dz:=[],loops:=[(0,{ ι:=Nat,keep:=[0,1],boxes:=[],ts:=fun _ i=>[(5,dI (i:Int))],inv:=fun _ i=>i<=n/\ ∀j,j<i->A j=B j,mu:=fun _ i=>n - i,rd:=fun _ σ=>(ez (σ.get 5)).toNat })],dK:=[] }
theorem QS (n:Nat) (A:Nat->Int) (m:Nat) (B:Nat->Int) (hn:n<=1000000000):dv prog 69 [nums n A,nums m B] (dB (mw n A m B)):=by
 refine dm dJ (K0 n A m B) (V:= .ite ((n:Int) !=(m:Int)) (.done [false=mw n A m B]) (.loop Nat (fun a=>a<=n/\ ∀(j:Nat),j<a->A j=B j) (0:Int).toNat [(0:Int)=(↑(0:Int).toNat:Int),n=n,∀i<n,A i=A i,m=m,∀i<m,B i=B i] fun i=> .ite (decide ((i:Int)<(n:Int))) (.dk [(0:Int)<=(i:Int)/\(i:Int)<(n:Int),(0:Int)<=(i:Int)/\(i:Int)<(m:Int)] (.ite (A (i:Int).toNat !=B (i:Int).toNat) (.done [false=mw n A m B]) (.dk [dh ((i:Int)+1)] (.done [(i:Int)+1=(↑((i:Int)+1).toNat:Int),n=n,∀i<n,A i=A i,m=m,∀i<m,B i=B i,Int.toNat ((i:Int)+1)<=n/\ ∀(j:Nat),j<((i:Int)+1).toNat->A j=B j,n - ((i:Int)+1).toNat<n - i])))) (.done [true=mw n A m B]))) (by kernel_rfl) ?_
 simp only [VT.holds,dC,Sq]
 refine ⟨fun h=> ?_,fun h=>⟨rfl,⟨by omega,fun j hj=>(by omega)⟩,fun i ⟨hi,hb⟩=>⟨fun dR=>⟨⟨by omega,by omega,by omega⟩,fun ji=> ?_,fun he=>⟨by unfold dh;omega,rfl,⟨by omega,fun j hj=> ?_⟩,by omega⟩⟩,fun iG=> ?_⟩⟩⟩
 ·unfold mw
  rw [bX,aj]
  intro hx;omega
 ·unfold mw
  rw [bX,aj]
  intro hx;exact ji (hx.2 i (by omega))
 ·by_cases e:j=i
  ·subst e;exact he
  ·exact hb j (by omega)
 ·unfold mw
  rw [bX,ah]
  exact ⟨by omega,fun j hj=>hb j (by omega)⟩
noncomputable def Lc (n:Int):eA:={ dz:=[],loops:=[],dK:=[] }
theorem MY (n:Int) (hn:0<=n):dv prog 155 [dI n] (dI n):=by
 refine dm dJ (Lc n) (V:= .ite (decide (n<0)) (.dk [dh (-n)] (.done [-n=n])) (.done [n=n])) (by kernel_rfl) ?_
 simp only [VT.holds,dC,Sq]
 exact fun h=>absurd h (by omega)
noncomputable def Ji (a b:Int):eA:={ dz:=[(2,[(3,.pos)]),(3,[(1,.res fun l=>dI (aI l 0))])],loops:=[(0,{ ι:=Int×Int,keep:=[],boxes:=[],ts:=fun _ i=>[(0,dI i.1),(1,dI i.2)],inv:=fun _ i=>0<=i.1/\0<=i.2/\Int.gcd i.1 i.2=Int.gcd a b,mu:=fun _ i=>i.2.toNat,rd:=fun _ σ=>(ez (σ.get 0),ez (σ.get 1)) })],dK:=[] }
theorem RD (a b:Int) (h1:0<=a) (h2:0<=b):dv prog 121 [dI a,dI b] (dI (Int.gcd a b)):=by
 refine dm dJ (Ji a b) (V:= .loop (Int×Int) (fun (Vw:Int×Int)=>(0:Int)<=Vw.fst/\(0:Int)<=Vw.snd/\Int.gcd Vw.fst Vw.snd=Int.gcd a b) (a,b) [a=a,b=b] fun (i:Int×Int)=> .ite (i.snd !=0) (.dk [(0:Int)<=i.fst/\(0:Int)<i.snd] (.done [i.snd=i.snd,i.fst%i.snd=i.fst%i.snd,(0:Int)<=i.snd/\(0:Int)<=i.fst%i.snd/\Int.gcd i.snd (i.fst%i.snd)=Int.gcd a b,Int.toNat (i.fst%i.snd)<Int.toNat i.snd])) (.dk [dv prog 155 [(dI i.fst)] ((dI i.fst))] (.done [i.fst=(↑(Int.gcd a b):Int)]))) (by kernel_rfl) ?_
 simp only [VT.holds,dC,Sq]
 refine ⟨⟨h1,h2⟩,fun i ⟨h1,h2,h3⟩=>⟨fun ji=>⟨⟨h1,by omega⟩,⟨h2,bm _ ji,?_⟩,?_⟩,fun he=>⟨MY _ h1,?_⟩⟩⟩
 ·rw [<-h3,HJ]
 ·have:=br i.1 (show 0<i.2 by omega)
  have:=bm i.1 ji
  omega
 ·rw [<-h3,he,Int.gcd_zero_right]
  omega
noncomputable def IP (nB:Nat) (B:Nat->Int) (nO:Nat) (O:Nat->Int) (W G L:Int):eA:={ dz:=[(5,[(6,YI)]),(9,[(6,YI)])],loops:=[(0,{ ι:=Nat,keep:=[1],boxes:=[1],ts:=fun _ i=>[(3,dI (mV nB B O i)),(4,dI (i:Int))],inv:=fun _ i=>i<=nB,mu:=fun _ i=>nB - i,rd:=fun _ σ=>(ez (σ.get 4)).toNat }),(2,{ ι:=Nat,keep:=[1],boxes:=[1],ts:=fun _ i=>[(3,dI (mV nB B O (nB+i))),(5,dI (i:Int))],inv:=fun _ i=>i<=nO,mu:=fun _ i=>nO - i,rd:=fun _ σ=>(ez (σ.get 5)).toNat })],dK:=[] }
namespace w2l
noncomputable section
structure Z where
 nB:Nat
 B:Nat->Int
 nO:Nat
 O:Nat->Int
 W:Int
 G:Int
 L:Int
variable (z:Z) (i0:Nat) (p:Prop) (P:List Prop) (a b:Int) (k:Nat) (U:VT) (O4:Nat->Prop) (DY:Nat->VT) (pj j10b:Nat->Int)
abbrev x0:Int:=(↑(Lay.mV z.nB z.B z.O k):Int)
abbrev x1:=Int.toNat ((i0:Int)+1)
abbrev x2:=x0 z (z.nB+k)
abbrev x3:=Int.toNat 0
abbrev x4:Int:=(↑(Int.gcd a (pj (Int.toNat (i0:Int)))):Int)
abbrev x5:List Prop:=(a=b)::p::rf z.nB::(∀i0<z.nB,rf (z.B i0))::rf z.nO::(∀i0<z.nO,rf (z.O i0))::rf z.W::rf z.G::P
abbrev x6:=VT.loop Nat O4 x3 (x5 z (0=(x3:Int)) [rf z.L] a b) DY
abbrev x7:=dv prog 121 [dI a,dI (pj (Int.toNat (i0:Int)))] (dI (x4 i0 b j10b))
abbrev x8:=VT.dk [0<=(i0:Int)/\(i0:Int)<a,p] U
abbrev x9:=VT.dk [dh ((i0:Int)+1)] (VT.done (x5 z ((i0:Int)+1=(↑(x1 i0):Int)) P (x4 i0 a pj) b))
abbrev xt:VT:=x6 z (0:Int) (x0 z x3) (fun i0=>i0<=z.nB) (fun i0=>VT.ite (decide ((i0:Int)<(z.nB:Int))) (x8 i0 (x7 i0 (x0 z i0) (x0 z i0) z.B z.B) (z.nB:Int) (x9 z i0 [rf z.L,x1 i0<=z.nB,z.nB - x1 i0<z.nB - i0] (x0 z i0) (x0 z (x1 i0)) z.B)) (x6 z (x0 z i0) (x2 z x3) (fun i0=>i0<=z.nO) (fun i0=>VT.ite (decide ((i0:Int)<(z.nO:Int))) (x8 i0 (x7 i0 (x2 z i0) (x2 z i0) z.O z.O) (z.nO:Int) (x9 z i0 [rf z.L,x1 i0<=z.nO,z.nO - x1 i0<z.nO - i0] (x2 z i0) (x2 z (x1 i0)) z.O)) (VT.done [x2 z i0=x2 z z.nO]))))
end
end w2l
open w2l in
theorem Ty (nB:Nat) (B:Nat->Int) (nO:Nat) (O:Nat->Int) (W G L:Int) (h2:nB<=8) (h3:nO<=8) (hB: ∀k,k<nB->1<=B k/\B k<=10000) (hO: ∀k,k<nO->1<=O k/\O k<=10000):dv prog 72 [sys nB B nO O W G L] (dI (mV nB B O (nB+nO))):=by
 refine dm dJ (IP nB B nO O W G L) (V:=xt ⟨nB,B,nO,O,W,G,L⟩) (by kernel_rfl) ?_
 simp only [xt,x0,x1,x2,x3,x4,x5,x6,x7,x8,x9,Rf,VT.holds,dC,Sq]
 refine ⟨⟨rfl,rfl⟩,aq _,fun i hi=>⟨fun dR=>⟨⟨⟨by omega,by omega⟩,RD _ _ (by omega) (by have:=hB i (by omega);omega)⟩,by unfold dh;omega,?_,rfl,by omega,by omega⟩,fun iG=>⟨⟨by rw [show i=nB+0 by omega],rfl⟩,aq _,fun i hi=>⟨fun dR=>⟨⟨⟨by omega,by omega⟩,RD _ _ (by omega) (by have:=hO i (by omega);omega)⟩,by unfold dh;omega,?_,rfl,by omega,by omega⟩,fun iG=>by rw [show i=nO by omega]⟩⟩⟩⟩
 ·rw [<-zR,vh,ag (by omega)]
 ·rw [show nB+(i+1)=nB+i+1 by omega,<-zR,vh,ab (by omega),Nat.add_sub_cancel_left]
noncomputable def Di (n:Nat) (A:Nat->Int):eA:={ dz:=[],loops:=[(0,{ ι:=Nat,keep:=[0],boxes:=[],ts:=fun _ i=>[(3,dI (i:Int))],inv:=fun _ i=>1<=i/\ ∀k,k<i->k<n->0<k->A (k - 1)<A k,mu:=fun _ i=>n - i,rd:=fun _ σ=>(ez (σ.get 3)).toNat })],dK:=[] }
theorem GZ (n:Nat) (A:Nat->Int) (hn:n<=1000000):dv prog 135 [nums n A] (dB (iS n A)):=by
 refine dm dJ (Di n A) (V:= .loop Nat (fun a=>(1:Nat)<=a/\ ∀(k:Nat),k<a->k<n->(0:Nat)<k->A (k - 1)<A k) (1:Int).toNat [(1:Int)=(↑(1:Int).toNat:Int),n=n,∀i<n,A i=A i] fun i=> .ite (decide ((i:Int)<(n:Int))) (.dk [(0:Int)<=(i:Int)/\(i:Int)<(n:Int),dh ((i:Int) - 1),(0:Int)<=(i:Int) - 1/\(i:Int) - 1<(n:Int)] (.ite (decide (A (i:Int).toNat<=A ((i:Int) - 1).toNat)) (.done [false=iS n A]) (.dk [dh ((i:Int)+1)] (.done [(i:Int)+1=(↑((i:Int)+1).toNat:Int),n=n,∀i<n,A i=A i,(1:Nat)<=((i:Int)+1).toNat/\ ∀(k:Nat),k<((i:Int)+1).toNat->k<n->(0:Nat)<k->A (k - 1)<A k,n - ((i:Int)+1).toNat<n - i])))) (.done [true=iS n A])) (by kernel_rfl) ?_
 simp only [VT.holds,dC,Sq]
 refine ⟨rfl,⟨ae _,fun k hk _ h0=>absurd hk (show ¬k<1 by omega)⟩,fun i ⟨hi,hb⟩=>⟨fun dR=>⟨⟨⟨by omega,by omega⟩,by unfold dh;omega,by omega,by omega⟩,fun h=> ?_,fun h=>⟨by unfold dh;omega,rfl,⟨by omega,fun k hk hn h0=> ?_⟩,by omega⟩⟩,fun iG=> ?_⟩⟩
 ·rw [iS,bX,aj]
  intro hx
  have:=hx i (by omega) (by omega)
  rw [show i - 1=((i:Int) - 1).toNat by omega] at this
  omega
 ·by_cases e:k=i
  ·rw [show ((i:Int) - 1).toNat=i - 1 by omega] at h
   rw [e];omega
  ·exact hb k (by omega) hn h0
 ·rw [iS,bX,ah]
  exact fun k hk h0=>hb k (by omega) hk h0
noncomputable def CQ (nB:Nat) (B:Nat->Int) (nO:Nat) (O:Nat->Int) (W G L:Int):eA:={ dz:=[(1,[(3,yq)]),(3,[(2,.row fun l=>(aN l,[fun i=> .val (.int .i64 (aX l i))]))]),(7,[(4,yq)]),(9,[(2,VL),(7,VL)]),(11,[(2,yq),(7,yq),(13,yq)])],loops:=[(0,{ ι:=Nat,keep:=[1],boxes:=[1],ts:=fun _ i=>[(4,dI (i:Int))],rw:=fun _ _=>[(3,1,nB+nO,[fun i=> .val (.int .i64 (KW nB B O i))])],inv:=fun _ i=>i<=nB+nO/\ ∀j,j<i->xT (KW nB B O j)=false,mu:=fun _ i=>nB+nO - i,rd:=fun _ σ=>(ez (σ.get 4)).toNat })],dK:=[] }
noncomputable abbrev qi (nB:Nat):Bool:= !!nI (nB:Int) (1:Int) (8:Int)
noncomputable abbrev qg (W:Int) (G:Int):Bool:= !if (!nI W (1:Int) (5000:Int))=true then true else !nI G (0:Int) (5000:Int)
namespace w2n
noncomputable section
structure Z where
 nB:Nat
 B:Nat->Int
 nO:Nat
 O:Nat->Int
 W:Int
 G:Int
 L:Int
variable (z:Z) (i0:Nat) (p:Prop) (P:List Prop) (a b c d:Int) (k:Nat) (g h:Bool) (U:VT)
abbrev x0:=z.nB+z.nO
abbrev x1:= !(Lay.nI z.W 1 5000)
abbrev x2:=ri ((!g)=true)
abbrev x3:=Lay.iS z.nB z.B
abbrev x4:=Lay.KW z.nB z.B z.O k
abbrev x5:=if (x1 z)=true then true else (!(Lay.nI z.G 0 5000))
abbrev x6:= !(Lay.nI (z.nB:Int) 1 8)
abbrev x7:=VT.done [a=Lay.fm z.nB z.B z.nO z.O z.W z.G z.L]
abbrev x8:=Int.toNat ((i0:Int)+1)
abbrev x9:=ml 0 (Int.toNat (i0:Int))
abbrev dM:=dv prog 82 [dI a,dI 1,dI b] (dB (Lay.nI c 1 d))
abbrev dQ:=VT.dk (p::x2 g::P) U
abbrev dS:=VT.ite (if g=true then true else h) (x7 z a) U
abbrev dT:=dM a (10000:Int) b (10000:Int)
abbrev dU:List Prop:=(a=(k:Int))::rf (0:Nat)::rf (x0 z)::rf (x0 z)::p::rf z.nB::(∀i0<z.nB,rf (z.B i0))::rf z.nO::(∀i0<z.nO,rf (z.O i0))::rf z.W::rf z.G::rf z.L::P
abbrev xt:VT:=dQ (dM (z.nB:Int) (8:Int) (z.nB:Int) (8:Int)) [x2 (x6 z),x2 (x6 z),x6 z=false->(!(x6 z))=true] (x6 z) (dS z (11:Int) (x6 z) (decide ((z.nO:Int)>(8:Int))) (VT.dk [Vz prog 134 [DV.dt z.nB [fun i0=>dI (z.B i0)]] z.nB [fun i0=>dI (z.B i0)],z.nB<=z.nB,x0 z*((nat_lit 7)+1)<=140737488355328] (VT.loop Nat (fun i0=>i0<=x0 z/\(∀i1<i0,Lay.xT (x4 z i1)=false)) (Int.toNat 0) (dU z (∀i0<x0 z,(if (decide (i0<z.nB))=true then (z.B i0) else (z.O (i0 - z.nB)))=x4 z i0) [] (0:Int) (Int.toNat 0)) (fun i0=>VT.ite (decide ((i0:Int)<(↑(x0 z):Int))) (VT.dk [0<=(i0:Int)/\(i0:Int)<(↑(x0 z):Int),x9 i0<x0 z,dT (x4 z (x9 i0)) (x4 z (x9 i0))] (VT.ite (!(Lay.nI (x4 z (x9 i0)) 1 10000)) (x7 z (2:Int)) (VT.dk [dh ((i0:Int)+1)] (VT.done (dU z (∀i0<x0 z,rf (x4 z i0)) [x8 i0<=x0 z/\(∀i1<x8 i0,Lay.xT (x4 z i1)=false),x0 z - x8 i0<x0 z - i0] ((i0:Int)+1) (x8 i0)))))) (dQ (dv prog 135 [DV.dt z.nB [fun i0=>dI (z.B i0)]] (dB (x3 z))) [x2 (!(x3 z)),(!(!(x3 z)))=true->dv prog 135 [DV.dt z.nO [fun i0=>dI (z.O i0)]] (dB (Lay.iS z.nO z.O)),x2 (!(x3 z)),(!(x3 z))=false->(!(!(x3 z)))=true] (!(x3 z)) (dS z (10:Int) (!(x3 z)) (!(Lay.iS z.nO z.O)) (dQ (dM z.W (5000:Int) z.W (5000:Int)) [x2 (x1 z),(!(x1 z))=true->dv prog 82 [dI z.G,dI 0,dI 5000] (dB (Lay.nI z.G 0 5000)),x2 (x1 z),x1 z=false->(!(x1 z))=true,x2 (x5 z),x2 (x5 z),(!(x5 z))=true->dT z.L z.L,x2 (x5 z),x5 z=false->(!(x5 z))=true] (x1 z) (dS z (2:Int) (x5 z) (!(Lay.nI z.L 1 10000)) (x7 z (0:Int))))))))))
end
end w2n
open w2n in
theorem Ng (nB:Nat) (B:Nat->Int) (nO:Nat) (O:Nat->Int) (W G L:Int) :dv prog 88 [sys nB B nO O W G L] (dI (fm nB B nO O W G L)):=by
 refine dm dJ (CQ nB B nO O W G L) (V:=xt ⟨nB,B,nO,O,W,G,L⟩) (by kernel_rfl) ?_
 simp only [xt,x0,x1,x2,x3,x4,x5,x6,x7,x8,x9,dM,dQ,dS,dT,dU,Rf,VT.holds,dC,Sq]
 have rg: ∀x lo hi,nI x lo hi=true↔lo<=x/\x<=hi:=fun x lo hi=>by rw [nI,ah]
 have rf: ∀x lo hi,nI x lo hi=false↔ ¬(lo<=x/\x<=hi):=fun x lo hi=>by rw [nI,aj]
 refine ⟨oS _ _ _,fun h=> ?_,fun ⟨h,h'⟩=> ?_⟩
 ·rw [rf] at h
  rw [fm,ag (by omega)]
 ·rw [rf] at h
  have hs: ¬(nB<1\/nB>8\/nO>8):=by omega
  refine ⟨⟨U7 nB B (by omega),ae _,by omega⟩,⟨rfl,fun i hi=>rfl⟩,⟨aq _,fun j hj=>by omega⟩,fun i ⟨hi,hb⟩=>⟨fun dR=> ?_,fun iG=> ?_⟩⟩
  ·simp only [iY]
   refine ⟨⟨⟨by omega,by omega⟩,by omega,oS _ _ _⟩,fun h2=> ?_,fun h2=>⟨by unfold dh;omega,rfl,⟨by omega,fun j hj=> ?_⟩,by omega⟩⟩
   ·rw [fm,ab hs,ag]
    rw [<-BI]
    exact kA.2 ⟨i,by omega,by rw [xT,h2];rfl⟩
   ·by_cases e:j=i
    ·rw [e,xT,h2];rfl
    ·exact hb j (by omega)
  ·have hA: ¬(gR nB B=true\/gR nO O=true):=by
    rw [<-BI]
    intro hx
    obtain ⟨k,hk,h3⟩:=kA.1 hx
    rw [hb k (by omega)] at h3;cases h3
   refine ⟨⟨GZ nB B (by omega),fun _=>GZ nO O (by omega)⟩,fun h2=> ?_,fun h2=>⟨⟨oS _ _ _,fun _=>oS _ _ _,fun _=>oS _ _ _⟩,fun h3=> ?_,fun h3=> ?_⟩⟩
   ·rw [fm,ab hs,ab hA,ag h2]
   ·have h4: ¬(iS nB B=false\/iS nO O=false):=fun hx=>hx.elim h2.1 fun e=>by rw [h2.2] at e;cases e
    rw [fm,ab hs,ab hA,ab h4,ag]
    rcases h3 with (h3|h3)|h3
    ·exact .inl h3
    ·exact .inr (.inl h3)
    ·exact .inr (.inr h3)
   ·have h4: ¬(iS nB B=false\/iS nO O=false):=fun hx=>hx.elim h2.1 fun e=>by rw [h2.2] at e;cases e
    rw [fm,ab hs,ab hA,ab h4,ab]
    rintro (h5|h5|h5)
    ·exact h3.1 (.inl h5)
    ·exact h3.1 (.inr h5)
    ·rw [h3.2] at h5;cases h5
end Go.Abs.Lay
end
section
set_option maxRecDepth 100000
namespace Go.Abs
open Go
abbrev uX (c0 c1:DV) (rf:Int) (c3 c4 c5 c6:DV) (W G L:Int) (qX oA:DV) (n:Nat) (X Y:Nat->Int):DV:= .dV [c0,c1,dI rf,c3,c4,c5,c6,dI W,dI G,dI L,qX,oA,.dt n (yc n X Y),.dt n [fun k=>dI (ov n X Y k)]]
theorem R9 {n:Nat} {X Y:Nat->Int} {i:Int} (h:0<=i):ov n X Y i.toNat=gH n X Y i:=by
 have e:ov n X Y i.toNat=gH n X Y (i.toNat:Nat):=rfl
 rw [e,bG h]
theorem Mk {n:Nat} {i:Int} (h:0<=i/\i<n):ix n i=i.toNat:=by
 unfold ix
 rw [bM,Int.emod_eq_of_lt h.1 h.2]
def mK (G W:Int):Prop:=0<=G/\G<=5000/\1<=W/\W<=5000
theorem DQ {a W:Int} (h:0<=a/\a<=1) (hW:1<=W/\W<=5000):(a*W=0/\(1 - a)*W=W/\a=0)\/(a*W=W/\(1 - a)*W=0/\a=1):=by
 obtain rfl|rfl:a=0\/a=1:=by omega
 ·exact .inl ⟨by omega,by omega,rfl⟩
 ·exact .inr ⟨by omega,by omega,rfl⟩
theorem sj {n:Nat} {X Y:Nat->Int} {G W a:Int} (i:Int) (hg:mK G W) (ha:0<=a/\a<=1): -20000<=gv n X Y G W i a/\gv n X Y G W i a<=20000:=by
 obtain ⟨g1,g2,g3,g4⟩:=hg
 have hm:=DQ ha ⟨g3,g4⟩
 unfold gv
 split<;>omega
theorem xS {n:Nat} {X Y:Nat->Int} {G W a:Int} (i:Int) (hn:0<n) (hX:kd n X) (hY:kd n Y) (hg:mK G W) (ha:0<=a/\a<=1): -20000<=iL n X Y G W i a/\iL n X Y G W i a<=4020000:=by
 obtain ⟨g1,g2,g3,g4⟩:=hg
 have hm:=DQ ha ⟨g3,g4⟩
 have hl:=zw hn hX hY i
 unfold iL
 split<;>omega
theorem EY {d t:Int} (h:0<=d/\d<4) (ht: -9000000<=t/\t<=9000000):(-9000000<=t*kX d/\t*kX d<=9000000)/\(-9000000<=t*kW d/\t*kW d<=9000000):=by
 obtain ⟨e1,e2⟩|⟨e1,e2⟩|⟨e1,e2⟩|⟨e1,e2⟩:=P1 h
 all_goals
  rw [e1,e2]
  omega
theorem JR {rf L:Int} (hr:0<=rf/\rf<=1000000) (hL:1<=L/\L<=10000):0<=rf/L/\rf/L<=1000000/\0<kG rf L/\kG rf L<=1010000:=by
 have h1:=cq hr.1 (show 0<=L by omega)
 have h2:=Int.ediv_le_self L hr.1
 have h3:=Int.ediv_mul_le rf (show L≠0 by omega)
 unfold kG
 have h4:0<=rf/L*L:=Int.mul_nonneg h1 (by omega)
 rw [Int.add_mul,Int.one_mul]
 omega
noncomputable def VA (c0 c1:DV) (rf:Int) (c3 c4 c5 c6:DV) (W G L:Int) (qX oA:DV) (n:Nat) (X Y:Nat->Int):eA:={ dz:=[],loops:=[],dK:=[] }
theorem n_c (c0 c1:DV) (rf:Int) (c3 c4 c5 c6:DV) (W G L:Int) (qX oA:DV) (n:Nat) (X Y:Nat->Int) :dv prog 33 [uX c0 c1 rf c3 c4 c5 c6 W G L qX oA n X Y] (dI (n:Int)):=by
 refine dm dJ (VA c0 c1 rf c3 c4 c5 c6 W G L qX oA n X Y) (V:= .done [(n:Int)=(n:Int)]) (by kernel_rfl) ?_
 simp only [VT.holds,dC,Sq]
noncomputable def F7 (c0 c1:DV) (rf:Int) (c3 c4 c5 c6:DV) (W G L:Int) (qX oA:DV) (n:Nat) (X Y:Nat->Int) (i a:Int):eA:={ dz:=[],loops:=[],dK:=[] }
theorem wF (c0 c1:DV) (rf:Int) (c3 c4 c5 c6:DV) (W G L:Int) (qX oA:DV) (n:Nat) (X Y:Nat->Int) (i a:Int) (h:0<=i/\i<n) (hg:mK G W) (ha:0<=a/\a<=1):dv prog 36 [uX c0 c1 rf c3 c4 c5 c6 W G L qX oA n X Y,dI i,dI a] (dI (gv n X Y G W i a)):=by
 refine dm dJ (F7 c0 c1 rf c3 c4 c5 c6 W G L qX oA n X Y i a) (V:= .dk [(0:Int)<=i/\i<(n:Int)] (.ite (decide (ov n X Y i.toNat>0)) (.dk [dh (-G),dh (a*W),dh (-G - a*W)] (.done [-G - a*W=gv n X Y G W i a])) (.dk [dh ((1:Int) - a),dh (((1:Int) - a)*W),dh (G+((1:Int) - a)*W)] (.done [G+((1:Int) - a)*W=gv n X Y G W i a])))) (by kernel_rfl) ?_
 simp only [VT.holds,dC,Sq]
 rw [R9 h.1]
 obtain ⟨g1,g2,g3,g4⟩:=hg
 have hm:=DQ ha ⟨g3,g4⟩
 refine ⟨h,fun h1=>⟨?_,?_⟩,fun h1=>⟨?_,?_⟩⟩
 ·unfold dh;omega
 ·rw [gv,ag h1]
 ·unfold dh;omega
 ·rw [gv,ab h1]
noncomputable def FR (c0 c1:DV) (rf:Int) (c3 c4 c5 c6:DV) (W G L:Int) (qX oA:DV) (n:Nat) (X Y:Nat->Int) (i a:Int):eA:={ dz:=[(1,[(7,.res fun _=>dI (n:Int)),(8,.pos)])],loops:=[],dK:=[] }
theorem Ir (c0 c1:DV) (rf:Int) (c3 c4 c5 c6:DV) (W G L:Int) (qX oA:DV) (n:Nat) (X Y:Nat->Int) (i a:Int) (h:0<=i/\i<n) (hn:n<=1000) (hX:kd n X) (hY:kd n Y) (hg:mK G W) (ha:0<=a/\a<=1):dv prog 96 [uX c0 c1 rf c3 c4 c5 c6 W G L qX oA n X Y,dI i,dI a] (dI (iL n X Y G W i a)):=by
 refine dm dJ (FR c0 c1 rf c3 c4 c5 c6 W G L qX oA n X Y i a) (V:= .dk [dh (i+1),dv prog 33 [.dV [c0,c1,(dI rf),c3,c4,c5,c6,(dI W),(dI G),(dI L),qX,oA,.dt n [fun i=>(dI (X i)),fun i=>(dI (Y i)),fun i=>(dI (X (ix n ((i:Int)+1)))),fun i=>(dI (Y (ix n ((i:Int)+1)))),fun i=>(dI (fb n X Y (i:Int))),fun i=>(dI (dD n X Y (i:Int)))],.dt n [fun k=>(dI (ov n X Y k))]]] ((dI (n:Int))),(0:Int)<=i+1/\(0:Int)<(n:Int),(0:Int)<=(i+1)%(n:Int)/\(i+1)%(n:Int)<(n:Int)] (.ite (decide (ov n X Y ((i+1)%(n:Int)).toNat>0)) (.dk [(0:Int)<=i/\i<(n:Int),dh (fb n X Y (↑i.toNat:Int)+G),dh ((1:Int) - a),dh (((1:Int) - a)*W),dh (fb n X Y (↑i.toNat:Int)+G+((1:Int) - a)*W)] (.done [fb n X Y (↑i.toNat:Int)+G+((1:Int) - a)*W=iL n X Y G W i a])) (.dk [(0:Int)<=i/\i<(n:Int),dh (fb n X Y (↑i.toNat:Int) - G),dh (a*W),dh (fb n X Y (↑i.toNat:Int) - G - a*W)] (.done [fb n X Y (↑i.toNat:Int) - G - a*W=iL n X Y G W i a])))) (by kernel_rfl) ?_
 simp only [VT.holds,dC,Sq]
 rw [Bx (by omega),bG h.1]
 have he:=bm (i+1) (show (n:Int)≠0 by omega)
 have he2:=br (i+1) (show (0:Int)<n by omega)
 have hl:=zw (n:=n) (by omega) hX hY i
 obtain ⟨g1,g2,g3,g4⟩:=hg
 have hm:=DQ ha ⟨g3,g4⟩
 refine ⟨⟨by unfold dh;omega,n_c _ _ _ _ _ _ _ _ _ _ _ _ _ _ _,by omega,he,he2⟩,fun h1=>⟨⟨h,?_⟩,?_⟩,fun h1=>⟨⟨h,?_⟩,?_⟩⟩
 ·unfold dh;omega
 ·rw [iL,ag h1]
 ·unfold dh;omega
 ·rw [iL,ab h1]
noncomputable def F9 (c0 c1:DV) (rf:Int) (c3 c4 c5 c6:DV) (W G L:Int) (qX oA:DV) (n:Nat) (X Y:Nat->Int) (i a b:Int):eA:={ dz:=[(1,[(3,.res fun _=>dI (iL n X Y G W i b)),(7,.res fun _=>dI (gv n X Y G W i a))])],loops:=[],dK:=[] }
theorem uU (c0 c1:DV) (rf:Int) (c3 c4 c5 c6:DV) (W G L:Int) (qX oA:DV) (n:Nat) (X Y:Nat->Int) (i a b:Int) (h:0<=i/\i<n) (hn:n<=1000) (hX:kd n X) (hY:kd n Y) (hg:mK G W) (ha:0<=a/\a<=1) (hb:0<=b/\b<=1):dv prog 37 [uX c0 c1 rf c3 c4 c5 c6 W G L qX oA n X Y,dI i,dI a,dI b] (dI (ko n X Y G W i a b)):=by
 refine dm dJ (F9 c0 c1 rf c3 c4 c5 c6 W G L qX oA n X Y i a b) (V:= .dk [dv prog 96 [.dV [c0,c1,(dI rf),c3,c4,c5,c6,(dI W),(dI G),(dI L),qX,oA,.dt n [fun i=>(dI (X i)),fun i=>(dI (Y i)),fun i=>(dI (X (ix n ((i:Int)+1)))),fun i=>(dI (Y (ix n ((i:Int)+1)))),fun i=>(dI (fb n X Y (i:Int))),fun i=>(dI (dD n X Y (i:Int)))],.dt n [fun k=>(dI (ov n X Y k))]],(dI i),(dI b)] ((dI (iL n X Y G W i b))),dv prog 36 [.dV [c0,c1,(dI rf),c3,c4,c5,c6,(dI W),(dI G),(dI L),qX,oA,.dt n [fun i=>(dI (X i)),fun i=>(dI (Y i)),fun i=>(dI (X (ix n ((i:Int)+1)))),fun i=>(dI (Y (ix n ((i:Int)+1)))),fun i=>(dI (fb n X Y (i:Int))),fun i=>(dI (dD n X Y (i:Int)))],.dt n [fun k=>(dI (ov n X Y k))]],(dI i),(dI a)] ((dI (gv n X Y G W i a))),dh (iL n X Y G W i b - gv n X Y G W i a)] (.done [iL n X Y G W i b - gv n X Y G W i a=ko n X Y G W i a b])) (by kernel_rfl) ?_
 simp only [VT.holds,dC,Sq]
 have b1:=sj (n:=n) (X:=X) (Y:=Y) i hg ha
 have b2:=xS i (by omega) hX hY hg hb
 exact ⟨⟨Ir _ _ _ _ _ _ _ _ _ _ _ _ _ _ _ _ _ h hn hX hY hg hb,wF _ _ _ _ _ _ _ _ _ _ _ _ _ _ _ _ _ h hg ha,by unfold dh;omega⟩,rfl⟩
noncomputable def F8 (c0 c1:DV) (rf:Int) (c3 c4 c5 c6:DV) (W G L:Int) (qX oA:DV) (n:Nat) (X Y:Nat->Int) (i al out:Int):eA:={ dz:=[],loops:=[],dK:=[] }
namespace w2s
noncomputable section
structure Z where
 c0:DV
 c1:DV
 rf:Int
 c3:DV
 c4:DV
 c5:DV
 c6:DV
 W:Int
 G:Int
 L:Int
 qX:DV
 oA:DV
 n:Nat
 X:Nat->Int
 Y:Nat->Int
 i:Int
 al:Int
 out:Int
variable (z:Z) (a:Int) (O4:Nat->Int) (DY:List Int)
abbrev x0:=dD z.n z.X z.Y (↑(Int.toNat z.i):Int)
abbrev x1:=a*List.getD DY (Int.toNat (x0 z%4)) 0
abbrev x2:List Int:=[(0:Int),(1:Int),(0:Int),-(1:Int)]
abbrev x3:List Int:=[(1:Int),(0:Int),-(1:Int),(0:Int)]
abbrev x4:=(O4 (Int.toNat z.i))+x1 z z.al DY
abbrev x5:=x4 z z.X x3+x1 z z.out x2
abbrev x6:=x4 z z.Y x2 - x1 z z.out x3
abbrev xt:VT:=VT.dk [0<=z.i/\z.i<(z.n:Int)] (VT.dk [0<=x0 z/\x0 z<=9223372036854775807/\rf (3:Int),0<=x0 z%4/\x0 z%4<(↑(4:Nat):Int)] (VT.dk [dh (x1 z z.al x3),dh (x4 z z.X x3),dh (x1 z z.out x2),dh (x5 z),dh (x1 z z.al x2),dh (x4 z z.Y x2),dh (x1 z z.out x3),dh (x6 z)] (VT.done [x5 z=xa z.n z.X z.Y z.i z.al z.out,x6 z=wZ z.n z.X z.Y z.i z.al z.out])))
end
end w2s
open w2s in
theorem uY (c0 c1:DV) (rf:Int) (c3 c4 c5 c6:DV) (W G L:Int) (qX oA:DV) (n:Nat) (X Y:Nat->Int) (i al out:Int) (h:0<=i/\i<n) (hX:kd n X) (hY:kd n Y) (h1: -9000000<=al/\al<=9000000) (h2: -9000000<=out/\out<=9000000):dv prog 35 [uX c0 c1 rf c3 c4 c5 c6 W G L qX oA n X Y,dI i,dI al,dI out] (dP (xa n X Y i al out) (wZ n X Y i al out)):=by
 refine dm dJ (F8 c0 c1 rf c3 c4 c5 c6 W G L qX oA n X Y i al out) (V:=xt ⟨c0,c1,rf,c3,c4,c5,c6,W,G,L,qX,oA,n,X,Y,i,al,out⟩) (by kernel_rfl) ?_
 simp only [xt,x0,x1,x2,x3,x4,x5,x6,Rf,VT.holds,dC,Sq]
 rw [bG h.1]
 have hd:=eP n X Y i
 have Rs:0<=dD n X Y i/\dD n X Y i<4:=by omega
 rw [Int.emod_eq_of_lt Rs.1 Rs.2,gX Rs,gY Rs]
 have x1:=hX i.toNat (by omega)
 have y1:=hY i.toNat (by omega)
 obtain ⟨m1,m2⟩:=EY Rs h1
 obtain ⟨m3,m4⟩:=EY Rs h2
 refine ⟨h,⟨by omega,Rs⟩,by unfold dh;omega,?_,?_⟩
 ·rw [xa,Mk h]
 ·rw [wZ,Mk h]
noncomputable def Jl (c0 c1:DV) (rf:Int) (c3 c4 c5 c6:DV) (W G L:Int) (qX oA:DV) (n:Nat) (X Y:Nat->Int):eA:={ dz:=[(1,[(10,.pos)])],loops:=[],dK:=[] }
theorem Ys (c0 c1:DV) (rf:Int) (c3 c4 c5 c6:DV) (W G L:Int) (qX oA:DV) (n:Nat) (X Y:Nat->Int) (hr:0<=rf/\rf<=1000000) (hL:1<=L/\L<=10000):dv prog 103 [uX c0 c1 rf c3 c4 c5 c6 W G L qX oA n X Y] (dI (kG rf L)):=by
 refine dm dJ (Jl c0 c1 rf c3 c4 c5 c6 W G L qX oA n X Y) (V:=VT.dk
  [(0:Int)<=rf/\(0:Int)<L/\rf<=9223372036854775807,dh (rf/L+1),
    dh ((rf/L+1)*L)]
  (VT.done [(rf/L+1)*L=kG rf L])) (by kernel_rfl) ?_
 simp only [VT.holds,dC,Sq]
 obtain ⟨t1,t2,t3,t4⟩:=JR hr hL
 have e:(rf/L+1)*L=kG rf L:=rfl
 rw [e]
 exact ⟨⟨by omega,by unfold dh;omega,by unfold dh;omega⟩,rfl⟩
noncomputable def CY (c0 c1:DV) (rf:Int) (c3 c4 c5 c6:DV) (W G L:Int) (qX oA:DV) (n:Nat) (X Y:Nat->Int) (i a b:Int):eA:={ dz:=[(1,[(5,.res fun _=>dI (gv n X Y G W i a)),(11,.res fun _=>dP (xa n X Y i (gv n X Y G W i a) G) (wZ n X Y i (gv n X Y G W i a) G))]),(2,[(5,.res fun _=>dI (iL n X Y G W i b)),(17,.res fun _=>dP (xa n X Y i (iL n X Y G W i b) (G+W)) (wZ n X Y i (iL n X Y G W i b) (G+W)))]),(3,[(21,.res fun _=>dI (kG rf L))])],loops:=[],dK:=[] }
namespace w2u
noncomputable section
structure Z where
 c0:DV
 c1:DV
 rf:Int
 c3:DV
 c4:DV
 c5:DV
 c6:DV
 W:Int
 G:Int
 L:Int
 qX:DV
 oA:DV
 n:Nat
 X:Nat->Int
 Y:Nat->Int
 i:Int
 a:Int
 b:Int
variable (z:Z) (a b c d:Int)
abbrev x0:=gv z.n z.X z.Y z.G z.W z.i z.a
abbrev x1:=iL z.n z.X z.Y z.G z.W z.i z.b
abbrev x2:=DV.dV [z.c0,z.c1,dI z.rf,z.c3,z.c4,z.c5,z.c6,dI z.W,dI z.G,dI z.L,z.qX,z.oA,DV.dt z.n [fun i0=>dI (z.X i0),fun i0=>dI (z.Y i0),fun i0=>dI (z.X (ix z.n ((i0:Int)+1))),fun i0=>dI (z.Y (ix z.n ((i0:Int)+1))),fun i0=>dI (fb z.n z.X z.Y (i0:Int)),fun i0=>dI (dD z.n z.X z.Y (i0:Int))],DV.dt z.n [fun i0=>dI (ov z.n z.X z.Y i0)]]
abbrev x3:=xa z.n z.X z.Y z.i (x0 z) z.G
abbrev x4:=xa z.n z.X z.Y z.i (x1 z) (z.G+z.W)
abbrev x5:=wZ z.n z.X z.Y z.i (x0 z) z.G
abbrev x6:=wZ z.n z.X z.Y z.i (x1 z) (z.G+z.W)
abbrev x7:=dv prog 35 [x2 z,dI z.i,dI a,dI b] (DV.val (Value.agg (Array.mk [Value.int IntKind.i64 c,Value.int IntKind.i64 d])))
abbrev xt:VT:=VT.dk [dv prog 36 [x2 z,dI z.i,dI z.a] (dI (x0 z)),x7 z (x0 z) z.G (x3 z) (x5 z)] (VT.dk [dv prog 96 [x2 z,dI z.i,dI z.b] (dI (x1 z)),dh (z.G+z.W),x7 z (x1 z) (z.G+z.W) (x4 z) (x6 z)] (VT.dk [dv prog 103 [x2 z] (dI (kG z.rf z.L))] (VT.done [iD (x3 z) [x4 z]=oZ z.n z.X z.Y z.G z.W z.i z.a z.b,iD (x5 z) [x6 z]=oX z.n z.X z.Y z.G z.W z.i z.a z.b,rf (0:Int),hP (x3 z) [x4 z]=oY z.n z.X z.Y z.G z.W z.i z.a z.b,hP (x5 z) [x6 z]=oW z.n z.X z.Y z.G z.W z.i z.a z.b,rf (kG z.rf z.L)])))
end
end w2u
open w2u in
theorem DD (c0 c1:DV) (rf:Int) (c3 c4 c5 c6:DV) (W G L:Int) (qX oA:DV) (n:Nat) (X Y:Nat->Int) (i a b:Int) (h:0<=i/\i<n) (hn:n<=1000) (hX:kd n X) (hY:kd n Y) (hg:mK G W) (ha:0<=a/\a<=1) (hb:0<=b/\b<=1) (hr:0<=rf/\rf<=1000000) (hL:1<=L/\L<=10000):dv prog 40 [uX c0 c1 rf c3 c4 c5 c6 W G L qX oA n X Y,dI i,dI a,dI b] (bx (oZ n X Y G W i a b) (oX n X Y G W i a b) 0 (oY n X Y G W i a b) (oW n X Y G W i a b) (kG rf L)):=by
 refine dm dJ (CY c0 c1 rf c3 c4 c5 c6 W G L qX oA n X Y i a b) (V:=xt ⟨c0,c1,rf,c3,c4,c5,c6,W,G,L,qX,oA,n,X,Y,i,a,b⟩) (by kernel_rfl) ?_
 simp only [xt,x0,x1,x2,x3,x4,x5,x6,x7,Rf,VT.holds,dC,Sq]
 have b1:=sj (n:=n) (X:=X) (Y:=Y) i hg ha
 have b2:=xS i (by omega) hX hY hg hb
 have nJ:=hg
 obtain ⟨g1,g2,g3,g4⟩:=nJ
 exact ⟨⟨wF _ _ _ _ _ _ _ _ _ _ _ _ _ _ _ _ _ h hg ha,uY _ _ _ _ _ _ _ _ _ _ _ _ _ _ _ _ _ _ h hX hY (by omega) (by omega)⟩,⟨Ir _ _ _ _ _ _ _ _ _ _ _ _ _ _ _ _ _ h hn hX hY hg hb,by unfold dh;omega,uY _ _ _ _ _ _ _ _ _ _ _ _ _ _ _ _ _ _ h hX hY (by omega) (by omega)⟩,Ys _ _ _ _ _ _ _ _ _ _ _ _ _ _ _ hr hL,yv _ _,yv _ _,vA _ _,vA _ _⟩
noncomputable def IL (nB:Nat) (B:Nat->Int) (nO:Nat) (O:Nat->Int) (W G L c:Int) (has:Bool):eA:={ dz:=[],loops:=[],dK:=[] }
theorem LS (nB:Nat) (B:Nat->Int) (nO:Nat) (O:Nat->Int) (W G L c:Int) (has:Bool) (hg:mK G W):dv prog 156 [Lay.sys nB B nO O W G L,dI c,dB has] (dI (xk G W c has)):=by
 refine dm dJ (IL nB B nO O W G L c has) (V:= .dk [ri (decide (c>0)=true)] (.ite (if decide (c>0)=true then has else false) (.dk [dh (G+W)] (.done [G+W=xk G W c has])) (.ite (decide (c>0)) (.done [G=xk G W c has]) (.ite has (.dk [dh (-G)] (.done [-G=xk G W c has])) (.dk [dh (-G),dh (-G - W)] (.done [-G - W=xk G W c has])))))) (by kernel_rfl) ?_
 simp only [VT.holds,dC,Sq]
 obtain ⟨g1,g2,g3,g4⟩:=hg
 unfold xk dh
 refine ⟨fun ⟨h1,h2⟩=>⟨by omega,by rw [ag h1,ag h2]⟩,fun h1=>⟨fun h2=>by rw [ag h2,ab (by rw [h1 h2];simp)],fun h2=>⟨fun h3=>⟨by omega,by rw [ab h2,ag h3]⟩,fun h3=>⟨by omega,by rw [ab h2,ab (by rw [h3];simp)]⟩⟩⟩⟩
noncomputable def I0 (x y x2 y2 len d al r:Int):eA:={ dz:=[(1,[(2,rSt)]),(2,[(3,.pos),(4,rSt)])],loops:=[],dK:=[] }
theorem T7 (x y x2 y2 len d al r:Int) (h:0<=d/\d<4) (hx:m3 x) (hy:m3 y) (h1: -9000000<=al/\al<=9000000) (h2: -9000000<=r/\r<=9000000):dv prog 139 [.val (.agg #[.int .i64 x,.int .i64 y,.int .i64 x2,.int .i64 y2,.int .i64 len,.int .i64 d]),dI al,dI r] (dP (x+al*kX d+r*kX ((d+3)%4)) (y+al*kW d+r*kW ((d+3)%4))):=by
 refine dm dJ (I0 x y x2 y2 len d al r) (V:= .dk [dv prog 137 [(dI d)] (.fC [(dI (kX d)),(dI (kW d))])] (.dk [dh (d+3),(0:Int)<=d+3/\(0:Int)<4,dv prog 137 [(dI ((d+3)%(4:Int)))] (.fC [(dI (kX ((d+3)%(4:Int)))),(dI (kW ((d+3)%(4:Int))))])] (.dk [dh (al*kX d),dh (x+al*kX d),dh (r*kX ((d+3)%(4:Int))),dh (x+al*kX d+r*kX ((d+3)%(4:Int))),dh (al*kW d),dh (y+al*kW d),dh (r*kW ((d+3)%(4:Int))),dh (y+al*kW d+r*kW ((d+3)%(4:Int)))] (.done [x+al*kX d+r*kX ((d+3)%(4:Int))=x+al*kX d+r*kX ((d+3)%(4:Int)),y+al*kW d+r*kW ((d+3)%(4:Int))=y+al*kW d+r*kW ((d+3)%(4:Int))])))) (by kernel_rfl) ?_
 simp only [VT.holds,dC,Sq]
 unfold m3 at hx hy
 have h3:0<=(d+3)%4/\(d+3)%4<4:=by omega
 obtain ⟨q1,q2⟩:=EY h h1
 obtain ⟨q3,q4⟩:=EY h3 h2
 refine ⟨ED _ h,⟨by unfold dh;omega,by omega,ED _ h3⟩,?_⟩
 unfold dh;omega
theorem vX0:kX 0=1:=rfl
theorem vX1:kX 1=0:=rfl
theorem vX2:kX 2= -1:=rfl
theorem vX3:kX 3=0:=rfl
theorem vY0:kW 0=0:=rfl
theorem vY1:kW 1=1:=rfl
theorem vY2:kW 2=0:=rfl
theorem vY3:kW 3= -1:=rfl
theorem pos1:((1:Int)>0)=True:=by simp
theorem neg1:((-1:Int)>0)=False:=by simp
theorem TK {d:Int} (h:0<=d/\d<4):kX ((d+3)%4)=kW d/\kW ((d+3)%4)= -kX d:=by
 obtain rfl|rfl|rfl|rfl:d=0\/d=1\/d=2\/d=3:=by omega
 all_goals exact ⟨rfl,rfl⟩
theorem Vq {n:Nat} {X Y:Nat->Int} {G W i a:Int} (ha:0<=a/\a<=1): -xk G W (gH n X Y i) (decide (a=1))=gv n X Y G W i a:=by
 unfold xk gv
 obtain rfl|rfl:a=0\/a=1:=by omega
 ·rw [show decide ((0:Int)=1)=false from rfl,ab (show ¬false=true by simp),ab (show ¬false=true by simp)]
  split<;>omega
 ·rw [show decide ((1:Int)=1)=true from rfl,ag rfl,ag rfl]
  split<;>omega
theorem Vp {n:Nat} {X Y:Nat->Int} {G W i b:Int} (hb:0<=b/\b<=1):fb n X Y i+xk G W (gH n X Y (i+1)) (decide (b=0))=iL n X Y G W i b:=by
 unfold xk iL
 obtain rfl|rfl:b=0\/b=1:=by omega
 ·rw [show decide ((0:Int)=0)=true from rfl,ag rfl,ag rfl]
  split<;>omega
 ·rw [show decide ((1:Int)=0)=false from rfl,ab (show ¬false=true by simp),ab (show ¬false=true by simp)]
  split<;>omega
theorem aab {n:Nat} {X Y:Nat->Int} {G W:Int} (h:gI n X Y=0) (hg:mK G W) (e1:lE n X Y G=0) (e2:lE n X Y (G+W)=0) {i:Nat} (hi:i<n):
 gN (oZ n X Y G W i 1 0)=true/\gN (oX n X Y G W i 1 0)=true/\gN (oY n X Y G W i 1 0)=true/\gN (oW n X Y G W i 1 0)=true/\oZ n X Y G W i 1 0<oY n X Y G W i 1 0/\oX n X Y G W i 1 0<oW n X Y G W i 1 0:=by
 have hn:=fO h
 obtain ⟨g1,g2,g3,g4⟩:=hg
 obtain ⟨a1,c1⟩:=vt e1
 obtain ⟨a2,c2⟩:=vt e2
 obtain ⟨p1,p2⟩:=eS c1
 obtain ⟨p3,p4⟩:=eS c2
 have Rb:=LJ (w:=W) a1 a2 g1 (by omega) hi
 have hj:=iV (n:=n) (i:=(i:Int)+1) (by omega)
 have ej:((ix n ((i:Int)+1):Nat):Int)=((i:Int)+1)%n:=E8 (by omega) _
 have ei:ix n (i:Int)=i:=rN hi
 have t1:=zS h hi
 have t2:=zS h hj
 have dj:dD n X Y ((ix n ((i:Int)+1):Nat):Int)=dD n X Y ((i:Int)+1):=Wx (by omega) _
 have dj1:dD n X Y (((ix n ((i:Int)+1):Nat):Int) - 1)=dD n X Y i:=by
  rw [ej]
  refine Bv (by omega) ?_
  rw [show ((i:Int)+1)%(n:Int) - 1 - i=((i:Int)+1)%n - (i+1) by omega]
  exact lJ _ _
 have cj:gH n X Y ((ix n ((i:Int)+1):Nat):Int)=gH n X Y ((i:Int)+1):=by
  rw [ej]
  exact H2 (by omega) (lJ _ _)
 rw [dj,dj1,cj] at t2
 obtain ⟨s1,s2,s3⟩:=TO (lp h hi)
 have q1:=p1 i hi
 have q2:=p2 i hi
 have q3:=p3 i hi
 have q4:=p4 i hi
 have r1:=p1 _ hj
 have r2:=p2 _ hj
 have r3:=p3 _ hj
 have r4:=p4 _ hj
 unfold zo at q1 q3 r1 r3
 unfold zn at q2 q4 r2 r4
 rw [dj,dj1,s1] at r1 r3
 rw [dj,dj1,s2] at r2 r4
 rw [ei] at r1 r2 r3 r4
 unfold oZ oY oX oW xa wZ
 rw [ei]
 unfold ko iL gv at Rb
 unfold iL gv gN
 simp only [ah]
 have d0:=eP n X Y i
 have d1:=eP n X Y ((i:Int) - 1)
 have d2:=eP n X Y ((i:Int)+1)
 generalize dD n X Y (i:Int)=D at*
 generalize dD n X Y ((i:Int) - 1)=D0 at*
 generalize dD n X Y ((i:Int)+1)=D1 at*
 generalize gH n X Y (i:Int)=C0 at*
 generalize gH n X Y ((i:Int)+1)=C1 at*
 generalize fb n X Y (i:Int)=len at*
 generalize X i=x at*
 generalize Y i=y at*
 clear s1 s2 dj dj1 cj ej ei p1 p2 p3 p4 c1 c2 a1 a2 e1 e2 h hj hn hi
 have k0:=TK (d:=D) (by omega)
 have k1:=TK (d:=D0) (by omega)
 have k2:=TK (d:=D1) (by omega)
 rw [k0.1,k1.1] at q1 q3
 rw [k0.1,k2.1] at r1 r3
 rw [k0.2,k1.2] at q2 q4
 rw [k0.2,k2.2] at r2 r4
 clear k0 k1 k2
 rcases t1 with ⟨rfl,t1⟩|⟨rfl,t1⟩<;>rcases t2 with ⟨rfl,t2⟩|⟨rfl,t2⟩<;>simp only [pos1,neg1,ba,cE] at Rb ⊢<;>
 ·obtain rfl|rfl|rfl|rfl:D=0\/D=1\/D=2\/D=3:=by omega
  all_goals
   obtain ⟨rfl⟩|⟨rfl⟩|⟨rfl⟩|⟨rfl⟩:D0=0\/D0=1\/D0=2\/D0=3:=by omega
   all_goals first
    |(exfalso;omega)
    |(obtain ⟨rfl⟩|⟨rfl⟩|⟨rfl⟩|⟨rfl⟩:D1=0\/D1=1\/D1=2\/D1=3:=by omega
      all_goals first
       |(exfalso;omega)
       |(simp only [vX0,vX1,vX2,vX3,vY0,vY1,vY2,vY3] at q1 q2 q3 q4 r1 r2 r3 r4 ⊢
         omega))
end Go.Abs
end
