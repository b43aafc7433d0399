/- Contracts and what they stand on. -/
import Derived.Test.YtoinjphpfpklmaaGreatDoorK13
set_option linter.unusedVariables false
set_option linter.unusedSimpArgs false
section
set_option maxRecDepth 100000
namespace Go.Abs
open Go
def TZ:fx:= .res fun l=>lR (ga (aX l) (aN l))
def xq (n:Nat) (X Y:Nat->Int) (x y:Int):Bool:=decide (Tw n (fun k=>2*X k) (fun k=>2*Y k) x y>0)
def YH:fx:= .res fun l=>dB (xq (aN l) (aX l) (aY l) (aI l 1+aI l 2) (aI l 3+aI l 4))
def ZX (y:Bool) (X Y:Nat->Nat->Int) (i k:Nat):Int:=if y=true then Y i k else X i k
theorem zC {n:Nat} {X Y:Nat->Int} (hn:0<n) {x y:Int} (hy: ∀k,k<n->y≠2*Y k): ∀k,Od n (fun k=>2*X k) (fun k=>2*Y k) x y k=kg n X Y x y k
 |0=>rfl
 |k+1=>by
  have e:Pb n (fun k=>2*X k) (fun k=>2*Y k) x y k=hasB n X Y x y k:=by
   unfold Pb hasB lo hi
   rw [bu]
   have h1:=hy _ (iV (i:=(k:Int)) hn)
   have h2:=hy _ (iV (i:=(k:Int)+1) hn)
   dsimp only
   generalize X (ix n k)=a at*
   generalize X (ix n (k+1))=b at*
   generalize Y (ix n k)=c at*
   generalize Y (ix n (k+1))=d at*
   omega
  rw [Od,kg,e,zC hn hy k]
theorem AN {n:Nat} {X Y:Nat->Int} (h:gI n X Y=0) {x y:Int} (hx: ∀k,k<n->x≠2*X k) (hy: ∀k,k<n->y≠2*Y k):xq n X Y x y=kg n X Y x y n:=by
 have hn:0<n:=by have:=fO h;omega
 have UA: ∀i,i<n->OV n (fun k=>2*X k) (fun k=>2*Y k) x y i=false:=fun i nU=>by
  have ho:=lp h nU
  unfold dO vZ at ho
  rw [ah] at ho
  unfold OV lo hi
  rw [aj]
  have a1:=hx _ (iV (i:=(i:Int)) hn)
  have a2:=hx _ (iV (i:=(i:Int)+1) hn)
  have a3:=hy _ (iV (i:=(i:Int)) hn)
  have a4:=hy _ (iV (i:=(i:Int)+1) hn)
  dsimp only
  generalize X (ix n i)=a at*
  generalize X (ix n (i+1))=b at*
  generalize Y (ix n i)=c at*
  generalize Y (ix n (i+1))=d at*
  omega
 unfold xq Tw
 rw [ab (fun hx=>hx UA),zC hn hy]
 cases kg n X Y x y n<;>rfl
theorem oK {n:Nat} {X:Nat->Int} {m:Nat} {X':Nat->Int} {i:Nat} (hi:i+1<(gr n X m X').length):(∀k,k<n->(gr n X m X').getD i 0+(gr n X m X').getD (i+1) 0≠2*X k)/\(∀k,k<m->(gr n X m X').getD i 0+(gr n X m X').getD (i+1) 0≠2*X' k):=by
 obtain ⟨h1,h2⟩:=jm (fw (N2 n m) (X2 X X') 2)
 have dR:=wI h1 (show i<i+1 by omega) hi
 have key: ∀x,x∈fw (N2 n m) (X2 X X') 2->(gr n X m X').getD i 0+(gr n X m X').getD (i+1) 0≠2*x:=fun x hx=>by
  have:=MS h1 hi ((h2 x).2 hx)
  unfold gr
  omega
 exact ⟨fun k hk=>key _ (wK (i:=0) (k:=k) (by omega) hk),fun k hk=>key _ (wK (i:=1) (k:=k) (by omega) hk)⟩
theorem iY (i:Nat):ml 0 i=i:=by simp [ml]
theorem QU (L:List Int) (a:Nat) (x:Int) (ha:a<=L.length) (j:Nat) (hj:j<L.length+1):(if j<a+1 then (if j<a then L.getD j 0 else x) else L.getD (j - (a+1)+a) 0)=(L.take a++(x::L.drop a)).getD j 0:=by
 have hl:(L.take a).length=a:=by rw [aQ];omega
 simp only [bB]
 by_cases h1:j<a
 ·rw [ag (by omega),ag h1,aW (by omega),bS,ag h1]
 ·rw [bk (by omega),hl]
  by_cases h2:j=a
  ·subst h2
   rw [ag (by omega),ab (by omega),da];rfl
  ·rw [ab (by omega),show j - a=(j - a - 1)+1 by omega,aJ,bK]
   congr 2;omega
theorem QT (L:List Int) (a:Nat) (x:Int) (ha:a<=L.length):(L.take a++(x::L.drop a)).length=a+1+(L.length - a):=by
 simp only [aS,aQ,aH,bn];omega
noncomputable def FP (n:Nat) (A:Nat->Int):eA:={ dz:=[],loops:=[(0,{ ι:=Nat,keep:=[0],boxes:=[],ts:=fun _ i=>[(4,dI (i:Int))],rw:=fun _ i=>[(3,1,(ga A i).length,H5 (ga A i))],inv:=fun _ i=>i<=n,mu:=fun _ i=>n - i,rd:=fun _ σ=>(ez (σ.get 4)).toNat }),(2,{ ι:=Nat,keep:=[0,4],boxes:=[],ts:=fun _ a=>[(5,dI (a:Int))],rw:=fun σ _=>[(3,1,(ga A (ez (σ.get 4)).toNat).length,H5 (ga A (ez (σ.get 4)).toNat))],inv:=fun σ a=>a<=(ga A (ez (σ.get 4)).toNat).length/\ ∀j,j<a->(ga A (ez (σ.get 4)).toNat).getD j 0<A (ez (σ.get 4)).toNat,mu:=fun σ a=>(ga A (ez (σ.get 4)).toNat).length - a,rd:=fun _ σ=>(ez (σ.get 5)).toNat })],dK:=[] }
namespace wx
noncomputable section
structure Z where
 n:Nat
 A:Nat->Int
variable (z:Z) (i0 i1 i2:Nat) (p q:Prop) (P:List Prop) (a b:Int) (k l m:Nat) (O4:Nat->Prop) (DY:Nat->VT)
abbrev x0:=Int.toNat (k:Int)
abbrev x1:=List.length (ga z.A k)
abbrev x2:=x1 z (x0 i0)
abbrev x3:Int:=(i1:Int)
abbrev x4:Int:=(↑(x2 z i0):Int)
abbrev x5:=Int.toNat 0
abbrev x6:=Int.toNat ((i0:Int)+1)
abbrev x7:=List.getD (ga z.A k) l 0
abbrev x8:=decide ((x3 i1)<(x4 z i0))
abbrev x9:= !(x3 i1==x4 z i0)
abbrev dM:=0+(x0 i1 - x5)
abbrev dQ:List Prop:=p::rf z.n::(∀i0<z.n,rf (z.A i0))::q::P
abbrev dS:=Int.toNat (x3 i1+1)
abbrev dT:=dM i1+1+(x0 (x2 z i0) - x0 i1)
abbrev dU:List Prop:=ri (x8 z i0 i1=true)::ri (x8 z i0 i1=true)::P
abbrev dY:List Prop:=(k*((nat_lit 7)+1)<=140737488355328)::(l<=m)::P
abbrev eb:=VT.dk [dh a] (VT.done ((b=(k:Int))::rf (0:Nat)::P))
abbrev eE:=0<=(i0:Int)/\(i0:Int)<(z.n:Int)
abbrev eH:=if (decide (i2<k))=true then a else (x7 z (x0 i0) (i2 - l+(0+m)))
abbrev eT:=VT.loop Nat O4 x5 ((0=(x5:Int))::rf (0:Nat)::P) DY
abbrev eG:=eb (dQ z (k=x1 z (x6 i0)) (l=x1 z (x6 i0)) [p,x6 i0<=z.n,z.n - x6 i0<z.n - i0]) ((i0:Int)+1) ((i0:Int)+1) (x6 i0)
abbrev xt:VT:=eT (dQ z ((nat_lit 0)=0) ((nat_lit 0)=0) []) (fun i0=>i0<=z.n) (fun i0=>VT.ite (decide ((i0:Int)<(z.n:Int))) (eT (dQ z (x1 z i0=x2 z i0) (rf (i0:Int)) [x1 z i0=x2 z i0,∀i1<x2 z i0,x7 z i0 i1=x7 z (x0 i0) i1]) (fun i1=>i1<=x2 z i0/\(∀i2<i1,x7 z (x0 i0) i2<(z.A (x0 i0)))) (fun i1=>VT.dk (dU z i0 i1 ((x8 z i0 i1=true->0<=x3 i1/\x3 i1<x4 z i0)::ri (x8 z i0 i1=true)::(x8 z i0 i1=true->ml 0 (x0 i1)<x2 z i0)::ri (x8 z i0 i1=true)::ri (x8 z i0 i1=true)::(x8 z i0 i1=true->eE z i0)::dU z i0 i1 (dU z i0 i1 []))) (VT.ite (if (x8 z i0 i1)=true then (decide ((x7 z (x0 i0) (ml 0 (x0 i1)))<(z.A (x0 i0)))) else false) (eb (dQ z (rf (x2 z i0)) (rf (i0:Int)) [rf (x2 z i0),∀i1<x2 z i0,rf (x7 z (x0 i0) i1),dS i1<=x2 z i0/\(∀i2<dS i1,x7 z (x0 i0) i2<(z.A (x0 i0))),x2 z i0 - dS i1<x2 z i0 - i1]) (x3 i1+1) (x3 i1+1) (dS i1)) (VT.dk [ri (x9 z i0 i1=true),ri (x9 z i0 i1=true),x9 z i0 i1=true->0<=x3 i1/\x3 i1<x4 z i0,ri (x9 z i0 i1=true),x9 z i0 i1=true->ml 0 (x0 i1)<x2 z i0,ri (x9 z i0 i1=true),ri (x9 z i0 i1=true),x9 z i0 i1=true->eE z i0,ri (x9 z i0 i1=true),ri (x9 z i0 i1=true),ri (x9 z i0 i1=true),(x3 i1==x4 z i0)=false->x9 z i0 i1=true] (VT.ite (if (x3 i1==x4 z i0)=true then true else (x7 z (x0 i0) (ml 0 (x0 i1)) !=(z.A (x0 i0)))) (VT.dk (((0:Int)<=(0:Int)/\0<=x3 i1/\x3 i1<=x4 z i0)::((0:Nat)<=(0:Nat))::dY (eE z i0::(dM i1<=dM i1)::dY ((0<=x3 i1/\x3 i1<=x4 z i0/\x4 z i0<=x4 z i0)::(dM i1+1<=dM i1+1)::dY [] (dT z i0 i1) (x0 (x2 z i0) - x0 i1+(0+x0 i1)) (x2 z i0)) (dM i1+1) (1:Nat) (1:Nat)) (dM i1) (x0 i1 - x5+(0+x5)) (x2 z i0)) (eG z i0 (∀i2<x1 z (x6 i0),eH z i0 i2 (if (decide (i2<(dM i1)))=true then (eH z i0 i2 (0:Int) (0:Nat) (0:Nat) x5) else (z.A (x0 i0))) (dM i1+1) (dM i1+1) (x0 i1)=x7 z (x6 i0) i2) (dT z i0 i1) (dT z i0 i1))) (eG z i0 (∀i1<x1 z (x6 i0),x7 z (x0 i0) i1=x7 z (x6 i0) i1) (x2 z i0) (x2 z i0))))))) (VT.done [x1 z i0<=x1 z i0,x1 z i0=x1 z z.n,∀i1<x1 z z.n,x7 z i0 i1=x7 z z.n i1]))
end
end wx
open wx in
theorem Aa (n:Nat) (A:Nat->Int) (hn:n<=1000000):dv prog 157 [nums n A] (lR (ga A n)):=by
 refine dm dJ (FP n A) (V:=xt ⟨n,A⟩) (by kernel_rfl) ?_
 simp only [xt,x0,x1,x2,x3,x4,x5,x6,x7,x8,x9,dM,dQ,dS,dT,dU,dY,eb,eE,eH,eT,eG,Rf,VT.holds,dC,Sq]
 simp only [aE,bJ,bV,aG,cE,iY]
 refine ⟨rfl,aq n,fun i hi=>⟨fun dR=>⟨rfl,⟨aq _,fun j hj=>hj.elim⟩,fun a ⟨ha,hb⟩=> ?_⟩,fun iG=> ?_⟩⟩
 ·have hl:=Dy A i
  refine ⟨⟨fun h=>⟨by omega,h⟩,fun h=>by omega,fun _=>⟨by omega,dR⟩⟩,fun ⟨h1,h2⟩=>⟨by unfold dh;omega,by omega,⟨by omega,fun j hj=> ?_⟩,by omega⟩,fun h=> ?_⟩
  ·rcases a8 j a with h|h
   ·exact hb j h
   ·rw [show j=a by omega];exact h2
  ·have hp:a=qT (A i) (ga A i):=T5 hb (by
    rcases a8 a (ga A i).length with h5|h5
    ·have:=h (by omega);exact .inr ⟨h5,by omega⟩
    ·exact .inl (by omega))
   refine ⟨⟨fun h1=>⟨by omega,by omega⟩,fun h1=>by omega,fun _=>⟨by omega,dR⟩⟩,fun h1=> ?_,fun ⟨h1,h2⟩=> ?_⟩
   ·have e:ga A (i+1)=(ga A i).take a++(A i::(ga A i).drop a):=by
     show yT (A i) (ga A i)=_
     rw [yT,<-hp,ag]
     rcases h1 with h1|h1
     ·exact .inl (by omega)
     ·exact .inr h1
    have el:a+1+((ga A i).length - a)=(ga A (i+1)).length:=by rw [e,QT _ _ _ ha]
    refine ⟨⟨⟨by omega,by omega,by omega⟩,ae _,by omega,ha,⟨by omega,dR⟩,ae _,by omega,ae _,⟨by omega,by omega,by omega⟩,ae _,by omega,by omega⟩,by unfold dh;omega,by omega,el,el,fun j hj=> ?_,by omega,by omega⟩
    rw [e]
    exact QU _ a _ ha j (by omega)
   ·have e:ga A (i+1)=ga A i:=by
     show yT (A i) (ga A i)=_
     rw [yT,<-hp,ab]
     rintro (h3|h3)
     ·exact h1 (by omega)
     ·exact h3 h2
    rw [e]
    exact ⟨by unfold dh;omega,by omega,rfl,rfl,fun _ _=>rfl,by omega,by omega⟩
 ·obtain rfl:i=n:=by omega
  exact ⟨ae _,rfl,fun _ _=>rfl⟩
noncomputable def IN (y:Bool) (m:Nat) (N:Nat->Nat) (X Y:Nat->Nat->Int):eA:={ dz:=[(11,[(1,TZ)])],loops:=[(0,{ ι:=Nat,keep:=[0,1],boxes:=[],ts:=fun _ i=>[(6,dI (i:Int))],rw:=fun _ i=>[(5,1,(fw N (ZX y X Y) i).length,H5 (fw N (ZX y X Y) i))],inv:=fun _ i=>i<=m,mu:=fun _ i=>m - i,rd:=fun _ σ=>(ez (σ.get 6)).toNat }),(2,{ ι:=Nat,keep:=[0,1,6],boxes:=[],ts:=fun _ k=>[(7,dI (k:Int))],rw:=fun σ k=>[(5,1,(jy N (ZX y X Y) (ez (σ.get 6)).toNat k).length,H5 (jy N (ZX y X Y) (ez (σ.get 6)).toNat k))],inv:=fun σ k=>k<=N (ez (σ.get 6)).toNat,mu:=fun σ k=>N (ez (σ.get 6)).toNat - k,rd:=fun _ σ=>(ez (σ.get 7)).toNat })],dK:=[] }
namespace wy
noncomputable section
structure Z where
 y:Bool
 m:Nat
 N:Nat->Nat
 X:Nat->Nat->Int
 Y:Nat->Nat->Int
variable (z:Z) (i0 i1 i2:Nat) (p:Prop) (P:List Prop) (a:Int) (k:Nat) (O4:Nat->Prop) (DY:Nat->VT) (kY:Nat->Nat->Int)
abbrev x0:=Int.toNat (i0:Int)
abbrev x1:=jy z.N (ZX z.y z.X z.Y) (x0 i0) k
abbrev x2:=List.length (x1 z i0 k)
abbrev x3:=fw z.N (ZX z.y z.X z.Y) k
abbrev x4:=Int.toNat ((i1:Int)+1)
abbrev x5:=List.length (x3 z i0)
abbrev x6:=Int.toNat 0
abbrev x7:=Int.toNat ((i0:Int)+1)
abbrev x8:= ∀i0<z.m,rf (z.N i0)/\(∀i1<(z.N i0),rf (z.X i0 i1))/\(∀i1<(z.N i0),rf (z.Y i0 i1))
abbrev x9:=ga (fun i1=>List.getD (x3 z i0) i1 0) (x5 z i0)
abbrev dM:=VT.done (p::rf (0:Nat)::P)
abbrev dQ:=fP (x3 z z.m)
abbrev dS:=0<=(i0:Int)/\(i0:Int)<(z.m:Int)
abbrev dT:=DV.val (Value.int IntKind.i64 a)
abbrev dU:=VT.loop Nat O4 x6 ((0=(x6:Int))::rf (0:Nat)::P) DY
abbrev dY:=x2 z i0 i1=List.length (x3 z (x7 i0))
abbrev eb:=i2<x2 z i0 (x4 i1)->(if (decide (i2<(x2 z i0 i1)))=true then (List.getD (x1 z i0 i1) i2 0) else (kY (x0 i0) (Int.toNat (i1:Int))))=List.getD (x1 z i0 (x4 i1)) i2 0
abbrev eE:=VT.dk [dS z i0,0<=(i1:Int)/\(i1:Int)<(↑(z.N (x0 i0)):Int),x2 z i0 i1<=x2 z i0 i1,(x2 z i0 i1+1)*((nat_lit 7)+1)<=140737488355328,(1:Nat)<=(1:Nat)] (VT.dk [dh ((i1:Int)+1)] (dM ((i1:Int)+1=(↑(x4 i1):Int)) [x2 z i0 i1+1=x2 z i0 (x4 i1),rf z.y,rf z.m,x8 z,rf (i0:Int),x2 z i0 i1+1=x2 z i0 (x4 i1),p,x4 i1<=(z.N (x0 i0)),(z.N (x0 i0)) - x4 i1<(z.N (x0 i0)) - i1]))
abbrev xt:VT:=dU [(nat_lit 0)=0,rf z.y,rf z.m,x8 z,(nat_lit 0)=0] (fun i0=>i0<=z.m) (fun i0=>VT.ite (decide ((i0:Int)<(z.m:Int))) (dU [x5 z i0=x2 z i0 x6,rf z.y,rf z.m,x8 z,rf (i0:Int),x5 z i0=x2 z i0 x6,∀i1<x2 z i0 x6,List.getD (x3 z i0) i1 0=List.getD (x1 z i0 x6) i1 0] (fun i1=>i1<=(z.N (x0 i0))) (fun i1=>VT.dk [dS z i0] (VT.ite (decide ((i1:Int)<(↑(z.N (x0 i0)):Int))) (VT.ite z.y (eE z i0 i1 (∀(i2:Nat),eb z i0 i1 i2 z.Y)) (eE z i0 i1 (∀(i2:Nat),eb z i0 i1 i2 z.X))) (VT.dk [dh ((i0:Int)+1)] (dM ((i0:Int)+1=(↑(x7 i0):Int)) [dY z i0 i1,rf z.y,rf z.m,x8 z,dY z i0 i1,∀i2<List.length (x3 z (x7 i0)),List.getD (x1 z i0 i1) i2 0=List.getD (x3 z (x7 i0)) i2 0,x7 i0<=z.m,z.m - x7 i0<z.m - i0]))))) (VT.dk [x5 z i0<=x5 z i0,dv prog 157 [DV.dt (x5 z i0) [fun i1=>dT (List.getD (x3 z i0) i1 0)]] (DV.dt (List.length (x9 z i0)) [fun i1=>dT (List.getD (x9 z i0) i1 0)])] (VT.done [List.length (x9 z i0)=List.length (dQ z),∀i1<List.length (dQ z),List.getD (x9 z i0) i1 0=List.getD (dQ z) i1 0])))
end
end wy
open wy in
theorem UP (y:Bool) (m:Nat) (N:Nat->Nat) (X Y:Nat->Nat->Int) (hm:m<=1000000) (hb:(fw N X m).length<=1000000):dv prog 129 [dB y,.dt m [fun i=>my (N i) (X i) (Y i)]] (lR (fP (fw N (ZX y X Y) m))):=by
 refine dm dJ (IN y m N X Y) (V:=xt ⟨y,m,N,X,Y⟩) (by kernel_rfl) ?_
 simp only [xt,x0,x1,x2,x3,x4,x5,x6,x7,x8,x9,dM,dQ,dS,dT,dU,dY,eb,eE,Rf,VT.holds,dC,Sq]
 have gJ: ∀Z,(fw N Z m).length<=1000000:=fun Z=>by rw [BL N Z X];exact hb
 generalize hZ:ZX y X Y=Z
 have hbZ:=gJ Z
 refine ⟨rfl,aq m,fun i hi=>⟨fun dR=>⟨?_,aq _,fun k hk=>⟨⟨by omega,dR⟩,fun oo=> ?_,fun oo=> ?_⟩⟩,fun iG=> ?_⟩⟩
 ·simp only [DK,bO,ck,b8];rfl
 ·have e1:=FJ N Z (show i+1<=m by omega)
  have e3:=Au N Z i k
  have e5:(fw N Z (i+1)).length=(fw N Z i).length+N i:=by simp [fw]
  have f1:(jy N Z i k).length+1=(jy N Z i (k+1)).length:=by rw [mP];simp
  have g1: ∀j,j<(jy N Z i (k+1)).length->(if j<(jy N Z i k).length then (jy N Z i k).getD j 0 else Z i k)=(jy N Z i (k+1)).getD j 0:=fun j hj=>by
   rw [mP];exact Ac _ _ j (by omega)
  refine ⟨fun hy=> ?_,fun hy=> ?_⟩
  ·rw [show Y i k=Z i k by rw [<-hZ,ZX,ag hy]]
   exact ⟨⟨⟨by omega,dR⟩,⟨by omega,oo⟩,ae _,by omega,ae _⟩,by unfold dh;omega,by omega,f1,f1,g1,by omega,by omega⟩
  ·rw [show X i k=Z i k by rw [<-hZ,ZX,ab (by rw [hy];simp)]]
   exact ⟨⟨⟨by omega,dR⟩,⟨by omega,oo⟩,ae _,by omega,ae _⟩,by unfold dh;omega,by omega,f1,f1,g1,by omega,by omega⟩
 ·obtain rfl:k=N i:=by omega
  simp only [G7,bO,ck,b8]
  exact ⟨by unfold dh;omega,by omega,by omega,by omega⟩
 ·obtain rfl:i=m:=by omega
  have l1:=Aa (fw N Z i).length (fun j=>(fw N Z i).getD j 0) hbZ
  refine ⟨⟨ae _,l1⟩,?_⟩
  rw [GN,DI]
  exact ⟨rfl,fun _ _=>rfl⟩
noncomputable def FX (n:Nat) (X Y:Nat->Int) (a b c d:Int):eA:={ dz:=[(6,[(8,rWhF)])],loops:=[(0,{ ι:=Nat,keep:=[0,1,2,3,4],boxes:=[],ts:=fun _ i=>[(12,dI (i:Int))],rw:=fun _ i=>[(11,2,i,[fun k=>dI (2*X k),fun k=>dI (2*Y k)])],inv:=fun _ i=>i<=n,mu:=fun _ i=>n - i,rd:=fun _ σ=>(ez (σ.get 12)).toNat })],dK:=[] }
namespace wz
noncomputable section
structure Z where
 n:Nat
 X:Nat->Int
 Y:Nat->Int
 a:Int
 b:Int
 c:Int
 d:Int
variable (z:Z) (i0:Nat) (P:List Prop) (a:Int)
abbrev x0:=Int.toNat ((i0:Int)+1)
abbrev x1:=DV.val (Value.int IntKind.i64 a)
abbrev x2:List Prop:=(0<=(i0:Int)/\(i0:Int)<(z.n:Int))::dh a::P
abbrev x3:List Prop:=rf z.n::(∀i0<z.n,rf (z.X i0))::(∀i0<z.n,rf (z.Y i0))::rf z.a::rf z.b::rf z.c::rf z.d::P
abbrev x4:=Tw i0 (fun i0=>2*(z.X i0)) (fun i0=>2*(z.Y i0)) (z.a+z.b) (z.c+z.d)
abbrev xt:VT:=VT.loop Nat (fun i0=>i0<=z.n) (Int.toNat 0) ((0=(↑(Int.toNat 0):Int))::rf (0:Nat)::(Int.toNat 0=0)::x3 z [Int.toNat 0=0]) (fun i0=>VT.ite (decide ((i0:Int)<(z.n:Int))) (VT.dk (x2 z i0 (x2 z i0 [i0<=i0,(i0+1)*((nat_lit 15)+1)<=140737488355328,(1:Nat)<=(1:Nat)] (2*(z.Y (Int.toNat (i0:Int))))) (2*(z.X (Int.toNat (i0:Int))))) (VT.dk [dh ((i0:Int)+1)] (VT.done (((i0:Int)+1=(↑(x0 i0):Int))::rf (0:Nat)::(i0+1=x0 i0)::x3 z [i0+1=x0 i0,∀i1<x0 i0,(if (decide (i1<i0))=true then (2*(z.X i1)) else (2*(z.X (Int.toNat (i0:Int)))))=2*(z.X i1),∀i1<x0 i0,(if (decide (i1<i0))=true then (2*(z.Y i1)) else (2*(z.Y (Int.toNat (i0:Int)))))=2*(z.Y i1),x0 i0<=z.n,z.n - x0 i0<z.n - i0])))) (VT.dk [dh (z.a+z.b),dh (z.c+z.d),i0<=i0,dv prog 158 [DV.dt i0 [fun i0=>x1 (2*(z.X i0)),fun i0=>x1 (2*(z.Y i0))],DV.val (Value.agg (Array.mk [Value.int IntKind.i64 (z.a+z.b),Value.int IntKind.i64 (z.c+z.d)]))] (x1 (x4 z i0))] (VT.done [decide ((x4 z i0)>(0:Int))=xq z.n z.X z.Y (z.a+z.b) (z.c+z.d)])))
end
end wz
open wz in
theorem AM (n:Nat) (X Y:Nat->Int) (a b c d:Int) (hn:0<n) (jO:n<=800) (hX:kd n X) (hY:kd n Y) (ha: -1000000<=a/\a<=1000000) (hb: -1000000<=b/\b<=1000000) (hc: -1000000<=c/\c<=1000000) (hd: -1000000<=d/\d<=1000000):dv prog 130 [my n X Y,dI a,dI b,dI c,dI d] (dB (xq n X Y (a+b) (c+d))):=by
 refine dm dJ (FX n X Y a b c d) (V:=xt ⟨n,X,Y,a,b,c,d⟩) (by kernel_rfl) ?_
 simp only [xt,x0,x1,x2,x3,x4,Rf,VT.holds,dC,Sq]
 refine ⟨rfl,aq n,fun i nU=>⟨fun dR=> ?_,fun iG=> ?_⟩⟩
 ·have b1:=hX i (by omega)
  have b2:=hY i (by omega)
  exact ⟨⟨⟨by omega,dR⟩,by unfold dh;omega,⟨by omega,dR⟩,by unfold dh;omega,ae _,by omega,ae _⟩,by unfold dh;omega,by omega,eh (f:=fun j=>2*X j) rfl,eh (f:=fun j=>2*Y j) rfl,by omega,by omega⟩
 ·obtain rfl:i=n:=by omega
  exact ⟨⟨by unfold dh;omega,by unfold dh;omega,ae _,PK _ _ _ _ _ hn jO⟩,rfl⟩
end Go.Abs
end
section
set_option maxRecDepth 100000
namespace Go.Abs
open Go
theorem Fj (y:Bool) (n:Nat) (X Y:Nat->Int) (m:Nat) (X' Y':Nat->Int) (jO:n<=800) (SQ:m<=800):
 dv prog 129 [dB y,.dt 2 [fun i=>my (N2 n m i) (X2 X X' i) (X2 Y Y' i)]] (lR (if y=true then gr n Y m Y' else gr n X m X')):=by
 have h:=UP y 2 (N2 n m) (X2 X X') (X2 Y Y') (by omega) (by simp [fw,N2];omega)
 cases y with
 |true=>exact h
 |false=>exact h
theorem zG (n:Nat) (X Y:Nat->Int) (m:Nat) (X' Y':Nat->Int) {i k:Nat} (hk:k<(gr n Y m Y').length - 1):jJ n X Y m X' Y' (((gr n Y m Y').length - 1)*i+k)=((gr n X m X').getD i 0+(gr n X m X').getD (i+1) 0,(gr n Y m Y').getD k 0+(gr n Y m Y').getD (k+1) 0):=by
 unfold jJ
 rw [Qx _ _ hk]
noncomputable def C7 (n:Nat) (X Y:Nat->Int) (m:Nat) (X' Y':Nat->Int):eA:={ dz:=[(1,[(3,.res fun _=>lR (gr n X m X')),(7,.res fun _=>lR (gr n Y m Y'))]),(8,[(19,YH),(40,YH)])],loops:=[(0,{ ι:=Nat,keep:=[0,1,5,6],boxes:=[],ts:=fun _ i=>[(7,dI (i:Int))],inv:=fun _ i=>i<=(gr n X m X').length - 1/\ ∀c,c<((gr n Y m Y').length - 1)*i->y9 n X Y m X' Y' c=false,mu:=fun _ i=>(gr n X m X').length - i,rd:=fun _ σ=>(ez (σ.get 7)).toNat }),(2,{ ι:=Nat,keep:=[0,1,5,6,7],boxes:=[],ts:=fun _ k=>[(8,dI (k:Int))],inv:=fun σ k=>k<=(gr n Y m Y').length - 1/\ ∀c,c<((gr n Y m Y').length - 1)*(ez (σ.get 7)).toNat+k->y9 n X Y m X' Y' c=false,mu:=fun _ k=>(gr n Y m Y').length - k,rd:=fun _ σ=>(ez (σ.get 8)).toNat })],dK:=[] }
namespace w10
noncomputable section
structure Z where
 n:Nat
 X:Nat->Int
 Y:Nat->Int
 m:Nat
 X':Nat->Int
 Y':Nat->Int
variable (z:Z) (i0 i1 i2:Nat) (p:Prop) (P:List Prop) (a:Int) (k:Nat) (g:Bool) (A:DV) (jM qn:Nat->Int) (sX:Nat->Prop) (Y5:Nat->VT)
abbrev x0:=gr z.n z.Y z.m z.Y'
abbrev x1:=gr z.n z.X z.m z.X'
abbrev x2:=List.getD (x0 z) (Int.toNat a) 0
abbrev x3:=List.getD (x1 z) (Int.toNat a) 0
abbrev x4:=(i0:Int)+1
abbrev x5:=(i1:Int)+1
abbrev x6:=xq k jM qn (x3 z (i0:Int)+x3 z (x4 i0)) (x2 z (i1:Int)+x2 z (x5 i1))
abbrev x7:=List.length (x0 z)
abbrev x8:List Prop:=ri (x6 z i0 i1 z.m z.X' z.Y'=true)::P
abbrev x9:=List.length (x1 z)
abbrev dM:=DV.val (Value.int IntKind.i64 a)
abbrev dQ:List Prop:=(x6 z i0 i1 z.m z.X' z.Y'=true->p)::x8 z i0 i1 (x8 z i0 i1 P)
abbrev dS:=Int.toNat (x4 i0)
abbrev dT:=Int.toNat (x5 i1)
abbrev dU:= ∀i0<x7 z,rf (List.getD (x0 z) i0 0)
abbrev dY:=dM (if (decide (i0=(0:Nat)))=true then (jM i1) else (qn i1))
abbrev eb:List Prop:=p::rf z.n::(∀i0<z.n,rf (z.X i0))::(∀i0<z.n,rf (z.Y i0))::rf z.m::(∀i0<z.m,rf (z.X' i0))::(∀i0<z.m,rf (z.Y' i0))::rf (x9 z)::(∀i0<x9 z,rf (List.getD (x1 z) i0 0))::rf (x7 z)::P
abbrev eE:=p->y9 z.n z.X z.Y z.m z.X' z.Y' k=false
abbrev eH:=0<=x5 i1/\x5 i1<(↑(x7 z):Int)
abbrev eT:=0<=(i1:Int)/\(i1:Int)<(↑(x7 z):Int)
abbrev eG:=0<=x4 i0/\x4 i0<(↑(x9 z):Int)
abbrev eZ:=0<=(i0:Int)/\(i0:Int)<(↑(x9 z):Int)
abbrev fi:=VT.loop Nat sX (Int.toNat 0) (eb z (0=(↑(Int.toNat 0):Int)) P) Y5
abbrev fR:=dv prog 130 [A,dM (x3 z (i0:Int)),dM (x3 z (x4 i0)),dM (x2 z (i1:Int)),dM (x2 z (x5 i1))] (DV.val (Value.bool g))
abbrev fU:=eE z (i2<(x7 z - 1)*Int.toNat (i0:Int)+k) i2
abbrev fS:=dv prog 129 [DV.val (Value.bool g),DV.dt 2 [fun i0=>DV.dt (if (decide (i0=(0:Nat)))=true then z.n else z.m) [fun i1=>dY i0 i1 z.X z.X',fun i1=>dY i0 i1 z.Y z.Y']]] A
abbrev fz:=VT.done [g=nW z.n z.X z.Y z.m z.X' z.Y']
abbrev xt:VT:=VT.dk [(2:Nat)<=(2:Nat),fS z false (DV.dt (x9 z) [fun i0=>dM (List.getD (x1 z) i0 0)]),(2:Nat)<=(2:Nat),fS z true (DV.dt (x7 z) [fun i0=>dM (List.getD (x0 z) i0 0)])] (fi z [dU z] (fun i0=>i0<=x9 z - 1/\(∀(i1:Nat),eE z (i1<(x7 z - 1)*i0) i1)) (fun i0=>VT.dk [dh (x4 i0)] (VT.ite (decide ((x4 i0)<(↑(x9 z):Int))) (fi z [dU z,rf (i0:Int)] (fun i1=>i1<=x7 z - 1/\(∀(i2:Nat),fU z i0 i2 i1)) (fun i1=>VT.dk [dh (x5 i1)] (VT.ite (decide ((x5 i1)<(↑(x7 z):Int))) (VT.dk (eZ z i0::dh (x4 i0)::eG z i0::eT z i1::dh (x5 i1)::eH z i1::fR z i0 i1 (x6 z i0 i1 z.m z.X' z.Y') (DV.dt z.m [fun i0=>dM (z.X' i0),fun i0=>dM (z.Y' i0)])::x8 z i0 i1 (x8 z i0 i1 (dQ z i0 i1 (eZ z i0) (dQ z i0 i1 (dh (x4 i0)) (dQ z i0 i1 (eG z i0) (x8 z i0 i1 (dQ z i0 i1 (eT z i1) (dQ z i0 i1 (dh (x5 i1)) (dQ z i0 i1 (eH z i1) (x8 z i0 i1 (x8 z i0 i1 (x8 z i0 i1 (x8 z i0 i1 (dQ z i0 i1 (fR z i0 i1 (x6 z i0 i1 z.n z.X z.Y) (DV.dt z.n [fun i0=>dM (z.X i0),fun i0=>dM (z.Y i0)])) [])))))))))))))) (VT.ite (if (x6 z i0 i1 z.m z.X' z.Y')=true then (!(x6 z i0 i1 z.n z.X z.Y)) else false) (fz z false) (VT.dk [dh (x5 i1)] (VT.done (eb z (x5 i1=(↑(dT i1):Int)) [dU z,rf (i0:Int),dT i1<=x7 z - 1/\(∀(i2:Nat),fU z i0 i2 (dT i1)),x7 z - dT i1<x7 z - i1]))))) (VT.dk [dh (x4 i0)] (VT.done (eb z (x4 i0=(↑(dS i0):Int)) [dU z,dS i0<=x9 z - 1/\(∀(i1:Nat),eE z (i1<(x7 z - 1)*dS i0) i1),x9 z - dS i0<x9 z - i0])))))) (fz z true))))
end
end w10
open w10 in
theorem Oe (n:Nat) (X Y:Nat->Int) (m:Nat) (X' Y':Nat->Int) (h:gI n X Y=0) (h':gI m X' Y'=0):dv prog 84 [my n X Y,my m X' Y'] (dB (nW n X Y m X' Y')):=by
 refine dm dJ (C7 n X Y m X' Y') (V:=xt ⟨n,X,Y,m,X',Y'⟩) (by kernel_rfl) ?_
 simp only [xt,x0,x1,x2,x3,x4,x5,x6,x7,x8,x9,dM,dQ,dS,dT,dU,dY,eb,eE,eH,eT,eG,eZ,fi,fR,fU,fS,fz,Rf,VT.holds,dC,Sq]
 have hn:=fO h
 have UD:=fO h'
 obtain ⟨hX,hY⟩:=eS h
 obtain ⟨O9,S7⟩:=eS h'
 have lx:=xF n X m X'
 have ly:=xF n Y m Y'
 have bx:=xE n X m X' 1000000 hX O9
 have Ij:=xE n Y m Y' 1000000 hY S7
 have g1:=Fj false n X Y m X' Y' (by omega) (by omega)
 have g2:=Fj true n X Y m X' Y' (by omega) (by omega)
 simp only [zl]
 refine ⟨⟨ae _,g1,ae _,g2⟩,rfl,⟨aq _,fun c hc=>absurd hc (by simp)⟩,fun i ⟨hi,hb⟩=>⟨by unfold dh;omega,fun dR=>⟨rfl,⟨aq _,hb⟩,fun k ⟨hk,gJ⟩=>⟨by unfold dh;omega,fun xC=> ?_,fun iG=> ?_⟩⟩,fun iG=> ?_⟩⟩
 ·have c1:=bx i (by omega)
  have c2:=bx (i+1) (by omega)
  have c3:=Ij k (by omega)
  have c4:=Ij (k+1) (by omega)
  have e1:=AN h' (oK (n:=n) (X:=X) (m:=m) (X':=X') (i:=i) (by omega)).2 (oK (n:=n) (X:=Y) (m:=m) (X':=Y') (i:=k) (by omega)).2
  have e2:=AN h (oK (n:=n) (X:=X) (m:=m) (X':=X') (i:=i) (by omega)).1 (oK (n:=n) (X:=Y) (m:=m) (X':=Y') (i:=k) (by omega)).1
  have fe:=zG n X Y m X' Y' (i:=i) (k:=k) (by omega)
  have Ff:((gr n Y m Y').length - 1)*i+k<wC n X Y m X' Y':=wB (by omega) (by omega)
  have s5:y9 n X Y m X' Y' (((gr n Y m Y').length - 1)*i+k)=(xq m X' Y' ((gr n X m X').getD i 0+(gr n X m X').getD (i+1) 0) ((gr n Y m Y').getD k 0+(gr n Y m Y').getD (k+1) 0)&& !xq n X Y ((gr n X m X').getD i 0+(gr n X m X').getD (i+1) 0) ((gr n Y m Y').getD k 0+(gr n Y m Y').getD (k+1) 0)):=by
   rw [y9,fe,e1,e2]
  have m1:=AM m X' Y' _ _ _ _ (by omega) (by omega) O9 S7 c1 c2 c3 c4
  have m2:=AM n X Y _ _ _ _ (by omega) (by omega) hX hY c1 c2 c3 c4
  refine ⟨⟨⟨by omega,by omega⟩,by unfold dh;omega,⟨by omega,dR⟩,⟨by omega,by omega⟩,by unfold dh;omega,⟨by omega,xC⟩,m1,fun _=>⟨by omega,by omega⟩,fun _=>by unfold dh;omega,fun _=>⟨by omega,dR⟩,fun _=>⟨by omega,by omega⟩,fun _=>by unfold dh;omega,fun _=>⟨by omega,xC⟩,fun _=>m2⟩,fun hx=> ?_,fun hx=>⟨by unfold dh;omega,by omega,⟨by omega,fun c hc=> ?_⟩,by omega⟩⟩
  ·rw [bX,nW,aj]
   intro fp
   have:=fp _ Ff
   rw [s5,hx.1,hx.2] at this
   cases this
  ·rcases a8 c (((gr n Y m Y').length - 1)*i+k) with h5|h5
   ·exact gJ c h5
   ·rw [show c=((gr n Y m Y').length - 1)*i+k by omega,s5]
    generalize xq m X' Y' _ _=p at*
    cases p with
    |false=>rfl
    |true=>rw [hx rfl];rfl
 ·have kE:k=(gr n Y m Y').length - 1:=by omega
  refine ⟨by unfold dh;omega,by omega,⟨by omega,fun c hc=>gJ c ?_⟩,by omega⟩
  rw [Nat.mul_add,Nat.mul_one] at hc
  omega
 ·have lV:i=(gr n X m X').length - 1:=by omega
  rw [bX,nW,ah]
  intro c hc
  exact hb c (by rw [lV];exact hc)
end Go.Abs
end
section
set_option maxRecDepth 100000
namespace Go.Abs
open Go
abbrev bx (a b c d e f:Int):DV:= .val (.agg #[.int .i64 a,.int .i64 b,.int .i64 c,.int .i64 d,.int .i64 e,.int .i64 f])
def nA (a b c d e f:Int):Int:=if ¬(gN a=true/\gN b=true/\gN c=true/\gN d=true/\gN e=true/\gN f=true) then 2 else if a>=d\/b>=e\/c>=f then 3 else 0
def lD (a1 b1 c1 d1 e1 f1 a2 b2 c2 d2 e2 f2:Int):Bool:=decide (max a1 a2<min d1 d2/\max b1 b2<min e1 e2/\max c1 c2<min f1 f2)
def U0 (a1 b1 c1 d1 e1 f1 a2 b2 c2 d2 e2 f2:Int):Int:=if nA a1 b1 c1 d1 e1 f1≠0 then nA a1 b1 c1 d1 e1 f1 else nA a2 b2 c2 d2 e2 f2
def YK:fx:= .res fun l=>dI (nA (fI 0 (arg l 0)) (fI 1 (arg l 0)) (fI 2 (arg l 0)) (fI 3 (arg l 0)) (fI 4 (arg l 0)) (fI 5 (arg l 0)))
def rErB:fx:= .res fun l=>dI (if nA (ic 0 (arg l 0) 0) (ic 1 (arg l 0) 0) (ic 2 (arg l 0) 0) (ic 3 (arg l 0) 0) (ic 4 (arg l 0) 0) (ic 5 (arg l 0) 0)≠0 then nA (ic 0 (arg l 0) 0) (ic 1 (arg l 0) 0) (ic 2 (arg l 0) 0) (ic 3 (arg l 0) 0) (ic 4 (arg l 0) 0) (ic 5 (arg l 0) 0) else nA (ic 0 (arg l 0) 1) (ic 1 (arg l 0) 1) (ic 2 (arg l 0) 1) (ic 3 (arg l 0) 1) (ic 4 (arg l 0) 1) (ic 5 (arg l 0) 1))
def rCm:fx:= .res fun l=> .fC [bx (max (fI 0 (arg l 0)) (fI 0 (arg l 1))) (max (fI 1 (arg l 0)) (fI 1 (arg l 1))) (max (fI 2 (arg l 0)) (fI 2 (arg l 1))) (min (fI 3 (arg l 0)) (fI 3 (arg l 1))) (min (fI 4 (arg l 0)) (fI 4 (arg l 1))) (min (fI 5 (arg l 0)) (fI 5 (arg l 1))),dB (lD (fI 0 (arg l 0)) (fI 1 (arg l 0)) (fI 2 (arg l 0)) (fI 3 (arg l 0)) (fI 4 (arg l 0)) (fI 5 (arg l 0)) (fI 0 (arg l 1)) (fI 1 (arg l 1)) (fI 2 (arg l 1)) (fI 3 (arg l 1)) (fI 4 (arg l 1)) (fI 5 (arg l 1)))]
def CK (b:Bool) (x:Int):Int:=if b=true then x else 0
def rCmR:fx:= .res fun l=> .fC [bx (CK (lD (fI 0 (arg l 0)) (fI 1 (arg l 0)) (fI 2 (arg l 0)) (fI 3 (arg l 0)) (fI 4 (arg l 0)) (fI 5 (arg l 0)) (fI 0 (arg l 1)) (fI 1 (arg l 1)) (fI 2 (arg l 1)) (fI 3 (arg l 1)) (fI 4 (arg l 1)) (fI 5 (arg l 1))) (max (fI 0 (arg l 0)) (fI 0 (arg l 1)))) (CK (lD (fI 0 (arg l 0)) (fI 1 (arg l 0)) (fI 2 (arg l 0)) (fI 3 (arg l 0)) (fI 4 (arg l 0)) (fI 5 (arg l 0)) (fI 0 (arg l 1)) (fI 1 (arg l 1)) (fI 2 (arg l 1)) (fI 3 (arg l 1)) (fI 4 (arg l 1)) (fI 5 (arg l 1))) (max (fI 1 (arg l 0)) (fI 1 (arg l 1)))) (CK (lD (fI 0 (arg l 0)) (fI 1 (arg l 0)) (fI 2 (arg l 0)) (fI 3 (arg l 0)) (fI 4 (arg l 0)) (fI 5 (arg l 0)) (fI 0 (arg l 1)) (fI 1 (arg l 1)) (fI 2 (arg l 1)) (fI 3 (arg l 1)) (fI 4 (arg l 1)) (fI 5 (arg l 1))) (max (fI 2 (arg l 0)) (fI 2 (arg l 1)))) (CK (lD (fI 0 (arg l 0)) (fI 1 (arg l 0)) (fI 2 (arg l 0)) (fI 3 (arg l 0)) (fI 4 (arg l 0)) (fI 5 (arg l 0)) (fI 0 (arg l 1)) (fI 1 (arg l 1)) (fI 2 (arg l 1)) (fI 3 (arg l 1)) (fI 4 (arg l 1)) (fI 5 (arg l 1))) (min (fI 3 (arg l 0)) (fI 3 (arg l 1)))) (CK (lD (fI 0 (arg l 0)) (fI 1 (arg l 0)) (fI 2 (arg l 0)) (fI 3 (arg l 0)) (fI 4 (arg l 0)) (fI 5 (arg l 0)) (fI 0 (arg l 1)) (fI 1 (arg l 1)) (fI 2 (arg l 1)) (fI 3 (arg l 1)) (fI 4 (arg l 1)) (fI 5 (arg l 1))) (min (fI 4 (arg l 0)) (fI 4 (arg l 1)))) (CK (lD (fI 0 (arg l 0)) (fI 1 (arg l 0)) (fI 2 (arg l 0)) (fI 3 (arg l 0)) (fI 4 (arg l 0)) (fI 5 (arg l 0)) (fI 0 (arg l 1)) (fI 1 (arg l 1)) (fI 2 (arg l 1)) (fI 3 (arg l 1)) (fI 4 (arg l 1)) (fI 5 (arg l 1))) (min (fI 5 (arg l 0)) (fI 5 (arg l 1)))),dB (lD (fI 0 (arg l 0)) (fI 1 (arg l 0)) (fI 2 (arg l 0)) (fI 3 (arg l 0)) (fI 4 (arg l 0)) (fI 5 (arg l 0)) (fI 0 (arg l 1)) (fI 1 (arg l 1)) (fI 2 (arg l 1)) (fI 3 (arg l 1)) (fI 4 (arg l 1)) (fI 5 (arg l 1)))]
def Uv (a1 b1 c1 d1 e1 f1 a2 b2 c2 d2 e2 f2:Int):Bool:=decide (U0 a1 b1 c1 d1 e1 f1 a2 b2 c2 d2 e2 f2=0)&&lD a1 b1 c1 d1 e1 f1 a2 b2 c2 d2 e2 f2
def VM:fx:= .res fun l=> .fC [dB (Uv (fI 0 (arg l 0)) (fI 1 (arg l 0)) (fI 2 (arg l 0)) (fI 3 (arg l 0)) (fI 4 (arg l 0)) (fI 5 (arg l 0)) (fI 0 (arg l 1)) (fI 1 (arg l 1)) (fI 2 (arg l 1)) (fI 3 (arg l 1)) (fI 4 (arg l 1)) (fI 5 (arg l 1))),dI (U0 (fI 0 (arg l 0)) (fI 1 (arg l 0)) (fI 2 (arg l 0)) (fI 3 (arg l 0)) (fI 4 (arg l 0)) (fI 5 (arg l 0)) (fI 0 (arg l 1)) (fI 1 (arg l 1)) (fI 2 (arg l 1)) (fI 3 (arg l 1)) (fI 4 (arg l 1)) (fI 5 (arg l 1)))]
def six (a b c d e f:Int) (j:Nat):Int:=[a,b,c,d,e,f].getD j 0
theorem LG {a b c d e f:Int}:(∀j,j<6->gN (six a b c d e f j)=true)↔(gN a=true/\gN b=true/\gN c=true/\gN d=true/\gN e=true/\gN f=true):=
 ⟨fun h=>⟨h 0 (by omega),h 1 (by omega),h 2 (by omega),h 3 (by omega),h 4 (by omega),h 5 (by omega)⟩,fun ⟨h0,h1,h2,h3,h4,h5⟩ j hj=>by
   match j,hj with
   |0,_=>exact h0
   |1,_=>exact h1
   |2,_=>exact h2
   |3,_=>exact h3
   |4,_=>exact h4
   |5,_=>exact h5⟩
theorem vA (a b:Int):hP a [b]=max a b:=by simp only [hP];split<;>omega
theorem yv (a b:Int):iD a [b]=min a b:=by simp only [iD];split<;>omega
noncomputable def BU (a b c d e f:Int):eA:={ dz:=[(4,[(1,yq)])],loops:=[(0,{ ι:=Nat,keep:=[1,17],boxes:=[1],ts:=fun _ i=>[(18,dI (i:Int))],inv:=fun _ i=>i<=6/\ ∀j,j<i->gN (six a b c d e f j)=true,mu:=fun _ i=>6 - i,rd:=fun _ σ=>(ez (σ.get 18)).toNat })],dK:=[] }
namespace w11
noncomputable section
structure Z where
 a:Int
 b:Int
 c:Int
 d:Int
 e:Int
 f:Int
variable (z:Z) (i0:Nat) (P:List Prop) (a:Int)
abbrev x0:=decide (z.a>=z.d)
abbrev x1:=if (x0 z)=true then true else (decide (z.b>=z.e))
abbrev x2:=Int.toNat ((i0:Int)+1)
abbrev x3:List Prop:=ri ((!(x0 z))=true)::P
abbrev x4:List Prop:=ri ((!(x1 z))=true)::P
abbrev x5:List Prop:=rf z.a::rf z.b::rf z.c::rf z.d::rf z.e::rf z.f::P
abbrev x6:=List.getD [z.a,z.b,z.c,z.d,z.e,z.f] (Int.toNat (i0:Int)) 0
abbrev x7:=VT.done [a=nA z.a z.b z.c z.d z.e z.f]
abbrev xt:VT:=VT.loop Nat (fun i0=>i0<=6/\(∀i1<i0,gN (six z.a z.b z.c z.d z.e z.f i1)=true)) (Int.toNat 0) ((0=(↑(Int.toNat 0):Int))::x5 z (x5 z [])) (fun i0=>VT.ite (decide ((i0:Int)<(6:Int))) (VT.dk [0<=(i0:Int)/\(i0:Int)<(↑(6:Nat):Int)] (VT.dk [dv prog 79 [DV.val (Value.int IntKind.i64 (x6 z i0))] (DV.val (Value.bool (gN (x6 z i0))))] (VT.ite (!(gN (x6 z i0))) (x7 z (2:Int)) (VT.dk [dh ((i0:Int)+1)] (VT.done (((i0:Int)+1=(↑(x2 i0):Int))::x5 z (x5 z [x2 i0<=6/\(∀i1<x2 i0,gN (six z.a z.b z.c z.d z.e z.f i1)=true),6 - x2 i0<6 - i0]))))))) (VT.dk (x3 z (x3 z (x3 z (x3 z ((x0 z=false->(!(x0 z))=true)::x4 z (x4 z (x4 z (x4 z [x1 z=false->(!(x1 z))=true])))))))) (VT.ite (if (x1 z)=true then true else (decide (z.c>=z.f))) (x7 z (3:Int)) (x7 z (0:Int)))))
end
end w11
open w11 in
theorem uA (a b c d e f:Int) :dv prog 42 [bx a b c d e f] (dI (nA a b c d e f)):=by
 refine dm dJ (BU a b c d e f) (V:=xt ⟨a,b,c,d,e,f⟩) (by kernel_rfl) ?_
 simp only [xt,x0,x1,x2,x3,x4,x5,x6,x7,Rf,VT.holds,dC,Sq]
 refine ⟨rfl,⟨by omega,fun j hj=>(by omega)⟩,fun i ⟨hi,hb⟩=>⟨fun dR=>⟨by omega,rP _,fun hx=> ?_,fun hx=>⟨by unfold dh;omega,rfl,⟨by omega,fun j hj=> ?_⟩,by omega⟩⟩,fun iG=> ?_⟩⟩
 ·rw [nA,ag (fun fp=> ?_)]
  have:=LG.2 fp i (by omega)
  rw [show [a,b,c,d,e,f].getD i 0=six a b c d e f i from rfl,this] at hx
  cases hx
 ·by_cases ej:j=i
  ·subst ej;exact hx
  ·exact hb j (by omega)
 ·have fp:=LG.1 (fun j hj=>hb j (by omega))
  refine ⟨fun h=> ?_,fun h=> ?_⟩
  ·rw [nA,ab (fun hx=>hx fp),ag (by omega)]
  ·rw [nA,ab (fun hx=>hx fp),ab (by omega)]
noncomputable def zd (a b c d e f:Int):eA:={ dz:=[(1,[(2,yq),(7,yq),(13,yq),(19,yq),(25,yq),(31,yq)])],loops:=[],dK:=[] }
namespace w12
noncomputable section
structure Z where
 a:Int
 b:Int
 c:Int
 d:Int
 e:Int
 f:Int
variable (z:Z) (p:Prop) (P:List Prop) (a b:Int) (g h:Bool)
abbrev x0:=if g=true then true else h
abbrev x1:=x0 g (!(gN a))
abbrev x2:=x1 z.b (!(gN z.a))
abbrev x3:List Prop:=ri ((!g)=true)::P
abbrev x4:=x1 z.c (x2 z)
abbrev x5:=decide (z.a>=z.d)
abbrev x6:=x1 z.d (x4 z)
abbrev x7:=g=false->(!h)=true
abbrev x8:=x0 (x5 z) (decide (z.b>=z.e))
abbrev x9:=x1 z.e (x6 z)
abbrev dM:=dv prog 124 [DV.val (Value.int IntKind.i64 a)] (DV.val (Value.bool (gN b)))
abbrev dQ:=(!g)=true->p
abbrev dS:=VT.done [a=nA z.a z.b z.c z.d z.e z.f]
abbrev xt:VT:=VT.dk (dM z.a z.a::x3 (x3 (dQ (dM z.b z.b) (!(gN z.a))::x3 (x7 (!(gN z.a)) (!(gN z.a))::x3 (x3 (dQ (dM z.c z.c) (x2 z)::x3 (x7 (x2 z) (x2 z)::x3 (x3 (dQ (dM z.d z.d) (x4 z)::x3 (x7 (x4 z) (x4 z)::x3 (x3 (dQ (dM z.e z.e) (x6 z)::x3 (x7 (x6 z) (x6 z)::x3 (x3 (dQ (dM z.f z.f) (x9 z)::x3 [x7 (x9 z) (x9 z)] (x9 z)) (x9 z)) (x9 z)) (x6 z)) (x6 z)) (x6 z)) (x4 z)) (x4 z)) (x4 z)) (x2 z)) (x2 z)) (x2 z)) (!(gN z.a))) (!(gN z.a))) (!(gN z.a))) (VT.ite (x1 z.f (x9 z)) (dS z (2:Int)) (VT.dk (x3 (x3 (x3 (x3 (x7 (x5 z) (x5 z)::x3 (x3 (x3 (x3 [x7 (x8 z) (x8 z)] (x8 z)) (x8 z)) (x8 z)) (x8 z)) (x5 z)) (x5 z)) (x5 z)) (x5 z)) (VT.ite (x0 (x8 z) (decide (z.c>=z.f))) (dS z (3:Int)) (dS z (0:Int)))))
end
end w12
open w12 in
theorem Ie (a b c d e f:Int) :dv prog 86 [bx a b c d e f] (dI (nA a b c d e f)):=by
 refine dm dJ (zd a b c d e f) (V:=xt ⟨a,b,c,d,e,f⟩) (by kernel_rfl) ?_
 simp only [xt,x0,x1,x2,x3,x4,x5,x6,x7,x8,x9,dM,dQ,dS,Rf,VT.holds,dC,Sq]
 refine ⟨⟨Cn a,fun _=>Cn b,fun _=>Cn c,fun _=>Cn d,fun _=>Cn e,fun _=>Cn f⟩,fun h=> ?_,fun h=> ?_⟩
 ·rw [nA,ag (fun ⟨h0,h1,h2,h3,h4,h5⟩=>by simp [h0,h1,h2,h3,h4,h5] at h)]
 ·have fp:gN a=true/\gN b=true/\gN c=true/\gN d=true/\gN e=true/\gN f=true:=by simpa [and_assoc] using h
  refine ⟨fun h=> ?_,fun h=> ?_⟩
  ·rw [nA,ab (fun hx=>hx fp),ag (by omega)]
  ·rw [nA,ab (fun hx=>hx fp),ab (by omega)]
noncomputable def xW (A B C D E F:Nat->Int):eA:={ dz:=[(4,[(1,YK)])],loops:=[(0,{ ι:=Nat,keep:=[6,7],boxes:=[],ts:=fun _ i=>[(8,dI (i:Int))],inv:=fun _ i=>i<=2/\ ∀j,j<i->nA (A j) (B j) (C j) (D j) (E j) (F j)=0,mu:=fun _ i=>2 - i,rd:=fun _ σ=>(ez (σ.get 8)).toNat })],dK:=[] }
namespace w13
noncomputable section
structure Z where
 A:Nat->Int
 B:Nat->Int
 C:Nat->Int
 D:Nat->Int
 E:Nat->Int
 F:Nat->Int
variable (z:Z) (i0 i1:Nat) (p:Prop) (P:List Prop) (k:Nat) (pj:Nat->Int) (yR:List Value)
abbrev x0:=pj (0:Nat)
abbrev x1:=pj (Int.toNat (i0:Int))
abbrev x2:=pj (1:Nat)
abbrev x3:=i0<2->rf (pj i0)
abbrev x4:List Value:=Value.int IntKind.i64 (x1 i0 pj)::yR
abbrev x5:=Int.toNat ((i0:Int)+1)
abbrev x6:Int:=(↑(2:Nat):Int)
abbrev x7:=nA (x0 z.A) (x0 z.B) (x0 z.C) (x0 z.D) (x0 z.E) (x0 z.F)
abbrev x8:=nA (x1 i0 z.A) (x1 i0 z.B) (x1 i0 z.C) (x1 i0 z.D) (x1 i0 z.E) (x1 i0 z.F)
abbrev x9:List Prop:=p::rf (2:Nat)::(∀(i0:Nat),x3 i0 z.A)::(∀(i0:Nat),x3 i0 z.B)::(∀(i0:Nat),x3 i0 z.C)::(∀(i0:Nat),x3 i0 z.D)::(∀(i0:Nat),x3 i0 z.E)::P
abbrev dM:=if (x7 z)≠(0:Int) then (x7 z) else (nA (x2 z.A) (x2 z.B) (x2 z.C) (x2 z.D) (x2 z.E) (x2 z.F))
abbrev dQ:=i1<k->nA (z.A i1) (z.B i1) (z.C i1) (z.D i1) (z.E i1) (z.F i1)=0
abbrev xt:VT:=VT.loop Nat (fun i0=>i0<=2/\(∀(i1:Nat),dQ z i1 i0)) (Int.toNat 0) (x9 z (0=(↑(Int.toNat 0):Int)) [∀(i0:Nat),x3 i0 z.F,rf x6]) (fun i0=>VT.ite (decide ((i0:Int)<x6)) (VT.dk [0<=(i0:Int)/\(i0:Int)<x6] (VT.dk [dv prog 42 [DV.val (Value.agg (Array.mk (x4 i0 z.A (x4 i0 z.B (x4 i0 z.C (x4 i0 z.D (x4 i0 z.E (x4 i0 z.F []))))))))] (DV.val (Value.int IntKind.i64 (x8 z i0)))] (VT.ite (x8 z i0 !=0) (VT.done [x8 z i0=dM z]) (VT.dk [dh ((i0:Int)+1)] (VT.done (x9 z ((i0:Int)+1=(↑(x5 i0):Int)) [∀(i0:Nat),x3 i0 z.F,rf x6,x5 i0<=2/\(∀(i1:Nat),dQ z i1 (x5 i0)),2 - x5 i0<2 - i0])))))) (VT.done [0=dM z]))
end
end w13
open w13 in
theorem FD (A B C D E F:Nat->Int) :dv prog 47 [.dt 2 [fun i=>dI (A i),fun i=>dI (B i),fun i=>dI (C i),fun i=>dI (D i),fun i=>dI (E i),fun i=>dI (F i)]] (dI (if nA (A 0) (B 0) (C 0) (D 0) (E 0) (F 0)≠0 then nA (A 0) (B 0) (C 0) (D 0) (E 0) (F 0) else nA (A 1) (B 1) (C 1) (D 1) (E 1) (F 1))):=by
 refine dm dJ (xW A B C D E F) (V:=xt ⟨A,B,C,D,E,F⟩) (by kernel_rfl) ?_
 simp only [xt,x0,x1,x2,x3,x4,x5,x6,x7,x8,x9,dM,dQ,Rf,VT.holds,dC,Sq]
 refine ⟨rfl,⟨by omega,fun j hj=>(by omega)⟩,fun i ⟨hi,hb⟩=>⟨fun dR=>⟨by omega,uA _ _ _ _ _ _,fun hx=> ?_,fun hx=>⟨by unfold dh;omega,rfl,⟨by omega,fun j hj=> ?_⟩,by omega⟩⟩,fun iG=> ?_⟩⟩
 ·match i,dR with
  |0,_=>rw [ag hx]
  |1,_=>rw [ab (fun h=>h (hb 0 (by omega)))]
  |i+2,dR=>omega
 ·by_cases ej:j=i
  ·subst ej;exact hx
  ·exact hb j (by omega)
 ·rw [ab (fun h=>h (hb 0 (by omega))),hb 1 (by omega)]
noncomputable def F2 (a1 b1 c1 d1 e1 f1 a2 b2 c2 d2 e2 f2:Int):eA:={ dz:=[],loops:=[],dK:=[] }
namespace w14
noncomputable section
structure Z where
 a1:Int
 b1:Int
 c1:Int
 d1:Int
 e1:Int
 f1:Int
 a2:Int
 b2:Int
 c2:Int
 d2:Int
 e2:Int
 f2:Int
variable (z:Z) (a b c d:Int)
abbrev x0:=decide ((hP a [b])<(iD c [d]))
abbrev x1:=x0 z.a1 z.a2 z.d1 z.d2
abbrev x2:=if (x1 z)=true then (x0 z.b1 z.b2 z.e1 z.e2) else false
abbrev xt:VT:=VT.dk [ri (x1 z=true),ri (x1 z=true),ri (x1 z=true),ri (x1 z=true),ri (x1 z=true),ri (x2 z=true),ri (x2 z=true),ri (x2 z=true),ri (x2 z=true),ri (x2 z=true)] (VT.done [hP z.a1 [z.a2]=max z.a1 z.a2,hP z.b1 [z.b2]=max z.b1 z.b2,hP z.c1 [z.c2]=max z.c1 z.c2,iD z.d1 [z.d2]=min z.d1 z.d2,iD z.e1 [z.e2]=min z.e1 z.e2,iD z.f1 [z.f2]=min z.f1 z.f2,(if (x2 z)=true then (x0 z.c1 z.c2 z.f1 z.f2) else false)=lD z.a1 z.b1 z.c1 z.d1 z.e1 z.f1 z.a2 z.b2 z.c2 z.d2 z.e2 z.f2])
end
end w14
open w14 in
theorem Sb (a1 b1 c1 d1 e1 f1 a2 b2 c2 d2 e2 f2:Int) :dv prog 46 [bx a1 b1 c1 d1 e1 f1,bx a2 b2 c2 d2 e2 f2] (.fC [bx (max a1 a2) (max b1 b2) (max c1 c2) (min d1 d2) (min e1 e2) (min f1 f2),dB (lD a1 b1 c1 d1 e1 f1 a2 b2 c2 d2 e2 f2)]):=by
 refine dm dJ (F2 a1 b1 c1 d1 e1 f1 a2 b2 c2 d2 e2 f2) (V:=xt ⟨a1,b1,c1,d1,e1,f1,a2,b2,c2,d2,e2,f2⟩) (by kernel_rfl) ?_
 simp only [xt,x0,x1,x2,Rf,VT.holds,dC,Sq]
 simp only [vA,yv,ck]
 simp [lD,Bool.and_assoc]
noncomputable def C8 (a1 b1 c1 d1 e1 f1 a2 b2 c2 d2 e2 f2:Int):eA:={ dz:=[],loops:=[],dK:=[] }
namespace w15
noncomputable section
structure Z where
 a1:Int
 b1:Int
 c1:Int
 d1:Int
 e1:Int
 f1:Int
 a2:Int
 b2:Int
 c2:Int
 d2:Int
 e2:Int
 f2:Int
variable (z:Z) (P:List Prop) (a b:Int)
abbrev x0:=lD z.a1 z.b1 z.c1 z.d1 z.e1 z.f1 z.a2 z.b2 z.c2 z.d2 z.e2 z.f2
abbrev x1:=decide ((hP z.a1 [z.a2])>=(iD z.d1 [z.d2]))
abbrev x2:=a=CK (x0 z) b
abbrev x3:=if (x1 z)=true then true else (decide ((hP z.b1 [z.b2])>=(iD z.e1 [z.e2])))
abbrev x4:List Prop:=x2 z (0:Int) a::P
abbrev x5:List Prop:=ri ((!(x1 z))=true)::P
abbrev x6:List Prop:=ri ((!(x3 z))=true)::P
abbrev xt:VT:=VT.dk (x5 z (x5 z (x5 z (x5 z ((x1 z=false->(!(x1 z))=true)::x6 z (x6 z (x6 z (x6 z [x3 z=false->(!(x3 z))=true])))))))) (VT.ite (if (x3 z)=true then true else (decide ((hP z.c1 [z.c2])>=(iD z.f1 [z.f2])))) (VT.done (x4 z (x4 z (x4 z (x4 z (x4 z (x4 z [false=x0 z] (min z.f1 z.f2)) (min z.e1 z.e2)) (min z.d1 z.d2)) (max z.c1 z.c2)) (max z.b1 z.b2)) (max z.a1 z.a2))) (VT.done [x2 z (hP z.a1 [z.a2]) (max z.a1 z.a2),x2 z (hP z.b1 [z.b2]) (max z.b1 z.b2),x2 z (hP z.c1 [z.c2]) (max z.c1 z.c2),x2 z (iD z.d1 [z.d2]) (min z.d1 z.d2),x2 z (iD z.e1 [z.e2]) (min z.e1 z.e2),x2 z (iD z.f1 [z.f2]) (min z.f1 z.f2),true=x0 z]))
end
end w15
open w15 in
theorem Oi (a1 b1 c1 d1 e1 f1 a2 b2 c2 d2 e2 f2:Int) :dv prog 138 [bx a1 b1 c1 d1 e1 f1,bx a2 b2 c2 d2 e2 f2] (.fC [bx (CK (lD a1 b1 c1 d1 e1 f1 a2 b2 c2 d2 e2 f2) (max a1 a2)) (CK (lD a1 b1 c1 d1 e1 f1 a2 b2 c2 d2 e2 f2) (max b1 b2)) (CK (lD a1 b1 c1 d1 e1 f1 a2 b2 c2 d2 e2 f2) (max c1 c2)) (CK (lD a1 b1 c1 d1 e1 f1 a2 b2 c2 d2 e2 f2) (min d1 d2)) (CK (lD a1 b1 c1 d1 e1 f1 a2 b2 c2 d2 e2 f2) (min e1 e2)) (CK (lD a1 b1 c1 d1 e1 f1 a2 b2 c2 d2 e2 f2) (min f1 f2)),dB (lD a1 b1 c1 d1 e1 f1 a2 b2 c2 d2 e2 f2)]):=by
 refine dm dJ (C8 a1 b1 c1 d1 e1 f1 a2 b2 c2 d2 e2 f2) (V:=xt ⟨a1,b1,c1,d1,e1,f1,a2,b2,c2,d2,e2,f2⟩) (by kernel_rfl) ?_
 simp only [xt,x0,x1,x2,x3,x4,x5,x6,Rf,VT.holds,dC,Sq]
 simp only [vA,yv]
 refine ⟨fun h=> ?_,fun h=> ?_⟩
 ·have:lD a1 b1 c1 d1 e1 f1 a2 b2 c2 d2 e2 f2=false:=by unfold lD;rw [aj];omega
  simp [this,CK]
 ·have:lD a1 b1 c1 d1 e1 f1 a2 b2 c2 d2 e2 f2=true:=by unfold lD;rw [ah];omega
  simp [this,CK]
noncomputable def C9 (a1 b1 c1 d1 e1 f1 a2 b2 c2 d2 e2 f2:Int):eA:={ dz:=[(1,[(3,rErB)]),(4,[(2,rCm)])],loops:=[],dK:=[] }
namespace w16
noncomputable section
structure Z where
 a1:Int
 b1:Int
 c1:Int
 d1:Int
 e1:Int
 f1:Int
 a2:Int
 b2:Int
 c2:Int
 d2:Int
 e2:Int
 f2:Int
variable (z:Z) (i0:Nat) (a b:Int) (g:Bool) (E:List DV) (sX:List Value)
abbrev x0:List Value:=Value.int IntKind.i64 a::Value.int IntKind.i64 b::sX
abbrev x1:=DV.val (Value.int IntKind.i64 a)
abbrev x2:=x1 (List.getD [a,b] i0 0)
abbrev x3:=nA z.a1 z.b1 z.c1 z.d1 z.e1 z.f1
abbrev x4:List DV:=DV.val (Value.agg (Array.mk (x0 a b sX)))::E
abbrev x5:=if (x3 z)≠(0:Int) then (x3 z) else (nA z.a2 z.b2 z.c2 z.d2 z.e2 z.f2)
abbrev x6:=lD z.a1 z.b1 z.c1 z.d1 z.e1 z.f1 z.a2 z.b2 z.c2 z.d2 z.e2 z.f2
abbrev x7:=VT.done [g=Uv z.a1 z.b1 z.c1 z.d1 z.e1 z.f1 z.a2 z.b2 z.c2 z.d2 z.e2 z.f2,a=U0 z.a1 z.b1 z.c1 z.d1 z.e1 z.f1 z.a2 z.b2 z.c2 z.d2 z.e2 z.f2]
abbrev xt:VT:=VT.dk [(2:Nat)<=(2:Nat),dv prog 47 [DV.dt 2 [fun i0=>x2 i0 z.a1 z.a2,fun i0=>x2 i0 z.b1 z.b2,fun i0=>x2 i0 z.c1 z.c2,fun i0=>x2 i0 z.d1 z.d2,fun i0=>x2 i0 z.e1 z.e2,fun i0=>x2 i0 z.f1 z.f2]] (x1 (x5 z))] (VT.ite (x5 z !=0) (x7 z (x5 z) false) (VT.dk [dv prog 46 (x4 z.a1 z.b1 (x4 z.a2 z.b2 [] (x0 z.c2 z.d2 (x0 z.e2 z.f2 []))) (x0 z.c1 z.d1 (x0 z.e1 z.f1 []))) (DV.fC (x4 (max z.a1 z.a2) (max z.b1 z.b2) [DV.val (Value.bool (x6 z))] (x0 (max z.c1 z.c2) (min z.d1 z.d2) (x0 (min z.e1 z.e2) (min z.f1 z.f2) []))))] (x7 z (0:Int) (x6 z))))
end
end w16
open w16 in
theorem DM (a1 b1 c1 d1 e1 f1 a2 b2 c2 d2 e2 f2:Int) :dv prog 12 [bx a1 b1 c1 d1 e1 f1,bx a2 b2 c2 d2 e2 f2] (.fC [dB (Uv a1 b1 c1 d1 e1 f1 a2 b2 c2 d2 e2 f2),dI (U0 a1 b1 c1 d1 e1 f1 a2 b2 c2 d2 e2 f2)]):=by
 refine dm dJ (C9 a1 b1 c1 d1 e1 f1 a2 b2 c2 d2 e2 f2) (V:=xt ⟨a1,b1,c1,d1,e1,f1,a2,b2,c2,d2,e2,f2⟩) (by kernel_rfl) ?_
 simp only [xt,x0,x1,x2,x3,x4,x5,x6,x7,Rf,VT.holds,dC,Sq]
 refine ⟨⟨ae 2,FD _ _ _ _ _ _⟩,fun h=> ?_,fun h=>⟨Sb a1 b1 c1 d1 e1 f1 a2 b2 c2 d2 e2 f2,?_,?_⟩⟩
 ·have:U0 a1 b1 c1 d1 e1 f1 a2 b2 c2 d2 e2 f2=if ¬nA a1 b1 c1 d1 e1 f1=0 then nA a1 b1 c1 d1 e1 f1 else nA a2 b2 c2 d2 e2 f2:=rfl
  rw [this]
  refine ⟨?_,rfl⟩
  rw [Uv,this,bI h,Bool.false_and]
 ·have:U0 a1 b1 c1 d1 e1 f1 a2 b2 c2 d2 e2 f2=0:=h
  rw [Uv,this];simp
 ·exact h.symm
end Go.Abs
end
section
set_option maxRecDepth 100000
namespace Go.Abs
open Go
structure dL where
 name:ByteArray
 nS:Nat
 fl:Nat->Int
 N:Nat->Nat
 X:Nat->Nat->Int
 Y:Nat->Nat->Int
 dE:Int
 nO:Nat
 O:Nat->Nat->Int
 nB:Nat
 B:Nat->Nat->Int
abbrev Nh (b:dL):List (Nat->DV):=[fun i=>dI (b.fl i),fun i=>my (b.N i) (b.X i) (b.Y i)]
abbrev o9 (b:dL):List (Nat->DV):=[fun i=>dI (b.O i 0),fun i=>dI (b.O i 1),fun i=>dI (b.O i 2),fun i=>dI (b.O i 3),fun i=>dI (b.O i 4),fun i=>dI (b.O i 5)]
abbrev Sk (b:dL):List (Nat->DV):=[fun i=>dI (b.B i 0),fun i=>dI (b.B i 1),fun i=>dI (b.B i 2),fun i=>dI (b.B i 3),fun i=>dI (b.B i 4),fun i=>dI (b.B i 5)]
abbrev kz (b:dL):DV:= .agg [.val (.string b.name),.dt b.nS (Nh b),dI b.dE,.dt b.nO (o9 b),.dt b.nB (Sk b)]
def Se (s:ByteArray) (i:Nat):Bool:=decide ((97<=lz s i/\lz s i<=122)\/(65<=lz s i/\lz s i<=90)\/(i≠0/\(lz s i=45\/(48<=lz s i/\lz s i<=57))))
def iO (s:ByteArray):Bool:=decide (1<=s.size/\s.size<=12/\ ∀i,i<s.size->Se s i=true)
def fj (b:dL) (i:Nat):Int:=if i+1<b.nS then b.fl (i+1) else b.dE
def AR (n:Nat):Bool:=decide (n>14/\n<=40\/n>45)
def jL (b:dL):Bool:=decide (¬(b.nS>6/\b.nS<=20\/b.nS>25\/b.nO>8/\b.nO<=100\/b.nO>105\/b.nB>6/\b.nB<=50\/b.nB>55\/b.name.size>100)/\ ∀i,i<b.nS->AR (b.N i)=false)
def TY (b:dL):fx:= .res fun l=>dI (fj b (aI l 1).toNat)
def Qg (b:dL):fx:= .res fun _=>dB (iO b.name)
theorem KQ (bs:ByteArray): ∀(k i:Nat) (r:List UInt8),bs.size - i=k->(ByteArray.toList.loop bs i r).length=r.length+k
 |0,i,r,h=>by
  unfold ByteArray.toList.loop
  rw [ab (by omega)];simp
 |k+1,i,r,h=>by
  unfold ByteArray.toList.loop
  rw [ag (by omega),KQ bs k (i+1) _ (by omega),aH];omega
theorem Ou (s:ByteArray):s.toList=(ByteArray.mk #[]).toList↔s.size=0:=by
 have h1:s.toList.length=s.size:=by
  show (ByteArray.toList.loop s 0 []).length=_
  rw [KQ s s.size 0 [] (by omega)];simp
 have h2:(ByteArray.mk #[]).toList=[]:=by
  apply cK
  show (ByteArray.toList.loop (ByteArray.mk #[]) 0 []).length=_
  rw [KQ _ 0 0 [] (by rfl)];rfl
 rw [h2]
 constructor
 ·intro h;rw [h] at h1;exact h1.symm
 ·intro h;exact cK (by omega)
noncomputable def FV (s:ByteArray):eA:={ dz:=[],loops:=[(0,{ ι:=Nat,keep:=[0,14],boxes:=[],ts:=fun _ i=>[(15,dI (i:Int))],inv:=fun _ i=>i<=s.size/\ ∀j,j<i->Se s j=true,mu:=fun _ i=>s.size - i,rd:=fun _ σ=>(ez (σ.get 15)).toNat })],dK:=[] }
namespace w17
noncomputable section
variable (z:ByteArray) (i0:Nat) (P:List Prop) (a b:Int) (g h:Bool)
abbrev x0:=lz z (Int.toNat (i0:Int))
abbrev x1:=decide ((x0 z i0)>=a)
abbrev x2:=if g=true then h else false
abbrev x3:=x2 (x1 z i0 a) (decide ((x0 z i0)<=b))
abbrev x4:=x3 z i0 (97:Int) (122:Int)
abbrev x5:=if g=true then true else h
abbrev x6:List Prop:=ri (g=true)::P
abbrev x7:= !(x5 (x4 z i0) (x3 z i0 (65:Int) (90:Int)))
abbrev x8:=(x7 z i0)&&(!((i0:Int)==0))
abbrev x9:=ByteArray.size z
abbrev dM:=(x8 z i0)&&(x0 z i0 !=45)
abbrev dQ:Int:=(↑(x9 z):Int)
abbrev dS:=ByteArray.toList z==ByteArray.toList (ByteArray.mk (List.toArray []))
abbrev dT:=Int.toNat ((i0:Int)+1)
abbrev dU:=g=false->h=true
abbrev dY:=decide ((x0 z i0)<(48:Int))
abbrev eb:=VT.done [g=iO z]
abbrev xt:VT:=VT.dk (x6 (x6 [dU (dS z) (!(dS z))] (!(dS z))) (!(dS z))) (VT.ite (x5 (dS z) (decide ((dQ z)>(12:Int)))) (eb z false) (VT.loop Nat (fun i0=>i0<=x9 z/\(∀i1<i0,Se z i1=true)) (Int.toNat 0) [0=(↑(Int.toNat 0):Int),rf z,rf (dQ z)] (fun i0=>VT.ite (decide ((i0:Int)<(dQ z))) (VT.dk [0<=(i0:Int)/\(i0:Int)<dQ z] (VT.dk (x6 (x6 (x6 (x6 (x6 (x6 [(!(x4 z i0))=true->x1 z i0 (65:Int)=true->((!(x4 z i0))&&(x1 z i0 (65:Int)))=true,dU (x4 z i0) (!(x4 z i0))] (!(x4 z i0))) ((!(x4 z i0))&&(x1 z i0 (65:Int)))) (!(x4 z i0))) (!(x4 z i0))) (x1 z i0 (97:Int))) (x1 z i0 (97:Int))) (VT.dk (x6 (x6 (x6 (x6 (x6 (x6 (x6 (x6 ((dM z i0=true->dU (dY z i0) ((dM z i0)&&(!(dY z i0))))::x6 ((x8 z i0=true->(x0 z i0 !=45)=true->dM z i0=true)::x6 ((x7 z i0=true->dU ((i0:Int)==0) (x8 z i0))::x6 [] (x7 z i0)) (x7 z i0)) (x8 z i0)) (dM z i0)) ((dM z i0)&&(!(dY z i0)))) (dM z i0)) (dM z i0)) (x8 z i0)) (x8 z i0)) (x7 z i0)) (x7 z i0)) (VT.ite (x2 (x7 z i0) (x5 ((i0:Int)==0) (x2 (x0 z i0 !=45) (x5 (dY z i0) (decide ((x0 z i0)>(57:Int))))))) (eb z false) (VT.dk [dh ((i0:Int)+1)] (VT.done [(i0:Int)+1=(↑(dT i0):Int),rf z,rf (dQ z),dT i0<=x9 z/\(∀i1<dT i0,Se z i1=true),x9 z - dT i0<x9 z - i0])))))) (eb z true))))
end
end w17
open w17 in
theorem QQ (s:ByteArray) :dv prog 104 [.val (.string s)] (dB (iO s)):=by
 refine dm dJ (FV s) (V:=xt s) (by kernel_rfl) ?_
 simp only [xt,x0,x1,x2,x3,x4,x5,x6,x7,x8,x9,dM,dQ,dS,dT,dU,dY,eb,Rf,VT.holds,dC,Sq]
 simp only [Ou]
 refine ⟨fun h=>by rw [bX,iO,aj];omega,fun h=>⟨rfl,⟨aq _,fun j hj=>absurd hj (aG j)⟩,fun i ⟨hi,hb⟩=>⟨fun dR=> ?_,fun iG=> ?_⟩⟩⟩
 ·have hs:=lz s i
  have e1:Se s i=true↔((97<=lz s i/\lz s i<=122)\/(65<=lz s i/\lz s i<=90)\/(i≠0/\(lz s i=45\/(48<=lz s i/\lz s i<=57)))):=by unfold Se;rw [ah]
  refine ⟨⟨by omega,dR⟩,fun h1 h2=>⟨h1,h2⟩,⟨fun h1 h2=>⟨h1,h2⟩,fun h1 h2=>⟨h1,h2⟩,fun h1 h2=>⟨h1,h2⟩⟩,fun h1=> ?_,fun h1=>⟨by unfold dh;omega,by omega,⟨by omega,fun j hj=> ?_⟩,by omega⟩⟩
  ·rw [bX,iO,aj]
   intro hx
   have h2:=e1.1 (hx.2.2 i (by omega))
   omega
  ·rcases a8 j i with h|h
   ·exact hb j h
   ·rw [show j=i by omega,e1]
    omega
 ·rw [bX,iO,ah]
  exact ⟨by omega,by omega,fun j hj=>hb j (by omega)⟩
noncomputable def CV (s:ByteArray):eA:={ dz:=[],loops:=[(0,{ ι:=Nat,keep:=[0],boxes:=[],ts:=fun _ i=>[(3,dI (i:Int))],inv:=fun _ i=>i<=s.size/\ ∀j,j<i->Se s j=true,mu:=fun _ i=>s.size - i,rd:=fun _ σ=>(ez (σ.get 3)).toNat })],dK:=[] }
namespace w18
noncomputable section
variable (z:ByteArray) (i0:Nat) (P:List Prop) (a b:Int) (g h:Bool)
abbrev x0:=lz z (Int.toNat (i0:Int))
abbrev x1:=decide ((x0 z i0)>=a)
abbrev x2:=if g=true then h else false
abbrev x3:=x2 (x1 z i0 a) (decide ((x0 z i0)<=b))
abbrev x4:=x3 z i0 (97:Int) (122:Int)
abbrev x5:=if g=true then true else h
abbrev x6:List Prop:=ri (g=true)::P
abbrev x7:= !(x5 (x4 z i0) (x3 z i0 (65:Int) (90:Int)))
abbrev x8:=ByteArray.size z
abbrev x9:=(x7 z i0)&&(!((i0:Int)==0))
abbrev dM:Int:=(↑(x8 z):Int)
abbrev dQ:=(x9 z i0)&&(x0 z i0 !=45)
abbrev dS:=decide ((dM z)<(1:Int))
abbrev dT:=Int.toNat ((i0:Int)+1)
abbrev dU:=g=false->h=true
abbrev dY:=decide ((x0 z i0)<(48:Int))
abbrev eb:=VT.done [g=iO z]
abbrev xt:VT:=VT.dk (x6 (x6 [dU (dS z) (!(dS z))] (!(dS z))) (!(dS z))) (VT.ite (x5 (dS z) (decide ((dM z)>(12:Int)))) (eb z false) (VT.loop Nat (fun i0=>i0<=x8 z/\(∀i1<i0,Se z i1=true)) (Int.toNat 0) [0=(↑(Int.toNat 0):Int),rf z] (fun i0=>VT.ite (decide ((i0:Int)<(dM z))) (VT.dk [0<=(i0:Int)/\(i0:Int)<dM z] (VT.dk (x6 (x6 (x6 (x6 (x6 (x6 [(!(x4 z i0))=true->x1 z i0 (65:Int)=true->((!(x4 z i0))&&(x1 z i0 (65:Int)))=true,dU (x4 z i0) (!(x4 z i0))] (!(x4 z i0))) ((!(x4 z i0))&&(x1 z i0 (65:Int)))) (!(x4 z i0))) (!(x4 z i0))) (x1 z i0 (97:Int))) (x1 z i0 (97:Int))) (VT.dk (x6 (x6 (x6 (x6 (x6 (x6 (x6 (x6 ((dQ z i0=true->dU (dY z i0) ((dQ z i0)&&(!(dY z i0))))::x6 ((x9 z i0=true->(x0 z i0 !=45)=true->dQ z i0=true)::x6 ((x7 z i0=true->dU ((i0:Int)==0) (x9 z i0))::x6 [] (x7 z i0)) (x7 z i0)) (x9 z i0)) (dQ z i0)) ((dQ z i0)&&(!(dY z i0)))) (dQ z i0)) (dQ z i0)) (x9 z i0)) (x9 z i0)) (x7 z i0)) (x7 z i0)) (VT.ite (x2 (x7 z i0) (x5 ((i0:Int)==0) (x2 (x0 z i0 !=45) (x5 (dY z i0) (decide ((x0 z i0)>(57:Int))))))) (eb z false) (VT.dk [dh ((i0:Int)+1)] (VT.done [(i0:Int)+1=(↑(dT i0):Int),rf z,dT i0<=x8 z/\(∀i1<dT i0,Se z i1=true),x8 z - dT i0<x8 z - i0])))))) (eb z true))))
end
end w18
open w18 in
theorem NM (s:ByteArray) :dv prog 81 [.val (.string s)] (dB (iO s)):=by
 refine dm dJ (CV s) (V:=xt s) (by kernel_rfl) ?_
 simp only [xt,x0,x1,x2,x3,x4,x5,x6,x7,x8,x9,dM,dQ,dS,dT,dU,dY,eb,Rf,VT.holds,dC,Sq]
 refine ⟨fun h=>by rw [bX,iO,aj];omega,fun h=>⟨rfl,⟨aq _,fun j hj=>absurd hj (aG j)⟩,fun i ⟨hi,hb⟩=>⟨fun dR=> ?_,fun iG=> ?_⟩⟩⟩
 ·have hs:=lz s i
  have e1:Se s i=true↔((97<=lz s i/\lz s i<=122)\/(65<=lz s i/\lz s i<=90)\/(i≠0/\(lz s i=45\/(48<=lz s i/\lz s i<=57)))):=by unfold Se;rw [ah]
  refine ⟨⟨by omega,dR⟩,fun h1 h2=>⟨h1,h2⟩,⟨fun h1 h2=>⟨h1,h2⟩,fun h1 h2=>⟨h1,h2⟩,fun h1 h2=>⟨h1,h2⟩⟩,fun h1=> ?_,fun h1=>⟨by unfold dh;omega,by omega,⟨by omega,fun j hj=> ?_⟩,by omega⟩⟩
  ·rw [bX,iO,aj]
   intro hx
   have h2:=e1.1 (hx.2.2 i (by omega))
   omega
  ·rcases a8 j i with h|h
   ·exact hb j h
   ·rw [show j=i by omega,e1]
    omega
 ·rw [bX,iO,ah]
  exact ⟨by omega,by omega,fun j hj=>hb j (by omega)⟩
noncomputable def OI (b:dL) (i:Nat):eA:={ dz:=[],loops:=[],dK:=[] }
theorem VD (b:dL) (i:Nat) (hi:i<=1000000):dv prog 107 [kz b,dI (i:Int)] (dI (fj b i)):=by
 refine dm dJ (OI b i) (V:=VT.dk [dh ((i:Int)+1)] (VT.ite (decide ((i:Int)+1<(b.nS:Int))) (VT.dk [dh ((i:Int)+1),(0:Int)<=(i:Int)+1/\(i:Int)+1<(b.nS:Int)] (VT.done [b.fl ((i:Int)+1).toNat=fj b i])) (VT.done [b.dE=fj b i]))) (by kernel_rfl) ?_
 simp only [VT.holds,dC,Sq]
 refine ⟨by unfold dh;omega,fun h=>⟨⟨by unfold dh;omega,by omega,h⟩,by rw [fj,ag (by omega)]⟩,fun h=>by rw [fj,ab (by omega)]⟩
noncomputable def K9 (b:dL) (i:Nat):eA:={ dz:=[],loops:=[],dK:=[] }
theorem PW (b:dL) (i:Nat) (hi:i<=1000000):dv prog 132 [kz b,dI (i:Int)] (dI (fj b i)):=by
 refine dm dJ (K9 b i) (V:=VT.dk [dh ((i:Int)+1)] (VT.ite (decide ((i:Int)+1<(b.nS:Int))) (VT.dk [dh ((i:Int)+1),(0:Int)<=(i:Int)+1/\(i:Int)+1<(b.nS:Int)] (VT.done [b.fl ((i:Int)+1).toNat=fj b i])) (VT.done [b.dE=fj b i]))) (by kernel_rfl) ?_
 simp only [VT.holds,dC,Sq]
 refine ⟨by unfold dh;omega,fun h=>⟨⟨by unfold dh;omega,by omega,h⟩,by rw [fj,ag (by omega)]⟩,fun h=>by rw [fj,ab (by omega)]⟩
noncomputable def I4 (b:dL):eA:={ dz:=[],loops:=[(0,{ ι:=Nat,keep:=[1],boxes:=[1],ts:=fun _ i=>[(3,dI (i:Int))],inv:=fun _ i=>i<=b.nS/\b.nS<=25/\ ∀j,j<i->AR (b.N j)=false,mu:=fun _ i=>b.nS - i,rd:=fun _ σ=>(ez (σ.get 3)).toNat })],dK:=[] }
namespace w1b
noncomputable section
variable (z:dL) (i0:Nat) (p:Prop) (P:List Prop) (a:Int) (k:Nat) (g h:Bool) (U:VT)
abbrev x0:=decide ((k:Int)>a)
abbrev x1:=if g=true then true else h
abbrev x2:=decide ((k:Int)<=a)
abbrev x3:=if g=true then h else false
abbrev x4:=x3 (x0 (6:Int) z.nS) (x2 (20:Int) z.nS)
abbrev x5:=x1 (x4 z) (x0 (25:Int) z.nS)
abbrev x6:List Prop:=ri (g=true)::P
abbrev x7:=x0 (8:Int) z.nO
abbrev x8:=x1 (x5 z) (x3 (x7 z) (x2 (100:Int) z.nO))
abbrev x9:=x1 (x8 z) (x0 (105:Int) z.nO)
abbrev dM:=x0 (6:Int) z.nB
abbrev dQ:=i0<z.nO->rf (z.O i0 k)
abbrev dS:=i0<z.nB->rf (z.B i0 k)
abbrev dT:=x1 (x9 z) (x3 (dM z) (x2 (50:Int) z.nB))
abbrev dU:=g=false->(!h)=true
abbrev dY:=x0 (14:Int) (z.N (Int.toNat (i0:Int)))
abbrev eb:=x1 (dT z) (x0 (55:Int) z.nB)
abbrev eE:=Int.toNat ((i0:Int)+1)
abbrev eH:=x3 (dY z i0) (x2 (40:Int) (z.N (Int.toNat (i0:Int))))
abbrev eT:=x6 P ((!(x5 z))&&(x7 z))
abbrev eG:=x6 P ((!(x9 z))&&(dM z))
abbrev eZ:=x6 (x6 P (!(x5 z))) (!(x5 z))
abbrev fi:=x6 (x6 P (!(x9 z))) (!(x9 z))
abbrev fR:=x6 (x6 P (x0 (6:Int) z.nS)) (x0 (6:Int) z.nS)
abbrev fU:= ∀(i0:Nat),dS z i0 (4:Nat)
abbrev fS:= ∀(i0:Nat),dS z i0 (5:Nat)
abbrev fz:=VT.ite g (VT.done [false=jL z]) U
abbrev gi:List Prop:=p::rf z.name::rf z.nS::(∀i0<z.nS,rf (z.fl i0))::(∀i0<z.nS,rf (z.N i0)/\(∀i1<z.N i0,rf (z.X i0 i1))/\(∀i1<z.N i0,rf (z.Y i0 i1)))::rf z.dE::rf z.nO::(∀(i0:Nat),dQ z i0 (0:Nat))::(∀(i0:Nat),dQ z i0 (1:Nat))::(∀(i0:Nat),dQ z i0 (2:Nat))::(∀(i0:Nat),dQ z i0 (3:Nat))::(∀(i0:Nat),dQ z i0 (4:Nat))::(∀(i0:Nat),dQ z i0 (5:Nat))::rf z.nB::(∀(i0:Nat),dS z i0 (0:Nat))::(∀(i0:Nat),dS z i0 (1:Nat))::(∀(i0:Nat),dS z i0 (2:Nat))::(∀(i0:Nat),dS z i0 (3:Nat))::P
abbrev xt:VT:=VT.dk (fR z (fR z (x6 (x6 (x6 (dU (x4 z) (x4 z)::eZ z (eZ z (eT z (eT z (eT z (x6 (((!(x5 z))=true->x7 z=true->((!(x5 z))&&(x7 z))=true)::dU (x5 z) (x5 z)::x6 (x6 (x6 (dU (x8 z) (x8 z)::fi z (fi z (eG z (eG z (eG z (x6 (((!(x9 z))=true->dM z=true->((!(x9 z))&&(dM z))=true)::dU (x9 z) (x9 z)::x6 (x6 (x6 (dU (dT z) (dT z)::x6 (x6 (x6 [dU (eb z) (eb z)] (!(eb z))) (!(eb z))) (!(eb z))) (!(dT z))) (!(dT z))) (!(dT z))) (!(x9 z)))))))) (!(x8 z))) (!(x8 z))) (!(x8 z))) (!(x5 z)))))))) (!(x4 z))) (!(x4 z))) (!(x4 z))))) (fz z (x1 (eb z) (x0 (100:Int) (ByteArray.size z.name))) (VT.loop Nat (fun i0=>i0<=z.nS/\z.nS<=25/\(∀i1<i0,AR (z.N i1)=false)) (Int.toNat 0) (gi z (0=(↑(Int.toNat 0):Int)) [fU z,fS z]) (fun i0=>VT.ite (decide ((i0:Int)<(z.nS:Int))) (VT.dk [0<=(i0:Int)/\(i0:Int)<(z.nS:Int)] (VT.dk (x6 (x6 (x6 [dU (eH z i0) (eH z i0)] (!(eH z i0))) (dY z i0)) (dY z i0)) (fz z (x1 (eH z i0) (x0 (45:Int) (z.N (Int.toNat (i0:Int))))) (VT.dk [dh ((i0:Int)+1)] (VT.done (gi z ((i0:Int)+1=(↑(eE i0):Int)) [fU z,fS z,eE i0<=z.nS/\z.nS<=25/\(∀i1<eE i0,AR (z.N i1)=false),z.nS - eE i0<z.nS - i0])))))) (VT.done [true=jL z]))))
end
end w1b
open w1b in
theorem TL (b:dL) :dv prog 70 [kz b] (dB (jL b)):=by
 refine dm dJ (I4 b) (V:=xt b) (by kernel_rfl) ?_
 simp only [xt,x0,x1,x2,x3,x4,x5,x6,x7,x8,x9,dM,dQ,dS,dT,dU,dY,eb,eE,eH,eT,eG,eZ,fi,fR,fU,fS,fz,gi,Rf,VT.holds,dC,Sq]
 refine ⟨⟨fun h1 h2=>⟨h1,h2⟩,fun h1 h2=>⟨h1,h2⟩⟩,fun h=> ?_,fun h=>⟨rfl,⟨aq _,by omega,fun j hj=>absurd hj (aG j)⟩,fun i ⟨hi,h25,hb⟩=>⟨fun dR=>⟨⟨by omega,dR⟩,fun h1=> ?_,fun h1=>⟨by unfold dh;omega,by omega,⟨by omega,h25,fun j hj=> ?_⟩,by omega⟩⟩,fun iG=> ?_⟩⟩⟩
 ·rw [bX,jL,aj]
  intro hx
  have:=hx.1
  omega
 ·rw [bX,jL,aj]
  intro hx
  have h2:=hx.2 i (by omega)
  rw [AR,aj] at h2
  omega
 ·rcases a8 j i with h2|h2
  ·exact hb j h2
  ·rw [show j=i by omega,AR,aj]
   omega
 ·rw [bX,jL,ah]
  exact ⟨by omega,fun j hj=>hb j (by omega)⟩
end Go.Abs
end
