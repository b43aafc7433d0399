/- Contracts and what they stand on. -/
import Derived.Test.YtoinjphpfpklmaaGreatDoorK13
set_option linter.unusedVariables false
set_option linter.unusedSimpArgs false
section
set_option maxRecDepth 100000
namespace Go.Abs
open Go
def Tx:fE:= .res fun l=>lF (gh (aX l) (aN l))
def xk (n:Nat) (X Y:Nat->Int) (x y:Int):Bool:=decide (S5 n (fun k=>2*X k) (fun k=>2*Y k) x y>0)
def Ye:fE:= .res fun l=>dB (xk (aN l) (aX l) (aY l) (aI l 1+aI l 2) (aI l 3+aI l 4))
def ZX (y:Bool) (X Y:Nat->Nat->Int) (i k:Nat):Int:=if y=true then Y i k else X i k
theorem Mi {n:Nat} {X Y:Nat->Int} (hn:0<n) {x y:Int} (hy: ∀k,k<n->y≠2*Y k): ∀k,UC n (fun k=>2*X k) (fun k=>2*Y k) x y k=kr n X Y x y k
 |0=>rfl
 |k+1=>by
  have e:crB n (fun k=>2*X k) (fun k=>2*Y k) x y k=hasB n X Y x y k:=by
   unfold crB hasB lo hi
   rw [cH]
   have h1:=hy _ (jo (i:=(k:Int)) hn)
   have h2:=hy _ (jo (i:=(k:Int)+1) hn)
   dsimp only
   generalize X (ix n k)=a at*
   generalize X (ix n (k+1))=b at*
   generalize Y (ix n k)=c at*
   generalize Y (ix n (k+1))=d at*
   omega
  rw [UC,kr,e,Mi hn hy k]
theorem Ao {n:Nat} {X Y:Nat->Int} (h:gz n X Y=0) {x y:Int} (hx: ∀k,k<n->x≠2*X k) (hy: ∀k,k<n->y≠2*Y k):xk n X Y x y=kr n X Y x y n:=by
 have hn:0<n:=by have:=fp h;omega
 have hoff: ∀i,i<n->TF n (fun k=>2*X k) (fun k=>2*Y k) x y i=false:=fun i sj=>by
  have ho:=xL h sj
  unfold dO yr at ho
  rw [ai] at ho
  unfold TF lo hi
  rw [an]
  have a1:=hx _ (jo (i:=(i:Int)) hn)
  have a2:=hx _ (jo (i:=(i:Int)+1) hn)
  have a3:=hy _ (jo (i:=(i:Int)) hn)
  have a4:=hy _ (jo (i:=(i:Int)+1) hn)
  dsimp only
  generalize X (ix n i)=a at*
  generalize X (ix n (i+1))=b at*
  generalize Y (ix n i)=c at*
  generalize Y (ix n (i+1))=d at*
  omega
 unfold xk S5
 rw [ae (fun hx=>hx hoff),Mi hn hy]
 cases kr n X Y x y n<;>rfl
theorem xB {n:Nat} {X:Nat->Int} {m:Nat} {X':Nat->Int} {i:Nat} (hi:i+1<(gr n X m X').length):(∀k,k<n->(gr n X m X').getD i 0+(gr n X m X').getD (i+1) 0≠2*X k)/\(∀k,k<m->(gr n X m X').getD i 0+(gr n X m X').getD (i+1) 0≠2*X' k):=by
 obtain ⟨h1,h2⟩:=iO (ff (N2 n m) (X2 X X') 2)
 have dK:=pV h1 (show i<i+1 by omega) hi
 have key: ∀x,x∈ff (N2 n m) (X2 X X') 2->(gr n X m X').getD i 0+(gr n X m X').getD (i+1) 0≠2*x:=fun x hx=>by
  have:=FC h1 hi ((h2 x).2 hx)
  unfold gr
  omega
 exact ⟨fun k hk=>key _ (o6 (i:=0) (k:=k) (by omega) hk),fun k hk=>key _ (o6 (i:=1) (k:=k) (by omega) hk)⟩
theorem la (i:Nat):ng 0 i=i:=by simp [ng]
theorem Qv (L:List Int) (a:Nat) (x:Int) (ha:a<=L.length) (j:Nat) (hj:j<L.length+1):(if j<a+1 then (if j<a then L.getD j 0 else x) else L.getD (j - (a+1)+a) 0)=(L.take a++(x::L.drop a)).getD j 0:=by
 have hl:(L.take a).length=a:=by rw [aQ];omega
 simp only [bc]
 by_cases h1:j<a
 ·rw [ah (by omega),ah h1,aM (by omega),bG,ah h1]
 ·rw [a7 (by omega),hl]
  by_cases h2:j=a
  ·subst h2
   rw [ah (by omega),ae (by omega),cM];rfl
  ·rw [ae (by omega),show j - a=(j - a - 1)+1 by omega,aK,bu]
   congr 2;omega
theorem Qu (L:List Int) (a:Nat) (x:Int) (ha:a<=L.length):(L.take a++(x::L.drop a)).length=a+1+(L.length - a):=by
 simp only [aO,aQ,aL,bq];omega
noncomputable def FJ (n:Nat) (A:Nat->Int):eH:={ dq:=[],loops:=[(0,{ ι:=Nat,keep:=[0],boxes:=[],ts:=fun _ i=>[(4,dI (i:Int))],rw:=fun _ i=>[(3,1,(gh A i).length,H2 (gh A i))],inv:=fun _ i=>i<=n,mu:=fun _ i=>n - i,rd:=fun _ σ=>(eA (σ.get 4)).toNat }),(2,{ ι:=Nat,keep:=[0,4],boxes:=[],ts:=fun _ a=>[(5,dI (a:Int))],rw:=fun σ _=>[(3,1,(gh A (eA (σ.get 4)).toNat).length,H2 (gh A (eA (σ.get 4)).toNat))],inv:=fun σ a=>a<=(gh A (eA (σ.get 4)).toNat).length/\ ∀j,j<a->(gh A (eA (σ.get 4)).toNat).getD j 0<A (eA (σ.get 4)).toNat,mu:=fun σ a=>(gh A (eA (σ.get 4)).toNat).length - a,rd:=fun _ σ=>(eA (σ.get 5)).toNat })],dw:=[] }
namespace wx
noncomputable section
structure Z where
 n:Nat
 A:Nat->Int
variable (z:Z) (i0 i1 i2:Nat) (p q:Prop) (P:List Prop) (a b:Int) (k l m:Nat) (Oi:Nat->Prop) (Dz:Nat->VT)
abbrev x0:=Int.toNat (k:Int)
abbrev x1:=List.length (gh z.A k)
abbrev x2:=x1 z (x0 i0)
abbrev x3:Int:=(i1:Int)
abbrev x4:Int:=(↑(x2 z i0):Int)
abbrev x5:=Int.toNat 0
abbrev x6:=Int.toNat ((i0:Int)+1)
abbrev x7:=List.getD (gh z.A k) l 0
abbrev x8:=decide ((x3 i1)<(x4 z i0))
abbrev x9:= !(x3 i1==x4 z i0)
abbrev dC:=0+(x0 i1 - x5)
abbrev dA:List Prop:=p::rf z.n::(∀i0<z.n,rf (z.A i0))::q::P
abbrev dz:=Int.toNat (x3 i1+1)
abbrev dG:=dC i1+1+(x0 (x2 z i0) - x0 i1)
abbrev dL:List Prop:=ri (x8 z i0 i1=true)::ri (x8 z i0 i1=true)::P
abbrev dR:List Prop:=(k*((nat_lit 7)+1)<=140737488355328)::(l<=m)::P
abbrev dQ:=VT.da [cZ a] (VT.done ((b=(k:Int))::rf (0:Nat)::P))
abbrev ep:=0<=(i0:Int)/\(i0:Int)<(z.n:Int)
abbrev eu:=if (decide (i2<k))=true then a else (x7 z (x0 i0) (i2 - l+(0+m)))
abbrev eG:=VT.loop Nat Oi x5 ((0=(x5:Int))::rf (0:Nat)::P) Dz
abbrev ez:=dQ (dA z (k=x1 z (x6 i0)) (l=x1 z (x6 i0)) [p,x6 i0<=z.n,z.n - x6 i0<z.n - i0]) ((i0:Int)+1) ((i0:Int)+1) (x6 i0)
abbrev xt:VT:=eG (dA z ((nat_lit 0)=0) ((nat_lit 0)=0) []) (fun i0=>i0<=z.n) (fun i0=>VT.ite (decide ((i0:Int)<(z.n:Int))) (eG (dA z (x1 z i0=x2 z i0) (rf (i0:Int)) [x1 z i0=x2 z i0,∀i1<x2 z i0,x7 z i0 i1=x7 z (x0 i0) i1]) (fun i1=>i1<=x2 z i0/\(∀i2<i1,x7 z (x0 i0) i2<(z.A (x0 i0)))) (fun i1=>VT.da (dL z i0 i1 ((x8 z i0 i1=true->0<=x3 i1/\x3 i1<x4 z i0)::ri (x8 z i0 i1=true)::(x8 z i0 i1=true->ng 0 (x0 i1)<x2 z i0)::ri (x8 z i0 i1=true)::ri (x8 z i0 i1=true)::(x8 z i0 i1=true->ep z i0)::dL z i0 i1 (dL z i0 i1 []))) (VT.ite (if (x8 z i0 i1)=true then (decide ((x7 z (x0 i0) (ng 0 (x0 i1)))<(z.A (x0 i0)))) else false) (dQ (dA z (rf (x2 z i0)) (rf (i0:Int)) [rf (x2 z i0),∀i1<x2 z i0,rf (x7 z (x0 i0) i1),dz i1<=x2 z i0/\(∀i2<dz i1,x7 z (x0 i0) i2<(z.A (x0 i0))),x2 z i0 - dz i1<x2 z i0 - i1]) (x3 i1+1) (x3 i1+1) (dz i1)) (VT.da [ri (x9 z i0 i1=true),ri (x9 z i0 i1=true),x9 z i0 i1=true->0<=x3 i1/\x3 i1<x4 z i0,ri (x9 z i0 i1=true),x9 z i0 i1=true->ng 0 (x0 i1)<x2 z i0,ri (x9 z i0 i1=true),ri (x9 z i0 i1=true),x9 z i0 i1=true->ep z i0,ri (x9 z i0 i1=true),ri (x9 z i0 i1=true),ri (x9 z i0 i1=true),(x3 i1==x4 z i0)=false->x9 z i0 i1=true] (VT.ite (if (x3 i1==x4 z i0)=true then true else (x7 z (x0 i0) (ng 0 (x0 i1)) !=(z.A (x0 i0)))) (VT.da (((0:Int)<=(0:Int)/\0<=x3 i1/\x3 i1<=x4 z i0)::((0:Nat)<=(0:Nat))::dR (ep z i0::(dC i1<=dC i1)::dR ((0<=x3 i1/\x3 i1<=x4 z i0/\x4 z i0<=x4 z i0)::(dC i1+1<=dC i1+1)::dR [] (dG z i0 i1) (x0 (x2 z i0) - x0 i1+(0+x0 i1)) (x2 z i0)) (dC i1+1) (1:Nat) (1:Nat)) (dC i1) (x0 i1 - x5+(0+x5)) (x2 z i0)) (ez z i0 (∀i2<x1 z (x6 i0),eu z i0 i2 (if (decide (i2<(dC i1)))=true then (eu z i0 i2 (0:Int) (0:Nat) (0:Nat) x5) else (z.A (x0 i0))) (dC i1+1) (dC i1+1) (x0 i1)=x7 z (x6 i0) i2) (dG z i0 i1) (dG z i0 i1))) (ez z i0 (∀i1<x1 z (x6 i0),x7 z (x0 i0) i1=x7 z (x6 i0) i1) (x2 z i0) (x2 z i0))))))) (VT.done [x1 z i0<=x1 z i0,x1 z i0=x1 z z.n,∀i1<x1 z z.n,x7 z i0 i1=x7 z z.n i1]))
end
end wx
open wx in
theorem zG (n:Nat) (A:Nat->Int) (hn:n<=1000000):dm prog 157 [nums n A] (lF (gh A n)):=by
 refine db dv (FJ n A) (V:=xt ⟨n,A⟩) (by kernel_rfl) ?_
 simp only [xt,x0,x1,x2,x3,x4,x5,x6,x7,x8,x9,dC,dA,dz,dG,dL,dR,dQ,ep,eu,eG,ez,Rf,VT.holds,dt,Sq]
 simp only [aE,bM,bU,aF,cg,la]
 refine ⟨rfl,ao n,fun i hi=>⟨fun dK=>⟨rfl,⟨ao _,fun j hj=>hj.elim⟩,fun a ⟨ha,hb⟩=> ?_⟩,fun iy=> ?_⟩⟩
 ·have hl:=C9 A i
  refine ⟨⟨fun h=>⟨by omega,h⟩,fun h=>by omega,fun _=>⟨by omega,dK⟩⟩,fun ⟨h1,h2⟩=>⟨by unfold cZ;omega,by omega,⟨by omega,fun j hj=> ?_⟩,by omega⟩,fun h=> ?_⟩
  ·rcases aU j a with h|h
   ·exact hb j h
   ·rw [show j=a by omega];exact h2
  ·have hp:a=qs (A i) (gh A i):=TB hb (by
    rcases aU a (gh A i).length with h5|h5
    ·have:=h (by omega);exact .inr ⟨h5,by omega⟩
    ·exact .inl (by omega))
   refine ⟨⟨fun h1=>⟨by omega,by omega⟩,fun h1=>by omega,fun _=>⟨by omega,dK⟩⟩,fun h1=> ?_,fun ⟨h1,h2⟩=> ?_⟩
   ·have e:gh A (i+1)=(gh A i).take a++(A i::(gh A i).drop a):=by
     show yB (A i) (gh A i)=_
     rw [yB,<-hp,ah]
     rcases h1 with h1|h1
     ·exact .inl (by omega)
     ·exact .inr h1
    have el:a+1+((gh A i).length - a)=(gh A (i+1)).length:=by rw [e,Qu _ _ _ ha]
    refine ⟨⟨⟨by omega,by omega,by omega⟩,af _,by omega,ha,⟨by omega,dK⟩,af _,by omega,af _,⟨by omega,by omega,by omega⟩,af _,by omega,by omega⟩,by unfold cZ;omega,by omega,el,el,fun j hj=> ?_,by omega,by omega⟩
    rw [e]
    exact Qv _ a _ ha j (by omega)
   ·have e:gh A (i+1)=gh A i:=by
     show yB (A i) (gh A i)=_
     rw [yB,<-hp,ae]
     rintro (h3|h3)
     ·exact h1 (by omega)
     ·exact h3 h2
    rw [e]
    exact ⟨by unfold cZ;omega,by omega,rfl,rfl,fun _ _=>rfl,by omega,by omega⟩
 ·obtain rfl:i=n:=by omega
  exact ⟨af _,rfl,fun _ _=>rfl⟩
noncomputable def II (y:Bool) (m:Nat) (N:Nat->Nat) (X Y:Nat->Nat->Int):eH:={ dq:=[(11,[(1,Tx)])],loops:=[(0,{ ι:=Nat,keep:=[0,1],boxes:=[],ts:=fun _ i=>[(6,dI (i:Int))],rw:=fun _ i=>[(5,1,(ff N (ZX y X Y) i).length,H2 (ff N (ZX y X Y) i))],inv:=fun _ i=>i<=m,mu:=fun _ i=>m - i,rd:=fun _ σ=>(eA (σ.get 6)).toNat }),(2,{ ι:=Nat,keep:=[0,1,6],boxes:=[],ts:=fun _ k=>[(7,dI (k:Int))],rw:=fun σ k=>[(5,1,(jx N (ZX y X Y) (eA (σ.get 6)).toNat k).length,H2 (jx N (ZX y X Y) (eA (σ.get 6)).toNat k))],inv:=fun σ k=>k<=N (eA (σ.get 6)).toNat,mu:=fun σ k=>N (eA (σ.get 6)).toNat - k,rd:=fun _ σ=>(eA (σ.get 7)).toNat })],dw:=[] }
namespace wy
noncomputable section
structure Z where
 y:Bool
 m:Nat
 N:Nat->Nat
 X:Nat->Nat->Int
 Y:Nat->Nat->Int
variable (z:Z) (i0 i1 i2:Nat) (p:Prop) (P:List Prop) (a:Int) (k:Nat) (Oi:Nat->Prop) (Dz:Nat->VT) (oh:Nat->Nat->Int)
abbrev x0:=Int.toNat (i0:Int)
abbrev x1:=jx z.N (ZX z.y z.X z.Y) (x0 i0) k
abbrev x2:=List.length (x1 z i0 k)
abbrev x3:=ff z.N (ZX z.y z.X z.Y) k
abbrev x4:=Int.toNat ((i1:Int)+1)
abbrev x5:=List.length (x3 z i0)
abbrev x6:=Int.toNat 0
abbrev x7:=Int.toNat ((i0:Int)+1)
abbrev x8:= ∀i0<z.m,rf (z.N i0)/\(∀i1<(z.N i0),rf (z.X i0 i1))/\(∀i1<(z.N i0),rf (z.Y i0 i1))
abbrev x9:=gh (fun i1=>List.getD (x3 z i0) i1 0) (x5 z i0)
abbrev dC:=VT.done (p::rf (0:Nat)::P)
abbrev dA:=fO (x3 z z.m)
abbrev dz:=0<=(i0:Int)/\(i0:Int)<(z.m:Int)
abbrev dG:=DV.val (Value.int IntKind.i64 a)
abbrev dL:=VT.loop Nat Oi x6 ((0=(x6:Int))::rf (0:Nat)::P) Dz
abbrev dR:=x2 z i0 i1=List.length (x3 z (x7 i0))
abbrev dQ:=i2<x2 z i0 (x4 i1)->(if (decide (i2<(x2 z i0 i1)))=true then (List.getD (x1 z i0 i1) i2 0) else (oh (x0 i0) (Int.toNat (i1:Int))))=List.getD (x1 z i0 (x4 i1)) i2 0
abbrev ep:=VT.da [dz z i0,0<=(i1:Int)/\(i1:Int)<(↑(z.N (x0 i0)):Int),x2 z i0 i1<=x2 z i0 i1,(x2 z i0 i1+1)*((nat_lit 7)+1)<=140737488355328,(1:Nat)<=(1:Nat)] (VT.da [cZ ((i1:Int)+1)] (dC ((i1:Int)+1=(↑(x4 i1):Int)) [x2 z i0 i1+1=x2 z i0 (x4 i1),rf z.y,rf z.m,x8 z,rf (i0:Int),x2 z i0 i1+1=x2 z i0 (x4 i1),p,x4 i1<=(z.N (x0 i0)),(z.N (x0 i0)) - x4 i1<(z.N (x0 i0)) - i1]))
abbrev xt:VT:=dL [(nat_lit 0)=0,rf z.y,rf z.m,x8 z,(nat_lit 0)=0] (fun i0=>i0<=z.m) (fun i0=>VT.ite (decide ((i0:Int)<(z.m:Int))) (dL [x5 z i0=x2 z i0 x6,rf z.y,rf z.m,x8 z,rf (i0:Int),x5 z i0=x2 z i0 x6,∀i1<x2 z i0 x6,List.getD (x3 z i0) i1 0=List.getD (x1 z i0 x6) i1 0] (fun i1=>i1<=(z.N (x0 i0))) (fun i1=>VT.da [dz z i0] (VT.ite (decide ((i1:Int)<(↑(z.N (x0 i0)):Int))) (VT.ite z.y (ep z i0 i1 (∀(i2:Nat),dQ z i0 i1 i2 z.Y)) (ep z i0 i1 (∀(i2:Nat),dQ z i0 i1 i2 z.X))) (VT.da [cZ ((i0:Int)+1)] (dC ((i0:Int)+1=(↑(x7 i0):Int)) [dR z i0 i1,rf z.y,rf z.m,x8 z,dR z i0 i1,∀i2<List.length (x3 z (x7 i0)),List.getD (x1 z i0 i1) i2 0=List.getD (x3 z (x7 i0)) i2 0,x7 i0<=z.m,z.m - x7 i0<z.m - i0]))))) (VT.da [x5 z i0<=x5 z i0,dm prog 157 [DV.di (x5 z i0) [fun i1=>dG (List.getD (x3 z i0) i1 0)]] (DV.di (List.length (x9 z i0)) [fun i1=>dG (List.getD (x9 z i0) i1 0)])] (VT.done [List.length (x9 z i0)=List.length (dA z),∀i1<List.length (dA z),List.getD (x9 z i0) i1 0=List.getD (dA z) i1 0])))
end
end wy
open wy in
theorem Um (y:Bool) (m:Nat) (N:Nat->Nat) (X Y:Nat->Nat->Int) (hm:m<=1000000) (hb:(ff N X m).length<=1000000):dm prog 129 [dB y,.di m [fun i=>mh (N i) (X i) (Y i)]] (lF (fO (ff N (ZX y X Y) m))):=by
 refine db dv (II y m N X Y) (V:=xt ⟨y,m,N,X,Y⟩) (by kernel_rfl) ?_
 simp only [xt,x0,x1,x2,x3,x4,x5,x6,x7,x8,x9,dC,dA,dz,dG,dL,dR,dQ,ep,Rf,VT.holds,dt,Sq]
 have hU: ∀Z,(ff N Z m).length<=1000000:=fun Z=>by rw [Bo N Z X];exact hb
 generalize hZ:ZX y X Y=Z
 have hbZ:=hU Z
 refine ⟨rfl,ao m,fun i hi=>⟨fun dK=>⟨?_,ao _,fun k hk=>⟨⟨by omega,dK⟩,fun qz=> ?_,fun qz=> ?_⟩⟩,fun iy=> ?_⟩⟩
 ·simp only [Di,cY,cQ,cR];rfl
 ·have e1:=FD N Z (show i+1<=m by omega)
  have e3:=zX N Z i k
  have e5:(ff N Z (i+1)).length=(ff N Z i).length+N i:=by simp [ff]
  have f1:(jx N Z i k).length+1=(jx N Z i (k+1)).length:=by rw [mz];simp
  have g1: ∀j,j<(jx N Z i (k+1)).length->(if j<(jx N Z i k).length then (jx N Z i k).getD j 0 else Z i k)=(jx N Z i (k+1)).getD j 0:=fun j hj=>by
   rw [mz];exact zI _ _ j (by omega)
  refine ⟨fun hy=> ?_,fun hy=> ?_⟩
  ·rw [show Y i k=Z i k by rw [<-hZ,ZX,ah hy]]
   exact ⟨⟨⟨by omega,dK⟩,⟨by omega,qz⟩,af _,by omega,af _⟩,by unfold cZ;omega,by omega,f1,f1,g1,by omega,by omega⟩
  ·rw [show X i k=Z i k by rw [<-hZ,ZX,ae (by rw [hy];simp)]]
   exact ⟨⟨⟨by omega,dK⟩,⟨by omega,qz⟩,af _,by omega,af _⟩,by unfold cZ;omega,by omega,f1,f1,g1,by omega,by omega⟩
 ·obtain rfl:k=N i:=by omega
  simp only [G2,cY,cQ,cR]
  exact ⟨by unfold cZ;omega,by omega,by omega,by omega⟩
 ·obtain rfl:i=m:=by omega
  have l1:=zG (ff N Z i).length (fun j=>(ff N Z i).getD j 0) hbZ
  refine ⟨⟨af _,l1⟩,?_⟩
  rw [GG,Dg]
  exact ⟨rfl,fun _ _=>rfl⟩
noncomputable def FP (n:Nat) (X Y:Nat->Int) (a b c d:Int):eH:={ dq:=[(6,[(8,rWhF)])],loops:=[(0,{ ι:=Nat,keep:=[0,1,2,3,4],boxes:=[],ts:=fun _ i=>[(12,dI (i:Int))],rw:=fun _ i=>[(11,2,i,[fun k=>dI (2*X k),fun k=>dI (2*Y k)])],inv:=fun _ i=>i<=n,mu:=fun _ i=>n - i,rd:=fun _ σ=>(eA (σ.get 12)).toNat })],dw:=[] }
namespace wz
noncomputable section
structure Z where
 n:Nat
 X:Nat->Int
 Y:Nat->Int
 a:Int
 b:Int
 c:Int
 d:Int
variable (z:Z) (i0:Nat) (P:List Prop) (a:Int)
abbrev x0:=Int.toNat ((i0:Int)+1)
abbrev x1:=DV.val (Value.int IntKind.i64 a)
abbrev x2:List Prop:=(0<=(i0:Int)/\(i0:Int)<(z.n:Int))::cZ a::P
abbrev x3:List Prop:=rf z.n::(∀i0<z.n,rf (z.X i0))::(∀i0<z.n,rf (z.Y i0))::rf z.a::rf z.b::rf z.c::rf z.d::P
abbrev x4:=S5 i0 (fun i0=>2*(z.X i0)) (fun i0=>2*(z.Y i0)) (z.a+z.b) (z.c+z.d)
abbrev xt:VT:=VT.loop Nat (fun i0=>i0<=z.n) (Int.toNat 0) ((0=(↑(Int.toNat 0):Int))::rf (0:Nat)::(Int.toNat 0=0)::x3 z [Int.toNat 0=0]) (fun i0=>VT.ite (decide ((i0:Int)<(z.n:Int))) (VT.da (x2 z i0 (x2 z i0 [i0<=i0,(i0+1)*((nat_lit 15)+1)<=140737488355328,(1:Nat)<=(1:Nat)] (2*(z.Y (Int.toNat (i0:Int))))) (2*(z.X (Int.toNat (i0:Int))))) (VT.da [cZ ((i0:Int)+1)] (VT.done (((i0:Int)+1=(↑(x0 i0):Int))::rf (0:Nat)::(i0+1=x0 i0)::x3 z [i0+1=x0 i0,∀i1<x0 i0,(if (decide (i1<i0))=true then (2*(z.X i1)) else (2*(z.X (Int.toNat (i0:Int)))))=2*(z.X i1),∀i1<x0 i0,(if (decide (i1<i0))=true then (2*(z.Y i1)) else (2*(z.Y (Int.toNat (i0:Int)))))=2*(z.Y i1),x0 i0<=z.n,z.n - x0 i0<z.n - i0])))) (VT.da [cZ (z.a+z.b),cZ (z.c+z.d),i0<=i0,dm prog 158 [DV.di i0 [fun i0=>x1 (2*(z.X i0)),fun i0=>x1 (2*(z.Y i0))],DV.val (Value.agg (Array.mk [Value.int IntKind.i64 (z.a+z.b),Value.int IntKind.i64 (z.c+z.d)]))] (x1 (x4 z i0))] (VT.done [decide ((x4 z i0)>(0:Int))=xk z.n z.X z.Y (z.a+z.b) (z.c+z.d)])))
end
end wz
open wz in
theorem An (n:Nat) (X Y:Nat->Int) (a b c d:Int) (hn:0<n) (jH:n<=800) (hX:kM n X) (hY:kM n Y) (ha: -1000000<=a/\a<=1000000) (hb: -1000000<=b/\b<=1000000) (hc: -1000000<=c/\c<=1000000) (hd: -1000000<=d/\d<=1000000):dm prog 130 [mh n X Y,dI a,dI b,dI c,dI d] (dB (xk n X Y (a+b) (c+d))):=by
 refine db dv (FP n X Y a b c d) (V:=xt ⟨n,X,Y,a,b,c,d⟩) (by kernel_rfl) ?_
 simp only [xt,x0,x1,x2,x3,x4,Rf,VT.holds,dt,Sq]
 refine ⟨rfl,ao n,fun i sj=>⟨fun dK=> ?_,fun iy=> ?_⟩⟩
 ·have b1:=hX i (by omega)
  have b2:=hY i (by omega)
  exact ⟨⟨⟨by omega,dK⟩,by unfold cZ;omega,⟨by omega,dK⟩,by unfold cZ;omega,af _,by omega,af _⟩,by unfold cZ;omega,by omega,fG (f:=fun j=>2*X j) rfl,fG (f:=fun j=>2*Y j) rfl,by omega,by omega⟩
 ·obtain rfl:i=n:=by omega
  exact ⟨⟨by unfold cZ;omega,by unfold cZ;omega,af _,O3 _ _ _ _ _ hn jH⟩,rfl⟩
end Go.Abs
end
section
set_option maxRecDepth 100000
namespace Go.Abs
open Go
theorem E3 (y:Bool) (n:Nat) (X Y:Nat->Int) (m:Nat) (X' Y':Nat->Int) (jH:n<=800) (Nl:m<=800):
 dm prog 129 [dB y,.di 2 [fun i=>mh (N2 n m i) (X2 X X' i) (X2 Y Y' i)]] (lF (if y=true then gr n Y m Y' else gr n X m X')):=by
 have h:=Um y 2 (N2 n m) (X2 X X') (X2 Y Y') (by omega) (by simp [ff,N2];omega)
 cases y with
 |true=>exact h
 |false=>exact h
theorem zi (n:Nat) (X Y:Nat->Int) (m:Nat) (X' Y':Nat->Int) {i k:Nat} (hk:k<(gr n Y m Y').length - 1):jF n X Y m X' Y' (((gr n Y m Y').length - 1)*i+k)=((gr n X m X').getD i 0+(gr n X m X').getD (i+1) 0,(gr n Y m Y').getD k 0+(gr n Y m Y').getD (k+1) 0):=by
 unfold jF
 rw [Qb _ _ hk]
noncomputable def CH (n:Nat) (X Y:Nat->Int) (m:Nat) (X' Y':Nat->Int):eH:={ dq:=[(1,[(3,.res fun _=>lF (gr n X m X')),(7,.res fun _=>lF (gr n Y m Y'))]),(8,[(19,Ye),(40,Ye)])],loops:=[(0,{ ι:=Nat,keep:=[0,1,5,6],boxes:=[],ts:=fun _ i=>[(7,dI (i:Int))],inv:=fun _ i=>i<=(gr n X m X').length - 1/\ ∀c,c<((gr n Y m Y').length - 1)*i->yO n X Y m X' Y' c=false,mu:=fun _ i=>(gr n X m X').length - i,rd:=fun _ σ=>(eA (σ.get 7)).toNat }),(2,{ ι:=Nat,keep:=[0,1,5,6,7],boxes:=[],ts:=fun _ k=>[(8,dI (k:Int))],inv:=fun σ k=>k<=(gr n Y m Y').length - 1/\ ∀c,c<((gr n Y m Y').length - 1)*(eA (σ.get 7)).toNat+k->yO n X Y m X' Y' c=false,mu:=fun _ k=>(gr n Y m Y').length - k,rd:=fun _ σ=>(eA (σ.get 8)).toNat })],dw:=[] }
namespace w10
noncomputable section
structure Z where
 n:Nat
 X:Nat->Int
 Y:Nat->Int
 m:Nat
 X':Nat->Int
 Y':Nat->Int
variable (z:Z) (i0 i1 i2:Nat) (p:Prop) (P:List Prop) (a:Int) (k:Nat) (g:Bool) (A:DV) (mR yA:Nat->Int) (vu:Nat->Prop) (BW:Nat->VT)
abbrev x0:=gr z.n z.Y z.m z.Y'
abbrev x1:=gr z.n z.X z.m z.X'
abbrev x2:=List.getD (x0 z) (Int.toNat a) 0
abbrev x3:=List.getD (x1 z) (Int.toNat a) 0
abbrev x4:=(i0:Int)+1
abbrev x5:=(i1:Int)+1
abbrev x6:=xk k mR yA (x3 z (i0:Int)+x3 z (x4 i0)) (x2 z (i1:Int)+x2 z (x5 i1))
abbrev x7:=List.length (x0 z)
abbrev x8:List Prop:=ri (x6 z i0 i1 z.m z.X' z.Y'=true)::P
abbrev x9:=List.length (x1 z)
abbrev dC:=DV.val (Value.int IntKind.i64 a)
abbrev dA:List Prop:=(x6 z i0 i1 z.m z.X' z.Y'=true->p)::x8 z i0 i1 (x8 z i0 i1 P)
abbrev dz:=Int.toNat (x4 i0)
abbrev dG:=Int.toNat (x5 i1)
abbrev dL:= ∀i0<x7 z,rf (List.getD (x0 z) i0 0)
abbrev dR:=dC (if (decide (i0=(0:Nat)))=true then (mR i1) else (yA i1))
abbrev dQ:List Prop:=p::rf z.n::(∀i0<z.n,rf (z.X i0))::(∀i0<z.n,rf (z.Y i0))::rf z.m::(∀i0<z.m,rf (z.X' i0))::(∀i0<z.m,rf (z.Y' i0))::rf (x9 z)::(∀i0<x9 z,rf (List.getD (x1 z) i0 0))::rf (x7 z)::P
abbrev ep:=p->yO z.n z.X z.Y z.m z.X' z.Y' k=false
abbrev eu:=0<=x5 i1/\x5 i1<(↑(x7 z):Int)
abbrev eG:=0<=(i1:Int)/\(i1:Int)<(↑(x7 z):Int)
abbrev ez:=0<=x4 i0/\x4 i0<(↑(x9 z):Int)
abbrev eF:=0<=(i0:Int)/\(i0:Int)<(↑(x9 z):Int)
abbrev eQ:=VT.loop Nat vu (Int.toNat 0) (dQ z (0=(↑(Int.toNat 0):Int)) P) BW
abbrev fC:=dm prog 130 [A,dC (x3 z (i0:Int)),dC (x3 z (x4 i0)),dC (x2 z (i1:Int)),dC (x2 z (x5 i1))] (DV.val (Value.bool g))
abbrev fM:=ep z (i2<(x7 z - 1)*Int.toNat (i0:Int)+k) i2
abbrev fR:=dm prog 129 [DV.val (Value.bool g),DV.di 2 [fun i0=>DV.di (if (decide (i0=(0:Nat)))=true then z.n else z.m) [fun i1=>dR i0 i1 z.X z.X',fun i1=>dR i0 i1 z.Y z.Y']]] A
abbrev fj:=VT.done [g=nu z.n z.X z.Y z.m z.X' z.Y']
abbrev xt:VT:=VT.da [(2:Nat)<=(2:Nat),fR z false (DV.di (x9 z) [fun i0=>dC (List.getD (x1 z) i0 0)]),(2:Nat)<=(2:Nat),fR z true (DV.di (x7 z) [fun i0=>dC (List.getD (x0 z) i0 0)])] (eQ z [dL z] (fun i0=>i0<=x9 z - 1/\(∀(i1:Nat),ep z (i1<(x7 z - 1)*i0) i1)) (fun i0=>VT.da [cZ (x4 i0)] (VT.ite (decide ((x4 i0)<(↑(x9 z):Int))) (eQ z [dL z,rf (i0:Int)] (fun i1=>i1<=x7 z - 1/\(∀(i2:Nat),fM z i0 i2 i1)) (fun i1=>VT.da [cZ (x5 i1)] (VT.ite (decide ((x5 i1)<(↑(x7 z):Int))) (VT.da (eF z i0::cZ (x4 i0)::ez z i0::eG z i1::cZ (x5 i1)::eu z i1::fC z i0 i1 (x6 z i0 i1 z.m z.X' z.Y') (DV.di z.m [fun i0=>dC (z.X' i0),fun i0=>dC (z.Y' i0)])::x8 z i0 i1 (x8 z i0 i1 (dA z i0 i1 (eF z i0) (dA z i0 i1 (cZ (x4 i0)) (dA z i0 i1 (ez z i0) (x8 z i0 i1 (dA z i0 i1 (eG z i1) (dA z i0 i1 (cZ (x5 i1)) (dA z i0 i1 (eu z i1) (x8 z i0 i1 (x8 z i0 i1 (x8 z i0 i1 (x8 z i0 i1 (dA z i0 i1 (fC z i0 i1 (x6 z i0 i1 z.n z.X z.Y) (DV.di z.n [fun i0=>dC (z.X i0),fun i0=>dC (z.Y i0)])) [])))))))))))))) (VT.ite (if (x6 z i0 i1 z.m z.X' z.Y')=true then (!(x6 z i0 i1 z.n z.X z.Y)) else false) (fj z false) (VT.da [cZ (x5 i1)] (VT.done (dQ z (x5 i1=(↑(dG i1):Int)) [dL z,rf (i0:Int),dG i1<=x7 z - 1/\(∀(i2:Nat),fM z i0 i2 (dG i1)),x7 z - dG i1<x7 z - i1]))))) (VT.da [cZ (x4 i0)] (VT.done (dQ z (x4 i0=(↑(dz i0):Int)) [dL z,dz i0<=x9 z - 1/\(∀(i1:Nat),ep z (i1<(x7 z - 1)*dz i0) i1),x9 z - dz i0<x9 z - i0])))))) (fj z true))))
end
end w10
open w10 in
theorem Ny (n:Nat) (X Y:Nat->Int) (m:Nat) (X' Y':Nat->Int) (h:gz n X Y=0) (h':gz m X' Y'=0):dm prog 84 [mh n X Y,mh m X' Y'] (dB (nu n X Y m X' Y')):=by
 refine db dv (CH n X Y m X' Y') (V:=xt ⟨n,X,Y,m,X',Y'⟩) (by kernel_rfl) ?_
 simp only [xt,x0,x1,x2,x3,x4,x5,x6,x7,x8,x9,dC,dA,dz,dG,dL,dR,dQ,ep,eu,eG,ez,eF,eQ,fC,fM,fR,fj,Rf,VT.holds,dt,Sq]
 have hn:=fp h
 have Ua:=fp h'
 obtain ⟨hX,hY⟩:=eB h
 obtain ⟨Oo,Sw⟩:=eB h'
 have lx:=xA n X m X'
 have ly:=xA n Y m Y'
 have bx:=xz n X m X' 1000000 hX Oo
 have Ih:=xz n Y m Y' 1000000 hY Sw
 have g1:=E3 false n X Y m X' Y' (by omega) (by omega)
 have g2:=E3 true n X Y m X' Y' (by omega) (by omega)
 simp only [y5]
 refine ⟨⟨af _,g1,af _,g2⟩,rfl,⟨ao _,fun c hc=>absurd hc (by simp)⟩,fun i ⟨hi,hb⟩=>⟨by unfold cZ;omega,fun dK=>⟨rfl,⟨ao _,hb⟩,fun k ⟨hk,hU⟩=>⟨by unfold cZ;omega,fun xw=> ?_,fun iy=> ?_⟩⟩,fun iy=> ?_⟩⟩
 ·have c1:=bx i (by omega)
  have c2:=bx (i+1) (by omega)
  have c3:=Ih k (by omega)
  have c4:=Ih (k+1) (by omega)
  have e1:=Ao h' (xB (n:=n) (X:=X) (m:=m) (X':=X') (i:=i) (by omega)).2 (xB (n:=n) (X:=Y) (m:=m) (X':=Y') (i:=k) (by omega)).2
  have e2:=Ao h (xB (n:=n) (X:=X) (m:=m) (X':=X') (i:=i) (by omega)).1 (xB (n:=n) (X:=Y) (m:=m) (X':=Y') (i:=k) (by omega)).1
  have eZ:=zi n X Y m X' Y' (i:=i) (k:=k) (by omega)
  have L8:((gr n Y m Y').length - 1)*i+k<vY n X Y m X' Y':=vX (by omega) (by omega)
  have sH:yO n X Y m X' Y' (((gr n Y m Y').length - 1)*i+k)=(xk m X' Y' ((gr n X m X').getD i 0+(gr n X m X').getD (i+1) 0) ((gr n Y m Y').getD k 0+(gr n Y m Y').getD (k+1) 0)&& !xk n X Y ((gr n X m X').getD i 0+(gr n X m X').getD (i+1) 0) ((gr n Y m Y').getD k 0+(gr n Y m Y').getD (k+1) 0)):=by
   rw [yO,eZ,e1,e2]
  have m1:=An m X' Y' _ _ _ _ (by omega) (by omega) Oo Sw c1 c2 c3 c4
  have m2:=An n X Y _ _ _ _ (by omega) (by omega) hX hY c1 c2 c3 c4
  refine ⟨⟨⟨by omega,by omega⟩,by unfold cZ;omega,⟨by omega,dK⟩,⟨by omega,by omega⟩,by unfold cZ;omega,⟨by omega,xw⟩,m1,fun _=>⟨by omega,by omega⟩,fun _=>by unfold cZ;omega,fun _=>⟨by omega,dK⟩,fun _=>⟨by omega,by omega⟩,fun _=>by unfold cZ;omega,fun _=>⟨by omega,xw⟩,fun _=>m2⟩,fun hx=> ?_,fun hx=>⟨by unfold cZ;omega,by omega,⟨by omega,fun c hc=> ?_⟩,by omega⟩⟩
  ·rw [bW,nu,an]
   intro fh
   have:=fh _ L8
   rw [sH,hx.1,hx.2] at this
   cases this
  ·rcases aU c (((gr n Y m Y').length - 1)*i+k) with h5|h5
   ·exact hU c h5
   ·rw [show c=((gr n Y m Y').length - 1)*i+k by omega,sH]
    generalize xk m X' Y' _ _=p at*
    cases p with
    |false=>rfl
    |true=>rw [hx rfl];rfl
 ·have kZ:k=(gr n Y m Y').length - 1:=by omega
  refine ⟨by unfold cZ;omega,by omega,⟨by omega,fun c hc=>hU c ?_⟩,by omega⟩
  rw [Nat.mul_add,Nat.mul_one] at hc
  omega
 ·have pH:i=(gr n X m X').length - 1:=by omega
  rw [bW,nu,ai]
  intro c hc
  exact hb c (by rw [pH];exact hc)
end Go.Abs
end
section
set_option maxRecDepth 100000
namespace Go.Abs
open Go
abbrev bx (a b c d e f:Int):DV:= .val (.agg #[.int .i64 a,.int .i64 b,.int .i64 c,.int .i64 d,.int .i64 e,.int .i64 f])
def mb (a b c d e f:Int):Int:=if ¬(ir a=true/\ir b=true/\ir c=true/\ir d=true/\ir e=true/\ir f=true) then 2 else if a>=d\/b>=e\/c>=f then 3 else 0
def j5 (a1 b1 c1 d1 e1 f1 a2 b2 c2 d2 e2 f2:Int):Bool:=decide (max a1 a2<min d1 d2/\max b1 b2<min e1 e2/\max c1 c2<min f1 f2)
def Rr (a1 b1 c1 d1 e1 f1 a2 b2 c2 d2 e2 f2:Int):Int:=if mb a1 b1 c1 d1 e1 f1≠0 then mb a1 b1 c1 d1 e1 f1 else mb a2 b2 c2 d2 e2 f2
def PJ:fE:= .res fun l=>dI (mb (fI 0 (arg l 0)) (fI 1 (arg l 0)) (fI 2 (arg l 0)) (fI 3 (arg l 0)) (fI 4 (arg l 0)) (fI 5 (arg l 0)))
def rErB:fE:= .res fun l=>dI (if mb (iQ 0 (arg l 0) 0) (iQ 1 (arg l 0) 0) (iQ 2 (arg l 0) 0) (iQ 3 (arg l 0) 0) (iQ 4 (arg l 0) 0) (iQ 5 (arg l 0) 0)≠0 then mb (iQ 0 (arg l 0) 0) (iQ 1 (arg l 0) 0) (iQ 2 (arg l 0) 0) (iQ 3 (arg l 0) 0) (iQ 4 (arg l 0) 0) (iQ 5 (arg l 0) 0) else mb (iQ 0 (arg l 0) 1) (iQ 1 (arg l 0) 1) (iQ 2 (arg l 0) 1) (iQ 3 (arg l 0) 1) (iQ 4 (arg l 0) 1) (iQ 5 (arg l 0) 1))
def rCm:fE:= .res fun l=> .fy [bx (max (fI 0 (arg l 0)) (fI 0 (arg l 1))) (max (fI 1 (arg l 0)) (fI 1 (arg l 1))) (max (fI 2 (arg l 0)) (fI 2 (arg l 1))) (min (fI 3 (arg l 0)) (fI 3 (arg l 1))) (min (fI 4 (arg l 0)) (fI 4 (arg l 1))) (min (fI 5 (arg l 0)) (fI 5 (arg l 1))),dB (j5 (fI 0 (arg l 0)) (fI 1 (arg l 0)) (fI 2 (arg l 0)) (fI 3 (arg l 0)) (fI 4 (arg l 0)) (fI 5 (arg l 0)) (fI 0 (arg l 1)) (fI 1 (arg l 1)) (fI 2 (arg l 1)) (fI 3 (arg l 1)) (fI 4 (arg l 1)) (fI 5 (arg l 1)))]
def Co (b:Bool) (x:Int):Int:=if b=true then x else 0
def rCmR:fE:= .res fun l=> .fy [bx (Co (j5 (fI 0 (arg l 0)) (fI 1 (arg l 0)) (fI 2 (arg l 0)) (fI 3 (arg l 0)) (fI 4 (arg l 0)) (fI 5 (arg l 0)) (fI 0 (arg l 1)) (fI 1 (arg l 1)) (fI 2 (arg l 1)) (fI 3 (arg l 1)) (fI 4 (arg l 1)) (fI 5 (arg l 1))) (max (fI 0 (arg l 0)) (fI 0 (arg l 1)))) (Co (j5 (fI 0 (arg l 0)) (fI 1 (arg l 0)) (fI 2 (arg l 0)) (fI 3 (arg l 0)) (fI 4 (arg l 0)) (fI 5 (arg l 0)) (fI 0 (arg l 1)) (fI 1 (arg l 1)) (fI 2 (arg l 1)) (fI 3 (arg l 1)) (fI 4 (arg l 1)) (fI 5 (arg l 1))) (max (fI 1 (arg l 0)) (fI 1 (arg l 1)))) (Co (j5 (fI 0 (arg l 0)) (fI 1 (arg l 0)) (fI 2 (arg l 0)) (fI 3 (arg l 0)) (fI 4 (arg l 0)) (fI 5 (arg l 0)) (fI 0 (arg l 1)) (fI 1 (arg l 1)) (fI 2 (arg l 1)) (fI 3 (arg l 1)) (fI 4 (arg l 1)) (fI 5 (arg l 1))) (max (fI 2 (arg l 0)) (fI 2 (arg l 1)))) (Co (j5 (fI 0 (arg l 0)) (fI 1 (arg l 0)) (fI 2 (arg l 0)) (fI 3 (arg l 0)) (fI 4 (arg l 0)) (fI 5 (arg l 0)) (fI 0 (arg l 1)) (fI 1 (arg l 1)) (fI 2 (arg l 1)) (fI 3 (arg l 1)) (fI 4 (arg l 1)) (fI 5 (arg l 1))) (min (fI 3 (arg l 0)) (fI 3 (arg l 1)))) (Co (j5 (fI 0 (arg l 0)) (fI 1 (arg l 0)) (fI 2 (arg l 0)) (fI 3 (arg l 0)) (fI 4 (arg l 0)) (fI 5 (arg l 0)) (fI 0 (arg l 1)) (fI 1 (arg l 1)) (fI 2 (arg l 1)) (fI 3 (arg l 1)) (fI 4 (arg l 1)) (fI 5 (arg l 1))) (min (fI 4 (arg l 0)) (fI 4 (arg l 1)))) (Co (j5 (fI 0 (arg l 0)) (fI 1 (arg l 0)) (fI 2 (arg l 0)) (fI 3 (arg l 0)) (fI 4 (arg l 0)) (fI 5 (arg l 0)) (fI 0 (arg l 1)) (fI 1 (arg l 1)) (fI 2 (arg l 1)) (fI 3 (arg l 1)) (fI 4 (arg l 1)) (fI 5 (arg l 1))) (min (fI 5 (arg l 0)) (fI 5 (arg l 1)))),dB (j5 (fI 0 (arg l 0)) (fI 1 (arg l 0)) (fI 2 (arg l 0)) (fI 3 (arg l 0)) (fI 4 (arg l 0)) (fI 5 (arg l 0)) (fI 0 (arg l 1)) (fI 1 (arg l 1)) (fI 2 (arg l 1)) (fI 3 (arg l 1)) (fI 4 (arg l 1)) (fI 5 (arg l 1)))]
def Si (a1 b1 c1 d1 e1 f1 a2 b2 c2 d2 e2 f2:Int):Bool:=decide (Rr a1 b1 c1 d1 e1 f1 a2 b2 c2 d2 e2 f2=0)&&j5 a1 b1 c1 d1 e1 f1 a2 b2 c2 d2 e2 f2
def Vr:fE:= .res fun l=> .fy [dB (Si (fI 0 (arg l 0)) (fI 1 (arg l 0)) (fI 2 (arg l 0)) (fI 3 (arg l 0)) (fI 4 (arg l 0)) (fI 5 (arg l 0)) (fI 0 (arg l 1)) (fI 1 (arg l 1)) (fI 2 (arg l 1)) (fI 3 (arg l 1)) (fI 4 (arg l 1)) (fI 5 (arg l 1))),dI (Rr (fI 0 (arg l 0)) (fI 1 (arg l 0)) (fI 2 (arg l 0)) (fI 3 (arg l 0)) (fI 4 (arg l 0)) (fI 5 (arg l 0)) (fI 0 (arg l 1)) (fI 1 (arg l 1)) (fI 2 (arg l 1)) (fI 3 (arg l 1)) (fI 4 (arg l 1)) (fI 5 (arg l 1)))]
def six (a b c d e f:Int) (j:Nat):Int:=[a,b,c,d,e,f].getD j 0
theorem Lr {a b c d e f:Int}:(∀j,j<6->ir (six a b c d e f j)=true)↔(ir a=true/\ir b=true/\ir c=true/\ir d=true/\ir e=true/\ir f=true):=
 ⟨fun h=>⟨h 0 (by omega),h 1 (by omega),h 2 (by omega),h 3 (by omega),h 4 (by omega),h 5 (by omega)⟩,fun ⟨h0,h1,h2,h3,h4,h5⟩ j hj=>by
   match j,hj with
   |0,_=>exact h0
   |1,_=>exact h1
   |2,_=>exact h2
   |3,_=>exact h3
   |4,_=>exact h4
   |5,_=>exact h5⟩
theorem vf (a b:Int):hP a [b]=max a b:=by simp only [hP];split<;>omega
theorem yi (a b:Int):iM a [b]=min a b:=by simp only [iM];split<;>omega
noncomputable def Bv (a b c d e f:Int):eH:={ dq:=[(4,[(1,yY)])],loops:=[(0,{ ι:=Nat,keep:=[1,17],boxes:=[1],ts:=fun _ i=>[(18,dI (i:Int))],inv:=fun _ i=>i<=6/\ ∀j,j<i->ir (six a b c d e f j)=true,mu:=fun _ i=>6 - i,rd:=fun _ σ=>(eA (σ.get 18)).toNat })],dw:=[] }
namespace w11
noncomputable section
structure Z where
 a:Int
 b:Int
 c:Int
 d:Int
 e:Int
 f:Int
variable (z:Z) (i0:Nat) (P:List Prop) (a:Int)
abbrev x0:=decide (z.a>=z.d)
abbrev x1:=if (x0 z)=true then true else (decide (z.b>=z.e))
abbrev x2:=Int.toNat ((i0:Int)+1)
abbrev x3:List Prop:=ri ((!(x0 z))=true)::P
abbrev x4:List Prop:=ri ((!(x1 z))=true)::P
abbrev x5:List Prop:=rf z.a::rf z.b::rf z.c::rf z.d::rf z.e::rf z.f::P
abbrev x6:=List.getD [z.a,z.b,z.c,z.d,z.e,z.f] (Int.toNat (i0:Int)) 0
abbrev x7:=VT.done [a=mb z.a z.b z.c z.d z.e z.f]
abbrev xt:VT:=VT.loop Nat (fun i0=>i0<=6/\(∀i1<i0,ir (six z.a z.b z.c z.d z.e z.f i1)=true)) (Int.toNat 0) ((0=(↑(Int.toNat 0):Int))::x5 z (x5 z [])) (fun i0=>VT.ite (decide ((i0:Int)<(6:Int))) (VT.da [0<=(i0:Int)/\(i0:Int)<(↑(6:Nat):Int)] (VT.da [dm prog 79 [DV.val (Value.int IntKind.i64 (x6 z i0))] (DV.val (Value.bool (ir (x6 z i0))))] (VT.ite (!(ir (x6 z i0))) (x7 z (2:Int)) (VT.da [cZ ((i0:Int)+1)] (VT.done (((i0:Int)+1=(↑(x2 i0):Int))::x5 z (x5 z [x2 i0<=6/\(∀i1<x2 i0,ir (six z.a z.b z.c z.d z.e z.f i1)=true),6 - x2 i0<6 - i0]))))))) (VT.da (x3 z (x3 z (x3 z (x3 z ((x0 z=false->(!(x0 z))=true)::x4 z (x4 z (x4 z (x4 z [x1 z=false->(!(x1 z))=true])))))))) (VT.ite (if (x1 z)=true then true else (decide (z.c>=z.f))) (x7 z (3:Int)) (x7 z (0:Int)))))
end
end w11
open w11 in
theorem pT (a b c d e f:Int) :dm prog 42 [bx a b c d e f] (dI (mb a b c d e f)):=by
 refine db dv (Bv a b c d e f) (V:=xt ⟨a,b,c,d,e,f⟩) (by kernel_rfl) ?_
 simp only [xt,x0,x1,x2,x3,x4,x5,x6,x7,Rf,VT.holds,dt,Sq]
 refine ⟨rfl,⟨by omega,fun j hj=>(by omega)⟩,fun i ⟨hi,hb⟩=>⟨fun dK=>⟨by omega,AB _,fun hx=> ?_,fun hx=>⟨by unfold cZ;omega,rfl,⟨by omega,fun j hj=> ?_⟩,by omega⟩⟩,fun iy=> ?_⟩⟩
 ·rw [mb,ah (fun fh=> ?_)]
  have:=Lr.2 fh i (by omega)
  rw [show [a,b,c,d,e,f].getD i 0=six a b c d e f i from rfl,this] at hx
  cases hx
 ·by_cases ej:j=i
  ·subst ej;exact hx
  ·exact hb j (by omega)
 ·have fh:=Lr.1 (fun j hj=>hb j (by omega))
  refine ⟨fun h=> ?_,fun h=> ?_⟩
  ·rw [mb,ae (fun hx=>hx fh),ah (by omega)]
  ·rw [mb,ae (fun hx=>hx fh),ae (by omega)]
noncomputable def yS (a b c d e f:Int):eH:={ dq:=[(1,[(2,yY),(7,yY),(13,yY),(19,yY),(25,yY),(31,yY)])],loops:=[],dw:=[] }
namespace w12
noncomputable section
structure Z where
 a:Int
 b:Int
 c:Int
 d:Int
 e:Int
 f:Int
variable (z:Z) (p:Prop) (P:List Prop) (a b:Int) (g h:Bool)
abbrev x0:=if g=true then true else h
abbrev x1:=x0 g (!(ir a))
abbrev x2:=x1 z.b (!(ir z.a))
abbrev x3:List Prop:=ri ((!g)=true)::P
abbrev x4:=x1 z.c (x2 z)
abbrev x5:=decide (z.a>=z.d)
abbrev x6:=x1 z.d (x4 z)
abbrev x7:=g=false->(!h)=true
abbrev x8:=x0 (x5 z) (decide (z.b>=z.e))
abbrev x9:=x1 z.e (x6 z)
abbrev dC:=dm prog 124 [DV.val (Value.int IntKind.i64 a)] (DV.val (Value.bool (ir b)))
abbrev dA:=(!g)=true->p
abbrev dz:=VT.done [a=mb z.a z.b z.c z.d z.e z.f]
abbrev xt:VT:=VT.da (dC z.a z.a::x3 (x3 (dA (dC z.b z.b) (!(ir z.a))::x3 (x7 (!(ir z.a)) (!(ir z.a))::x3 (x3 (dA (dC z.c z.c) (x2 z)::x3 (x7 (x2 z) (x2 z)::x3 (x3 (dA (dC z.d z.d) (x4 z)::x3 (x7 (x4 z) (x4 z)::x3 (x3 (dA (dC z.e z.e) (x6 z)::x3 (x7 (x6 z) (x6 z)::x3 (x3 (dA (dC z.f z.f) (x9 z)::x3 [x7 (x9 z) (x9 z)] (x9 z)) (x9 z)) (x9 z)) (x6 z)) (x6 z)) (x6 z)) (x4 z)) (x4 z)) (x4 z)) (x2 z)) (x2 z)) (x2 z)) (!(ir z.a))) (!(ir z.a))) (!(ir z.a))) (VT.ite (x1 z.f (x9 z)) (dz z (2:Int)) (VT.da (x3 (x3 (x3 (x3 (x7 (x5 z) (x5 z)::x3 (x3 (x3 (x3 [x7 (x8 z) (x8 z)] (x8 z)) (x8 z)) (x8 z)) (x8 z)) (x5 z)) (x5 z)) (x5 z)) (x5 z)) (VT.ite (x0 (x8 z) (decide (z.c>=z.f))) (dz z (3:Int)) (dz z (0:Int)))))
end
end w12
open w12 in
theorem Ib (a b c d e f:Int) :dm prog 86 [bx a b c d e f] (dI (mb a b c d e f)):=by
 refine db dv (yS a b c d e f) (V:=xt ⟨a,b,c,d,e,f⟩) (by kernel_rfl) ?_
 simp only [xt,x0,x1,x2,x3,x4,x5,x6,x7,x8,x9,dC,dA,dz,Rf,VT.holds,dt,Sq]
 refine ⟨⟨BX a,fun _=>BX b,fun _=>BX c,fun _=>BX d,fun _=>BX e,fun _=>BX f⟩,fun h=> ?_,fun h=> ?_⟩
 ·rw [mb,ah (fun ⟨h0,h1,h2,h3,h4,h5⟩=>by simp [h0,h1,h2,h3,h4,h5] at h)]
 ·have fh:ir a=true/\ir b=true/\ir c=true/\ir d=true/\ir e=true/\ir f=true:=by simpa [and_assoc] using h
  refine ⟨fun h=> ?_,fun h=> ?_⟩
  ·rw [mb,ae (fun hx=>hx fh),ah (by omega)]
  ·rw [mb,ae (fun hx=>hx fh),ae (by omega)]
noncomputable def xQ (A B C D E F:Nat->Int):eH:={ dq:=[(4,[(1,PJ)])],loops:=[(0,{ ι:=Nat,keep:=[6,7],boxes:=[],ts:=fun _ i=>[(8,dI (i:Int))],inv:=fun _ i=>i<=2/\ ∀j,j<i->mb (A j) (B j) (C j) (D j) (E j) (F j)=0,mu:=fun _ i=>2 - i,rd:=fun _ σ=>(eA (σ.get 8)).toNat })],dw:=[] }
namespace w13
noncomputable section
structure Z where
 A:Nat->Int
 B:Nat->Int
 C:Nat->Int
 D:Nat->Int
 E:Nat->Int
 F:Nat->Int
variable (z:Z) (i0 i1:Nat) (p:Prop) (P:List Prop) (k:Nat) (sE:Nat->Int) (tA:List Value)
abbrev x0:=sE (0:Nat)
abbrev x1:=sE (Int.toNat (i0:Int))
abbrev x2:=sE (1:Nat)
abbrev x3:=i0<2->rf (sE i0)
abbrev x4:List Value:=Value.int IntKind.i64 (x1 i0 sE)::tA
abbrev x5:=Int.toNat ((i0:Int)+1)
abbrev x6:Int:=(↑(2:Nat):Int)
abbrev x7:=mb (x0 z.A) (x0 z.B) (x0 z.C) (x0 z.D) (x0 z.E) (x0 z.F)
abbrev x8:=mb (x1 i0 z.A) (x1 i0 z.B) (x1 i0 z.C) (x1 i0 z.D) (x1 i0 z.E) (x1 i0 z.F)
abbrev x9:List Prop:=p::rf (2:Nat)::(∀(i0:Nat),x3 i0 z.A)::(∀(i0:Nat),x3 i0 z.B)::(∀(i0:Nat),x3 i0 z.C)::(∀(i0:Nat),x3 i0 z.D)::(∀(i0:Nat),x3 i0 z.E)::P
abbrev dC:=if (x7 z)≠(0:Int) then (x7 z) else (mb (x2 z.A) (x2 z.B) (x2 z.C) (x2 z.D) (x2 z.E) (x2 z.F))
abbrev dA:=i1<k->mb (z.A i1) (z.B i1) (z.C i1) (z.D i1) (z.E i1) (z.F i1)=0
abbrev xt:VT:=VT.loop Nat (fun i0=>i0<=2/\(∀(i1:Nat),dA z i1 i0)) (Int.toNat 0) (x9 z (0=(↑(Int.toNat 0):Int)) [∀(i0:Nat),x3 i0 z.F,rf x6]) (fun i0=>VT.ite (decide ((i0:Int)<x6)) (VT.da [0<=(i0:Int)/\(i0:Int)<x6] (VT.da [dm prog 42 [DV.val (Value.agg (Array.mk (x4 i0 z.A (x4 i0 z.B (x4 i0 z.C (x4 i0 z.D (x4 i0 z.E (x4 i0 z.F []))))))))] (DV.val (Value.int IntKind.i64 (x8 z i0)))] (VT.ite (x8 z i0 !=0) (VT.done [x8 z i0=dC z]) (VT.da [cZ ((i0:Int)+1)] (VT.done (x9 z ((i0:Int)+1=(↑(x5 i0):Int)) [∀(i0:Nat),x3 i0 z.F,rf x6,x5 i0<=2/\(∀(i1:Nat),dA z i1 (x5 i0)),2 - x5 i0<2 - i0])))))) (VT.done [0=dC z]))
end
end w13
open w13 in
theorem Ft (A B C D E F:Nat->Int) :dm prog 47 [.di 2 [fun i=>dI (A i),fun i=>dI (B i),fun i=>dI (C i),fun i=>dI (D i),fun i=>dI (E i),fun i=>dI (F i)]] (dI (if mb (A 0) (B 0) (C 0) (D 0) (E 0) (F 0)≠0 then mb (A 0) (B 0) (C 0) (D 0) (E 0) (F 0) else mb (A 1) (B 1) (C 1) (D 1) (E 1) (F 1))):=by
 refine db dv (xQ A B C D E F) (V:=xt ⟨A,B,C,D,E,F⟩) (by kernel_rfl) ?_
 simp only [xt,x0,x1,x2,x3,x4,x5,x6,x7,x8,x9,dC,dA,Rf,VT.holds,dt,Sq]
 refine ⟨rfl,⟨by omega,fun j hj=>(by omega)⟩,fun i ⟨hi,hb⟩=>⟨fun dK=>⟨by omega,pT _ _ _ _ _ _,fun hx=> ?_,fun hx=>⟨by unfold cZ;omega,rfl,⟨by omega,fun j hj=> ?_⟩,by omega⟩⟩,fun iy=> ?_⟩⟩
 ·match i,dK with
  |0,_=>rw [ah hx]
  |1,_=>rw [ae (fun h=>h (hb 0 (by omega)))]
  |i+2,dK=>omega
 ·by_cases ej:j=i
  ·subst ej;exact hx
  ·exact hb j (by omega)
 ·rw [ae (fun h=>h (hb 0 (by omega))),hb 1 (by omega)]
noncomputable def FU (a1 b1 c1 d1 e1 f1 a2 b2 c2 d2 e2 f2:Int):eH:={ dq:=[],loops:=[],dw:=[] }
namespace w14
noncomputable section
structure Z where
 a1:Int
 b1:Int
 c1:Int
 d1:Int
 e1:Int
 f1:Int
 a2:Int
 b2:Int
 c2:Int
 d2:Int
 e2:Int
 f2:Int
variable (z:Z) (a b c d:Int)
abbrev x0:=decide ((hP a [b])<(iM c [d]))
abbrev x1:=x0 z.a1 z.a2 z.d1 z.d2
abbrev x2:=if (x1 z)=true then (x0 z.b1 z.b2 z.e1 z.e2) else false
abbrev xt:VT:=VT.da [ri (x1 z=true),ri (x1 z=true),ri (x1 z=true),ri (x1 z=true),ri (x1 z=true),ri (x2 z=true),ri (x2 z=true),ri (x2 z=true),ri (x2 z=true),ri (x2 z=true)] (VT.done [hP z.a1 [z.a2]=max z.a1 z.a2,hP z.b1 [z.b2]=max z.b1 z.b2,hP z.c1 [z.c2]=max z.c1 z.c2,iM z.d1 [z.d2]=min z.d1 z.d2,iM z.e1 [z.e2]=min z.e1 z.e2,iM z.f1 [z.f2]=min z.f1 z.f2,(if (x2 z)=true then (x0 z.c1 z.c2 z.f1 z.f2) else false)=j5 z.a1 z.b1 z.c1 z.d1 z.e1 z.f1 z.a2 z.b2 z.c2 z.d2 z.e2 z.f2])
end
end w14
open w14 in
theorem H0 (a1 b1 c1 d1 e1 f1 a2 b2 c2 d2 e2 f2:Int) :dm prog 46 [bx a1 b1 c1 d1 e1 f1,bx a2 b2 c2 d2 e2 f2] (.fy [bx (max a1 a2) (max b1 b2) (max c1 c2) (min d1 d2) (min e1 e2) (min f1 f2),dB (j5 a1 b1 c1 d1 e1 f1 a2 b2 c2 d2 e2 f2)]):=by
 refine db dv (FU a1 b1 c1 d1 e1 f1 a2 b2 c2 d2 e2 f2) (V:=xt ⟨a1,b1,c1,d1,e1,f1,a2,b2,c2,d2,e2,f2⟩) (by kernel_rfl) ?_
 simp only [xt,x0,x1,x2,Rf,VT.holds,dt,Sq]
 simp only [vf,yi,cQ]
 simp [j5,Bool.and_assoc]
noncomputable def CI (a1 b1 c1 d1 e1 f1 a2 b2 c2 d2 e2 f2:Int):eH:={ dq:=[],loops:=[],dw:=[] }
namespace w15
noncomputable section
structure Z where
 a1:Int
 b1:Int
 c1:Int
 d1:Int
 e1:Int
 f1:Int
 a2:Int
 b2:Int
 c2:Int
 d2:Int
 e2:Int
 f2:Int
variable (z:Z) (P:List Prop) (a b:Int)
abbrev x0:=j5 z.a1 z.b1 z.c1 z.d1 z.e1 z.f1 z.a2 z.b2 z.c2 z.d2 z.e2 z.f2
abbrev x1:=decide ((hP z.a1 [z.a2])>=(iM z.d1 [z.d2]))
abbrev x2:=a=Co (x0 z) b
abbrev x3:=if (x1 z)=true then true else (decide ((hP z.b1 [z.b2])>=(iM z.e1 [z.e2])))
abbrev x4:List Prop:=x2 z (0:Int) a::P
abbrev x5:List Prop:=ri ((!(x1 z))=true)::P
abbrev x6:List Prop:=ri ((!(x3 z))=true)::P
abbrev xt:VT:=VT.da (x5 z (x5 z (x5 z (x5 z ((x1 z=false->(!(x1 z))=true)::x6 z (x6 z (x6 z (x6 z [x3 z=false->(!(x3 z))=true])))))))) (VT.ite (if (x3 z)=true then true else (decide ((hP z.c1 [z.c2])>=(iM z.f1 [z.f2])))) (VT.done (x4 z (x4 z (x4 z (x4 z (x4 z (x4 z [false=x0 z] (min z.f1 z.f2)) (min z.e1 z.e2)) (min z.d1 z.d2)) (max z.c1 z.c2)) (max z.b1 z.b2)) (max z.a1 z.a2))) (VT.done [x2 z (hP z.a1 [z.a2]) (max z.a1 z.a2),x2 z (hP z.b1 [z.b2]) (max z.b1 z.b2),x2 z (hP z.c1 [z.c2]) (max z.c1 z.c2),x2 z (iM z.d1 [z.d2]) (min z.d1 z.d2),x2 z (iM z.e1 [z.e2]) (min z.e1 z.e2),x2 z (iM z.f1 [z.f2]) (min z.f1 z.f2),true=x0 z]))
end
end w15
open w15 in
theorem NB (a1 b1 c1 d1 e1 f1 a2 b2 c2 d2 e2 f2:Int) :dm prog 138 [bx a1 b1 c1 d1 e1 f1,bx a2 b2 c2 d2 e2 f2] (.fy [bx (Co (j5 a1 b1 c1 d1 e1 f1 a2 b2 c2 d2 e2 f2) (max a1 a2)) (Co (j5 a1 b1 c1 d1 e1 f1 a2 b2 c2 d2 e2 f2) (max b1 b2)) (Co (j5 a1 b1 c1 d1 e1 f1 a2 b2 c2 d2 e2 f2) (max c1 c2)) (Co (j5 a1 b1 c1 d1 e1 f1 a2 b2 c2 d2 e2 f2) (min d1 d2)) (Co (j5 a1 b1 c1 d1 e1 f1 a2 b2 c2 d2 e2 f2) (min e1 e2)) (Co (j5 a1 b1 c1 d1 e1 f1 a2 b2 c2 d2 e2 f2) (min f1 f2)),dB (j5 a1 b1 c1 d1 e1 f1 a2 b2 c2 d2 e2 f2)]):=by
 refine db dv (CI a1 b1 c1 d1 e1 f1 a2 b2 c2 d2 e2 f2) (V:=xt ⟨a1,b1,c1,d1,e1,f1,a2,b2,c2,d2,e2,f2⟩) (by kernel_rfl) ?_
 simp only [xt,x0,x1,x2,x3,x4,x5,x6,Rf,VT.holds,dt,Sq]
 simp only [vf,yi]
 refine ⟨fun h=> ?_,fun h=> ?_⟩
 ·have:j5 a1 b1 c1 d1 e1 f1 a2 b2 c2 d2 e2 f2=false:=by unfold j5;rw [an];omega
  simp [this,Co]
 ·have:j5 a1 b1 c1 d1 e1 f1 a2 b2 c2 d2 e2 f2=true:=by unfold j5;rw [ai];omega
  simp [this,Co]
noncomputable def CJ (a1 b1 c1 d1 e1 f1 a2 b2 c2 d2 e2 f2:Int):eH:={ dq:=[(1,[(3,rErB)]),(4,[(2,rCm)])],loops:=[],dw:=[] }
namespace w16
noncomputable section
structure Z where
 a1:Int
 b1:Int
 c1:Int
 d1:Int
 e1:Int
 f1:Int
 a2:Int
 b2:Int
 c2:Int
 d2:Int
 e2:Int
 f2:Int
variable (z:Z) (i0:Nat) (a b:Int) (g:Bool) (E:List DV) (vu:List Value)
abbrev x0:List Value:=Value.int IntKind.i64 a::Value.int IntKind.i64 b::vu
abbrev x1:=DV.val (Value.int IntKind.i64 a)
abbrev x2:=x1 (List.getD [a,b] i0 0)
abbrev x3:=mb z.a1 z.b1 z.c1 z.d1 z.e1 z.f1
abbrev x4:List DV:=DV.val (Value.agg (Array.mk (x0 a b vu)))::E
abbrev x5:=if (x3 z)≠(0:Int) then (x3 z) else (mb z.a2 z.b2 z.c2 z.d2 z.e2 z.f2)
abbrev x6:=j5 z.a1 z.b1 z.c1 z.d1 z.e1 z.f1 z.a2 z.b2 z.c2 z.d2 z.e2 z.f2
abbrev x7:=VT.done [g=Si z.a1 z.b1 z.c1 z.d1 z.e1 z.f1 z.a2 z.b2 z.c2 z.d2 z.e2 z.f2,a=Rr z.a1 z.b1 z.c1 z.d1 z.e1 z.f1 z.a2 z.b2 z.c2 z.d2 z.e2 z.f2]
abbrev xt:VT:=VT.da [(2:Nat)<=(2:Nat),dm prog 47 [DV.di 2 [fun i0=>x2 i0 z.a1 z.a2,fun i0=>x2 i0 z.b1 z.b2,fun i0=>x2 i0 z.c1 z.c2,fun i0=>x2 i0 z.d1 z.d2,fun i0=>x2 i0 z.e1 z.e2,fun i0=>x2 i0 z.f1 z.f2]] (x1 (x5 z))] (VT.ite (x5 z !=0) (x7 z (x5 z) false) (VT.da [dm prog 46 (x4 z.a1 z.b1 (x4 z.a2 z.b2 [] (x0 z.c2 z.d2 (x0 z.e2 z.f2 []))) (x0 z.c1 z.d1 (x0 z.e1 z.f1 []))) (DV.fy (x4 (max z.a1 z.a2) (max z.b1 z.b2) [DV.val (Value.bool (x6 z))] (x0 (max z.c1 z.c2) (min z.d1 z.d2) (x0 (min z.e1 z.e2) (min z.f1 z.f2) []))))] (x7 z (0:Int) (x6 z))))
end
end w16
open w16 in
theorem xg (a1 b1 c1 d1 e1 f1 a2 b2 c2 d2 e2 f2:Int) :dm prog 12 [bx a1 b1 c1 d1 e1 f1,bx a2 b2 c2 d2 e2 f2] (.fy [dB (Si a1 b1 c1 d1 e1 f1 a2 b2 c2 d2 e2 f2),dI (Rr a1 b1 c1 d1 e1 f1 a2 b2 c2 d2 e2 f2)]):=by
 refine db dv (CJ a1 b1 c1 d1 e1 f1 a2 b2 c2 d2 e2 f2) (V:=xt ⟨a1,b1,c1,d1,e1,f1,a2,b2,c2,d2,e2,f2⟩) (by kernel_rfl) ?_
 simp only [xt,x0,x1,x2,x3,x4,x5,x6,x7,Rf,VT.holds,dt,Sq]
 refine ⟨⟨af 2,Ft _ _ _ _ _ _⟩,fun h=> ?_,fun h=>⟨H0 a1 b1 c1 d1 e1 f1 a2 b2 c2 d2 e2 f2,?_,?_⟩⟩
 ·have:Rr a1 b1 c1 d1 e1 f1 a2 b2 c2 d2 e2 f2=if ¬mb a1 b1 c1 d1 e1 f1=0 then mb a1 b1 c1 d1 e1 f1 else mb a2 b2 c2 d2 e2 f2:=rfl
  rw [this]
  refine ⟨?_,rfl⟩
  rw [Si,this,bg h,Bool.false_and]
 ·have:Rr a1 b1 c1 d1 e1 f1 a2 b2 c2 d2 e2 f2=0:=h
  rw [Si,this];simp
 ·exact h.symm
end Go.Abs
end
section
set_option maxRecDepth 100000
namespace Go.Abs
open Go
structure dJ where
 name:ByteArray
 nS:Nat
 fl:Nat->Int
 N:Nat->Nat
 X:Nat->Nat->Int
 Y:Nat->Nat->Int
 dr:Int
 nO:Nat
 O:Nat->Nat->Int
 nB:Nat
 B:Nat->Nat->Int
abbrev ML (b:dJ):List (Nat->DV):=[fun i=>dI (b.fl i),fun i=>mh (b.N i) (b.X i) (b.Y i)]
abbrev MZ (b:dJ):List (Nat->DV):=[fun i=>dI (b.O i 0),fun i=>dI (b.O i 1),fun i=>dI (b.O i 2),fun i=>dI (b.O i 3),fun i=>dI (b.O i 4),fun i=>dI (b.O i 5)]
abbrev NN (b:dJ):List (Nat->DV):=[fun i=>dI (b.B i 0),fun i=>dI (b.B i 1),fun i=>dI (b.B i 2),fun i=>dI (b.B i 3),fun i=>dI (b.B i 4),fun i=>dI (b.B i 5)]
abbrev jI (b:dJ):DV:= .agg [.val (.string b.name),.di b.nS (ML b),dI b.dr,.di b.nO (MZ b),.di b.nB (NN b)]
def RR (s:ByteArray) (i:Nat):Bool:=decide ((97<=k8 s i/\k8 s i<=122)\/(65<=k8 s i/\k8 s i<=90)\/(i≠0/\(k8 s i=45\/(48<=k8 s i/\k8 s i<=57))))
def iX (s:ByteArray):Bool:=decide (1<=s.size/\s.size<=12/\ ∀i,i<s.size->RR s i=true)
def fb (b:dJ) (i:Nat):Int:=if i+1<b.nS then b.fl (i+1) else b.dr
def yk (n:Nat):Bool:=decide (n>14/\n<=40\/n>45)
def jk (b:dJ):Bool:=decide (¬(b.nS>6/\b.nS<=20\/b.nS>25\/b.nO>8/\b.nO<=100\/b.nO>105\/b.nB>6/\b.nB<=50\/b.nB>55\/b.name.size>100)/\ ∀i,i<b.nS->yk (b.N i)=false)
def Tw (b:dJ):fE:= .res fun l=>dI (fb b (aI l 1).toNat)
def PF (b:dJ):fE:= .res fun _=>dB (iX b.name)
theorem KH (bs:ByteArray): ∀(k i:Nat) (r:List UInt8),bs.size - i=k->(ByteArray.toList.loop bs i r).length=r.length+k
 |0,i,r,h=>by
  unfold ByteArray.toList.loop
  rw [ae (by omega)];simp
 |k+1,i,r,h=>by
  unfold ByteArray.toList.loop
  rw [ah (by omega),KH bs k (i+1) _ (by omega),aL];omega
theorem NK (s:ByteArray):s.toList=(ByteArray.mk #[]).toList↔s.size=0:=by
 have h1:s.toList.length=s.size:=by
  show (ByteArray.toList.loop s 0 []).length=_
  rw [KH s s.size 0 [] (by omega)];simp
 have h2:(ByteArray.mk #[]).toList=[]:=by
  apply cA
  show (ByteArray.toList.loop (ByteArray.mk #[]) 0 []).length=_
  rw [KH _ 0 0 [] (by rfl)];rfl
 rw [h2]
 constructor
 ·intro h;rw [h] at h1;exact h1.symm
 ·intro h;exact cA (by omega)
noncomputable def FO (s:ByteArray):eH:={ dq:=[],loops:=[(0,{ ι:=Nat,keep:=[0,14],boxes:=[],ts:=fun _ i=>[(15,dI (i:Int))],inv:=fun _ i=>i<=s.size/\ ∀j,j<i->RR s j=true,mu:=fun _ i=>s.size - i,rd:=fun _ σ=>(eA (σ.get 15)).toNat })],dw:=[] }
namespace w17
noncomputable section
variable (z:ByteArray) (i0:Nat) (P:List Prop) (a b:Int) (g h:Bool)
abbrev x0:=k8 z (Int.toNat (i0:Int))
abbrev x1:=decide ((x0 z i0)>=a)
abbrev x2:=if g=true then h else false
abbrev x3:=x2 (x1 z i0 a) (decide ((x0 z i0)<=b))
abbrev x4:=x3 z i0 (97:Int) (122:Int)
abbrev x5:=if g=true then true else h
abbrev x6:List Prop:=ri (g=true)::P
abbrev x7:= !(x5 (x4 z i0) (x3 z i0 (65:Int) (90:Int)))
abbrev x8:=(x7 z i0)&&(!((i0:Int)==0))
abbrev x9:=ByteArray.size z
abbrev dC:=(x8 z i0)&&(x0 z i0 !=45)
abbrev dA:Int:=(↑(x9 z):Int)
abbrev dz:=ByteArray.toList z==ByteArray.toList (ByteArray.mk (List.toArray []))
abbrev dG:=Int.toNat ((i0:Int)+1)
abbrev dL:=g=false->h=true
abbrev dR:=decide ((x0 z i0)<(48:Int))
abbrev dQ:=VT.done [g=iX z]
abbrev xt:VT:=VT.da (x6 (x6 [dL (dz z) (!(dz z))] (!(dz z))) (!(dz z))) (VT.ite (x5 (dz z) (decide ((dA z)>(12:Int)))) (dQ z false) (VT.loop Nat (fun i0=>i0<=x9 z/\(∀i1<i0,RR z i1=true)) (Int.toNat 0) [0=(↑(Int.toNat 0):Int),rf z,rf (dA z)] (fun i0=>VT.ite (decide ((i0:Int)<(dA z))) (VT.da [0<=(i0:Int)/\(i0:Int)<dA z] (VT.da (x6 (x6 (x6 (x6 (x6 (x6 [(!(x4 z i0))=true->x1 z i0 (65:Int)=true->((!(x4 z i0))&&(x1 z i0 (65:Int)))=true,dL (x4 z i0) (!(x4 z i0))] (!(x4 z i0))) ((!(x4 z i0))&&(x1 z i0 (65:Int)))) (!(x4 z i0))) (!(x4 z i0))) (x1 z i0 (97:Int))) (x1 z i0 (97:Int))) (VT.da (x6 (x6 (x6 (x6 (x6 (x6 (x6 (x6 ((dC z i0=true->dL (dR z i0) ((dC z i0)&&(!(dR z i0))))::x6 ((x8 z i0=true->(x0 z i0 !=45)=true->dC z i0=true)::x6 ((x7 z i0=true->dL ((i0:Int)==0) (x8 z i0))::x6 [] (x7 z i0)) (x7 z i0)) (x8 z i0)) (dC z i0)) ((dC z i0)&&(!(dR z i0)))) (dC z i0)) (dC z i0)) (x8 z i0)) (x8 z i0)) (x7 z i0)) (x7 z i0)) (VT.ite (x2 (x7 z i0) (x5 ((i0:Int)==0) (x2 (x0 z i0 !=45) (x5 (dR z i0) (decide ((x0 z i0)>(57:Int))))))) (dQ z false) (VT.da [cZ ((i0:Int)+1)] (VT.done [(i0:Int)+1=(↑(dG i0):Int),rf z,rf (dA z),dG i0<=x9 z/\(∀i1<dG i0,RR z i1=true),x9 z - dG i0<x9 z - i0])))))) (dQ z true))))
end
end w17
open w17 in
theorem Qs (s:ByteArray) :dm prog 104 [.val (.string s)] (dB (iX s)):=by
 refine db dv (FO s) (V:=xt s) (by kernel_rfl) ?_
 simp only [xt,x0,x1,x2,x3,x4,x5,x6,x7,x8,x9,dC,dA,dz,dG,dL,dR,dQ,Rf,VT.holds,dt,Sq]
 simp only [NK]
 refine ⟨fun h=>by rw [bW,iX,an];omega,fun h=>⟨rfl,⟨ao _,fun j hj=>absurd hj (aF j)⟩,fun i ⟨hi,hb⟩=>⟨fun dK=> ?_,fun iy=> ?_⟩⟩⟩
 ·have hs:=k8 s i
  have e1:RR s i=true↔((97<=k8 s i/\k8 s i<=122)\/(65<=k8 s i/\k8 s i<=90)\/(i≠0/\(k8 s i=45\/(48<=k8 s i/\k8 s i<=57)))):=by unfold RR;rw [ai]
  refine ⟨⟨by omega,dK⟩,fun h1 h2=>⟨h1,h2⟩,⟨fun h1 h2=>⟨h1,h2⟩,fun h1 h2=>⟨h1,h2⟩,fun h1 h2=>⟨h1,h2⟩⟩,fun h1=> ?_,fun h1=>⟨by unfold cZ;omega,by omega,⟨by omega,fun j hj=> ?_⟩,by omega⟩⟩
  ·rw [bW,iX,an]
   intro hx
   have h2:=e1.1 (hx.2.2 i (by omega))
   omega
  ·rcases aU j i with h|h
   ·exact hb j h
   ·rw [show j=i by omega,e1]
    omega
 ·rw [bW,iX,ai]
  exact ⟨by omega,by omega,fun j hj=>hb j (by omega)⟩
noncomputable def Cz (s:ByteArray):eH:={ dq:=[],loops:=[(0,{ ι:=Nat,keep:=[0],boxes:=[],ts:=fun _ i=>[(3,dI (i:Int))],inv:=fun _ i=>i<=s.size/\ ∀j,j<i->RR s j=true,mu:=fun _ i=>s.size - i,rd:=fun _ σ=>(eA (σ.get 3)).toNat })],dw:=[] }
namespace w18
noncomputable section
variable (z:ByteArray) (i0:Nat) (P:List Prop) (a b:Int) (g h:Bool)
abbrev x0:=k8 z (Int.toNat (i0:Int))
abbrev x1:=decide ((x0 z i0)>=a)
abbrev x2:=if g=true then h else false
abbrev x3:=x2 (x1 z i0 a) (decide ((x0 z i0)<=b))
abbrev x4:=x3 z i0 (97:Int) (122:Int)
abbrev x5:=if g=true then true else h
abbrev x6:List Prop:=ri (g=true)::P
abbrev x7:= !(x5 (x4 z i0) (x3 z i0 (65:Int) (90:Int)))
abbrev x8:=ByteArray.size z
abbrev x9:=(x7 z i0)&&(!((i0:Int)==0))
abbrev dC:Int:=(↑(x8 z):Int)
abbrev dA:=(x9 z i0)&&(x0 z i0 !=45)
abbrev dz:=decide ((dC z)<(1:Int))
abbrev dG:=Int.toNat ((i0:Int)+1)
abbrev dL:=g=false->h=true
abbrev dR:=decide ((x0 z i0)<(48:Int))
abbrev dQ:=VT.done [g=iX z]
abbrev xt:VT:=VT.da (x6 (x6 [dL (dz z) (!(dz z))] (!(dz z))) (!(dz z))) (VT.ite (x5 (dz z) (decide ((dC z)>(12:Int)))) (dQ z false) (VT.loop Nat (fun i0=>i0<=x8 z/\(∀i1<i0,RR z i1=true)) (Int.toNat 0) [0=(↑(Int.toNat 0):Int),rf z] (fun i0=>VT.ite (decide ((i0:Int)<(dC z))) (VT.da [0<=(i0:Int)/\(i0:Int)<dC z] (VT.da (x6 (x6 (x6 (x6 (x6 (x6 [(!(x4 z i0))=true->x1 z i0 (65:Int)=true->((!(x4 z i0))&&(x1 z i0 (65:Int)))=true,dL (x4 z i0) (!(x4 z i0))] (!(x4 z i0))) ((!(x4 z i0))&&(x1 z i0 (65:Int)))) (!(x4 z i0))) (!(x4 z i0))) (x1 z i0 (97:Int))) (x1 z i0 (97:Int))) (VT.da (x6 (x6 (x6 (x6 (x6 (x6 (x6 (x6 ((dA z i0=true->dL (dR z i0) ((dA z i0)&&(!(dR z i0))))::x6 ((x9 z i0=true->(x0 z i0 !=45)=true->dA z i0=true)::x6 ((x7 z i0=true->dL ((i0:Int)==0) (x9 z i0))::x6 [] (x7 z i0)) (x7 z i0)) (x9 z i0)) (dA z i0)) ((dA z i0)&&(!(dR z i0)))) (dA z i0)) (dA z i0)) (x9 z i0)) (x9 z i0)) (x7 z i0)) (x7 z i0)) (VT.ite (x2 (x7 z i0) (x5 ((i0:Int)==0) (x2 (x0 z i0 !=45) (x5 (dR z i0) (decide ((x0 z i0)>(57:Int))))))) (dQ z false) (VT.da [cZ ((i0:Int)+1)] (VT.done [(i0:Int)+1=(↑(dG i0):Int),rf z,dG i0<=x8 z/\(∀i1<dG i0,RR z i1=true),x8 z - dG i0<x8 z - i0])))))) (dQ z true))))
end
end w18
open w18 in
theorem Nf (s:ByteArray) :dm prog 81 [.val (.string s)] (dB (iX s)):=by
 refine db dv (Cz s) (V:=xt s) (by kernel_rfl) ?_
 simp only [xt,x0,x1,x2,x3,x4,x5,x6,x7,x8,x9,dC,dA,dz,dG,dL,dR,dQ,Rf,VT.holds,dt,Sq]
 refine ⟨fun h=>by rw [bW,iX,an];omega,fun h=>⟨rfl,⟨ao _,fun j hj=>absurd hj (aF j)⟩,fun i ⟨hi,hb⟩=>⟨fun dK=> ?_,fun iy=> ?_⟩⟩⟩
 ·have hs:=k8 s i
  have e1:RR s i=true↔((97<=k8 s i/\k8 s i<=122)\/(65<=k8 s i/\k8 s i<=90)\/(i≠0/\(k8 s i=45\/(48<=k8 s i/\k8 s i<=57)))):=by unfold RR;rw [ai]
  refine ⟨⟨by omega,dK⟩,fun h1 h2=>⟨h1,h2⟩,⟨fun h1 h2=>⟨h1,h2⟩,fun h1 h2=>⟨h1,h2⟩,fun h1 h2=>⟨h1,h2⟩⟩,fun h1=> ?_,fun h1=>⟨by unfold cZ;omega,by omega,⟨by omega,fun j hj=> ?_⟩,by omega⟩⟩
  ·rw [bW,iX,an]
   intro hx
   have h2:=e1.1 (hx.2.2 i (by omega))
   omega
  ·rcases aU j i with h|h
   ·exact hb j h
   ·rw [show j=i by omega,e1]
    omega
 ·rw [bW,iX,ai]
  exact ⟨by omega,by omega,fun j hj=>hb j (by omega)⟩
noncomputable def NZ (b:dJ) (i:Nat):eH:={ dq:=[],loops:=[],dw:=[] }
theorem Vc (b:dJ) (i:Nat) (hi:i<=1000000):dm prog 107 [jI b,dI (i:Int)] (dI (fb b i)):=by
 refine db dv (NZ b i) (V:=VT.da [cZ ((i:Int)+1)] (VT.ite (decide ((i:Int)+1<(b.nS:Int))) (VT.da [cZ ((i:Int)+1),(0:Int)<=(i:Int)+1/\(i:Int)+1<(b.nS:Int)] (VT.done [b.fl ((i:Int)+1).toNat=fb b i])) (VT.done [b.dr=fb b i]))) (by kernel_rfl) ?_
 simp only [VT.holds,dt,Sq]
 refine ⟨by unfold cZ;omega,fun h=>⟨⟨by unfold cZ;omega,by omega,h⟩,by rw [fb,ah (by omega)]⟩,fun h=>by rw [fb,ae (by omega)]⟩
noncomputable def KY (b:dJ) (i:Nat):eH:={ dq:=[],loops:=[],dw:=[] }
theorem Pd (b:dJ) (i:Nat) (hi:i<=1000000):dm prog 132 [jI b,dI (i:Int)] (dI (fb b i)):=by
 refine db dv (KY b i) (V:=VT.da [cZ ((i:Int)+1)] (VT.ite (decide ((i:Int)+1<(b.nS:Int))) (VT.da [cZ ((i:Int)+1),(0:Int)<=(i:Int)+1/\(i:Int)+1<(b.nS:Int)] (VT.done [b.fl ((i:Int)+1).toNat=fb b i])) (VT.done [b.dr=fb b i]))) (by kernel_rfl) ?_
 simp only [VT.holds,dt,Sq]
 refine ⟨by unfold cZ;omega,fun h=>⟨⟨by unfold cZ;omega,by omega,h⟩,by rw [fb,ah (by omega)]⟩,fun h=>by rw [fb,ae (by omega)]⟩
noncomputable def IY (b:dJ):eH:={ dq:=[],loops:=[(0,{ ι:=Nat,keep:=[1],boxes:=[1],ts:=fun _ i=>[(3,dI (i:Int))],inv:=fun _ i=>i<=b.nS/\b.nS<=25/\ ∀j,j<i->yk (b.N j)=false,mu:=fun _ i=>b.nS - i,rd:=fun _ σ=>(eA (σ.get 3)).toNat })],dw:=[] }
namespace w1b
noncomputable section
variable (z:dJ) (i0:Nat) (p:Prop) (P:List Prop) (a:Int) (k:Nat) (g h:Bool) (U:VT)
abbrev x0:=decide ((k:Int)>a)
abbrev x1:=if g=true then true else h
abbrev x2:=decide ((k:Int)<=a)
abbrev x3:=if g=true then h else false
abbrev x4:=x3 (x0 (6:Int) z.nS) (x2 (20:Int) z.nS)
abbrev x5:=x1 (x4 z) (x0 (25:Int) z.nS)
abbrev x6:List Prop:=ri (g=true)::P
abbrev x7:=x0 (8:Int) z.nO
abbrev x8:=x1 (x5 z) (x3 (x7 z) (x2 (100:Int) z.nO))
abbrev x9:=x1 (x8 z) (x0 (105:Int) z.nO)
abbrev dC:=x0 (6:Int) z.nB
abbrev dA:=i0<z.nO->rf (z.O i0 k)
abbrev dz:=i0<z.nB->rf (z.B i0 k)
abbrev dG:=x1 (x9 z) (x3 (dC z) (x2 (50:Int) z.nB))
abbrev dL:=g=false->(!h)=true
abbrev dR:=x0 (14:Int) (z.N (Int.toNat (i0:Int)))
abbrev dQ:=x1 (dG z) (x0 (55:Int) z.nB)
abbrev ep:=Int.toNat ((i0:Int)+1)
abbrev eu:=x3 (dR z i0) (x2 (40:Int) (z.N (Int.toNat (i0:Int))))
abbrev eG:=x6 P ((!(x5 z))&&(x7 z))
abbrev ez:=x6 P ((!(x9 z))&&(dC z))
abbrev eF:=x6 (x6 P (!(x5 z))) (!(x5 z))
abbrev eQ:=x6 (x6 P (!(x9 z))) (!(x9 z))
abbrev fC:=x6 (x6 P (x0 (6:Int) z.nS)) (x0 (6:Int) z.nS)
abbrev fM:= ∀(i0:Nat),dz z i0 (4:Nat)
abbrev fR:= ∀(i0:Nat),dz z i0 (5:Nat)
abbrev fj:=VT.ite g (VT.done [false=jk z]) U
abbrev gp:List Prop:=p::rf z.name::rf z.nS::(∀i0<z.nS,rf (z.fl i0))::(∀i0<z.nS,rf (z.N i0)/\(∀i1<z.N i0,rf (z.X i0 i1))/\(∀i1<z.N i0,rf (z.Y i0 i1)))::rf z.dr::rf z.nO::(∀(i0:Nat),dA z i0 (0:Nat))::(∀(i0:Nat),dA z i0 (1:Nat))::(∀(i0:Nat),dA z i0 (2:Nat))::(∀(i0:Nat),dA z i0 (3:Nat))::(∀(i0:Nat),dA z i0 (4:Nat))::(∀(i0:Nat),dA z i0 (5:Nat))::rf z.nB::(∀(i0:Nat),dz z i0 (0:Nat))::(∀(i0:Nat),dz z i0 (1:Nat))::(∀(i0:Nat),dz z i0 (2:Nat))::(∀(i0:Nat),dz z i0 (3:Nat))::P
abbrev xt:VT:=VT.da (fC z (fC z (x6 (x6 (x6 (dL (x4 z) (x4 z)::eF z (eF z (eG z (eG z (eG z (x6 (((!(x5 z))=true->x7 z=true->((!(x5 z))&&(x7 z))=true)::dL (x5 z) (x5 z)::x6 (x6 (x6 (dL (x8 z) (x8 z)::eQ z (eQ z (ez z (ez z (ez z (x6 (((!(x9 z))=true->dC z=true->((!(x9 z))&&(dC z))=true)::dL (x9 z) (x9 z)::x6 (x6 (x6 (dL (dG z) (dG z)::x6 (x6 (x6 [dL (dQ z) (dQ z)] (!(dQ z))) (!(dQ z))) (!(dQ z))) (!(dG z))) (!(dG z))) (!(dG z))) (!(x9 z)))))))) (!(x8 z))) (!(x8 z))) (!(x8 z))) (!(x5 z)))))))) (!(x4 z))) (!(x4 z))) (!(x4 z))))) (fj z (x1 (dQ z) (x0 (100:Int) (ByteArray.size z.name))) (VT.loop Nat (fun i0=>i0<=z.nS/\z.nS<=25/\(∀i1<i0,yk (z.N i1)=false)) (Int.toNat 0) (gp z (0=(↑(Int.toNat 0):Int)) [fM z,fR z]) (fun i0=>VT.ite (decide ((i0:Int)<(z.nS:Int))) (VT.da [0<=(i0:Int)/\(i0:Int)<(z.nS:Int)] (VT.da (x6 (x6 (x6 [dL (eu z i0) (eu z i0)] (!(eu z i0))) (dR z i0)) (dR z i0)) (fj z (x1 (eu z i0) (x0 (45:Int) (z.N (Int.toNat (i0:Int))))) (VT.da [cZ ((i0:Int)+1)] (VT.done (gp z ((i0:Int)+1=(↑(ep i0):Int)) [fM z,fR z,ep i0<=z.nS/\z.nS<=25/\(∀i1<ep i0,yk (z.N i1)=false),z.nS - ep i0<z.nS - i0])))))) (VT.done [true=jk z]))))
end
end w1b
open w1b in
theorem Th (b:dJ) :dm prog 70 [jI b] (dB (jk b)):=by
 refine db dv (IY b) (V:=xt b) (by kernel_rfl) ?_
 simp only [xt,x0,x1,x2,x3,x4,x5,x6,x7,x8,x9,dC,dA,dz,dG,dL,dR,dQ,ep,eu,eG,ez,eF,eQ,fC,fM,fR,fj,gp,Rf,VT.holds,dt,Sq]
 refine ⟨⟨fun h1 h2=>⟨h1,h2⟩,fun h1 h2=>⟨h1,h2⟩⟩,fun h=> ?_,fun h=>⟨rfl,⟨ao _,by omega,fun j hj=>absurd hj (aF j)⟩,fun i ⟨hi,h25,hb⟩=>⟨fun dK=>⟨⟨by omega,dK⟩,fun h1=> ?_,fun h1=>⟨by unfold cZ;omega,by omega,⟨by omega,h25,fun j hj=> ?_⟩,by omega⟩⟩,fun iy=> ?_⟩⟩⟩
 ·rw [bW,jk,an]
  intro hx
  have:=hx.1
  omega
 ·rw [bW,jk,an]
  intro hx
  have h2:=hx.2 i (by omega)
  rw [yk,an] at h2
  omega
 ·rcases aU j i with h2|h2
  ·exact hb j h2
  ·rw [show j=i by omega,yk,an]
   omega
 ·rw [bW,jk,ai]
  exact ⟨by omega,fun j hj=>hb j (by omega)⟩
end Go.Abs
end
