/- Contracts. -/
import Derived.Test.YtoinjphpfpklmaaGreatDoorK65
set_option linter.unusedVariables false
set_option linter.unusedSimpArgs false
set_option maxRecDepth 100000
namespace Go.Abs
open Go
theorem qP {p:Nat->Int} {i:Nat} {v:Int} (hv:v=p (i+1)): ∀j,j<i+1+1->(if j<i+1 then p j else v)=p j:=fun j hj=>by
 split
 ·rfl
 ·rw [show j=i+1 by omega];exact hv
theorem XX (nB:Nat) (B:Nat->Int) (nO:Nat) (O:Nat->Int) (W G L:Int) (k:Nat):qI nB B nO O W G L k=Lay.xY nB B nO O k:=by
 unfold qI Lay.xY
 have h:=Lay.Gz (Lay.fB nB B nO O (nB+nO)) nB B nO O k
 rw [Lay.unit_eq] at h ⊢
 exact h
theorem rN (b:dJ) (nB:Nat) (B:Nat->Int) (nO:Nat) (O:Nat->Int) (W G L:Int) (i a e:Nat) (h0:ja b nB B nO O W G L=0) (hm:J6 (iN (b.N 0) (b.X 0) (b.Y 0) G W (4*b.N 0)) (Fz nB B nO O W G L)=0) (hi:i<b.N 0) (ha:a<=1) (he:e<=1):
 dm prog 34 [qR b nB B nO O W G L,XV b nB B nO O W G L,dI (i:Int),dI (a:Int),dI (e:Int)] (dI (jM nB B nO O (ko b G W i a e))):=by
 obtain ⟨hc,hs,_,_,_,_,_⟩:=fu h0
 obtain ⟨b1,b2,b3,b4,b5⟩:=js hc
 have hn4:=fp b2
 obtain ⟨hX,hY⟩:=eB b2
 have g1:=(fP hs).1
 obtain ⟨ue,u1,u2⟩:=MH hs
 have hl:=ES (n:=b.N 0) (X:=b.X 0) (Y:=b.Y 0) (G:=G) (W:=W) hi (c:=2*a+e) (by omega)
 rw [show (2*a+e)/2=a by omega,show (2*a+e)%2=e by omega] at hl
 have B4:=za (n:=b.N 0) (X:=b.X 0) (Y:=b.Y 0) (by omega) hX hY g1 (4*b.N 0)
 have hub:Fz nB B nO O W G L=jK nB B nO O:=ue
 have hN:jG (b.N 0) (b.X 0) (b.Y 0) G W (i:Int) (a:Int) (e:Int)/(Lay.fZ nB B nO O W G L:Int)<(Vd b nB B nO O W G L:Nat):=by
  rw [Vd,TH,ah hm,hub,ue]
  have h1:=Int.ediv_le_ediv (show 0<jK nB B nO O by omega) hl
  have h2:0<=iN (b.N 0) (b.X 0) (b.Y 0) G W (4*b.N 0)/jK nB B nO O:=bZ B4.1 (by omega)
  omega
 have h:=Zw (.val (.string b.name)) (.di b.nS (ML b)) b.dr (.di b.nO (MZ b)) (.di b.nB (NN b)) (Lay.nums nB B) (Lay.nums nO O) W G L (Lay.fZ nB B nO O W G L) (.di (Lay.iv nB B nO O W G L) (Lay.Af (Lay.fa nB B nO O) (Lay.ed nB) (fun i=>decide (nB<=i)))) (b.N 0) (b.X 0) (b.Y 0) (Vd b nB B nO O W G L) (qI nB B nO O W G L) i a e (by omega) (by omega) hX hY g1 (by omega) (by omega) (by omega) hN
 have hT:qI nB B nO O W G L=Lay.xY nB B nO O:=funext fun k=>XX nB B nO O W G L k
 have e2:jM nB B nO O (ko b G W i a e)=Cn (qI nB B nO O W G L) (Lay.fZ nB B nO O W G L:Nat) (jG (b.N 0) (b.X 0) (b.Y 0) G W i a e):=by rw [jM,ko,hT,ue]
 rw [e2]
 exact h
theorem sz3:prog.types[3].size=1:=by kernel_rfl
theorem by3:prog.types[3].bytes=8:=by kernel_rfl
section
variable {b:dJ} {nB:Nat} {B:Nat->Int} {nO:Nat} {O:Nat->Int} {W G L:Int} {f i:Nat}
theorem Mj (hi:i<=b.N 0) (h0:0<i):[dF b nB B nO O W G f i 0,dF b nB B nO O W G f i 1].getD ((kx b nB B nO O W G f (b.N 0 - i)).toNat*prog.types[3].size) 0=kx b nB B nO O W G f (b.N 0 - ((i:Int) - 1).toNat):=by
 rw [sz3,Nat.mul_one,show b.N 0 - ((i:Int) - 1).toNat=(b.N 0 - i)+1 by omega,kx,show b.N 0 - (b.N 0 - i)=i by omega]
theorem RM (hi:i<=b.N 0) (h0:0<i): ∀j,j<b.N 0->(if j=((i:Int) - 1).toNat then [dF b nB B nO O W G f i 0,dF b nB B nO O W G f i 1].getD ((kx b nB B nO O W G f (b.N 0 - i)).toNat*prog.types[3].size) 0 else if i<=j then bC b nB B nO O W G f j else 0)=if ((i:Int) - 1).toNat<=j then bC b nB B nO O W G f j else 0:=fun j hj=>by
 rw [Mj hi h0]
 by_cases h:j=((i:Int) - 1).toNat
 ·rw [ah h,ah (by omega),h];rfl
 ·rw [ae h]
  by_cases h2:i<=j
  ·rw [ah h2,ah (by omega)]
  ·rw [ae h2,ae (by omega)]
end
section
variable {b:dJ} {nB:Nat} {B:Nat->Int} {nO:Nat} {O:Nat->Int} {W G L:Int} {f i:Nat}
theorem we (hf:f<=1) (hx:0<=dX b nB B nO O W G f (b.N 0) f) (hi:i<b.N 0):(bC b nB B nO O W G f i=0\/bC b nB B nO O W G f i=1)/\(bC b nB B nO O W G f (((i:Int)+1)%(b.N 0:Int)).toNat=0\/bC b nB B nO O W G f (((i:Int)+1)%(b.N 0:Int)).toNat=1)/\
 0<=jM nB B nO O (bL b nB B nO O W G f i)/\dX b nB B nO O W G f (i+1) (kx b nB B nO O W G f (b.N 0 - (i+1))).toNat=dX b nB B nO O W G f i (kx b nB B nO O W G f (b.N 0 - i)).toNat+jM nB B nO O (bL b nB B nO O W G f i):=by
 have hp:=zW (b:=b) (nB:=nB) (B:=B) (nO:=nO) (O:=O) (W:=W) (G:=G) hf hx
 obtain ⟨p0,p1,p2⟩:=hp (b.N 0 - (i+1)) (by omega)
 obtain ⟨q0,q1,q2,q3⟩:=p2 (by omega)
 obtain ⟨r0,r1,_⟩:=hp (b.N 0) (by omega)
 have e1:b.N 0 - (i+1)+1=b.N 0 - i:=by omega
 have e2:b.N 0 - (b.N 0 - (i+1)) - 1=i:=by omega
 have e3:b.N 0 - (b.N 0 - (i+1))=i+1:=by omega
 rw [e1] at q0 q1 q2 q3
 rw [e2] at q1 q2 q3
 rw [e3] at p1 q2
 have hn:kx b nB B nO O W G f (b.N 0)=f:=by
  rw [cM,dX,Rv] at r1
  split at r1
  ·omega
  ·omega
 have hb:bC b nB B nO O W G f (((i:Int)+1)%(b.N 0:Int)).toNat=kx b nB B nO O W G f (b.N 0 - (i+1)):=by
  by_cases h:i+1<b.N 0
  ·rw [show (((i:Int)+1)%(b.N 0:Int)).toNat=i+1 by rw [Int.emod_eq_of_lt (by omega) (by omega)];omega]
   rfl
  ·rw [show (((i:Int)+1)%(b.N 0:Int)).toNat=0 by rw [show (i:Int)+1=(b.N 0:Int) by omega,Int.emod_self];rfl]
   rw [show b.N 0 - (i+1)=0 by omega]
   exact hn
 have ha:bC b nB B nO O W G f i=kx b nB B nO O W G f (b.N 0 - i):=rfl
 have hk:kR b nB B nO O W G i (2*(kx b nB B nO O W G f (b.N 0 - i)).toNat+(kx b nB B nO O W G f (b.N 0 - (i+1))).toNat)=jM nB B nO O (bL b nB B nO O W G f i):=by
  rw [kR,bL,hb,ha]
  rw [show (((2*(kx b nB B nO O W G f (b.N 0 - i)).toNat+(kx b nB B nO O W G f (b.N 0 - (i+1))).toNat)/2:Nat):Int)=kx b nB B nO O W G f (b.N 0 - i) by omega,show (((2*(kx b nB B nO O W G f (b.N 0 - i)).toNat+(kx b nB B nO O W G f (b.N 0 - (i+1))).toNat)%2:Nat):Int)=kx b nB B nO O W G f (b.N 0 - (i+1)) by omega]
 rw [hk] at q1 q2
 rw [hb,ha]
 exact ⟨q0,p0,q1,q2⟩
theorem Te (hs:Lay.fN nB B nO O W G L=0):Lay.Iy (Lay.fZ nB B nO O W G L) (Lay.iv nB B nO O W G L) (Lay.fa nB B nO O) (Lay.ed nB) (qI nB B nO O W G L)/\Lay.iv nB B nO O W G L<=16/\ ∀i,i<Lay.iv nB B nO O W G L->1<=Lay.fa nB B nO O i/\Lay.fa nB B nO O i<=10000:=by
 obtain ⟨s1,s2,s3,sB,sO,_,_⟩:=Lay.n5 hs
 have eU:Lay.fZ nB B nO O W G L=Lay.fB nB B nO O (nB+nO):=by rw [Lay.fZ,ah hs]
 have eN:Lay.iv nB B nO O W G L=nB+nO:=by rw [Lay.iv,ah hs]
 rw [eU,eN]
 exact ⟨Lay.Lg sB sO,by omega,fun i hi=>Lay.sa sB sO hi⟩
theorem JV (hN: ∀i,i<b.nS->b.N i<=1000) (h0:ja b nB B nO O W G L=0) (hm:J6 (iN (b.N 0) (b.X 0) (b.Y 0) G W (4*b.N 0)) (Fz nB B nO O W G L)=0) (hl: ∀i,i<b.N 0->jG (b.N 0) (b.X 0) (b.Y 0) G W (i:Nat) 1 0<=4000*(jK nB B nO O)) (hi:i<b.N 0) (hf:f<=1) (hx:0<=dX b nB B nO O W G f (b.N 0) f):
 dm prog 36 [qR b nB B nO O W G L,dI (i:Int),dI (bC b nB B nO O W G f i)] (dI (ft (b.N 0) (b.X 0) (b.Y 0) G W i (bC b nB B nO O W G f i)))/\
 dm prog 35 [qR b nB B nO O W G L,dI (i:Int),dI (ft (b.N 0) (b.X 0) (b.Y 0) G W i (bC b nB B nO O W G f i)),dI G] (dP (qB (b.N 0) (b.X 0) (b.Y 0) i (ft (b.N 0) (b.X 0) (b.Y 0) G W i (bC b nB B nO O W G f i)) G) (qA (b.N 0) (b.X 0) (b.Y 0) i (ft (b.N 0) (b.X 0) (b.Y 0) G W i (bC b nB B nO O W G f i)) G))/\
 dm prog 37 [qR b nB B nO O W G L,dI (i:Int),dI (bC b nB B nO O W G f i),dI (bC b nB B nO O W G f (((i:Int)+1)%(b.N 0:Int)).toNat)] (dI (bL b nB B nO O W G f i))/\
 dm prog 38 [.agg [dI (Lay.fZ nB B nO O W G L:Nat),.di (Lay.iv nB B nO O W G L) (Lay.Af (Lay.fa nB B nO O) (Lay.ed nB) (fun i=>decide (nB<=i)))],XV b nB B nO O W G L,dI (bL b nB B nO O W G f i)] (.fy [.agg [Lay.Hh (cl nB B nO O W G L (bL b nB B nO O W G f i) false),Lay.Hh (cl nB B nO O W G L (bL b nB B nO O W G f i) true)],dB (okL nB B nO O W G L (bL b nB B nO O W G f i))]):=by
 obtain ⟨hc,hs,_,_,_,_,_⟩:=fu h0
 obtain ⟨b1,b2,b3,b4,b5⟩:=js hc
 have hn4:=fp b2
 obtain ⟨hX,hY⟩:=eB b2
 have g1:=(fP hs).1
 obtain ⟨ue,u1,u2⟩:=MH hs
 obtain ⟨p0,p1,p2,_⟩:=we hf hx hi
 have ha:0<=bC b nB B nO O W G f i/\bC b nB B nO O W G f i<=1:=by omega
 have he:0<=bC b nB B nO O W G f (((i:Int)+1)%(b.N 0:Int)).toNat/\bC b nB B nO O W G f (((i:Int)+1)%(b.N 0:Int)).toNat<=1:=by omega
 have bb:=pU (n:=b.N 0) (X:=b.X 0) (Y:=b.Y 0) (i:Int) g1 ha
 have gg:=g1
 obtain ⟨g11,g12,_,_⟩:=gg
 have hle:=(qQ h0 hl hi ha he).1
 have B4:=za (n:=b.N 0) (X:=b.X 0) (Y:=b.Y 0) (by omega) hX hY g1 (4*b.N 0)
 have hub:Fz nB B nO O W G L=jK nB B nO O:=ue
 have lS:bL b nB B nO O W G f i<=iN (b.N 0) (b.X 0) (b.Y 0) G W (4*b.N 0):=by
  have h1:=ES (n:=b.N 0) (X:=b.X 0) (Y:=b.Y 0) (G:=G) (W:=W) hi (c:=(2*bC b nB B nO O W G f i+bC b nB B nO O W G f (((i:Int)+1)%(b.N 0:Int)).toNat).toNat) (by omega)
  rw [show (((2*bC b nB B nO O W G f i+bC b nB B nO O W G f (((i:Int)+1)%(b.N 0:Int)).toNat).toNat/2:Nat):Int)=bC b nB B nO O W G f i by omega,show (((2*bC b nB B nO O W G f i+bC b nB B nO O W G f (((i:Int)+1)%(b.N 0:Int)).toNat).toNat%2:Nat):Int)=bC b nB B nO O W G f (((i:Int)+1)%(b.N 0:Int)).toNat by omega] at h1
  exact h1
 have Jh:0<=bL b nB B nO O W G f i:=by
  unfold jM Cn at p2
  split at p2
  ·omega
  ·omega
 obtain ⟨t1,t2,t3⟩:=Te hs
 have hq:bL b nB B nO O W G f i/(Lay.fZ nB B nO O W G L:Nat)<=iN (b.N 0) (b.X 0) (b.Y 0) G W (4*b.N 0)/(Lay.fZ nB B nO O W G L:Nat):=Int.ediv_le_ediv (by omega) lS
 have hq0:0<=bL b nB B nO O W G f i/(Lay.fZ nB B nO O W G L:Nat):=bZ Jh (by omega)
 have hmb:iN (b.N 0) (b.X 0) (b.Y 0) G W (4*b.N 0)<=4000*jK nB B nO O:=by
  rw [<-hub]
  unfold J6 at hm
  split at hm
  ·omega
  ·omega
 have hq2:iN (b.N 0) (b.X 0) (b.Y 0) G W (4*b.N 0)/(Lay.fZ nB B nO O W G L:Nat)<=4000:=by
  rw [ue]
  have:=Int.ediv_le_ediv (show 0<jK nB B nO O by omega) hmb
  rwa [Int.mul_ediv_cancel _ (by omega)] at this
 have Uk:(Vd b nB B nO O W G L:Int)=iN (b.N 0) (b.X 0) (b.Y 0) G W (4*b.N 0)/(Lay.fZ nB B nO O W G L:Nat)+1:=by
  rw [Vd,TH,ah hm,hub,<-ue]
  omega
 exact ⟨rR _ _ _ _ _ _ _ _ _ _ _ _ _ _ _ _ _ (by omega) g1 ha,qS _ _ _ _ _ _ _ _ _ _ _ _ _ _ _ _ _ _ (by omega) hX hY (by omega) (by omega),qN _ _ _ _ _ _ _ _ _ _ _ _ _ _ _ _ _ _ (by omega) (by omega) hX hY g1 ha he,
  Lay.UF _ _ _ _ _ _ _ _ (by omega) (by omega) t2 t1 t3 Jh (by rw [ue];exact hle) (by omega) (by omega)⟩
theorem r8 {p:Nat->List Int} {i:Nat} {v:List Int} (hv:v=p i): ∀j,j<i+1->(if j<i then (p j).length else v.length)=(p j).length/\ ∀k,k<(p j).length->(if j<i then (p j).getD k 0 else v.getD k 0)=(p j).getD k 0:=fun j hj=>by
 by_cases h:j<i
 ·rw [ah h]
  exact ⟨rfl,fun k _=>by rw [ah h]⟩
 ·have:j=i:=by omega
  subst this
  rw [ae h,hv]
  exact ⟨rfl,fun k _=>by rw [ae h]⟩
theorem jT {p:Nat->Int} {i:Nat} {v:Int} (hv:v=p i): ∀j,j<i+1->(if j<i then p j else v)=p j:=fun j hj=>by
 by_cases h:j<i
 ·rw [ah h]
 ·rw [ae h,hv,show j=i by omega]
end
noncomputable def I5 (b:dJ) (nB:Nat) (B:Nat->Int) (nO:Nat) (O:Nat->Int) (W G L:Int):eH:={ dq:=[(1,[(2,TA b nB B nO O W G L)]),(5,[(1,.res fun _=> .fy [XV b nB B nO O W G L,dI 0])]),(15,[(1,.res fun _=>dI (b.N 0:Int))]),(22,[(1,.pos),(3,.pos)]),(23,[(6,.res fun q=>dI (jM nB B nO O (ko b G W (aI q 2) (aI q 3) (aI q 4))))]),(32,[(1,.res fun _=>dI (b.N 0:Int))]),(47,[(7,.Lu 2)]),(52,[(10,.pos)]),(53,[(6,.res fun q=>dI (ft (b.N 0) (b.X 0) (b.Y 0) G W (aI q 1) (aI q 2))),(9,.res fun q=>dP (qB (b.N 0) (b.X 0) (b.Y 0) (aI q 1) (aI q 2) (aI q 3)) (qA (b.N 0) (b.X 0) (b.Y 0) (aI q 1) (aI q 2) (aI q 3))),(14,.res fun q=>dI (ko b G W (aI q 1) (aI q 2) (aI q 3)))]),(54,[(8,.res fun q=> .fy [.agg [Lay.Hh (cl nB B nO O W G L (aI q 2) false),Lay.Hh (cl nB B nO O W G L (aI q 2) true)],dB (okL nB B nO O W G L (aI q 2))])])],loops:=[(2,{ ι:=Nat,keep:=[3,4,5,7,9,10,11,12,54,70],boxes:=[3,4,5],ts:=fun _ i=>[(71,dI (i:Int))],bx:=fun σ i=>[(12,[dI (dX b nB B nO O W G (eA (σ.get 11)).toNat i 0),dI (dX b nB B nO O W G (eA (σ.get 11)).toNat i 1)]),(9,bx9 (XV b nB B nO O W G L) (b.N 0) σ.nx i (eA (σ.get 11)).toNat),(10,UO (b.N 0) σ.nx i (eA (σ.get 11)).toNat)],rb:=fun σ i=>rbB b nB B nO O W G i (eA (σ.get 11)).toNat,inv:=fun _ i=>i<=b.N 0,mu:=fun _ i=>b.N 0 - i,rd:=fun _ σ=>(eA (σ.get 71)).toNat }),(8,{ ι:=Nat,keep:=[3,4,5,7,9,10,20,21,24],boxes:=[3,4,5],ts:=fun σ i=>[(25,dI (i:Int)),(26,dI (kx b nB B nO O W G (eA (σ.get 21)).toNat (b.N 0 - i)))],bx:=fun σ _=>[(9,bx9 (XV b nB B nO O W G L) (b.N 0) σ.nx (b.N 0) 1),(10,UO (b.N 0) σ.nx (b.N 0) 1),(24,[.row 1 (σ.nx+54) 0 (b.N 0),Yp])],rb:=fun σ i=>rbB b nB B nO O W G (b.N 0) 1++[(24,0,1,b.N 0,[fun j=>dI (if i<=j then bC b nB B nO O W G (eA (σ.get 21)).toNat j else 0)])],inv:=fun _ i=>i<=b.N 0,mu:=fun _ i=>i,rd:=fun _ σ=>(eA (σ.get 25)).toNat }),(10,{ ι:=Nat,keep:=[3,4,5,7,9,10,20,21,24,207],boxes:=[3,4,5],ts:=fun _ i=>[(208,dI (i:Int))],bx:=fun σ i=>[(9,bx9 (XV b nB B nO O W G L) (b.N 0) σ.nx (b.N 0) 1),(10,UO (b.N 0) σ.nx (b.N 0) 1),(24,[.row 1 (σ.nx+54) 0 (b.N 0),.row 6 (σ.nx+55) 0 i])],rb:=fun σ i=>rbB b nB B nO O W G (b.N 0) 1++[(24,0,1,b.N 0,[fun j=>dI (bC b nB B nO O W G (eA (σ.get 21)).toNat j)]),(24,1,6,i,runB b nB B nO O W G L (eA (σ.get 21)).toNat)],inv:=fun _ i=>i<=b.N 0,mu:=fun _ i=>b.N 0 - i,rd:=fun _ σ=>(eA (σ.get 208)).toNat })],dw:=[(27,{ ι:=Unit,keep:=[3,4,5,7,9,10,11,12,13,14,15,54,70,71,76],boxes:=[3,4,5,12],ts:=fun _ _=>[],bx:=fun σ _=>[(14,[dI (dZ b nB B nO O W G (eA (σ.get 11)).toNat (eA (σ.get 13)).toNat ((eA (σ.get 76)).toNat+1) 0),dI (dZ b nB B nO O W G (eA (σ.get 11)).toNat (eA (σ.get 13)).toNat ((eA (σ.get 76)).toNat+1) 1)]),(15,[dI (dW b nB B nO O W G (eA (σ.get 11)).toNat (eA (σ.get 13)).toNat ((eA (σ.get 76)).toNat+1) 0),dI (dW b nB B nO O W G (eA (σ.get 11)).toNat (eA (σ.get 13)).toNat ((eA (σ.get 76)).toNat+1) 1)]),(9,bx9 (XV b nB B nO O W G L) (b.N 0) σ.nx (eA (σ.get 13)).toNat (eA (σ.get 11)).toNat),(10,UO (b.N 0) σ.nx (eA (σ.get 13)).toNat (eA (σ.get 11)).toNat)],rb:=fun σ _=>rbB b nB B nO O W G (eA (σ.get 13)).toNat (eA (σ.get 11)).toNat,inv:=fun _ _=>True,mu:=fun _ _=>0,rd:=fun _ _=>() })],JC:=[(0,3),(4,5),(6,3)],dec:=[55,77,148,181] }
namespace w3n
noncomputable section
structure Z where
 b:dJ
 nB:Nat
 B:Nat->Int
 nO:Nat
 O:Nat->Int
 W:Int
 G:Int
 L:Int
variable (z:Z) (i0 i1 i2:Nat) (p q:Prop) (P:List Prop) (a b:Int) (k l m:Nat) (g:Bool) (A:DV) (E F:List DV) (U V:VT) (oh:Nat->DV) (Nc:Nat->VT) (Ht:PUnit->VT)
abbrev x0:Int:=(i0:Int)
abbrev x1:=Int.toNat (x0 i0)
abbrev x2:=Int.toNat 1
abbrev x3:=Int.toNat 0
abbrev x4:=dX z.b z.nB z.B z.nO z.O z.W z.G k l m
abbrev x5:=z.b.N 0+1
abbrev x6:=i0<z.b.N 0->rf a
abbrev x7:=i0<z.b.nO->rf (z.b.O i0 k)
abbrev x8:=i0<z.b.nB->rf (z.b.B i0 k)
abbrev x9:Int:=(↑(z.b.N 0):Int)
abbrev dC:List Prop:=rf (Value.slice none 0 0)::P
abbrev dA:=x1 i0+1
abbrev dz:=decide (a<(0:Int))
abbrev dG:=Lay.iv z.nB z.B z.nO z.O z.W z.G z.L
abbrev dL:=dZ z.b z.nB z.B z.nO z.O z.W z.G k (x1 i0) (l+1) m
abbrev dR:List Prop:=rf (0:Nat)::P
abbrev dQ:=bC z.b z.nB z.B z.nO z.O z.W z.G k l
abbrev ep:=ix (z.b.N 0) (x0 i0+1)
abbrev eu:=ng 0 (Int.toNat a)
abbrev eG:List Prop:=ri (g=true)::P
abbrev ez:=x4 z k i0 (0:Nat)
abbrev eF:=x4 z k i0 (1:Nat)
abbrev eQ:=i1<dA i0->rf a
abbrev fC:=Vd z.b z.nB z.B z.nO z.O z.W z.G z.L
abbrev fM:=0<=a/\b<(↑(2:Nat):Int)
abbrev fR:=DV.di k [oh]
abbrev fj:Int:= -(1:Int)
abbrev gp:=dF z.b z.nB z.B z.nO z.O z.W z.G 0 k l
abbrev iI:=ko z.b z.G z.W (x0 i0) a b
abbrev ji:=dW z.b z.nB z.B z.nO z.O z.W z.G k (x1 i0) (l+1) m
abbrev iq:List Prop:=rf z.nB::(∀i0<z.nB,rf (z.B i0))::rf z.nO::(∀i0<z.nO,rf (z.O i0))::rf z.W::rf z.G::rf z.L::P
abbrev jj:=ng 0 (x1 i0)
abbrev jv:=x4 z k l (1:Nat)
abbrev il:=Int.toNat 2
abbrev iH:=eG P (!(dz a))
abbrev lu:=dR (rf (x5 z)::P)
abbrev lq:=cl z.nB z.B z.nO z.O z.W z.G z.L a g
abbrev ku:=FA z.b z.nB z.B z.nO z.O z.W z.G z.L (Int.toNat (gd z.b z.nB z.B z.nO z.O z.W z.G))
abbrev qq:Int:=(↑(Lay.fZ z.nB z.B z.nO z.O z.W z.G z.L):Int)
abbrev nm:=decide (a>=(0:Int))
abbrev nA:=dF z.b z.nB z.B z.nO z.O z.W z.G 1 k l
abbrev uh:=ee (z.b.N 0) (z.b.X 0) (z.b.Y 0) (x0 i0)
abbrev BB:=dD (z.b.N 0) (z.b.X 0) (z.b.Y 0) (x0 i0)
abbrev BF:=lM (z.b.N 0) (z.b.X 0) (z.b.Y 0) i0
abbrev ou:=Int.toNat (x0 i0+1)
abbrev ug:=x4 z k l (0:Nat)
abbrev BE:=qI z.nB z.B z.nO z.O z.W z.G z.L i0
abbrev sA:=dL z i0 x2 k (1:Nat)
abbrev sL:=dL z i0 x3 k (1:Nat)
abbrev lN:=bL z.b z.nB z.B z.nO z.O z.W z.G k l
abbrev rV:=bPr z.b z.nB z.B z.nO z.O z.W z.G z.L
abbrev uf:=VT.da [p] U
abbrev Gf:=jv z (1:Nat) (eu (x9 z))
abbrev K6:=eu ((x0 i0+1)%x9 z)
abbrev Ge:=lu z (dR P)
abbrev wN:=fM (1:Int) (1:Int)
abbrev Jd:=dC (dC (dC (dC (dC P))))
abbrev SC:=dQ z x2 (jj i0)
abbrev BD:List Prop:=p::rf (fC z)::(∀i0<fC z,rf (BE z i0))::P
abbrev wG:=fM (0:Int) (0:Int)
abbrev Ob:List Prop:=rf z.b.name::rf z.b.nS::(∀i0<z.b.nS,rf (z.b.fl i0))::(∀i0<z.b.nS,rf (z.b.N i0)/\(∀i1<z.b.N i0,rf (z.b.X i0 i1))/\(∀i1<z.b.N i0,rf (z.b.Y i0 i1)))::rf z.b.dr::rf z.b.nO::(∀(i0:Nat),x7 z i0 (0:Nat))::(∀(i0:Nat),x7 z i0 (1:Nat))::(∀(i0:Nat),x7 z i0 (2:Nat))::(∀(i0:Nat),x7 z i0 (3:Nat))::(∀(i0:Nat),x7 z i0 (4:Nat))::(∀(i0:Nat),x7 z i0 (5:Nat))::rf z.b.nB::(∀(i0:Nat),x8 z i0 (0:Nat))::(∀(i0:Nat),x8 z i0 (1:Nat))::(∀(i0:Nat),x8 z i0 (2:Nat))::(∀(i0:Nat),x8 z i0 (3:Nat))::(∀(i0:Nat),x8 z i0 (4:Nat))::(∀(i0:Nat),x8 z i0 (5:Nat))::iq z (rf (qq z)::rf (dG z)::(∀i0<dG z,rf (Lay.fa z.nB z.B z.nO z.O i0))::(∀i0<dG z,rf (Lay.ed z.nB i0))::(∀i0<dG z,rf (decide (z.nB<=i0)))::rf (z.b.N 0)::(∀(i0:Nat),x6 z i0 (z.b.X 0 i0))::(∀(i0:Nat),x6 z i0 (z.b.Y 0 i0))::(∀(i0:Nat),x6 z i0 (z.b.X 0 (ep z i0)))::(∀(i0:Nat),x6 z i0 (z.b.Y 0 (ep z i0)))::(∀(i0:Nat),x6 z i0 (uh z i0))::(∀(i0:Nat),x6 z i0 (BB z i0))::rf (z.b.N 0)::(∀(i0:Nat),x6 z i0 (BF z i0))::P)
abbrev wM:=Int.toNat 3
abbrev SB:List Prop:=rf (1:Int)::P
abbrev MC:=(nm (Gf z))&&(!(dz a))
abbrev Sg:List Prop:=rf (0:Int)::P
abbrev x65:= ∀i0<x5 z,rf (gp z i0 (0:Nat))
abbrev x66:List Prop:=(∀i0<x5 z,rf (gp z i0 (1:Nat)))::P
abbrev x67:= ∀i0<x5 z,rf (ez z i0 (0:Nat))
abbrev x68:List Prop:=(∀i0<x5 z,rf (eF z i0 (0:Nat)))::P
abbrev Oa:=ug z (0:Nat) (eu (x9 z))
abbrev x70:List Prop:=p::rf (x5 z)::x65 z::x66 z P
abbrev Wg:List Prop:=rf (x5 z)::x67 z::x68 z P
abbrev x72:=DV.di (dG z) [fun i0=>dI (Lay.fa z.nB z.B z.nO z.O i0),fun i0=>dI (Lay.ed z.nB i0),fun i0=>dB (decide (z.nB<=i0))]
abbrev MB:=(!(dz a))=true->p
abbrev Oy:=jM z.nB z.B z.nO z.O (iI z i0 (1:Int) a)
abbrev Ox:=jM z.nB z.B z.nO z.O (iI z i0 (0:Int) a)
abbrev K5:=uf (cZ a) U
abbrev x77:=VT.done (Ob z (rf a::rf (x0 i0)::P))
abbrev MA:=iI z i0 (SC z i0) (dQ z x2 (K6 z i0))
abbrev x79:List DV:=fR z.nB (fun i0=>dI (z.B i0))::fR z.nO (fun i0=>dI (z.O i0))::dI z.W::dI z.G::dI z.L::E
abbrev ZW:=DV.dN (DV.val (Value.string z.b.name)::DV.di z.b.nS [fun i0=>dI (z.b.fl i0),fun i0=>DV.di (z.b.N i0) [fun i1=>dI (z.b.X i0 i1),fun i1=>dI (z.b.Y i0 i1)]]::dI z.b.dr::DV.di z.b.nO [fun i0=>dI (z.b.O i0 0),fun i0=>dI (z.b.O i0 1),fun i0=>dI (z.b.O i0 2),fun i0=>dI (z.b.O i0 3),fun i0=>dI (z.b.O i0 4),fun i0=>dI (z.b.O i0 5)]::DV.di z.b.nB [fun i0=>dI (z.b.B i0 0),fun i0=>dI (z.b.B i0 1),fun i0=>dI (z.b.B i0 2),fun i0=>dI (z.b.B i0 3),fun i0=>dI (z.b.B i0 4),fun i0=>dI (z.b.B i0 5)]::x79 z [dI (qq z),x72 z,DV.di (z.b.N 0) [fun i0=>dI (z.b.X 0 i0),fun i0=>dI (z.b.Y 0 i0),fun i0=>dI (z.b.X 0 (ep z i0)),fun i0=>dI (z.b.Y 0 (ep z i0)),fun i0=>dI (uh z i0),fun i0=>dI (BB z i0)],fR (z.b.N 0) (fun i0=>dI (BF z i0))])
abbrev SA:=Int.toNat (x9 z)
abbrev N9:=ji z i0 x2 k (0:Nat)
abbrev N8:=ji z i0 x3 k (0:Nat)
abbrev Mz:=kx z.b z.nB z.B z.nO z.O z.W z.G k (z.b.N 0 - l)
abbrev Jo:=sA z i0 x3
abbrev Jn:=sL z i0 x3
abbrev x87:=dQ z x3 (jj i0)
abbrev Ow:=ji z i0 x2 k (1:Nat)
abbrev Ov:=ji z i0 x3 k (1:Nat)
abbrev Jm:=dL z i0 x2 x2 (0:Nat)
abbrev Jl:=dL z i0 x3 x2 (0:Nat)
abbrev Jc:=if (dz a)=true then true else g
abbrev N7:=List.length (lq z a true)
abbrev N6:=List.length (lq z a false)
abbrev N5:=if (decide (i1<i0))=true then a else b
abbrev x96:=ft (z.b.N 0) (z.b.X 0) (z.b.Y 0) z.G z.W (x0 i0) a
abbrev K4:=VT.da (wN::P) U
abbrev Sf:=dL z i0 x2 k (0:Nat)
abbrev Se:=dL z i0 x3 k (0:Nat)
abbrev yw:List Prop:=[dz a=false->(!(dz b))=true]
abbrev wP:=VT.da (wG::P) U
abbrev Jv:=Int.toNat (x0 i0 - 1)
abbrev BG:=(nm (Oa z))&&(!(dz fj))
abbrev Ju:=dm prog k (ZW z::E) (dI a)
abbrev XM:= ∀i0<x5 z,rf (nA z i0 (0:Nat))
abbrev XL:= ∀i0<x5 z,rf (nA z i0 (1:Nat))
abbrev XK:= ∀(i1:Nat),eQ i0 i1 (ug z (0:Nat) i1)
abbrev XJ:= ∀(i1:Nat),eQ i0 i1 (nA z i1 (0:Nat))
abbrev XI:List Prop:=(∀(i1:Nat),eQ i0 i1 (jv z (0:Nat) i1))::P
abbrev XH:= ∀(i1:Nat),eQ i0 i1 (ug z (1:Nat) i1)
abbrev XG:= ∀i0<x5 z,rf (ez z i0 (1:Nat))
abbrev XF:=x70 z (∀(i1:Nat),eQ i0 i1 (jv z (1:Nat) i1)) P
abbrev XE:=x70 z (∀i0<x5 z,rf (eF z i0 (1:Nat))) P
abbrev XD:= ∀(i1:Nat),eQ i0 i1 (gp z i1 (0:Nat))
abbrev OX:List Prop:=(i0+1=dA i0)::p::P
abbrev ME:=i0<fX.nR (ku z)->a=b
abbrev Jt:=x96 z i0 (SC z i0)
abbrev XC:List Prop:=(∀(i1:Nat),eQ i0 i1 (nA z i1 (1:Nat)))::p::P
abbrev OW:List DV:=fR (fC z) (fun i0=>dI (BE z i0))::E
abbrev wO:=iI z i0 (x87 z i0) (dQ z x3 (K6 z i0))
abbrev XB:List Prop:=(∀(i1:Nat),eQ i0 i1 (gp z i1 (1:Nat)))::p::P
abbrev zt:=x77 z i0 (SB (rf (x9 z)::rf (x0 i0)::P)) (1:Int)
abbrev zr:=x77 z i0 (Sg (rf (x9 z)::rf (x0 i0)::P)) (0:Int)
abbrev XA:=iq z (Jd [rf (ez z i0 x3),rf (eF z i0 x3),True])
abbrev Xz:=(Tables.types (Program.toTables prog))[(3:Nat)]
abbrev Gm:=eG P (MC z (0:Int))
abbrev Js:=List.getD (lq z a true) i2 0
abbrev Jr:=List.getD (lq z a false) i2 0
abbrev SV:=BD z p (lu z (lu z (lu z (Ge z (rf (z.b.N 0)::P)))))
abbrev OV:=Ge z (rf (dA i0)::Ge z (rf (dA i0)::iq z (Jd [rf (ez z i0 x2),rf (eF z i0 x2),True])))
abbrev OU:=dR (rf (dA i0)::dC (dR (rf (dA i0)::dC (XA z i0))))
abbrev SU:=0+Int.toNat a*TypeInfo.size Xz
abbrev SS:List Prop:=rf (dA i0)::XK z i0::XI z i0 (rf (dA i0)::XD z i0::XB z i0 p P)
abbrev SQ:=Wg z (rf (x5 z)::XG z::XE z (rf (x5 z)::XM z::XL z::rf (z.b.N 0)::P))
abbrev SP:=Wg z (rf (dA i0)::XH z i0::XF z i0 (rf (dA i0)::XJ z i0::XC z i0 p P))
abbrev OT:=VT.cut PUnit (fun (i0:PUnit)=>True) U Ht
abbrev Xy:=0<=a/\(0:Int)<(2:Int)/\p
abbrev OS:=iH P (sA z i0 il)
abbrev OR:=iH P (sL z i0 il)
abbrev OQ:List Prop:=[p,0<=a/\(0:Int)<(2:Int)]
abbrev D6:=if (decide (i1<(dA i0)))=true then a else b
abbrev Gl:=MB (cZ b) a
abbrev MD:=VT.loop Nat (fun i0=>i0<=z.b.N 0) k P Nc
abbrev OP:List Prop:=p::Ob z (rf (x9 z)::SB P)
abbrev D5:=1=x3+1
abbrev D4:=dA i0+1=ou i0+1
abbrev D3:=i1<ou i0+1->a=b
abbrev Xx:=(k+1)*(l+1)<=140737488355328
abbrev Jq:=x96 z i0 (x87 z i0)
abbrev Jp:=i0<x3+1->0=a
abbrev SO:=Xy (b<=9223372036854775807) a
abbrev OO:=if (decide (i1<i0))=true then k else l
abbrev ON:=qB (z.b.N 0) (z.b.X 0) (z.b.Y 0) (x0 i0) a z.G
abbrev OM:=qA (z.b.N 0) (z.b.X 0) (z.b.Y 0) (x0 i0) a z.G
abbrev SN:=bE z.b z.nB z.B z.nO z.O z.W z.G
abbrev OL:=0=(x3:Int)
abbrev SM:=dm prog k E (DV.fy F)
abbrev SL:=eG (eG P (MC z fj)) (MC z fj)
abbrev SK:=VT.ite (decide ((x0 i0)<(x9 z))) U V
abbrev SJ:=x0 i0+1=(↑(ou i0):Int)
abbrev SI:List Prop:=[ou i0<=z.b.N 0,z.b.N 0 - ou i0<z.b.N 0 - i0]
abbrev OK:=eF z i0 x2+Oy z i0 (1:Int)
abbrev OJ:=eF z i0 x2+Oy z i0 (0:Int)
abbrev OI:=eF z i0 x3+Oy z i0 (1:Int)
abbrev OH:=eF z i0 x3+Oy z i0 (0:Int)
abbrev OG:=ez z i0 x2+Ox z i0 (1:Int)
abbrev OF:=ez z i0 x2+Ox z i0 (0:Int)
abbrev OE:=ez z i0 x3+Ox z i0 (1:Int)
abbrev OD:=ez z i0 x3+Ox z i0 (0:Int)
abbrev Xw:=Ju z b (34:Nat) (OW z [dI (x0 i0),dI 1,dI a])
abbrev Xv:=Ju z b (34:Nat) (OW z [dI (x0 i0),dI 0,dI a])
abbrev OC:=eu (x9 z)<x5 z
abbrev Xu:=if i0<=i1 then (dQ z x2 i1) else (0:Int)
abbrev OB:=fM fj fj
abbrev OA:=0<=x9 z/\x9 z<(↑(x5 z):Int)
abbrev Oz:List Prop:=(dA i0<=dA i0)::Xx (dA i0) (nat_lit 15)::((1:Nat)<=(1:Nat))::P
abbrev Xt:=iH (MB wG fj::iH (iH (iH P fj) fj) fj) fj
abbrev Xs:=List.getD [nA z (jj i0) (0:Nat),nA z (jj i0) (1:Nat)] (SU (Mz z x2 i0)) 0
abbrev SH:List Prop:=p::Ob z (rf (x9 z)::Sg P)
abbrev Xr:=i1<z.b.N 0->a=(if (Jv i0)<=i1 then b else (0:Int))
abbrev SG:List Prop:=(BG z=true->p)::eG (eG P (BG z)) (BG z)
abbrev Xq:=i0<fX.nR (ku z)->N7 z a=fX.nQ (ku z) i0/\p
abbrev Xp:=i0<fX.nR (ku z)->N6 z a=fX.nP (ku z) i0/\p
abbrev Xo:=VT.ite (decide ((x0 i0)>(0:Int))) U V
abbrev Xn:=i0<fX.nC (ku z)->a=fX.C (ku z) i0
abbrev Xm:=if (decide (i1=(eu (x0 i0 - 1))))=true then a else b
abbrev Xl:=dm prog 35 [ZW z,dI (x0 i0),dI a,dI z.G] A
abbrev Xk:=i0<z.b.N 0->0=(if (SA z)<=i0 then a else (0:Int))
abbrev Xj:List Prop:=p::SV z q (dR ((i0+1=ou i0)::iq z (Jd (SI z i0))))
abbrev Xi:List Prop:=rf (x9 z)::SQ z (p::SV z (x3=0) (dR ((x3=0)::iq z (Jd []))))
abbrev Xh:=DV.val (Value.agg (Array.mk [Value.int IntKind.i64 a,Value.int IntKind.i64 b]))
abbrev Xg:List Prop:=p::(i0=fX.nR (ku z))::(∀(i0:Nat),ME z i0 (x0 i0) (fX.F (ku z) i0))::P
abbrev SF:=dm prog 33 [ZW z] (dI (x9 z))
abbrev Xf:List Prop:=(fX.nC (ku z)=0)::(fX.nR (ku z)=0)::(ua.nT (rV z)=0)::(ua.n0 (rV z)=0)::P
abbrev Xe:=ME z i0 (Ly z.b z.G z.W i0 a) (fX.SX (ku z) i0)
abbrev Xd:=ME z i0 (Lx z.b z.G z.W i0 a) (fX.SY (ku z) i0)
abbrev Xc:=SQ z (SV z p (dC (iq z (Jd [Jv i0<=z.b.N 0,Jv i0<i0]))))
abbrev Xb:List Prop:=rf (3:Int)::SP z i0 (Sf z i0 il=Sf z i0 wM) ((a=sA z i0 wM)::(N9 z i0 il=N9 z i0 wM)::BD z p (OV z i0))
abbrev Xa:List Prop:=rf (3:Int)::SS z i0 (Se z i0 il=Se z i0 wM) ((a=sL z i0 wM)::(N8 z i0 il=N8 z i0 wM)::BD z p (OU z i0))
abbrev W9:=SM (38:Nat) (DV.agg [dI (qq z),x72 z]::OW z [dI a]) E
abbrev SE:=Sg (Wg z (OX i0 (XH z i0) (XF z i0 (OX i0 (XJ z i0) (XC z i0 p ((fj=Jo z i0)::(0=N9 z i0 x3)::BD z (0=Ow z i0 x3) (Ge z ((i0+1=dA i0)::Ge z ((i0+1=dA i0)::iq z (Jd [rf (ez z i0 x2),rf (eF z i0 x2),True]))))))))))
abbrev W8:=uf p (VT.da [i0<=i0,Xx i0 (nat_lit 79),(1:Nat)<=(1:Nat)] (K5 (x0 i0+1) (VT.done P)))
abbrev W7:List Prop:=[0<=x0 i0/\x0 i0<(↑(x5 z):Int),p,jj i0<x5 z,SU a<2]
abbrev W6:=SB (SS z i0 (Se z i0 x3=Jl z i0) ((a=sL z i0 x2)::P))
abbrev W5:=SB (SP z i0 (Sf z i0 x3=Jm z i0) ((a=sA z i0 x2)::P))
abbrev SD:=Sg (OX i0 (XK z i0) (XI z i0 (OX i0 (XD z i0) (XB z i0 p ((fj=Jn z i0)::(0=N8 z i0 x3)::BD z (0=Ov z i0 x3) (dR ((i0+1=dA i0)::dC (dR ((i0+1=dA i0)::dC (XA z i0))))))))))
abbrev W4:List Prop:=rf (x9 z)::SQ z (p::(i0+1=ou i0)::(∀i1<ou i0,N5 i0 i1 (i1:Int) (x0 i0)=(i1:Int))::P)
abbrev WZ:List Prop:=(i0+1=x5 z)::XG z::XE z ((i0+1=x5 z)::XM z::XL z::(SA z=z.b.N 0)::BD z p (Ge z ((i0+1=x5 z)::Ge z ((i0+1=x5 z)::dR ((SA z=z.b.N 0)::dC (iq z (Jd [])))))))
abbrev WY:List Prop:=rf (2:Int)::SS z i0 (a=Se z i0 il) ((sL z i0 x2=sL z i0 il)::p::BD z (Ov z i0 x2=Ov z i0 il) (OU z i0))
abbrev WX:List Prop:=rf (2:Int)::SP z i0 (a=Sf z i0 il) ((sA z i0 x2=sA z i0 il)::p::BD z (Ow z i0 x2=Ow z i0 il) (OV z i0))
abbrev WW:=SK z i0 (VT.da [0<=x0 i0/\x0 i0<x9 z,jj i0<z.b.N 0,cZ (x0 i0+1),0<=x0 i0+1/\0<x9 z,0<=(x0 i0+1)%x9 z/\(x0 i0+1)%x9 z<x9 z,K6 z i0<z.b.N 0] U) (VT.done ((z.b.N 0<=z.b.N 0)::(i0<=i0)::(x5 z<=x5 z)::(x5 z<=x5 z)::(z.b.N 0=fX.nC (ku z))::P))
abbrev WV:=VT.da [cZ (x0 i0 - 1),0<=x0 i0 - 1/\x0 i0 - 1<x9 z,eu (x0 i0 - 1)<z.b.N 0] (K5 (x0 i0 - 1) (VT.done ((x0 i0 - 1=(↑(Jv i0):Int))::P)))
abbrev WU:List Prop:=[p,q,fC z=ua.nT (rV z),∀i0<ua.nT (rV z),BE z i0=ua.T (rV z) i0,x5 z=ua.n0 (rV z),∀i0<ua.n0 (rV z),ez z i0 (0:Nat)=ua.A0 (rV z) i0,∀i0<ua.n0 (rV z),eF z i0 (0:Nat)=ua.A1 (rV z) i0,x5 z=ua.n1 (rV z),∀i0<ua.n1 (rV z),ez z i0 (1:Nat)=ua.B0 (rV z) i0,∀i0<ua.n1 (rV z),eF z i0 (1:Nat)=ua.B1 (rV z) i0,0=SN z]
abbrev WT:=K5 (2:Int) (uf (0<=x9 z/\rf (x9 z)/\x9 z<=140737488355328/\TypeInfo.bytes Xz*SA z<=281474976710656) (MD z ((x9 z=(↑(SA z):Int))::P) (SA z) Nc))
abbrev WS:=Gm z ((MC z (0:Int)=true->p)::Gm z (Gm z P))
abbrev WR:=eG ((MC z fj=true->p)::SL z P) (MC z fj)
abbrev WQ:=if i0<=i1 then (dQ z x3 i1) else (0:Int)
abbrev WN:=K5 (x0 i0+1) (VT.done (SJ i0::Ob z P))
abbrev WM:=VT.ite (Jc (ez z i0 x2) (dz a)) (zt z i0 P) U
abbrev WL:=VT.ite (Jc (eF z i0 x2) (dz a)) (zt z i0 P) U
abbrev WK:=VT.ite (Jc (ez z i0 x3) (dz a)) (zr z i0 P) U
abbrev WJ:=VT.ite (Jc (eF z i0 x3) (dz a)) (zr z i0 P) U
abbrev WI:=iH (iH (iH P (Jo z i0)) (Jo z i0)) (Jo z i0)
abbrev WH:=iH (iH (iH P (Jn z i0)) (Jn z i0)) (Jn z i0)
abbrev WG:=iH (iH (iH P (Jm z i0)) (Jm z i0)) (Jm z i0)
abbrev WE:=iH (iH (iH P (Jl z i0)) (Jl z i0)) (Jl z i0)
abbrev WD:=wP (iH (yw (ez z i0 x2) (ez z i0 x2)) (ez z i0 x2)) U
abbrev WC:=wP (iH (yw (ez z i0 x3) (ez z i0 x3)) (ez z i0 x3)) U
abbrev WB:=Xb z i0 (Ow z i0 il=Ow z i0 wM) (sA z i0 il)
abbrev Wz:=Xa z i0 (Ov z i0 il=Ov z i0 wM) (sL z i0 il)
abbrev Wy:=WY z i0 (N8 z i0 x2=N8 z i0 il) (Jl z i0)
abbrev Wx:=WX z i0 (N9 z i0 x2=N9 z i0 il) (Jm z i0)
abbrev Ww:=wP (Xt (Gl fj a::Xt (yw fj fj))) U
abbrev Wv:=K4 (iH (yw (eF z i0 x2) (eF z i0 x2)) (eF z i0 x2)) U
abbrev Wu:=K4 (iH (yw (eF z i0 x3) (eF z i0 x3)) (eF z i0 x3)) U
abbrev Wt:=OS z i0 (MB wN (sA z i0 il)::OS z i0 (OS z i0 (OS z i0 P)))
abbrev Ws:=OR z i0 (MB wN (sL z i0 il)::OR z i0 (OR z i0 (OR z i0 P)))
abbrev Wr:=eG [nm (Gf z)=true->p,ri (nm (Gf z)=true)] (nm (Gf z))
abbrev Wq:=List.getD [gp z (jj i0) (0:Nat),gp z (jj i0) (1:Nat)] (SU (Mz z x3 i0)) 0
abbrev Wp:=W6 z i0 ((N8 z i0 x3=N8 z i0 x2)::BD z (Ov z i0 x3=Ov z i0 x2) (OU z i0)) (Jn z i0)
abbrev Wo:=W5 z i0 ((N9 z i0 x3=N9 z i0 x2)::BD z (Ow z i0 x3=Ow z i0 x2) (OV z i0)) (Jo z i0)
abbrev Wn:=uf p (VT.ite ((0:Int) !=(0:Int)) (VT.done (Xf z [ua.n1 (rV z)=0,0=SN z])) U)
abbrev Wm:=OT (VT.da (OQ (Xy ((0:Int)<=(9223372036854775807:Int)) (0:Int)) (0:Int)) (uf (Xv z i0 (0:Int) (Ox z i0 (0:Int))) U)) Ht
abbrev Wl:=K5 (1:Int) (OT (VT.da (OQ (SO (1:Int) (1:Int)) (1:Int)) (uf (Xv z i0 (1:Int) (Ox z i0 (1:Int))) U)) Ht)
abbrev Wk:=K5 (2:Int) (OT (VT.da (OQ (SO (2:Int) (2:Int)) (2:Int)) (uf (Xw z i0 (0:Int) (Oy z i0 (0:Int))) U)) Ht)
abbrev Wj:=K5 (3:Int) (OT (VT.da (OQ (SO (3:Int) (3:Int)) (3:Int)) (uf (Xw z i0 (1:Int) (Oy z i0 (1:Int))) U)) Ht)
abbrev Wi:=K5 (1:Int) (K4 [0<=x9 z/\x9 z<(↑(i0+1):Int),wN,eu (x9 z)<i0+1] (VT.da (eG (eG P (nm (Gf z))) (nm (Gf z))) U))
abbrev Wh:=VT.ite (if (nm (Gf z))=true then g else false) (WT z (OP z (1=Mz z x2 (SA z)) (Wg z (WZ z i0 (∀(i0:Nat),Xk z i0 (dQ z x2 i0))))) (fun i0=>Xo i0 (K4 (W7 z i0 (fM (Mz z x2 i0) (Mz z x2 i0)) (Mz z x2 i0)) (WV z i0 (OP z (Xs z i0=Mz z x2 (Jv i0)) (Xc z i0 (∀(i1:Nat),Xr z i0 i1 (Xm i0 i1 (Xs z i0) (Xu z i0 i1)) (dQ z x2 i1)))))) (MD z (OP z OL (Xi z (∀i1<z.b.N 0,Xu z i0 i1=dQ z x2 i1))) x3 (fun i0=>WW z i0 (Xg z i0 (∀(i0:Nat),Xn z i0 (dQ z x2 i0)) ((∀(i0:Nat),Xe z i0 (dQ z x2 i0))::(∀(i0:Nat),Xd z i0 (dQ z x2 i0))::(∀(i0:Nat),ME z i0 (lN z x2 i0) (fX.Ln (ku z) i0))::WU z (∀(i0:Nat),Xp z i0 (∀i1<fX.nP (ku z) i0,List.getD (lq z (lN z x2 i0) false) i1 0=fX.P (ku z) i0 i1) (lN z x2 i0)) (∀(i0:Nat),Xq z i0 (∀i1<fX.nQ (ku z) i0,List.getD (lq z (lN z x2 i0) true) i1 0=fX.Q (ku z) i0 i1) (lN z x2 i0)))) (VT.da [Ju z (Jt z i0) (36:Nat) [dI (x0 i0),dI (SC z i0)],Xl z i0 (Jt z i0) (Xh (ON z i0 (Jt z i0)) (OM z i0 (Jt z i0))),Ju z (MA z i0) (37:Nat) [dI (x0 i0),dI (SC z i0),dI (dQ z x2 (K6 z i0))]] (W8 i0 (W9 z (MA z i0) [DV.agg [fR (N6 z (MA z i0)) (fun i1=>dI (List.getD (lq z (MA z i0) false) i1 0)),fR (N7 z (MA z i0)) (fun i1=>dI (List.getD (lq z (MA z i0) true) i1 0))],dB (okL z.nB z.B z.nO z.O z.W z.G z.L (MA z i0))]) (OP z (SJ i0) (W4 z i0 (∀(i0:Nat),x6 z i0 (dQ z x2 i0)) ((∀i1<ou i0,N5 i0 i1 (Ly z.b z.G z.W i1 (dQ z x2 i1)) (ON z i0 (Jt z i0))=Ly z.b z.G z.W i1 (dQ z x2 i1))::(∀i1<ou i0,N5 i0 i1 (Lx z.b z.G z.W i1 (dQ z x2 i1)) (OM z i0 (Jt z i0))=Lx z.b z.G z.W i1 (dQ z x2 i1))::(∀i1<ou i0,N5 i0 i1 (lN z x2 i1) (MA z i0)=lN z x2 i1)::Xj z i0 (∀i1<ou i0,OO i0 i1 (N6 z (lN z x2 i1)) (N6 z (MA z i0))=N6 z (lN z x2 i1)/\(∀i2<N6 z (lN z x2 i1),N5 i0 i1 (Jr z i2 (lN z x2 i1)) (Jr z i2 (MA z i0))=Jr z i2 (lN z x2 i1))) (∀i1<ou i0,OO i0 i1 (N7 z (lN z x2 i1)) (N7 z (MA z i0))=N7 z (lN z x2 i1)/\(∀i2<N7 z (lN z x2 i1),N5 i0 i1 (Js z i2 (lN z x2 i1)) (Js z i2 (MA z i0))=Js z i2 (lN z x2 i1)))))))))))) U
abbrev xt:VT:=Wn z (SM (31:Nat) [jI z.b,DV.agg (x79 z [])] [ZW z,dI 0]) (Wn z (SM (32:Nat) [ZW z] (OW z [dI 0])) (uf wG (VT.da [wG,wG] (uf (SF z) (MD z (OL::Ob z (Sg (Sg (rf (x9 z)::D5::(∀(i0:Nat),Jp i0 (ez z i0 (0:Nat)))::(∀i0<x3+1,fj=eF z i0 (0:Nat))::D5::(∀(i0:Nat),Jp i0 (gp z i0 (0:Nat)))::(∀(i0:Nat),Jp i0 (gp z i0 (1:Nat)))::(0=ug z x3 x3)::BD z (fj=jv z x3 x3) (dR (D5::dC (dR (D5::dC (iq z (Jd [])))))))))) x3 (fun i0=>SK z i0 (Wm z i0 (WC z i0 (WK z i0 (SD z i0 (fj=Se z i0 x3)) (Ox z i0 (0:Int)) (Ww (OD z i0) (VT.ite (Jc fj (decide ((OD z i0)<fj))) (wP [cZ (OD z i0),wG,wG] (zr z i0 (SD z i0 (OD z i0=Se z i0 x3)))) (zr z i0 (SD z i0 (fj=Se z i0 x3))))))) (fun (i1:PUnit)=>Wl z i0 (WC z i0 (WK z i0 (Wp z i0) (Ox z i0 (1:Int)) (K4 (iH (MB wG (Jn z i0)::WH z i0 (Gl (Jn z i0) (OE z i0)::iH (MB wN (Jn z i0)::WH z i0 (yw (Jn z i0) (Jn z i0))) (Jn z i0))) (Jn z i0)) (VT.ite (Jc (Jn z i0) (decide ((OE z i0)<(Jn z i0)))) (wP [cZ (OE z i0),wN,wN] (zr z i0 (W6 z i0 ((N8 z i0 x3=N8 z i0 x2)::BD z (0=Ov z i0 x2) (OU z i0)) (OE z i0)))) (zr z i0 (Wp z i0)))))) (fun (i1:PUnit)=>Wk z i0 (Wu z i0 (WJ z i0 (Wy z i0) (Oy z i0 (0:Int)) (wP (iH (MB wN (Jl z i0)::WE z i0 (Gl (Jl z i0) (OH z i0)::iH (MB wG (Jl z i0)::WE z i0 (yw (Jl z i0) (Jl z i0))) (Jl z i0))) (Jl z i0)) (VT.ite (Jc (Jl z i0) (decide ((OH z i0)<(Jl z i0)))) (K4 [cZ (OH z i0),wG,wG] (zr z i0 (WY z i0 (1=N8 z i0 il) (OH z i0)))) (zr z i0 (Wy z i0)))))) (fun (i1:PUnit)=>Wj z i0 (Wu z i0 (WJ z i0 (Wz z i0) (Oy z i0 (1:Int)) (K4 (Ws z i0 (Gl (sL z i0 il) (OI z i0)::Ws z i0 (yw (sL z i0 il) (sL z i0 il)))) (VT.ite (Jc (sL z i0 il) (decide ((OI z i0)<(sL z i0 il)))) (K4 [cZ (OI z i0),wN,wN] (zr z i0 (Xa z i0 (1=Ov z i0 wM) (OI z i0)))) (zr z i0 (Wz z i0)))))) (fun (i1:PUnit)=>K5 (4:Int) (wP (Oz i0 (wG::Oz i0 [wG,wG])) (WN z i0 (Sg (Sg (rf (x9 z)::D4 i0::(∀(i1:Nat),D3 i0 i1 (D6 i0 i1 (ug z (0:Nat) i1) (Se z i0 wM)) (ug z (0:Nat) i1))::(∀(i1:Nat),D3 i0 i1 (D6 i0 i1 (jv z (0:Nat) i1) (sL z i0 wM)) (jv z (0:Nat) i1))::D4 i0::(∀(i1:Nat),D3 i0 i1 (D6 i0 i1 (gp z i1 (0:Nat)) (N8 z i0 wM)) (gp z i1 (0:Nat)))::(∀(i1:Nat),D3 i0 i1 (D6 i0 i1 (gp z i1 (1:Nat)) (Ov z i0 wM)) (gp z i1 (1:Nat)))::(Se z i0 wM=ug z x3 (ou i0))::BD z (sL z i0 wM=jv z x3 (ou i0)) (dR (D4 i0::dC (dR (D4 i0::dC (iq z (Jd (SI z i0))))))))))))))))) (K5 (1:Int) (uf wN (VT.da [wN,wN] (uf (SF z) (MD z (OL::Ob z (SB (SB (rf (x9 z)::(i0+1=x5 z)::x67 z::x68 z (D5::(∀i0<x3+1,fj=ez z i0 (1:Nat))::(∀(i0:Nat),Jp i0 (eF z i0 (1:Nat)))::(i0+1=x5 z)::x65 z::x66 z (D5::(∀(i0:Nat),Jp i0 (nA z i0 (0:Nat)))::(∀(i0:Nat),Jp i0 (nA z i0 (1:Nat)))::(fj=ug z x2 x3)::BD z (0=jv z x2 x3) (dR ((i0+1=x5 z)::dR (D5::dR ((i0+1=x5 z)::dR (D5::iq z (Jd [])))))))))))) x3 (fun i0=>SK z i0 (Wm z i0 (WD z i0 (WM z i0 (SE z i0 (fj=Sf z i0 x3)) (Ox z i0 (0:Int)) (Ww (OF z i0) (VT.ite (Jc fj (decide ((OF z i0)<fj))) (wP [cZ (OF z i0),wG,wG] (zt z i0 (SE z i0 (OF z i0=Sf z i0 x3)))) (zt z i0 (SE z i0 (fj=Sf z i0 x3))))))) (fun (i1:PUnit)=>Wl z i0 (WD z i0 (WM z i0 (Wo z i0) (Ox z i0 (1:Int)) (K4 (iH (MB wG (Jo z i0)::WI z i0 (Gl (Jo z i0) (OG z i0)::iH (MB wN (Jo z i0)::WI z i0 (yw (Jo z i0) (Jo z i0))) (Jo z i0))) (Jo z i0)) (VT.ite (Jc (Jo z i0) (decide ((OG z i0)<(Jo z i0)))) (wP [cZ (OG z i0),wN,wN] (zt z i0 (W5 z i0 ((N9 z i0 x3=N9 z i0 x2)::BD z (0=Ow z i0 x2) (OV z i0)) (OG z i0)))) (zt z i0 (Wo z i0)))))) (fun (i1:PUnit)=>Wk z i0 (Wv z i0 (WL z i0 (Wx z i0) (Oy z i0 (0:Int)) (wP (iH (MB wN (Jm z i0)::WG z i0 (Gl (Jm z i0) (OJ z i0)::iH (MB wG (Jm z i0)::WG z i0 (yw (Jm z i0) (Jm z i0))) (Jm z i0))) (Jm z i0)) (VT.ite (Jc (Jm z i0) (decide ((OJ z i0)<(Jm z i0)))) (K4 [cZ (OJ z i0),wG,wG] (zt z i0 (WX z i0 (1=N9 z i0 il) (OJ z i0)))) (zt z i0 (Wx z i0)))))) (fun (i1:PUnit)=>Wj z i0 (Wv z i0 (WL z i0 (WB z i0) (Oy z i0 (1:Int)) (K4 (Wt z i0 (Gl (sA z i0 il) (OK z i0)::Wt z i0 (yw (sA z i0 il) (sA z i0 il)))) (VT.ite (Jc (sA z i0 il) (decide ((OK z i0)<(sA z i0 il)))) (K4 [cZ (OK z i0),wN,wN] (zt z i0 (Xb z i0 (1=Ow z i0 wM) (OK z i0)))) (zt z i0 (WB z i0)))))) (fun (i1:PUnit)=>K5 (4:Int) (K4 (Oz i0 (wN::Oz i0 [wN,wN])) (WN z i0 (SB (SB (rf (x9 z)::Wg z (D4 i0::(∀(i1:Nat),D3 i0 i1 (D6 i0 i1 (ug z (1:Nat) i1) (Sf z i0 wM)) (ug z (1:Nat) i1))::x70 z (∀(i1:Nat),D3 i0 i1 (D6 i0 i1 (jv z (1:Nat) i1) (sA z i0 wM)) (jv z (1:Nat) i1)) (D4 i0::(∀(i1:Nat),D3 i0 i1 (D6 i0 i1 (nA z i1 (0:Nat)) (N9 z i0 wM)) (nA z i1 (0:Nat)))::(∀(i1:Nat),D3 i0 i1 (D6 i0 i1 (nA z i1 (1:Nat)) (Ow z i0 wM)) (nA z i1 (1:Nat)))::(Sf z i0 wM=ug z x2 (ou i0))::BD z (sA z i0 wM=jv z x2 (ou i0)) (Ge z (D4 i0::Ge z (D4 i0::iq z (Jd (SI z i0))))))))))))))))) (K5 (2:Int) (uf (SF z) (wP [OA z,wG,OC z] (VT.da (eG (eG (eG (eG (SG z OB (eG (SG z (OA z) ((BG z=true->OB)::eG (SG z (OC z) (eG [nm (Oa z)=true->dz fj=false->BG z=true,ri (nm (Oa z)=true)] (nm (Oa z)))) (BG z))) (BG z))) (BG z)) (BG z)) (nm (Oa z))) (nm (Oa z))) (VT.ite (if (nm (Oa z))=true then (Jc fj (decide ((Oa z)<(Oa z)))) else false) (Wi z i0 (Gm z (Gm z ((MC z (0:Int)=true->wG)::Gm z (Gm z (WS z (OA z) ((MC z (0:Int)=true->wG)::WS z (OC z) (Wr z (dz (0:Int)=false->MC z (0:Int)=true)))))))) (Wh z i0 (Jc (0:Int) (decide ((Gf z)<(Oa z)))) (WT z ((0=Mz z x3 (SA z))::Ob z (rf (x9 z)::Sg (Wg z (WZ z i0 (∀(i0:Nat),Xk z i0 (dQ z x3 i0)))))) (fun i0=>Xo i0 (wP (W7 z i0 (fM (Mz z x3 i0) (Mz z x3 i0)) (Mz z x3 i0)) (WV z i0 (SH z (Wq z i0=Mz z x3 (Jv i0)) (Xc z i0 (∀(i1:Nat),Xr z i0 i1 (Xm i0 i1 (Wq z i0) (WQ z i0 i1)) (dQ z x3 i1)))))) (MD z (SH z OL (Xi z (∀i1<z.b.N 0,WQ z i0 i1=dQ z x3 i1))) x3 (fun i0=>WW z i0 (Xg z i0 (∀(i0:Nat),Xn z i0 (dQ z x3 i0)) ((∀(i0:Nat),Xe z i0 (dQ z x3 i0))::(∀(i0:Nat),Xd z i0 (dQ z x3 i0))::(∀(i0:Nat),ME z i0 (lN z x3 i0) (fX.Ln (ku z) i0))::WU z (∀(i0:Nat),Xp z i0 (∀i1<fX.nP (ku z) i0,List.getD (lq z (lN z x3 i0) false) i1 0=fX.P (ku z) i0 i1) (lN z x3 i0)) (∀(i0:Nat),Xq z i0 (∀i1<fX.nQ (ku z) i0,List.getD (lq z (lN z x3 i0) true) i1 0=fX.Q (ku z) i0 i1) (lN z x3 i0)))) (VT.da [Ju z (Jq z i0) (36:Nat) [dI (x0 i0),dI (x87 z i0)],Xl z i0 (Jq z i0) (Xh (ON z i0 (Jq z i0)) (OM z i0 (Jq z i0))),Ju z (wO z i0) (37:Nat) [dI (x0 i0),dI (x87 z i0),dI (dQ z x3 (K6 z i0))]] (W8 i0 (W9 z (wO z i0) [DV.agg [fR (N6 z (wO z i0)) (fun i1=>dI (List.getD (lq z (wO z i0) false) i1 0)),fR (N7 z (wO z i0)) (fun i1=>dI (List.getD (lq z (wO z i0) true) i1 0))],dB (okL z.nB z.B z.nO z.O z.W z.G z.L (wO z i0))]) (SH z (SJ i0) (W4 z i0 (∀(i0:Nat),x6 z i0 (dQ z x3 i0)) ((∀i1<ou i0,N5 i0 i1 (Ly z.b z.G z.W i1 (dQ z x3 i1)) (ON z i0 (Jq z i0))=Ly z.b z.G z.W i1 (dQ z x3 i1))::(∀i1<ou i0,N5 i0 i1 (Lx z.b z.G z.W i1 (dQ z x3 i1)) (OM z i0 (Jq z i0))=Lx z.b z.G z.W i1 (dQ z x3 i1))::(∀i1<ou i0,N5 i0 i1 (lN z x3 i1) (wO z i0)=lN z x3 i1)::Xj z i0 (∀i1<ou i0,OO i0 i1 (N6 z (lN z x3 i1)) (N6 z (wO z i0))=N6 z (lN z x3 i1)/\(∀i2<N6 z (lN z x3 i1),N5 i0 i1 (Jr z i2 (lN z x3 i1)) (Jr z i2 (wO z i0))=Jr z i2 (lN z x3 i1))) (∀i1<ou i0,OO i0 i1 (N7 z (lN z x3 i1)) (N7 z (wO z i0))=N7 z (lN z x3 i1)/\(∀i2<N7 z (lN z x3 i1),N5 i0 i1 (Js z i2 (lN z x3 i1)) (Js z i2 (wO z i0))=Js z i2 (lN z x3 i1)))))))))))))) (Wi z i0 (SL z ((MC z fj=true->OB)::SL z (WR z (OA z) ((MC z fj=true->OB)::WR z (OC z) (Wr z (dz fj=false->MC z fj=true)))))) (Wh z i0 (Jc fj (decide ((Gf z)<(Oa z)))) (K5 (2:Int) (VT.done (Xf z [ua.n1 (rV z)=0,13=SN z]))))))))))))))))))))))
end
end w3n
open w3n in
theorem U0 (b:dJ) (nB:Nat) (B:Nat->Int) (nO:Nat) (O:Nat->Int) (W G L:Int) (hN: ∀i,i<b.nS->b.N i<=1000) (h0:ja b nB B nO O W G L=0) (hm:J6 (iN (b.N 0) (b.X 0) (b.Y 0) G W (4*b.N 0)) (Fz nB B nO O W G L)=0) (hl: ∀i,i<b.N 0->jG (b.N 0) (b.X 0) (b.Y 0) G W (i:Nat) 1 0<=4000*(jK nB B nO O)):dm prog 8 [jI b,Lay.sys nB B nO O W G L] (.fy [Hg (FA b nB B nO O W G L (gd b nB B nO O W G).toNat),Z3 (bPr b nB B nO O W G L),dI (bE b nB B nO O W G)]):=by
 refine db dv (I5 b nB B nO O W G L) (V:=xt ⟨b,nB,B,nO,O,W,G,L⟩) (by kernel_rfl) ?_
 simp only [xt,x0,x1,x2,x3,x4,x5,x6,x7,x8,x9,dC,dA,dz,dG,dL,dR,dQ,ep,eu,eG,ez,eF,eQ,fC,fM,fR,fj,gp,iI,ji,iq,jj,jv,il,iH,lu,lq,ku,qq,nm,nA,uh,BB,BF,ou,ug,BE,sA,sL,lN,rV,uf,Gf,K6,Ge,wN,Jd,SC,BD,wG,Ob,wM,SB,MC,Sg,x65,x66,x67,x68,Oa,x70,Wg,x72,MB,Oy,Ox,K5,x77,MA,x79,ZW,SA,N9,N8,Mz,Jo,Jn,x87,Ow,Ov,Jm,Jl,Jc,N7,N6,N5,x96,K4,Sf,Se,yw,wP,Jv,BG,Ju,XM,XL,XK,XJ,XI,XH,XG,XF,XE,XD,OX,ME,Jt,XC,OW,wO,XB,zt,zr,XA,Xz,Gm,Js,Jr,SV,OV,OU,SU,SS,SQ,SP,OT,Xy,OS,OR,OQ,D6,Gl,MD,OP,D5,D4,D3,Xx,Jq,Jp,SO,OO,ON,OM,SN,OL,SM,SL,SK,SJ,SI,OK,OJ,OI,OH,OG,OF,OE,OD,Xw,Xv,OC,Xu,OB,OA,Oz,Xt,Xs,SH,Xr,SG,Xq,Xp,Xo,Xn,Xm,Xl,Xk,Xj,Xi,Xh,Xg,SF,Xf,Xe,Xd,Xc,Xb,Xa,W9,SE,W8,W7,W6,W5,SD,W4,WZ,WY,WX,WW,WV,WU,WT,WS,WR,WQ,WN,WM,WL,WK,WJ,WI,WH,WG,WE,WD,WC,WB,Wz,Wy,Wx,Ww,Wv,Wu,Wt,Ws,Wr,Wq,Wp,Wo,Wn,Wm,Wl,Wk,Wj,Wi,Wh,Rf,VT.holds,dt,Sq,Int.reduceToNat,Int.toNat_one,FF,aE]
 obtain ⟨hc,hs,_,_,_,_,_⟩:=fu h0
 obtain ⟨b1,b2,b3,b4,b5⟩:=js hc
 have hn4:=fp b2
 obtain ⟨hX,hY⟩:=eB b2
 have g1:=(fP hs).1
 refine ⟨sw b nB B nO O W G L hN h0,fun h=>absurd trivial h,fun _=>⟨?_,fun h=>absurd trivial h,fun _=>⟨by omega,⟨by omega,by omega⟩,VC _ _ _ _ _ _ _ _ _ _ _ _ _ _ _,⟨rfl,fun j hj=>(by rw [show j=0 by omega];rfl),fun j hj=>(by rw [show j=0 by omega];rfl),fun j hj=>(by rw [show j=0 by omega];rfl),fun j hj=>(by rw [show j=0 by omega];rfl),rfl,rfl⟩,ao _,fun i hi=>⟨fun dK=> ?_,fun iy=> ?_⟩⟩⟩⟩
 ·have h:=yj b nB B nO O W G L (by omega) (by omega) hX hY g1 hs
  have Sp:J6 (iN (b.N 0) (b.X 0) (b.Y 0) G W (4*b.N 0)) (Lay.fZ nB B nO O W G L:Nat)=0:=hm
  rw [Sp] at h
  exact h
 ·skip
  have L8:=rN b nB B nO O W G L i 0 0 h0 hm (show i<b.N 0 by omega) (by omega) (by omega)
  have VR:=vZ hs (qQ h0 hl (show i<b.N 0 by omega) (a:=0) (e:=0) (by omega) (by omega)).1
  have Y5:=rN b nB B nO O W G L i 0 1 h0 hm (show i<b.N 0 by omega) (by omega) (by omega)
  have wJ:=vZ hs (qQ h0 hl (show i<b.N 0 by omega) (a:=0) (e:=1) (by omega) (by omega)).1
  have hc2:=rN b nB B nO O W G L i 1 0 h0 hm (show i<b.N 0 by omega) (by omega) (by omega)
  have qz:=vZ hs (qQ h0 hl (show i<b.N 0 by omega) (a:=1) (e:=0) (by omega) (by omega)).1
  have hc3:=rN b nB B nO O W G L i 1 1 h0 hm (show i<b.N 0 by omega) (by omega) (by omega)
  have Gj:=vZ hs (qQ h0 hl (show i<b.N 0 by omega) (a:=1) (e:=1) (by omega) (by omega)).1
  have d0:=DN h0 hl 0 i 0 hi
  have d1:=DN h0 hl 0 i 1 hi
  exact ⟨⟨⟨by omega,by omega⟩,L8,by omega,fun h=>⟨lW (f:=0) (c:=0) (e:=0) (x:=dX b nB B nO O W G 0 i 0) (k:=jM nB B nO O (ko b G W i 0 0)) rfl rfl (fun hx=>by omega),mc (f:=0) (c:=0) (e:=1) (by decide),lX (f:=0) (c:=0) (e:=0) (x:=dX b nB B nO O W G 0 i 0) (k:=jM nB B nO O (ko b G W i 0 0)) rfl rfl (fun hx=>by omega),me (f:=0) (c:=0) (e:=1) (by decide)⟩,fun hn=>⟨⟨by omega,fun _=>by omega,fun _=>(by unfold cZ;omega),fun _=>by omega⟩,fun h=>⟨⟨by omega,(by unfold cZ;omega),by omega,by omega⟩,xU (f:=0) (c:=0) (e:=0) (x:=dX b nB B nO O W G 0 i 0) (k:=jM nB B nO O (ko b G W i 0 0)) rfl rfl rfl ⟨⟨by omega,by omega⟩,h⟩,mc (f:=0) (c:=0) (e:=1) (by decide),xW (f:=0) (c:=0) (e:=0) (x:=dX b nB B nO O W G 0 i 0) (k:=jM nB B nO O (ko b G W i 0 0)) rfl rfl rfl ⟨⟨by omega,by omega⟩,h⟩,me (f:=0) (c:=0) (e:=1) (by decide)⟩,fun h=>⟨lW (f:=0) (c:=0) (e:=0) (x:=dX b nB B nO O W G 0 i 0) (k:=jM nB B nO O (ko b G W i 0 0)) rfl rfl (fun _=>h),mc (f:=0) (c:=0) (e:=1) (by decide),lX (f:=0) (c:=0) (e:=0) (x:=dX b nB B nO O W G 0 i 0) (k:=jM nB B nO O (ko b G W i 0 0)) rfl rfl (fun _=>h),me (f:=0) (c:=0) (e:=1) (by decide)⟩⟩⟩,fun _ _=>⟨(by unfold cZ;omega),⟨⟨⟨by omega,by omega⟩,Y5,by omega,fun h=>⟨mc (f:=0) (c:=1) (e:=0) (by decide),lW (f:=0) (c:=1) (e:=1) (x:=dX b nB B nO O W G 0 i 0) (k:=jM nB B nO O (ko b G W i 0 1)) rfl rfl (fun hx=>by omega),me (f:=0) (c:=1) (e:=0) (by decide),lX (f:=0) (c:=1) (e:=1) (x:=dX b nB B nO O W G 0 i 0) (k:=jM nB B nO O (ko b G W i 0 1)) rfl rfl (fun hx=>by omega)⟩,fun hn=>⟨⟨by omega,fun _=>by omega,fun _=>(by unfold cZ;omega),fun _=>by omega⟩,fun h=>⟨⟨by omega,(by unfold cZ;omega),by omega,by omega⟩,mc (f:=0) (c:=1) (e:=0) (by decide),xU (f:=0) (c:=1) (e:=1) (x:=dX b nB B nO O W G 0 i 0) (k:=jM nB B nO O (ko b G W i 0 1)) rfl rfl rfl ⟨⟨by omega,by omega⟩,h⟩,me (f:=0) (c:=1) (e:=0) (by decide),xW (f:=0) (c:=1) (e:=1) (x:=dX b nB B nO O W G 0 i 0) (k:=jM nB B nO O (ko b G W i 0 1)) rfl rfl rfl ⟨⟨by omega,by omega⟩,h⟩⟩,fun h=>⟨mc (f:=0) (c:=1) (e:=0) (by decide),lW (f:=0) (c:=1) (e:=1) (x:=dX b nB B nO O W G 0 i 0) (k:=jM nB B nO O (ko b G W i 0 1)) rfl rfl (fun _=>h),me (f:=0) (c:=1) (e:=0) (by decide),lX (f:=0) (c:=1) (e:=1) (x:=dX b nB B nO O W G 0 i 0) (k:=jM nB B nO O (ko b G W i 0 1)) rfl rfl (fun _=>h)⟩⟩⟩,fun _ _=>⟨(by unfold cZ;omega),⟨⟨⟨by omega,by omega⟩,hc2,by omega,fun h=>⟨lW (f:=0) (c:=2) (e:=0) (x:=dX b nB B nO O W G 0 i 1) (k:=jM nB B nO O (ko b G W i 1 0)) rfl rfl (fun hx=>by omega),mc (f:=0) (c:=2) (e:=1) (by decide),lX (f:=0) (c:=2) (e:=0) (x:=dX b nB B nO O W G 0 i 1) (k:=jM nB B nO O (ko b G W i 1 0)) rfl rfl (fun hx=>by omega),me (f:=0) (c:=2) (e:=1) (by decide)⟩,fun hn=>⟨⟨by omega,fun _=>by omega,fun _=>(by unfold cZ;omega),fun _=>by omega⟩,fun h=>⟨⟨by omega,(by unfold cZ;omega),by omega,by omega⟩,xU (f:=0) (c:=2) (e:=0) (x:=dX b nB B nO O W G 0 i 1) (k:=jM nB B nO O (ko b G W i 1 0)) rfl rfl rfl ⟨⟨by omega,by omega⟩,h⟩,mc (f:=0) (c:=2) (e:=1) (by decide),xW (f:=0) (c:=2) (e:=0) (x:=dX b nB B nO O W G 0 i 1) (k:=jM nB B nO O (ko b G W i 1 0)) rfl rfl rfl ⟨⟨by omega,by omega⟩,h⟩,me (f:=0) (c:=2) (e:=1) (by decide)⟩,fun h=>⟨lW (f:=0) (c:=2) (e:=0) (x:=dX b nB B nO O W G 0 i 1) (k:=jM nB B nO O (ko b G W i 1 0)) rfl rfl (fun _=>h),mc (f:=0) (c:=2) (e:=1) (by decide),lX (f:=0) (c:=2) (e:=0) (x:=dX b nB B nO O W G 0 i 1) (k:=jM nB B nO O (ko b G W i 1 0)) rfl rfl (fun _=>h),me (f:=0) (c:=2) (e:=1) (by decide)⟩⟩⟩,fun _ _=>⟨(by unfold cZ;omega),⟨⟨⟨by omega,by omega⟩,hc3,by omega,fun h=>⟨mc (f:=0) (c:=3) (e:=0) (by decide),lW (f:=0) (c:=3) (e:=1) (x:=dX b nB B nO O W G 0 i 1) (k:=jM nB B nO O (ko b G W i 1 1)) rfl rfl (fun hx=>by omega),me (f:=0) (c:=3) (e:=0) (by decide),lX (f:=0) (c:=3) (e:=1) (x:=dX b nB B nO O W G 0 i 1) (k:=jM nB B nO O (ko b G W i 1 1)) rfl rfl (fun hx=>by omega)⟩,fun hn=>⟨⟨by omega,fun _=>by omega,fun _=>(by unfold cZ;omega),fun _=>by omega⟩,fun h=>⟨⟨by omega,(by unfold cZ;omega),by omega,by omega⟩,mc (f:=0) (c:=3) (e:=0) (by decide),xU (f:=0) (c:=3) (e:=1) (x:=dX b nB B nO O W G 0 i 1) (k:=jM nB B nO O (ko b G W i 1 1)) rfl rfl rfl ⟨⟨by omega,by omega⟩,h⟩,me (f:=0) (c:=3) (e:=0) (by decide),xW (f:=0) (c:=3) (e:=1) (x:=dX b nB B nO O W G 0 i 1) (k:=jM nB B nO O (ko b G W i 1 1)) rfl rfl rfl ⟨⟨by omega,by omega⟩,h⟩⟩,fun h=>⟨mc (f:=0) (c:=3) (e:=0) (by decide),lW (f:=0) (c:=3) (e:=1) (x:=dX b nB B nO O W G 0 i 1) (k:=jM nB B nO O (ko b G W i 1 1)) rfl rfl (fun _=>h),me (f:=0) (c:=3) (e:=0) (by decide),lX (f:=0) (c:=3) (e:=1) (x:=dX b nB B nO O W G 0 i 1) (k:=jM nB B nO O (ko b G W i 1 1)) rfl rfl (fun _=>h)⟩⟩⟩,fun _ _=>⟨(by unfold cZ;omega),by omega,by unfold cZ;omega,rfl,qP (p:=fun j=>dX b nB B nO O W G 0 j 0) rfl,qP (p:=fun j=>dX b nB B nO O W G 0 j 1) rfl,qP (p:=fun j=>dF b nB B nO O W G 0 j 0) rfl,qP (p:=fun j=>dF b nB B nO O W G 0 j 1) rfl,rfl,rfl,by omega,by omega⟩⟩⟩⟩⟩⟩⟩⟩
 obtain rfl:i=b.N 0:=by omega
 refine ⟨by unfold cZ;omega,by omega,⟨by omega,by omega⟩,VC _ _ _ _ _ _ _ _ _ _ _ _ _ _ _,⟨rfl,rfl,fun j hj=>(by rw [show j=0 by omega];rfl),fun j hj=>(by rw [show j=0 by omega];rfl),rfl,fun j hj=>(by rw [show j=0 by omega];rfl),fun j hj=>(by rw [show j=0 by omega];rfl),rfl,rfl,rfl,rfl⟩,ao _,fun i hi=>⟨fun dK=> ?_,fun iy=> ?_⟩⟩
 ·skip
  have L8:=rN b nB B nO O W G L i 0 0 h0 hm (show i<b.N 0 by omega) (by omega) (by omega)
  have VR:=vZ hs (qQ h0 hl (show i<b.N 0 by omega) (a:=0) (e:=0) (by omega) (by omega)).1
  have Y5:=rN b nB B nO O W G L i 0 1 h0 hm (show i<b.N 0 by omega) (by omega) (by omega)
  have wJ:=vZ hs (qQ h0 hl (show i<b.N 0 by omega) (a:=0) (e:=1) (by omega) (by omega)).1
  have hc2:=rN b nB B nO O W G L i 1 0 h0 hm (show i<b.N 0 by omega) (by omega) (by omega)
  have qz:=vZ hs (qQ h0 hl (show i<b.N 0 by omega) (a:=1) (e:=0) (by omega) (by omega)).1
  have hc3:=rN b nB B nO O W G L i 1 1 h0 hm (show i<b.N 0 by omega) (by omega) (by omega)
  have Gj:=vZ hs (qQ h0 hl (show i<b.N 0 by omega) (a:=1) (e:=1) (by omega) (by omega)).1
  have d0:=DN h0 hl 1 i 0 hi
  have d1:=DN h0 hl 1 i 1 hi
  exact ⟨⟨⟨by omega,by omega⟩,L8,by omega,fun h=>⟨lW (f:=1) (c:=0) (e:=0) (x:=dX b nB B nO O W G 1 i 0) (k:=jM nB B nO O (ko b G W i 0 0)) rfl rfl (fun hx=>by omega),mc (f:=1) (c:=0) (e:=1) (by decide),lX (f:=1) (c:=0) (e:=0) (x:=dX b nB B nO O W G 1 i 0) (k:=jM nB B nO O (ko b G W i 0 0)) rfl rfl (fun hx=>by omega),me (f:=1) (c:=0) (e:=1) (by decide)⟩,fun hn=>⟨⟨by omega,fun _=>by omega,fun _=>(by unfold cZ;omega),fun _=>by omega⟩,fun h=>⟨⟨by omega,(by unfold cZ;omega),by omega,by omega⟩,xU (f:=1) (c:=0) (e:=0) (x:=dX b nB B nO O W G 1 i 0) (k:=jM nB B nO O (ko b G W i 0 0)) rfl rfl rfl ⟨⟨by omega,by omega⟩,h⟩,mc (f:=1) (c:=0) (e:=1) (by decide),xW (f:=1) (c:=0) (e:=0) (x:=dX b nB B nO O W G 1 i 0) (k:=jM nB B nO O (ko b G W i 0 0)) rfl rfl rfl ⟨⟨by omega,by omega⟩,h⟩,me (f:=1) (c:=0) (e:=1) (by decide)⟩,fun h=>⟨lW (f:=1) (c:=0) (e:=0) (x:=dX b nB B nO O W G 1 i 0) (k:=jM nB B nO O (ko b G W i 0 0)) rfl rfl (fun _=>h),mc (f:=1) (c:=0) (e:=1) (by decide),lX (f:=1) (c:=0) (e:=0) (x:=dX b nB B nO O W G 1 i 0) (k:=jM nB B nO O (ko b G W i 0 0)) rfl rfl (fun _=>h),me (f:=1) (c:=0) (e:=1) (by decide)⟩⟩⟩,fun _ _=>⟨(by unfold cZ;omega),⟨⟨⟨by omega,by omega⟩,Y5,by omega,fun h=>⟨mc (f:=1) (c:=1) (e:=0) (by decide),lW (f:=1) (c:=1) (e:=1) (x:=dX b nB B nO O W G 1 i 0) (k:=jM nB B nO O (ko b G W i 0 1)) rfl rfl (fun hx=>by omega),me (f:=1) (c:=1) (e:=0) (by decide),lX (f:=1) (c:=1) (e:=1) (x:=dX b nB B nO O W G 1 i 0) (k:=jM nB B nO O (ko b G W i 0 1)) rfl rfl (fun hx=>by omega)⟩,fun hn=>⟨⟨by omega,fun _=>by omega,fun _=>(by unfold cZ;omega),fun _=>by omega⟩,fun h=>⟨⟨by omega,(by unfold cZ;omega),by omega,by omega⟩,mc (f:=1) (c:=1) (e:=0) (by decide),xU (f:=1) (c:=1) (e:=1) (x:=dX b nB B nO O W G 1 i 0) (k:=jM nB B nO O (ko b G W i 0 1)) rfl rfl rfl ⟨⟨by omega,by omega⟩,h⟩,me (f:=1) (c:=1) (e:=0) (by decide),xW (f:=1) (c:=1) (e:=1) (x:=dX b nB B nO O W G 1 i 0) (k:=jM nB B nO O (ko b G W i 0 1)) rfl rfl rfl ⟨⟨by omega,by omega⟩,h⟩⟩,fun h=>⟨mc (f:=1) (c:=1) (e:=0) (by decide),lW (f:=1) (c:=1) (e:=1) (x:=dX b nB B nO O W G 1 i 0) (k:=jM nB B nO O (ko b G W i 0 1)) rfl rfl (fun _=>h),me (f:=1) (c:=1) (e:=0) (by decide),lX (f:=1) (c:=1) (e:=1) (x:=dX b nB B nO O W G 1 i 0) (k:=jM nB B nO O (ko b G W i 0 1)) rfl rfl (fun _=>h)⟩⟩⟩,fun _ _=>⟨(by unfold cZ;omega),⟨⟨⟨by omega,by omega⟩,hc2,by omega,fun h=>⟨lW (f:=1) (c:=2) (e:=0) (x:=dX b nB B nO O W G 1 i 1) (k:=jM nB B nO O (ko b G W i 1 0)) rfl rfl (fun hx=>by omega),mc (f:=1) (c:=2) (e:=1) (by decide),lX (f:=1) (c:=2) (e:=0) (x:=dX b nB B nO O W G 1 i 1) (k:=jM nB B nO O (ko b G W i 1 0)) rfl rfl (fun hx=>by omega),me (f:=1) (c:=2) (e:=1) (by decide)⟩,fun hn=>⟨⟨by omega,fun _=>by omega,fun _=>(by unfold cZ;omega),fun _=>by omega⟩,fun h=>⟨⟨by omega,(by unfold cZ;omega),by omega,by omega⟩,xU (f:=1) (c:=2) (e:=0) (x:=dX b nB B nO O W G 1 i 1) (k:=jM nB B nO O (ko b G W i 1 0)) rfl rfl rfl ⟨⟨by omega,by omega⟩,h⟩,mc (f:=1) (c:=2) (e:=1) (by decide),xW (f:=1) (c:=2) (e:=0) (x:=dX b nB B nO O W G 1 i 1) (k:=jM nB B nO O (ko b G W i 1 0)) rfl rfl rfl ⟨⟨by omega,by omega⟩,h⟩,me (f:=1) (c:=2) (e:=1) (by decide)⟩,fun h=>⟨lW (f:=1) (c:=2) (e:=0) (x:=dX b nB B nO O W G 1 i 1) (k:=jM nB B nO O (ko b G W i 1 0)) rfl rfl (fun _=>h),mc (f:=1) (c:=2) (e:=1) (by decide),lX (f:=1) (c:=2) (e:=0) (x:=dX b nB B nO O W G 1 i 1) (k:=jM nB B nO O (ko b G W i 1 0)) rfl rfl (fun _=>h),me (f:=1) (c:=2) (e:=1) (by decide)⟩⟩⟩,fun _ _=>⟨(by unfold cZ;omega),⟨⟨⟨by omega,by omega⟩,hc3,by omega,fun h=>⟨mc (f:=1) (c:=3) (e:=0) (by decide),lW (f:=1) (c:=3) (e:=1) (x:=dX b nB B nO O W G 1 i 1) (k:=jM nB B nO O (ko b G W i 1 1)) rfl rfl (fun hx=>by omega),me (f:=1) (c:=3) (e:=0) (by decide),lX (f:=1) (c:=3) (e:=1) (x:=dX b nB B nO O W G 1 i 1) (k:=jM nB B nO O (ko b G W i 1 1)) rfl rfl (fun hx=>by omega)⟩,fun hn=>⟨⟨by omega,fun _=>by omega,fun _=>(by unfold cZ;omega),fun _=>by omega⟩,fun h=>⟨⟨by omega,(by unfold cZ;omega),by omega,by omega⟩,mc (f:=1) (c:=3) (e:=0) (by decide),xU (f:=1) (c:=3) (e:=1) (x:=dX b nB B nO O W G 1 i 1) (k:=jM nB B nO O (ko b G W i 1 1)) rfl rfl rfl ⟨⟨by omega,by omega⟩,h⟩,me (f:=1) (c:=3) (e:=0) (by decide),xW (f:=1) (c:=3) (e:=1) (x:=dX b nB B nO O W G 1 i 1) (k:=jM nB B nO O (ko b G W i 1 1)) rfl rfl rfl ⟨⟨by omega,by omega⟩,h⟩⟩,fun h=>⟨mc (f:=1) (c:=3) (e:=0) (by decide),lW (f:=1) (c:=3) (e:=1) (x:=dX b nB B nO O W G 1 i 1) (k:=jM nB B nO O (ko b G W i 1 1)) rfl rfl (fun _=>h),me (f:=1) (c:=3) (e:=0) (by decide),lX (f:=1) (c:=3) (e:=1) (x:=dX b nB B nO O W G 1 i 1) (k:=jM nB B nO O (ko b G W i 1 1)) rfl rfl (fun _=>h)⟩⟩⟩,fun _ _=>⟨(by unfold cZ;omega),by omega,by unfold cZ;omega,rfl,qP (p:=fun j=>dX b nB B nO O W G 1 j 0) rfl,qP (p:=fun j=>dX b nB B nO O W G 1 j 1) rfl,qP (p:=fun j=>dF b nB B nO O W G 1 j 0) rfl,qP (p:=fun j=>dF b nB B nO O W G 1 j 1) rfl,rfl,rfl,by omega,by omega⟩⟩⟩⟩⟩⟩⟩⟩
 obtain rfl:i=b.N 0:=by omega
 refine ⟨by unfold cZ;omega,VC _ _ _ _ _ _ _ _ _ _ _ _ _ _ _,by omega,⟨fun h=>by omega,fun h=>by omega,fun h=>by omega,fun h=>by omega,fun h1 h2=>⟨h1,h2⟩⟩,fun hx=>⟨by unfold cZ;omega,by omega,⟨fun h=>by omega,fun h=>by omega,fun h=>by omega,fun h=>by omega,fun h1 h2=>⟨h1,h2⟩⟩,fun hy=> ?_,fun hy=> ?_⟩,fun hx=>⟨by unfold cZ;omega,by omega,⟨fun h=>by omega,fun h=>by omega,fun h=>by omega,fun h=>by omega,fun h1 h2=>⟨h1,h2⟩⟩,fun hy=> ?_,fun hy=> ?_⟩⟩
 ·have hbst:gd b nB B nO O W G=1:=by
   unfold gd UQ
   rw [ah (by omega),ah (by omega)]
  have hp:=zW (b:=b) (nB:=nB) (B:=B) (nO:=nO) (O:=O) (W:=W) (G:=G) (f:=1) (by omega) (by omega)
  have QV:(gd b nB B nO O W G).toNat=1:=by omega
  have hU: ¬gd b nB B nO O W G<0:=by omega
  refine ⟨by unfold cZ;omega,by rw [by3];omega,⟨by rw [cM];rfl,rfl,rfl,fun j hj=>by rw [ae (by omega)],rfl,rfl⟩,af _,fun i hi=>⟨fun hgt=> ?_,fun hle=> ?_⟩⟩
  ·have hq:=(hp (b.N 0 - i) (by omega)).1
   exact ⟨⟨by omega,by omega,by omega,by omega,by rw [sz3];omega⟩,⟨by unfold cZ;omega,by omega,by omega⟩,by unfold cZ;omega,by omega,Mj hi (by omega),RM hi (by omega),by omega,by omega⟩
  ·obtain rfl:i=0:=by omega
   refine ⟨⟨rfl,fun j hj=>by rw [ah (by omega)]⟩,ao _,fun i hi=>⟨fun dK=> ?_,fun iy=> ?_⟩⟩
   ·have dK:i<b.N 0:=by omega
    obtain ⟨c1,c2,c3,c4⟩:=JV (f:=1) hN h0 hm hl dK (by omega) (by omega)
    have Ub:0<=((i:Int)+1)%(b.N 0:Int)/\((i:Int)+1)%(b.N 0:Int)<(b.N 0:Int):=⟨bf _ (by omega),bm _ (by omega)⟩
    exact ⟨⟨⟨by omega,by omega⟩,dK,by unfold cZ;omega,⟨by omega,by omega⟩,Ub,by omega⟩,⟨c1,c2,c3⟩,c4,⟨by omega,by omega,by omega⟩,by unfold cZ;omega,by omega,jT rfl,jT rfl,jT rfl,jT rfl,r8 rfl,r8 rfl,by omega,by omega⟩
   ·obtain rfl:i=b.N 0:=by omega
    have e1:b.N 0=bN b nB B nO O W G:=by rw [bN,ae hU]
    rw [QV]
    exact ⟨af _,af _,af _,af _,e1,fun _ _=>rfl,e1,fun _ _=>rfl,fun _ _=>rfl,fun _ _=>rfl,fun _ _=>rfl,fun _ _=>⟨rfl,fun _ _=>rfl⟩,fun _ _=>⟨rfl,fun _ _=>rfl⟩,(ae hU).symm,fun _ _=>rfl,(ae hU).symm,fun _ _=>rfl,fun _ _=>rfl,(ae hU).symm,fun _ _=>rfl,fun _ _=>rfl,(ae hU).symm⟩
 ·have hbst:gd b nB B nO O W G=0:=by
   unfold gd UQ
   rw [ah (by omega),ae (by omega)]
  have hp:=zW (b:=b) (nB:=nB) (B:=B) (nO:=nO) (O:=O) (W:=W) (G:=G) (f:=0) (by omega) (by omega)
  have QV:(gd b nB B nO O W G).toNat=0:=by omega
  have hU: ¬gd b nB B nO O W G<0:=by omega
  refine ⟨by unfold cZ;omega,by rw [by3];omega,⟨by rw [cM];rfl,rfl,rfl,fun j hj=>by rw [ae (by omega)],rfl,rfl⟩,af _,fun i hi=>⟨fun hgt=> ?_,fun hle=> ?_⟩⟩
  ·have hq:=(hp (b.N 0 - i) (by omega)).1
   exact ⟨⟨by omega,by omega,by omega,by omega,by rw [sz3];omega⟩,⟨by unfold cZ;omega,by omega,by omega⟩,by unfold cZ;omega,by omega,Mj hi (by omega),RM hi (by omega),by omega,by omega⟩
  ·obtain rfl:i=0:=by omega
   refine ⟨⟨rfl,fun j hj=>by rw [ah (by omega)]⟩,ao _,fun i hi=>⟨fun dK=> ?_,fun iy=> ?_⟩⟩
   ·have dK:i<b.N 0:=by omega
    obtain ⟨c1,c2,c3,c4⟩:=JV (f:=0) hN h0 hm hl dK (by omega) (by omega)
    have Ub:0<=((i:Int)+1)%(b.N 0:Int)/\((i:Int)+1)%(b.N 0:Int)<(b.N 0:Int):=⟨bf _ (by omega),bm _ (by omega)⟩
    exact ⟨⟨⟨by omega,by omega⟩,dK,by unfold cZ;omega,⟨by omega,by omega⟩,Ub,by omega⟩,⟨c1,c2,c3⟩,c4,⟨by omega,by omega,by omega⟩,by unfold cZ;omega,by omega,jT rfl,jT rfl,jT rfl,jT rfl,r8 rfl,r8 rfl,by omega,by omega⟩
   ·obtain rfl:i=b.N 0:=by omega
    have e1:b.N 0=bN b nB B nO O W G:=by rw [bN,ae hU]
    rw [QV]
    exact ⟨af _,af _,af _,af _,e1,fun _ _=>rfl,e1,fun _ _=>rfl,fun _ _=>rfl,fun _ _=>rfl,fun _ _=>rfl,fun _ _=>⟨rfl,fun _ _=>rfl⟩,fun _ _=>⟨rfl,fun _ _=>rfl⟩,(ae hU).symm,fun _ _=>rfl,(ae hU).symm,fun _ _=>rfl,fun _ _=>rfl,(ae hU).symm,fun _ _=>rfl,fun _ _=>rfl,(ae hU).symm⟩
 ·have hbst:gd b nB B nO O W G=1:=by
   unfold gd UQ
   rw [ae (by omega),ah (by omega)]
  have hp:=zW (b:=b) (nB:=nB) (B:=B) (nO:=nO) (O:=O) (W:=W) (G:=G) (f:=1) (by omega) (by omega)
  have QV:(gd b nB B nO O W G).toNat=1:=by omega
  have hU: ¬gd b nB B nO O W G<0:=by omega
  refine ⟨by unfold cZ;omega,by rw [by3];omega,⟨by rw [cM];rfl,rfl,rfl,fun j hj=>by rw [ae (by omega)],rfl,rfl⟩,af _,fun i hi=>⟨fun hgt=> ?_,fun hle=> ?_⟩⟩
  ·have hq:=(hp (b.N 0 - i) (by omega)).1
   exact ⟨⟨by omega,by omega,by omega,by omega,by rw [sz3];omega⟩,⟨by unfold cZ;omega,by omega,by omega⟩,by unfold cZ;omega,by omega,Mj hi (by omega),RM hi (by omega),by omega,by omega⟩
  ·obtain rfl:i=0:=by omega
   refine ⟨⟨rfl,fun j hj=>by rw [ah (by omega)]⟩,ao _,fun i hi=>⟨fun dK=> ?_,fun iy=> ?_⟩⟩
   ·have dK:i<b.N 0:=by omega
    obtain ⟨c1,c2,c3,c4⟩:=JV (f:=1) hN h0 hm hl dK (by omega) (by omega)
    have Ub:0<=((i:Int)+1)%(b.N 0:Int)/\((i:Int)+1)%(b.N 0:Int)<(b.N 0:Int):=⟨bf _ (by omega),bm _ (by omega)⟩
    exact ⟨⟨⟨by omega,by omega⟩,dK,by unfold cZ;omega,⟨by omega,by omega⟩,Ub,by omega⟩,⟨c1,c2,c3⟩,c4,⟨by omega,by omega,by omega⟩,by unfold cZ;omega,by omega,jT rfl,jT rfl,jT rfl,jT rfl,r8 rfl,r8 rfl,by omega,by omega⟩
   ·obtain rfl:i=b.N 0:=by omega
    have e1:b.N 0=bN b nB B nO O W G:=by rw [bN,ae hU]
    rw [QV]
    exact ⟨af _,af _,af _,af _,e1,fun _ _=>rfl,e1,fun _ _=>rfl,fun _ _=>rfl,fun _ _=>rfl,fun _ _=>rfl,fun _ _=>⟨rfl,fun _ _=>rfl⟩,fun _ _=>⟨rfl,fun _ _=>rfl⟩,(ae hU).symm,fun _ _=>rfl,(ae hU).symm,fun _ _=>rfl,fun _ _=>rfl,(ae hU).symm,fun _ _=>rfl,fun _ _=>rfl,(ae hU).symm⟩
 ·have hb:gd b nB B nO O W G= -1:=by
   unfold gd UQ
   rw [ae (by omega),ae (by omega)]
  have hU:gd b nB B nO O W G<0:=by omega
  have e1:bN b nB B nO O W G=0:=by rw [bN,ah hU]
  have e2:bE b nB B nO O W G=13:=by rw [bE,ah hU]
  exact ⟨by unfold cZ;omega,e1,e1,ah hU,ah hU,ah hU,e2.symm⟩
end Go.Abs
