/- Contracts. -/
import Derived.Test.YtoinjphpfpklmaaGreatDoorK65
set_option linter.unusedVariables false
set_option linter.unusedSimpArgs false
set_option maxRecDepth 100000
namespace Go.Abs
open Go
theorem rr {p:Nat->Int} {i:Nat} {v:Int} (hv:v=p (i+1)): ∀j,j<i+1+1->(if j<i+1 then p j else v)=p j:=fun j hj=>by
 split
 ·rfl
 ·rw [show j=i+1 by omega];exact hv
theorem Yu (nB:Nat) (B:Nat->Int) (nO:Nat) (O:Nat->Int) (W G L:Int) (k:Nat):rh nB B nO O W G L k=Lay.yf nB B nO O k:=by
 unfold rh Lay.yf
 have h:=Lay.GH (Lay.eO nB B nO O (nB+nO)) nB B nO O k
 rw [Lay.unit_eq] at h ⊢
 exact h
theorem se (b:dL) (nB:Nat) (B:Nat->Int) (nO:Nat) (O:Nat->Int) (W G L:Int) (i a e:Nat) (h0:ij b nB B nO O W G L=0) (hm:J9 (iq (b.N 0) (b.X 0) (b.Y 0) G W (4*b.N 0)) (FI nB B nO O W G L)=0) (hi:i<b.N 0) (ha:a<=1) (he:e<=1):
 dv prog 34 [yo b nB B nO O W G L,Yt b nB B nO O W G L,dI (i:Int),dI (a:Int),dI (e:Int)] (dI (jP nB B nO O (kb b G W i a e))):=by
 obtain ⟨hc,hs,_,_,_,_,_⟩:=iy h0
 obtain ⟨b1,b2,b3,b4,b5⟩:=nE hc
 have hn4:=fO b2
 obtain ⟨hX,hY⟩:=eS b2
 have g1:=(jV hs).1
 obtain ⟨ue,u1,u2⟩:=Nb hs
 have hl:=E5 (n:=b.N 0) (X:=b.X 0) (Y:=b.Y 0) (G:=G) (W:=W) hi (c:=2*a+e) (by omega)
 rw [show (2*a+e)/2=a by omega,show (2*a+e)%2=e by omega] at hl
 have wX:=zt (n:=b.N 0) (X:=b.X 0) (Y:=b.Y 0) (by omega) hX hY g1 (4*b.N 0)
 have SO:FI nB B nO O W G L=me nB B nO O:=ue
 have hN:ko (b.N 0) (b.X 0) (b.Y 0) G W (i:Int) (a:Int) (e:Int)/(Lay.fQ nB B nO O W G L:Int)<(VE b nB B nO O W G L:Nat):=by
  rw [VE,Uf,ag hm,SO,ue]
  have h1:=Int.ediv_le_ediv (show 0<me nB B nO O by omega) hl
  have h2:0<=iq (b.N 0) (b.X 0) (b.Y 0) G W (4*b.N 0)/me nB B nO O:=cq wX.1 (by omega)
  omega
 have h:=Z4 (.val (.string b.name)) (.dt b.nS (Nh b)) b.dE (.dt b.nO (o9 b)) (.dt b.nB (Sk b)) (Lay.nums nB B) (Lay.nums nO O) W G L (Lay.fQ nB B nO O W G L) (.dt (Lay.ir nB B nO O W G L) (Lay.AB (Lay.eI nB B nO O) (Lay.ew nB) (fun i=>decide (nB<=i)))) (b.N 0) (b.X 0) (b.Y 0) (VE b nB B nO O W G L) (rh nB B nO O W G L) i a e (by omega) (by omega) hX hY g1 (by omega) (by omega) (by omega) hN
 have hT:rh nB B nO O W G L=Lay.yf nB B nO O:=funext fun k=>Yu nB B nO O W G L k
 have e2:jP nB B nO O (kb b G W i a e)=CJ (rh nB B nO O W G L) (Lay.fQ nB B nO O W G L:Nat) (ko (b.N 0) (b.X 0) (b.Y 0) G W i a e):=by rw [jP,kb,hT,ue]
 rw [e2]
 exact h
theorem sz3:prog.types[3].size=1:=by kernel_rfl
theorem by3:prog.types[3].bytes=8:=by kernel_rfl
section
variable {b:dL} {nB:Nat} {B:Nat->Int} {nO:Nat} {O:Nat->Int} {W G L:Int} {f i:Nat}
theorem MD (hi:i<=b.N 0) (h0:0<i):[dF b nB B nO O W G f i 0,dF b nB B nO O W G f i 1].getD ((jY b nB B nO O W G f (b.N 0 - i)).toNat*prog.types[3].size) 0=jY b nB B nO O W G f (b.N 0 - ((i:Int) - 1).toNat):=by
 rw [sz3,Nat.mul_one,show b.N 0 - ((i:Int) - 1).toNat=(b.N 0 - i)+1 by omega,jY,show b.N 0 - (b.N 0 - i)=i by omega]
theorem R8 (hi:i<=b.N 0) (h0:0<i): ∀j,j<b.N 0->(if j=((i:Int) - 1).toNat then [dF b nB B nO O W G f i 0,dF b nB B nO O W G f i 1].getD ((jY b nB B nO O W G f (b.N 0 - i)).toNat*prog.types[3].size) 0 else if i<=j then bC b nB B nO O W G f j else 0)=if ((i:Int) - 1).toNat<=j then bC b nB B nO O W G f j else 0:=fun j hj=>by
 rw [MD hi h0]
 by_cases h:j=((i:Int) - 1).toNat
 ·rw [ag h,ag (by omega),h];rfl
 ·rw [ab h]
  by_cases h2:i<=j
  ·rw [ag h2,ag (by omega)]
  ·rw [ab h2,ab (by omega)]
end
section
variable {b:dL} {nB:Nat} {B:Nat->Int} {nO:Nat} {O:Nat->Int} {W G L:Int} {f i:Nat}
theorem zH (hf:f<=1) (hx:0<=dX b nB B nO O W G f (b.N 0) f) (hi:i<b.N 0):(bC b nB B nO O W G f i=0\/bC b nB B nO O W G f i=1)/\(bC b nB B nO O W G f (((i:Int)+1)%(b.N 0:Int)).toNat=0\/bC b nB B nO O W G f (((i:Int)+1)%(b.N 0:Int)).toNat=1)/\
 0<=jP nB B nO O (bL b nB B nO O W G f i)/\dX b nB B nO O W G f (i+1) (jY b nB B nO O W G f (b.N 0 - (i+1))).toNat=dX b nB B nO O W G f i (jY b nB B nO O W G f (b.N 0 - i)).toNat+jP nB B nO O (bL b nB B nO O W G f i):=by
 have hp:=As (b:=b) (nB:=nB) (B:=B) (nO:=nO) (O:=O) (W:=W) (G:=G) hf hx
 obtain ⟨p0,p1,p2⟩:=hp (b.N 0 - (i+1)) (by omega)
 obtain ⟨q0,q1,q2,q3⟩:=p2 (by omega)
 obtain ⟨r0,r1,_⟩:=hp (b.N 0) (by omega)
 have e1:b.N 0 - (i+1)+1=b.N 0 - i:=by omega
 have e2:b.N 0 - (b.N 0 - (i+1)) - 1=i:=by omega
 have e3:b.N 0 - (b.N 0 - (i+1))=i+1:=by omega
 rw [e1] at q0 q1 q2 q3
 rw [e2] at q1 q2 q3
 rw [e3] at p1 q2
 have hn:jY b nB B nO O W G f (b.N 0)=f:=by
  rw [da,dX,RX] at r1
  split at r1
  ·omega
  ·omega
 have hb:bC b nB B nO O W G f (((i:Int)+1)%(b.N 0:Int)).toNat=jY b nB B nO O W G f (b.N 0 - (i+1)):=by
  by_cases h:i+1<b.N 0
  ·rw [show (((i:Int)+1)%(b.N 0:Int)).toNat=i+1 by rw [Int.emod_eq_of_lt (by omega) (by omega)];omega]
   rfl
  ·rw [show (((i:Int)+1)%(b.N 0:Int)).toNat=0 by rw [show (i:Int)+1=(b.N 0:Int) by omega,Int.emod_self];rfl]
   rw [show b.N 0 - (i+1)=0 by omega]
   exact hn
 have ha:bC b nB B nO O W G f i=jY b nB B nO O W G f (b.N 0 - i):=rfl
 have hk:kR b nB B nO O W G i (2*(jY b nB B nO O W G f (b.N 0 - i)).toNat+(jY b nB B nO O W G f (b.N 0 - (i+1))).toNat)=jP nB B nO O (bL b nB B nO O W G f i):=by
  rw [kR,bL,hb,ha]
  rw [show (((2*(jY b nB B nO O W G f (b.N 0 - i)).toNat+(jY b nB B nO O W G f (b.N 0 - (i+1))).toNat)/2:Nat):Int)=jY b nB B nO O W G f (b.N 0 - i) by omega,show (((2*(jY b nB B nO O W G f (b.N 0 - i)).toNat+(jY b nB B nO O W G f (b.N 0 - (i+1))).toNat)%2:Nat):Int)=jY b nB B nO O W G f (b.N 0 - (i+1)) by omega]
 rw [hk] at q1 q2
 rw [hb,ha]
 exact ⟨q0,p0,q1,q2⟩
theorem TH (hs:Lay.fm nB B nO O W G L=0):Lay.IC (Lay.fQ nB B nO O W G L) (Lay.ir nB B nO O W G L) (Lay.eI nB B nO O) (Lay.ew nB) (rh nB B nO O W G L)/\Lay.ir nB B nO O W G L<=16/\ ∀i,i<Lay.ir nB B nO O W G L->1<=Lay.eI nB B nO O i/\Lay.eI nB B nO O i<=10000:=by
 obtain ⟨s1,s2,s3,sB,sO,_,_⟩:=Lay.k7 hs
 have eU:Lay.fQ nB B nO O W G L=Lay.eO nB B nO O (nB+nO):=by rw [Lay.fQ,ag hs]
 have eN:Lay.ir nB B nO O W G L=nB+nO:=by rw [Lay.ir,ag hs]
 rw [eU,eN]
 exact ⟨Lay.Lt sB sO,by omega,fun i hi=>Lay.od sB sO hi⟩
theorem J1 (hN: ∀i,i<b.nS->b.N i<=1000) (h0:ij b nB B nO O W G L=0) (hm:J9 (iq (b.N 0) (b.X 0) (b.Y 0) G W (4*b.N 0)) (FI nB B nO O W G L)=0) (hl: ∀i,i<b.N 0->ko (b.N 0) (b.X 0) (b.Y 0) G W (i:Nat) 1 0<=4000*(me nB B nO O)) (hi:i<b.N 0) (hf:f<=1) (hx:0<=dX b nB B nO O W G f (b.N 0) f):
 dv prog 36 [yo b nB B nO O W G L,dI (i:Int),dI (bC b nB B nO O W G f i)] (dI (gv (b.N 0) (b.X 0) (b.Y 0) G W i (bC b nB B nO O W G f i)))/\
 dv prog 35 [yo b nB B nO O W G L,dI (i:Int),dI (gv (b.N 0) (b.X 0) (b.Y 0) G W i (bC b nB B nO O W G f i)),dI G] (dP (xa (b.N 0) (b.X 0) (b.Y 0) i (gv (b.N 0) (b.X 0) (b.Y 0) G W i (bC b nB B nO O W G f i)) G) (wZ (b.N 0) (b.X 0) (b.Y 0) i (gv (b.N 0) (b.X 0) (b.Y 0) G W i (bC b nB B nO O W G f i)) G))/\
 dv prog 37 [yo b nB B nO O W G L,dI (i:Int),dI (bC b nB B nO O W G f i),dI (bC b nB B nO O W G f (((i:Int)+1)%(b.N 0:Int)).toNat)] (dI (bL b nB B nO O W G f i))/\
 dv prog 38 [.agg [dI (Lay.fQ nB B nO O W G L:Nat),.dt (Lay.ir nB B nO O W G L) (Lay.AB (Lay.eI nB B nO O) (Lay.ew nB) (fun i=>decide (nB<=i)))],Yt b nB B nO O W G L,dI (bL b nB B nO O W G f i)] (.fC [.agg [Lay.Hl (cl nB B nO O W G L (bL b nB B nO O W G f i) false),Lay.Hl (cl nB B nO O W G L (bL b nB B nO O W G f i) true)],dB (okL nB B nO O W G L (bL b nB B nO O W G f i))]):=by
 obtain ⟨hc,hs,_,_,_,_,_⟩:=iy h0
 obtain ⟨b1,b2,b3,b4,b5⟩:=nE hc
 have hn4:=fO b2
 obtain ⟨hX,hY⟩:=eS b2
 have g1:=(jV hs).1
 obtain ⟨ue,u1,u2⟩:=Nb hs
 obtain ⟨p0,p1,p2,_⟩:=zH hf hx hi
 have ha:0<=bC b nB B nO O W G f i/\bC b nB B nO O W G f i<=1:=by omega
 have he:0<=bC b nB B nO O W G f (((i:Int)+1)%(b.N 0:Int)).toNat/\bC b nB B nO O W G f (((i:Int)+1)%(b.N 0:Int)).toNat<=1:=by omega
 have bb:=sj (n:=b.N 0) (X:=b.X 0) (Y:=b.Y 0) (i:Int) g1 ha
 have gg:=g1
 obtain ⟨g11,g12,_,_⟩:=gg
 have hle:=(ru h0 hl hi ha he).1
 have wX:=zt (n:=b.N 0) (X:=b.X 0) (Y:=b.Y 0) (by omega) hX hY g1 (4*b.N 0)
 have SO:FI nB B nO O W G L=me nB B nO O:=ue
 have j5:bL b nB B nO O W G f i<=iq (b.N 0) (b.X 0) (b.Y 0) G W (4*b.N 0):=by
  have h1:=E5 (n:=b.N 0) (X:=b.X 0) (Y:=b.Y 0) (G:=G) (W:=W) hi (c:=(2*bC b nB B nO O W G f i+bC b nB B nO O W G f (((i:Int)+1)%(b.N 0:Int)).toNat).toNat) (by omega)
  rw [show (((2*bC b nB B nO O W G f i+bC b nB B nO O W G f (((i:Int)+1)%(b.N 0:Int)).toNat).toNat/2:Nat):Int)=bC b nB B nO O W G f i by omega,show (((2*bC b nB B nO O W G f i+bC b nB B nO O W G f (((i:Int)+1)%(b.N 0:Int)).toNat).toNat%2:Nat):Int)=bC b nB B nO O W G f (((i:Int)+1)%(b.N 0:Int)).toNat by omega] at h1
  exact h1
 have yU:0<=bL b nB B nO O W G f i:=by
  unfold jP CJ at p2
  split at p2
  ·omega
  ·omega
 obtain ⟨t1,t2,t3⟩:=TH hs
 have hq:bL b nB B nO O W G f i/(Lay.fQ nB B nO O W G L:Nat)<=iq (b.N 0) (b.X 0) (b.Y 0) G W (4*b.N 0)/(Lay.fQ nB B nO O W G L:Nat):=Int.ediv_le_ediv (by omega) j5
 have hq0:0<=bL b nB B nO O W G f i/(Lay.fQ nB B nO O W G L:Nat):=cq yU (by omega)
 have hmb:iq (b.N 0) (b.X 0) (b.Y 0) G W (4*b.N 0)<=4000*me nB B nO O:=by
  rw [<-SO]
  unfold J9 at hm
  split at hm
  ·omega
  ·omega
 have hq2:iq (b.N 0) (b.X 0) (b.Y 0) G W (4*b.N 0)/(Lay.fQ nB B nO O W G L:Nat)<=4000:=by
  rw [ue]
  have:=Int.ediv_le_ediv (show 0<me nB B nO O by omega) hmb
  rwa [Int.mul_ediv_cancel _ (by omega)] at this
 have ZK:(VE b nB B nO O W G L:Int)=iq (b.N 0) (b.X 0) (b.Y 0) G W (4*b.N 0)/(Lay.fQ nB B nO O W G L:Nat)+1:=by
  rw [VE,Uf,ag hm,SO,<-ue]
  omega
 exact ⟨wF _ _ _ _ _ _ _ _ _ _ _ _ _ _ _ _ _ (by omega) g1 ha,uY _ _ _ _ _ _ _ _ _ _ _ _ _ _ _ _ _ _ (by omega) hX hY (by omega) (by omega),uU _ _ _ _ _ _ _ _ _ _ _ _ _ _ _ _ _ _ (by omega) (by omega) hX hY g1 ha he,
  Lay.U8 _ _ _ _ _ _ _ _ (by omega) (by omega) t2 t1 t3 yU (by rw [ue];exact hle) (by omega) (by omega)⟩
theorem sA {p:Nat->List Int} {i:Nat} {v:List Int} (hv:v=p i): ∀j,j<i+1->(if j<i then (p j).length else v.length)=(p j).length/\ ∀k,k<(p j).length->(if j<i then (p j).getD k 0 else v.getD k 0)=(p j).getD k 0:=fun j hj=>by
 by_cases h:j<i
 ·rw [ag h]
  exact ⟨rfl,fun k _=>by rw [ag h]⟩
 ·have:j=i:=by omega
  subst this
  rw [ab h,hv]
  exact ⟨rfl,fun k _=>by rw [ab h]⟩
theorem jW {p:Nat->Int} {i:Nat} {v:Int} (hv:v=p i): ∀j,j<i+1->(if j<i then p j else v)=p j:=fun j hj=>by
 by_cases h:j<i
 ·rw [ag h]
 ·rw [ab h,hv,show j=i by omega]
end
noncomputable def Je (b:dL) (nB:Nat) (B:Nat->Int) (nO:Nat) (O:Nat->Int) (W G L:Int):eA:={ dz:=[(1,[(2,YL b nB B nO O W G L)]),(5,[(1,.res fun _=> .fC [Yt b nB B nO O W G L,dI 0])]),(15,[(1,.res fun _=>dI (b.N 0:Int))]),(22,[(1,.pos),(3,.pos)]),(23,[(6,.res fun q=>dI (jP nB B nO O (kb b G W (aI q 2) (aI q 3) (aI q 4))))]),(32,[(1,.res fun _=>dI (b.N 0:Int))]),(47,[(7,.th 2)]),(52,[(10,.pos)]),(53,[(6,.res fun q=>dI (gv (b.N 0) (b.X 0) (b.Y 0) G W (aI q 1) (aI q 2))),(9,.res fun q=>dP (xa (b.N 0) (b.X 0) (b.Y 0) (aI q 1) (aI q 2) (aI q 3)) (wZ (b.N 0) (b.X 0) (b.Y 0) (aI q 1) (aI q 2) (aI q 3))),(14,.res fun q=>dI (kb b G W (aI q 1) (aI q 2) (aI q 3)))]),(54,[(8,.res fun q=> .fC [.agg [Lay.Hl (cl nB B nO O W G L (aI q 2) false),Lay.Hl (cl nB B nO O W G L (aI q 2) true)],dB (okL nB B nO O W G L (aI q 2))])])],loops:=[(2,{ ι:=Nat,keep:=[3,4,5,7,9,10,11,12,54,70],boxes:=[3,4,5],ts:=fun _ i=>[(71,dI (i:Int))],bx:=fun σ i=>[(12,[dI (dX b nB B nO O W G (ez (σ.get 11)).toNat i 0),dI (dX b nB B nO O W G (ez (σ.get 11)).toNat i 1)]),(9,bx9 (Yt b nB B nO O W G L) (b.N 0) σ.nx i (ez (σ.get 11)).toNat),(10,Vi (b.N 0) σ.nx i (ez (σ.get 11)).toNat)],rb:=fun σ i=>rbB b nB B nO O W G i (ez (σ.get 11)).toNat,inv:=fun _ i=>i<=b.N 0,mu:=fun _ i=>b.N 0 - i,rd:=fun _ σ=>(ez (σ.get 71)).toNat }),(8,{ ι:=Nat,keep:=[3,4,5,7,9,10,20,21,24],boxes:=[3,4,5],ts:=fun σ i=>[(25,dI (i:Int)),(26,dI (jY b nB B nO O W G (ez (σ.get 21)).toNat (b.N 0 - i)))],bx:=fun σ _=>[(9,bx9 (Yt b nB B nO O W G L) (b.N 0) σ.nx (b.N 0) 1),(10,Vi (b.N 0) σ.nx (b.N 0) 1),(24,[.row 1 (σ.nx+54) 0 (b.N 0),YV])],rb:=fun σ i=>rbB b nB B nO O W G (b.N 0) 1++[(24,0,1,b.N 0,[fun j=>dI (if i<=j then bC b nB B nO O W G (ez (σ.get 21)).toNat j else 0)])],inv:=fun _ i=>i<=b.N 0,mu:=fun _ i=>i,rd:=fun _ σ=>(ez (σ.get 25)).toNat }),(10,{ ι:=Nat,keep:=[3,4,5,7,9,10,20,21,24,207],boxes:=[3,4,5],ts:=fun _ i=>[(208,dI (i:Int))],bx:=fun σ i=>[(9,bx9 (Yt b nB B nO O W G L) (b.N 0) σ.nx (b.N 0) 1),(10,Vi (b.N 0) σ.nx (b.N 0) 1),(24,[.row 1 (σ.nx+54) 0 (b.N 0),.row 6 (σ.nx+55) 0 i])],rb:=fun σ i=>rbB b nB B nO O W G (b.N 0) 1++[(24,0,1,b.N 0,[fun j=>dI (bC b nB B nO O W G (ez (σ.get 21)).toNat j)]),(24,1,6,i,runB b nB B nO O W G L (ez (σ.get 21)).toNat)],inv:=fun _ i=>i<=b.N 0,mu:=fun _ i=>b.N 0 - i,rd:=fun _ σ=>(ez (σ.get 208)).toNat })],dK:=[(27,{ ι:=Unit,keep:=[3,4,5,7,9,10,11,12,13,14,15,54,70,71,76],boxes:=[3,4,5,12],ts:=fun _ _=>[],bx:=fun σ _=>[(14,[dI (dZ b nB B nO O W G (ez (σ.get 11)).toNat (ez (σ.get 13)).toNat ((ez (σ.get 76)).toNat+1) 0),dI (dZ b nB B nO O W G (ez (σ.get 11)).toNat (ez (σ.get 13)).toNat ((ez (σ.get 76)).toNat+1) 1)]),(15,[dI (dW b nB B nO O W G (ez (σ.get 11)).toNat (ez (σ.get 13)).toNat ((ez (σ.get 76)).toNat+1) 0),dI (dW b nB B nO O W G (ez (σ.get 11)).toNat (ez (σ.get 13)).toNat ((ez (σ.get 76)).toNat+1) 1)]),(9,bx9 (Yt b nB B nO O W G L) (b.N 0) σ.nx (ez (σ.get 13)).toNat (ez (σ.get 11)).toNat),(10,Vi (b.N 0) σ.nx (ez (σ.get 13)).toNat (ez (σ.get 11)).toNat)],rb:=fun σ _=>rbB b nB B nO O W G (ez (σ.get 13)).toNat (ez (σ.get 11)).toNat,inv:=fun _ _=>True,mu:=fun _ _=>0,rd:=fun _ _=>() })],JN:=[(0,3),(4,5),(6,3)],dec:=[55,77,148,181] }
namespace w3t
noncomputable section
structure Z where
 b:dL
 nB:Nat
 B:Nat->Int
 nO:Nat
 O:Nat->Int
 W:Int
 G:Int
 L:Int
variable (z:Z) (i0 i1 i2:Nat) (p q:Prop) (P:List Prop) (a b:Int) (k l m:Nat) (g:Bool) (A:DV) (E F:List DV) (U V:VT) (kY:Nat->DV) (Cm:Nat->VT) (QP:PUnit->VT)
abbrev x0:Int:=(i0:Int)
abbrev x1:=Int.toNat (x0 i0)
abbrev x2:=Int.toNat 1
abbrev x3:=Int.toNat 0
abbrev x4:=dX z.b z.nB z.B z.nO z.O z.W z.G k l m
abbrev x5:=z.b.N 0+1
abbrev x6:=i0<z.b.N 0->rf a
abbrev x7:=i0<z.b.nO->rf (z.b.O i0 k)
abbrev x8:=i0<z.b.nB->rf (z.b.B i0 k)
abbrev x9:Int:=(↑(z.b.N 0):Int)
abbrev dM:List Prop:=rf (Value.slice none 0 0)::P
abbrev dQ:=x1 i0+1
abbrev dS:=decide (a<(0:Int))
abbrev dT:=Lay.ir z.nB z.B z.nO z.O z.W z.G z.L
abbrev dU:=dZ z.b z.nB z.B z.nO z.O z.W z.G k (x1 i0) (l+1) m
abbrev dY:List Prop:=rf (0:Nat)::P
abbrev eb:=bC z.b z.nB z.B z.nO z.O z.W z.G k l
abbrev eE:=ix (z.b.N 0) (x0 i0+1)
abbrev eH:=ml 0 (Int.toNat a)
abbrev eT:List Prop:=ri (g=true)::P
abbrev eG:=x4 z k i0 (0:Nat)
abbrev eZ:=x4 z k i0 (1:Nat)
abbrev fi:=i1<dQ i0->rf a
abbrev fR:=VE z.b z.nB z.B z.nO z.O z.W z.G z.L
abbrev fU:=0<=a/\b<(↑(2:Nat):Int)
abbrev fS:=DV.dt k [kY]
abbrev fz:Int:= -(1:Int)
abbrev gi:=dF z.b z.nB z.B z.nO z.O z.W z.G 0 k l
abbrev iA:=kb z.b z.G z.W (x0 i0) a b
abbrev jw:=dW z.b z.nB z.B z.nO z.O z.W z.G k (x1 i0) (l+1) m
abbrev iw:List Prop:=rf z.nB::(∀i0<z.nB,rf (z.B i0))::rf z.nO::(∀i0<z.nO,rf (z.O i0))::rf z.W::rf z.G::rf z.L::P
abbrev jk:=ml 0 (x1 i0)
abbrev jj:=x4 z k l (1:Nat)
abbrev gQ:=Int.toNat 2
abbrev iz:=eT P (!(dS a))
abbrev mc:=dY (rf (x5 z)::P)
abbrev kB:=cl z.nB z.B z.nO z.O z.W z.G z.L a g
abbrev j8:=B5 z.b z.nB z.B z.nO z.O z.W z.G z.L (Int.toNat (fZ z.b z.nB z.B z.nO z.O z.W z.G))
abbrev oO:Int:=(↑(Lay.fQ z.nB z.B z.nO z.O z.W z.G z.L):Int)
abbrev mq:=decide (a>=(0:Int))
abbrev nH:=dF z.b z.nB z.B z.nO z.O z.W z.G 1 k l
abbrev sS:=fb (z.b.N 0) (z.b.X 0) (z.b.Y 0) (x0 i0)
abbrev yb:=dD (z.b.N 0) (z.b.X 0) (z.b.Y 0) (x0 i0)
abbrev wR:=ov (z.b.N 0) (z.b.X 0) (z.b.Y 0) i0
abbrev mU:=Int.toNat (x0 i0+1)
abbrev so:=x4 z k l (0:Nat)
abbrev xb:=rh z.nB z.B z.nO z.O z.W z.G z.L i0
abbrev qJ:=dU z i0 x2 k (1:Nat)
abbrev sn:=dU z i0 x3 k (1:Nat)
abbrev mb:=bL z.b z.nB z.B z.nO z.O z.W z.G k l
abbrev qZ:=bPr z.b z.nB z.B z.nO z.O z.W z.G z.L
abbrev tH:=VT.dk [p] U
abbrev zf:=jj z (1:Nat) (eH (x9 z))
abbrev Gj:=eH ((x0 i0+1)%x9 z)
abbrev ze:=mc z (dY P)
abbrev tG:=fU (1:Int) (1:Int)
abbrev B7:=dM (dM (dM (dM (dM P))))
abbrev M6:=eb z x2 (jk i0)
abbrev yL:List Prop:=p::rf (fR z)::(∀i0<fR z,rf (xb z i0))::P
abbrev tf:=fU (0:Int) (0:Int)
abbrev Jn:List Prop:=rf z.b.name::rf z.b.nS::(∀i0<z.b.nS,rf (z.b.fl i0))::(∀i0<z.b.nS,rf (z.b.N i0)/\(∀i1<z.b.N i0,rf (z.b.X i0 i1))/\(∀i1<z.b.N i0,rf (z.b.Y i0 i1)))::rf z.b.dE::rf z.b.nO::(∀(i0:Nat),x7 z i0 (0:Nat))::(∀(i0:Nat),x7 z i0 (1:Nat))::(∀(i0:Nat),x7 z i0 (2:Nat))::(∀(i0:Nat),x7 z i0 (3:Nat))::(∀(i0:Nat),x7 z i0 (4:Nat))::(∀(i0:Nat),x7 z i0 (5:Nat))::rf z.b.nB::(∀(i0:Nat),x8 z i0 (0:Nat))::(∀(i0:Nat),x8 z i0 (1:Nat))::(∀(i0:Nat),x8 z i0 (2:Nat))::(∀(i0:Nat),x8 z i0 (3:Nat))::(∀(i0:Nat),x8 z i0 (4:Nat))::(∀(i0:Nat),x8 z i0 (5:Nat))::iw z (rf (oO z)::rf (dT z)::(∀i0<dT z,rf (Lay.eI z.nB z.B z.nO z.O i0))::(∀i0<dT z,rf (Lay.ew z.nB i0))::(∀i0<dT z,rf (decide (z.nB<=i0)))::rf (z.b.N 0)::(∀(i0:Nat),x6 z i0 (z.b.X 0 i0))::(∀(i0:Nat),x6 z i0 (z.b.Y 0 i0))::(∀(i0:Nat),x6 z i0 (z.b.X 0 (eE z i0)))::(∀(i0:Nat),x6 z i0 (z.b.Y 0 (eE z i0)))::(∀(i0:Nat),x6 z i0 (sS z i0))::(∀(i0:Nat),x6 z i0 (yb z i0))::rf (z.b.N 0)::(∀(i0:Nat),x6 z i0 (wR z i0))::P)
abbrev tF:=Int.toNat 3
abbrev Tc:List Prop:=rf (1:Int)::P
abbrev M5:=(mq (zf z))&&(!(dS a))
abbrev SK:List Prop:=rf (0:Int)::P
abbrev x65:= ∀i0<x5 z,rf (gi z i0 (0:Nat))
abbrev x66:List Prop:=(∀i0<x5 z,rf (gi z i0 (1:Nat)))::P
abbrev x67:= ∀i0<x5 z,rf (eG z i0 (0:Nat))
abbrev x68:List Prop:=(∀i0<x5 z,rf (eZ z i0 (0:Nat)))::P
abbrev OS:=so z (0:Nat) (eH (x9 z))
abbrev x70:List Prop:=p::rf (x5 z)::x65 z::x66 z P
abbrev WS:List Prop:=rf (x5 z)::x67 z::x68 z P
abbrev x72:=DV.dt (dT z) [fun i0=>dI (Lay.eI z.nB z.B z.nO z.O i0),fun i0=>dI (Lay.ew z.nB i0),fun i0=>dB (decide (z.nB<=i0))]
abbrev M4:=(!(dS a))=true->p
abbrev Pf:=jP z.nB z.B z.nO z.O (iA z i0 (1:Int) a)
abbrev Pe:=jP z.nB z.B z.nO z.O (iA z i0 (0:Int) a)
abbrev Lh:=tH (dh a) U
abbrev x77:=VT.done (Jn z (rf a::rf (x0 i0)::P))
abbrev M3:=iA z i0 (M6 z i0) (eb z x2 (Gj z i0))
abbrev x79:List DV:=fS z.nB (fun i0=>dI (z.B i0))::fS z.nO (fun i0=>dI (z.O i0))::dI z.W::dI z.G::dI z.L::E
abbrev x80:=DV.dV (DV.val (Value.string z.b.name)::DV.dt z.b.nS [fun i0=>dI (z.b.fl i0),fun i0=>DV.dt (z.b.N i0) [fun i1=>dI (z.b.X i0 i1),fun i1=>dI (z.b.Y i0 i1)]]::dI z.b.dE::DV.dt z.b.nO [fun i0=>dI (z.b.O i0 0),fun i0=>dI (z.b.O i0 1),fun i0=>dI (z.b.O i0 2),fun i0=>dI (z.b.O i0 3),fun i0=>dI (z.b.O i0 4),fun i0=>dI (z.b.O i0 5)]::DV.dt z.b.nB [fun i0=>dI (z.b.B i0 0),fun i0=>dI (z.b.B i0 1),fun i0=>dI (z.b.B i0 2),fun i0=>dI (z.b.B i0 3),fun i0=>dI (z.b.B i0 4),fun i0=>dI (z.b.B i0 5)]::x79 z [dI (oO z),x72 z,DV.dt (z.b.N 0) [fun i0=>dI (z.b.X 0 i0),fun i0=>dI (z.b.Y 0 i0),fun i0=>dI (z.b.X 0 (eE z i0)),fun i0=>dI (z.b.Y 0 (eE z i0)),fun i0=>dI (sS z i0),fun i0=>dI (yb z i0)],fS (z.b.N 0) (fun i0=>dI (wR z i0))])
abbrev Ta:=Int.toNat (x9 z)
abbrev OR:=jw z i0 x2 k (0:Nat)
abbrev OQ:=jw z i0 x3 k (0:Nat)
abbrev M1:=jY z.b z.nB z.B z.nO z.O z.W z.G k (z.b.N 0 - l)
abbrev JB:=qJ z i0 x3
abbrev JA:=sn z i0 x3
abbrev x87:=eb z x3 (jk i0)
abbrev Pd:=jw z i0 x2 k (1:Nat)
abbrev Pc:=jw z i0 x3 k (1:Nat)
abbrev Jz:=dU z i0 x2 x2 (0:Nat)
abbrev Jy:=dU z i0 x3 x2 (0:Nat)
abbrev Jm:=if (dS a)=true then true else g
abbrev OP:=List.length (kB z a true)
abbrev OO:=List.length (kB z a false)
abbrev ON:=if (decide (i1<i0))=true then a else b
abbrev x96:=gv (z.b.N 0) (z.b.X 0) (z.b.Y 0) z.G z.W (x0 i0) a
abbrev Lg:=VT.dk (tG::P) U
abbrev SJ:=dU z i0 x2 k (0:Nat)
abbrev SI:=dU z i0 x3 k (0:Nat)
abbrev yM:List Prop:=[dS a=false->(!(dS b))=true]
abbrev xd:=VT.dk (tf::P) U
abbrev JI:=Int.toNat (x0 i0 - 1)
abbrev B8:=(mq (OS z))&&(!(dS fz))
abbrev JH:=dv prog k (x80 z::E) (dI a)
abbrev Yl:= ∀i0<x5 z,rf (nH z i0 (0:Nat))
abbrev Yk:= ∀i0<x5 z,rf (nH z i0 (1:Nat))
abbrev Yj:= ∀(i1:Nat),fi i0 i1 (so z (0:Nat) i1)
abbrev Yi:= ∀(i1:Nat),fi i0 i1 (nH z i1 (0:Nat))
abbrev Yh:List Prop:=(∀(i1:Nat),fi i0 i1 (jj z (0:Nat) i1))::P
abbrev Yg:= ∀(i1:Nat),fi i0 i1 (so z (1:Nat) i1)
abbrev Yf:= ∀i0<x5 z,rf (eG z i0 (1:Nat))
abbrev Ye:=x70 z (∀(i1:Nat),fi i0 i1 (jj z (1:Nat) i1)) P
abbrev Yd:=x70 z (∀i0<x5 z,rf (eZ z i0 (1:Nat))) P
abbrev Yc:= ∀(i1:Nat),fi i0 i1 (gi z i1 (0:Nat))
abbrev PG:List Prop:=(i0+1=dQ i0)::p::P
abbrev M8:=i0<gE.nR (j8 z)->a=b
abbrev JG:=x96 z i0 (M6 z i0)
abbrev Yb:List Prop:=(∀(i1:Nat),fi i0 i1 (nH z i1 (1:Nat)))::p::P
abbrev PF:List DV:=fS (fR z) (fun i0=>dI (xb z i0))::E
abbrev xc:=iA z i0 (x87 z i0) (eb z x3 (Gj z i0))
abbrev Ya:List Prop:=(∀(i1:Nat),fi i0 i1 (gi z i1 (1:Nat)))::p::P
abbrev zP:=x77 z i0 (Tc (rf (x9 z)::rf (x0 i0)::P)) (1:Int)
abbrev zO:=x77 z i0 (SK (rf (x9 z)::rf (x0 i0)::P)) (0:Int)
abbrev X9:=iw z (B7 [rf (eG z i0 x3),rf (eZ z i0 x3),True])
abbrev X8:=(Tables.types (Program.toTables prog))[(3:Nat)]
abbrev Gr:=eT P (M5 z (0:Int))
abbrev JF:=List.getD (kB z a true) i2 0
abbrev JE:=List.getD (kB z a false) i2 0
abbrev Tu:=yL z p (mc z (mc z (mc z (ze z (rf (z.b.N 0)::P)))))
abbrev PE:=ze z (rf (dQ i0)::ze z (rf (dQ i0)::iw z (B7 [rf (eG z i0 x2),rf (eZ z i0 x2),True])))
abbrev PD:=dY (rf (dQ i0)::dM (dY (rf (dQ i0)::dM (X9 z i0))))
abbrev Tt:=0+Int.toNat a*TypeInfo.size X8
abbrev Ts:List Prop:=rf (dQ i0)::Yj z i0::Yh z i0 (rf (dQ i0)::Yc z i0::Ya z i0 p P)
abbrev Tq:=WS z (rf (x5 z)::Yf z::Yd z (rf (x5 z)::Yl z::Yk z::rf (z.b.N 0)::P))
abbrev Tp:=WS z (rf (dQ i0)::Yg z i0::Ye z i0 (rf (dQ i0)::Yi z i0::Yb z i0 p P))
abbrev PC:=VT.cut PUnit (fun (i0:PUnit)=>True) U QP
abbrev X7:=0<=a/\(0:Int)<(2:Int)/\p
abbrev PB:=iz P (qJ z i0 gQ)
abbrev PA:=iz P (sn z i0 gQ)
abbrev Pz:List Prop:=[p,0<=a/\(0:Int)<(2:Int)]
abbrev Et:=if (decide (i1<(dQ i0)))=true then a else b
abbrev Gq:=M4 (dh b) a
abbrev M7:=VT.loop Nat (fun i0=>i0<=z.b.N 0) k P Cm
abbrev Py:List Prop:=p::Jn z (rf (x9 z)::Tc P)
abbrev Es:=1=x3+1
abbrev Er:=dQ i0+1=mU i0+1
abbrev Ep:=i1<mU i0+1->a=b
abbrev X6:=(k+1)*(l+1)<=140737488355328
abbrev JD:=x96 z i0 (x87 z i0)
abbrev JC:=i0<x3+1->0=a
abbrev To:=X7 (b<=9223372036854775807) a
abbrev Px:=if (decide (i1<i0))=true then k else l
abbrev Pw:=xa (z.b.N 0) (z.b.X 0) (z.b.Y 0) (x0 i0) a z.G
abbrev Pv:=wZ (z.b.N 0) (z.b.X 0) (z.b.Y 0) (x0 i0) a z.G
abbrev Tn:=bE z.b z.nB z.B z.nO z.O z.W z.G
abbrev Pu:=0=(x3:Int)
abbrev Tm:=dv prog k E (DV.fC F)
abbrev Tl:=eT (eT P (M5 z fz)) (M5 z fz)
abbrev Tk:=VT.ite (decide ((x0 i0)<(x9 z))) U V
abbrev Tj:=x0 i0+1=(↑(mU i0):Int)
abbrev Ti:List Prop:=[mU i0<=z.b.N 0,z.b.N 0 - mU i0<z.b.N 0 - i0]
abbrev Pt:=eZ z i0 x2+Pf z i0 (1:Int)
abbrev Ps:=eZ z i0 x2+Pf z i0 (0:Int)
abbrev Pr:=eZ z i0 x3+Pf z i0 (1:Int)
abbrev Pq:=eZ z i0 x3+Pf z i0 (0:Int)
abbrev Pp:=eG z i0 x2+Pe z i0 (1:Int)
abbrev Po:=eG z i0 x2+Pe z i0 (0:Int)
abbrev Pn:=eG z i0 x3+Pe z i0 (1:Int)
abbrev Pm:=eG z i0 x3+Pe z i0 (0:Int)
abbrev X5:=JH z b (34:Nat) (PF z [dI (x0 i0),dI 1,dI a])
abbrev X4:=JH z b (34:Nat) (PF z [dI (x0 i0),dI 0,dI a])
abbrev Pk:=eH (x9 z)<x5 z
abbrev X3:=if i0<=i1 then (eb z x2 i1) else (0:Int)
abbrev Pj:=fU fz fz
abbrev Ph:=0<=x9 z/\x9 z<(↑(x5 z):Int)
abbrev Pg:List Prop:=(dQ i0<=dQ i0)::X6 (dQ i0) (nat_lit 15)::((1:Nat)<=(1:Nat))::P
abbrev X1:=iz (M4 tf fz::iz (iz (iz P fz) fz) fz) fz
abbrev X0:=List.getD [nH z (jk i0) (0:Nat),nH z (jk i0) (1:Nat)] (Tt (M1 z x2 i0)) 0
abbrev Th:List Prop:=p::Jn z (rf (x9 z)::SK P)
abbrev XZ:=i1<z.b.N 0->a=(if (JI i0)<=i1 then b else (0:Int))
abbrev Tg:List Prop:=(B8 z=true->p)::eT (eT P (B8 z)) (B8 z)
abbrev XY:=i0<gE.nR (j8 z)->OP z a=gE.nQ (j8 z) i0/\p
abbrev XX:=i0<gE.nR (j8 z)->OO z a=gE.nP (j8 z) i0/\p
abbrev XW:=VT.ite (decide ((x0 i0)>(0:Int))) U V
abbrev XV:=i0<gE.nC (j8 z)->a=gE.C (j8 z) i0
abbrev XU:=if (decide (i1=(eH (x0 i0 - 1))))=true then a else b
abbrev XT:=dv prog 35 [x80 z,dI (x0 i0),dI a,dI z.G] A
abbrev XS:=i0<z.b.N 0->0=(if (Ta z)<=i0 then a else (0:Int))
abbrev XR:List Prop:=p::Tu z q (dY ((i0+1=mU i0)::iw z (B7 (Ti z i0))))
abbrev XQ:List Prop:=rf (x9 z)::Tq z (p::Tu z (x3=0) (dY ((x3=0)::iw z (B7 []))))
abbrev XP:=DV.val (Value.agg (Array.mk [Value.int IntKind.i64 a,Value.int IntKind.i64 b]))
abbrev XO:List Prop:=p::(i0=gE.nR (j8 z))::(∀(i0:Nat),M8 z i0 (x0 i0) (gE.F (j8 z) i0))::P
abbrev Tf:=dv prog 33 [x80 z] (dI (x9 z))
abbrev XN:List Prop:=(gE.nC (j8 z)=0)::(gE.nR (j8 z)=0)::(nY.nT (qZ z)=0)::(nY.n0 (qZ z)=0)::P
abbrev XM:=M8 z i0 (OU z.b z.G z.W i0 a) (gE.SX (j8 z) i0)
abbrev XL:=M8 z i0 (OT z.b z.G z.W i0 a) (gE.SY (j8 z) i0)
abbrev XK:=Tq z (Tu z p (dM (iw z (B7 [JI i0<=z.b.N 0,JI i0<i0]))))
abbrev XJ:List Prop:=rf (3:Int)::Tp z i0 (SJ z i0 gQ=SJ z i0 tF) ((a=qJ z i0 tF)::(OR z i0 gQ=OR z i0 tF)::yL z p (PE z i0))
abbrev XI:List Prop:=rf (3:Int)::Ts z i0 (SI z i0 gQ=SI z i0 tF) ((a=sn z i0 tF)::(OQ z i0 gQ=OQ z i0 tF)::yL z p (PD z i0))
abbrev XH:=Tm (38:Nat) (DV.agg [dI (oO z),x72 z]::PF z [dI a]) E
abbrev Te:=SK (WS z (PG i0 (Yg z i0) (Ye z i0 (PG i0 (Yi z i0) (Yb z i0 p ((fz=JB z i0)::(0=OR z i0 x3)::yL z (0=Pd z i0 x3) (ze z ((i0+1=dQ i0)::ze z ((i0+1=dQ i0)::iw z (B7 [rf (eG z i0 x2),rf (eZ z i0 x2),True]))))))))))
abbrev XG:=tH p (VT.dk [i0<=i0,X6 i0 (nat_lit 79),(1:Nat)<=(1:Nat)] (Lh (x0 i0+1) (VT.done P)))
abbrev XF:List Prop:=[0<=x0 i0/\x0 i0<(↑(x5 z):Int),p,jk i0<x5 z,Tt a<2]
abbrev XE:=Tc (Ts z i0 (SI z i0 x3=Jy z i0) ((a=sn z i0 x2)::P))
abbrev XD:=Tc (Tp z i0 (SJ z i0 x3=Jz z i0) ((a=qJ z i0 x2)::P))
abbrev Td:=SK (PG i0 (Yj z i0) (Yh z i0 (PG i0 (Yc z i0) (Ya z i0 p ((fz=JA z i0)::(0=OQ z i0 x3)::yL z (0=Pc z i0 x3) (dY ((i0+1=dQ i0)::dM (dY ((i0+1=dQ i0)::dM (X9 z i0))))))))))
abbrev XC:List Prop:=rf (x9 z)::Tq z (p::(i0+1=mU i0)::(∀i1<mU i0,ON i0 i1 (i1:Int) (x0 i0)=(i1:Int))::P)
abbrev XB:List Prop:=(i0+1=x5 z)::Yf z::Yd z ((i0+1=x5 z)::Yl z::Yk z::(Ta z=z.b.N 0)::yL z p (ze z ((i0+1=x5 z)::ze z ((i0+1=x5 z)::dY ((Ta z=z.b.N 0)::dM (iw z (B7 [])))))))
abbrev XA:List Prop:=rf (2:Int)::Ts z i0 (a=SI z i0 gQ) ((sn z i0 x2=sn z i0 gQ)::p::yL z (Pc z i0 x2=Pc z i0 gQ) (PD z i0))
abbrev Xz:List Prop:=rf (2:Int)::Tp z i0 (a=SJ z i0 gQ) ((qJ z i0 x2=qJ z i0 gQ)::p::yL z (Pd z i0 x2=Pd z i0 gQ) (PE z i0))
abbrev Xy:=Tk z i0 (VT.dk [0<=x0 i0/\x0 i0<x9 z,jk i0<z.b.N 0,dh (x0 i0+1),0<=x0 i0+1/\0<x9 z,0<=(x0 i0+1)%x9 z/\(x0 i0+1)%x9 z<x9 z,Gj z i0<z.b.N 0] U) (VT.done ((z.b.N 0<=z.b.N 0)::(i0<=i0)::(x5 z<=x5 z)::(x5 z<=x5 z)::(z.b.N 0=gE.nC (j8 z))::P))
abbrev Xx:=VT.dk [dh (x0 i0 - 1),0<=x0 i0 - 1/\x0 i0 - 1<x9 z,eH (x0 i0 - 1)<z.b.N 0] (Lh (x0 i0 - 1) (VT.done ((x0 i0 - 1=(↑(JI i0):Int))::P)))
abbrev Xw:List Prop:=[p,q,fR z=nY.nT (qZ z),∀i0<nY.nT (qZ z),xb z i0=nY.T (qZ z) i0,x5 z=nY.n0 (qZ z),∀i0<nY.n0 (qZ z),eG z i0 (0:Nat)=nY.A0 (qZ z) i0,∀i0<nY.n0 (qZ z),eZ z i0 (0:Nat)=nY.A1 (qZ z) i0,x5 z=nY.n1 (qZ z),∀i0<nY.n1 (qZ z),eG z i0 (1:Nat)=nY.B0 (qZ z) i0,∀i0<nY.n1 (qZ z),eZ z i0 (1:Nat)=nY.B1 (qZ z) i0,0=Tn z]
abbrev Xv:=Lh (2:Int) (tH (0<=x9 z/\rf (x9 z)/\x9 z<=140737488355328/\TypeInfo.bytes X8*Ta z<=281474976710656) (M7 z ((x9 z=(↑(Ta z):Int))::P) (Ta z) Cm))
abbrev Xu:=Gr z ((M5 z (0:Int)=true->p)::Gr z (Gr z P))
abbrev Xt:=eT ((M5 z fz=true->p)::Tl z P) (M5 z fz)
abbrev Xs:=if i0<=i1 then (eb z x3 i1) else (0:Int)
abbrev Xr:=Lh (x0 i0+1) (VT.done (Tj i0::Jn z P))
abbrev Xq:=VT.ite (Jm (eG z i0 x2) (dS a)) (zP z i0 P) U
abbrev Xp:=VT.ite (Jm (eZ z i0 x2) (dS a)) (zP z i0 P) U
abbrev Xo:=VT.ite (Jm (eG z i0 x3) (dS a)) (zO z i0 P) U
abbrev Xn:=VT.ite (Jm (eZ z i0 x3) (dS a)) (zO z i0 P) U
abbrev Xm:=iz (iz (iz P (JB z i0)) (JB z i0)) (JB z i0)
abbrev Xl:=iz (iz (iz P (JA z i0)) (JA z i0)) (JA z i0)
abbrev Xk:=iz (iz (iz P (Jz z i0)) (Jz z i0)) (Jz z i0)
abbrev Xj:=iz (iz (iz P (Jy z i0)) (Jy z i0)) (Jy z i0)
abbrev Xi:=xd (iz (yM (eG z i0 x2) (eG z i0 x2)) (eG z i0 x2)) U
abbrev Xh:=xd (iz (yM (eG z i0 x3) (eG z i0 x3)) (eG z i0 x3)) U
abbrev Xg:=XJ z i0 (Pd z i0 gQ=Pd z i0 tF) (qJ z i0 gQ)
abbrev Xf:=XI z i0 (Pc z i0 gQ=Pc z i0 tF) (sn z i0 gQ)
abbrev Xe:=XA z i0 (OQ z i0 x2=OQ z i0 gQ) (Jy z i0)
abbrev Xd:=Xz z i0 (OR z i0 x2=OR z i0 gQ) (Jz z i0)
abbrev Xc:=xd (X1 (Gq fz a::X1 (yM fz fz))) U
abbrev Xb:=Lg (iz (yM (eZ z i0 x2) (eZ z i0 x2)) (eZ z i0 x2)) U
abbrev Xa:=Lg (iz (yM (eZ z i0 x3) (eZ z i0 x3)) (eZ z i0 x3)) U
abbrev W9:=PB z i0 (M4 tG (qJ z i0 gQ)::PB z i0 (PB z i0 (PB z i0 P)))
abbrev W8:=PA z i0 (M4 tG (sn z i0 gQ)::PA z i0 (PA z i0 (PA z i0 P)))
abbrev W7:=eT [mq (zf z)=true->p,ri (mq (zf z)=true)] (mq (zf z))
abbrev W6:=List.getD [gi z (jk i0) (0:Nat),gi z (jk i0) (1:Nat)] (Tt (M1 z x3 i0)) 0
abbrev W5:=XE z i0 ((OQ z i0 x3=OQ z i0 x2)::yL z (Pc z i0 x3=Pc z i0 x2) (PD z i0)) (JA z i0)
abbrev W4:=XD z i0 ((OR z i0 x3=OR z i0 x2)::yL z (Pd z i0 x3=Pd z i0 x2) (PE z i0)) (JB z i0)
abbrev WZ:=tH p (VT.ite ((0:Int) !=(0:Int)) (VT.done (XN z [nY.n1 (qZ z)=0,0=Tn z])) U)
abbrev WY:=PC (VT.dk (Pz (X7 ((0:Int)<=(9223372036854775807:Int)) (0:Int)) (0:Int)) (tH (X4 z i0 (0:Int) (Pe z i0 (0:Int))) U)) QP
abbrev WX:=Lh (1:Int) (PC (VT.dk (Pz (To (1:Int) (1:Int)) (1:Int)) (tH (X4 z i0 (1:Int) (Pe z i0 (1:Int))) U)) QP)
abbrev WW:=Lh (2:Int) (PC (VT.dk (Pz (To (2:Int) (2:Int)) (2:Int)) (tH (X5 z i0 (0:Int) (Pf z i0 (0:Int))) U)) QP)
abbrev WV:=Lh (3:Int) (PC (VT.dk (Pz (To (3:Int) (3:Int)) (3:Int)) (tH (X5 z i0 (1:Int) (Pf z i0 (1:Int))) U)) QP)
abbrev WU:=Lh (1:Int) (Lg [0<=x9 z/\x9 z<(↑(i0+1):Int),tG,eH (x9 z)<i0+1] (VT.dk (eT (eT P (mq (zf z))) (mq (zf z))) U))
abbrev WT:=VT.ite (if (mq (zf z))=true then g else false) (Xv z (Py z (1=M1 z x2 (Ta z)) (WS z (XB z i0 (∀(i0:Nat),XS z i0 (eb z x2 i0))))) (fun i0=>XW i0 (Lg (XF z i0 (fU (M1 z x2 i0) (M1 z x2 i0)) (M1 z x2 i0)) (Xx z i0 (Py z (X0 z i0=M1 z x2 (JI i0)) (XK z i0 (∀(i1:Nat),XZ z i0 i1 (XU i0 i1 (X0 z i0) (X3 z i0 i1)) (eb z x2 i1)))))) (M7 z (Py z Pu (XQ z (∀i1<z.b.N 0,X3 z i0 i1=eb z x2 i1))) x3 (fun i0=>Xy z i0 (XO z i0 (∀(i0:Nat),XV z i0 (eb z x2 i0)) ((∀(i0:Nat),XM z i0 (eb z x2 i0))::(∀(i0:Nat),XL z i0 (eb z x2 i0))::(∀(i0:Nat),M8 z i0 (mb z x2 i0) (gE.Ln (j8 z) i0))::Xw z (∀(i0:Nat),XX z i0 (∀i1<gE.nP (j8 z) i0,List.getD (kB z (mb z x2 i0) false) i1 0=gE.P (j8 z) i0 i1) (mb z x2 i0)) (∀(i0:Nat),XY z i0 (∀i1<gE.nQ (j8 z) i0,List.getD (kB z (mb z x2 i0) true) i1 0=gE.Q (j8 z) i0 i1) (mb z x2 i0)))) (VT.dk [JH z (JG z i0) (36:Nat) [dI (x0 i0),dI (M6 z i0)],XT z i0 (JG z i0) (XP (Pw z i0 (JG z i0)) (Pv z i0 (JG z i0))),JH z (M3 z i0) (37:Nat) [dI (x0 i0),dI (M6 z i0),dI (eb z x2 (Gj z i0))]] (XG i0 (XH z (M3 z i0) [DV.agg [fS (OO z (M3 z i0)) (fun i1=>dI (List.getD (kB z (M3 z i0) false) i1 0)),fS (OP z (M3 z i0)) (fun i1=>dI (List.getD (kB z (M3 z i0) true) i1 0))],dB (okL z.nB z.B z.nO z.O z.W z.G z.L (M3 z i0))]) (Py z (Tj i0) (XC z i0 (∀(i0:Nat),x6 z i0 (eb z x2 i0)) ((∀i1<mU i0,ON i0 i1 (OU z.b z.G z.W i1 (eb z x2 i1)) (Pw z i0 (JG z i0))=OU z.b z.G z.W i1 (eb z x2 i1))::(∀i1<mU i0,ON i0 i1 (OT z.b z.G z.W i1 (eb z x2 i1)) (Pv z i0 (JG z i0))=OT z.b z.G z.W i1 (eb z x2 i1))::(∀i1<mU i0,ON i0 i1 (mb z x2 i1) (M3 z i0)=mb z x2 i1)::XR z i0 (∀i1<mU i0,Px i0 i1 (OO z (mb z x2 i1)) (OO z (M3 z i0))=OO z (mb z x2 i1)/\(∀i2<OO z (mb z x2 i1),ON i0 i1 (JE z i2 (mb z x2 i1)) (JE z i2 (M3 z i0))=JE z i2 (mb z x2 i1))) (∀i1<mU i0,Px i0 i1 (OP z (mb z x2 i1)) (OP z (M3 z i0))=OP z (mb z x2 i1)/\(∀i2<OP z (mb z x2 i1),ON i0 i1 (JF z i2 (mb z x2 i1)) (JF z i2 (M3 z i0))=JF z i2 (mb z x2 i1)))))))))))) U
abbrev xt:VT:=WZ z (Tm (31:Nat) [kz z.b,DV.agg (x79 z [])] [x80 z,dI 0]) (WZ z (Tm (32:Nat) [x80 z] (PF z [dI 0])) (tH tf (VT.dk [tf,tf] (tH (Tf z) (M7 z (Pu::Jn z (SK (SK (rf (x9 z)::Es::(∀(i0:Nat),JC i0 (eG z i0 (0:Nat)))::(∀i0<x3+1,fz=eZ z i0 (0:Nat))::Es::(∀(i0:Nat),JC i0 (gi z i0 (0:Nat)))::(∀(i0:Nat),JC i0 (gi z i0 (1:Nat)))::(0=so z x3 x3)::yL z (fz=jj z x3 x3) (dY (Es::dM (dY (Es::dM (iw z (B7 [])))))))))) x3 (fun i0=>Tk z i0 (WY z i0 (Xh z i0 (Xo z i0 (Td z i0 (fz=SI z i0 x3)) (Pe z i0 (0:Int)) (Xc (Pm z i0) (VT.ite (Jm fz (decide ((Pm z i0)<fz))) (xd [dh (Pm z i0),tf,tf] (zO z i0 (Td z i0 (Pm z i0=SI z i0 x3)))) (zO z i0 (Td z i0 (fz=SI z i0 x3))))))) (fun (i1:PUnit)=>WX z i0 (Xh z i0 (Xo z i0 (W5 z i0) (Pe z i0 (1:Int)) (Lg (iz (M4 tf (JA z i0)::Xl z i0 (Gq (JA z i0) (Pn z i0)::iz (M4 tG (JA z i0)::Xl z i0 (yM (JA z i0) (JA z i0))) (JA z i0))) (JA z i0)) (VT.ite (Jm (JA z i0) (decide ((Pn z i0)<(JA z i0)))) (xd [dh (Pn z i0),tG,tG] (zO z i0 (XE z i0 ((OQ z i0 x3=OQ z i0 x2)::yL z (0=Pc z i0 x2) (PD z i0)) (Pn z i0)))) (zO z i0 (W5 z i0)))))) (fun (i1:PUnit)=>WW z i0 (Xa z i0 (Xn z i0 (Xe z i0) (Pf z i0 (0:Int)) (xd (iz (M4 tG (Jy z i0)::Xj z i0 (Gq (Jy z i0) (Pq z i0)::iz (M4 tf (Jy z i0)::Xj z i0 (yM (Jy z i0) (Jy z i0))) (Jy z i0))) (Jy z i0)) (VT.ite (Jm (Jy z i0) (decide ((Pq z i0)<(Jy z i0)))) (Lg [dh (Pq z i0),tf,tf] (zO z i0 (XA z i0 (1=OQ z i0 gQ) (Pq z i0)))) (zO z i0 (Xe z i0)))))) (fun (i1:PUnit)=>WV z i0 (Xa z i0 (Xn z i0 (Xf z i0) (Pf z i0 (1:Int)) (Lg (W8 z i0 (Gq (sn z i0 gQ) (Pr z i0)::W8 z i0 (yM (sn z i0 gQ) (sn z i0 gQ)))) (VT.ite (Jm (sn z i0 gQ) (decide ((Pr z i0)<(sn z i0 gQ)))) (Lg [dh (Pr z i0),tG,tG] (zO z i0 (XI z i0 (1=Pc z i0 tF) (Pr z i0)))) (zO z i0 (Xf z i0)))))) (fun (i1:PUnit)=>Lh (4:Int) (xd (Pg i0 (tf::Pg i0 [tf,tf])) (Xr z i0 (SK (SK (rf (x9 z)::Er i0::(∀(i1:Nat),Ep i0 i1 (Et i0 i1 (so z (0:Nat) i1) (SI z i0 tF)) (so z (0:Nat) i1))::(∀(i1:Nat),Ep i0 i1 (Et i0 i1 (jj z (0:Nat) i1) (sn z i0 tF)) (jj z (0:Nat) i1))::Er i0::(∀(i1:Nat),Ep i0 i1 (Et i0 i1 (gi z i1 (0:Nat)) (OQ z i0 tF)) (gi z i1 (0:Nat)))::(∀(i1:Nat),Ep i0 i1 (Et i0 i1 (gi z i1 (1:Nat)) (Pc z i0 tF)) (gi z i1 (1:Nat)))::(SI z i0 tF=so z x3 (mU i0))::yL z (sn z i0 tF=jj z x3 (mU i0)) (dY (Er i0::dM (dY (Er i0::dM (iw z (B7 (Ti z i0))))))))))))))))) (Lh (1:Int) (tH tG (VT.dk [tG,tG] (tH (Tf z) (M7 z (Pu::Jn z (Tc (Tc (rf (x9 z)::(i0+1=x5 z)::x67 z::x68 z (Es::(∀i0<x3+1,fz=eG z i0 (1:Nat))::(∀(i0:Nat),JC i0 (eZ z i0 (1:Nat)))::(i0+1=x5 z)::x65 z::x66 z (Es::(∀(i0:Nat),JC i0 (nH z i0 (0:Nat)))::(∀(i0:Nat),JC i0 (nH z i0 (1:Nat)))::(fz=so z x2 x3)::yL z (0=jj z x2 x3) (dY ((i0+1=x5 z)::dY (Es::dY ((i0+1=x5 z)::dY (Es::iw z (B7 [])))))))))))) x3 (fun i0=>Tk z i0 (WY z i0 (Xi z i0 (Xq z i0 (Te z i0 (fz=SJ z i0 x3)) (Pe z i0 (0:Int)) (Xc (Po z i0) (VT.ite (Jm fz (decide ((Po z i0)<fz))) (xd [dh (Po z i0),tf,tf] (zP z i0 (Te z i0 (Po z i0=SJ z i0 x3)))) (zP z i0 (Te z i0 (fz=SJ z i0 x3))))))) (fun (i1:PUnit)=>WX z i0 (Xi z i0 (Xq z i0 (W4 z i0) (Pe z i0 (1:Int)) (Lg (iz (M4 tf (JB z i0)::Xm z i0 (Gq (JB z i0) (Pp z i0)::iz (M4 tG (JB z i0)::Xm z i0 (yM (JB z i0) (JB z i0))) (JB z i0))) (JB z i0)) (VT.ite (Jm (JB z i0) (decide ((Pp z i0)<(JB z i0)))) (xd [dh (Pp z i0),tG,tG] (zP z i0 (XD z i0 ((OR z i0 x3=OR z i0 x2)::yL z (0=Pd z i0 x2) (PE z i0)) (Pp z i0)))) (zP z i0 (W4 z i0)))))) (fun (i1:PUnit)=>WW z i0 (Xb z i0 (Xp z i0 (Xd z i0) (Pf z i0 (0:Int)) (xd (iz (M4 tG (Jz z i0)::Xk z i0 (Gq (Jz z i0) (Ps z i0)::iz (M4 tf (Jz z i0)::Xk z i0 (yM (Jz z i0) (Jz z i0))) (Jz z i0))) (Jz z i0)) (VT.ite (Jm (Jz z i0) (decide ((Ps z i0)<(Jz z i0)))) (Lg [dh (Ps z i0),tf,tf] (zP z i0 (Xz z i0 (1=OR z i0 gQ) (Ps z i0)))) (zP z i0 (Xd z i0)))))) (fun (i1:PUnit)=>WV z i0 (Xb z i0 (Xp z i0 (Xg z i0) (Pf z i0 (1:Int)) (Lg (W9 z i0 (Gq (qJ z i0 gQ) (Pt z i0)::W9 z i0 (yM (qJ z i0 gQ) (qJ z i0 gQ)))) (VT.ite (Jm (qJ z i0 gQ) (decide ((Pt z i0)<(qJ z i0 gQ)))) (Lg [dh (Pt z i0),tG,tG] (zP z i0 (XJ z i0 (1=Pd z i0 tF) (Pt z i0)))) (zP z i0 (Xg z i0)))))) (fun (i1:PUnit)=>Lh (4:Int) (Lg (Pg i0 (tG::Pg i0 [tG,tG])) (Xr z i0 (Tc (Tc (rf (x9 z)::WS z (Er i0::(∀(i1:Nat),Ep i0 i1 (Et i0 i1 (so z (1:Nat) i1) (SJ z i0 tF)) (so z (1:Nat) i1))::x70 z (∀(i1:Nat),Ep i0 i1 (Et i0 i1 (jj z (1:Nat) i1) (qJ z i0 tF)) (jj z (1:Nat) i1)) (Er i0::(∀(i1:Nat),Ep i0 i1 (Et i0 i1 (nH z i1 (0:Nat)) (OR z i0 tF)) (nH z i1 (0:Nat)))::(∀(i1:Nat),Ep i0 i1 (Et i0 i1 (nH z i1 (1:Nat)) (Pd z i0 tF)) (nH z i1 (1:Nat)))::(SJ z i0 tF=so z x2 (mU i0))::yL z (qJ z i0 tF=jj z x2 (mU i0)) (ze z (Er i0::ze z (Er i0::iw z (B7 (Ti z i0))))))))))))))))) (Lh (2:Int) (tH (Tf z) (xd [Ph z,tf,Pk z] (VT.dk (eT (eT (eT (eT (Tg z Pj (eT (Tg z (Ph z) ((B8 z=true->Pj)::eT (Tg z (Pk z) (eT [mq (OS z)=true->dS fz=false->B8 z=true,ri (mq (OS z)=true)] (mq (OS z)))) (B8 z))) (B8 z))) (B8 z)) (B8 z)) (mq (OS z))) (mq (OS z))) (VT.ite (if (mq (OS z))=true then (Jm fz (decide ((OS z)<(OS z)))) else false) (WU z i0 (Gr z (Gr z ((M5 z (0:Int)=true->tf)::Gr z (Gr z (Xu z (Ph z) ((M5 z (0:Int)=true->tf)::Xu z (Pk z) (W7 z (dS (0:Int)=false->M5 z (0:Int)=true)))))))) (WT z i0 (Jm (0:Int) (decide ((zf z)<(OS z)))) (Xv z ((0=M1 z x3 (Ta z))::Jn z (rf (x9 z)::SK (WS z (XB z i0 (∀(i0:Nat),XS z i0 (eb z x3 i0)))))) (fun i0=>XW i0 (xd (XF z i0 (fU (M1 z x3 i0) (M1 z x3 i0)) (M1 z x3 i0)) (Xx z i0 (Th z (W6 z i0=M1 z x3 (JI i0)) (XK z i0 (∀(i1:Nat),XZ z i0 i1 (XU i0 i1 (W6 z i0) (Xs z i0 i1)) (eb z x3 i1)))))) (M7 z (Th z Pu (XQ z (∀i1<z.b.N 0,Xs z i0 i1=eb z x3 i1))) x3 (fun i0=>Xy z i0 (XO z i0 (∀(i0:Nat),XV z i0 (eb z x3 i0)) ((∀(i0:Nat),XM z i0 (eb z x3 i0))::(∀(i0:Nat),XL z i0 (eb z x3 i0))::(∀(i0:Nat),M8 z i0 (mb z x3 i0) (gE.Ln (j8 z) i0))::Xw z (∀(i0:Nat),XX z i0 (∀i1<gE.nP (j8 z) i0,List.getD (kB z (mb z x3 i0) false) i1 0=gE.P (j8 z) i0 i1) (mb z x3 i0)) (∀(i0:Nat),XY z i0 (∀i1<gE.nQ (j8 z) i0,List.getD (kB z (mb z x3 i0) true) i1 0=gE.Q (j8 z) i0 i1) (mb z x3 i0)))) (VT.dk [JH z (JD z i0) (36:Nat) [dI (x0 i0),dI (x87 z i0)],XT z i0 (JD z i0) (XP (Pw z i0 (JD z i0)) (Pv z i0 (JD z i0))),JH z (xc z i0) (37:Nat) [dI (x0 i0),dI (x87 z i0),dI (eb z x3 (Gj z i0))]] (XG i0 (XH z (xc z i0) [DV.agg [fS (OO z (xc z i0)) (fun i1=>dI (List.getD (kB z (xc z i0) false) i1 0)),fS (OP z (xc z i0)) (fun i1=>dI (List.getD (kB z (xc z i0) true) i1 0))],dB (okL z.nB z.B z.nO z.O z.W z.G z.L (xc z i0))]) (Th z (Tj i0) (XC z i0 (∀(i0:Nat),x6 z i0 (eb z x3 i0)) ((∀i1<mU i0,ON i0 i1 (OU z.b z.G z.W i1 (eb z x3 i1)) (Pw z i0 (JD z i0))=OU z.b z.G z.W i1 (eb z x3 i1))::(∀i1<mU i0,ON i0 i1 (OT z.b z.G z.W i1 (eb z x3 i1)) (Pv z i0 (JD z i0))=OT z.b z.G z.W i1 (eb z x3 i1))::(∀i1<mU i0,ON i0 i1 (mb z x3 i1) (xc z i0)=mb z x3 i1)::XR z i0 (∀i1<mU i0,Px i0 i1 (OO z (mb z x3 i1)) (OO z (xc z i0))=OO z (mb z x3 i1)/\(∀i2<OO z (mb z x3 i1),ON i0 i1 (JE z i2 (mb z x3 i1)) (JE z i2 (xc z i0))=JE z i2 (mb z x3 i1))) (∀i1<mU i0,Px i0 i1 (OP z (mb z x3 i1)) (OP z (xc z i0))=OP z (mb z x3 i1)/\(∀i2<OP z (mb z x3 i1),ON i0 i1 (JF z i2 (mb z x3 i1)) (JF z i2 (xc z i0))=JF z i2 (mb z x3 i1)))))))))))))) (WU z i0 (Tl z ((M5 z fz=true->Pj)::Tl z (Xt z (Ph z) ((M5 z fz=true->Pj)::Xt z (Pk z) (W7 z (dS fz=false->M5 z fz=true)))))) (WT z i0 (Jm fz (decide ((zf z)<(OS z)))) (Lh (2:Int) (VT.done (XN z [nY.n1 (qZ z)=0,13=Tn z]))))))))))))))))))))))
end
end w3t
open w3t in
theorem Vn (b:dL) (nB:Nat) (B:Nat->Int) (nO:Nat) (O:Nat->Int) (W G L:Int) (hN: ∀i,i<b.nS->b.N i<=1000) (h0:ij b nB B nO O W G L=0) (hm:J9 (iq (b.N 0) (b.X 0) (b.Y 0) G W (4*b.N 0)) (FI nB B nO O W G L)=0) (hl: ∀i,i<b.N 0->ko (b.N 0) (b.X 0) (b.Y 0) G W (i:Nat) 1 0<=4000*(me nB B nO O)):dv prog 8 [kz b,Lay.sys nB B nO O W G L] (.fC [ND (B5 b nB B nO O W G L (fZ b nB B nO O W G).toNat),YN (bPr b nB B nO O W G L),dI (bE b nB B nO O W G)]):=by
 refine dm dJ (Je b nB B nO O W G L) (V:=xt ⟨b,nB,B,nO,O,W,G,L⟩) (by kernel_rfl) ?_
 simp only [xt,x0,x1,x2,x3,x4,x5,x6,x7,x8,x9,dM,dQ,dS,dT,dU,dY,eb,eE,eH,eT,eG,eZ,fi,fR,fU,fS,fz,gi,iA,jw,iw,jk,jj,gQ,iz,mc,kB,j8,oO,mq,nH,sS,yb,wR,mU,so,xb,qJ,sn,mb,qZ,tH,zf,Gj,ze,tG,B7,M6,yL,tf,Jn,tF,Tc,M5,SK,x65,x66,x67,x68,OS,x70,WS,x72,M4,Pf,Pe,Lh,x77,M3,x79,x80,Ta,OR,OQ,M1,JB,JA,x87,Pd,Pc,Jz,Jy,Jm,OP,OO,ON,x96,Lg,SJ,SI,yM,xd,JI,B8,JH,Yl,Yk,Yj,Yi,Yh,Yg,Yf,Ye,Yd,Yc,PG,M8,JG,Yb,PF,xc,Ya,zP,zO,X9,X8,Gr,JF,JE,Tu,PE,PD,Tt,Ts,Tq,Tp,PC,X7,PB,PA,Pz,Et,Gq,M7,Py,Es,Er,Ep,X6,JD,JC,To,Px,Pw,Pv,Tn,Pu,Tm,Tl,Tk,Tj,Ti,Pt,Ps,Pr,Pq,Pp,Po,Pn,Pm,X5,X4,Pk,X3,Pj,Ph,Pg,X1,X0,Th,XZ,Tg,XY,XX,XW,XV,XU,XT,XS,XR,XQ,XP,XO,Tf,XN,XM,XL,XK,XJ,XI,XH,Te,XG,XF,XE,XD,Td,XC,XB,XA,Xz,Xy,Xx,Xw,Xv,Xu,Xt,Xs,Xr,Xq,Xp,Xo,Xn,Xm,Xl,Xk,Xj,Xi,Xh,Xg,Xf,Xe,Xd,Xc,Xb,Xa,W9,W8,W7,W6,W5,W4,WZ,WY,WX,WW,WV,WU,WT,Rf,VT.holds,dC,Sq,Int.reduceToNat,Int.toNat_one,FL,aE]
 obtain ⟨hc,hs,_,_,_,_,_⟩:=iy h0
 obtain ⟨b1,b2,b3,b4,b5⟩:=nE hc
 have hn4:=fO b2
 obtain ⟨hX,hY⟩:=eS b2
 have g1:=(jV hs).1
 refine ⟨xU b nB B nO O W G L hN h0,fun h=>absurd trivial h,fun _=>⟨?_,fun h=>absurd trivial h,fun _=>⟨by omega,⟨by omega,by omega⟩,n_c _ _ _ _ _ _ _ _ _ _ _ _ _ _ _,⟨rfl,fun j hj=>(by rw [show j=0 by omega];rfl),fun j hj=>(by rw [show j=0 by omega];rfl),fun j hj=>(by rw [show j=0 by omega];rfl),fun j hj=>(by rw [show j=0 by omega];rfl),rfl,rfl⟩,aq _,fun i hi=>⟨fun dR=> ?_,fun iG=> ?_⟩⟩⟩⟩
 ·have h:=yw b nB B nO O W G L (by omega) (by omega) hX hY g1 hs
  have Zq:J9 (iq (b.N 0) (b.X 0) (b.Y 0) G W (4*b.N 0)) (Lay.fQ nB B nO O W G L:Nat)=0:=hm
  rw [Zq] at h
  exact h
 ·skip
  have Ff:=se b nB B nO O W G L i 0 0 h0 hm (show i<b.N 0 by omega) (by omega) (by omega)
  have NW:=wE hs (ru h0 hl (show i<b.N 0 by omega) (a:=0) (e:=0) (by omega) (by omega)).1
  have UL:=se b nB B nO O W G L i 0 1 h0 hm (show i<b.N 0 by omega) (by omega) (by omega)
  have uf:=wE hs (ru h0 hl (show i<b.N 0 by omega) (a:=0) (e:=1) (by omega) (by omega)).1
  have hc2:=se b nB B nO O W G L i 1 0 h0 hm (show i<b.N 0 by omega) (by omega) (by omega)
  have oo:=wE hs (ru h0 hl (show i<b.N 0 by omega) (a:=1) (e:=0) (by omega) (by omega)).1
  have hc3:=se b nB B nO O W G L i 1 1 h0 hm (show i<b.N 0 by omega) (by omega) (by omega)
  have Gm:=wE hs (ru h0 hl (show i<b.N 0 by omega) (a:=1) (e:=1) (by omega) (by omega)).1
  have d0:=Ed h0 hl 0 i 0 hi
  have d1:=Ed h0 hl 0 i 1 hi
  exact ⟨⟨⟨by omega,by omega⟩,Ff,by omega,fun h=>⟨mn (f:=0) (c:=0) (e:=0) (x:=dX b nB B nO O W G 0 i 0) (k:=jP nB B nO O (kb b G W i 0 0)) rfl rfl (fun hx=>by omega),mB (f:=0) (c:=0) (e:=1) (by decide),mr (f:=0) (c:=0) (e:=0) (x:=dX b nB B nO O W G 0 i 0) (k:=jP nB B nO O (kb b G W i 0 0)) rfl rfl (fun hx=>by omega),mD (f:=0) (c:=0) (e:=1) (by decide)⟩,fun hn=>⟨⟨by omega,fun _=>by omega,fun _=>(by unfold dh;omega),fun _=>by omega⟩,fun h=>⟨⟨by omega,(by unfold dh;omega),by omega,by omega⟩,ya (f:=0) (c:=0) (e:=0) (x:=dX b nB B nO O W G 0 i 0) (k:=jP nB B nO O (kb b G W i 0 0)) rfl rfl rfl ⟨⟨by omega,by omega⟩,h⟩,mB (f:=0) (c:=0) (e:=1) (by decide),yd (f:=0) (c:=0) (e:=0) (x:=dX b nB B nO O W G 0 i 0) (k:=jP nB B nO O (kb b G W i 0 0)) rfl rfl rfl ⟨⟨by omega,by omega⟩,h⟩,mD (f:=0) (c:=0) (e:=1) (by decide)⟩,fun h=>⟨mn (f:=0) (c:=0) (e:=0) (x:=dX b nB B nO O W G 0 i 0) (k:=jP nB B nO O (kb b G W i 0 0)) rfl rfl (fun _=>h),mB (f:=0) (c:=0) (e:=1) (by decide),mr (f:=0) (c:=0) (e:=0) (x:=dX b nB B nO O W G 0 i 0) (k:=jP nB B nO O (kb b G W i 0 0)) rfl rfl (fun _=>h),mD (f:=0) (c:=0) (e:=1) (by decide)⟩⟩⟩,fun _ _=>⟨(by unfold dh;omega),⟨⟨⟨by omega,by omega⟩,UL,by omega,fun h=>⟨mB (f:=0) (c:=1) (e:=0) (by decide),mn (f:=0) (c:=1) (e:=1) (x:=dX b nB B nO O W G 0 i 0) (k:=jP nB B nO O (kb b G W i 0 1)) rfl rfl (fun hx=>by omega),mD (f:=0) (c:=1) (e:=0) (by decide),mr (f:=0) (c:=1) (e:=1) (x:=dX b nB B nO O W G 0 i 0) (k:=jP nB B nO O (kb b G W i 0 1)) rfl rfl (fun hx=>by omega)⟩,fun hn=>⟨⟨by omega,fun _=>by omega,fun _=>(by unfold dh;omega),fun _=>by omega⟩,fun h=>⟨⟨by omega,(by unfold dh;omega),by omega,by omega⟩,mB (f:=0) (c:=1) (e:=0) (by decide),ya (f:=0) (c:=1) (e:=1) (x:=dX b nB B nO O W G 0 i 0) (k:=jP nB B nO O (kb b G W i 0 1)) rfl rfl rfl ⟨⟨by omega,by omega⟩,h⟩,mD (f:=0) (c:=1) (e:=0) (by decide),yd (f:=0) (c:=1) (e:=1) (x:=dX b nB B nO O W G 0 i 0) (k:=jP nB B nO O (kb b G W i 0 1)) rfl rfl rfl ⟨⟨by omega,by omega⟩,h⟩⟩,fun h=>⟨mB (f:=0) (c:=1) (e:=0) (by decide),mn (f:=0) (c:=1) (e:=1) (x:=dX b nB B nO O W G 0 i 0) (k:=jP nB B nO O (kb b G W i 0 1)) rfl rfl (fun _=>h),mD (f:=0) (c:=1) (e:=0) (by decide),mr (f:=0) (c:=1) (e:=1) (x:=dX b nB B nO O W G 0 i 0) (k:=jP nB B nO O (kb b G W i 0 1)) rfl rfl (fun _=>h)⟩⟩⟩,fun _ _=>⟨(by unfold dh;omega),⟨⟨⟨by omega,by omega⟩,hc2,by omega,fun h=>⟨mn (f:=0) (c:=2) (e:=0) (x:=dX b nB B nO O W G 0 i 1) (k:=jP nB B nO O (kb b G W i 1 0)) rfl rfl (fun hx=>by omega),mB (f:=0) (c:=2) (e:=1) (by decide),mr (f:=0) (c:=2) (e:=0) (x:=dX b nB B nO O W G 0 i 1) (k:=jP nB B nO O (kb b G W i 1 0)) rfl rfl (fun hx=>by omega),mD (f:=0) (c:=2) (e:=1) (by decide)⟩,fun hn=>⟨⟨by omega,fun _=>by omega,fun _=>(by unfold dh;omega),fun _=>by omega⟩,fun h=>⟨⟨by omega,(by unfold dh;omega),by omega,by omega⟩,ya (f:=0) (c:=2) (e:=0) (x:=dX b nB B nO O W G 0 i 1) (k:=jP nB B nO O (kb b G W i 1 0)) rfl rfl rfl ⟨⟨by omega,by omega⟩,h⟩,mB (f:=0) (c:=2) (e:=1) (by decide),yd (f:=0) (c:=2) (e:=0) (x:=dX b nB B nO O W G 0 i 1) (k:=jP nB B nO O (kb b G W i 1 0)) rfl rfl rfl ⟨⟨by omega,by omega⟩,h⟩,mD (f:=0) (c:=2) (e:=1) (by decide)⟩,fun h=>⟨mn (f:=0) (c:=2) (e:=0) (x:=dX b nB B nO O W G 0 i 1) (k:=jP nB B nO O (kb b G W i 1 0)) rfl rfl (fun _=>h),mB (f:=0) (c:=2) (e:=1) (by decide),mr (f:=0) (c:=2) (e:=0) (x:=dX b nB B nO O W G 0 i 1) (k:=jP nB B nO O (kb b G W i 1 0)) rfl rfl (fun _=>h),mD (f:=0) (c:=2) (e:=1) (by decide)⟩⟩⟩,fun _ _=>⟨(by unfold dh;omega),⟨⟨⟨by omega,by omega⟩,hc3,by omega,fun h=>⟨mB (f:=0) (c:=3) (e:=0) (by decide),mn (f:=0) (c:=3) (e:=1) (x:=dX b nB B nO O W G 0 i 1) (k:=jP nB B nO O (kb b G W i 1 1)) rfl rfl (fun hx=>by omega),mD (f:=0) (c:=3) (e:=0) (by decide),mr (f:=0) (c:=3) (e:=1) (x:=dX b nB B nO O W G 0 i 1) (k:=jP nB B nO O (kb b G W i 1 1)) rfl rfl (fun hx=>by omega)⟩,fun hn=>⟨⟨by omega,fun _=>by omega,fun _=>(by unfold dh;omega),fun _=>by omega⟩,fun h=>⟨⟨by omega,(by unfold dh;omega),by omega,by omega⟩,mB (f:=0) (c:=3) (e:=0) (by decide),ya (f:=0) (c:=3) (e:=1) (x:=dX b nB B nO O W G 0 i 1) (k:=jP nB B nO O (kb b G W i 1 1)) rfl rfl rfl ⟨⟨by omega,by omega⟩,h⟩,mD (f:=0) (c:=3) (e:=0) (by decide),yd (f:=0) (c:=3) (e:=1) (x:=dX b nB B nO O W G 0 i 1) (k:=jP nB B nO O (kb b G W i 1 1)) rfl rfl rfl ⟨⟨by omega,by omega⟩,h⟩⟩,fun h=>⟨mB (f:=0) (c:=3) (e:=0) (by decide),mn (f:=0) (c:=3) (e:=1) (x:=dX b nB B nO O W G 0 i 1) (k:=jP nB B nO O (kb b G W i 1 1)) rfl rfl (fun _=>h),mD (f:=0) (c:=3) (e:=0) (by decide),mr (f:=0) (c:=3) (e:=1) (x:=dX b nB B nO O W G 0 i 1) (k:=jP nB B nO O (kb b G W i 1 1)) rfl rfl (fun _=>h)⟩⟩⟩,fun _ _=>⟨(by unfold dh;omega),by omega,by unfold dh;omega,rfl,rr (p:=fun j=>dX b nB B nO O W G 0 j 0) rfl,rr (p:=fun j=>dX b nB B nO O W G 0 j 1) rfl,rr (p:=fun j=>dF b nB B nO O W G 0 j 0) rfl,rr (p:=fun j=>dF b nB B nO O W G 0 j 1) rfl,rfl,rfl,by omega,by omega⟩⟩⟩⟩⟩⟩⟩⟩
 obtain rfl:i=b.N 0:=by omega
 refine ⟨by unfold dh;omega,by omega,⟨by omega,by omega⟩,n_c _ _ _ _ _ _ _ _ _ _ _ _ _ _ _,⟨rfl,rfl,fun j hj=>(by rw [show j=0 by omega];rfl),fun j hj=>(by rw [show j=0 by omega];rfl),rfl,fun j hj=>(by rw [show j=0 by omega];rfl),fun j hj=>(by rw [show j=0 by omega];rfl),rfl,rfl,rfl,rfl⟩,aq _,fun i hi=>⟨fun dR=> ?_,fun iG=> ?_⟩⟩
 ·skip
  have Ff:=se b nB B nO O W G L i 0 0 h0 hm (show i<b.N 0 by omega) (by omega) (by omega)
  have NW:=wE hs (ru h0 hl (show i<b.N 0 by omega) (a:=0) (e:=0) (by omega) (by omega)).1
  have UL:=se b nB B nO O W G L i 0 1 h0 hm (show i<b.N 0 by omega) (by omega) (by omega)
  have uf:=wE hs (ru h0 hl (show i<b.N 0 by omega) (a:=0) (e:=1) (by omega) (by omega)).1
  have hc2:=se b nB B nO O W G L i 1 0 h0 hm (show i<b.N 0 by omega) (by omega) (by omega)
  have oo:=wE hs (ru h0 hl (show i<b.N 0 by omega) (a:=1) (e:=0) (by omega) (by omega)).1
  have hc3:=se b nB B nO O W G L i 1 1 h0 hm (show i<b.N 0 by omega) (by omega) (by omega)
  have Gm:=wE hs (ru h0 hl (show i<b.N 0 by omega) (a:=1) (e:=1) (by omega) (by omega)).1
  have d0:=Ed h0 hl 1 i 0 hi
  have d1:=Ed h0 hl 1 i 1 hi
  exact ⟨⟨⟨by omega,by omega⟩,Ff,by omega,fun h=>⟨mn (f:=1) (c:=0) (e:=0) (x:=dX b nB B nO O W G 1 i 0) (k:=jP nB B nO O (kb b G W i 0 0)) rfl rfl (fun hx=>by omega),mB (f:=1) (c:=0) (e:=1) (by decide),mr (f:=1) (c:=0) (e:=0) (x:=dX b nB B nO O W G 1 i 0) (k:=jP nB B nO O (kb b G W i 0 0)) rfl rfl (fun hx=>by omega),mD (f:=1) (c:=0) (e:=1) (by decide)⟩,fun hn=>⟨⟨by omega,fun _=>by omega,fun _=>(by unfold dh;omega),fun _=>by omega⟩,fun h=>⟨⟨by omega,(by unfold dh;omega),by omega,by omega⟩,ya (f:=1) (c:=0) (e:=0) (x:=dX b nB B nO O W G 1 i 0) (k:=jP nB B nO O (kb b G W i 0 0)) rfl rfl rfl ⟨⟨by omega,by omega⟩,h⟩,mB (f:=1) (c:=0) (e:=1) (by decide),yd (f:=1) (c:=0) (e:=0) (x:=dX b nB B nO O W G 1 i 0) (k:=jP nB B nO O (kb b G W i 0 0)) rfl rfl rfl ⟨⟨by omega,by omega⟩,h⟩,mD (f:=1) (c:=0) (e:=1) (by decide)⟩,fun h=>⟨mn (f:=1) (c:=0) (e:=0) (x:=dX b nB B nO O W G 1 i 0) (k:=jP nB B nO O (kb b G W i 0 0)) rfl rfl (fun _=>h),mB (f:=1) (c:=0) (e:=1) (by decide),mr (f:=1) (c:=0) (e:=0) (x:=dX b nB B nO O W G 1 i 0) (k:=jP nB B nO O (kb b G W i 0 0)) rfl rfl (fun _=>h),mD (f:=1) (c:=0) (e:=1) (by decide)⟩⟩⟩,fun _ _=>⟨(by unfold dh;omega),⟨⟨⟨by omega,by omega⟩,UL,by omega,fun h=>⟨mB (f:=1) (c:=1) (e:=0) (by decide),mn (f:=1) (c:=1) (e:=1) (x:=dX b nB B nO O W G 1 i 0) (k:=jP nB B nO O (kb b G W i 0 1)) rfl rfl (fun hx=>by omega),mD (f:=1) (c:=1) (e:=0) (by decide),mr (f:=1) (c:=1) (e:=1) (x:=dX b nB B nO O W G 1 i 0) (k:=jP nB B nO O (kb b G W i 0 1)) rfl rfl (fun hx=>by omega)⟩,fun hn=>⟨⟨by omega,fun _=>by omega,fun _=>(by unfold dh;omega),fun _=>by omega⟩,fun h=>⟨⟨by omega,(by unfold dh;omega),by omega,by omega⟩,mB (f:=1) (c:=1) (e:=0) (by decide),ya (f:=1) (c:=1) (e:=1) (x:=dX b nB B nO O W G 1 i 0) (k:=jP nB B nO O (kb b G W i 0 1)) rfl rfl rfl ⟨⟨by omega,by omega⟩,h⟩,mD (f:=1) (c:=1) (e:=0) (by decide),yd (f:=1) (c:=1) (e:=1) (x:=dX b nB B nO O W G 1 i 0) (k:=jP nB B nO O (kb b G W i 0 1)) rfl rfl rfl ⟨⟨by omega,by omega⟩,h⟩⟩,fun h=>⟨mB (f:=1) (c:=1) (e:=0) (by decide),mn (f:=1) (c:=1) (e:=1) (x:=dX b nB B nO O W G 1 i 0) (k:=jP nB B nO O (kb b G W i 0 1)) rfl rfl (fun _=>h),mD (f:=1) (c:=1) (e:=0) (by decide),mr (f:=1) (c:=1) (e:=1) (x:=dX b nB B nO O W G 1 i 0) (k:=jP nB B nO O (kb b G W i 0 1)) rfl rfl (fun _=>h)⟩⟩⟩,fun _ _=>⟨(by unfold dh;omega),⟨⟨⟨by omega,by omega⟩,hc2,by omega,fun h=>⟨mn (f:=1) (c:=2) (e:=0) (x:=dX b nB B nO O W G 1 i 1) (k:=jP nB B nO O (kb b G W i 1 0)) rfl rfl (fun hx=>by omega),mB (f:=1) (c:=2) (e:=1) (by decide),mr (f:=1) (c:=2) (e:=0) (x:=dX b nB B nO O W G 1 i 1) (k:=jP nB B nO O (kb b G W i 1 0)) rfl rfl (fun hx=>by omega),mD (f:=1) (c:=2) (e:=1) (by decide)⟩,fun hn=>⟨⟨by omega,fun _=>by omega,fun _=>(by unfold dh;omega),fun _=>by omega⟩,fun h=>⟨⟨by omega,(by unfold dh;omega),by omega,by omega⟩,ya (f:=1) (c:=2) (e:=0) (x:=dX b nB B nO O W G 1 i 1) (k:=jP nB B nO O (kb b G W i 1 0)) rfl rfl rfl ⟨⟨by omega,by omega⟩,h⟩,mB (f:=1) (c:=2) (e:=1) (by decide),yd (f:=1) (c:=2) (e:=0) (x:=dX b nB B nO O W G 1 i 1) (k:=jP nB B nO O (kb b G W i 1 0)) rfl rfl rfl ⟨⟨by omega,by omega⟩,h⟩,mD (f:=1) (c:=2) (e:=1) (by decide)⟩,fun h=>⟨mn (f:=1) (c:=2) (e:=0) (x:=dX b nB B nO O W G 1 i 1) (k:=jP nB B nO O (kb b G W i 1 0)) rfl rfl (fun _=>h),mB (f:=1) (c:=2) (e:=1) (by decide),mr (f:=1) (c:=2) (e:=0) (x:=dX b nB B nO O W G 1 i 1) (k:=jP nB B nO O (kb b G W i 1 0)) rfl rfl (fun _=>h),mD (f:=1) (c:=2) (e:=1) (by decide)⟩⟩⟩,fun _ _=>⟨(by unfold dh;omega),⟨⟨⟨by omega,by omega⟩,hc3,by omega,fun h=>⟨mB (f:=1) (c:=3) (e:=0) (by decide),mn (f:=1) (c:=3) (e:=1) (x:=dX b nB B nO O W G 1 i 1) (k:=jP nB B nO O (kb b G W i 1 1)) rfl rfl (fun hx=>by omega),mD (f:=1) (c:=3) (e:=0) (by decide),mr (f:=1) (c:=3) (e:=1) (x:=dX b nB B nO O W G 1 i 1) (k:=jP nB B nO O (kb b G W i 1 1)) rfl rfl (fun hx=>by omega)⟩,fun hn=>⟨⟨by omega,fun _=>by omega,fun _=>(by unfold dh;omega),fun _=>by omega⟩,fun h=>⟨⟨by omega,(by unfold dh;omega),by omega,by omega⟩,mB (f:=1) (c:=3) (e:=0) (by decide),ya (f:=1) (c:=3) (e:=1) (x:=dX b nB B nO O W G 1 i 1) (k:=jP nB B nO O (kb b G W i 1 1)) rfl rfl rfl ⟨⟨by omega,by omega⟩,h⟩,mD (f:=1) (c:=3) (e:=0) (by decide),yd (f:=1) (c:=3) (e:=1) (x:=dX b nB B nO O W G 1 i 1) (k:=jP nB B nO O (kb b G W i 1 1)) rfl rfl rfl ⟨⟨by omega,by omega⟩,h⟩⟩,fun h=>⟨mB (f:=1) (c:=3) (e:=0) (by decide),mn (f:=1) (c:=3) (e:=1) (x:=dX b nB B nO O W G 1 i 1) (k:=jP nB B nO O (kb b G W i 1 1)) rfl rfl (fun _=>h),mD (f:=1) (c:=3) (e:=0) (by decide),mr (f:=1) (c:=3) (e:=1) (x:=dX b nB B nO O W G 1 i 1) (k:=jP nB B nO O (kb b G W i 1 1)) rfl rfl (fun _=>h)⟩⟩⟩,fun _ _=>⟨(by unfold dh;omega),by omega,by unfold dh;omega,rfl,rr (p:=fun j=>dX b nB B nO O W G 1 j 0) rfl,rr (p:=fun j=>dX b nB B nO O W G 1 j 1) rfl,rr (p:=fun j=>dF b nB B nO O W G 1 j 0) rfl,rr (p:=fun j=>dF b nB B nO O W G 1 j 1) rfl,rfl,rfl,by omega,by omega⟩⟩⟩⟩⟩⟩⟩⟩
 obtain rfl:i=b.N 0:=by omega
 refine ⟨by unfold dh;omega,n_c _ _ _ _ _ _ _ _ _ _ _ _ _ _ _,by omega,⟨fun h=>by omega,fun h=>by omega,fun h=>by omega,fun h=>by omega,fun h1 h2=>⟨h1,h2⟩⟩,fun hx=>⟨by unfold dh;omega,by omega,⟨fun h=>by omega,fun h=>by omega,fun h=>by omega,fun h=>by omega,fun h1 h2=>⟨h1,h2⟩⟩,fun hy=> ?_,fun hy=> ?_⟩,fun hx=>⟨by unfold dh;omega,by omega,⟨fun h=>by omega,fun h=>by omega,fun h=>by omega,fun h=>by omega,fun h1 h2=>⟨h1,h2⟩⟩,fun hy=> ?_,fun hy=> ?_⟩⟩
 ·have hbst:fZ b nB B nO O W G=1:=by
   unfold fZ Vk
   rw [ag (by omega),ag (by omega)]
  have hp:=As (b:=b) (nB:=nB) (B:=B) (nO:=nO) (O:=O) (W:=W) (G:=G) (f:=1) (by omega) (by omega)
  have N5:(fZ b nB B nO O W G).toNat=1:=by omega
  have gJ: ¬fZ b nB B nO O W G<0:=by omega
  refine ⟨by unfold dh;omega,by rw [by3];omega,⟨by rw [da];rfl,rfl,rfl,fun j hj=>by rw [ab (by omega)],rfl,rfl⟩,ae _,fun i hi=>⟨fun hgt=> ?_,fun hle=> ?_⟩⟩
  ·have hq:=(hp (b.N 0 - i) (by omega)).1
   exact ⟨⟨by omega,by omega,by omega,by omega,by rw [sz3];omega⟩,⟨by unfold dh;omega,by omega,by omega⟩,by unfold dh;omega,by omega,MD hi (by omega),R8 hi (by omega),by omega,by omega⟩
  ·obtain rfl:i=0:=by omega
   refine ⟨⟨rfl,fun j hj=>by rw [ag (by omega)]⟩,aq _,fun i hi=>⟨fun dR=> ?_,fun iG=> ?_⟩⟩
   ·have dR:i<b.N 0:=by omega
    obtain ⟨c1,c2,c3,c4⟩:=J1 (f:=1) hN h0 hm hl dR (by omega) (by omega)
    have UE:0<=((i:Int)+1)%(b.N 0:Int)/\((i:Int)+1)%(b.N 0:Int)<(b.N 0:Int):=⟨bm _ (by omega),br _ (by omega)⟩
    exact ⟨⟨⟨by omega,by omega⟩,dR,by unfold dh;omega,⟨by omega,by omega⟩,UE,by omega⟩,⟨c1,c2,c3⟩,c4,⟨by omega,by omega,by omega⟩,by unfold dh;omega,by omega,jW rfl,jW rfl,jW rfl,jW rfl,sA rfl,sA rfl,by omega,by omega⟩
   ·obtain rfl:i=b.N 0:=by omega
    have e1:b.N 0=bN b nB B nO O W G:=by rw [bN,ab gJ]
    rw [N5]
    exact ⟨ae _,ae _,ae _,ae _,e1,fun _ _=>rfl,e1,fun _ _=>rfl,fun _ _=>rfl,fun _ _=>rfl,fun _ _=>rfl,fun _ _=>⟨rfl,fun _ _=>rfl⟩,fun _ _=>⟨rfl,fun _ _=>rfl⟩,(ab gJ).symm,fun _ _=>rfl,(ab gJ).symm,fun _ _=>rfl,fun _ _=>rfl,(ab gJ).symm,fun _ _=>rfl,fun _ _=>rfl,(ab gJ).symm⟩
 ·have hbst:fZ b nB B nO O W G=0:=by
   unfold fZ Vk
   rw [ag (by omega),ab (by omega)]
  have hp:=As (b:=b) (nB:=nB) (B:=B) (nO:=nO) (O:=O) (W:=W) (G:=G) (f:=0) (by omega) (by omega)
  have N5:(fZ b nB B nO O W G).toNat=0:=by omega
  have gJ: ¬fZ b nB B nO O W G<0:=by omega
  refine ⟨by unfold dh;omega,by rw [by3];omega,⟨by rw [da];rfl,rfl,rfl,fun j hj=>by rw [ab (by omega)],rfl,rfl⟩,ae _,fun i hi=>⟨fun hgt=> ?_,fun hle=> ?_⟩⟩
  ·have hq:=(hp (b.N 0 - i) (by omega)).1
   exact ⟨⟨by omega,by omega,by omega,by omega,by rw [sz3];omega⟩,⟨by unfold dh;omega,by omega,by omega⟩,by unfold dh;omega,by omega,MD hi (by omega),R8 hi (by omega),by omega,by omega⟩
  ·obtain rfl:i=0:=by omega
   refine ⟨⟨rfl,fun j hj=>by rw [ag (by omega)]⟩,aq _,fun i hi=>⟨fun dR=> ?_,fun iG=> ?_⟩⟩
   ·have dR:i<b.N 0:=by omega
    obtain ⟨c1,c2,c3,c4⟩:=J1 (f:=0) hN h0 hm hl dR (by omega) (by omega)
    have UE:0<=((i:Int)+1)%(b.N 0:Int)/\((i:Int)+1)%(b.N 0:Int)<(b.N 0:Int):=⟨bm _ (by omega),br _ (by omega)⟩
    exact ⟨⟨⟨by omega,by omega⟩,dR,by unfold dh;omega,⟨by omega,by omega⟩,UE,by omega⟩,⟨c1,c2,c3⟩,c4,⟨by omega,by omega,by omega⟩,by unfold dh;omega,by omega,jW rfl,jW rfl,jW rfl,jW rfl,sA rfl,sA rfl,by omega,by omega⟩
   ·obtain rfl:i=b.N 0:=by omega
    have e1:b.N 0=bN b nB B nO O W G:=by rw [bN,ab gJ]
    rw [N5]
    exact ⟨ae _,ae _,ae _,ae _,e1,fun _ _=>rfl,e1,fun _ _=>rfl,fun _ _=>rfl,fun _ _=>rfl,fun _ _=>rfl,fun _ _=>⟨rfl,fun _ _=>rfl⟩,fun _ _=>⟨rfl,fun _ _=>rfl⟩,(ab gJ).symm,fun _ _=>rfl,(ab gJ).symm,fun _ _=>rfl,fun _ _=>rfl,(ab gJ).symm,fun _ _=>rfl,fun _ _=>rfl,(ab gJ).symm⟩
 ·have hbst:fZ b nB B nO O W G=1:=by
   unfold fZ Vk
   rw [ab (by omega),ag (by omega)]
  have hp:=As (b:=b) (nB:=nB) (B:=B) (nO:=nO) (O:=O) (W:=W) (G:=G) (f:=1) (by omega) (by omega)
  have N5:(fZ b nB B nO O W G).toNat=1:=by omega
  have gJ: ¬fZ b nB B nO O W G<0:=by omega
  refine ⟨by unfold dh;omega,by rw [by3];omega,⟨by rw [da];rfl,rfl,rfl,fun j hj=>by rw [ab (by omega)],rfl,rfl⟩,ae _,fun i hi=>⟨fun hgt=> ?_,fun hle=> ?_⟩⟩
  ·have hq:=(hp (b.N 0 - i) (by omega)).1
   exact ⟨⟨by omega,by omega,by omega,by omega,by rw [sz3];omega⟩,⟨by unfold dh;omega,by omega,by omega⟩,by unfold dh;omega,by omega,MD hi (by omega),R8 hi (by omega),by omega,by omega⟩
  ·obtain rfl:i=0:=by omega
   refine ⟨⟨rfl,fun j hj=>by rw [ag (by omega)]⟩,aq _,fun i hi=>⟨fun dR=> ?_,fun iG=> ?_⟩⟩
   ·have dR:i<b.N 0:=by omega
    obtain ⟨c1,c2,c3,c4⟩:=J1 (f:=1) hN h0 hm hl dR (by omega) (by omega)
    have UE:0<=((i:Int)+1)%(b.N 0:Int)/\((i:Int)+1)%(b.N 0:Int)<(b.N 0:Int):=⟨bm _ (by omega),br _ (by omega)⟩
    exact ⟨⟨⟨by omega,by omega⟩,dR,by unfold dh;omega,⟨by omega,by omega⟩,UE,by omega⟩,⟨c1,c2,c3⟩,c4,⟨by omega,by omega,by omega⟩,by unfold dh;omega,by omega,jW rfl,jW rfl,jW rfl,jW rfl,sA rfl,sA rfl,by omega,by omega⟩
   ·obtain rfl:i=b.N 0:=by omega
    have e1:b.N 0=bN b nB B nO O W G:=by rw [bN,ab gJ]
    rw [N5]
    exact ⟨ae _,ae _,ae _,ae _,e1,fun _ _=>rfl,e1,fun _ _=>rfl,fun _ _=>rfl,fun _ _=>rfl,fun _ _=>rfl,fun _ _=>⟨rfl,fun _ _=>rfl⟩,fun _ _=>⟨rfl,fun _ _=>rfl⟩,(ab gJ).symm,fun _ _=>rfl,(ab gJ).symm,fun _ _=>rfl,fun _ _=>rfl,(ab gJ).symm,fun _ _=>rfl,fun _ _=>rfl,(ab gJ).symm⟩
 ·have hb:fZ b nB B nO O W G= -1:=by
   unfold fZ Vk
   rw [ab (by omega),ab (by omega)]
  have gJ:fZ b nB B nO O W G<0:=by omega
  have e1:bN b nB B nO O W G=0:=by rw [bN,ag gJ]
  have e2:bE b nB B nO O W G=13:=by rw [bE,ag gJ]
  exact ⟨by unfold dh;omega,e1,e1,ag gJ,ag gJ,ag gJ,e2.symm⟩
end Go.Abs
