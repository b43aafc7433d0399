/- Contracts and what they stand on. -/
import Derived.Test.YtoinjphpfpklmaaGreatDoorK66
set_option linter.unusedVariables false
set_option linter.unusedSimpArgs false
section
set_option maxRecDepth 100000
namespace Go.Abs
open Go
def Jj (b:dJ) (nB:Nat) (B:Nat->Int) (nO:Nat) (O:Nat->Int) (W G L:Int):Int:=J6 (iN (b.N 0) (b.X 0) (b.Y 0) G W (4*b.N 0)) (Fz nB B nO O W G L)
def Ii (b:dJ) (nB:Nat) (B:Nat->Int) (nO:Nat) (O:Nat->Int) (W G L:Int):Int:=if ja b nB B nO O W G L≠0 then ja b nB B nO O W G L else if Jj b nB B nO O W G L≠0 then Jj b nB B nO O W G L else bE b nB B nO O W G
def BQ:fX:=⟨0,fun _=>0,0,fun _=>0,fun _=>0,fun _=>0,fun _=>0,fun _=>0,fun _ _=>0,fun _=>0,fun _ _=>0⟩
def xf:ua:=⟨0,fun _=>0,0,fun _=>0,fun _=>0,0,fun _=>0,fun _=>0⟩
def dM (b:dJ) (nB:Nat) (B:Nat->Int) (nO:Nat) (O:Nat->Int) (W G L:Int):fX:=if ja b nB B nO O W G L≠0\/Jj b nB B nO O W G L≠0 then BQ else FA b nB B nO O W G L (gd b nB B nO O W G).toNat
def UP (b:dJ) (nB:Nat) (B:Nat->Int) (nO:Nat) (O:Nat->Int) (W G L:Int):ua:=if ja b nB B nO O W G L≠0\/Jj b nB B nO O W G L≠0 then xf else bPr b nB B nO O W G L
noncomputable def I6 (b:dJ) (nB:Nat) (B:Nat->Int) (nO:Nat) (O:Nat->Int) (W G L:Int):eH:={ dq:=[(1,[(2,.res fun _=> .fy [.any,dI (ja b nB B nO O W G L)])]),(5,[(1,.res fun _=> .fy [.any,dI 1])])],loops:=[],dw:=[] }
theorem U1 (b:dJ) (nB:Nat) (B:Nat->Int) (nO:Nat) (O:Nat->Int) (W G L:Int) (hN: ∀i,i<b.nS->b.N i<=1000) (h0:ja b nB B nO O W G L≠0):dm prog 8 [jI b,Lay.sys nB B nO O W G L] (.fy [Hg BQ,Z3 xf,dI (ja b nB B nO O W G L)]):=by
 refine db dv (I6 b nB B nO O W G L) (V:= .da [dm prog 31 [(jI b),.agg [.di nB [fun i=>(dI (B i))],.di nO [fun i=>(dI (O i))],(dI W),(dI G),(dI L)]] (.fy [.any,(dI (ja b nB B nO O W G L))])] (.ite (ja b nB B nO O W G L !=0) (.done [BQ.1=0,BQ.3=0,xf.1=0,xf.3=0,xf.6=0,ja b nB B nO O W G L=ja b nB B nO O W G L]) (.da [dm prog 32 [.any] (.fy [.any,(dI (1:Int))]),False] (.ite ((1:Int) !=0) (.done [BQ.1=0,BQ.3=0,xf.1=0,xf.3=0,xf.6=0,(1:Int)=ja b nB B nO O W G L]) (.done [False]))))) (by kernel_rfl) ?_
 simp only [VT.holds,dt,Sq]
 exact ⟨DZ b nB B nO O W G L hN,fun _=>⟨rfl,rfl,rfl,rfl,rfl⟩,fun h=>absurd h h0⟩
noncomputable def I4 (b:dJ) (nB:Nat) (B:Nat->Int) (nO:Nat) (O:Nat->Int) (W G L:Int):eH:={ dq:=[(1,[(2,TA b nB B nO O W G L)]),(5,[(1,.res fun _=> .fy [.di (TH (iN (b.N 0) (b.X 0) (b.Y 0) G W (4*b.N 0)) (Lay.fZ nB B nO O W G L)) [fun k=>dI (qI nB B nO O W G L k)],dI (Jj b nB B nO O W G L)])])],loops:=[],dw:=[] }
namespace w3p
noncomputable section
structure Z where
 b:dJ
 nB:Nat
 B:Nat->Int
 nO:Nat
 O:Nat->Int
 W:Int
 G:Int
 L:Int
variable (z:Z) (p:Prop) (a:Int) (E:List DV) (U:VT)
abbrev x0:=Jj z.b z.nB z.B z.nO z.O z.W z.G z.L
abbrev x1:List DV:=DV.di z.nB [fun i0=>dI (z.B i0)]::DV.di z.nO [fun i0=>dI (z.O i0)]::dI z.W::dI z.G::dI z.L::E
abbrev x2:Int:=(↑(Lay.fZ z.nB z.B z.nO z.O z.W z.G z.L):Int)
abbrev x3:=VT.ite (a !=0) (VT.done [BQ.nC=0,BQ.nR=0,xf.nT=0,xf.n0=0,xf.n1=0,p]) U
abbrev x4:=DV.dN (DV.val (Value.string z.b.name)::DV.di z.b.nS [fun i0=>dI (z.b.fl i0),fun i0=>DV.di (z.b.N i0) [fun i1=>dI (z.b.X i0 i1),fun i1=>dI (z.b.Y i0 i1)]]::dI z.b.dr::DV.di z.b.nO [fun i0=>dI (z.b.O i0 0),fun i0=>dI (z.b.O i0 1),fun i0=>dI (z.b.O i0 2),fun i0=>dI (z.b.O i0 3),fun i0=>dI (z.b.O i0 4),fun i0=>dI (z.b.O i0 5)]::DV.di z.b.nB [fun i0=>dI (z.b.B i0 0),fun i0=>dI (z.b.B i0 1),fun i0=>dI (z.b.B i0 2),fun i0=>dI (z.b.B i0 3),fun i0=>dI (z.b.B i0 4),fun i0=>dI (z.b.B i0 5)]::x1 z [dI (x2 z),DV.di (Lay.iv z.nB z.B z.nO z.O z.W z.G z.L) [fun i0=>dI (Lay.fa z.nB z.B z.nO z.O i0),fun i0=>dI (Lay.ed z.nB i0),fun i0=>dB (decide (z.nB<=i0))],DV.di (z.b.N 0) [fun i0=>dI (z.b.X 0 i0),fun i0=>dI (z.b.Y 0 i0),fun i0=>dI (z.b.X 0 (ix (z.b.N 0) ((i0:Int)+1))),fun i0=>dI (z.b.Y 0 (ix (z.b.N 0) ((i0:Int)+1))),fun i0=>dI (ee (z.b.N 0) (z.b.X 0) (z.b.Y 0) (i0:Int)),fun i0=>dI (dD (z.b.N 0) (z.b.X 0) (z.b.Y 0) (i0:Int))],DV.di (z.b.N 0) [fun i0=>dI (lM (z.b.N 0) (z.b.X 0) (z.b.Y 0) i0)]])
abbrev xt:VT:=VT.da [dm prog 31 [jI z.b,DV.agg (x1 z [])] (DV.fy [x4 z,dI 0])] (x3 (0=x0 z) (0:Int) (VT.da [dm prog 32 [x4 z] (DV.fy [DV.di (TH (iN (z.b.N 0) (z.b.X 0) (z.b.Y 0) z.G z.W (4*z.b.N 0)) (x2 z)) [fun i0=>dI (qI z.nB z.B z.nO z.O z.W z.G z.L i0)],dI (x0 z)])] (x3 (rf (x0 z)) (x0 z) (VT.done [False]))))
end
end w3p
open w3p in
theorem UZ (b:dJ) (nB:Nat) (B:Nat->Int) (nO:Nat) (O:Nat->Int) (W G L:Int) (hN: ∀i,i<b.nS->b.N i<=1000) (h0:ja b nB B nO O W G L=0) (hm:Jj b nB B nO O W G L≠0):dm prog 8 [jI b,Lay.sys nB B nO O W G L] (.fy [Hg BQ,Z3 xf,dI (Jj b nB B nO O W G L)]):=by
 refine db dv (I4 b nB B nO O W G L) (V:=xt ⟨b,nB,B,nO,O,W,G,L⟩) (by kernel_rfl) ?_
 simp only [xt,x0,x1,x2,x3,x4,Rf,VT.holds,dt,Sq]
 obtain ⟨hc,hs,_,_,_,_,_⟩:=fu h0
 obtain ⟨b1,b2,b3,b4,b5⟩:=js hc
 have hn4:=fp b2
 obtain ⟨hX,hY⟩:=eB b2
 have g1:=(fP hs).1
 exact ⟨sw b nB B nO O W G L hN h0,fun h=>absurd trivial h,fun _=>⟨yj b nB B nO O W G L (by omega) (by omega) hX hY g1 hs,fun _=>⟨rfl,rfl,rfl,rfl,rfl⟩,fun h=>hm h⟩⟩
section
variable {b:dJ} {nB:Nat} {B:Nat->Int} {nO:Nat} {O:Nat->Int} {W G L:Int} {f:Nat}
theorem mnS_1 (x y:Int):mnS x y 1=if 0<=x then (if 0<=y/\y<x then y else x) else if 0<=y then y else -1:=by
 have e:mnS x y 1=if 0<=y/\((if 0<=x then x else -1)<0\/y<(if 0<=x then x else -1)) then y else if 0<=x then x else -1:=rfl
 rw [e]
 by_cases hx:0<=x
 ·rw [ah hx,ah hx]
  by_cases hy:0<=y/\y<x
  ·rw [ah hy,ah ⟨hy.1,.inr hy.2⟩]
  ·rw [ae hy,ae (by omega)]
 ·rw [ae hx,ae hx]
  by_cases hy:0<=y
  ·rw [ah hy,ah ⟨hy,.inl (by decide)⟩]
  ·rw [ae hy,ae (by omega)]
theorem ZB {b:dJ} {nB:Nat} {B:Nat->Int} {nO:Nat} {O:Nat->Int} {W G:Int} (hb: ¬gd b nB B nO O W G<0) (d0: -1<=dX b nB B nO O W G 0 (b.N 0) 0) (d1: -1<=dX b nB B nO O W G 1 (b.N 0) 1):
 (gd b nB B nO O W G).toNat<=1/\0<=dX b nB B nO O W G (gd b nB B nO O W G).toNat (b.N 0) (gd b nB B nO O W G).toNat/\mnS (dX b nB B nO O W G 0 (b.N 0) 0) (dX b nB B nO O W G 1 (b.N 0) 1) 1=dX b nB B nO O W G (gd b nB B nO O W G).toNat (b.N 0) (gd b nB B nO O W G).toNat/\
   pvL (dX b nB B nO O W G 0 (b.N 0) 0) (dX b nB B nO O W G 1 (b.N 0) 1)=dX b nB B nO O W G (gd b nB B nO O W G).toNat (b.N 0) (gd b nB B nO O W G).toNat:=by
 rw [mnS_1]
 by_cases hx:0<=dX b nB B nO O W G 0 (b.N 0) 0
 ·by_cases hy:0<=dX b nB B nO O W G 1 (b.N 0) 1/\dX b nB B nO O W G 1 (b.N 0) 1<dX b nB B nO O W G 0 (b.N 0) 0
  ·have e:gd b nB B nO O W G=1:=by rw [gd,UQ,ah hx,ah hy]
   rw [e,ah hx,ah hy,pvL,ah (.inr hy)]
   exact ⟨by decide,hy.1,rfl,rfl⟩
  ·have e:gd b nB B nO O W G=0:=by rw [gd,UQ,ah hx,ae hy]
   rw [e,ah hx,ae hy,pvL,ae (by omega)]
   exact ⟨by decide,hx,rfl,rfl⟩
 ·by_cases hy:0<=dX b nB B nO O W G 1 (b.N 0) 1
  ·have e:gd b nB B nO O W G=1:=by rw [gd,UQ,ae hx,ah hy]
   rw [e,ae hx,ah hy,pvL,ah (by omega)]
   exact ⟨by decide,hy,rfl,rfl⟩
  ·have e:gd b nB B nO O W G= -1:=by rw [gd,UQ,ae hx,ae hy]
   rw [e] at hb
   exact absurd (by decide) hb
theorem LS {n:Nat} {X Y:Nat->Int} {M:Int} (hg:j8 G W) (hM:0<=M) (h: ∀i,i<n->jG n X Y G W (i:Nat) 1 0<=M): ∀m,m<=4*n->iN n X Y G W m<=M
 |0,_=>by rw [iN];exact hM
 |m+1,hm=>by
  have h1:=LS hg hM h m (by omega)
  have h2:=h (m/4) (by omega)
  have h3:=c4 (c:=m%4) (by omega)
  have h4:=Vm (n:=n) (X:=X) (Y:=Y) hg ((m/4:Nat):Int) h3.1 h3.2
  rw [iN]
  omega
theorem GS (h0:ja b nB B nO O W G L=0):(Jf b G W (jK nB B nO O)=false->Jj b nB B nO O W G L=0/\ ∀i,i<b.N 0->jG (b.N 0) (b.X 0) (b.Y 0) G W (i:Nat) 1 0<=4000*(jK nB B nO O))/\(Jf b G W (jK nB B nO O)=true->Jj b nB B nO O W G L=8):=by
 obtain ⟨hc,hs,_,_,_,_,_⟩:=fu h0
 have g1:=(fP hs).1
 obtain ⟨ue,u1,u2⟩:=MH hs
 have hub:Fz nB B nO O W G L=jK nB B nO O:=ue
 rw [Jj,hub,J6]
 constructor
 ·intro h
  rw [Jf,an] at h
  have hl: ∀i,i<b.N 0->jG (b.N 0) (b.X 0) (b.Y 0) G W (i:Nat) 1 0<=4000*(jK nB B nO O):=fun i hi=>by
   rcases Int.lt_or_le (4000*(jK nB B nO O)) (jG (b.N 0) (b.X 0) (b.Y 0) G W (i:Nat) 1 0) with hx|hx
   ·exact absurd ⟨i,hi,hx⟩ h
   ·exact hx
  have:=LS g1 (by omega) hl (4*b.N 0) (af _)
  exact ⟨by rw [ae (by omega)],hl⟩
 ·intro h
  rw [Jf,ai] at h
  obtain ⟨i,hi,hx⟩:=h
  have:=ES (n:=b.N 0) (X:=b.X 0) (Y:=b.Y 0) (G:=G) (W:=W) hi (c:=2) (by omega)
  have e:jG (b.N 0) (b.X 0) (b.Y 0) G W i ((2/2:Nat):Int) ((2%2:Nat):Int)=jG (b.N 0) (b.X 0) (b.Y 0) G W (i:Nat) 1 0:=rfl
  rw [e] at this
  rw [ah (by omega)]
theorem Ie {x:Int} (h:0<=jM nB B nO O x):0<=x/\x%jK nB B nO O=0/\jM nB B nO O x=Lay.xY nB B nO O (x/jK nB B nO O).toNat:=by
 unfold jM Cn at h ⊢
 split at h
 ·omega
 ·rename_i hn
  exact ⟨by omega,by omega,by rw [ae hn]⟩
theorem V8 (hs:Lay.fN nB B nO O W G L=0) {len:Int} (hm:Lay.vb nB B nO O W G L len=0) (s:Bool):cl nB B nO O W G L len s=Lay.iY nB B nO O W G L len s:=by
 have eU:Lay.fZ nB B nO O W G L=Lay.fB nB B nO O (nB+nO):=by rw [Lay.fZ,ah hs]
 have eN:Lay.iv nB B nO O W G L=nB+nO:=by rw [Lay.iv,ah hs]
 rw [cl,Lay.iY,ah hm,eU,eN]
 rfl
theorem Es (h0:ja b nB B nO O W G L=0) (hl: ∀i,i<b.N 0->jG (b.N 0) (b.X 0) (b.Y 0) G W (i:Nat) 1 0<=4000*(jK nB B nO O)) (hf:f<=1) (hx:0<=dX b nB B nO O W G f (b.N 0) f) {i:Nat} (hi:i<b.N 0):
 (cl nB B nO O W G L (bL b nB B nO O W G f i) false).length<=4000/\(cl nB B nO O W G L (bL b nB B nO O W G f i) true).length<=4000/\
 UH nB B nO O (FA b nB B nO O W G L f) i=0/\10000*Yl nB B (FA b nB B nO O W G L f) i+((FA b nB B nO O W G L f).nP i:Int)=jM nB B nO O (bL b nB B nO O W G f i):=by
 obtain ⟨hc,hs,_,_,_,_,_⟩:=fu h0
 obtain ⟨ue,u1,u2⟩:=MH hs
 obtain ⟨p0,p1,p2,_⟩:=we hf hx hi
 have hle:=(qQ h0 hl hi (a:=bC b nB B nO O W G f i) (e:=bC b nB B nO O W G f (((i:Int)+1)%(b.N 0:Int)).toNat) (by omega) (by omega)).1
 have hle':bL b nB B nO O W G f i<=4000*jK nB B nO O:=hle
 obtain ⟨c1,c2,c3⟩:=Ie p2
 have eU:(Lay.fB nB B nO O (nB+nO):Int)=jK nB B nO O:=by rw [Lay.unit_eq];rfl
 have hm:Lay.vb nB B nO O W G L (bL b nB B nO O W G f i)=0:=by
  rw [Lay.vb,ah hs,ae (by omega),eU,ae (by omega)]
 have j7:Lay.j5 (Lay.fB nB B nO O (nB+nO)) (Lay.qH nB B nO O) (bL b nB B nO O W G f i)=true:=by
  rw [Lay.j5,ai,eU,Lay.Lh,<-c3]
  exact ⟨c2,p2⟩
 obtain ⟨d1,d2,d3,d4,d5,d6,d7,d8⟩:=Lay.tX hm j7
 have d9:=Lay.H5 hm j7
 rw [eU,Lay.Lh,<-c3] at d8
 rw [<-V8 hs hm] at d1 d8 d9
 rw [<-V8 hs hm] at d2 d8 d9
 refine ⟨d1,d2,d9,?_⟩
 have e:Yl nB B (FA b nB B nO O W G L f) i=((cl nB B nO O W G L (bL b nB B nO O W G f i) true).length:Int)+Lay.qt (B (nB - 1)) (cl nB B nO O W G L (bL b nB B nO O W G f i) false):=by
  rw [<-Lay.ND]
  rfl
 have e2:(FA b nB B nO O W G L f).nP i=(cl nB B nO O W G L (bL b nB B nO O W G f i) false).length:=rfl
 rw [e,e2]
 omega
theorem RV (h0:ja b nB B nO O W G L=0) (hl: ∀i,i<b.N 0->jG (b.N 0) (b.X 0) (b.Y 0) G W (i:Nat) 1 0<=4000*(jK nB B nO O)) (hf:f<=1) (hx:0<=dX b nB B nO O W G f (b.N 0) f) (hb: ¬gd b nB B nO O W G<0):
 mI (FA b nB B nO O W G L f)/\Gh b nB B nO O W G (FA b nB B nO O W G L f)=0/\pvK nB B (FA b nB B nO O W G L f)=dX b nB B nO O W G f (b.N 0) f:=by
 obtain ⟨hc,hs,_,_,_,_,_⟩:=fu h0
 have hn4:=fp (js hc).2.1
 have eN:bN b nB B nO O W G=b.N 0:=by rw [bN,ae hb]
 have e1:(FA b nB B nO O W G L f).nC=b.N 0:=eN
 have e2:(FA b nB B nO O W G L f).nR=b.N 0:=eN
 refine ⟨⟨by omega,by omega,fun i hi=> ?_⟩,?_,?_⟩
 ·obtain ⟨r1,r2,_,_⟩:=Es h0 hl hf hx (i:=i) (by omega)
  exact ⟨aV r1 (by omega),aV r2 (by omega)⟩
 ·refine (VF ⟨e1,e2⟩ ?_ fun k hk=> ?_).symm
  ·refine zp.2 fun k hk=>wg.2 ?_
   have:=(we hf hx (i:=k) (by omega)).1
   have e3:(FA b nB B nO O W G L f).C k=bC b nB B nO O W G f k:=rfl
   omega
  ·rw [Tt rfl ⟨rfl,rfl,rfl⟩]
   exact (Es h0 hl hf hx hk).2.2.1
 ·have Y3:dX b nB B nO O W G f 0 (kx b nB B nO O W G f (b.N 0 - 0)).toNat=0:=by
   have h1:=(zW (b:=b) (nB:=nB) (B:=B) (nO:=nO) (O:=O) (W:=W) (G:=G) hf hx (b.N 0) (af _)).2.1
   rw [cM] at h1
   rw [bM]
   rw [dX,Rv] at h1 ⊢
   split at h1
   ·rename_i h2;rw [ah h2]
   ·omega
  have step: ∀k,k<=b.N 0->10000*lv nB B (FA b nB B nO O W G L f) k+mf (FA b nB B nO O W G L f) k=dX b nB B nO O W G f k (kx b nB B nO O W G f (b.N 0 - k)).toNat:=by
   intro k
   induction k with
   |zero=>intro _;rw [Y3,lv,mf];omega
   |succ k ih=>
    intro hk
    have i1:=ih (by omega)
    have i2:=(we hf hx (i:=k) (by omega)).2.2.2
    have i3:=(Es h0 hl hf hx (i:=k) (by omega)).2.2.2
    rw [lv,mf,i2]
    omega
  have h:=step (b.N 0) (af _)
  rw [cM] at h
  rw [pvK,e2,h,kx]
  rw [Int.toNat_natCast]
end
section
variable {b:dJ} {nB:Nat} {B:Nat->Int} {nO:Nat} {O:Nat->Int} {W G L:Int}
theorem Mp (h:ja b nB B nO O W G L≠0\/Jj b nB B nO O W G L≠0):dM b nB B nO O W G L=BQ/\UP b nB B nO O W G L=xf:=⟨by rw [dM,ah h],by rw [UP,ah h]⟩
theorem Mq (b:dJ) (nB:Nat) (B:Nat->Int) (nO:Nat) (O:Nat->Int) (W G L:Int) (hN: ∀i,i<b.nS->b.N i<=1000):dm prog 8 [jI b,Lay.sys nB B nO O W G L] (.fy [Hg (dM b nB B nO O W G L),Z3 (UP b nB B nO O W G L),dI (Ii b nB B nO O W G L)]):=by
 by_cases h0:ja b nB B nO O W G L=0
 ·by_cases hm:Jj b nB B nO O W G L=0
  ·have hl: ∀i,i<b.N 0->jG (b.N 0) (b.X 0) (b.Y 0) G W (i:Nat) 1 0<=4000*(jK nB B nO O):=by
    cases hx:Jf b G W (jK nB B nO O) with
    |false=>exact ((GS h0).1 hx).2
    |true=>have:=(GS h0).2 hx;omega
   have h:=U0 b nB B nO O W G L hN h0 hm hl
   have e1:dM b nB B nO O W G L=FA b nB B nO O W G L (gd b nB B nO O W G).toNat:=by rw [dM,ae (by rw [h0,hm];simp)]
   have e2:UP b nB B nO O W G L=bPr b nB B nO O W G L:=by rw [UP,ae (by rw [h0,hm];simp)]
   have e3:Ii b nB B nO O W G L=bE b nB B nO O W G:=by rw [Ii,ae (by rw [h0];simp),ae (by rw [hm];simp)]
   rw [e1,e2,e3]
   exact h
  ·obtain ⟨e1,e2⟩:=Mp (.inr hm)
   have e3:Ii b nB B nO O W G L=Jj b nB B nO O W G L:=by rw [Ii,ae (by rw [h0];simp),ah hm]
   rw [e1,e2,e3]
   exact UZ b nB B nO O W G L hN h0 hm
 ·obtain ⟨e1,e2⟩:=Mp (.inl h0)
  have e3:Ii b nB B nO O W G L=ja b nB B nO O W G L:=by rw [Ii,ah h0]
  rw [e1,e2,e3]
  exact U1 b nB B nO O W G L hN h0
end
end Go.Abs
end
section
set_option maxRecDepth 100000
namespace Go.Abs
open Go
section
variable {b b':dJ} {nB:Nat} {B:Nat->Int} {nO:Nat} {O:Nat->Int} {W G L:Int}
end
section
variable {n:Nat} {X Y:Nat->Int}
end
section
variable {b:dJ} {nB:Nat} {B:Nat->Int} {nO:Nat} {O:Nat->Int} {W G L:Int}
end
section
variable {b:dJ} {nB:Nat} {B:Nat->Int} {nO:Nat} {O:Nat->Int} {W G L:Int}
theorem sW (h:Ii b nB B nO O W G L=0):ja b nB B nO O W G L=0/\(∀i,i<b.N 0->jG (b.N 0) (b.X 0) (b.Y 0) G W (i:Nat) 1 0<=4000*(jK nB B nO O))/\mI (dM b nB B nO O W G L)/\Gh b nB B nO O W G (dM b nB B nO O W G L)=0/\
 dM b nB B nO O W G L=FA b nB B nO O W G L (gd b nB B nO O W G).toNat/\(gd b nB B nO O W G).toNat<=1/\0<=dX b nB B nO O W G (gd b nB B nO O W G).toNat (b.N 0) (gd b nB B nO O W G).toNat/\ ¬gd b nB B nO O W G<0:=by
 by_cases h0:ja b nB B nO O W G L=0
 ·by_cases hm:Jj b nB B nO O W G L=0
  ·have hl: ∀i,i<b.N 0->jG (b.N 0) (b.X 0) (b.Y 0) G W (i:Nat) 1 0<=4000*(jK nB B nO O):=by
    cases hx:Jf b G W (jK nB B nO O) with
    |false=>exact ((GS h0).1 hx).2
    |true=>have:=(GS h0).2 hx;omega
   have hn: ¬(ja b nB B nO O W G L≠0\/Jj b nB B nO O W G L≠0):=by rw [h0,hm];simp
   rw [Ii,ae (by rw [h0];simp),ae (by rw [hm];simp)] at h
   have hb: ¬gd b nB B nO O W G<0:=fun hx=>by rw [bE,ah hx] at h;exact absurd h (by decide)
   have d0:=DN h0 hl 0 (b.N 0) 0 (af _)
   have d1:=DN h0 hl 1 (b.N 0) 1 (af _)
   obtain ⟨Nq,hf2,_,_⟩:=ZB (fun h=>hb h) d0.1 d1.1
   have e1:dM b nB B nO O W G L=FA b nB B nO O W G L (gd b nB B nO O W G).toNat:=by rw [dM,ae hn]
   obtain ⟨k1,k2,_⟩:=RV h0 hl Nq hf2 hb
   rw [e1]
   exact ⟨h0,hl,k1,k2,rfl,Nq,hf2,hb⟩
  ·rw [Ii,ae (by rw [h0];simp),ah hm] at h
   exact absurd h hm
 ·rw [Ii,ah h0] at h
  exact absurd h h0
end
end Go.Abs
end
section
namespace Go.Abs.Geo
def sm (f:Nat->Int):Nat->Int
 |0=>0
 |n+1=>sm f n+f n
theorem fV {f g:Nat->Int}: ∀{n:Nat},(∀i,i<n->f i=g i)->sm f n=sm g n
 |0,_=>rfl
 |n+1,h=>by rw [sm,sm,fV fun i hi=>h i (by omega),h n (by omega)]
theorem JQ (f g:Nat->Int): ∀n,sm (fun i=>f i+g i) n=sm f n+sm g n
 |0=>rfl
 |n+1=>by rw [sm,sm,sm,JQ f g n];omega
theorem gM: ∀n,sm (fun _=>0) n=0
 |0=>rfl
 |n+1=>by rw [sm,gM n];rfl
def pZ (x y:Int):Int:=
 if y=0 then (if 0<x then 0 else 4)
 else if 0<y then (if 0<x then 1 else if x=0 then 2 else 3)
 else (if x<0 then 5 else if x=0 then 6 else 7)
def del (x y x' y':Int):Int:=if (pZ x' y' - pZ x y)%8<=3 then (pZ x' y' - pZ x y)%8 else (pZ x' y' - pZ x y)%8 - 8
def nz (x y:Int):Prop:=x≠0\/y≠0
def qu (x y x' y':Int):Prop:=(x'=x/\(y'=y+1\/y'=y - 1))\/(y'=y/\(x'=x+1\/x'=x - 1))
theorem A5 {x y x' y':Int} (h:nz x y) (h':nz x' y') (hn:qu x y x' y'): -1<=del x y x' y'/\del x y x' y'<=1:=by
 have key:(pZ x' y' - pZ x y)%8=0\/(pZ x' y' - pZ x y)%8=1\/(pZ x' y' - pZ x y)%8=7:=by
  unfold nz at h h'
  unfold qu at hn
  unfold pZ
  (repeat' split)<;>omega
 unfold del
 split<;>omega
theorem vR (x y x' y':Int): ∃m:Int,pZ x' y' - pZ x y=del x y x' y'+8*m:=by
 refine ⟨if (pZ x' y' - pZ x y)%8<=3 then (pZ x' y' - pZ x y)/8 else (pZ x' y' - pZ x y)/8+1,?_⟩
 unfold del
 split<;>omega
theorem Zt {a1 a2 b1 b2 c1 c2 d1 d2:Int} (ha:nz a1 a2) (hb:nz b1 b2) (hc:nz c1 c2) (hd:nz d1 d2)
 (ab:qu a1 a2 b1 b2) (bd:qu b1 b2 d1 d2) (ac:qu a1 a2 c1 c2) (cd:qu c1 c2 d1 d2):
 del a1 a2 b1 b2+del b1 b2 d1 d2=del a1 a2 c1 c2+del c1 c2 d1 d2:=by
 have h1:=A5 ha hb ab
 have h2:=A5 hb hd bd
 have h3:=A5 ha hc ac
 have h4:=A5 hc hd cd
 obtain ⟨m1,e1⟩:=vR a1 a2 b1 b2
 obtain ⟨m2,e2⟩:=vR b1 b2 d1 d2
 obtain ⟨m3,e3⟩:=vR a1 a2 c1 c2
 obtain ⟨m4,e4⟩:=vR c1 c2 d1 d2
 omega
theorem LO {x y:Int} (h:nz x y):pZ (-x) (-y)=pZ x y+4\/pZ (-x) (-y)=pZ x y - 4:=by
 unfold nz at h
 unfold pZ
 (repeat' split)<;>omega
theorem Uz {x y x' y':Int} (h:nz x y) (h':nz x' y'):del (-x) (-y) (-x') (-y')=del x y x' y':=by
 have h1:=LO h
 have h2:=LO h'
 have e:(pZ (-x') (-y') - pZ (-x) (-y))%8=(pZ x' y' - pZ x y)%8:=by omega
 unfold del
 rw [e]
structure Loop (N:Nat) (x y:Nat->Int):Prop where
 wL:4<=N
 step: ∀t,qu (x t) (y t) (x (t+1)) (y (t+1))
 px: ∀t,x (t+N)=x t
 py: ∀t,y (t+N)=y t
 inj: ∀s t,s<t->t<N->x s≠x t\/y s≠y t
section
variable {N:Nat} {x y:Nat->Int}
theorem Loop.apart (L:Loop N x y) {s t:Nat} (h:s<t) (h1:t<s+N) (h2:s<=N):nz (x t - x s) (y t - y s):=by
 have hb:=L.wL
 unfold nz
 have key:x s≠x t\/y s≠y t:=by
  by_cases h3:t<N
  ·exact L.inj s t h h3
  ·obtain ⟨u,rfl⟩: ∃u,t=u+N:=⟨t - N,by omega⟩
   rw [L.px,L.py]
   by_cases h4:s<N
   ·have:=L.inj u s (by omega) h4
    omega
   ·obtain rfl:s=N:=by omega
    have e1:=L.px 0
    have e2:=L.py 0
    rw [Nat.zero_add] at e1 e2
    rw [e1,e2]
    exact L.inj 0 u (by omega) (by omega)
 omega
def rr (x y:Nat->Int) (i j:Nat):Int:=del (x j - x i) (y j - y i) (x (j+1) - x i) (y (j+1) - y i)
def dd (x y:Nat->Int) (i j:Nat):Int:=del (x j - x i) (y j - y i) (x j - x (i+1)) (y j - y (i+1))
def wS (x y:Nat->Int) (i:Nat):Int:=rr x y i (i+1)+dd x y i (i+2)
def bb (x y:Nat->Int) (i:Nat):Nat->Int:=sm fun m=>rr x y i (i+1+m)
theorem Loop.zA (L:Loop N x y) {i:Nat} (hi:i<N): ∀{k:Nat},k+2<N->bb x y i (k+1)+dd x y i (i+2+k)=wS x y i+bb x y (i+1) k
 |0,_=>by
  show 0+rr x y i (i+1+0)+_=wS x y i+0
  simp only [wS,Nat.add_zero];omega
 |k+1,hk=>by
  have ih:=Loop.zA L hi (k:=k) (by omega)
  have e1:bb x y i (k+1+1)=bb x y i (k+1)+rr x y i (i+1+(k+1)):=rfl
  have e2:bb x y (i+1) (k+1)=bb x y (i+1) k+rr x y (i+1) (i+1+1+k):=rfl
  have f1:i+1+(k+1)=i+2+k:=by omega
  have f2:i+1+1+k=i+2+k:=by omega
  have f3:i+2+(k+1)=i+2+k+1:=by omega
  rw [e1,e2,f1,f2,f3]
  have s1:=L.step (i+2+k)
  have s2:=L.step i
  have sq:=Zt (L.apart (s:=i) (t:=i+2+k) (by omega) (by omega) (by omega)) (L.apart (s:=i) (t:=i+2+k+1) (by omega) (by omega) (by omega))
   (L.apart (s:=i+1) (t:=i+2+k) (by omega) (by omega) (by omega)) (L.apart (s:=i+1) (t:=i+2+k+1) (by omega) (by omega) (by omega))
   (by unfold qu at*;omega) (by unfold qu at*;omega) (by unfold qu at*;omega) (by unfold qu at*;omega)
  unfold rr dd at*
  omega
theorem Loop.turns (L:Loop N x y):sm (wS x y) (N - 1)=2*bb x y 0 (N - 2)+dd x y 0 (N - 1)+rr x y 1 (N - 1):=by
 have hb:=L.wL
 have h0:=L.zA (i:=0) (by omega) (k:=N - 3) (by omega)
 rw [show N - 3+1=N - 2 by omega,show 0+2+(N - 3)=N - 1 by omega,Nat.zero_add] at h0
 have hD: ∀i,1<=i->i<N - 1->dd x y i N=rr x y 0 i:=fun i h1 h2=>by
  have e1:=L.px 0
  have e2:=L.py 0
  rw [Nat.zero_add] at e1 e2
  have:=Uz (L.apart (s:=0) (t:=i) (by omega) (by omega) (by omega)) (L.apart (s:=0) (t:=i+1) (by omega) (by omega) (by omega))
  rw [dd,rr,e1,e2,<-this]
  congr 1<;>omega
 have hs: ∀m,m+2<=N->sm (wS x y) (m+1)+bb x y (m+1) (N - m - 2)=wS x y 0+bb x y 1 (N - 2)+(bb x y 0 m):=fun m=>by
  induction m with
  |zero=>
   intro _
   show 0+wS x y 0+bb x y 1 (N - 0 - 2)=_+0
   rw [show N - 0 - 2=N - 2 by omega];omega
  |succ m ih=>
   intro hm
   have ih:=ih (by omega)
   have ht:=L.zA (i:=m+1) (by omega) (k:=N - m - 3) (by omega)
   rw [show N - m - 3+1=N - m - 2 by omega,show m+1+2+(N - m - 3)=N by omega,hD (m+1) (by omega) (by omega)] at ht
   have e1:sm (wS x y) (m+1+1)=sm (wS x y) (m+1)+wS x y (m+1):=rfl
   have e2:bb x y 0 (m+1)=bb x y 0 m+rr x y 0 (0+1+m):=rfl
   rw [e1,e2,show 0+1+m=m+1 by omega,show N - (m+1) - 2=N - m - 3 by omega]
   omega
 have h9:=hs (N - 2) (by omega)
 rw [show N - 2+1=N - 1 by omega,show N - (N - 2) - 2=0 by omega] at h9
 have e3:bb x y (N - 1) 0=0:=rfl
 have e4:bb x y 1 (N - 2)=bb x y 1 (N - 3)+rr x y 1 (1+1+(N - 3)):=by
  rw [show N - 2=N - 3+1 by omega];rfl
 rw [show 1+1+(N - 3)=N - 1 by omega] at e4
 omega
def Low (N:Nat) (x y:Nat->Int):Prop:= ∀t,t<N->y 0<y t\/(y t=y 0/\x 0<=x t)
theorem Loop.seen (L:Loop N x y) (hl:Low N x y): ∀k,k+1<N->bb x y 0 k=pZ (x (k+1) - x 0) (y (k+1) - y 0) - pZ (x 1 - x 0) (y 1 - y 0)
 |0,_=>by show (0:Int)=_;rw [Nat.zero_add];omega
 |k+1,hk=>by
  have ih:=Loop.seen L hl k (by omega)
  have e:bb x y 0 (k+1)=bb x y 0 k+rr x y 0 (0+1+k):=rfl
  rw [e,ih,show 0+1+k=k+1 by omega]
  have a1:=L.apart (s:=0) (t:=k+1) (by omega) (by omega) (by omega)
  have a2:=L.apart (s:=0) (t:=k+1+1) (by omega) (by omega) (by omega)
  have s1:=L.step (k+1)
  have l1:=hl (k+1) (by omega)
  have l2:=hl (k+1+1) (by omega)
  have b:=A5 a1 a2 (by unfold qu at*;omega)
  have up: ∀u v:Int,nz u v->(0<v\/(v=0/\0<=u))->0<=pZ u v/\pZ u v<=3:=fun u v h1 h2=>by
   unfold nz at h1
   unfold pZ
   (repeat' split)<;>omega
  have u1:=up _ _ a1 (by omega)
  have u2:=up _ _ a2 (by omega)
  obtain ⟨m,hm⟩:=vR (x (k+1) - x 0) (y (k+1) - y 0) (x (k+1+1) - x 0) (y (k+1+1) - y 0)
  have er:rr x y 0 (k+1)=del (x (k+1) - x 0) (y (k+1) - y 0) (x (k+1+1) - x 0) (y (k+1+1) - y 0):=rfl
  rw [er]
  omega
theorem Loop.full (L:Loop N x y) (hl:Low N x y):
 (x 1=x 0+1/\y 1=y 0/\x (N - 1)=x 0/\y (N - 1)=y 0+1/\sm (wS x y) N=8)\/
 (x 1=x 0/\y 1=y 0+1/\x (N - 1)=x 0+1/\y (N - 1)=y 0/\sm (wS x y) N= -8):=by
 have hb:=L.wL
 have ht:=L.turns
 have hs:=L.seen hl (N - 2) (by omega)
 rw [show N - 2+1=N - 1 by omega] at hs
 have eN:sm (wS x y) N=sm (wS x y) (N - 1)+wS x y (N - 1):=by
  obtain ⟨m,rfl⟩: ∃m,N=m+1:=⟨N - 1,by omega⟩
  rfl
 have s0:=L.step 0
 rw [Nat.zero_add] at s0
 have s1:=L.step (N - 1)
 rw [show N - 1+1=N by omega] at s1
 have x0:=L.px 0
 have y0:=L.py 0
 have x1:=L.px 1
 have y1:=L.py 1
 rw [Nat.zero_add] at x0 y0
 rw [Nat.add_comm] at x1 y1
 have l1:=hl 1 (by omega)
 have l2:=hl (N - 1) (by omega)
 have ap:=L.apart (s:=1) (t:=N - 1) (by omega) (by omega) (by omega)
 unfold nz at ap
 unfold qu at s0 s1
 rw [x0,y0] at s1
 have eT:wS x y (N - 1)=del (x 0 - x (N - 1)) (y 0 - y (N - 1)) (x 1 - x (N - 1)) (y 1 - y (N - 1))+del (x 1 - x (N - 1)) (y 1 - y (N - 1)) (x 1 - x 0) (y 1 - y 0):=by
  rw [wS,rr,dd,show N - 1+1=N by omega,show N - 1+2=N+1 by omega,x0,y0,x1,y1]
 have eD:dd x y 0 (N - 1)=del (x (N - 1) - x 0) (y (N - 1) - y 0) (x (N - 1) - x 1) (y (N - 1) - y 1):=rfl
 have eR:rr x y 1 (N - 1)=del (x (N - 1) - x 1) (y (N - 1) - y 1) (x 0 - x 1) (y 0 - y 1):=by
  rw [rr,show N - 1+1=N by omega,x0,y0]
 rw [eN,eT,ht,hs,eD,eR]
 clear ht hs eN eT eD eR
 have hc:(x 1=x 0+1/\y 1=y 0/\x (N - 1)=x 0/\y (N - 1)=y 0+1)\/(x 1=x 0/\y 1=y 0+1/\x (N - 1)=x 0+1/\y (N - 1)=y 0):=by omega
 rcases hc with ⟨e1,e2,e3,e4⟩|⟨e1,e2,e3,e4⟩
 ·refine Or.inl ⟨e1,e2,e3,e4,?_⟩
  rw [e1,e2,e3,e4]
  have z1:x 0 - x 0=0:=by omega
  have z2:y 0+1 - y 0=1:=by omega
  have z3:x 0 - (x 0+1)= -1:=by omega
  have z4:y 0 - y 0=0:=by omega
  have z5:y 0 - (y 0+1)= -1:=by omega
  have z6:x 0+1 - x 0=1:=by omega
  rw [z1,z2,z3,z4,z5,z6]
  decide
 ·refine Or.inr ⟨e1,e2,e3,e4,?_⟩
  rw [e1,e2,e3,e4]
  have z1:x 0 - x 0=0:=by omega
  have z2:y 0+1 - y 0=1:=by omega
  have z3:x 0 - (x 0+1)= -1:=by omega
  have z4:y 0 - y 0=0:=by omega
  have z5:y 0 - (y 0+1)= -1:=by omega
  have z6:x 0+1 - x 0=1:=by omega
  rw [z1,z2,z3,z4,z5,z6]
  decide
end
end Go.Abs.Geo
end
section
namespace Go.Abs.Geo
def ln (X Y:Nat->Int) (i:Nat):Nat:=(X (i+1) - X i).natAbs+(Y (i+1) - Y i).natAbs
def jJ (X:Nat->Int) (i r:Nat):Int:=if X i<X (i+1) then X i+r else if X (i+1)<X i then X i - r else X i
def sg (z:Int):Int:=if 0<z then 1 else if z<0 then -1 else 0
structure Poly (n:Nat) (X Y:Nat->Int):Prop where
 wL:4<=n
 px: ∀i,X (i+n)=X i
 py: ∀i,Y (i+n)=Y i
 hv: ∀i,(X i≠X (i+1)/\Y i=Y (i+1)/\X (i+1)=X (i+2)/\Y (i+1)≠Y (i+2))\/(X i=X (i+1)/\Y i≠Y (i+1)/\X (i+1)≠X (i+2)/\Y (i+1)=Y (i+2))
 far: ∀i j,i+1<j->j+1<i+n-> ¬(min (X i) (X (i+1))<=max (X j) (X (j+1))/\min (X j) (X (j+1))<=max (X i) (X (i+1))/\min (Y i) (Y (i+1))<=max (Y j) (Y (j+1))/\min (Y j) (Y (j+1))<=max (Y i) (Y (i+1)))
def kz (l:Nat->Nat):Nat->Nat
 |0=>0
 |i+1=>kz l i+l i
def st (l:Nat->Nat):Nat->Nat×Nat
 |0=>(0,0)
 |t+1=>if (st l t).2+1<l (st l t).1 then ((st l t).1,(st l t).2+1) else ((st l t).1+1,0)
theorem JM {l:Nat->Nat} (hl: ∀i,0<l i): ∀t,t=kz l (st l t).1+(st l t).2/\(st l t).2<l (st l t).1
 |0=>⟨rfl,hl 0⟩
 |t+1=>by
  have ih:=JM hl t
  rw [st]
  split
  ·rename_i h
   exact ⟨by show t+1=kz l (st l t).1+((st l t).2+1);omega,h⟩
  ·rename_i h
   refine ⟨?_,hl _⟩
   show t+1=kz l (st l t).1+l (st l t).1+0
   omega
theorem Ec {l:Nat->Nat} {i j:Nat} (h:i<=j):kz l i<=kz l j:=by
 induction h with
 |refl=>exact Nat.le_refl _
 |step _ ih=>exact Nat.le_trans ih (Nat.le_add_right _ _)
theorem Pb {l:Nat->Nat} {i j r q:Nat} (hr:r<l i) (hq:q<l j) (h:kz l i+r=kz l j+q):i=j/\r=q:=by
 rcases Nat.lt_trichotomy i j with h1|h1|h1
 ·have:=Ec (l:=l) (i:=i+1) (j:=j) h1
  have e:kz l (i+1)=kz l i+l i:=rfl
  omega
 ·subst h1;omega
 ·have:=Ec (l:=l) (i:=j+1) (j:=i) h1
  have e:kz l (j+1)=kz l j+l j:=rfl
  omega
theorem Vf {l:Nat->Nat} (hl: ∀i,0<l i) {i r:Nat} (hr:r<l i):st l (kz l i+r)=(i,r):=by
 have h:=JM hl (kz l i+r)
 obtain ⟨e1,e2⟩:=Pb hr h.2 h.1
 exact Prod.ext e1.symm e2.symm
theorem Eb {l:Nat->Nat} {n:Nat} (hp: ∀i,l (i+n)=l i): ∀i,kz l (i+n)=kz l i+kz l n
 |0=>by rw [Nat.zero_add];show _=0+_;omega
 |i+1=>by
  rw [show i+1+n=i+n+1 by omega,kz,kz,Eb hp i,hp];omega
theorem Pc {l:Nat->Nat} (hl: ∀i,0<l i): ∀i,i<=kz l i
 |0=>Nat.le_refl _
 |i+1=>by have:=Pc hl i;have:=hl i;rw [kz];omega
def gx (X Y:Nat->Int) (t:Nat):Int:=jJ X (st (ln X Y) t).1 (st (ln X Y) t).2
def gy (X Y:Nat->Int) (t:Nat):Int:=jJ Y (st (ln X Y) t).1 (st (ln X Y) t).2
theorem R2 (X:Nat->Int) {i r:Nat} (h:X i=X (i+1)\/(r:Int)<=(X (i+1) - X i).natAbs):min (X i) (X (i+1))<=jJ X i r/\jJ X i r<=max (X i) (X (i+1)):=by
 unfold jJ
 (repeat' split)<;>omega
section
variable {n:Nat} {X Y:Nat->Int}
theorem Poly.pos (P:Poly n X Y) (i:Nat):0<ln X Y i:=by
 have:=P.hv i
 unfold ln
 omega
theorem Poly.J8 (P:Poly n X Y) (i:Nat):ln X Y (i+n)=ln X Y i:=by
 unfold ln
 rw [show i+n+1=i+1+n by omega,P.px,P.px,P.py,P.py]
theorem FB (P:Poly n X Y) {i r:Nat} (hr:r<=ln X Y i):(min (X i) (X (i+1))<=jJ X i r/\jJ X i r<=max (X i) (X (i+1)))/\(min (Y i) (Y (i+1))<=jJ Y i r/\jJ Y i r<=max (Y i) (Y (i+1))):=by
 have hv:=P.hv i
 unfold ln at hr
 exact ⟨R2 X (by omega),R2 Y (by omega)⟩
theorem DE (P:Poly n X Y) {i r:Nat} (hr:r<=ln X Y i):gx X Y (kz (ln X Y) i+r)=jJ X i r/\gy X Y (kz (ln X Y) i+r)=jJ Y i r:=by
 rcases Nat.lt_or_ge r (ln X Y i) with h|h
 ·unfold gx gy
  rw [Vf P.pos h]
  exact ⟨rfl,rfl⟩
 ·obtain rfl:r=ln X Y i:=by omega
  have e:kz (ln X Y) i+ln X Y i=kz (ln X Y) (i+1)+0:=rfl
  unfold gx gy
  rw [e,Vf P.pos (P.pos (i+1))]
  show jJ X (i+1) 0=jJ X i (ln X Y i)/\jJ Y (i+1) 0=jJ Y i (ln X Y i)
  have:=P.hv i
  unfold jJ ln
  constructor<;>(repeat' split)<;>omega
theorem rY (P:Poly n X Y) (t:Nat): ∃i r,t=kz (ln X Y) i+r/\r<ln X Y i:=⟨_,_,JM P.pos t⟩
set_option maxHeartbeats 2000000 in
theorem Poly.loop (P:Poly n X Y):Loop (kz (ln X Y) n) (gx X Y) (gy X Y) where
 wL:=Nat.le_trans P.wL (Pc P.pos n)
 step t:=by
  obtain ⟨i,r,rfl,hr⟩:=rY P t
  obtain ⟨e1,e2⟩:=DE P (Nat.le_of_lt hr)
  obtain ⟨e3,e4⟩:=DE P (show r+1<=ln X Y i by omega)
  rw [Nat.add_assoc,e1,e2,e3,e4]
  have:=P.hv i
  unfold qu jJ
  (repeat' split)<;>omega
 px t:=by
  obtain ⟨i,r,rfl,hr⟩:=rY P t
  have e:=Eb P.J8 i
  rw [show kz (ln X Y) i+r+kz (ln X Y) n=kz (ln X Y) (i+n)+r by omega,(DE P (Nat.le_of_lt hr)).1,(DE P (show r<=ln X Y (i+n) by rw [P.J8];omega)).1]
  unfold jJ
  rw [show i+n+1=i+1+n by omega,P.px,P.px]
 py t:=by
  obtain ⟨i,r,rfl,hr⟩:=rY P t
  have e:=Eb P.J8 i
  rw [show kz (ln X Y) i+r+kz (ln X Y) n=kz (ln X Y) (i+n)+r by omega,(DE P (Nat.le_of_lt hr)).2,(DE P (show r<=ln X Y (i+n) by rw [P.J8];omega)).2]
  unfold jJ
  rw [show i+n+1=i+1+n by omega,P.py,P.py]
 inj s t pF ht:=by
  obtain ⟨i,r,rfl,hr⟩:=rY P s
  obtain ⟨j,q,rfl,hq⟩:=rY P t
  rw [(DE P (Nat.le_of_lt hr)).1,(DE P (Nat.le_of_lt hr)).2,(DE P (Nat.le_of_lt hq)).1,(DE P (Nat.le_of_lt hq)).2]
  have hj:j<n:=by
   rcases Nat.lt_or_ge j n with h|h
   ·exact h
   ·have:=Ec (l:=ln X Y) h;omega
  have L6:i<=j:=by
   rcases Nat.lt_or_ge j i with h|h
   ·have:=Ec (l:=ln X Y) (i:=j+1) h
    have e:kz (ln X Y) (j+1)=kz (ln X Y) j+ln X Y j:=rfl
    omega
   ·exact h
  have hb:=P.wL
  have v1:=P.hv i
  have v2:=P.hv j
  by_cases h1:i=j
  ·subst h1
   unfold jJ
   (repeat' split)<;>omega
  by_cases h2:j=i+1
  ·subst h2
   have q1:i+1+1=i+2:=rfl
   unfold ln at hr
   unfold jJ
   simp only [q1] at v2 ⊢
   (repeat' split)<;>omega
  by_cases h3:i=0/\j=n - 1
  ·obtain ⟨rfl,rfl⟩:=h3
   have a1:=P.px 0
   have a2:=P.py 0
   have a3:=P.px 1
   have a4:=P.py 1
   rw [Nat.zero_add] at a1 a2
   rw [Nat.add_comm] at a3 a4
   rw [show n - 1+2=n+1 by omega,show n - 1+1=n by omega] at v2
   unfold ln at hr hq
   rw [show n - 1+1=n by omega] at hq
   unfold jJ
   rw [show n - 1+1=n by omega]
   simp only [Nat.zero_add] at*
   (repeat' split)<;>omega
  ·have hf:=P.far i j (by omega) (by omega)
   have b1:=FB P (Nat.le_of_lt hr)
   have b2:=FB P (Nat.le_of_lt hq)
   clear v1 v2 hr hq pF ht
   generalize jJ X i r=u1 at*
   generalize jJ X j q=u2 at*
   generalize jJ Y i r=u3 at*
   generalize jJ Y j q=u4 at*
   generalize hA:min (X i) (X (i+1))=A at*
   generalize hB:max (X i) (X (i+1))=B at*
   generalize hC:min (Y i) (Y (i+1))=C at*
   generalize hD:max (Y i) (Y (i+1))=D at*
   generalize hA':min (X j) (X (j+1))=A' at*
   generalize hB':max (X j) (X (j+1))=B' at*
   generalize hC':min (Y j) (Y (j+1))=C' at*
   generalize hD':max (Y j) (Y (j+1))=D' at*
   clear hA hB hC hD hA' hB' hC' hD'
   omega
def cr (X Y:Nat->Int) (i:Nat):Int:=
 del (sg (X (i+1) - X i)) (sg (Y (i+1) - Y i)) (sg (X (i+2) - X (i+1))+sg (X (i+1) - X i)) (sg (Y (i+2) - Y (i+1))+sg (Y (i+1) - Y i))+
 del (sg (X (i+2) - X (i+1))+sg (X (i+1) - X i)) (sg (Y (i+2) - Y (i+1))+sg (Y (i+1) - Y i)) (sg (X (i+2) - X (i+1))) (sg (Y (i+2) - Y (i+1)))
theorem wW (f:Nat->Int) (a:Nat): ∀b,sm f (a+b)=sm f a+sm (fun r=>f (a+r)) b
 |0=>by show sm f a=sm f a+0;omega
 |b+1=>by
  show sm f (a+b)+f (a+b)=_+(sm _ b+f (a+b))
  rw [wW f a b];omega
theorem XW (P:Poly n X Y) {i r:Nat} (hr:r+1<ln X Y i):wS (gx X Y) (gy X Y) (kz (ln X Y) i+r)=0:=by
 obtain ⟨e1,e2⟩:=DE P (show r<=ln X Y i by omega)
 obtain ⟨e3,e4⟩:=DE P (show r+1<=ln X Y i by omega)
 obtain ⟨e5,e6⟩:=DE P (show r+2<=ln X Y i by omega)
 unfold wS rr dd
 rw [show kz (ln X Y) i+r+1+1=kz (ln X Y) i+(r+2) by omega,show kz (ln X Y) i+r+1=kz (ln X Y) i+(r+1) by omega,e1,e2,e3,e4,e5,e6]
 have:=P.hv i
 have same: ∀a b c d:Int,(∃k:Int,0<k/\(a=0/\c=0/\((0<b/\0<d)\/(b<0/\d<0))\/b=0/\d=0/\((0<a/\0<c)\/(a<0/\c<0))))->del a b c d=0:=fun a b c d ⟨k,_,h⟩=>by
  have e:pZ a b=pZ c d:=by
   unfold pZ
   (repeat' split)<;>omega
  unfold del;rw [e];simp
 have h1: ∀z:Nat,(X i<X (i+1)/\jJ X i z=X i+z/\jJ Y i z=Y i)\/(X (i+1)<X i/\jJ X i z=X i - z/\jJ Y i z=Y i)\/(Y i<Y (i+1)/\jJ Y i z=Y i+z/\jJ X i z=X i)\/(Y (i+1)<Y i/\jJ Y i z=Y i - z/\jJ X i z=X i):=fun z=>by
  unfold jJ
  (repeat' split)<;>omega
 have z0:=h1 r
 have z1:=h1 (r+1)
 have z2:=h1 (r+2)
 rw [same _ _ _ _ ⟨1,by omega,by omega⟩,same _ _ _ _ ⟨1,by omega,by omega⟩]
 rfl
theorem Tc (P:Poly n X Y) {i:Nat}:wS (gx X Y) (gy X Y) (kz (ln X Y) i+(ln X Y i - 1))=cr X Y i:=by
 have hp:=P.pos i
 have hq:=P.pos (i+1)
 obtain ⟨e1,e2⟩:=DE P (show ln X Y i - 1<=ln X Y i by omega)
 obtain ⟨e3,e4⟩:=DE P (show 0<=ln X Y (i+1) by omega)
 obtain ⟨e5,e6⟩:=DE P (show 1<=ln X Y (i+1) by omega)
 have et:kz (ln X Y) (i+1)=kz (ln X Y) i+ln X Y i:=rfl
 unfold wS rr dd cr
 rw [show kz (ln X Y) i+(ln X Y i - 1)+1+1=kz (ln X Y) (i+1)+1 by omega,show kz (ln X Y) i+(ln X Y i - 1)+1=kz (ln X Y) (i+1)+0 by omega,e1,e2,e3,e4,e5,e6]
 have hv:=P.hv i
 have a1:jJ X (i+1) 0=X (i+1):=by unfold jJ;(repeat' split)<;>omega
 have a2:jJ Y (i+1) 0=Y (i+1):=by unfold jJ;(repeat' split)<;>omega
 have a3:jJ X (i+1) 1=X (i+1)+sg (X (i+2) - X (i+1)):=by unfold jJ sg;rw [show i+1+1=i+2 by omega];(repeat' split)<;>omega
 have a4:jJ Y (i+1) 1=Y (i+1)+sg (Y (i+2) - Y (i+1)):=by unfold jJ sg;rw [show i+1+1=i+2 by omega];(repeat' split)<;>omega
 have a5:jJ X i (ln X Y i - 1)=X (i+1) - sg (X (i+1) - X i):=by unfold jJ ln sg;(repeat' split)<;>omega
 have a6:jJ Y i (ln X Y i - 1)=Y (i+1) - sg (Y (i+1) - Y i):=by unfold jJ ln sg;(repeat' split)<;>omega
 rw [a1,a2,a3,a4,a5,a6]
 congr 1<;>congr 1<;>omega
theorem Le (P:Poly n X Y): ∀i,sm (wS (gx X Y) (gy X Y)) (kz (ln X Y) i)=sm (cr X Y) i
 |0=>rfl
 |i+1=>by
  have hp:=P.pos i
  have key:sm (fun r=>wS (gx X Y) (gy X Y) (kz (ln X Y) i+r)) (ln X Y i)=cr X Y i:=by
   obtain ⟨m,hm⟩: ∃m,ln X Y i=m+1:=⟨ln X Y i - 1,by omega⟩
   have h1:sm (fun r=>wS (gx X Y) (gy X Y) (kz (ln X Y) i+r)) m=0:=by
    rw [fV (g:=fun _=>0) fun r hr=>XW P (by omega),gM]
   have h2:=Tc P (i:=i)
   rw [hm] at h2 ⊢
   rw [sm,h1]
   show 0+wS (gx X Y) (gy X Y) (kz (ln X Y) i+m)=_
   rw [Nat.add_sub_cancel] at h2
   omega
  rw [kz,wW,key,Le P i,sm]
end
end Go.Abs.Geo
end
section
namespace Go.Abs.Geo
def wv (x y:Nat->Int) (a b:Int) (t:Nat):Int:=
 if x (t+1)=x t/\a<x t then (if y t=b/\y (t+1)=b+1 then 1 else if y t=b+1/\y (t+1)=b then -1 else 0) else 0
def ve (x y:Nat->Int) (a b:Int) (t:Nat):Int:=
 if x t=a/\x (t+1)=a then (if y t=b/\y (t+1)=b+1 then 1 else if y t=b+1/\y (t+1)=b then -1 else 0) else 0
def he (x y:Nat->Int) (a b:Int) (t:Nat):Int:=
 if y t=b/\y (t+1)=b then (if x t=a/\x (t+1)=a+1 then 1 else if x t=a+1/\x (t+1)=a then -1 else 0) else 0
def wn (N:Nat) (x y:Nat->Int) (a b:Int):Int:=sm (wv x y a b) N
def PD (x y:Nat->Int) (a b:Int) (t:Nat):Int:=if y t=b/\a<x t then 1 else 0
theorem wU (f:Nat->Int): ∀n,sm (fun t=>f (t+1) - f t) n=f n - f 0
 |0=>by show (0:Int)=_;omega
 |n+1=>by rw [sm,wU f n];omega
theorem n9 (f g:Nat->Int): ∀n,sm (fun i=>f i - g i) n=sm f n - sm g n
 |0=>rfl
 |n+1=>by rw [sm,sm,sm,n9 f g n];omega
theorem JP {f:Nat->Int} {t:Nat} (h: ∀s,s≠t->f s=0): ∀{n:Nat},t<n->sm f n=f t
 |0,hn=>absurd hn (Nat.not_lt_zero t)
 |n+1,hn=>by
  rw [sm]
  by_cases e:t=n
  ·subst e
   have:sm f t=0:=by
    rw [fV (g:=fun _=>0) fun i hi=>h i (by omega),gM]
   omega
  ·rw [JP h (by omega),h n (by omega)];omega
section
variable {N:Nat} {x y:Nat->Int}
theorem O1 (N:Nat) (x y:Nat->Int) (a b:Int):wn N x y (a - 1) b - wn N x y a b=sm (ve x y a b) N:=by
 unfold wn
 rw [<-n9]
 refine fV fun t _=> ?_
 unfold wv ve
 (repeat' split)<;>omega
theorem Loop.S4 (L:Loop N x y) (a b:Int):wn N x y a b - wn N x y a (b - 1)=sm (he x y a b) N:=by
 have h:=wU (PD x y a b) N
 have e:PD x y a b N=PD x y a b 0:=by
  have e1:=L.px 0
  have e2:=L.py 0
  rw [Nat.zero_add] at e1 e2
  unfold PD
  rw [e1,e2]
 rw [e,Int.sub_self] at h
 unfold wn
 have k:sm (fun t=>he x y a b t - (wv x y a b t - wv x y a (b - 1) t)) N=0:=by
  rw [<-h]
  refine fV fun t _=> ?_
  have s:=L.step t
  unfold qu at s
  unfold he wv PD
  (repeat' split)<;>omega
 rw [n9,n9] at k
 omega
theorem Loop.uniq (L:Loop N x y) {s t:Nat} (hs:s<N) (ht:t<N) (h1:x s=x t) (h2:y s=y t):s=t:=by
 rcases Nat.lt_trichotomy s t with h|h|h
 ·have:=L.inj s t h ht;omega
 ·exact h
 ·have:=L.inj t s h hs;omega
theorem Loop.next (L:Loop N x y) {s t:Nat} (hs:s<N) (ht:t<N) (h1:x (s+1)=x (t+1)) (h2:y (s+1)=y (t+1)):s=t:=by
 have hb:=L.wL
 have e1:=L.px 0
 have e2:=L.py 0
 rw [Nat.zero_add] at e1 e2
 by_cases h3:s+1=N
 ·by_cases h4:t+1=N
  ·omega
  ·rw [h3,e1] at h1
   rw [h3,e2] at h2
   have:=L.uniq (show 0<N by omega) (show t+1<N by omega) h1 h2
   omega
 ·by_cases h4:t+1=N
  ·rw [h4,e1] at h1
   rw [h4,e2] at h2
   have:=L.uniq (show s+1<N by omega) (show 0<N by omega) h1 h2
   omega
  ·have:=L.uniq (show s+1<N by omega) (show t+1<N by omega) h1 h2
   omega
theorem Loop.J3 (L:Loop N x y) {s t:Nat} (hs:s<N) (ht:t<N): ¬(x s=x (t+1)/\y s=y (t+1)/\x (s+1)=x t/\y (s+1)=y t):=by
 intro ⟨h1,h2,h3,h4⟩
 have hb:=L.wL
 have e1:=L.px 0
 have e2:=L.py 0
 rw [Nat.zero_add] at e1 e2
 by_cases h5:t+1=N
 ·rw [h5,e1] at h1
  rw [h5,e2] at h2
  have:=L.uniq hs (show 0<N by omega) h1 h2
  subst this
  have:=L.uniq (show 0+1<N by omega) ht h3 h4
  omega
 ·have:=L.uniq hs (show t+1<N by omega) h1 h2
  subst this
  by_cases h6:t+1+1=N
  ·rw [h6,e1] at h3
   rw [h6,e2] at h4
   have:=L.uniq (show 0<N by omega) ht h3 h4
   omega
  ·have:=L.uniq (show t+1+1<N by omega) ht h3 h4
   omega
theorem Loop.U9 (L:Loop N x y) {t:Nat} (ht:t<N) {a b:Int} (h:ve x y a b t≠0):sm (ve x y a b) N=ve x y a b t:=by
 have key:sm (fun s=>if s<N then ve x y a b s else 0) N=(fun s=>if s<N then ve x y a b s else 0) t:=JP (fun s hs=>by
  show (if s<N then ve x y a b s else 0)=0
  split
  ·rename_i h1
   have n1:=L.J3 h1 ht
   have n2: ¬(x s=x t/\y s=y t):=fun e=>hs (L.uniq h1 ht e.1 e.2)
   unfold ve at h ⊢
   (repeat' split)<;>(repeat' split at h)<;>omega
  ·rfl) ht
 rw [fV (g:=fun s=>if s<N then ve x y a b s else 0) fun i hi=>(if_pos hi).symm,key]
 exact if_pos ht
theorem Loop.VY (L:Loop N x y) {t:Nat} (ht:t<N) {a b:Int} (h:he x y a b t≠0):sm (he x y a b) N=he x y a b t:=by
 have key:sm (fun s=>if s<N then he x y a b s else 0) N=(fun s=>if s<N then he x y a b s else 0) t:=JP (fun s hs=>by
  show (if s<N then he x y a b s else 0)=0
  split
  ·rename_i h1
   have n1:=L.J3 h1 ht
   have n2: ¬(x s=x t/\y s=y t):=fun e=>hs (L.uniq h1 ht e.1 e.2)
   unfold he at h ⊢
   (repeat' split)<;>(repeat' split at h)<;>omega
  ·rfl) ht
 rw [fV (g:=fun s=>if s<N then he x y a b s else 0) fun i hi=>(if_pos hi).symm,key]
 exact if_pos ht
theorem Loop.U8 (L:Loop N x y) {t:Nat} (ht:t+1<N) {a b:Int} (hq:a=x (t+1)) (hb:b=y (t+1)\/b+1=y (t+1))
 (h1:ve x y a b t=0) (h2:ve x y a b (t+1)=0):sm (ve x y a b) N=0:=by
 rw [fV (g:=fun _=>0) fun s hs=> ?_,gM]
 by_cases e1:s=t
 ·subst e1;exact h1
 by_cases e2:s=t+1
 ·subst e2;exact h2
 have n1: ¬(x s=x (t+1)/\y s=y (t+1)):=fun e=>e2 (L.uniq hs ht e.1 e.2)
 have n2: ¬(x (s+1)=x (t+1)/\y (s+1)=y (t+1)):=fun e=>e1 (L.next hs (by omega) e.1 e.2)
 clear h1 h2
 unfold ve
 (repeat' split)<;>omega
theorem Loop.VX (L:Loop N x y) {t:Nat} (ht:t+1<N) {a b:Int} (hq:b=y (t+1)) (hb:a=x (t+1)\/a+1=x (t+1))
 (h1:he x y a b t=0) (h2:he x y a b (t+1)=0):sm (he x y a b) N=0:=by
 rw [fV (g:=fun _=>0) fun s hs=> ?_,gM]
 by_cases e1:s=t
 ·subst e1;exact h1
 by_cases e2:s=t+1
 ·subst e2;exact h2
 have n1: ¬(x s=x (t+1)/\y s=y (t+1)):=fun e=>e2 (L.uniq hs ht e.1 e.2)
 have n2: ¬(x (s+1)=x (t+1)/\y (s+1)=y (t+1)):=fun e=>e1 (L.next hs (by omega) e.1 e.2)
 clear h1 h2
 unfold he
 (repeat' split)<;>omega
def lx (x:Nat->Int) (y:Nat->Int) (t:Nat):Int:=if x t<x (t+1) then x t else if y t<y (t+1) then x t - 1 else if x (t+1)<x t then x t - 1 else x t
def ly (x:Nat->Int) (y:Nat->Int) (t:Nat):Int:=if x t<x (t+1) then y t else if y t<y (t+1) then y t else y t - 1
theorem Loop.left (L:Loop N x y) {t:Nat} (ht:t+1<N):wn N x y (lx x y t) (ly x y t)=wn N x y (lx x y (t+1)) (ly x y (t+1)):=by
 have s1:=L.step t
 have s2:=L.step (t+1)
 have nb:=L.J3 (s:=t+1) (t:=t) ht (by omega)
 have q1:t+1+1=t+2:=rfl
 rw [q1] at s2 nb
 have hN:ve x y (x (t+1)) (y (t+1)) t=0->ve x y (x (t+1)) (y (t+1)) (t+1)=0->wn N x y (x (t+1) - 1) (y (t+1))=wn N x y (x (t+1)) (y (t+1)):=fun h1 h2=>by
  have:=O1 N x y (x (t+1)) (y (t+1));rw [L.U8 ht rfl (Or.inl rfl) h1 h2] at this;omega
 have hS:ve x y (x (t+1)) (y (t+1) - 1) t=0->ve x y (x (t+1)) (y (t+1) - 1) (t+1)=0->wn N x y (x (t+1) - 1) (y (t+1) - 1)=wn N x y (x (t+1)) (y (t+1) - 1):=fun h1 h2=>by
  have:=O1 N x y (x (t+1)) (y (t+1) - 1);rw [L.U8 ht rfl (Or.inr (by omega)) h1 h2] at this;omega
 have hE:he x y (x (t+1)) (y (t+1)) t=0->he x y (x (t+1)) (y (t+1)) (t+1)=0->wn N x y (x (t+1)) (y (t+1))=wn N x y (x (t+1)) (y (t+1) - 1):=fun h1 h2=>by
  have:=L.S4 (x (t+1)) (y (t+1));rw [L.VX ht rfl (Or.inl rfl) h1 h2] at this;omega
 have hW:he x y (x (t+1) - 1) (y (t+1)) t=0->he x y (x (t+1) - 1) (y (t+1)) (t+1)=0->wn N x y (x (t+1) - 1) (y (t+1))=wn N x y (x (t+1) - 1) (y (t+1) - 1):=fun h1 h2=>by
  have:=L.S4 (x (t+1) - 1) (y (t+1));rw [L.VX ht rfl (Or.inr (by omega)) h1 h2] at this;omega
 unfold ve at hN hS
 unfold he at hE hW
 rw [q1] at hN hS hE hW
 unfold qu at s1 s2
 unfold lx ly
 rw [q1]
 generalize x (t+1)=p at*
 generalize y (t+1)=q at*
 generalize x (t+2)=p2 at*
 generalize y (t+2)=q2 at*
 generalize x t=p0 at*
 generalize y t=q0 at*
 generalize hWf:wn N x y=W at*
 clear hWf L
 have hn: ∀{P:Prop} [Decidable P] {Q:Prop} [Decidable Q] {R:Prop} [Decidable R],(P-> ¬Q/\ ¬R)->(if P then (if Q then (1:Int) else if R then -1 else 0) else 0)=0:=fun h=>by
  split
  ·rename_i hp;rw [if_neg (h hp).1,if_neg (h hp).2]
  ·rfl
 rcases s1 with ⟨i1,i2|i2⟩|⟨i1,i2|i2⟩<;>rcases s2 with ⟨o1,o2|o2⟩|⟨o1,o2|o2⟩
 ·have c1:(if p0<p then p0 else if q0<q then p0 - 1 else if p<p0 then p0 - 1 else p0)=(p - 1):=by (repeat' split)<;>omega
  have c2:(if p0<p then q0 else if q0<q then q0 else q0 - 1)=(q - 1):=by (repeat' split)<;>omega
  have c3:(if p<p2 then p else if q<q2 then p - 1 else if p2<p then p - 1 else p)=(p - 1):=by (repeat' split)<;>omega
  have c4:(if p<p2 then q else if q<q2 then q else q - 1)=q:=by (repeat' split)<;>omega
  rw [c1,c2,c3,c4]
  have:=hW (hn (by omega)) (hn (by omega))
  omega
 ·exact absurd ⟨by omega,by omega,by omega,by omega⟩ nb
 ·have c1:(if p0<p then p0 else if q0<q then p0 - 1 else if p<p0 then p0 - 1 else p0)=(p - 1):=by (repeat' split)<;>omega
  have c2:(if p0<p then q0 else if q0<q then q0 else q0 - 1)=(q - 1):=by (repeat' split)<;>omega
  have c3:(if p<p2 then p else if q<q2 then p - 1 else if p2<p then p - 1 else p)=p:=by (repeat' split)<;>omega
  have c4:(if p<p2 then q else if q<q2 then q else q - 1)=q:=by (repeat' split)<;>omega
  rw [c1,c2,c3,c4]
  have:=hW (hn (by omega)) (hn (by omega))
  have:=hN (hn (by omega)) (hn (by omega))
  omega
 ·have c1:(if p0<p then p0 else if q0<q then p0 - 1 else if p<p0 then p0 - 1 else p0)=(p - 1):=by (repeat' split)<;>omega
  have c2:(if p0<p then q0 else if q0<q then q0 else q0 - 1)=(q - 1):=by (repeat' split)<;>omega
  have c3:(if p<p2 then p else if q<q2 then p - 1 else if p2<p then p - 1 else p)=(p - 1):=by (repeat' split)<;>omega
  have c4:(if p<p2 then q else if q<q2 then q else q - 1)=(q - 1):=by (repeat' split)<;>omega
  rw [c1,c2,c3,c4]
  skip
 ·exact absurd ⟨by omega,by omega,by omega,by omega⟩ nb
 ·have c1:(if p0<p then p0 else if q0<q then p0 - 1 else if p<p0 then p0 - 1 else p0)=p:=by (repeat' split)<;>omega
  have c2:(if p0<p then q0 else if q0<q then q0 else q0 - 1)=q:=by (repeat' split)<;>omega
  have c3:(if p<p2 then p else if q<q2 then p - 1 else if p2<p then p - 1 else p)=p:=by (repeat' split)<;>omega
  have c4:(if p<p2 then q else if q<q2 then q else q - 1)=(q - 1):=by (repeat' split)<;>omega
  rw [c1,c2,c3,c4]
  have:=hE (hn (by omega)) (hn (by omega))
  omega
 ·have c1:(if p0<p then p0 else if q0<q then p0 - 1 else if p<p0 then p0 - 1 else p0)=p:=by (repeat' split)<;>omega
  have c2:(if p0<p then q0 else if q0<q then q0 else q0 - 1)=q:=by (repeat' split)<;>omega
  have c3:(if p<p2 then p else if q<q2 then p - 1 else if p2<p then p - 1 else p)=p:=by (repeat' split)<;>omega
  have c4:(if p<p2 then q else if q<q2 then q else q - 1)=q:=by (repeat' split)<;>omega
  rw [c1,c2,c3,c4]
  skip
 ·have c1:(if p0<p then p0 else if q0<q then p0 - 1 else if p<p0 then p0 - 1 else p0)=p:=by (repeat' split)<;>omega
  have c2:(if p0<p then q0 else if q0<q then q0 else q0 - 1)=q:=by (repeat' split)<;>omega
  have c3:(if p<p2 then p else if q<q2 then p - 1 else if p2<p then p - 1 else p)=(p - 1):=by (repeat' split)<;>omega
  have c4:(if p<p2 then q else if q<q2 then q else q - 1)=(q - 1):=by (repeat' split)<;>omega
  rw [c1,c2,c3,c4]
  have:=hE (hn (by omega)) (hn (by omega))
  have:=hS (hn (by omega)) (hn (by omega))
  omega
 ·have c1:(if p0<p then p0 else if q0<q then p0 - 1 else if p<p0 then p0 - 1 else p0)=(p - 1):=by (repeat' split)<;>omega
  have c2:(if p0<p then q0 else if q0<q then q0 else q0 - 1)=q:=by (repeat' split)<;>omega
  have c3:(if p<p2 then p else if q<q2 then p - 1 else if p2<p then p - 1 else p)=(p - 1):=by (repeat' split)<;>omega
  have c4:(if p<p2 then q else if q<q2 then q else q - 1)=q:=by (repeat' split)<;>omega
  rw [c1,c2,c3,c4]
  skip
 ·have c1:(if p0<p then p0 else if q0<q then p0 - 1 else if p<p0 then p0 - 1 else p0)=(p - 1):=by (repeat' split)<;>omega
  have c2:(if p0<p then q0 else if q0<q then q0 else q0 - 1)=q:=by (repeat' split)<;>omega
  have c3:(if p<p2 then p else if q<q2 then p - 1 else if p2<p then p - 1 else p)=p:=by (repeat' split)<;>omega
  have c4:(if p<p2 then q else if q<q2 then q else q - 1)=(q - 1):=by (repeat' split)<;>omega
  rw [c1,c2,c3,c4]
  have:=hN (hn (by omega)) (hn (by omega))
  have:=hE (hn (by omega)) (hn (by omega))
  omega
 ·have c1:(if p0<p then p0 else if q0<q then p0 - 1 else if p<p0 then p0 - 1 else p0)=(p - 1):=by (repeat' split)<;>omega
  have c2:(if p0<p then q0 else if q0<q then q0 else q0 - 1)=q:=by (repeat' split)<;>omega
  have c3:(if p<p2 then p else if q<q2 then p - 1 else if p2<p then p - 1 else p)=p:=by (repeat' split)<;>omega
  have c4:(if p<p2 then q else if q<q2 then q else q - 1)=q:=by (repeat' split)<;>omega
  rw [c1,c2,c3,c4]
  have:=hN (hn (by omega)) (hn (by omega))
  omega
 ·exact absurd ⟨by omega,by omega,by omega,by omega⟩ nb
 ·have c1:(if p0<p then p0 else if q0<q then p0 - 1 else if p<p0 then p0 - 1 else p0)=p:=by (repeat' split)<;>omega
  have c2:(if p0<p then q0 else if q0<q then q0 else q0 - 1)=(q - 1):=by (repeat' split)<;>omega
  have c3:(if p<p2 then p else if q<q2 then p - 1 else if p2<p then p - 1 else p)=(p - 1):=by (repeat' split)<;>omega
  have c4:(if p<p2 then q else if q<q2 then q else q - 1)=q:=by (repeat' split)<;>omega
  rw [c1,c2,c3,c4]
  have:=hS (hn (by omega)) (hn (by omega))
  have:=hW (hn (by omega)) (hn (by omega))
  omega
 ·have c1:(if p0<p then p0 else if q0<q then p0 - 1 else if p<p0 then p0 - 1 else p0)=p:=by (repeat' split)<;>omega
  have c2:(if p0<p then q0 else if q0<q then q0 else q0 - 1)=(q - 1):=by (repeat' split)<;>omega
  have c3:(if p<p2 then p else if q<q2 then p - 1 else if p2<p then p - 1 else p)=p:=by (repeat' split)<;>omega
  have c4:(if p<p2 then q else if q<q2 then q else q - 1)=(q - 1):=by (repeat' split)<;>omega
  rw [c1,c2,c3,c4]
  skip
 ·exact absurd ⟨by omega,by omega,by omega,by omega⟩ nb
 ·have c1:(if p0<p then p0 else if q0<q then p0 - 1 else if p<p0 then p0 - 1 else p0)=p:=by (repeat' split)<;>omega
  have c2:(if p0<p then q0 else if q0<q then q0 else q0 - 1)=(q - 1):=by (repeat' split)<;>omega
  have c3:(if p<p2 then p else if q<q2 then p - 1 else if p2<p then p - 1 else p)=(p - 1):=by (repeat' split)<;>omega
  have c4:(if p<p2 then q else if q<q2 then q else q - 1)=(q - 1):=by (repeat' split)<;>omega
  rw [c1,c2,c3,c4]
  have:=hS (hn (by omega)) (hn (by omega))
  omega
theorem Loop.As (L:Loop N x y): ∀t,t<N->wn N x y (lx x y t) (ly x y t)=wn N x y (lx x y 0) (ly x y 0)
 |0,_=>rfl
 |t+1,h=>by rw [<-L.left h,Loop.As L t (by omega)]
def rx (x:Nat->Int) (y:Nat->Int) (t:Nat):Int:=if x t<x (t+1) then x t else if y t<y (t+1) then x t else x t - 1
def ry (x:Nat->Int) (y:Nat->Int) (t:Nat):Int:=if x t<x (t+1) then y t - 1 else if y t<y (t+1) then y t else if x (t+1)<x t then y t else y t - 1
theorem Loop.right (L:Loop N x y) {t:Nat} (ht:t<N):wn N x y (lx x y t) (ly x y t)=wn N x y (rx x y t) (ry x y t)+1:=by
 have s:=L.step t
 unfold qu at s
 rcases s with ⟨i1,i2|i2⟩|⟨i1,i2|i2⟩
 ·have e1:lx x y t=x t - 1:=by unfold lx;(repeat' split)<;>omega
  have e2:ly x y t=y t:=by unfold ly;(repeat' split)<;>omega
  have e3:rx x y t=x t:=by unfold rx;(repeat' split)<;>omega
  have e4:ry x y t=y t:=by unfold ry;(repeat' split)<;>omega
  have e5:ve x y (x t) (y t) t=1:=by unfold ve;rw [if_pos ⟨rfl,i1⟩,if_pos ⟨rfl,i2⟩]
  have:=O1 N x y (x t) (y t)
  rw [L.U9 ht (by rw [e5];decide),e5] at this
  rw [e1,e2,e3,e4];omega
 ·have e1:lx x y t=x t:=by unfold lx;(repeat' split)<;>omega
  have e2:ly x y t=y t - 1:=by unfold ly;(repeat' split)<;>omega
  have e3:rx x y t=x t - 1:=by unfold rx;(repeat' split)<;>omega
  have e4:ry x y t=y t - 1:=by unfold ry;(repeat' split)<;>omega
  have e5:ve x y (x t) (y t - 1) t= -1:=by unfold ve;rw [if_pos ⟨rfl,i1⟩,if_neg (by omega),if_pos (by omega)]
  have:=O1 N x y (x t) (y t - 1)
  rw [L.U9 ht (by rw [e5];decide),e5] at this
  rw [e1,e2,e3,e4];omega
 ·have e1:lx x y t=x t:=by unfold lx;(repeat' split)<;>omega
  have e2:ly x y t=y t:=by unfold ly;(repeat' split)<;>omega
  have e3:rx x y t=x t:=by unfold rx;(repeat' split)<;>omega
  have e4:ry x y t=y t - 1:=by unfold ry;(repeat' split)<;>omega
  have e5:he x y (x t) (y t) t=1:=by unfold he;rw [if_pos ⟨rfl,i1⟩,if_pos ⟨rfl,i2⟩]
  have:=L.S4 (x t) (y t)
  rw [L.VY ht (by rw [e5];decide),e5] at this
  rw [e1,e2,e3,e4];omega
 ·have e1:lx x y t=x t - 1:=by unfold lx;(repeat' split)<;>omega
  have e2:ly x y t=y t - 1:=by unfold ly;(repeat' split)<;>omega
  have e3:rx x y t=x t - 1:=by unfold rx;(repeat' split)<;>omega
  have e4:ry x y t=y t:=by unfold ry;(repeat' split)<;>omega
  have e5:he x y (x t - 1) (y t) t= -1:=by unfold he;rw [if_pos ⟨rfl,i1⟩,if_neg (by omega),if_pos (by omega)]
  have:=L.S4 (x t - 1) (y t)
  rw [L.VY ht (by rw [e5];decide),e5] at this
  rw [e1,e2,e3,e4];omega
theorem bound (x:Nat->Int): ∀n,∃M:Int,∀t,t<n->x t<=M
 |0=>⟨0,fun t h=>absurd h (Nat.not_lt_zero t)⟩
 |n+1=>by
  obtain ⟨M,h⟩:=bound x n
  refine ⟨max M (x n),fun t ht=> ?_⟩
  by_cases e:t=n
  ·subst e;omega
  ·have:=h t (by omega);omega
theorem XN {a b:Int} (h: ∀t,t<N->x t<=a):wn N x y a b=0:=by
 unfold wn
 rw [fV (g:=fun _=>0) fun t ht=> ?_,gM]
 have:=h t ht
 unfold wv
 rw [if_neg (by omega)]
theorem Loop.vals (L:Loop N x y) (a b:Int):wn N x y a b=0\/wn N x y a b=wn N x y (lx x y 0) (ly x y 0)\/wn N x y a b=wn N x y (lx x y 0) (ly x y 0) - 1:=by
 obtain ⟨M,hM⟩:=bound x N
 have key: ∀(k:Nat) (a:Int),M<=a+k->wn N x y a b=0\/wn N x y a b=wn N x y (lx x y 0) (ly x y 0)\/wn N x y a b=wn N x y (lx x y 0) (ly x y 0) - 1:=fun k=>by
  induction k with
  |zero=>exact fun a h=>Or.inl (XN fun t ht=>by have:=hM t ht;omega)
  |succ k ih=>
   intro a h
   have ih:=ih (a+1) (by omega)
   have hv:=O1 N x y (a+1) b
   rw [show a+1 - 1=a by omega] at hv
   by_cases hx: ∃t,t<N/\ve x y (a+1) b t≠0
   ·obtain ⟨t,ht,h1⟩:=hx
    have hl:=L.As t ht
    have hr:=L.right ht
    have s:=L.step t
    unfold qu at s
    unfold ve at h1
    have h2:x t=a+1/\x (t+1)=a+1/\((y t=b/\y (t+1)=b+1)\/(y t=b+1/\y (t+1)=b)):=by
     (repeat' split at h1)<;>omega
    obtain ⟨j1,j2,⟨j3,j4⟩|⟨j3,j4⟩⟩:=h2
    ·have e1:lx x y t=a:=by unfold lx;(repeat' split)<;>omega
     have e2:ly x y t=b:=by unfold ly;(repeat' split)<;>omega
     rw [e1,e2] at hl
     exact Or.inr (Or.inl hl)
    ·have e1:rx x y t=a:=by unfold rx;(repeat' split)<;>omega
     have e2:ry x y t=b:=by unfold ry;(repeat' split)<;>omega
     rw [e1,e2] at hr
     exact Or.inr (Or.inr (by omega))
   ·have e0:sm (ve x y (a+1) b) N=0:=by
     rw [fV (g:=fun _=>0) fun t ht=> ?_,gM]
     by_cases h2:ve x y (a+1) b t=0
     ·exact h2
     ·exact absurd ⟨t,ht,h2⟩ hx
    rw [e0] at hv
    have:wn N x y a b=wn N x y (a+1) b:=by omega
    rw [this];exact ih
 exact key (M - a).toNat a (by omega)
theorem Loop.below (L:Loop N x y) (hl:Low N x y) (a:Int):wn N x y a (y 0 - 1)=0:=by
 unfold wn
 rw [fV (g:=fun _=>0) fun t ht=> ?_,gM]
 have h1:=hl t ht
 have h2:y 0<=y (t+1):=by
  by_cases e:t+1<N
  ·have:=hl (t+1) e;omega
  ·have e:t+1=0+N:=by omega
   rw [e,L.py];exact Int.le_refl _
 unfold wv
 (repeat' split)<;>omega
theorem Loop.once (L:Loop N x y) (hl:Low N x y):
 (sm (wS x y) N=8/\ ∀a b,wn N x y a b=0\/wn N x y a b=1)\/
 (sm (wS x y) N= -8/\(∀a b,wn N x y a b=0\/wn N x y a b= -1)/\ ∃a b,wn N x y a b= -1):=by
 have hb:=L.wL
 have h0:=L.right (t:=0) (by omega)
 rcases L.full hl with ⟨e1,e2,e3,e4,e5⟩|⟨e1,e2,e3,e4,e5⟩
 ·refine Or.inl ⟨e5,fun a b=> ?_⟩
  have f1:rx x y 0=x 0:=by unfold rx;rw [if_pos (by rw [Nat.zero_add];omega)]
  have f2:ry x y 0=y 0 - 1:=by unfold ry;rw [if_pos (by rw [Nat.zero_add];omega)]
  rw [f1,f2,L.below hl] at h0
  have:=L.vals a b
  omega
 ·have x0:=L.px 0
  have y0:=L.py 0
  rw [Nat.zero_add] at x0 y0
  have oS:=L.As (N - 1) (by omega)
  have f1:lx x y (N - 1)=x 0:=by unfold lx;rw [show N - 1+1=N by omega,x0,y0];(repeat' split)<;>omega
  have f2:ly x y (N - 1)=y 0 - 1:=by unfold ly;rw [show N - 1+1=N by omega,x0,y0];(repeat' split)<;>omega
  rw [f1,f2,L.below hl] at oS
  refine Or.inr ⟨e5,fun a b=> ?_,⟨_,_,show wn N x y (rx x y 0) (ry x y 0)= -1 by omega⟩⟩
  have:=L.vals a b
  omega
end
end Go.Abs.Geo
end
