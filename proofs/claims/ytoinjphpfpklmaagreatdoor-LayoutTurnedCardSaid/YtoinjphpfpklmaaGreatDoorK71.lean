/- Contracts and what they stand on. -/
import Derived.Test.YtoinjphpfpklmaaGreatDoorK66
set_option linter.unusedVariables false
set_option linter.unusedSimpArgs false
section
set_option maxRecDepth 100000
namespace Go.Abs
open Go
def Ej (b:dL) (nB:Nat) (B:Nat->Int) (nO:Nat) (O:Nat->Int) (W G L:Int):Int:=J9 (iq (b.N 0) (b.X 0) (b.Y 0) G W (4*b.N 0)) (FI nB B nO O W G L)
def uH (b:dL) (nB:Nat) (B:Nat->Int) (nO:Nat) (O:Nat->Int) (W G L:Int):Int:=if ij b nB B nO O W G L≠0 then ij b nB B nO O W G L else if Ej b nB B nO O W G L≠0 then Ej b nB B nO O W G L else bE b nB B nO O W G
def Ch:gE:=⟨0,fun _=>0,0,fun _=>0,fun _=>0,fun _=>0,fun _=>0,fun _=>0,fun _ _=>0,fun _=>0,fun _ _=>0⟩
def xm:nY:=⟨0,fun _=>0,0,fun _=>0,fun _=>0,0,fun _=>0,fun _=>0⟩
def jd (b:dL) (nB:Nat) (B:Nat->Int) (nO:Nat) (O:Nat->Int) (W G L:Int):gE:=if ij b nB B nO O W G L≠0\/Ej b nB B nO O W G L≠0 then Ch else B5 b nB B nO O W G L (fZ b nB B nO O W G).toNat
def CM (b:dL) (nB:Nat) (B:Nat->Int) (nO:Nat) (O:Nat->Int) (W G L:Int):nY:=if ij b nB B nO O W G L≠0\/Ej b nB B nO O W G L≠0 then xm else bPr b nB B nO O W G L
noncomputable def Jf (b:dL) (nB:Nat) (B:Nat->Int) (nO:Nat) (O:Nat->Int) (W G L:Int):eA:={ dz:=[(1,[(2,.res fun _=> .fC [.any,dI (ij b nB B nO O W G L)])]),(5,[(1,.res fun _=> .fC [.any,dI 1])])],loops:=[],dK:=[] }
theorem Vo (b:dL) (nB:Nat) (B:Nat->Int) (nO:Nat) (O:Nat->Int) (W G L:Int) (hN: ∀i,i<b.nS->b.N i<=1000) (h0:ij b nB B nO O W G L≠0):dv prog 8 [kz b,Lay.sys nB B nO O W G L] (.fC [ND Ch,YN xm,dI (ij b nB B nO O W G L)]):=by
 refine dm dJ (Jf b nB B nO O W G L) (V:= .dk [dv prog 31 [(kz b),.agg [.dt nB [fun i=>(dI (B i))],.dt nO [fun i=>(dI (O i))],(dI W),(dI G),(dI L)]] (.fC [.any,(dI (ij b nB B nO O W G L))])] (.ite (ij b nB B nO O W G L !=0) (.done [Ch.1=0,Ch.3=0,xm.1=0,xm.3=0,xm.6=0,ij b nB B nO O W G L=ij b nB B nO O W G L]) (.dk [dv prog 32 [.any] (.fC [.any,(dI (1:Int))]),False] (.ite ((1:Int) !=0) (.done [Ch.1=0,Ch.3=0,xm.1=0,xm.3=0,xm.6=0,(1:Int)=ij b nB B nO O W G L]) (.done [False]))))) (by kernel_rfl) ?_
 simp only [VT.holds,dC,Sq]
 exact ⟨En b nB B nO O W G L hN,fun _=>⟨rfl,rfl,rfl,rfl,rfl⟩,fun h=>absurd h h0⟩
noncomputable def Jd (b:dL) (nB:Nat) (B:Nat->Int) (nO:Nat) (O:Nat->Int) (W G L:Int):eA:={ dz:=[(1,[(2,YL b nB B nO O W G L)]),(5,[(1,.res fun _=> .fC [.dt (Uf (iq (b.N 0) (b.X 0) (b.Y 0) G W (4*b.N 0)) (Lay.fQ nB B nO O W G L)) [fun k=>dI (rh nB B nO O W G L k)],dI (Ej b nB B nO O W G L)])])],loops:=[],dK:=[] }
namespace w3v
noncomputable section
structure Z where
 b:dL
 nB:Nat
 B:Nat->Int
 nO:Nat
 O:Nat->Int
 W:Int
 G:Int
 L:Int
variable (z:Z) (p:Prop) (a:Int) (E:List DV) (U:VT)
abbrev x0:=Ej z.b z.nB z.B z.nO z.O z.W z.G z.L
abbrev x1:List DV:=DV.dt z.nB [fun i0=>dI (z.B i0)]::DV.dt z.nO [fun i0=>dI (z.O i0)]::dI z.W::dI z.G::dI z.L::E
abbrev x2:Int:=(↑(Lay.fQ z.nB z.B z.nO z.O z.W z.G z.L):Int)
abbrev x3:=VT.ite (a !=0) (VT.done [Ch.nC=0,Ch.nR=0,xm.nT=0,xm.n0=0,xm.n1=0,p]) U
abbrev x4:=DV.dV (DV.val (Value.string z.b.name)::DV.dt z.b.nS [fun i0=>dI (z.b.fl i0),fun i0=>DV.dt (z.b.N i0) [fun i1=>dI (z.b.X i0 i1),fun i1=>dI (z.b.Y i0 i1)]]::dI z.b.dE::DV.dt z.b.nO [fun i0=>dI (z.b.O i0 0),fun i0=>dI (z.b.O i0 1),fun i0=>dI (z.b.O i0 2),fun i0=>dI (z.b.O i0 3),fun i0=>dI (z.b.O i0 4),fun i0=>dI (z.b.O i0 5)]::DV.dt z.b.nB [fun i0=>dI (z.b.B i0 0),fun i0=>dI (z.b.B i0 1),fun i0=>dI (z.b.B i0 2),fun i0=>dI (z.b.B i0 3),fun i0=>dI (z.b.B i0 4),fun i0=>dI (z.b.B i0 5)]::x1 z [dI (x2 z),DV.dt (Lay.ir z.nB z.B z.nO z.O z.W z.G z.L) [fun i0=>dI (Lay.eI z.nB z.B z.nO z.O i0),fun i0=>dI (Lay.ew z.nB i0),fun i0=>dB (decide (z.nB<=i0))],DV.dt (z.b.N 0) [fun i0=>dI (z.b.X 0 i0),fun i0=>dI (z.b.Y 0 i0),fun i0=>dI (z.b.X 0 (ix (z.b.N 0) ((i0:Int)+1))),fun i0=>dI (z.b.Y 0 (ix (z.b.N 0) ((i0:Int)+1))),fun i0=>dI (fb (z.b.N 0) (z.b.X 0) (z.b.Y 0) (i0:Int)),fun i0=>dI (dD (z.b.N 0) (z.b.X 0) (z.b.Y 0) (i0:Int))],DV.dt (z.b.N 0) [fun i0=>dI (ov (z.b.N 0) (z.b.X 0) (z.b.Y 0) i0)]])
abbrev xt:VT:=VT.dk [dv prog 31 [kz z.b,DV.agg (x1 z [])] (DV.fC [x4 z,dI 0])] (x3 (0=x0 z) (0:Int) (VT.dk [dv prog 32 [x4 z] (DV.fC [DV.dt (Uf (iq (z.b.N 0) (z.b.X 0) (z.b.Y 0) z.G z.W (4*z.b.N 0)) (x2 z)) [fun i0=>dI (rh z.nB z.B z.nO z.O z.W z.G z.L i0)],dI (x0 z)])] (x3 (rf (x0 z)) (x0 z) (VT.done [False]))))
end
end w3v
open w3v in
theorem Vm (b:dL) (nB:Nat) (B:Nat->Int) (nO:Nat) (O:Nat->Int) (W G L:Int) (hN: ∀i,i<b.nS->b.N i<=1000) (h0:ij b nB B nO O W G L=0) (hm:Ej b nB B nO O W G L≠0):dv prog 8 [kz b,Lay.sys nB B nO O W G L] (.fC [ND Ch,YN xm,dI (Ej b nB B nO O W G L)]):=by
 refine dm dJ (Jd b nB B nO O W G L) (V:=xt ⟨b,nB,B,nO,O,W,G,L⟩) (by kernel_rfl) ?_
 simp only [xt,x0,x1,x2,x3,x4,Rf,VT.holds,dC,Sq]
 obtain ⟨hc,hs,_,_,_,_,_⟩:=iy h0
 obtain ⟨b1,b2,b3,b4,b5⟩:=nE hc
 have hn4:=fO b2
 obtain ⟨hX,hY⟩:=eS b2
 have g1:=(jV hs).1
 exact ⟨xU b nB B nO O W G L hN h0,fun h=>absurd trivial h,fun _=>⟨yw b nB B nO O W G L (by omega) (by omega) hX hY g1 hs,fun _=>⟨rfl,rfl,rfl,rfl,rfl⟩,fun h=>hm h⟩⟩
section
variable {b:dL} {nB:Nat} {B:Nat->Int} {nO:Nat} {O:Nat->Int} {W G L:Int} {f:Nat}
theorem mnS_1 (x y:Int):mnS x y 1=if 0<=x then (if 0<=y/\y<x then y else x) else if 0<=y then y else -1:=by
 have e:mnS x y 1=if 0<=y/\((if 0<=x then x else -1)<0\/y<(if 0<=x then x else -1)) then y else if 0<=x then x else -1:=rfl
 rw [e]
 by_cases hx:0<=x
 ·rw [ag hx,ag hx]
  by_cases hy:0<=y/\y<x
  ·rw [ag hy,ag ⟨hy.1,.inr hy.2⟩]
  ·rw [ab hy,ab (by omega)]
 ·rw [ab hx,ab hx]
  by_cases hy:0<=y
  ·rw [ag hy,ag ⟨hy,.inl (by decide)⟩]
  ·rw [ab hy,ab (by omega)]
theorem Z8 {b:dL} {nB:Nat} {B:Nat->Int} {nO:Nat} {O:Nat->Int} {W G:Int} (hb: ¬fZ b nB B nO O W G<0) (d0: -1<=dX b nB B nO O W G 0 (b.N 0) 0) (d1: -1<=dX b nB B nO O W G 1 (b.N 0) 1):
 (fZ b nB B nO O W G).toNat<=1/\0<=dX b nB B nO O W G (fZ b nB B nO O W G).toNat (b.N 0) (fZ b nB B nO O W G).toNat/\mnS (dX b nB B nO O W G 0 (b.N 0) 0) (dX b nB B nO O W G 1 (b.N 0) 1) 1=dX b nB B nO O W G (fZ b nB B nO O W G).toNat (b.N 0) (fZ b nB B nO O W G).toNat/\
   pvL (dX b nB B nO O W G 0 (b.N 0) 0) (dX b nB B nO O W G 1 (b.N 0) 1)=dX b nB B nO O W G (fZ b nB B nO O W G).toNat (b.N 0) (fZ b nB B nO O W G).toNat:=by
 rw [mnS_1]
 by_cases hx:0<=dX b nB B nO O W G 0 (b.N 0) 0
 ·by_cases hy:0<=dX b nB B nO O W G 1 (b.N 0) 1/\dX b nB B nO O W G 1 (b.N 0) 1<dX b nB B nO O W G 0 (b.N 0) 0
  ·have e:fZ b nB B nO O W G=1:=by rw [fZ,Vk,ag hx,ag hy]
   rw [e,ag hx,ag hy,pvL,ag (.inr hy)]
   exact ⟨by decide,hy.1,rfl,rfl⟩
  ·have e:fZ b nB B nO O W G=0:=by rw [fZ,Vk,ag hx,ab hy]
   rw [e,ag hx,ab hy,pvL,ab (by omega)]
   exact ⟨by decide,hx,rfl,rfl⟩
 ·by_cases hy:0<=dX b nB B nO O W G 1 (b.N 0) 1
  ·have e:fZ b nB B nO O W G=1:=by rw [fZ,Vk,ab hx,ag hy]
   rw [e,ab hx,ag hy,pvL,ag (by omega)]
   exact ⟨by decide,hy,rfl,rfl⟩
  ·have e:fZ b nB B nO O W G= -1:=by rw [fZ,Vk,ab hx,ab hy]
   rw [e] at hb
   exact absurd (by decide) hb
theorem Md {n:Nat} {X Y:Nat->Int} {M:Int} (hg:mK G W) (hM:0<=M) (h: ∀i,i<n->ko n X Y G W (i:Nat) 1 0<=M): ∀m,m<=4*n->iq n X Y G W m<=M
 |0,_=>by rw [iq];exact hM
 |m+1,hm=>by
  have h1:=Md hg hM h m (by omega)
  have h2:=h (m/4) (by omega)
  have h3:=c4 (c:=m%4) (by omega)
  have h4:=VG (n:=n) (X:=X) (Y:=Y) hg ((m/4:Nat):Int) h3.1 h3.2
  rw [iq]
  omega
theorem LM (h0:ij b nB B nO O W G L=0):(lgF b G W (me nB B nO O)=false->Ej b nB B nO O W G L=0/\ ∀i,i<b.N 0->ko (b.N 0) (b.X 0) (b.Y 0) G W (i:Nat) 1 0<=4000*(me nB B nO O))/\(lgF b G W (me nB B nO O)=true->Ej b nB B nO O W G L=8):=by
 obtain ⟨hc,hs,_,_,_,_,_⟩:=iy h0
 have g1:=(jV hs).1
 obtain ⟨ue,u1,u2⟩:=Nb hs
 have SO:FI nB B nO O W G L=me nB B nO O:=ue
 rw [Ej,SO,J9]
 constructor
 ·intro h
  rw [lgF,aj] at h
  have hl: ∀i,i<b.N 0->ko (b.N 0) (b.X 0) (b.Y 0) G W (i:Nat) 1 0<=4000*(me nB B nO O):=fun i hi=>by
   rcases Int.lt_or_le (4000*(me nB B nO O)) (ko (b.N 0) (b.X 0) (b.Y 0) G W (i:Nat) 1 0) with hx|hx
   ·exact absurd ⟨i,hi,hx⟩ h
   ·exact hx
  have:=Md g1 (by omega) hl (4*b.N 0) (ae _)
  exact ⟨by rw [ab (by omega)],hl⟩
 ·intro h
  rw [lgF,ah] at h
  obtain ⟨i,hi,hx⟩:=h
  have:=E5 (n:=b.N 0) (X:=b.X 0) (Y:=b.Y 0) (G:=G) (W:=W) hi (c:=2) (by omega)
  have e:ko (b.N 0) (b.X 0) (b.Y 0) G W i ((2/2:Nat):Int) ((2%2:Nat):Int)=ko (b.N 0) (b.X 0) (b.Y 0) G W (i:Nat) 1 0:=rfl
  rw [e] at this
  rw [ag (by omega)]
theorem Sh {x:Int} (h:0<=jP nB B nO O x):0<=x/\x%me nB B nO O=0/\jP nB B nO O x=Lay.yf nB B nO O (x/me nB B nO O).toNat:=by
 unfold jP CJ at h ⊢
 split at h
 ·omega
 ·rename_i hn
  exact ⟨by omega,by omega,by rw [ab hn]⟩
theorem WB (hs:Lay.fm nB B nO O W G L=0) {len:Int} (hm:Lay.iE nB B nO O W G L len=0) (s:Bool):cl nB B nO O W G L len s=Lay.iW nB B nO O W G L len s:=by
 have eU:Lay.fQ nB B nO O W G L=Lay.eO nB B nO O (nB+nO):=by rw [Lay.fQ,ag hs]
 have eN:Lay.ir nB B nO O W G L=nB+nO:=by rw [Lay.ir,ag hs]
 rw [cl,Lay.iW,ag hm,eU,eN]
 rfl
theorem EH (h0:ij b nB B nO O W G L=0) (hl: ∀i,i<b.N 0->ko (b.N 0) (b.X 0) (b.Y 0) G W (i:Nat) 1 0<=4000*(me nB B nO O)) (hf:f<=1) (hx:0<=dX b nB B nO O W G f (b.N 0) f) {i:Nat} (hi:i<b.N 0):
 (cl nB B nO O W G L (bL b nB B nO O W G f i) false).length<=4000/\(cl nB B nO O W G L (bL b nB B nO O W G f i) true).length<=4000/\
 Z6 nB B nO O (B5 b nB B nO O W G L f) i=0/\10000*YQ nB B (B5 b nB B nO O W G L f) i+((B5 b nB B nO O W G L f).nP i:Int)=jP nB B nO O (bL b nB B nO O W G f i):=by
 obtain ⟨hc,hs,_,_,_,_,_⟩:=iy h0
 obtain ⟨ue,u1,u2⟩:=Nb hs
 obtain ⟨p0,p1,p2,_⟩:=zH hf hx hi
 have hle:=(ru h0 hl hi (a:=bC b nB B nO O W G f i) (e:=bC b nB B nO O W G f (((i:Int)+1)%(b.N 0:Int)).toNat) (by omega) (by omega)).1
 have hle':bL b nB B nO O W G f i<=4000*me nB B nO O:=hle
 obtain ⟨c1,c2,c3⟩:=Sh p2
 have eU:(Lay.eO nB B nO O (nB+nO):Int)=me nB B nO O:=by rw [Lay.unit_eq];rfl
 have hm:Lay.iE nB B nO O W G L (bL b nB B nO O W G f i)=0:=by
  rw [Lay.iE,ag hs,ab (by omega),eU,ab (by omega)]
 have ke:Lay.lD (Lay.eO nB B nO O (nB+nO)) (Lay.mE nB B nO O) (bL b nB B nO O W G f i)=true:=by
  rw [Lay.lD,ah,eU,Lay.Lu,<-c3]
  exact ⟨c2,p2⟩
 obtain ⟨d1,d2,d3,d4,d5,d6,d7,d8⟩:=Lay.uz hm ke
 have d9:=Lay.H7 hm ke
 rw [eU,Lay.Lu,<-c3] at d8
 rw [<-WB hs hm] at d1 d8 d9
 rw [<-WB hs hm] at d2 d8 d9
 refine ⟨d1,d2,d9,?_⟩
 have e:YQ nB B (B5 b nB B nO O W G L f) i=((cl nB B nO O W G L (bL b nB B nO O W G f i) true).length:Int)+Lay.qU (B (nB - 1)) (cl nB B nO O W G L (bL b nB B nO O W G f i) false):=by
  rw [<-Lay.Ol]
  rfl
 have e2:(B5 b nB B nO O W G L f).nP i=(cl nB B nO O W G L (bL b nB B nO O W G f i) false).length:=rfl
 rw [e,e2]
 omega
theorem Z7 (h0:ij b nB B nO O W G L=0) (hl: ∀i,i<b.N 0->ko (b.N 0) (b.X 0) (b.Y 0) G W (i:Nat) 1 0<=4000*(me nB B nO O)) (hf:f<=1) (hx:0<=dX b nB B nO O W G f (b.N 0) f) (hb: ¬fZ b nB B nO O W G<0):
 q9 (B5 b nB B nO O W G L f)/\Ka b nB B nO O W G (B5 b nB B nO O W G L f)=0/\pvK nB B (B5 b nB B nO O W G L f)=dX b nB B nO O W G f (b.N 0) f:=by
 obtain ⟨hc,hs,_,_,_,_,_⟩:=iy h0
 have hn4:=fO (nE hc).2.1
 have eN:bN b nB B nO O W G=b.N 0:=by rw [bN,ab hb]
 have e1:(B5 b nB B nO O W G L f).nC=b.N 0:=eN
 have e2:(B5 b nB B nO O W G L f).nR=b.N 0:=eN
 refine ⟨⟨by omega,by omega,fun i hi=> ?_⟩,?_,?_⟩
 ·obtain ⟨r1,r2,_,_⟩:=EH h0 hl hf hx (i:=i) (by omega)
  exact ⟨aV r1 (by omega),aV r2 (by omega)⟩
 ·refine (V3 ⟨e1,e2⟩ ?_ fun k hk=> ?_).symm
  ·refine MT.2 fun k hk=>Iu.2 ?_
   have:=(zH hf hx (i:=k) (by omega)).1
   have e3:(B5 b nB B nO O W G L f).C k=bC b nB B nO O W G f k:=rfl
   omega
  ·rw [YD rfl ⟨rfl,rfl,rfl⟩]
   exact (EH h0 hl hf hx hk).2.2.1
 ·have Rt:dX b nB B nO O W G f 0 (jY b nB B nO O W G f (b.N 0 - 0)).toNat=0:=by
   have h1:=(As (b:=b) (nB:=nB) (B:=B) (nO:=nO) (O:=O) (W:=W) (G:=G) hf hx (b.N 0) (ae _)).2.1
   rw [da] at h1
   rw [bJ]
   rw [dX,RX] at h1 ⊢
   split at h1
   ·rename_i h2;rw [ag h2]
   ·omega
  have step: ∀k,k<=b.N 0->10000*k6 nB B (B5 b nB B nO O W G L f) k+lN (B5 b nB B nO O W G L f) k=dX b nB B nO O W G f k (jY b nB B nO O W G f (b.N 0 - k)).toNat:=by
   intro k
   induction k with
   |zero=>intro _;rw [Rt,k6,lN];omega
   |succ k ih=>
    intro hk
    have i1:=ih (by omega)
    have i2:=(zH hf hx (i:=k) (by omega)).2.2.2
    have i3:=(EH h0 hl hf hx (i:=k) (by omega)).2.2.2
    rw [k6,lN,i2]
    omega
  have h:=step (b.N 0) (ae _)
  rw [da] at h
  rw [pvK,e2,h,jY]
  rw [bU]
end
section
variable {b:dL} {nB:Nat} {B:Nat->Int} {nO:Nat} {O:Nat->Int} {W G L:Int}
theorem FE (h:ij b nB B nO O W G L≠0\/Ej b nB B nO O W G L≠0):jd b nB B nO O W G L=Ch/\CM b nB B nO O W G L=xm:=⟨by rw [jd,ag h],by rw [CM,ag h]⟩
theorem zI (b:dL) (nB:Nat) (B:Nat->Int) (nO:Nat) (O:Nat->Int) (W G L:Int) (hN: ∀i,i<b.nS->b.N i<=1000):dv prog 8 [kz b,Lay.sys nB B nO O W G L] (.fC [ND (jd b nB B nO O W G L),YN (CM b nB B nO O W G L),dI (uH b nB B nO O W G L)]):=by
 by_cases h0:ij b nB B nO O W G L=0
 ·by_cases hm:Ej b nB B nO O W G L=0
  ·have hl: ∀i,i<b.N 0->ko (b.N 0) (b.X 0) (b.Y 0) G W (i:Nat) 1 0<=4000*(me nB B nO O):=by
    cases hx:lgF b G W (me nB B nO O) with
    |false=>exact ((LM h0).1 hx).2
    |true=>have:=(LM h0).2 hx;omega
   have h:=Vn b nB B nO O W G L hN h0 hm hl
   have e1:jd b nB B nO O W G L=B5 b nB B nO O W G L (fZ b nB B nO O W G).toNat:=by rw [jd,ab (by rw [h0,hm];simp)]
   have e2:CM b nB B nO O W G L=bPr b nB B nO O W G L:=by rw [CM,ab (by rw [h0,hm];simp)]
   have e3:uH b nB B nO O W G L=bE b nB B nO O W G:=by rw [uH,ab (by rw [h0];simp),ab (by rw [hm];simp)]
   rw [e1,e2,e3]
   exact h
  ·obtain ⟨e1,e2⟩:=FE (.inr hm)
   have e3:uH b nB B nO O W G L=Ej b nB B nO O W G L:=by rw [uH,ab (by rw [h0];simp),ag hm]
   rw [e1,e2,e3]
   exact Vm b nB B nO O W G L hN h0 hm
 ·obtain ⟨e1,e2⟩:=FE (.inl h0)
  have e3:uH b nB B nO O W G L=ij b nB B nO O W G L:=by rw [uH,ag h0]
  rw [e1,e2,e3]
  exact Vo b nB B nO O W G L hN h0
theorem Vj (h:uH b nB B nO O W G L≠0):(jd b nB B nO O W G L).nC=0/\(jd b nB B nO O W G L).nR=0/\(CM b nB B nO O W G L).nT=0/\(CM b nB B nO O W G L).n0=0/\(CM b nB B nO O W G L).n1=0:=by
 by_cases h0:ij b nB B nO O W G L≠0\/Ej b nB B nO O W G L≠0
 ·obtain ⟨e1,e2⟩:=FE h0
  rw [e1,e2]
  exact ⟨rfl,rfl,rfl,rfl,rfl⟩
 ·rw [uH,ab (fun hx=>h0 (.inl hx)),ab (fun hx=>h0 (.inr hx))] at h
  have hb:fZ b nB B nO O W G<0:=by
   unfold bE at h
   split at h
   ·assumption
   ·exact absurd rfl h
  rw [jd,ab h0,CM,ab h0]
  have e1:bN b nB B nO O W G=0:=by rw [bN,ag hb]
  exact ⟨e1,e1,ag hb,ag hb,ag hb⟩
end
end Go.Abs
end
section
set_option maxRecDepth 100000
namespace Go.Abs
open Go
def iZ (b b':dL) (G W:Int):Prop:=b'.N 0=b.N 0/\ ∀i a e,kb b' G W i a e=kb b G W i a e
def Ui (l:gE):gE:=⟨l.nC,l.C,l.nR,l.F,fun _=>0,fun _=>0,l.Ln,l.nP,l.P,l.nQ,l.Q⟩
theorem zU (nB:Nat) (B:Nat->Int) (l:gE): ∀k,k6 nB B (Ui l) k=k6 nB B l k
 |0=>rfl
 |k+1=>by rw [k6,k6,zU nB B l k];rfl
theorem zV (l:gE): ∀k,lN (Ui l) k=lN l k
 |0=>rfl
 |k+1=>by rw [lN,lN,zV l k];rfl
section
variable {b b':dL} {nB:Nat} {B:Nat->Int} {nO:Nat} {O:Nat->Int} {W G L:Int}
theorem Mf (h:iZ b b' G W):kR b' nB B nO O W G=kR b nB B nO O W G:=by
 funext i c;unfold kR;rw [h.2]
theorem U1 (h:iZ b b' G W):dX b' nB B nO O W G=dX b nB B nO O W G:=by
 funext f i e;unfold dX;rw [Mf h]
theorem U3 (h:iZ b b' G W):dF b' nB B nO O W G=dF b nB B nO O W G:=by
 funext f i e;unfold dF;rw [Mf h]
theorem G6 (h:iZ b b' G W) (f:Nat): ∀k,jY b' nB B nO O W G f k=jY b nB B nO O W G f k
 |0=>rfl
 |k+1=>by rw [jY,jY,G6 h f k,U3 h,h.1]
theorem MP (h:iZ b b' G W):bC b' nB B nO O W G=bC b nB B nO O W G:=by
 funext f j;unfold bC;rw [G6 h,h.1]
theorem Vt (h:iZ b b' G W):bL b' nB B nO O W G=bL b nB B nO O W G:=by
 funext f j;unfold bL;rw [MP h,h.1,h.2]
theorem BD (h:iZ b b' G W):fZ b' nB B nO O W G=fZ b nB B nO O W G:=by
 unfold fZ;rw [U1 h,h.1]
theorem Vu (h:iZ b b' G W):bE b' nB B nO O W G=bE b nB B nO O W G:=by
 unfold bE;rw [BD h]
theorem Vs (h:iZ b b' G W):bN b' nB B nO O W G=bN b nB B nO O W G:=by
 unfold bN;rw [BD h,h.1]
theorem DR (h:iZ b b' G W): ∀m,iq (b'.N 0) (b'.X 0) (b'.Y 0) G W m=iq (b.N 0) (b.X 0) (b.Y 0) G W m
 |0=>rfl
 |m+1=>by
  have e:=h.2 ((m/4:Nat):Int)
  unfold kb at e
  rw [iq,iq,DR h m,e]
theorem Ik (h:iZ b b' G W):Ej b' nB B nO O W G L=Ej b nB B nO O W G L:=by
 unfold Ej
 rw [DR h,h.1]
theorem Il (h:iZ b b' G W) (h0:ij b nB B nO O W G L=0) (h1:ij b' nB B nO O W G L=0):uH b' nB B nO O W G L=uH b nB B nO O W G L:=by
 unfold uH
 rw [h0,h1,Ik h,Vu h]
theorem Ss (h:iZ b b' G W) (f:Nat):Ui (B5 b' nB B nO O W G L f)=Ui (B5 b nB B nO O W G L f):=by
 unfold Ui B5
 rw [Vs h,MP h,Vt h]
theorem Sj (h:iZ b b' G W) (h0:ij b nB B nO O W G L=0) (h1:ij b' nB B nO O W G L=0):Ui (jd b' nB B nO O W G L)=Ui (jd b nB B nO O W G L):=by
 unfold jd
 rw [h0,h1,Ik h]
 split
 ·rfl
 ·rw [BD h];exact Ss h _
theorem PU (h:iZ b b' G W) (h0:ij b nB B nO O W G L=0) (h1:ij b' nB B nO O W G L=0):
 k6 nB B (jd b' nB B nO O W G L) (jd b' nB B nO O W G L).nR=k6 nB B (jd b nB B nO O W G L) (jd b nB B nO O W G L).nR/\lN (jd b' nB B nO O W G L) (jd b' nB B nO O W G L).nR=lN (jd b nB B nO O W G L) (jd b nB B nO O W G L).nR:=by
 have e:=Sj h h0 h1
 have e2:(Ui (jd b' nB B nO O W G L)).nR=(Ui (jd b nB B nO O W G L)).nR:=de gE.nR e
 change (jd b' nB B nO O W G L).nR=(jd b nB B nO O W G L).nR at e2
 rw [<-zU nB B (jd b' nB B nO O W G L),<-zV (jd b' nB B nO O W G L),e,zU,zV,e2]
 exact ⟨rfl,rfl⟩
end
section
variable {n:Nat} {X Y:Nat->Int}
theorem Mi (hn:0<n) (i c:Int):ix n ((i%(n:Int)).toNat+c)=ix n (i+c):=by
 have h:=bm i (show (n:Int)≠0 by omega)
 unfold ix
 rw [bG h,bM,bM,Int.emod_add_emod]
theorem r9 (h:gI n X Y=0) (i:Int):dO n X Y i=true:=by
 have hn:=fO h
 have h1:=bm i (show (n:Int)≠0 by omega)
 have h2:=br i (show (0:Int)<n by omega)
 have h3:=lp h (i:=(i%(n:Int)).toNat) (by omega)
 have e:=Mi (n:=n) (by omega) i 0
 rw [Int.add_zero,Int.add_zero] at e
 unfold dO at h3 ⊢
 rw [e,Mi (by omega)] at h3
 exact h3
theorem v8 (h:gI n X Y=0) (i:Int):gH n (fun k=> -Y k) X i=gH n X Y i:=by
 unfold gH
 rw [oM (r9 h i),oM (r9 h (i - 1))]
 have h1:=eP n X Y i
 have h2:=eP n X Y (i - 1)
 by_cases e:dD n X Y i=(dD n X Y (i - 1)+1)%4
 ·rw [ag e,ag (by omega)]
 ·rw [ab e,ab (by omega)]
theorem It (h:gI n X Y=0) (g w i a:Int):gv n (fun k=> -Y k) X g w i a=gv n X Y g w i a:=by
 unfold gv;rw [v8 h]
theorem Is (h:gI n X Y=0) (g w i a:Int):iL n (fun k=> -Y k) X g w i a=iL n X Y g w i a:=by
 unfold iL;rw [v8 h,AX]
theorem su {d:Int} (h:0<=d/\d<=3):kX ((d+1)%4)= -kW d/\kW ((d+1)%4)=kX d/\kX (((d+1)%4+3)%4)= -kW ((d+3)%4)/\kW (((d+1)%4+3)%4)=kX ((d+3)%4):=by
 obtain rfl|rfl|rfl|rfl:d=0\/d=1\/d=2\/d=3:=by omega
 all_goals decide
theorem MR (h:gI n X Y=0) (i al out:Int):xa n (fun k=> -Y k) X i al out= -wZ n X Y i al out:=by
 have e:=su (eP n X Y i)
 unfold xa wZ
 rw [oM (r9 h i),e.1,e.2.1]
 dsimp only
 rw [Int.mul_neg]
 omega
theorem MQ (h:gI n X Y=0) (i al out:Int):wZ n (fun k=> -Y k) X i al out=xa n X Y i al out:=by
 have e:=su (eP n X Y i)
 unfold xa wZ
 rw [oM (r9 h i),e.1,e.2.1,Int.mul_neg]
 omega
theorem YC (h:gI n X Y=0) (g w i a e:Int):oZ n (fun k=> -Y k) X g w i a e= -oW n X Y g w i a e/\oY n (fun k=> -Y k) X g w i a e= -oX n X Y g w i a e/\oX n (fun k=> -Y k) X g w i a e=oZ n X Y g w i a e/\oW n (fun k=> -Y k) X g w i a e=oY n X Y g w i a e:=by
 unfold oZ oY oX oW
 rw [MR h,MR h,MQ h,MQ h,It h,Is h]
 refine ⟨?_,?_,rfl,rfl⟩<;>omega
theorem TT (h:gI n X Y=0) (g w i a e:Int):ko n (fun k=> -Y k) X g w i a e=ko n X Y g w i a e:=by
 unfold ko;rw [It h,Is h]
theorem Ub (h:gI n X Y=0) (d i:Int):L6 n (fun k=> -Y k) X d i=L6 n X Y d i:=by
 unfold L6;rw [AX,v8 h,v8 h]
theorem L7 (h:gI n X Y=0) {d:Int} (h0:lE n X Y d=0):lE n (fun k=> -Y k) X d=0:=by
 obtain ⟨h1,h2⟩:=vt h0
 have eX:zo n (fun k=> -Y k) X d=fun k=> -zn n X Y d k:=by
  funext k
  have e1:=su (eP n X Y (k:Nat))
  have e2:=su (eP n X Y ((k:Int) - 1))
  unfold zo zn
  rw [oM (r9 h _),oM (r9 h _),e1.2.2.1,e2.2.2.1,Int.mul_neg,Int.mul_neg]
  dsimp only
  omega
 have eY:zn n (fun k=> -Y k) X d=zo n X Y d:=by
  funext k
  have e1:=su (eP n X Y (k:Nat))
  have e2:=su (eP n X Y ((k:Int) - 1))
  unfold zo zn
  rw [oM (r9 h _),oM (r9 h _),e1.2.2.2,e2.2.2.2]
 refine Qs ?_ ?_
 ·unfold Hd
  rw [ah]
  intro i hi
  rw [Ub h]
  exact h1 i hi
 ·rw [eX,eY,MJ]
  exact h2
theorem Fy (dx dy i:Int):dD n (fun k=>X k+dx) (fun k=>Y k+dy) i=dD n X Y i:=by
 unfold dD HX
 dsimp only
 (repeat' split)<;>omega
theorem QI (dx dy i:Int):fb n (fun k=>X k+dx) (fun k=>Y k+dy) i=fb n X Y i:=by
 unfold fb
 dsimp only
 omega
theorem TU (dx dy g w i a e:Int):ko n (fun k=>X k+dx) (fun k=>Y k+dy) g w i a e=ko n X Y g w i a e:=by
 unfold ko gv iL gH
 rw [QI,Fy,Fy,Fy,Fy]
end
section
variable {b:dL} {nB:Nat} {B:Nat->Int} {nO:Nat} {O:Nat->Int} {W G L:Int}
theorem TS (h:gI (b.N 0) (b.X 0) (b.Y 0)=0) (G W:Int):iZ b (tB b) G W:=⟨rfl,fun i a e=>TT h G W i a e⟩
theorem GV (b:dL) (dx dy G W:Int):iZ b (mvB b dx dy) G W:=⟨rfl,fun i a e=>TU dx dy G W i a e⟩
theorem aal (h:ij b nB B nO O W G L=0):ij (tB b) nB B nO O W G L=0:=by
 obtain ⟨hc,hs,h3,h4,h5,h6,h7⟩:=iy h
 obtain ⟨b1,b2,b3,b4,b5⟩:=nE hc
 have hr:mZ (tB b) G W L=true:=by
  unfold mZ at h7 ⊢
  rw [ah] at h7 ⊢
  intro i hi j hj
  have h8:=h7 i hi j hj
  obtain ⟨e1,e2,e3,e4⟩:=YC b2 G W i 1 0
  unfold jX SN lD at h8 ⊢
  change decide _=false at h8
  change (decide _)=false
  rw [aj] at h8 ⊢
  change ¬_ at h8
  have f1:(tB b).N 0=b.N 0:=rfl
  have f2:(tB b).X 0=fun k=> -b.Y 0 k:=rfl
  have f3:(tB b).Y 0=b.X 0:=rfl
  have f4:(tB b).dE=b.dE:=rfl
  have g0:(tB b).B j 0= -b.B j 4:=rfl
  have g1:(tB b).B j 1=b.B j 0:=rfl
  have g2:(tB b).B j 2=b.B j 2:=rfl
  have g3:(tB b).B j 3= -b.B j 1:=rfl
  have g4:(tB b).B j 4=b.B j 3:=rfl
  have g5:(tB b).B j 5=b.B j 5:=rfl
  rw [f1,f2,f3,f4,g0,g1,g2,g3,g4,g5,e1,e2,e3,e4]
  omega
 have h5':lE ((tB b).N 0) ((tB b).X 0) ((tB b).Y 0) G=0:=L7 b2 h5
 have h6':lE ((tB b).N 0) ((tB b).X 0) ((tB b).Y 0) (G+W)=0:=L7 b2 h6
 have N4:=Ia hc
 rw [ij,ab (by rw [N4];simp),ab (by rw [hs];simp),ab (show ¬(tB b).dE<L from h3),ab (show ¬(tB b).dE/L>40 from h4),ab (by rw [h5',h6'];simp),ab (by rw [hr];simp)]
end
section
variable {b:dL} {nB:Nat} {B:Nat->Int} {nO:Nat} {O:Nat->Int} {W G L:Int}
theorem MN (h:uH b nB B nO O W G L=0):ij b nB B nO O W G L=0/\(∀i,i<b.N 0->ko (b.N 0) (b.X 0) (b.Y 0) G W (i:Nat) 1 0<=4000*(me nB B nO O))/\q9 (jd b nB B nO O W G L)/\Ka b nB B nO O W G (jd b nB B nO O W G L)=0/\
 jd b nB B nO O W G L=B5 b nB B nO O W G L (fZ b nB B nO O W G).toNat/\(fZ b nB B nO O W G).toNat<=1/\0<=dX b nB B nO O W G (fZ b nB B nO O W G).toNat (b.N 0) (fZ b nB B nO O W G).toNat/\ ¬fZ b nB B nO O W G<0:=by
 by_cases h0:ij b nB B nO O W G L=0
 ·by_cases hm:Ej b nB B nO O W G L=0
  ·have hl: ∀i,i<b.N 0->ko (b.N 0) (b.X 0) (b.Y 0) G W (i:Nat) 1 0<=4000*(me nB B nO O):=by
    cases hx:lgF b G W (me nB B nO O) with
    |false=>exact ((LM h0).1 hx).2
    |true=>have:=(LM h0).2 hx;omega
   have hn: ¬(ij b nB B nO O W G L≠0\/Ej b nB B nO O W G L≠0):=by rw [h0,hm];simp
   rw [uH,ab (by rw [h0];simp),ab (by rw [hm];simp)] at h
   have hb: ¬fZ b nB B nO O W G<0:=fun hx=>by rw [bE,ag hx] at h;exact absurd h (by decide)
   have d0:=Ed h0 hl 0 (b.N 0) 0 (ae _)
   have d1:=Ed h0 hl 1 (b.N 0) 1 (ae _)
   obtain ⟨NZ,hf2,_,_⟩:=Z8 (fun h=>hb h) d0.1 d1.1
   have e1:jd b nB B nO O W G L=B5 b nB B nO O W G L (fZ b nB B nO O W G).toNat:=by rw [jd,ab hn]
   obtain ⟨k1,k2,_⟩:=Z7 h0 hl NZ hf2 hb
   rw [e1]
   exact ⟨h0,hl,k1,k2,rfl,NZ,hf2,hb⟩
  ·rw [uH,ab (by rw [h0];simp),ag hm] at h
   exact absurd h hm
 ·rw [uH,ag h0] at h
  exact absurd h h0
end
end Go.Abs
end
section
set_option maxRecDepth 100000
namespace Go.Abs
open Go
section
variable {b:dL} {nB:Nat} {B:Nat->Int} {nO:Nat} {O:Nat->Int} {W G L:Int}
abbrev tO (b:dL) (nB:Nat) (B:Nat->Int) (nO:Nat) (O:Nat->Int) (W G L:Int):Int:=TC b nB B nO O W G L (jd b nB B nO O W G L)
abbrev TI (b:dL) (nB:Nat) (B:Nat->Int) (nO:Nat) (O:Nat->Int) (W G L:Int):Int:=TD b nB B nO O W G L (jd b nB B nO O W G L)
abbrev tE (b:dL) (nB:Nat) (B:Nat->Int) (nO:Nat) (O:Nat->Int) (W G L:Int):Int:=xy b nB B nO O W G L (jd b nB B nO O W G L)
theorem Ez (b:dL) (nB:Nat) (B:Nat->Int) (nO:Nat) (O:Nat->Int) (W G L:Int):q9 (jd b nB B nO O W G L):=by
 by_cases hE:uH b nB B nO O W G L=0
 ·exact (MN hE).2.2.1
 ·obtain ⟨e1,e2,_⟩:=Vj hE
  exact ⟨by omega,by omega,fun i hi=>by omega⟩
theorem pP (hE:uH b nB B nO O W G L=0):tE b nB B nO O W G L=0:=by
 obtain ⟨h0,hl,ht,hly,_⟩:=MN hE
 rw [tE,xy,ab (by rw [h0];simp),hly]
theorem PV {b':dL} (h:iZ b b' G W) (hE:uH b nB B nO O W G L=0) (UO:uH b' nB B nO O W G L=0):tO b' nB B nO O W G L=tO b nB B nO O W G L/\TI b' nB B nO O W G L=TI b nB B nO O W G L:=by
 have h0:=(MN hE).1
 have h1:=(MN UO).1
 obtain ⟨e1,e2⟩:=PU h h0 h1
 rw [tO,tO,TI,TI,TC,TC,TD,TD,ag (pP hE),ag (pP UO),ag (pP hE),ag (pP UO)]
 exact ⟨e1,e2⟩
end
noncomputable def xX (b:dL) (nB:Nat) (B:Nat->Int) (nO:Nat) (O:Nat->Int) (W G L dx dy:Int):eA:={ dz:=[(1,[(0,.res fun _=>dB true)]),(3,[(1,.res fun _=>dB (Cl b nB nO)),(5,.res fun _=>dI (ij b nB B nO O W G L)),(10,.res fun _=>dB (NG b G W (me nB B nO O)))]),(5,[(4,.res fun _=> .fC [ND (jd b nB B nO O W G L),YN (CM b nB B nO O W G L),dI (uH b nB B nO O W G L)])]),(6,[(2,.res fun _=> .fC [kz (tB b),dI 0])]),(7,[(4,.res fun _=> .fC [kz (iM b dx dy),dI (xp b dx dy)])]),(8,[(12,.res fun _=>dI (fh (tB b)))]),(10,[(5,.res fun _=> .fC [dP (tO b nB B nO O W G L) (TI b nB B nO O W G L),dI (tE b nB B nO O W G L)])]),(11,[(3,.res fun _=> .fC [ND (jd (tB b) nB B nO O W G L),YN (CM (tB b) nB B nO O W G L),dI (uH (tB b) nB B nO O W G L)])]),(15,[(4,.res fun _=> .fC [dP (tO (tB b) nB B nO O W G L) (TI (tB b) nB B nO O W G L),dI (tE (tB b) nB B nO O W G L)])]),(18,[(6,.res fun _=>dI (ij (iM b dx dy) nB B nO O W G L))]),(20,[(3,.res fun _=> .fC [ND (jd (iM b dx dy) nB B nO O W G L),YN (CM (iM b dx dy) nB B nO O W G L),dI (uH (iM b dx dy) nB B nO O W G L)])]),(23,[(4,.res fun _=> .fC [dP (tO (iM b dx dy) nB B nO O W G L) (TI (iM b dx dy) nB B nO O W G L),dI (tE (iM b dx dy) nB B nO O W G L)])])],loops:=[],dK:=[] }
noncomputable abbrev L3 (b:dL) (nB:Nat) (B:Nat->Int) (nO:Nat) (O:Nat->Int) (W:Int) (G:Int) (L:Int):Bool:= !uH b nB B nO O W G L !=(0:Int)
noncomputable abbrev L2 (b:dL) (dx:Int) (dy:Int):Bool:= !(0:Int) !=(0:Int)&&xp b dx dy !=(0:Int)
noncomputable abbrev LZ (b:dL) (nB:Nat) (B:Nat->Int) (nO:Nat) (O:Nat->Int) (W:Int) (G:Int) (L:Int):Bool:= !xy b nB B nO O W G L (jd b nB B nO O W G L) !=(0:Int)
noncomputable abbrev LY (b:dL) (nB:Nat) (nO:Nat) (B:Nat->Int) (O:Nat->Int) (W:Int) (G:Int) (L:Int):Bool:= !if (!Cl b nB nO)=true then true else ij b nB B nO O W G L !=(0:Int)
noncomputable abbrev LX (b:dL) (nB:Nat) (B:Nat->Int) (nO:Nat) (O:Nat->Int) (W:Int) (G:Int) (L:Int) (dx:Int) (dy:Int):Bool:= !uH b nB B nO O W G L !=(0:Int)&&xy (iM b dx dy) nB B nO O W G L (jd (iM b dx dy) nB B nO O W G L)==(0:Int)
noncomputable abbrev LW (b:dL) (dx:Int) (dy:Int):Bool:= !if ((0:Int) !=(0:Int))=true then true else if (xp b dx dy !=(0:Int))=true then xp b dx dy !=(2:Int) else false
noncomputable abbrev LV (b:dL) (nB:Nat) (B:Nat->Int) (nO:Nat) (O:Nat->Int) (W:Int) (G:Int) (L:Int):Bool:= !if (xy b nB B nO O W G L (jd b nB B nO O W G L) !=(0:Int))=true then true else xy (tB b) nB B nO O W G L (jd (tB b) nB B nO O W G L) !=(0:Int)
noncomputable abbrev O3 (b:dL) (dx:Int) (dy:Int):DV:= .agg [.val (.string (iM b dx dy).name),.dt (iM b dx dy).nS [fun i=>(dI ((iM b dx dy).fl i)),fun i=> .dt ((iM b dx dy).N i) [fun ed=>(dI ((iM b dx dy).X i ed)),fun ed=>(dI ((iM b dx dy).Y i ed))]],(dI (iM b dx dy).dE),.dt (iM b dx dy).nO [fun i=>(dI ((iM b dx dy).O i (0:Nat))),fun i=>(dI ((iM b dx dy).O i (1:Nat))),fun i=>(dI ((iM b dx dy).O i (2:Nat))),fun i=>(dI ((iM b dx dy).O i (3:Nat))),fun i=>(dI ((iM b dx dy).O i (4:Nat))),fun i=>(dI ((iM b dx dy).O i (5:Nat)))],.dt (iM b dx dy).nB [fun i=>(dI ((iM b dx dy).B i (0:Nat))),fun i=>(dI ((iM b dx dy).B i (1:Nat))),fun i=>(dI ((iM b dx dy).B i (2:Nat))),fun i=>(dI ((iM b dx dy).B i (3:Nat))),fun i=>(dI ((iM b dx dy).B i (4:Nat))),fun i=>(dI ((iM b dx dy).B i (5:Nat)))]]
noncomputable abbrev O2 (b:dL):DV:= .agg [.val (.string (tB b).1),.dt (tB b).2 [fun i=>(dI ((tB b).3 i)),fun i=> .dt ((tB b).4 i) [fun ed=>(dI ((tB b).5 i ed)),fun ed=>(dI ((tB b).6 i ed))]],(dI (tB b).7),.dt (tB b).8 [fun i=>(dI ((tB b).9 i (0:Nat))),fun i=>(dI ((tB b).9 i (1:Nat))),fun i=>(dI ((tB b).9 i (2:Nat))),fun i=>(dI ((tB b).9 i (3:Nat))),fun i=>(dI ((tB b).9 i (4:Nat))),fun i=>(dI ((tB b).9 i (5:Nat)))],.dt (tB b).10 [fun i=>(dI ((tB b).11 i (0:Nat))),fun i=>(dI ((tB b).11 i (1:Nat))),fun i=>(dI ((tB b).11 i (2:Nat))),fun i=>(dI ((tB b).11 i (3:Nat))),fun i=>(dI ((tB b).11 i (4:Nat))),fun i=>(dI ((tB b).11 i (5:Nat)))]]
noncomputable abbrev yQ (b:dL) (nB:Nat) (B:Nat->Int) (nO:Nat) (O:Nat->Int) (W:Int) (G:Int) (L:Int) (dx:Int) (dy:Int):DV:= .agg [.dt (jd (iM b dx dy) nB B nO O W G L).nC [fun i=>(dI ((jd (iM b dx dy) nB B nO O W G L).C i))],.dt (jd (iM b dx dy) nB B nO O W G L).nR [fun i=>(dI ((jd (iM b dx dy) nB B nO O W G L).F i)),fun i=>(dI ((jd (iM b dx dy) nB B nO O W G L).SX i)),fun i=>(dI ((jd (iM b dx dy) nB B nO O W G L).SY i)),fun i=>(dI ((jd (iM b dx dy) nB B nO O W G L).Ln i)),fun i=> .dt ((jd (iM b dx dy) nB B nO O W G L).nP i) [fun ed=>(dI ((jd (iM b dx dy) nB B nO O W G L).P i ed))],fun i=> .dt ((jd (iM b dx dy) nB B nO O W G L).nQ i) [fun ed=>(dI ((jd (iM b dx dy) nB B nO O W G L).Q i ed))]]]
noncomputable abbrev O1 (b:dL) (nB:Nat) (B:Nat->Int) (nO:Nat) (O:Nat->Int) (W:Int) (G:Int) (L:Int):DV:= .agg [.val (.string b.name),.dt b.nS [fun i=>(dI (b.fl i)),fun i=> .dt (b.N i) [fun ed=>(dI (b.X i ed)),fun ed=>(dI (b.Y i ed))]],(dI b.dE),.dt b.nO [fun i=>(dI (b.O i (0:Nat))),fun i=>(dI (b.O i (1:Nat))),fun i=>(dI (b.O i (2:Nat))),fun i=>(dI (b.O i (3:Nat))),fun i=>(dI (b.O i (4:Nat))),fun i=>(dI (b.O i (5:Nat)))],.dt b.nB [fun i=>(dI (b.B i (0:Nat))),fun i=>(dI (b.B i (1:Nat))),fun i=>(dI (b.B i (2:Nat))),fun i=>(dI (b.B i (3:Nat))),fun i=>(dI (b.B i (4:Nat))),fun i=>(dI (b.B i (5:Nat)))],.dt nB [fun i=>(dI (B i))],.dt nO [fun i=>(dI (O i))],(dI W),(dI G),(dI L)]
noncomputable abbrev O0 (nB:Nat) (B:Nat->Int) (nO:Nat) (O:Nat->Int) (W:Int) (G:Int) (L:Int):DV:= .agg [.dt nB [fun i=>(dI (B i))],.dt nO [fun i=>(dI (O i))],(dI W),(dI G),(dI L)]
noncomputable abbrev OZ (b:dL) (nB:Nat) (B:Nat->Int) (nO:Nat) (O:Nat->Int) (W:Int) (G:Int) (L:Int):DV:= .agg [.dt (jd (tB b) nB B nO O W G L).nC [fun i=>(dI ((jd (tB b) nB B nO O W G L).C i))],.dt (jd (tB b) nB B nO O W G L).nR [fun i=>(dI ((jd (tB b) nB B nO O W G L).F i)),fun i=>(dI ((jd (tB b) nB B nO O W G L).SX i)),fun i=>(dI ((jd (tB b) nB B nO O W G L).SY i)),fun i=>(dI ((jd (tB b) nB B nO O W G L).Ln i)),fun i=> .dt ((jd (tB b) nB B nO O W G L).nP i) [fun ed=>(dI ((jd (tB b) nB B nO O W G L).P i ed))],fun i=> .dt ((jd (tB b) nB B nO O W G L).nQ i) [fun ed=>(dI ((jd (tB b) nB B nO O W G L).Q i ed))]]]
noncomputable abbrev OY (b:dL) (nB:Nat) (B:Nat->Int) (nO:Nat) (O:Nat->Int) (W:Int) (G:Int) (L:Int):DV:= .agg [.dt (jd b nB B nO O W G L).nC [fun i=>(dI ((jd b nB B nO O W G L).C i))],.dt (jd b nB B nO O W G L).nR [fun i=>(dI ((jd b nB B nO O W G L).F i)),fun i=>(dI ((jd b nB B nO O W G L).SX i)),fun i=>(dI ((jd b nB B nO O W G L).SY i)),fun i=>(dI ((jd b nB B nO O W G L).Ln i)),fun i=> .dt ((jd b nB B nO O W G L).nP i) [fun ed=>(dI ((jd b nB B nO O W G L).P i ed))],fun i=> .dt ((jd b nB B nO O W G L).nQ i) [fun ed=>(dI ((jd b nB B nO O W G L).Q i ed))]]]
noncomputable abbrev OX (b:dL) (nB:Nat) (B:Nat->Int) (nO:Nat) (O:Nat->Int) (W:Int) (G:Int) (L:Int) (dx:Int) (dy:Int):DV:= .fC [(yQ b nB B nO O W G L dx dy),.agg [.dt (CM (iM b dx dy) nB B nO O W G L).nT [fun i=>(dI ((CM (iM b dx dy) nB B nO O W G L).T i))],.dt (CM (iM b dx dy) nB B nO O W G L).n0 [fun i=>(dI ((CM (iM b dx dy) nB B nO O W G L).A0 i)),fun i=>(dI ((CM (iM b dx dy) nB B nO O W G L).A1 i))],.dt (CM (iM b dx dy) nB B nO O W G L).n1 [fun i=>(dI ((CM (iM b dx dy) nB B nO O W G L).B0 i)),fun i=>(dI ((CM (iM b dx dy) nB B nO O W G L).B1 i))]],(dI (uH (iM b dx dy) nB B nO O W G L))]
namespace w3w
noncomputable section
structure Z where
 b:dL
 nB:Nat
 B:Nat->Int
 nO:Nat
 O:Nat->Int
 W:Int
 G:Int
 L:Int
 dx:Int
 dy:Int
variable (z:Z) (i0:Nat) (p:Prop) (P:List Prop) (a b c:Int) (k:Nat) (g h:Bool) (A B:DV) (E F:List DV) (U:VT) (kY:dL) (yS:List (Nat->DV)) (jM qn j13c j13d:Nat->DV) (sX:gE) (Y5:nY)
abbrev x0:=iM z.b z.dx z.dy
abbrev x1:=jd kY z.nB z.B z.nO z.O z.W z.G z.L
abbrev x2:=DV.dt k (jM::qn::yS)
abbrev x3:=x1 z (x0 z)
abbrev x4:=DV.dt k [jM]
abbrev x5:=dI (dL.O (x0 z) i0 k)
abbrev x6:=dI (dL.B (x0 z) i0 k)
abbrev x7:=x1 z z.b
abbrev x8:List (Nat->DV):=[jM,qn,j13c,j13d]
abbrev x9:=x1 z (tB z.b)
abbrev dM:=xp z.b z.dx z.dy
abbrev dQ:=CM kY z.nB z.B z.nO z.O z.W z.G z.L
abbrev dS:=uH kY z.nB z.B z.nO z.O z.W z.G z.L
abbrev dT:=(!(a !=0))=true
abbrev dU:=xy kY z.nB z.B z.nO z.O z.W z.G z.L sX
abbrev dY:=dS z z.b
abbrev eb:=dI (dL.O (tB z.b) i0 k)
abbrev eE:=dI (dL.B (tB z.b) i0 k)
abbrev eH:=if g=true then true else h
abbrev eT:=DV.agg (x4 k jM::A::E)
abbrev eG:=dQ z (x0 z)
abbrev eZ:=x2 kY.nO yS jM qn
abbrev fi:=x2 kY.nB yS jM qn
abbrev fR:=x2 kY.nS [] jM qn
abbrev fU:=x2 (kY.N i0) [] jM qn
abbrev fS:=DV.agg (DV.val (Value.string kY.name)::A::E)
abbrev fz:=x4 z.nO (fun i0=>dI (z.O i0))
abbrev gi:= !(Cl z.b z.nB z.nO)
abbrev iA:=ij kY z.nB z.B z.nO z.O z.W z.G z.L
abbrev jw:=dU z (x0 z) (x3 z)==0
abbrev iw:=VT.dk [dv prog k E (DV.fC F)] U
abbrev jk:=eT z.nB (fz z) [dI z.W,dI z.G,dI z.L] (fun i0=>dI (z.B i0))
abbrev jj:=TC kY z.nB z.B z.nO z.O z.W z.G z.L sX
abbrev gQ:=TD kY z.nB z.B z.nO z.O z.W z.G z.L sX
abbrev iz:=dU z z.b (x7 z)
abbrev mc:=x2 sX.nR yS jM qn
abbrev kB:=dQ z (tB z.b)
abbrev j8:=eH (a !=0) (if g=true then h else false)
abbrev oO:=fR (x0 z) (fun i0=>dI (dL.fl (x0 z) i0)) (fun i0=>fU i0 (x0 z) (fun i1=>dI (dL.X (x0 z) i0 i1)) (fun i1=>dI (dL.Y (x0 z) i0 i1)))
abbrev mq:List DV:=[dI (dL.dE (x0 z)),eZ (x0 z) (x8 (fun i0=>x5 z i0 (2:Nat)) (fun i0=>x5 z i0 (3:Nat)) (fun i0=>x5 z i0 (4:Nat)) (fun i0=>x5 z i0 (5:Nat))) (fun i0=>x5 z i0 (0:Nat)) (fun i0=>x5 z i0 (1:Nat)),fi (x0 z) (x8 (fun i0=>x6 z i0 (2:Nat)) (fun i0=>x6 z i0 (3:Nat)) (fun i0=>x6 z i0 (4:Nat)) (fun i0=>x6 z i0 (5:Nat))) (fun i0=>x6 z i0 (0:Nat)) (fun i0=>x6 z i0 (1:Nat))]
abbrev nH:=VT.ite g (VT.done [false=true]) U
abbrev sS:=eH (gi z) (iA z z.b !=0)
abbrev yb:=((!(dY z !=0))&&(jw z))=true
abbrev wR:=j8 (0:Int) (dM z !=0) (dM z !=2)
abbrev mU:List Prop:=p::ri ((!g)=true)::P
abbrev so:=VT.dk (ri (dT a)::ri (dT b)::P) U
abbrev xb:=eH (iz z !=0) (dU z (tB z.b) (x9 z) !=0)
abbrev qJ:=x2 Y5.n0 [] jM qn
abbrev sn:=g=false->(!h)=true
abbrev mb:=(a !=0)=false->dT b
abbrev qZ:=iw (18:Nat) [A,jk z,B] E U
abbrev tH:List DV:=[DV.val (Value.agg (Array.mk [Value.int IntKind.i64 a,Value.int IntKind.i64 b])),dI c]
abbrev zf:=fR (tB z.b) (fun i0=>dI (dL.fl (tB z.b) i0)) (fun i0=>fU i0 (tB z.b) (fun i1=>dI (dL.X (tB z.b) i0 i1)) (fun i1=>dI (dL.Y (tB z.b) i0 i1)))
abbrev Gj:=eT (gE.nC (x3 z)) (mc (x8 (fun i0=>dI (gE.SY (x3 z) i0)) (fun i0=>dI (gE.Ln (x3 z) i0)) (fun i0=>x4 (gE.nP (x3 z) i0) (fun i1=>dI (gE.P (x3 z) i0 i1))) (fun i0=>x4 (gE.nQ (x3 z) i0) (fun i1=>dI (gE.Q (x3 z) i0 i1)))) (fun i0=>dI (gE.F (x3 z) i0)) (fun i0=>dI (gE.SX (x3 z) i0)) (x3 z)) [] (fun i0=>dI (gE.C (x3 z) i0))
abbrev ze:List DV:=[dI (dL.dE (tB z.b)),eZ (tB z.b) (x8 (fun i0=>eb z i0 (2:Nat)) (fun i0=>eb z i0 (3:Nat)) (fun i0=>eb z i0 (4:Nat)) (fun i0=>eb z i0 (5:Nat))) (fun i0=>eb z i0 (0:Nat)) (fun i0=>eb z i0 (1:Nat)),fi (tB z.b) (x8 (fun i0=>eE z i0 (2:Nat)) (fun i0=>eE z i0 (3:Nat)) (fun i0=>eE z i0 (4:Nat)) (fun i0=>eE z i0 (5:Nat))) (fun i0=>eE z i0 (0:Nat)) (fun i0=>eE z i0 (1:Nat))]
abbrev tG:=(jj z z.b (x7 z)==a)&&((gQ z z.b (x7 z)==b)&&true)
abbrev B7:List DV:=[fS (fR z.b (fun i0=>dI (z.b.fl i0)) (fun i0=>fU i0 z.b (fun i1=>dI (z.b.X i0 i1)) (fun i1=>dI (z.b.Y i0 i1)))) [dI z.b.dE,eZ z.b (x8 (fun i0=>dI (z.b.O i0 2)) (fun i0=>dI (z.b.O i0 3)) (fun i0=>dI (z.b.O i0 4)) (fun i0=>dI (z.b.O i0 5))) (fun i0=>dI (z.b.O i0 0)) (fun i0=>dI (z.b.O i0 1)),fi z.b (x8 (fun i0=>dI (z.b.B i0 2)) (fun i0=>dI (z.b.B i0 3)) (fun i0=>dI (z.b.B i0 4)) (fun i0=>dI (z.b.B i0 5))) (fun i0=>dI (z.b.B i0 0)) (fun i0=>dI (z.b.B i0 1)),x4 z.nB (fun i0=>dI (z.B i0)),fz z,dI z.W,dI z.G,dI z.L] z.b]
abbrev M6:=((!((0:Int) !=(0:Int)))&&(dM z !=0))=true
abbrev yL:=eT (gE.nC (x7 z)) (mc (x8 (fun i0=>dI (gE.SY (x7 z) i0)) (fun i0=>dI (gE.Ln (x7 z) i0)) (fun i0=>x4 (gE.nP (x7 z) i0) (fun i1=>dI (gE.P (x7 z) i0 i1))) (fun i0=>x4 (gE.nQ (x7 z) i0) (fun i1=>dI (gE.Q (x7 z) i0 i1)))) (fun i0=>dI (gE.F (x7 z) i0)) (fun i0=>dI (gE.SX (x7 z) i0)) (x7 z)) [] (fun i0=>dI (gE.C (x7 z) i0))
abbrev tf:=eT (gE.nC (x9 z)) (mc (x8 (fun i0=>dI (gE.SY (x9 z) i0)) (fun i0=>dI (gE.Ln (x9 z) i0)) (fun i0=>x4 (gE.nP (x9 z) i0) (fun i1=>dI (gE.P (x9 z) i0 i1))) (fun i0=>x4 (gE.nQ (x9 z) i0) (fun i1=>dI (gE.Q (x9 z) i0 i1)))) (fun i0=>dI (gE.F (x9 z) i0)) (fun i0=>dI (gE.SX (x9 z) i0)) (x9 z)) [] (fun i0=>dI (gE.C (x9 z) i0))
abbrev Jn:=NG z.b z.G z.W (me z.nB z.B z.nO z.O)
abbrev tF:=so [ri (dT (dM z)),dT (dM z)->dv prog 29 [fS (oO z) (mq z) (x0 z),jk z] (dI (iA z (x0 z))),ri (dT (dM z)),(dM z !=0)=false->dT (dM z)] (dM z) (dM z) (VT.ite (eH (dM z !=0) (iA z (x0 z) !=0)) (VT.done [rf true]) (iw (8:Nat) [fS (oO z) (mq z) (x0 z),jk z] [Gj z,eT (nY.nT (eG z)) (qJ (fun i0=>dI (nY.A0 (eG z) i0)) (fun i0=>dI (nY.A1 (eG z) i0)) (eG z)) [x2 (nY.n1 (eG z)) [] (fun i0=>dI (nY.B0 (eG z) i0)) (fun i0=>dI (nY.B1 (eG z) i0))] (fun i0=>dI (nY.T (eG z) i0)),dI (dS z (x0 z))] (nH (dY z !=dS z (x0 z)) (qZ z (fS (oO z) (mq z) (x0 z)) (Gj z) (tH (jj z (x0 z) (x3 z)) (gQ z (x0 z) (x3 z)) (dU z (x0 z) (x3 z))) (so [ri (yb z),ri (yb z),ri (dT (dY z)),dT (dY z)->jw z=true->yb z,mb (dY z) (dY z)] (dY z) (dY z) (VT.done [j8 (dY z) (jw z) (tG z (jj z (x0 z) (x3 z)) (gQ z (x0 z) (x3 z)))=true]))))))
abbrev xt:VT:=VT.dk [dv prog 22 [] (dB true)] (nH (!true) (VT.dk (mU (dv prog 23 (B7 z) (dB (Cl z.b z.nB z.nO))) (mU ((!(gi z))=true->dv prog 24 (B7 z) (dI (iA z z.b))) (mU (sn (gi z) (gi z)) (mU ((!(sS z))=true->dv prog 25 (B7 z) (dB (Jn z))) [sn (sS z) (sS z)] (sS z)) (sS z)) (gi z)) (gi z)) (VT.ite (eH (sS z) (!(Jn z))) (VT.done [rf true]) (iw (8:Nat) [kz z.b,jk z] [yL z,eT (nY.nT (dQ z z.b)) (qJ (fun i0=>dI (nY.A0 (dQ z z.b) i0)) (fun i0=>dI (nY.A1 (dQ z z.b) i0)) (dQ z z.b)) [x2 (nY.n1 (dQ z z.b)) [] (fun i0=>dI (nY.B0 (dQ z z.b) i0)) (fun i0=>dI (nY.B1 (dQ z z.b) i0))] (fun i0=>dI (nY.T (dQ z z.b) i0)),dI (dY z)] (iw (26:Nat) [kz z.b] [fS (zf z) (ze z) (tB z.b),dI 0] (iw (27:Nat) [kz z.b,dI z.dx,dI z.dy] [fS (oO z) (mq z) (x0 z),dI (dM z)] (so [ri (M6 z),ri (dT (0:Int)),dT (0:Int)->(dM z !=0)=true->M6 z,mb (0:Int) (0:Int),ri ((!(wR z))=true),(!(wR z))=true->dv prog 28 [fS (zf z) (ze z) (tB z.b)] (dI (fh (tB z.b))),ri ((!(wR z))=true),sn (wR z) (wR z)] (0:Int) (0:Int) (nH (eH (wR z) (fh (tB z.b) !=0)) (qZ z (kz z.b) (yL z) (tH (jj z z.b (x7 z)) (gQ z z.b (x7 z)) (iz z)) (iw (8:Nat) [fS (zf z) (ze z) (tB z.b),jk z] [tf z,eT (nY.nT (kB z)) (qJ (fun i0=>dI (nY.A0 (kB z) i0)) (fun i0=>dI (nY.A1 (kB z) i0)) (kB z)) [x2 (nY.n1 (kB z)) [] (fun i0=>dI (nY.B0 (kB z) i0)) (fun i0=>dI (nY.B1 (kB z) i0))] (fun i0=>dI (nY.T (kB z) i0)),dI (dS z (tB z.b))] (nH (dY z !=dS z (tB z.b)) (VT.ite (dY z==0) (qZ z (fS (zf z) (ze z) (tB z.b)) (tf z) (tH (jj z (tB z.b) (x9 z)) (gQ z (tB z.b) (x9 z)) (dU z (tB z.b) (x9 z))) (VT.dk (ri (dT (iz z))::mb (iz z) (iz z)::mU (ri ((!(xb z))=true)) [sn (xb z) (xb z)] (xb z)) (nH (eH (xb z) (!(tG z (jj z (tB z.b) (x9 z)) (gQ z (tB z.b) (x9 z))))) (tF z)))) (tF z)))))))))))))
end
end w3w
open w3w in
theorem Ck (b:dL) (nB:Nat) (B:Nat->Int) (nO:Nat) (O:Nat->Int) (W G L dx dy:Int) :dv prog 5 [QN b nB B nO O W G L,dI dx,dI dy] (dB true):=by
 refine dm dJ (xX b nB B nO O W G L dx dy) (V:=xt ⟨b,nB,B,nO,O,W,G,L,dx,dy⟩) (by kernel_rfl) ?_
 simp only [xt,x0,x1,x2,x3,x4,x5,x6,x7,x8,x9,dM,dQ,dS,dT,dU,dY,eb,eE,eH,eT,eG,eZ,fi,fR,fU,fS,fz,gi,iA,jw,iw,jk,jj,gQ,iz,mc,kB,j8,oO,mq,nH,sS,yb,wR,mU,so,xb,qJ,sn,mb,qZ,tH,zf,Gj,ze,tG,B7,M6,yL,tf,Jn,tF,Rf,VT.holds,dC,Sq]
 refine ⟨Su,fun h=>(by cases h),fun _=>⟨⟨Ke b nB B nO O W G L,fun hj=> ?_,fun hx=>Uk b nB B nO O W G L hx.2⟩,fun hk=> ?_⟩⟩
 ·obtain ⟨⟨_,_,_,j4⟩,_⟩:=Mh hj
  exact NJ b nB B nO O W G L (fun i hi=>by have:=j4 i hi;omega)
 obtain ⟨uf,hlit⟩:=hk
 have hj:Cl b nB nO=true:=by
  cases h:Cl b nB nO with
  |true=>rfl
  |false=>exact absurd (.inl h) uf
 have h0:ij b nB B nO O W G L=0:=cQ fun h=>uf (.inr h)
 obtain ⟨⟨_,_,_,j4⟩,_⟩:=Mh hj
 have hN: ∀i,i<b.nS->b.N i<=1000:=fun i hi=>by have:=j4 i hi;omega
 obtain ⟨hc,hs,_⟩:=iy h0
 obtain ⟨_,b2,_⟩:=nE hc
 have hB:=Ia hc
 have hA:=aal h0
 have sT:=TS b2 G W
 have hNt: ∀i,i<(tB b).nS->(tB b).N i<=1000:=hN
 have hET:=Il sT h0 hA
 have hmv:xp b dx dy=0\/xp b dx dy=2:=by
  rw [xp,ag hc,mvX]
  split
  ·split
   ·exact .inl rfl
   ·exact .inr rfl
  ·exact .inr rfl
 have hMv:xp b dx dy=0->iM b dx dy=mvB b dx dy:=fun h=>by rw [iM,ag h]
 have hNm: ∀i,i<(iM b dx dy).nS->(iM b dx dy).N i<=1000:=by
  by_cases h:xp b dx dy=0
  ·rw [hMv h];exact hN
  ·rw [iM,ab h];exact fun i hi=>absurd hi (aG i)
 have hEM: ¬¬xp b dx dy=0/\ij (iM b dx dy) nB B nO O W G L=0->uH (iM b dx dy) nB B nO O W G L=uH b nB B nO O W G L:=fun h=>by
  have h1:=h.2
  rw [hMv (bP.1 h.1)] at h1 ⊢
  exact Il (GV b dx dy G W) h0 h1
 have hTM: ¬¬xp b dx dy=0/\ij (iM b dx dy) nB B nO O W G L=0->uH b nB B nO O W G L=0->tE (iM b dx dy) nB B nO O W G L=0/\tO b nB B nO O W G L=tO (iM b dx dy) nB B nO O W G L/\TI b nB B nO O W G L=TI (iM b dx dy) nB B nO O W G L:=fun h hE=>by
  have h1:=hEM h
  rw [hE] at h1
  have h2:=pP h1
  have h3:=h.2
  rw [hMv (bP.1 h.1)] at h1 h2 h3 ⊢
  obtain ⟨t1,t2⟩:=PV (GV b dx dy G W) hE h1
  exact ⟨h2,t1.symm,t2.symm⟩
 refine ⟨zI b nB B nO O W G L hN,Yq b hc hN,aan b dx dy hN,fun _=>Ic (tB b) hNt,fun hx=> ?_,fun _=>⟨pO b nB B nO O W G L _ hN (Ez b nB B nO O W G L),zI (tB b) nB B nO O W G L hNt,fun hx=>absurd hET.symm hx,fun _=>⟨fun hE=>⟨pO (tB b) nB B nO O W G L _ hNt (Ez (tB b) nB B nO O W G L),fun hx=> ?_,fun _=>⟨fun _=>qG (iM b dx dy) nB B nO O W G L hNm,fun hm=>⟨zI (iM b dx dy) nB B nO O W G L hNm,fun hx=>absurd (hEM hm).symm hx,fun _=>⟨pO (iM b dx dy) nB B nO O W G L _ hNm (Ez (iM b dx dy) nB B nO O W G L),fun h1 h2=>⟨h1,h2⟩,.inr (hTM hm hE)⟩⟩⟩⟩,
  fun hE=>⟨fun _=>qG (iM b dx dy) nB B nO O W G L hNm,fun hm=>⟨zI (iM b dx dy) nB B nO O W G L hNm,fun hx=>absurd (hEM hm).symm hx,fun _=>⟨pO (iM b dx dy) nB B nO O W G L _ hNm (Ez (iM b dx dy) nB B nO O W G L),fun h1 h2=>⟨h1,h2⟩,.inl hE⟩⟩⟩⟩⟩⟩
 ·exfalso
  rcases hx with (hx|hx)|hx
  ·exact hx trivial
  ·omega
  ·exact hx hB
 ·exfalso
  have h1:=hET
  rw [hE] at h1
  obtain ⟨t1,t2⟩:=PV sT hE h1
  rcases hx with (hx|hx)|hx
  ·exact hx (pP hE)
  ·exact hx (pP h1)
  ·exact absurd (hx t1.symm t2.symm) (by decide)
end Go.Abs
end
