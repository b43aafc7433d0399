/- Contracts and what they stand on. -/
import Derived.Test.YtoinjphpfpklmaaGreatDoorK41
import Derived.Test.YtoinjphpfpklmaaGreatDoorRows
import Derived.ProofKit
import Derived.LaidMore
import Derived.Stop.Joined
set_option linter.unusedVariables false
set_option linter.unusedSimpArgs false
section
set_option maxRecDepth 100000
namespace Go.Abs
open Go
def jX (b:dL) (G W L:Int) (i j:Nat):Bool:=SN b (oZ (b.N 0) (b.X 0) (b.Y 0) G W i 1 0) (oX (b.N 0) (b.X 0) (b.Y 0) G W i 1 0) 0 (oY (b.N 0) (b.X 0) (b.Y 0) G W i 1 0) (oW (b.N 0) (b.X 0) (b.Y 0) G W i 1 0) (kG b.dE L) j
def mZ (b:dL) (G W L:Int):Bool:=decide (∀i,i<b.N 0-> ∀j,j<b.nB->jX b G W L i j=false)
def ij (b:dL) (nB:Nat) (B:Nat->Int) (nO:Nat) (O:Nat->Int) (W G L:Int):Int:=
 if fh b≠0 then fh b else if Lay.fm nB B nO O W G L≠0 then Lay.fm nB B nO O W G L else if b.dE<L then 2 else if b.dE/L>40 then 8
 else if lE (b.N 0) (b.X 0) (b.Y 0) G≠0\/lE (b.N 0) (b.X 0) (b.Y 0) (G+W)≠0 then 12 else if mZ b G W L=false then 12 else 0
abbrev yo (b:dL) (nB:Nat) (B:Nat->Int) (nO:Nat) (O:Nat->Int) (W G L:Int):DV:=
 uX (.val (.string b.name)) (.dt b.nS (Nh b)) b.dE (.dt b.nO (o9 b)) (.dt b.nB (Sk b)) (Lay.nums nB B) (Lay.nums nO O) W G L (dI (Lay.fQ nB B nO O W G L)) (.dt (Lay.ir nB B nO O W G L) (Lay.AB (Lay.eI nB B nO O) (Lay.ew nB) (fun i=>decide (nB<=i)))) (b.N 0) (b.X 0) (b.Y 0)
def T3:fx:= .res fun l=> .fC [.any,dI (lE (aN l) (aX l) (aY l) (aI l 1))]
def rWaK:fx:= .res fun l=> .fC [.dt (aN l) (yc (aN l) (aX l) (aY l)),dI 0]
def rCoK:fx:= .res fun l=> .fC [.dt (aN l) [fun k=>dI (ov (aN l) (aX l) (aY l) k)],dI 0]
def Nq (b:dL):fx:= .res fun _=>my (b.N 0) (b.X 0) (b.Y 0)
def rRbx (b:dL) (G W L:Int):fx:= .res fun l=>bx (oZ (b.N 0) (b.X 0) (b.Y 0) G W (aI l 1) (aI l 2) (aI l 3)) (oX (b.N 0) (b.X 0) (b.Y 0) G W (aI l 1) (aI l 2) (aI l 3)) 0 (oY (b.N 0) (b.X 0) (b.Y 0) G W (aI l 1) (aI l 2) (aI l 3)) (oW (b.N 0) (b.X 0) (b.Y 0) G W (aI l 1) (aI l 2) (aI l 3)) (kG b.dE L)
theorem L5 {n:Nat} {X Y:Nat->Int} (h:gI n X Y=0) {f:Int} (hf:0<=f/\f<n) (al r:Int) (h1: -9000000<=al/\al<=9000000) (h2: -9000000<=r/\r<=9000000):
 dv prog 139 [.val (.agg #[.int .i64 (X f.toNat),.int .i64 (Y f.toNat),.int .i64 (X (ix n ((f.toNat:Nat)+1))),.int .i64 (Y (ix n ((f.toNat:Nat)+1))),.int .i64 (fb n X Y (f.toNat:Nat)),.int .i64 (dD n X Y (f.toNat:Nat))]),dI al,dI r]
  (dP (xa n X Y f al r) (wZ n X Y f al r)):=by
 obtain ⟨hX,hY⟩:=eS h
 have hd:=eP n X Y f
 have x1:=hX f.toNat (by omega)
 have y1:=hY f.toNat (by omega)
 have hc:=T7 (X f.toNat) (Y f.toNat) (X (ix n ((f.toNat:Nat)+1))) (Y (ix n ((f.toNat:Nat)+1))) (fb n X Y (f.toNat:Nat)) (dD n X Y (f.toNat:Nat)) al r (by rw [bG hf.1];omega) (by unfold m3;omega) (by unfold m3;omega) h1 h2
 have e:(f.toNat:Int)=f:=bG hf.1
 rw [e] at hc ⊢
 obtain ⟨k1,k2⟩:=TK (d:=dD n X Y f) (by omega)
 rw [k1,k2] at hc
 have e1:X f.toNat+al*kX (dD n X Y f)+r*kW (dD n X Y f)=xa n X Y f al r:=by rw [xa,Mk hf]
 have e2:Y f.toNat+al*kW (dD n X Y f)+r* -kX (dD n X Y f)=wZ n X Y f al r:=by rw [wZ,Mk hf,Int.mul_neg];omega
 rw [e1,e2] at hc
 exact hc
section
variable {b:dL} {nB:Nat} {B:Nat->Int} {nO:Nat} {O:Nat->Int} {W G L:Int}
theorem jV (h:Lay.fm nB B nO O W G L=0):mK G W/\1<=L/\L<=10000:=by
 unfold Lay.fm at h
 split at h
 ·cases h
 ·split at h
  ·cases h
  ·split at h
   ·cases h
   ·split at h
    ·cases h
    ·rename_i h4
     unfold Lay.nI at h4
     simp only [aj,not_or,bP] at h4
     unfold mK
     omega
theorem aak (h:fh b≠0):ij b nB B nO O W G L=fh b:=by rw [ij,ag h]
theorem aaj (h:fh b=0) (h2:Lay.fm nB B nO O W G L≠0):ij b nB B nO O W G L=Lay.fm nB B nO O W G L:=by rw [ij,ab (by rw [h];simp),ag h2]
theorem aai (h:fh b=0) (h2:Lay.fm nB B nO O W G L=0) (h3:b.dE<L):ij b nB B nO O W G L=2:=by rw [ij,ab (by rw [h];simp),ab (by rw [h2];simp),ag h3]
theorem aah (h:fh b=0) (h2:Lay.fm nB B nO O W G L=0) (h3: ¬b.dE<L) (h4:b.dE/L>40):ij b nB B nO O W G L=8:=by rw [ij,ab (by rw [h];simp),ab (by rw [h2];simp),ab h3,ag h4]
theorem aag (h:fh b=0) (h2:Lay.fm nB B nO O W G L=0) (h3: ¬b.dE<L) (h4: ¬b.dE/L>40) (h5:lE (b.N 0) (b.X 0) (b.Y 0) G≠0\/lE (b.N 0) (b.X 0) (b.Y 0) (G+W)≠0):ij b nB B nO O W G L=12:=by
 rw [ij,ab (by rw [h];simp),ab (by rw [h2];simp),ab h3,ab h4,ag h5]
theorem aaf (h:fh b=0) (h2:Lay.fm nB B nO O W G L=0) (h3: ¬b.dE<L) (h4: ¬b.dE/L>40) (h5: ¬(lE (b.N 0) (b.X 0) (b.Y 0) G≠0\/lE (b.N 0) (b.X 0) (b.Y 0) (G+W)≠0)) (h6:mZ b G W L=false):ij b nB B nO O W G L=12:=by
 rw [ij,ab (by rw [h];simp),ab (by rw [h2];simp),ab h3,ab h4,ab h5,ag h6]
theorem ar_7 (h:fh b=0) (h2:Lay.fm nB B nO O W G L=0) (h3: ¬b.dE<L) (h4: ¬b.dE/L>40) (h5: ¬(lE (b.N 0) (b.X 0) (b.Y 0) G≠0\/lE (b.N 0) (b.X 0) (b.Y 0) (G+W)≠0)) (h6:mZ b G W L=true):ij b nB B nO O W G L=0:=by
 rw [ij,ab (by rw [h];simp),ab (by rw [h2];simp),ab h3,ab h4,ab h5,ab (by rw [h6];simp)]
theorem iy (h:ij b nB B nO O W G L=0):fh b=0/\Lay.fm nB B nO O W G L=0/\ ¬b.dE<L/\ ¬b.dE/L>40/\lE (b.N 0) (b.X 0) (b.Y 0) G=0/\lE (b.N 0) (b.X 0) (b.Y 0) (G+W)=0/\mZ b G W L=true:=by
 by_cases h1:fh b=0
 ·by_cases h2:Lay.fm nB B nO O W G L=0
  ·by_cases h3:b.dE<L
   ·rw [aai h1 h2 h3] at h;cases h
   ·by_cases h4:b.dE/L>40
    ·rw [aah h1 h2 h3 h4] at h;cases h
    ·by_cases h5:lE (b.N 0) (b.X 0) (b.Y 0) G≠0\/lE (b.N 0) (b.X 0) (b.Y 0) (G+W)≠0
     ·rw [aag h1 h2 h3 h4 h5] at h;cases h
     ·cases h6:mZ b G W L with
      |false=>rw [aaf h1 h2 h3 h4 h5 h6] at h;cases h
      |true=>exact ⟨h1,h2,h3,h4,by omega,by omega,rfl⟩
  ·rw [aaj h1 h2] at h;exact absurd h h2
 ·rw [aak h1] at h;exact absurd h h1
theorem nE (h:fh b=0):0<b.nS/\gI (b.N 0) (b.X 0) (b.Y 0)=0/\0<=b.dE/\b.dE<=1000000/\b.nB<=50:=by
 obtain ⟨c1,c2,c3,c4,c5,c6⟩:=lq h
 have hs:=JX c2
 obtain ⟨f1,f2,f3⟩:=mQ c2 c3 c4
 exact ⟨by omega,f1 0 (by omega),f2.2.1,f2.2.2,by omega⟩
theorem aaa (h:fh b=0) {j:Nat} (hj:j<b.nB):WC b j=0:=by
 obtain ⟨c1,c2,c3,c4,c5,c6⟩:=lq h
 have:=c6 j hj
 unfold BC at this
 split at this
 ·rename_i h1;exact absurd this h1
 ·rename_i h1;exact bP.1 h1
theorem Yr (hr:0<=b.dE/\b.dE<=1000000) (hL:1<=L/\L<=10000) (h40: ¬b.dE/L>40):0<kG b.dE L/\kG b.dE L<=1000000:=by
 obtain ⟨t1,t2,t3,t4⟩:=JR hr hL
 refine ⟨t3,?_⟩
 have:=Int.mul_le_mul_of_nonneg_right (show b.dE/L+1<=41 by omega) (show 0<=L by omega)
 unfold kG
 omega
theorem TW (hc:fh b=0) (hs:Lay.fm nB B nO O W G L=0) (h40: ¬b.dE/L>40) (e1:lE (b.N 0) (b.X 0) (b.Y 0) G=0) (e2:lE (b.N 0) (b.X 0) (b.Y 0) (G+W)=0) {i:Nat} (hi:i<b.N 0):
 nA (oZ (b.N 0) (b.X 0) (b.Y 0) G W i 1 0) (oX (b.N 0) (b.X 0) (b.Y 0) G W i 1 0) 0 (oY (b.N 0) (b.X 0) (b.Y 0) G W i 1 0) (oW (b.N 0) (b.X 0) (b.Y 0) G W i 1 0) (kG b.dE L)=0:=by
 obtain ⟨b1,b2,b3,b4,b5⟩:=nE hc
 obtain ⟨g1,g2,g3⟩:=jV hs
 obtain ⟨i1,i2,i3,i4,i5,i6⟩:=aab b2 g1 e1 e2 hi
 obtain ⟨t1,t2⟩:=Yr ⟨b3,b4⟩ ⟨g2,g3⟩ h40
 have z:gN 0=true:=by decide
 have t:gN (kG b.dE L)=true:=by unfold gN;rw [ah];omega
 rw [nA,ab (fun h=>h ⟨i1,i2,z,i3,i4,t⟩),ab (by omega)]
theorem sC (hc:fh b=0) (hs:Lay.fm nB B nO O W G L=0) (h40: ¬b.dE/L>40) (e1:lE (b.N 0) (b.X 0) (b.Y 0) G=0) (e2:lE (b.N 0) (b.X 0) (b.Y 0) (G+W)=0) {i j:Nat} (hi:i<b.N 0) (hj:j<b.nB):
 Uv (oZ (b.N 0) (b.X 0) (b.Y 0) G W i 1 0) (oX (b.N 0) (b.X 0) (b.Y 0) G W i 1 0) 0 (oY (b.N 0) (b.X 0) (b.Y 0) G W i 1 0) (oW (b.N 0) (b.X 0) (b.Y 0) G W i 1 0) (kG b.dE L) (b.B j 0) (b.B j 1) (b.B j 2) (b.B j 3) (b.B j 4) (b.B j 5)=jX b G W L i j:=by
 have k1:=TW hc hs h40 e1 e2 hi
 have k2:nA (b.B j 0) (b.B j 1) (b.B j 2) (b.B j 3) (b.B j 4) (b.B j 5)=0:=aaa hc hj
 unfold Uv U0
 rw [ab (by rw [k1];simp),k2]
 rfl
theorem DC {i j:Nat} (hi:i<b.N 0) (hj:j<b.nB) (h:jX b G W L i j=true):mZ b G W L=false:=by
 unfold mZ
 rw [aj]
 intro hx
 rw [hx i hi j hj] at h;cases h
theorem Al (h: ∀k,k<b.N 0-> ∀j,j<b.nB->jX b G W L k j=false):mZ b G W L=true:=bz h
theorem Ky {p:Nat->Bool} {n:Nat} (h:ki p n>=0): ∃j,j<n/\p j=true:=by
 by_cases hx: ∀j,j<n->p j=false
 ·rw [ou hx] at h;omega
 ·simp only [Classical.not_forall,Bool.not_eq_false] at hx
  obtain ⟨j,h1,h2⟩:=hx
  exact ⟨j,h1,h2⟩
theorem Bh {p:Nat->Bool}: ∀{n:Nat},¬ki p n>=0-> ∀j,j<n->p j=false
 |0,_,j,hj=>absurd hj (aG j)
 |n+1,h,j,hj=>by
  rw [ki] at h
  split at h
  ·rename_i h1;exact absurd h1 h
  ·rename_i h1
   split at h
   ·omega
   ·rename_i h2
    by_cases e:j=n
    ·rw [e];simpa using h2
    ·exact Bh h1 j (by omega)
end
theorem Lj {n:Nat} {X Y:Nat->Int} (h:gI n X Y=0):dv prog 93 [my n X Y] (.fC [.dt n (yc n X Y),dI 0]):=by
 have hn:=fO h
 have:=Tx n X Y (by omega)
 rw [ME,ab (by rw [h];simp),h] at this
 exact this
theorem Ee {n:Nat} {X Y:Nat->Int} (h:gI n X Y=0):dv prog 94 [my n X Y] (.fC [.dt n [fun k=>dI (ov n X Y k)],dI 0]):=by
 have hn:=fO h
 have:=Og n X Y (by omega)
 rw [ME,ab (by rw [h];simp),h] at this
 exact this
def ZN (G W:Int) (j:Nat):Int:=[G,G+W].getD j 0
noncomputable def C6 (b:dL) (nB:Nat) (B:Nat->Int) (nO:Nat) (O:Nat->Int) (W G L:Int):eA:={ dz:=[(1,[(1,G2 b)]),(4,[(1,.res fun _=> .fC [Lay.Ot nB B nO O W G L,dI (Lay.fm nB B nO O W G L)])]),(9,[(4,.pos)]),(15,[(2,T3)]),(20,[(2,rWaK)]),(21,[(2,rCoK)]),(27,[(2,rRbx b G W L)]),(31,[(2,VM)])],loops:=[(1,{ ι:=Nat,keep:=[2,3,7,9,60],boxes:=[2,3,7],ts:=fun _ i=>[(61,dI (i:Int))],inv:=fun _ i=>i<=2/\ ∀j,j<i->lE (b.N 0) (b.X 0) (b.Y 0) (ZN G W j)=0,mu:=fun _ i=>2 - i,rd:=fun _ σ=>(ez (σ.get 61)).toNat }),(3,{ ι:=Nat,keep:=[2,14,109],boxes:=[2,14],ts:=fun _ i=>[(110,dI (i:Int))],inv:=fun _ i=>i<=b.N 0/\ ∀k,k<i-> ∀j,j<b.nB->jX b G W L k j=false,mu:=fun _ i=>b.N 0 - i,rd:=fun _ σ=>(ez (σ.get 110)).toNat }),(5,{ ι:=Nat,keep:=[2,14,109,110,15,16,117,118],boxes:=[2,14,16],ts:=fun _ j=>[(119,dI (j:Int))],inv:=fun σ j=>j<=b.nB/\ ∀k,k<j->jX b G W L (ez (σ.get 110)).toNat k=false,mu:=fun _ j=>b.nB - j,rd:=fun _ σ=>(ez (σ.get 119)).toNat })],dK:=[] }
namespace w2x
noncomputable section
structure Z where
 b:dL
 nB:Nat
 B:Nat->Int
 nO:Nat
 O:Nat->Int
 W:Int
 G:Int
 L:Int
variable (z:Z) (i0 i1 i2:Nat) (p:Prop) (P:List Prop) (a b:Int) (k:Nat) (A:DV) (E:List DV) (U:VT) (jM:Nat->Prop) (yR:Nat->VT) (xA:List Value)
abbrev x0:=Int.toNat 0
abbrev x1:=z.b.N x0
abbrev x2:Int:=(i0:Int)
abbrev x3:=i0<z.b.nB->rf (z.b.B i0 k)
abbrev x4:=i0<z.b.nO->rf (z.b.O i0 k)
abbrev x5:=i0<x1 z->rf a
abbrev x6:=Lay.ir z.nB z.B z.nO z.O z.W z.G z.L
abbrev x7:=z.b.B (Int.toNat (i1:Int)) k
abbrev x8:List Value:=Value.int IntKind.i64 a::xA
abbrev x9:=VT.dk [p] U
abbrev dM:List Prop:=rf z.b.nB::(∀(i0:Nat),x3 z i0 (0:Nat))::(∀(i0:Nat),x3 z i0 (1:Nat))::(∀(i0:Nat),x3 z i0 (2:Nat))::(∀(i0:Nat),x3 z i0 (3:Nat))::(∀(i0:Nat),x3 z i0 (4:Nat))::(∀(i0:Nat),x3 z i0 (5:Nat))::P
abbrev dQ:List Prop:=rf z.b.name::rf z.b.nS::(∀i0<z.b.nS,rf (z.b.fl i0))::(∀i0<z.b.nS,rf (z.b.N i0)/\(∀i1<z.b.N i0,rf (z.b.X i0 i1))/\(∀i1<z.b.N i0,rf (z.b.Y i0 i1)))::rf z.b.dE::rf z.b.nO::(∀(i0:Nat),x4 z i0 (0:Nat))::(∀(i0:Nat),x4 z i0 (1:Nat))::(∀(i0:Nat),x4 z i0 (2:Nat))::(∀(i0:Nat),x4 z i0 (3:Nat))::(∀(i0:Nat),x4 z i0 (4:Nat))::(∀(i0:Nat),x4 z i0 (5:Nat))::dM z P
abbrev dS:=Int.toNat (x2 i0+1)
abbrev dT:=Lay.fQ z.nB z.B z.nO z.O z.W z.G z.L
abbrev dU:=VT.done [a=ij z.b z.nB z.B z.nO z.O z.W z.G z.L]
abbrev dY:=kG z.b.dE z.L
abbrev eb:=oZ (z.b.N 0) (z.b.X 0) (z.b.Y 0) z.G z.W (x2 i0) 1 0
abbrev eE:=oX (z.b.N 0) (z.b.X 0) (z.b.Y 0) z.G z.W (x2 i0) 1 0
abbrev eH:=oY (z.b.N 0) (z.b.X 0) (z.b.Y 0) z.G z.W (x2 i0) 1 0
abbrev eT:=oW (z.b.N 0) (z.b.X 0) (z.b.Y 0) z.G z.W (x2 i0) 1 0
abbrev eG:=x8 (x7 z i1 k) xA
abbrev eZ:=z.b.X x0 (ix (x1 z) (x2 i0+1))
abbrev fi:=z.b.Y x0 (ix (x1 z) (x2 i0+1))
abbrev fR:= ∀i0<x6 z,rf (decide (z.nB<=i0))
abbrev fU:List Prop:=p::rf (x1 z)::(∀(i0:Nat),x5 z i0 (z.b.X x0 i0))::(∀(i0:Nat),x5 z i0 (z.b.Y x0 i0))::P
abbrev fS:=fb (x1 z) (z.b.X x0) (z.b.Y x0) (x2 i0)
abbrev fz:=dD (x1 z) (z.b.X x0) (z.b.Y x0) (x2 i0)
abbrev gi:=ov (x1 z) (z.b.X x0) (z.b.Y x0) i0
abbrev iA:=dQ z (rf z.nB::(∀i0<z.nB,rf (z.B i0))::rf z.nO::(∀i0<z.nO,rf (z.O i0))::rf z.W::rf z.G::rf z.L::rf (↑(dT z):Int)::rf (x6 z)::(∀i0<x6 z,rf (Lay.eI z.nB z.B z.nO z.O i0))::(∀i0<x6 z,rf (Lay.ew z.nB i0))::P)
abbrev jw:=DV.fC [A,dI a]
abbrev iw:=Int.toNat ((i1:Int)+1)
abbrev jk:= ∀(i0:Nat),x5 z i0 (gi z i0)
abbrev jj:List Prop:=p::rf (↑(x1 z):Int)::P
abbrev gQ:=dQ z (iA z (fU z (fR z) ((∀(i0:Nat),x5 z i0 (eZ z i0))::(∀(i0:Nat),x5 z i0 (fi z i0))::(∀(i0:Nat),x5 z i0 (fS z i0))::(∀(i0:Nat),x5 z i0 (fz z i0))::rf (x1 z)::P)))
abbrev iz:=VT.ite (a !=0) (dU z b) U
abbrev mc:=DV.val (Value.agg (Array.mk xA))
abbrev kB:=DV.dt (x1 z) [fun i0=>dI (z.b.X x0 i0),fun i0=>dI (z.b.Y x0 i0)]
abbrev j8:=List.getD [z.G,z.G+z.W] (Int.toNat (x2 i0)) 0
abbrev oO:=Lay.fm z.nB z.B z.nO z.O z.W z.G z.L
abbrev mq:=DV.dt (x1 z) [fun i0=>dI (gi z i0)]
abbrev nH:=VT.loop Nat jM x0 (jj z (0=(x0:Int)) P) yR
abbrev sS:=x9 (dh (x2 i0+1)) (VT.done P)
abbrev yb:=x2 i0+1=(↑(dS i0):Int)
abbrev wR:=fU z p (rf z.G::rf (z.G+z.W)::iA z P)
abbrev mU:=dv prog k [kB z] (jw (0:Int) A)
abbrev so:=DV.dt (x6 z) [fun i0=>dI (Lay.eI z.nB z.B z.nO z.O i0),fun i0=>dI (Lay.ew z.nB i0),fun i0=>dB (decide (z.nB<=i0))]
abbrev xb:=i2<k->jX z.b z.G z.W z.L (Int.toNat (x2 i0)) i2=false
abbrev qJ:= ∀i0<z.b.nB,jX z.b z.G z.W z.L i1 i0=false
abbrev sn:=DV.dt (x1 z) [fun i0=>dI (z.b.X x0 i0),fun i0=>dI (z.b.Y x0 i0),fun i0=>dI (eZ z i0),fun i0=>dI (fi z i0),fun i0=>dI (fS z i0),fun i0=>dI (fz z i0)]
abbrev mb:List Prop:=rf (x2 i0)::rf (x2 i0)::dM z (rf (z.b.nB:Int)::gQ z (jk z::rf (eb z i0)::rf (eE z i0)::rf (0:Int)::rf (eH z i0)::rf (eT z i0)::rf (dY z)::P))
abbrev qZ:=mc (x8 (eb z i0) (x8 (eE z i0) (x8 (0:Int) (x8 (eH z i0) (x8 (eT z i0) (x8 (dY z) []))))))
abbrev tH:=lE (x1 z) (z.b.X x0) (z.b.Y x0) (j8 z i0)
abbrev zf:=lE (z.b.N 0) (z.b.X 0) (z.b.Y 0) (ZN z.G z.W i1)=0
abbrev Gj:List DV:=DV.dt z.nB [fun i0=>dI (z.B i0)]::DV.dt z.nO [fun i0=>dI (z.O i0)]::dI z.W::dI z.G::E
abbrev ze:=Uv (eb z i0) (eE z i0) 0 (eH z i0) (eT z i0) (dY z) (x7 z i1 (0:Nat)) (x7 z i1 (1:Nat)) (x7 z i1 (2:Nat)) (x7 z i1 (3:Nat)) (x7 z i1 (4:Nat)) (x7 z i1 (5:Nat))
abbrev xt:VT:=x9 (dv prog 41 [kz z.b] (dI (fh z.b))) (iz z (fh z.b) (fh z.b) (x9 (dv prog 57 [DV.agg (Gj z [dI z.L])] (jw (oO z) (DV.agg [dI (↑(dT z):Int),so z]))) (iz z (oO z) (oO z) (VT.ite (decide (z.b.dE<z.L)) (dU z (2:Int)) (x9 (0<=z.b.dE/\0<z.L/\z.b.dE<=9223372036854775807) (VT.ite (decide ((z.b.dE/z.L)>(40:Int))) (dU z (8:Int)) (x9 ((0:Int)<=(0:Int)/\0<(z.b.nS:Int)) (x9 (dh (z.G+z.W)) (VT.loop Nat (fun i0=>i0<=2/\(∀i1<i0,zf z i1)) x0 (wR z (0=(x0:Int)) [fR z]) (fun i0=>VT.ite (decide ((x2 i0)<(2:Int))) (x9 (0<=x2 i0/\x2 i0<(↑(2:Nat):Int)) (x9 (dv prog 13 [kB z,dI (j8 z i0)] (jw (tH z i0) DV.any)) (iz z (tH z i0) (12:Int) (sS i0 (wR z (yb i0) [fR z,dS i0<=2/\(∀i1<dS i0,zf z i1),2 - dS i0<2 - i0]))))) (x9 (mU z (93:Nat) (sn z)) (x9 (mU z (94:Nat) (mq z)) (VT.ite ((↑(x1 z):Int) !=(↑(x1 z):Int)) (dU z (12:Int)) (nH z (gQ z [jk z]) (fun i0=>i0<=z.b.N 0/\(∀i1<i0,qJ z i1)) (fun i0=>VT.ite (decide ((x2 i0)<(↑(x1 z):Int))) (x9 (dv prog 40 [DV.dV (DV.val (Value.string z.b.name)::DV.dt z.b.nS [fun i0=>dI (z.b.fl i0),fun i0=>DV.dt (z.b.N i0) [fun i1=>dI (z.b.X i0 i1),fun i1=>dI (z.b.Y i0 i1)]]::dI z.b.dE::DV.dt z.b.nO [fun i0=>dI (z.b.O i0 0),fun i0=>dI (z.b.O i0 1),fun i0=>dI (z.b.O i0 2),fun i0=>dI (z.b.O i0 3),fun i0=>dI (z.b.O i0 4),fun i0=>dI (z.b.O i0 5)]::DV.dt z.b.nB [fun i0=>dI (z.b.B i0 0),fun i0=>dI (z.b.B i0 1),fun i0=>dI (z.b.B i0 2),fun i0=>dI (z.b.B i0 3),fun i0=>dI (z.b.B i0 4),fun i0=>dI (z.b.B i0 5)]::Gj z [dI z.L,dI (↑(dT z):Int),so z,sn z,mq z]),dI (x2 i0),dI 1,dI 0] (qZ z i0)) (nH z (mb z i0 []) (fun i1=>i1<=z.b.nB/\(∀(i2:Nat),xb z i0 i2 i1)) (fun i1=>VT.ite (decide ((i1:Int)<(z.b.nB:Int))) (x9 (0<=(i1:Int)/\(i1:Int)<(z.b.nB:Int)) (x9 (dv prog 12 [qZ z i0,mc (eG z i1 (0:Nat) (eG z i1 (1:Nat) (eG z i1 (2:Nat) (eG z i1 (3:Nat) (eG z i1 (4:Nat) (eG z i1 (5:Nat) []))))))] (jw (U0 (eb z i0) (eE z i0) 0 (eH z i0) (eT z i0) (dY z) (x7 z i1 (0:Nat)) (x7 z i1 (1:Nat)) (x7 z i1 (2:Nat)) (x7 z i1 (3:Nat)) (x7 z i1 (4:Nat)) (x7 z i1 (5:Nat))) (dB (ze z i0 i1)))) (VT.ite (ze z i0 i1) (dU z (12:Int)) (x9 (dh ((i1:Int)+1)) (VT.done (jj z ((i1:Int)+1=(↑(iw i1):Int)) (mb z i0 [iw i1<=z.b.nB/\(∀(i2:Nat),xb z i0 i2 (iw i1)),z.b.nB - iw i1<z.b.nB - i1]))))))) (sS i0 (jj z (yb i0) (gQ z [jk z,dS i0<=z.b.N 0/\(∀i1<dS i0,qJ z i1),z.b.N 0 - dS i0<z.b.N 0 - i0])))))) (dU z (0:Int)))))))))))))))))
end
end w2x
open w2x in
theorem En (b:dL) (nB:Nat) (B:Nat->Int) (nO:Nat) (O:Nat->Int) (W G L:Int) (hN: ∀i,i<b.nS->b.N i<=1000):dv prog 31 [kz b,Lay.sys nB B nO O W G L] (.fC [.any,dI (ij b nB B nO O W G L)]):=by
 refine dm dJ (C6 b nB B nO O W G L) (V:=xt ⟨b,nB,B,nO,O,W,G,L⟩) (by kernel_rfl) ?_
 simp only [xt,x0,x1,x2,x3,x4,x5,x6,x7,x8,x9,dM,dQ,dS,dT,dU,dY,eb,eE,eH,eT,eG,eZ,fi,fR,fU,fS,fz,gi,iA,jw,iw,jk,jj,gQ,iz,mc,kB,j8,oO,mq,nH,sS,yb,wR,mU,so,xb,qJ,sn,mb,qZ,tH,zf,Gj,ze,Rf,VT.holds,dC,Sq]
 refine ⟨zF b hN,fun h=>(aak h).symm,fun hc=>⟨Lay.AE nB B nO O W G L,fun h=>(aaj hc h).symm,fun hs=> ?_⟩⟩
 obtain ⟨b1,b2,b3,b4,b5⟩:=nE hc
 obtain ⟨g1,g2,g3⟩:=jV hs
 have hg:=g1
 unfold mK at hg
 have hn:=fO b2
 obtain ⟨hX,hY⟩:=eS b2
 refine ⟨fun h=>(aai hc hs h).symm,fun h3=>⟨by omega,fun h=>(aah hc hs h3 h).symm,fun h4=>⟨by omega,by unfold dh;omega,rfl,⟨by omega,fun j hj=>absurd hj (aG j)⟩,fun i ⟨hi,hb⟩=>⟨fun dR=> ?_,fun iG=> ?_⟩⟩⟩⟩
 ·have Ms:i=0\/i=1:=by omega
  have hd:0<=ZN G W i/\ZN G W i<=1000000:=by
   rcases Ms with rfl|rfl
   ·show 0<=G/\G<=1000000;omega
   ·show 0<=G+W/\G+W<=1000000;omega
  refine ⟨by omega,Hc _ _ _ _ b2 hd,fun h=>(aag hc hs h3 h4 ?_).symm,fun h=>⟨by unfold dh;omega,rfl,⟨by omega,fun j hj=> ?_⟩,by omega⟩⟩
  ·rcases Ms with rfl|rfl
   ·exact .inl h
   ·exact .inr h
  ·by_cases e:j=i
   ·rw [e];exact h
   ·exact hb j (by omega)
 ·obtain rfl:i=2:=by omega
  have e1:lE (b.N 0) (b.X 0) (b.Y 0) G=0:=hb 0 (by omega)
  have e2:lE (b.N 0) (b.X 0) (b.Y 0) (G+W)=0:=hb 1 (by omega)
  have h5: ¬(lE (b.N 0) (b.X 0) (b.Y 0) G≠0\/lE (b.N 0) (b.X 0) (b.Y 0) (G+W)≠0):=by omega
  refine ⟨Lj b2,Ee b2,fun h=>absurd trivial h,fun _=>⟨rfl,⟨aq _,fun k hk=>absurd hk (aG k)⟩,fun i ⟨hi,hb⟩=>⟨fun dR=> ?_,fun iG=> ?_⟩⟩⟩
  ·refine ⟨DD _ _ _ _ _ _ _ _ _ _ _ _ _ _ _ _ _ _ (by omega) (by omega) hX hY g1 (by omega) (by omega) ⟨b3,b4⟩ ⟨g2,g3⟩,rfl,⟨aq _,fun k hk=>absurd hk (aG k)⟩,fun j ⟨hj,hbj⟩=>⟨fun xC=> ?_,fun NX=> ?_⟩⟩
   ·rw [sC hc hs h4 e1 e2 (i:=i) (j:=j) (by omega) (by omega)]
    refine ⟨by omega,?_,fun h=>(aaf hc hs h3 h4 h5 (DC (by omega) (by omega) h)).symm,fun h=>⟨by unfold dh;omega,rfl,⟨by omega,fun k hk=> ?_⟩,by omega⟩⟩
    ·have:=DM (oZ (b.N 0) (b.X 0) (b.Y 0) G W i 1 0) (oX (b.N 0) (b.X 0) (b.Y 0) G W i 1 0) 0 (oY (b.N 0) (b.X 0) (b.Y 0) G W i 1 0) (oW (b.N 0) (b.X 0) (b.Y 0) G W i 1 0) (kG b.dE L) (b.B j 0) (b.B j 1) (b.B j 2) (b.B j 3) (b.B j 4) (b.B j 5)
     rw [sC hc hs h4 e1 e2 (i:=i) (j:=j) (by omega) (by omega)] at this
     exact this
    ·by_cases e:k=j
     ·rw [e];exact h
     ·exact hbj k (by omega)
   ·refine ⟨by unfold dh;omega,rfl,⟨by omega,fun k hk j' oJ=> ?_⟩,by omega⟩
    by_cases e:k=i
    ·rw [e];exact hbj j' (by omega)
    ·exact hb k (by omega) j' oJ
  ·exact (ar_7 hc hs h3 h4 h5 (Al fun k hk j hj=>hb k (by omega) j hj)).symm
noncomputable def IZ (b:dL):eA:={ dz:=[],loops:=[],dK:=[] }
theorem sJ (b:dL) (hs:0<b.nS):dv prog 90 [kz b] (my (b.N 0) (b.X 0) (b.Y 0)):=by
 refine dm dJ (IZ b) (V:= .dk [(0:Int)<=0/\(0:Int)<(b.nS:Int)] (.done [b.N (0:Int).toNat=b.N 0,∀i<b.N 0,b.X (0:Int).toNat i=b.X 0 i,∀i<b.N 0,b.Y (0:Int).toNat i=b.Y 0 i])) (by kernel_rfl) ?_
 simp only [VT.holds,dC,Sq]
 omega
noncomputable def K6 (b:dL) (nB:Nat) (B:Nat->Int) (nO:Nat) (O:Nat->Int) (W G L f a e:Int):eA:={ dz:=[(1,[(1,Nq b),(2,vg),(4,Nq b),(5,VP)]),(3,[(7,.res fun l=>dI (xk G W (aI l 1) (decide (a=1)))),(19,.pos),(24,.res fun l=>dI (xk G W (aI l 1) (decide (e=0))))])],loops:=[],dK:=[] }
namespace w2z
noncomputable section
structure Z where
 b:dL
 nB:Nat
 B:Nat->Int
 nO:Nat
 O:Nat->Int
 W:Int
 G:Int
 L:Int
 f:Int
 a:Int
 e:Int
variable (z:Z) (a b c d:Int) (k:Nat) (pj:List (Nat->DV))
abbrev x0:=ov (z.b.N 0) (z.b.X 0) (z.b.Y 0) k
abbrev x1:=(z.f+1)%(↑(z.b.N 0):Int)
abbrev x2:=xk z.G z.W (x0 z (Int.toNat a)) (decide (b=c))
abbrev x3:=DV.dt (z.b.N 0) ((fun i0=>dI (z.b.X 0 i0))::pj)
abbrev x4:=x3 z [fun i0=>dI (z.b.Y 0 i0)]
abbrev x5:=0<=a/\b<(↑(z.b.N 0):Int)
abbrev x6:=fb (z.b.N 0) (z.b.X 0) (z.b.Y 0) a
abbrev x7:=dv prog 90 [kz z.b] (x4 z)
abbrev x8:=x6 z (↑(Int.toNat z.f):Int)+x2 z (x1 z) z.e (0:Int)
abbrev x9:=dv prog 156 [DV.agg [DV.dt z.nB [fun i0=>dI (z.B i0)],DV.dt z.nO [fun i0=>dI (z.O i0)],dI z.W,dI z.G,dI z.L],dI (x0 z (Int.toNat a)),dB (b==c)] (dI d)
abbrev xt:VT:=VT.dk [x7 z,dv prog 131 [x4 z] (x3 z [fun i0=>dI (z.b.Y 0 i0),fun i0=>dI (z.b.X 0 (ix (z.b.N 0) ((i0:Int)+1))),fun i0=>dI (z.b.Y 0 (ix (z.b.N 0) ((i0:Int)+1))),fun i0=>dI (x6 z (i0:Int)),fun i0=>dI (dD (z.b.N 0) (z.b.X 0) (z.b.Y 0) (i0:Int))]),x7 z,dv prog 136 [x4 z] (DV.dt (z.b.N 0) [fun i0=>dI (x0 z i0)])] (VT.dk [x5 z z.f z.f,x9 z z.f z.a (1:Int) (x2 z z.f z.a (1:Int)),dh (-(x2 z z.f z.a (1:Int))),x5 z z.f z.f,dh (z.f+1),x5 z (z.f+1) (0:Int),x5 z (x1 z) (x1 z),x9 z (x1 z) z.e (0:Int) (x2 z (x1 z) z.e (0:Int)),dh (x8 z)] (VT.done [(-(x2 z z.f z.a (1:Int)))=gv (z.b.N 0) (z.b.X 0) (z.b.Y 0) z.G z.W z.f z.a,x8 z=iL (z.b.N 0) (z.b.X 0) (z.b.Y 0) z.G z.W z.f z.e]))
end
end w2z
open w2z in
theorem RV (b:dL) (nB:Nat) (B:Nat->Int) (nO:Nat) (O:Nat->Int) (W G L f a e:Int) (hs:0<b.nS) (h:gI (b.N 0) (b.X 0) (b.Y 0)=0) (hg:mK G W) (hf:0<=f/\f<b.N 0) (ha:0<=a/\a<=1) (he:0<=e/\e<=1):dv prog 122 [kz b,Lay.sys nB B nO O W G L,dI f,dI a,dI e] (.fC [dI (gv (b.N 0) (b.X 0) (b.Y 0) G W f a),dI (iL (b.N 0) (b.X 0) (b.Y 0) G W f e)]):=by
 refine dm dJ (K6 b nB B nO O W G L f a e) (V:=xt ⟨b,nB,B,nO,O,W,G,L,f,a,e⟩) (by kernel_rfl) ?_
 simp only [xt,x0,x1,x2,x3,x4,x5,x6,x7,x8,x9,Rf,VT.holds,dC,Sq]
 have hn:=fO h
 obtain ⟨hX,hY⟩:=eS h
 rw [R9 hf.1,Bx (by omega),bG hf.1,Vq ha,Vp he]
 have b1:=sj (n:=b.N 0) (X:=b.X 0) (Y:=b.Y 0) f hg ha
 have b2:=xS f (by omega) hX hY hg he
 have q1:=bm (f+1) (show (b.N 0:Int)≠0 by omega)
 have q2:=br (f+1) (show (0:Int)<b.N 0 by omega)
 refine ⟨⟨sJ b hs,q8 _ _ _ h,sJ b hs,Bw _ _ _ h⟩,⟨hf,?_,by unfold dh;omega,hf,by unfold dh;omega,by omega,⟨q1,q2⟩,?_,by unfold dh;omega⟩,rfl,rfl⟩
 ·have:=LS nB B nO O W G L (gH (b.N 0) (b.X 0) (b.Y 0) f) (decide (a=1)) hg
  exact this
 ·have:=LS nB B nO O W G L (gH (b.N 0) (b.X 0) (b.Y 0) (f+1)) (decide (e=0)) hg
  exact this
noncomputable def Dc (b:dL) (nB:Nat) (B:Nat->Int) (nO:Nat) (O:Nat->Int) (W G L f a e:Int):eA:={ dz:=[(1,[(5,.res fun _=> .fC [dI (gv (b.N 0) (b.X 0) (b.Y 0) G W f a),dI (iL (b.N 0) (b.X 0) (b.Y 0) G W f e)])])],loops:=[],dK:=[] }
theorem DB (b:dL) (nB:Nat) (B:Nat->Int) (nO:Nat) (O:Nat->Int) (W G L f a e:Int) (hs:0<b.nS) (h:gI (b.N 0) (b.X 0) (b.Y 0)=0) (hg:mK G W) (hf:0<=f/\f<b.N 0) (ha:0<=a/\a<=1) (he:0<=e/\e<=1):dv prog 73 [kz b,Lay.sys nB B nO O W G L,dI f,dI a,dI e] (dI (ko (b.N 0) (b.X 0) (b.Y 0) G W f a e)):=by
 refine dm dJ (Dc b nB B nO O W G L f a e) (V:= .dk [dv prog 122 [(kz b),.agg [.dt nB [fun i=>(dI (B i))],.dt nO [fun i=>(dI (O i))],(dI W),(dI G),(dI L)],(dI f),(dI a),(dI e)] (.fC [(dI (gv (b.N 0) (b.X 0) (b.Y 0) G W f a)),(dI (iL (b.N 0) (b.X 0) (b.Y 0) G W f e))])] (.dk [dh (iL (b.N 0) (b.X 0) (b.Y 0) G W f e - gv (b.N 0) (b.X 0) (b.Y 0) G W f a)] (.done [iL (b.N 0) (b.X 0) (b.Y 0) G W f e - gv (b.N 0) (b.X 0) (b.Y 0) G W f a=ko (b.N 0) (b.X 0) (b.Y 0) G W f a e]))) (by kernel_rfl) ?_
 simp only [VT.holds,dC,Sq]
 have hn:=fO h
 obtain ⟨hX,hY⟩:=eS h
 have b1:=sj (n:=b.N 0) (X:=b.X 0) (Y:=b.Y 0) f hg ha
 have b2:=xS f (by omega) hX hY hg he
 exact ⟨RV b nB B nO O W G L f a e hs h hg hf ha he,by unfold dh;omega,rfl⟩
noncomputable def Gc (b:dL) (nB:Nat) (B:Nat->Int) (nO:Nat) (O:Nat->Int) (W G L:Int):eA:={ dz:=[],loops:=[(0,{ ι:=Nat,keep:=[2,3],boxes:=[2,3],ts:=fun _ i=>[(6,dI (((i:Int)+1)*L))],rw:=fun _ i=>[(5,1,i,[fun k=>dI (((k:Int)+1)*L)])],inv:=fun _ i=>(i:Int)*L<=b.dE,mu:=fun _ i=>(b.dE - (i:Int)*L).toNat,rd:=fun _ σ=>(ez (σ.get 6)/L - 1).toNat })],dK:=[] }
namespace w31
noncomputable section
structure Z where
 b:dL
 nB:Nat
 B:Nat->Int
 nO:Nat
 O:Nat->Int
 W:Int
 G:Int
 L:Int
variable (z:Z) (i0:Nat) (P:List Prop) (k:Nat)
abbrev x0:=((k:Int)+1)*z.L
abbrev x1:=i0<z.b.nO->rf (z.b.O i0 k)
abbrev x2:=i0<z.b.nB->rf (z.b.B i0 k)
abbrev x3:=Int.toNat ((x0 z i0+z.L)/z.L - 1)
abbrev x4:=Int.toNat (z.L/z.L - 1)
abbrev x5:=Int.toNat (z.b.dE - (k:Int)*z.L)
abbrev x6:List Prop:=rf z.b.name::rf z.b.nS::(∀i0<z.b.nS,rf (z.b.fl i0))::(∀i0<z.b.nS,rf (z.b.N i0)/\(∀i1<z.b.N i0,rf (z.b.X i0 i1))/\(∀i1<z.b.N i0,rf (z.b.Y i0 i1)))::rf z.b.dE::rf z.b.nO::(∀(i0:Nat),x1 z i0 (0:Nat))::(∀(i0:Nat),x1 z i0 (1:Nat))::(∀(i0:Nat),x1 z i0 (2:Nat))::(∀(i0:Nat),x1 z i0 (3:Nat))::(∀(i0:Nat),x1 z i0 (4:Nat))::(∀(i0:Nat),x1 z i0 (5:Nat))::rf z.b.nB::(∀(i0:Nat),x2 z i0 (0:Nat))::(∀(i0:Nat),x2 z i0 (1:Nat))::(∀(i0:Nat),x2 z i0 (2:Nat))::(∀(i0:Nat),x2 z i0 (3:Nat))::(∀(i0:Nat),x2 z i0 (4:Nat))::(∀(i0:Nat),x2 z i0 (5:Nat))::rf z.nB::(∀i0<z.nB,rf (z.B i0))::rf z.nO::(∀i0<z.nO,rf (z.O i0))::rf z.W::rf z.G::rf z.L::P
abbrev xt:VT:=VT.loop Nat (fun i0=>(i0:Int)*z.L<=z.b.dE) (x4 z) ((z.L=x0 z (x4 z))::rf (0:Nat)::(x4 z=0)::(x4 z=0)::x6 z []) (fun i0=>VT.ite (decide ((x0 z i0)<=z.b.dE)) (VT.dk [i0<=i0,(i0+1)*((nat_lit 7)+1)<=140737488355328,(1:Nat)<=(1:Nat)] (VT.dk [dh (x0 z i0+z.L)] (VT.done ((x0 z i0+z.L=x0 z (x3 z i0))::rf (0:Nat)::(i0+1=x3 z i0)::(i0+1=x3 z i0)::(∀i1<x3 z i0,(if (decide (i1<i0))=true then (x0 z i1) else (x0 z i0))=x0 z i1)::x6 z [(↑(x3 z i0):Int)*z.L<=z.b.dE,x5 z (x3 z i0)<x5 z i0])))) (VT.done [i0<=i0,i0=Int.toNat (z.b.dE/z.L),∀i0<Int.toNat (z.b.dE/z.L),rf (x0 z i0)]))
end
end w31
open w31 in
theorem QE (b:dL) (nB:Nat) (B:Nat->Int) (nO:Nat) (O:Nat->Int) (W G L:Int) (hr:0<=b.dE/\b.dE<=1000000) (hL:1<=L/\L<=10000):dv prog 140 [kz b,Lay.sys nB B nO O W G L] (Lay.nums (b.dE/L).toNat (fun k=>((k:Int)+1)*L)):=by
 refine dm dJ (Gc b nB B nO O W G L) (V:=xt ⟨b,nB,B,nO,O,W,G,L⟩) (by kernel_rfl) ?_
 simp only [xt,x0,x1,x2,x3,x4,x5,x6,Rf,VT.holds,dC,Sq]
 have hd: ∀i:Nat,(((i:Int)+1)*L+L)/L - 1=(i:Int)+1:=fun i=>by
  rw [show ((i:Int)+1)*L+L=((i:Int)+2)*L by rw [show (i:Int)+2=i+1+1 by omega,Int.add_mul (i+1:Int) 1,Int.one_mul],Int.mul_ediv_cancel _ (by omega)]
  omega
 have h0:L/L - 1=0:=by rw [Int.ediv_self (by omega)];rfl
 simp only [hd,h0]
 refine ⟨⟨by simp,rfl,rfl⟩,by simp;omega,fun i hi=>⟨fun h1=> ?_,fun h1=> ?_⟩⟩
 ·have e:((i:Int)+1)*L+L=((i:Int)+1+1)*L:=by rw [Int.add_mul (i+1:Int) 1,Int.one_mul]
  have e2:(((i:Int)+1).toNat:Int)=i+1:=by omega
  have e3:((i:Int)+1).toNat=i+1:=by omega
  have hb:((i:Int)+1)*L=i*L+L:=by rw [Int.add_mul,Int.one_mul]
  have hi1:(i:Int)<=(i:Int)*L:=by
   have:=Int.mul_le_mul_of_nonneg_left (show (1:Int)<=L by omega) (show (0:Int)<=i by omega)
   omega
  rw [e3]
  refine ⟨⟨ae _,by omega,ae _⟩,by unfold dh;omega,by rw [e];rfl,rfl,rfl,eh (f:=fun k=>((k:Int)+1)*L) rfl,?_,?_⟩
  ·show ((i:Int)+1)*L<=_
   omega
  ·have e4:((i+1:Nat):Int)*L=(i:Int)*L+L:=by rw [<-hb];rfl
   rw [e4];omega
 ·refine ⟨ae _,?_⟩
  have:b.dE/L=i:=by
   have u1:=(Int.le_ediv_iff_mul_le (show 0<L by omega)).2 hi
   have u2:=(Int.ediv_lt_iff_lt_mul (show 0<L by omega)).2 (show b.dE<((i:Int)+1)*L by omega)
   omega
  rw [this];rfl
noncomputable def K1 (b:dL) (nB:Nat) (B:Nat->Int) (nO:Nat) (O:Nat->Int) (W G L f a e:Int):eA:={ dz:=[(1,[(5,.res fun _=> .fC [dI (gv (b.N 0) (b.X 0) (b.Y 0) G W f a),dI (iL (b.N 0) (b.X 0) (b.Y 0) G W f e)])]),(2,[(1,Nq b),(2,vg)]),(3,[(4,.res fun _=>dP (xa (b.N 0) (b.X 0) (b.Y 0) f (gv (b.N 0) (b.X 0) (b.Y 0) G W f a) G) (wZ (b.N 0) (b.X 0) (b.Y 0) f (gv (b.N 0) (b.X 0) (b.Y 0) G W f a) G)),(12,.res fun _=>dP (xa (b.N 0) (b.X 0) (b.Y 0) f (iL (b.N 0) (b.X 0) (b.Y 0) G W f e) (G+W)) (wZ (b.N 0) (b.X 0) (b.Y 0) f (iL (b.N 0) (b.X 0) (b.Y 0) G W f e) (G+W)))]),(4,[(2,.res fun _=>Lay.nums (b.dE/L).toNat (fun k=>((k:Int)+1)*L))])],loops:=[],dK:=[] }
namespace w32
noncomputable section
structure Z where
 b:dL
 nB:Nat
 B:Nat->Int
 nO:Nat
 O:Nat->Int
 W:Int
 G:Int
 L:Int
 f:Int
 a:Int
 e:Int
variable (z:Z) (a b:Int) (k:Nat) (A:DV) (E:List DV) (sX:List Value)
abbrev x0:Int:=(↑(Int.toNat a):Int)
abbrev x1:List Value:=Value.int IntKind.i64 a::sX
abbrev x2:=gv (z.b.N 0) (z.b.X 0) (z.b.Y 0) z.G z.W z.f z.a
abbrev x3:=iL (z.b.N 0) (z.b.X 0) (z.b.Y 0) z.G z.W z.f z.e
abbrev x4:=xa (z.b.N 0) (z.b.X 0) (z.b.Y 0) z.f a b
abbrev x5:=wZ (z.b.N 0) (z.b.X 0) (z.b.Y 0) z.f a b
abbrev x6:=x0 (z.b.dE/z.L) - 1
abbrev x7:=DV.val (Value.agg (Array.mk (x1 a sX)))
abbrev x8:=x4 z (x2 z) z.G
abbrev x9:=x4 z (x3 z) (z.G+z.W)
abbrev dM:=x5 z (x2 z) z.G
abbrev dQ:=x5 z (x3 z) (z.G+z.W)
abbrev dS:=fb (z.b.N 0) (z.b.X 0) (z.b.Y 0) a
abbrev dT:=dD (z.b.N 0) (z.b.X 0) (z.b.Y 0) a
abbrev dU:=(x0 (x6 z)+1)*z.L+z.L
abbrev dY:=dv prog 139 (x7 (z.b.X 0 (Int.toNat z.f)) (x1 (z.b.Y 0 (Int.toNat z.f)) (x1 (z.b.X 0 (ix (z.b.N 0) (x0 z.f+1))) (x1 (z.b.Y 0 (ix (z.b.N 0) (x0 z.f+1))) (x1 (dS z (x0 z.f)) (x1 (dT z (x0 z.f)) [])))))::E) A
abbrev eb:=DV.dt (z.b.N 0) [fun i0=>dI (z.b.X 0 i0),fun i0=>dI (z.b.Y 0 i0)]
abbrev eE:=dv prog k (kz z.b::DV.agg [DV.dt z.nB [fun i0=>dI (z.B i0)],DV.dt z.nO [fun i0=>dI (z.O i0)],dI z.W,dI z.G,dI z.L]::E) A
abbrev xt:VT:=VT.dk [eE z (122:Nat) (DV.fC [dI (x2 z),dI (x3 z)]) [dI z.f,dI z.a,dI z.e]] (VT.dk [dv prog 90 [kz z.b] (eb z),dv prog 131 [eb z] (DV.dt (z.b.N 0) [fun i0=>dI (z.b.X 0 i0),fun i0=>dI (z.b.Y 0 i0),fun i0=>dI (z.b.X 0 (ix (z.b.N 0) ((i0:Int)+1))),fun i0=>dI (z.b.Y 0 (ix (z.b.N 0) ((i0:Int)+1))),fun i0=>dI (dS z (i0:Int)),fun i0=>dI (dT z (i0:Int))]),0<=z.f/\z.f<(↑(z.b.N 0):Int)] (VT.dk [dY z (x7 (x8 z) (x1 (dM z) [])) [dI (x2 z),dI z.G],dh (z.G+z.W),dY z (x7 (x9 z) (x1 (dQ z) [])) [dI (x3 z),dI (z.G+z.W)]] (VT.dk [eE z (140:Nat) (DV.dt (Int.toNat (z.b.dE/z.L)) [fun i0=>dI (((i0:Int)+1)*z.L)]) []] (VT.dk [dh (x6 z),0<=x6 z/\x6 z<x0 (z.b.dE/z.L),dh (dU z)] (VT.done [iD (x8 z) [x9 z]=oZ (z.b.N 0) (z.b.X 0) (z.b.Y 0) z.G z.W z.f z.a z.e,iD (dM z) [dQ z]=oX (z.b.N 0) (z.b.X 0) (z.b.Y 0) z.G z.W z.f z.a z.e,rf (0:Int),hP (x8 z) [x9 z]=oY (z.b.N 0) (z.b.X 0) (z.b.Y 0) z.G z.W z.f z.a z.e,hP (dM z) [dQ z]=oW (z.b.N 0) (z.b.X 0) (z.b.Y 0) z.G z.W z.f z.a z.e,dU z=kG z.b.dE z.L])))))
end
end w32
open w32 in
theorem aac (b:dL) (nB:Nat) (B:Nat->Int) (nO:Nat) (O:Nat->Int) (W G L f a e:Int) (hs:0<b.nS) (h:gI (b.N 0) (b.X 0) (b.Y 0)=0) (hg:mK G W) (hf:0<=f/\f<b.N 0) (ha:0<=a/\a<=1) (he:0<=e/\e<=1) (hr:0<=b.dE/\b.dE<=1000000) (hL:1<=L/\L<=10000) (hrl:L<=b.dE):dv prog 92 [kz b,Lay.sys nB B nO O W G L,dI f,dI a,dI e] (bx (oZ (b.N 0) (b.X 0) (b.Y 0) G W f a e) (oX (b.N 0) (b.X 0) (b.Y 0) G W f a e) 0 (oY (b.N 0) (b.X 0) (b.Y 0) G W f a e) (oW (b.N 0) (b.X 0) (b.Y 0) G W f a e) (kG b.dE L)):=by
 refine dm dJ (K1 b nB B nO O W G L f a e) (V:=xt ⟨b,nB,B,nO,O,W,G,L,f,a,e⟩) (by kernel_rfl) ?_
 simp only [xt,x0,x1,x2,x3,x4,x5,x6,x7,x8,x9,dM,dQ,dS,dT,dU,dY,eb,eE,Rf,VT.holds,dC,Sq]
 have hn:=fO h
 obtain ⟨hX,hY⟩:=eS h
 have b1:=sj (n:=b.N 0) (X:=b.X 0) (Y:=b.Y 0) f hg ha
 have b2:=xS f (by omega) hX hY hg he
 have nJ:=hg
 obtain ⟨g1,g2,g3,g4⟩:=nJ
 obtain ⟨t1,t2,t3,t4⟩:=JR hr hL
 have t5:1<=b.dE/L:=(Int.le_ediv_iff_mul_le (by omega)).2 (by omega)
 have e1:((b.dE/L).toNat:Int)=b.dE/L:=by omega
 have e2:(((b.dE/L).toNat:Int) - 1).toNat=(b.dE/L - 1).toNat:=by omega
 have e3:((((b.dE/L).toNat:Int) - 1).toNat:Int)+1=b.dE/L:=by omega
 have e4:b.dE/L*L+L=kG b.dE L:=by rw [kG,Int.add_mul,Int.one_mul]
 rw [e3,e4]
 exact ⟨RV b nB B nO O W G L f a e hs h hg hf ha he,⟨sJ b hs,q8 _ _ _ h,hf⟩,⟨L5 h hf _ _ (by omega) (by omega),by unfold dh;omega,L5 h hf _ _ (by omega) (by omega)⟩,QE b nB B nO O W G L hr hL,⟨by unfold dh;omega,by omega,by unfold dh;omega⟩,yv _ _,yv _ _,vA _ _,vA _ _,rfl⟩
noncomputable def xY (b:dL) (nB:Nat) (B:Nat->Int) (nO:Nat) (O:Nat->Int) (W G L:Int):eA:={ dz:=[(1,[(1,G2 b)]),(4,[(1,.res fun _=>dI (Lay.fm nB B nO O W G L))]),(9,[(4,.pos)]),(11,[(1,Nq b),(4,T3)]),(12,[(1,Nq b),(7,T3)]),(16,[(2,Nq b)]),(18,[(3,.res fun l=>dI (ko (b.N 0) (b.X 0) (b.Y 0) G W (aI l 2) 1 0)),(10,.res fun l=>bx (oZ (b.N 0) (b.X 0) (b.Y 0) G W (aI l 2) 1 0) (oX (b.N 0) (b.X 0) (b.Y 0) G W (aI l 2) 1 0) 0 (oY (b.N 0) (b.X 0) (b.Y 0) G W (aI l 2) 1 0) (oW (b.N 0) (b.X 0) (b.Y 0) G W (aI l 2) 1 0) (kG b.dE L)),(11,.res fun l=>dI (ki (SN b (fI 0 (arg l 1)) (fI 1 (arg l 1)) (fI 2 (arg l 1)) (fI 3 (arg l 1)) (fI 4 (arg l 1)) (fI 5 (arg l 1))) b.nB))])],loops:=[(0,{ ι:=Nat,keep:=[2,3],boxes:=[2,3],ts:=fun _ i=>[(11,dI (i:Int))],inv:=fun _ i=>i<=b.N 0/\ ∀k,k<i-> ∀j,j<b.nB->jX b G W L k j=false,mu:=fun _ i=>b.N 0 - i,rd:=fun _ σ=>(ez (σ.get 11)).toNat })],dK:=[] }
namespace w33
noncomputable section
structure Z where
 b:dL
 nB:Nat
 B:Nat->Int
 nO:Nat
 O:Nat->Int
 W:Int
 G:Int
 L:Int
variable (z:Z) (i0 i1:Nat) (P:List Prop) (a b:Int) (k:Nat) (g:Bool) (A:DV) (U:VT) (Cm:List Value)
abbrev x0:=i0<z.b.nB->rf (z.b.B i0 k)
abbrev x1:=i0<z.b.nO->rf (z.b.O i0 k)
abbrev x2:=ko (z.b.N 0) (z.b.X 0) (z.b.Y 0) z.G z.W (i0:Int) 1 0
abbrev x3:List Value:=Value.int IntKind.i64 a::Value.int IntKind.i64 b::Cm
abbrev x4:=decide ((x2 z i0)>(0:Int))=true
abbrev x5:=lE (z.b.N 0) (z.b.X 0) (z.b.Y 0) a
abbrev x6:=VT.done [a=ij z.b z.nB z.B z.nO z.O z.W z.G z.L]
abbrev x7:=DV.dt (z.b.N 0) [fun i0=>dI (z.b.X 0 i0),fun i0=>dI (z.b.Y 0 i0)]
abbrev x8:=Int.toNat ((i0:Int)+1)
abbrev x9:=oZ (z.b.N 0) (z.b.X 0) (z.b.Y 0) z.G z.W (i0:Int) 1 0
abbrev dM:=oX (z.b.N 0) (z.b.X 0) (z.b.Y 0) z.G z.W (i0:Int) 1 0
abbrev dQ:=oY (z.b.N 0) (z.b.X 0) (z.b.Y 0) z.G z.W (i0:Int) 1 0
abbrev dS:=oW (z.b.N 0) (z.b.X 0) (z.b.Y 0) z.G z.W (i0:Int) 1 0
abbrev dT:=dv prog 90 [kz z.b] (x7 z)
abbrev dU:=DV.agg [DV.dt z.nB [fun i0=>dI (z.B i0)],DV.dt z.nO [fun i0=>dI (z.O i0)],dI z.W,dI z.G,dI z.L]
abbrev dY:=Lay.fm z.nB z.B z.nO z.O z.W z.G z.L
abbrev eb:=VT.dk P (VT.ite g (x6 z (12:Int)) U)
abbrev eE:=dv prog 89 [x7 z,dI a] (DV.fC [DV.any,dI (x5 z b)])
abbrev eH:=dv prog k [kz z.b,dU z,dI (i0:Int),dI 1,dI 0] A
abbrev eT:=DV.val (Value.agg (Array.mk (x3 (x9 z i0) (dM z i0) (x3 (0:Int) (dQ z i0) (x3 (dS z i0) (kG z.b.dE z.L) [])))))
abbrev eG:=i1<k->(∀i0<z.b.nB,jX z.b z.G z.W z.L i1 i0=false)
abbrev eZ:=ki (SN z.b (x9 z i0) (dM z i0) 0 (dQ z i0) (dS z i0) (kG z.b.dE z.L)) z.b.nB
abbrev fi:List Prop:=(a=(k:Int))::rf z.b.name::rf z.b.nS::(∀i0<z.b.nS,rf (z.b.fl i0))::(∀i0<z.b.nS,rf (z.b.N i0)/\(∀i1<z.b.N i0,rf (z.b.X i0 i1))/\(∀i1<z.b.N i0,rf (z.b.Y i0 i1)))::rf z.b.dE::rf z.b.nO::(∀(i0:Nat),x1 z i0 (0:Nat))::(∀(i0:Nat),x1 z i0 (1:Nat))::(∀(i0:Nat),x1 z i0 (2:Nat))::(∀(i0:Nat),x1 z i0 (3:Nat))::(∀(i0:Nat),x1 z i0 (4:Nat))::(∀(i0:Nat),x1 z i0 (5:Nat))::rf z.b.nB::(∀(i0:Nat),x0 z i0 (0:Nat))::(∀(i0:Nat),x0 z i0 (1:Nat))::(∀(i0:Nat),x0 z i0 (2:Nat))::(∀(i0:Nat),x0 z i0 (3:Nat))::(∀(i0:Nat),x0 z i0 (4:Nat))::(∀(i0:Nat),x0 z i0 (5:Nat))::rf z.nB::(∀i0<z.nB,rf (z.B i0))::rf z.nO::(∀i0<z.nO,rf (z.O i0))::rf z.W::rf z.G::P
abbrev xt:VT:=VT.dk [dv prog 28 [kz z.b] (dI (fh z.b))] (VT.ite (fh z.b !=0) (x6 z (fh z.b)) (VT.dk [dv prog 88 [dU z] (dI (dY z))] (VT.ite (dY z !=0) (x6 z (dY z)) (VT.ite (decide (z.b.dE<z.L)) (x6 z (2:Int)) (VT.dk [0<=z.b.dE/\0<z.L/\z.b.dE<=9223372036854775807] (VT.ite (decide ((z.b.dE/z.L)>(40:Int))) (x6 z (8:Int)) (VT.dk [dT z,eE z z.G z.G] (VT.dk [dT z,dh (z.G+z.W),eE z (z.G+z.W) (z.G+z.W)] (eb z [ri ((!(x5 z z.G !=0))=true),(x5 z z.G !=0)=false->(!(x5 z z.G !=0))=true] (if (x5 z z.G !=0)=true then true else (x5 z (z.G+z.W) !=0)) (VT.loop Nat (fun i0=>i0<=z.b.N 0/\(∀(i1:Nat),eG z i1 i0)) (Int.toNat 0) (fi z [rf z.L] (0:Int) (Int.toNat 0)) (fun i0=>VT.dk [dT z] (VT.ite (decide ((i0:Int)<(↑(z.b.N 0):Int))) (eb z [eH z i0 (73:Nat) (dI (x2 z i0)),ri (x4 z i0),ri (x4 z i0),ri (x4 z i0),x4 z i0->eH z i0 (92:Nat) (eT z i0),ri (x4 z i0),ri (x4 z i0),x4 z i0->dv prog 91 [kz z.b,eT z i0] (dI (eZ z i0)),ri (x4 z i0),ri (x4 z i0)] (if (decide ((x2 z i0)>(0:Int)))=true then (decide ((eZ z i0)>=(0:Int))) else false) (VT.dk [dh ((i0:Int)+1)] (VT.done (fi z [rf z.L,x8 i0<=z.b.N 0/\(∀(i1:Nat),eG z i1 (x8 i0)),z.b.N 0 - x8 i0<z.b.N 0 - i0] ((i0:Int)+1) (x8 i0))))) (x6 z (0:Int))))))))))))))
end
end w33
open w33 in
theorem qG (b:dL) (nB:Nat) (B:Nat->Int) (nO:Nat) (O:Nat->Int) (W G L:Int) (hN: ∀i,i<b.nS->b.N i<=1000):dv prog 29 [kz b,Lay.sys nB B nO O W G L] (dI (ij b nB B nO O W G L)):=by
 refine dm dJ (xY b nB B nO O W G L) (V:=xt ⟨b,nB,B,nO,O,W,G,L⟩) (by kernel_rfl) ?_
 simp only [xt,x0,x1,x2,x3,x4,x5,x6,x7,x8,x9,dM,dQ,dS,dT,dU,dY,eb,eE,eH,eT,eG,eZ,fi,Rf,VT.holds,dC,Sq]
 refine ⟨Ic b hN,fun h=>(aak h).symm,fun hc=>⟨Lay.Ng nB B nO O W G L,fun h=>(aaj hc h).symm,fun hs=> ?_⟩⟩
 obtain ⟨b1,b2,b3,b4,b5⟩:=nE hc
 obtain ⟨g1,g2,g3⟩:=jV hs
 have hg:=g1
 unfold mK at hg
 have hn:=fO b2
 refine ⟨fun h=>(aai hc hs h).symm,fun h3=>⟨by omega,fun h=>(aah hc hs h3 h).symm,fun h4=>⟨⟨sJ b b1,DP _ _ _ _ b2 (by omega)⟩,⟨sJ b b1,by unfold dh;omega,DP _ _ _ _ b2 (by omega)⟩,fun h=>(aag hc hs h3 h4 h).symm,fun h=> ?_⟩⟩⟩
 have e1:lE (b.N 0) (b.X 0) (b.Y 0) G=0:=by omega
 have e2:lE (b.N 0) (b.X 0) (b.Y 0) (G+W)=0:=by omega
 have h5: ¬(lE (b.N 0) (b.X 0) (b.Y 0) G≠0\/lE (b.N 0) (b.X 0) (b.Y 0) (G+W)≠0):=by omega
 obtain ⟨a1,c1⟩:=vt e1
 obtain ⟨a2,c2⟩:=vt e2
 refine ⟨rfl,⟨aq _,fun k hk=>absurd hk (aG k)⟩,fun i ⟨hi,hb⟩=>⟨sJ b b1,fun dR=> ?_,fun iG=> ?_⟩⟩
 ·have hp:=LJ (w:=W) a1 a2 (by omega) (by omega) (i:=i) (by omega)
  refine ⟨⟨DB b nB B nO O W G L i 1 0 b1 b2 g1 (by omega) (by omega) (by omega),fun _=>aac b nB B nO O W G L i 1 0 b1 b2 g1 (by omega) (by omega) (by omega) ⟨b3,b4⟩ ⟨g2,g3⟩ (by omega),fun _=>UX b _ _ _ _ _ _ (by omega)⟩,fun ⟨_,h⟩=> ?_,fun h=> ?_⟩
  ·obtain ⟨j,hj,hx⟩:=Ky h
   exact (aaf hc hs h3 h4 h5 (DC (by omega) hj hx)).symm
  ·have hx:=Bh (h hp)
   refine ⟨by unfold dh;omega,rfl,⟨by omega,fun k hk j hj=> ?_⟩,by omega⟩
   by_cases e:k=i
   ·rw [e];exact hx j hj
   ·exact hb k (by omega) j hj
 ·exact (ar_7 hc hs h3 h4 h5 (Al fun k hk j hj=>hb k (by omega) j hj)).symm
end Go.Abs
end
section
set_option maxRecDepth 100000
namespace Go.Abs
open Go
abbrev Jp (i:Nat):Int:=[1000,2500].getD i 0
abbrev Jo (_:Nat):Int:=500
abbrev plain:DV:=Lay.sys 2 Jp 1 Jo 700 300 2000
def plT (k:Nat):Int:=[0,10000,10001,20001,20002,1,10001].getD k 0
def J3:fx:= .res fun _=>plain
theorem Ns:Lay.fm 2 Jp 1 Jo 700 300 2000=0:=by decide+kernel
theorem pX:Lay.eO 2 Jp 1 Jo 3=500:=by decide+kernel
theorem pY (len:Int) (h:0<=len) (h2:len<=2000000):Lay.iE 2 Jp 1 Jo 700 300 2000 len=0:=by
 rw [Lay.iE,ag Ns,pX,ab (by omega),ab (by omega)]
theorem Av:Lay.Gx 2 Jp 1 Jo 2000=3:=by decide+kernel
theorem Nr: ∀k,k<7->Lay.mE 2 Jp 1 Jo k=plT k:=by decide+kernel
abbrev QN (b:dL) (nB:Nat) (B:Nat->Int) (nO:Nat) (O:Nat->Int) (W G L:Int):DV:= .agg [.val (.string b.name),.dt b.nS (Nh b),dI b.dE,.dt b.nO (o9 b),.dt b.nB (Sk b),Lay.nums nB B,Lay.nums nO O,dI W,dI G,dI L]
def Cl (b:dL) (nB nO:Nat):Bool:=jL b&&decide (nB<=12/\nO<=12)
theorem Mh {b:dL} {nB nO:Nat} (h:Cl b nB nO=true):(b.nS<=25/\b.nO<=105/\b.nB<=55/\ ∀i,i<b.nS->b.N i<=45)/\nB<=12/\nO<=12:=by
 unfold Cl at h
 rw [an,ah] at h
 exact ⟨P3 h.1,h.2⟩
noncomputable def IM :eA:={ dz:=[(1,[(0,J3),(1,.res fun _=> .fC [Lay.nums 7 (Lay.mE 2 Jp 1 Jo),dI 0])]),(2,[(0,J3),(1,.res fun _=> .fC [dI 3,dI 0])]),(3,[(0,J3),(4,.res fun _=> .fC [dP 2 2,dI 0])]),(4,[(5,.res fun _=>dB true)])],loops:=[],dK:=[] }
namespace w34
noncomputable section
variable (i0:Nat) (p:Prop) (P:List Prop) (g h:Bool) (E:List DV) (U:VT) (pj:Nat->DV)
abbrev x0:=if g=true then h else false
abbrev x1:=(0:Int)==(0:Int)
abbrev x2:List Prop:=ri (g=true)::P
abbrev x3:=x0 (x0 x1 true) x1
abbrev x4:=List.getD [(1000:Int),(2500:Int)] i0 0
abbrev x5:=DV.agg (DV.dt 2 [pj]::DV.dt 1 [fun i0=>dI 500]::E)
abbrev x6:=x5 [dI 700,dI 300,dI 2000] (fun i0=>dI (x4 i0))
abbrev x7:=x0 (x0 x3 ((3:Int)==(3:Int))) x1
abbrev x8:=VT.dk [dv prog 66 [] x6,p] U
abbrev x9:=((2:Int)==(2:Int))&&g
abbrev dM:=x2 P (x0 x3 ((3:Int)==(3:Int)))
abbrev dQ:=fun (i0:Nat)=>dI (Lay.mE 2 (fun i0=>x4 i0) 1 (fun i0=>(500:Int)) i0)
abbrev xt:VT:=x8 (dv prog 17 [x6,dI 3000] (DV.fC [DV.dt 7 [dQ],dI 0])) (x8 (dv prog 67 [x6,dI 2000] (DV.fC [dI 3,dI 0])) (VT.dk [dv prog 66 [] x6,(2:Nat)<=(2:Nat),(1:Nat)<=(1:Nat),dv prog 68 [x6,x5 [] (fun i0=>dI (List.getD [(2500:Int),(1000:Int)] i0 0))] (DV.fC [DV.val (Value.agg (Array.mk [Value.int IntKind.i64 2,Value.int IntKind.i64 2])),dI 0])] (VT.dk ((x1=true)::x2 (x2 ((x1=true->(7:Nat)<=(7:Nat))::(x1=true->dv prog 69 [DV.dt 7 [dQ],DV.dt 7 [fun i0=>dI (List.getD [(0:Int),(10000:Int),(10001:Int),(20001:Int),(20002:Int),(1:Int),(10001:Int)] i0 0)]] (dB true))::x2 (x2 (x2 (x2 (x2 (dM (dM (x2 (x2 (x2 [] x7) x7) x7))) x3) x3) (x0 x1 true)) (x0 x1 true)) x1) x1) x1) (VT.done [x0 x7 (x9 (x9 true))=true]))))
end
end w34
open w34 in
theorem Su :dv prog 22 [] (dB true):=by
 refine dm dJ (IM ) (V:=xt) (by kernel_rfl) ?_
 simp only [xt,x0,x1,x2,x3,x4,x5,x6,x7,x8,x9,dM,dQ,Rf,VT.holds,dC,Sq]
 have p:=Lay.T6
 have t:=Lay.JS 2 Jp 1 Jo 700 300 2000 3000
 have w:=Lay.M9 2 Jp 1 Jo 700 300 2000 2000
 have c:=Lay.Of 2 Jp 1 Jo 700 300 2000 2 (fun a=>[2500,1000].getD a 0) 1 (fun _=>500) (by omega) (by omega)
 rw [show Lay.Nc 2 Jp 1 Jo 700 300 2000 3000=7 by rw [Lay.Nc,ag (pY _ (by omega) (by omega)),pX];rfl,pY _ (by omega) (by omega)] at t
 rw [show Lay.Ds 2 Jp 1 Jo 700 300 2000 2000=0 by rw [Lay.Ds,ag (pY _ (by omega) (by omega)),pX,ag (by decide),Av];rfl,
  show Lay.Dq 2 Jp 1 Jo 700 300 2000 2000=3 by rw [Lay.Dq,ag (pY _ (by omega) (by omega)),pX,ag (by decide),Av];rfl] at w
 have hb:Lay.qP 2 Jp 1 Jo 700 300 2000 2 (fun a=>[2500,1000].getD a 0) 1 (fun _=>500)=0:=by decide+kernel
 rw [hb,ag rfl,ag rfl] at c
 have hi:=Lay.QS 7 (Lay.mE 2 Jp 1 Jo) 7 plT (by omega)
 rw [show Lay.mw 7 (Lay.mE 2 Jp 1 Jo) 7 plT=true from bz ⟨rfl,Nr⟩] at hi
 exact ⟨⟨p,t⟩,⟨p,w⟩,⟨p,ae _,ae _,c⟩,fun _=>ae _,fun _=>hi⟩
noncomputable def CP (b:dL) (nB:Nat) (B:Nat->Int) (nO:Nat) (O:Nat->Int) (W G L:Int):eA:={ dz:=[(1,[(2,.res fun _=>dB (jL b)),(6,.res fun _=>dB (decide (nB<=12/\nO<=12)))])],loops:=[],dK:=[] }
theorem Ke (b:dL) (nB:Nat) (B:Nat->Int) (nO:Nat) (O:Nat->Int) (W G L:Int) :dv prog 23 [QN b nB B nO O W G L] (dB (Cl b nB nO)):=by
 refine dm dJ (CP b nB B nO O W G L) (V:= .dk [dv prog 70 [(kz b)] ((dB (jL b))),ri (jL b=true),ri (jL b=true),jL b=true->dv prog 71 [.agg [.dt nB [fun i=>(dI (B i))],.dt nO [fun i=>(dI (O i))],(dI W),(dI G),(dI L)]] ((dB (decide (nB<=12/\nO<=12)))),ri (jL b=true)] (.done [(if jL b=true then decide (nB<=12/\nO<=12) else false)=Cl b nB nO])) (by kernel_rfl) ?_
 simp only [VT.holds,dC,Sq]
 exact ⟨⟨TL b,fun _=>Lay.few_c nB B nO O W G L⟩,rfl⟩
noncomputable def Dh (b:dL) (nB:Nat) (B:Nat->Int) (nO:Nat) (O:Nat->Int) (W G L:Int):eA:={ dz:=[(1,[(4,.res fun _=>dI (ij b nB B nO O W G L))])],loops:=[],dK:=[] }
theorem NJ (b:dL) (nB:Nat) (B:Nat->Int) (nO:Nat) (O:Nat->Int) (W G L:Int) (hN: ∀i,i<b.nS->b.N i<=1000):dv prog 24 [QN b nB B nO O W G L] (dI (ij b nB B nO O W G L)):=by
 refine dm dJ (Dh b nB B nO O W G L) (V:= .dk [dv prog 29 [(kz b),.agg [.dt nB [fun i=>(dI (B i))],.dt nO [fun i=>(dI (O i))],(dI W),(dI G),(dI L)]] ((dI (ij b nB B nO O W G L)))] (.done [ij b nB B nO O W G L=ij b nB B nO O W G L])) (by kernel_rfl) ?_
 simp only [VT.holds,dC,Sq]
 exact qG b nB B nO O W G L hN
end Go.Abs
end
section
namespace Go.Abs
open Go Go.RowKit Go.WideShapes Go.ChangeShapes Go.Deep Go.Joins Go.WideElems
open Go.Proofs
section
variable {H:Type} {enc:TypeId×Value->H} {w:World} {base:Nat} {spare:Nat->Bool} {held:Bool}
theorem AG {P:Program} {t:TypeId} {fs:Array Field} {fuel:Nat} {cs:List Value} {x:DataW H×List MemPlace} (hs:P.underlying t=some (.struct fs)) (jh:oneCellFields P fs=true) (hC:P.cellsOf t=fs.size)
 (h:DataW.trod enc P w base spare held fuel t cs=some x):
 cs.length=fs.size/\ ∃n:Nat,∀(j:Nat) (f:Field),fs[j]? =some f-> ∃u y,cs[j]? =some u/\DataW.trod enc P w base spare held n f.type [u]=some y:=by
 obtain ⟨xs,n,_,_,hl,hlen,hg⟩:=DataW.trod_struct hs h
 refine ⟨hl.trans hC,n,fun j f Cq=> ?_⟩
 have hj:=(aF.1 Cq).1
 have hjc:j<cs.length:=by rw [hl,hC];exact hj
 obtain ⟨ho,hk⟩:=hone_of jh j _ Cq
 have h1:=hg j _ Cq
 rw [ho,hk] at h1
 have HB:(cs.drop j).take 1=[cs[j]]:=by
  rw [cG hjc]
  rfl
 rw [HB] at h1
 have hxs:xs[j]? =some (xs[j]'(by omega)):=ak (by omega)
 exact ⟨_,_,ak hjc,h1.trans hxs⟩
theorem Qa {S:Nat->Prop} (hS: ∀b,S b) {a:Addr} {len cap:Nat} (hl:len<=cap) (h: ∀i,i<len-> ∃z,w.cell? (a.add i)=some (.int .i64 z)):
 ∃A:Nat->Int,dA (fu w S) (Lay.nums len A) (.slice (some a) len cap):=by
 classical
 refine ⟨fun i=>if hi:i<len then (h i hi).choose else 0,?_⟩
 refine .dt (fun i j=> .int .i64 (if hi:i<len then (h i hi).choose else 0)) hl (fun i j f hi hj=>⟨a,rfl,?_,hS _⟩) (fun _=>by simp) (fun _ _ _ _ _=>rfl) fun i j f hi hj=> ?_
 ·match j,hj with
  |0,_=>rw [dif_pos hi,cR,Nat.mul_one,bV];exact .inl ⟨(h i hi).choose_spec,rfl⟩
 ·match j,hj with
  |0,hj=>cases hj;exact .val _
theorem open_ints {P:Program} {S:Nat->Prop} (hS: ∀b,S b) {t e:TypeId} {fuel:Nat} {v:Value} {x:DataW H×List MemPlace} (ht:P.underlying t=some (.slice e)) (he:P.underlying e=some (.int .i64)) (hC:P.cellsOf e=1)
 (h:DataW.trod enc P w base spare held fuel t [v]=some x): ∃(n:Nat) (A:Nat->Int),dA (fu w S) (Lay.nums n A) v:=by
 rcases open_slice1 ht hC h with ⟨h0,_⟩|⟨a,len,cap,m,n,V,D,Pl,uF,_,hl,_,hm,_,hi⟩
 ·cases h0
  exact ⟨0,fun _=>0,uZ _⟩
 ·cases uF
  obtain ⟨A,hA⟩:=Qa hS (w:=w) (a:=a) hl fun i hil=>by
   have Zv:i<m:=by rw [hm];split<;>omega
   obtain ⟨hc,ht'⟩:=hi i Zv
   obtain ⟨z,hz,_,_⟩:=DataW.trod_int he ht'
   exact ⟨z,by rw [hc];exact de some (List.cons.inj hz).1⟩
  exact ⟨len,A,hA⟩
abbrev bldL (b:dL):List DV:=[.val (.string b.name),.dt b.nS (Nh b),dI b.dE,.dt b.nO (o9 b),.dt b.nB (Sk b)]
abbrev sysL (nB:Nat) (B:Nat->Int) (nO:Nat) (O:Nat->Int) (W G L:Int):List DV:=[Lay.nums nB B,Lay.nums nO O,dI W,dI G,dI L]
set_option maxRecDepth 100000 in
theorem Nw {fuel:Nat} {cs:List Value} {x:DataW H×List MemPlace} (h:DataW.trod enc Tryz.prog w base spare held fuel 26 cs=some x):
 ∃b:dL,cs.length=5/\ ∀(j:Nat) (d:DV) (u:Value),(bldL b)[j]? =some d->cs[j]? =some u->dA (fu w fun _=>True) d u:=by
 obtain ⟨eW,n,hf⟩:=AG (fs:=_) Tryz.underlying26 (by kernel_rfl) (by kernel_rfl) h
 obtain ⟨u0,x0,e0,t0⟩:=hf 0 _ rfl
 obtain ⟨u1,x1,e1,t1⟩:=hf 1 _ rfl
 obtain ⟨u2,x2,e2,t2⟩:=hf 2 _ rfl
 obtain ⟨u3,x3,e3,t3⟩:=hf 3 _ rfl
 obtain ⟨u4,x4,e4,t4⟩:=hf 4 _ rfl
 obtain ⟨s,hs,_⟩:=DataW.trod_string Tryz.underlying9 t0
 cases hs
 obtain ⟨nS,fl,N,X,Y,r1⟩:=EU (S:=fun _=>True) (fun _=>trivial) Tryz.underlying22 Tryz.underlying55 (by kernel_rfl) (by kernel_rfl) Tryz.underlying3 rfl Tryz.underlying53 Tryz.underlying83 (by kernel_rfl) (by kernel_rfl) rfl (fun j f hj=>by
  match j,hj with
  |0,hj=>cases hj;exact Tryz.underlying3
  |1,hj=>cases hj;exact Tryz.underlying3) t1
 obtain ⟨dE,rfl⟩:=open_int Tryz.underlying3 t2
 obtain ⟨nO,O,r3⟩:=AF (S:=fun _=>True) (fun _=>trivial) Tryz.underlying23 Tryz.underlying170 (by kernel_rfl) (by kernel_rfl) rfl (fun j f hj=>by
  match j,hj with
  |0,hj=>cases hj;exact Tryz.underlying3
  |1,hj=>cases hj;exact Tryz.underlying3
  |2,hj=>cases hj;exact Tryz.underlying3
  |3,hj=>cases hj;exact Tryz.underlying3
  |4,hj=>cases hj;exact Tryz.underlying3
  |5,hj=>cases hj;exact Tryz.underlying3) t3
 obtain ⟨nB,B,r4⟩:=AF (S:=fun _=>True) (fun _=>trivial) Tryz.underlying24 Tryz.underlying49 (by kernel_rfl) (by kernel_rfl) rfl (fun j f hj=>by
  match j,hj with
  |0,hj=>cases hj;exact Tryz.underlying3
  |1,hj=>cases hj;exact Tryz.underlying3
  |2,hj=>cases hj;exact Tryz.underlying3
  |3,hj=>cases hj;exact Tryz.underlying3
  |4,hj=>cases hj;exact Tryz.underlying3
  |5,hj=>cases hj;exact Tryz.underlying3) t4
 refine ⟨⟨s,nS,fl,N,X,Y,dE,nO,O,nB,B⟩,eW,fun j d u hd hu=> ?_⟩
 match j,hd with
 |0,hd=>cases hd;rw [e0] at hu;cases hu;exact .val _
 |1,hd=>cases hd;rw [e1] at hu;cases hu;exact r1
 |2,hd=>cases hd;rw [e2] at hu;cases hu;exact .val _
 |3,hd=>cases hd;rw [e3] at hu;cases hu;exact r3
 |4,hd=>cases hd;rw [e4] at hu;cases hu;exact r4
set_option maxRecDepth 100000 in
theorem Nv {fuel:Nat} {cs:List Value} {x:DataW H×List MemPlace} (h:DataW.trod enc Tryz.prog w base spare held fuel 29 cs=some x):
 ∃nB B nO O W G L,cs.length=5/\ ∀(j:Nat) (d:DV) (u:Value),(sysL nB B nO O W G L)[j]? =some d->cs[j]? =some u->dA (fu w fun _=>True) d u:=by
 obtain ⟨eW,n,hf⟩:=AG (fs:=_) Tryz.underlying29 (by kernel_rfl) (by kernel_rfl) h
 obtain ⟨u0,x0,e0,t0⟩:=hf 0 _ rfl
 obtain ⟨u1,x1,e1,t1⟩:=hf 1 _ rfl
 obtain ⟨u2,x2,e2,t2⟩:=hf 2 _ rfl
 obtain ⟨u3,x3,e3,t3⟩:=hf 3 _ rfl
 obtain ⟨u4,x4,e4,t4⟩:=hf 4 _ rfl
 obtain ⟨nB,B,r0⟩:=open_ints (S:=fun _=>True) (fun _=>trivial) Tryz.underlying27 Tryz.underlying3 (by kernel_rfl) t0
 obtain ⟨nO,O,r1⟩:=open_ints (S:=fun _=>True) (fun _=>trivial) Tryz.underlying27 Tryz.underlying3 (by kernel_rfl) t1
 obtain ⟨z2,rfl⟩:=open_int Tryz.underlying3 t2
 obtain ⟨z3,rfl⟩:=open_int Tryz.underlying3 t3
 obtain ⟨z4,rfl⟩:=open_int Tryz.underlying3 t4
 refine ⟨nB,B,nO,O,z2,z3,z4,eW,fun j d u hd hu=> ?_⟩
 match j,hd with
 |0,hd=>cases hd;rw [e0] at hu;cases hu;exact r0
 |1,hd=>cases hd;rw [e1] at hu;cases hu;exact r1
 |2,hd=>cases hd;rw [e2] at hu;cases hu;exact .val _
 |3,hd=>cases hd;rw [e3] at hu;cases hu;exact .val _
 |4,hd=>cases hd;rw [e4] at hu;cases hu;exact .val _
set_option maxRecDepth 100000 in
theorem Qo {r:Reach} {b0:Nat} {v0:Value} {d:DataW H} {p:List MemPlace} (hv:Value.okWide Tryz.prog w r b0 31 v0) (h0:DataW.Trod enc Tryz.prog w base spare held 31 v0 d p):
 ∃b nB B nO O W G L,dA (fu w fun _=>True) (QN b nB B nO O W G L) v0:=by
 obtain ⟨⟨l⟩,rfl,eW⟩:=okWide_struct Tryz.underlying31 hv
 obtain ⟨fuel,hf⟩:=h0
 obtain ⟨y0,y1,n,_,hl,t0,t1⟩:=trod_struct2 Tryz.underlying31 hf
 rw [show Tryz.prog.cellsOf 26=5 by kernel_rfl] at t0
 rw [show Tryz.prog.cellsOf 29=5 by kernel_rfl] at t1
 rw [show Tryz.prog.cellsOf 31=10 by kernel_rfl] at eW
 obtain ⟨b,l0,r0⟩:=Nw t0
 obtain ⟨nB,B,nO,O,W,G,L,l1,r1⟩:=Nv t1
 refine ⟨b,nB,B,nO,O,W,G,L,.agg eW fun j d u hd hu=> ?_⟩
 have qV:l[j]? =some u:=by simpa using hu
 by_cases h5:j<5
 ·refine r0 j d u ?_ ?_
  ·match j,h5 with
   |0,_=>exact hd
   |1,_=>exact hd
   |2,_=>exact hd
   |3,_=>exact hd
   |4,_=>exact hd
  ·rw [List.getElem?_take_of_lt h5]
   exact qV
 ·have hj:j<10:=by
   have:=(aF.1 hu).1
   omega
  obtain ⟨k,rfl⟩: ∃k,j=5+k:=⟨j - 5,by omega⟩
  refine r1 k d u ?_ ?_
  ·match k,hj with
   |0,_=>exact hd
   |1,_=>exact hd
   |2,_=>exact hd
   |3,_=>exact hd
   |4,_=>exact hd
   |k+5,hj=>exact absurd hj (by omega)
  ·rw [List.getElem?_take_of_lt (by omega)]
   show (List.drop 5 l)[k]? =some u
   rw [bK]
   exact qV
end
end Go.Abs
end
section
namespace Go.Proofs.YtoinjphpfpklmaaGreatDoor
open Go.ChangeShapes Go.WideShapes Go.ChangeAt Go.RowKit Go.Abs
theorem RF:Tryz.prog.globalNamed "putlog/building.steps" =some 0:=by kernel_rfl
theorem Yv:(Tryz.prog.globals[0]?).map (·.type)=some 120:=by kernel_rfl
theorem c3:Tryz.prog.cellsOf 3=1:=by kernel_rfl
theorem c36:Tryz.prog.cellsOf 83=2:=by kernel_rfl
theorem c57:Tryz.prog.cellsOf 120=8:=by kernel_rfl
abbrev Hs:List (String×DataW Unit):=[("putlog/building.steps",Rows.laid_putlog_building_steps)]
set_option maxRecDepth 100000 in
theorem vj {H:Type} {enc:TypeId×Value->H} {w:World} {base:Nat} {sp:Nat->Bool} {held:Bool} {fuel:Nat} {cs:List Value} {a b:Int} {x:DataW H×List MemPlace} (h:DataW.trod enc Tryz.prog w base sp held fuel 83 cs=some x)
 (hx:x.1= .agg [.lit (.int .i64 a),.lit (.int .i64 b)]):cs=[.int .i64 a,.int .i64 b]:=by
 obtain ⟨y0,y1,n,rfl,hl,h0,h1⟩:=trod_struct2 Tryz.underlying83 h
 obtain ⟨i,e0,d0,_⟩:=DataW.trod_int Tryz.underlying3 h0
 obtain ⟨j,e1,d1,_⟩:=DataW.trod_int Tryz.underlying3 h1
 rw [c36] at hl
 rw [c3] at e0 e1
 subst d0 d1
 simp only [DataW.agg.injEq,cZ,DataW.lit.injEq,Lit.int.injEq,ck,b8] at hx
 obtain ⟨rfl,rfl⟩:=hx
 match cs,hl with
 |[u,v],_=>
  simp only [List.drop_zero,List.take_succ_cons,List.take_zero,cZ,b8] at e0
  simp only [List.drop_succ_cons,List.drop_zero,List.take_succ_cons,List.take_zero,cZ,b8] at e1
  rw [e0,e1]
theorem list8 (l:List Value) (h:l.length=8): ∃a b c d e f g i,l=[a,b,c,d,e,f,g,i]:=by
 match l,h with
 |[a,b,c,d,e,f,g,i],_=>exact ⟨a,b,c,d,e,f,g,i,rfl⟩
set_option maxRecDepth 100000 in
theorem Fk {W:World} (h:laidMetH Tryz.prog Hs W):jv (fu W fun _=>True):=by
 rw [MakeChecks.laidMetH_plain _ _ _ (by kernel_rfl)] at h
 obtain ⟨ps,⟨g,t,cs,fuel,p,q,hg,ht,hv,hd,_,_⟩,_,_⟩:=h
 obtain rfl:=bc (RF.symm.trans hg)
 obtain rfl:=bc (Yv.symm.trans ht)
 obtain ⟨xs,m,_,ex,hl,hn,A9⟩:=DataW.trod_array Tryz.underlying120 hd
 rw [c36] at A9
 rw [c57] at hl
 have fe:=fun k=>World.var?_cell RF hv k
 obtain ⟨l⟩:=cs
 obtain ⟨v0,v1,v2,v3,v4,v5,v6,v7,rfl⟩:=list8 l hl
 match xs,hn with
 |[x0,x1,x2,x3],_=>
  simp only [aB,bR,List.map_nil,Rows.laid_putlog_building_steps,DataW.agg.injEq,cZ,b8] at ex
  obtain ⟨⟨e0,e1,e2,e3⟩,_⟩:=ex
  have h0:=vj (A9 0 (by decide)) e0.symm
  have h1:=vj (A9 1 (by decide)) e1.symm
  have h2:=vj (A9 2 (by decide)) e2.symm
  have h3:=vj (A9 3 (by decide)) e3.symm
  simp at h0 h1 h2 h3
  obtain ⟨rfl,rfl⟩:=h0
  obtain ⟨rfl,rfl⟩:=h1
  obtain ⟨rfl,rfl⟩:=h2
  obtain ⟨rfl,rfl⟩:=h3
  intro d v hdv
  simp only [SL,gl,bR,List.map_nil,au,aB] at hdv
  obtain ⟨rfl,rfl⟩:=hdv
  refine .dV (fun k=>[Value.int .i64 1,.int .i64 0,.int .i64 0,.int .i64 1,.int .i64 (-1),.int .i64 0,.int .i64 0,.int .i64 (-1)].getD k undef) (fun j d hj=>⟨?_,trivial⟩) (fun j d hj=> ?_) (fun j d hj=> ?_)
  ·have:=fe j
   match j,hj with
   |0,_=>exact .inl ⟨this,rfl⟩
   |1,_=>exact .inl ⟨this,rfl⟩
   |2,_=>exact .inl ⟨this,rfl⟩
   |3,_=>exact .inl ⟨this,rfl⟩
   |4,_=>exact .inl ⟨this,rfl⟩
   |5,_=>exact .inl ⟨this,rfl⟩
   |6,_=>exact .inl ⟨this,rfl⟩
   |7,_=>exact .inl ⟨this,rfl⟩
  ·match j,hj with
   |0,hj=>rfl
   |1,hj=>rfl
   |2,hj=>rfl
   |3,hj=>rfl
   |4,hj=>rfl
   |5,hj=>rfl
   |6,hj=>rfl
   |7,hj=>rfl
  ·match j,hj with
   |0,hj=>cases hj;exact .val _
   |1,hj=>cases hj;exact .val _
   |2,hj=>cases hj;exact .val _
   |3,hj=>cases hj;exact .val _
   |4,hj=>cases hj;exact .val _
   |5,hj=>cases hj;exact .val _
   |6,hj=>cases hj;exact .val _
   |7,hj=>cases hj;exact .val _
end Go.Proofs.YtoinjphpfpklmaaGreatDoor
end
