/- Contracts and what they stand on. -/
import Derived.Test.YtoinjphpfpklmaaGreatDoorK52
set_option linter.unusedVariables false
set_option linter.unusedSimpArgs false
section
set_option maxRecDepth 100000
namespace Go.Abs
open Go
def lfF (L:Int) (k:Nat):Int:=((k:Int)+1)*L
def dn (l:fX):Nat->List Nat
 |0=>[]
 |k+1=>if l.Ln k>0 then dn l k++[k] else dn l k
def nf (b:dJ) (G W:Int) (l:fX) (q:List Nat) (j:Nat):Int:=lC (b.N 0) (b.X 0) (b.Y 0) G W ((q.getD j 0:Nat):Int) (l.C (q.getD j 0)) (LQ b l (q.getD j 0))
def nd (b:dJ) (G W:Int) (l:fX) (q:List Nat) (j:Nat):Int:=lA (b.N 0) (b.X 0) (b.Y 0) G W ((q.getD j 0:Nat):Int) (l.C (q.getD j 0)) (LQ b l (q.getD j 0))
def nw (b:dJ) (G W:Int) (l:fX) (q:List Nat) (j:Nat):Int:=lB (b.N 0) (b.X 0) (b.Y 0) G W ((q.getD j 0:Nat):Int) (l.C (q.getD j 0)) (LQ b l (q.getD j 0))
def nv (b:dJ) (G W:Int) (l:fX) (q:List Nat) (j:Nat):Int:=lz (b.N 0) (b.X 0) (b.Y 0) G W ((q.getD j 0:Nat):Int) (l.C (q.getD j 0)) (LQ b l (q.getD j 0))
abbrev bxC (b:dJ) (G W L:Int) (l:fX) (q:List Nat):List (Nat->DV):=[fun j=>dI (nf b G W l q j),fun j=>dI (nd b G W l q j),fun _=>dI 0,fun j=>dI (nw b G W l q j),fun j=>dI (nv b G W l q j),fun _=>dI (gq b.dr L)]
theorem zY (l:fX): ∀k,(dn l k).length<=k
 |0=>af _
 |k+1=>by
  have:=zY l k
  rw [dn]
  split
  ·rw [aO];simp;omega
  ·omega
def prOk (l:fX) (i:Nat):Prop:=(∀k,k<l.nP i->1<=l.P i k/\l.P i k<=10000)/\ ∀k,k<l.nQ i->1<=l.Q i k/\l.Q i k<=10000
section
variable {b:dJ} {nB:Nat} {B:Nat->Int} {nO:Nat} {O:Nat->Int} {W G L:Int} {l:fX}
theorem VE (h0:ja b nB B nO O W G L=0) (h:Gh b nB B nO O W G l=0):(l.nC=b.N 0/\l.nR=b.N 0)/\(∀k,k<b.N 0->0<=l.C k/\l.C k<=1)/\ ∀i,i<b.N 0->JW b nB B nO O W G l i=0/\prOk l i:=by
 obtain ⟨hc,hs,_,_,_,_,_⟩:=fu h0
 by_cases h1:l.nC=b.N 0/\l.nR=b.N 0
 ·cases h2:Lay.fU (fun k=>kT (l.C k)) l.nC with
  |true=>rw [ly_2 h1 h2] at h;cases h
  |false=>
   rw [Ys h1 h2] at h
   have h3:=ki h
   refine ⟨h1,fun k hk=>wg.1 (zp.1 h2 k (by omega)),fun i hi=>⟨h3 i hi,?_⟩⟩
   have h4:=h3 i hi
   unfold JW at h4
   split at h4
   ·cases h4
   ·split at h4
    ·cases h4
    ·unfold UH Lay.jd at h4
     have h5:Lay.DR nB B nO O (l.nP i) (l.P i) (l.nQ i) (l.Q i)=0:=by
      split at h4
      ·rename_i h6;first|exact h6|exact absurd h4 h6
      ·rename_i h6;first|exact ca.1 h6|cases h4|exact h4
     exact Lay.V9 hs h5
 ·rw [ly_1 (by omega)] at h;cases h
end
noncomputable def IX (b:dJ) (nB:Nat) (B:Nat->Int) (nO:Nat) (O:Nat->Int) (W G L:Int) (l:fX):eH:={ dq:=[(1,[(2,TA b nB B nO O W G L)]),(4,[(1,.res fun _=>dI (b.N 0:Int))]),(7,[(2,.res fun _=>dB (Lay.fU (fun k=>kT (l.C k)) l.nC))]),(12,[(10,.pos)]),(15,[(7,.res fun q=>dI (ft (b.N 0) (b.X 0) (b.Y 0) G W (aI q 1) (aI q 2))),(10,.res fun q=>dP (qB (b.N 0) (b.X 0) (b.Y 0) (aI q 1) (aI q 2) (aI q 3)) (qA (b.N 0) (b.X 0) (b.Y 0) (aI q 1) (aI q 2) (aI q 3))),(19,.res fun q=>dI (jG (b.N 0) (b.X 0) (b.Y 0) G W (aI q 1) (aI q 2) (aI q 3)))]),(17,[(5,rClo nB B nO O)])],loops:=[(0,{ ι:=Nat,keep:=[3,4,5,8,10,43,44],boxes:=[3,4,5],ts:=fun _ i=>[(45,dI (i:Int))],inv:=fun _ i=>i<=b.N 0,mu:=fun _ i=>b.N 0 - i,rd:=fun _ σ=>(eA (σ.get 45)).toNat })],dw:=[] }
noncomputable abbrev qf (l:fX) (b:dJ):Bool:= !(l.nC:Int) !=(↑(b.N 0):Int)
noncomputable abbrev qo (l:fX) (i:Nat) (b:dJ) (G:Int) (W:Int):Bool:= !!(l.SX (Int.toNat (i:Int))==qB (b.N 0) (b.X 0) (b.Y 0) (i:Int) (ft (b.N 0) (b.X 0) (b.Y 0) G W (i:Int) (l.C (Int.toNat (i:Int)))) G&&(l.SY (Int.toNat (i:Int))==qA (b.N 0) (b.X 0) (b.Y 0) (i:Int) (ft (b.N 0) (b.X 0) (b.Y 0) G W (i:Int) (l.C (Int.toNat (i:Int)))) G&&true))
noncomputable abbrev Z7 (b:dJ) (nB:Nat) (B:Nat->Int) (nO:Nat) (O:Nat->Int) (W:Int) (G:Int) (L:Int):DV:= .dN [.val (.string b.name),.di b.nS [fun i=>(dI (b.fl i)),fun i=> .di (b.N i) [fun dS=>(dI (b.X i dS)),fun dS=>(dI (b.Y i dS))]],(dI b.dr),.di b.nO [fun i=>(dI (b.O i (0:Nat))),fun i=>(dI (b.O i (1:Nat))),fun i=>(dI (b.O i (2:Nat))),fun i=>(dI (b.O i (3:Nat))),fun i=>(dI (b.O i (4:Nat))),fun i=>(dI (b.O i (5:Nat)))],.di b.nB [fun i=>(dI (b.B i (0:Nat))),fun i=>(dI (b.B i (1:Nat))),fun i=>(dI (b.B i (2:Nat))),fun i=>(dI (b.B i (3:Nat))),fun i=>(dI (b.B i (4:Nat))),fun i=>(dI (b.B i (5:Nat)))],.di nB [fun i=>(dI (B i))],.di nO [fun i=>(dI (O i))],(dI W),(dI G),(dI L),(dI (↑(Lay.fZ nB B nO O W G L):Int)),.di (Lay.iv nB B nO O W G L) [fun i=>(dI (Lay.fa nB B nO O i)),fun i=>(dI (Lay.ed nB i)),fun i=>(dB (decide (nB<=i)))],.di (b.N 0) [fun i=>(dI (b.X 0 i)),fun i=>(dI (b.Y 0 i)),fun i=>(dI (b.X 0 (ix (b.N 0) ((i:Int)+(1:Int))))),fun i=>(dI (b.Y 0 (ix (b.N 0) ((i:Int)+(1:Int))))),fun i=>(dI (ee (b.N 0) (b.X 0) (b.Y 0) (i:Int))),fun i=>(dI (dD (b.N 0) (b.X 0) (b.Y 0) (i:Int)))],.di (b.N 0) [fun k=>(dI (lM (b.N 0) (b.X 0) (b.Y 0) k))]]
noncomputable abbrev Z6 (b:dJ) (nB:Nat) (B:Nat->Int) (nO:Nat) (O:Nat->Int) (W:Int) (G:Int) (L:Int) (r:List Prop):List Prop:=(b.dr=b.dr)::(b.nO=b.nO)::(∀(i:Nat),i<b.nO->b.O i (0:Nat)=b.O i (0:Nat))::(∀(i:Nat),i<b.nO->b.O i (1:Nat)=b.O i (1:Nat))::(∀(i:Nat),i<b.nO->b.O i (2:Nat)=b.O i (2:Nat))::(∀(i:Nat),i<b.nO->b.O i (3:Nat)=b.O i (3:Nat))::(∀(i:Nat),i<b.nO->b.O i (4:Nat)=b.O i (4:Nat))::(∀(i:Nat),i<b.nO->b.O i (5:Nat)=b.O i (5:Nat))::(b.nB=b.nB)::(∀(i:Nat),i<b.nB->b.B i (0:Nat)=b.B i (0:Nat))::(∀(i:Nat),i<b.nB->b.B i (1:Nat)=b.B i (1:Nat))::(∀(i:Nat),i<b.nB->b.B i (2:Nat)=b.B i (2:Nat))::(∀(i:Nat),i<b.nB->b.B i (3:Nat)=b.B i (3:Nat))::(∀(i:Nat),i<b.nB->b.B i (4:Nat)=b.B i (4:Nat))::(∀(i:Nat),i<b.nB->b.B i (5:Nat)=b.B i (5:Nat))::(nB=nB)::(∀(i:Nat),i<nB->B i=B i)::(nO=nO)::(∀(i:Nat),i<nO->O i=O i)::(W=W)::(G=G)::(L=L)::((↑(Lay.fZ nB B nO O W G L):Int)=(↑(Lay.fZ nB B nO O W G L):Int))::(Lay.iv nB B nO O W G L=Lay.iv nB B nO O W G L)::(∀(i:Nat),i<Lay.iv nB B nO O W G L->Lay.fa nB B nO O i=Lay.fa nB B nO O i)::(∀(i:Nat),i<Lay.iv nB B nO O W G L->Lay.ed nB i=Lay.ed nB i)::(∀(i:Nat),i<Lay.iv nB B nO O W G L->decide (nB<=i)=decide (nB<=i))::(b.N 0=b.N 0)::(∀(i:Nat),i<b.N 0->b.X 0 i=b.X 0 i)::(∀(i:Nat),i<b.N 0->b.Y 0 i=b.Y 0 i)::(∀(i:Nat),i<b.N 0->b.X 0 (ix (b.N 0) ((i:Int)+(1:Int)))=b.X 0 (ix (b.N 0) ((i:Int)+(1:Int))))::(∀(i:Nat),i<b.N 0->b.Y 0 (ix (b.N 0) ((i:Int)+(1:Int)))=b.Y 0 (ix (b.N 0) ((i:Int)+(1:Int))))::(∀(i:
 Nat),i<b.N 0->ee (b.N 0) (b.X 0) (b.Y 0) (i:Int)=ee (b.N 0) (b.X 0) (b.Y 0) (i:Int))::(∀(i:Nat),i<b.N 0->dD (b.N 0) (b.X 0) (b.Y 0) (i:Int)=dD (b.N 0) (b.X 0) (b.Y 0) (i:Int))::(b.N 0=b.N 0)::(∀(i:Nat),i<b.N 0->lM (b.N 0) (b.X 0) (b.Y 0) i=lM (b.N 0) (b.X 0) (b.Y 0) i)::r
noncomputable abbrev Z5 (b:dJ) (nB:Nat) (B:Nat->Int) (nO:Nat) (O:Nat->Int) (W:Int) (G:Int) (L:Int) (l:fX) (r:List Prop):List Prop:=(b.dr=b.dr)::(b.nO=b.nO)::(∀(i:Nat),i<b.nO->b.O i (0:Nat)=b.O i (0:Nat))::(∀(i:Nat),i<b.nO->b.O i (1:Nat)=b.O i (1:Nat))::(∀(i:Nat),i<b.nO->b.O i (2:Nat)=b.O i (2:Nat))::(∀(i:Nat),i<b.nO->b.O i (3:Nat)=b.O i (3:Nat))::(∀(i:Nat),i<b.nO->b.O i (4:Nat)=b.O i (4:Nat))::(∀(i:Nat),i<b.nO->b.O i (5:Nat)=b.O i (5:Nat))::(b.nB=b.nB)::(∀(i:Nat),i<b.nB->b.B i (0:Nat)=b.B i (0:Nat))::(∀(i:Nat),i<b.nB->b.B i (1:Nat)=b.B i (1:Nat))::(∀(i:Nat),i<b.nB->b.B i (2:Nat)=b.B i (2:Nat))::(∀(i:Nat),i<b.nB->b.B i (3:Nat)=b.B i (3:Nat))::(∀(i:Nat),i<b.nB->b.B i (4:Nat)=b.B i (4:Nat))::(∀(i:Nat),i<b.nB->b.B i (5:Nat)=b.B i (5:Nat))::(nB=nB)::(∀(i:Nat),i<nB->B i=B i)::(nO=nO)::(∀(i:Nat),i<nO->O i=O i)::(W=W)::(G=G)::(L=L)::(l.nC=l.nC)::(∀(i:Nat),i<l.nC->l.C i=l.C i)::(l.nR=l.nR)::(∀(i:Nat),i<l.nR->l.F i=l.F i)::(∀(i:Nat),i<l.nR->l.SX i=l.SX i)::(∀(i:Nat),i<l.nR->l.SY i=l.SY i)::(∀(i:Nat),i<l.nR->l.Ln i=l.Ln i)::r
namespace w3c
noncomputable section
structure Z where
 b:dJ
 nB:Nat
 B:Nat->Int
 nO:Nat
 O:Nat->Int
 W:Int
 G:Int
 L:Int
 l:fX
variable (z:Z) (i0:Nat) (p:Prop) (P:List Prop) (a:Int) (k:Nat) (g:Bool) (E:List DV) (U:VT) (oh:Nat->DV)
abbrev x0:Int:=(i0:Int)
abbrev x1:=Int.toNat (x0 i0)
abbrev x2:=i0<z.b.nO->rf (z.b.O i0 k)
abbrev x3:=i0<z.b.nB->rf (z.b.B i0 k)
abbrev x4:=ft (z.b.N 0) (z.b.X 0) (z.b.Y 0) z.G z.W (x0 i0) (z.l.C (x1 i0))
abbrev x5:=DV.di k [oh]
abbrev x6:=i0<z.b.N 0->rf a
abbrev x7:Int:=(↑(z.b.N 0):Int)
abbrev x8:=Lay.iv z.nB z.B z.nO z.O z.W z.G z.L
abbrev x9:=ix (z.b.N 0) (x0 i0+1)
abbrev dC:=qB (z.b.N 0) (z.b.X 0) (z.b.Y 0) (x0 i0) (x4 z i0) z.G
abbrev dA:=qA (z.b.N 0) (z.b.X 0) (z.b.Y 0) (x0 i0) (x4 z i0) z.G
abbrev dz:=(z.l.SX (x1 i0)==dC z i0)&&((z.l.SY (x1 i0)==dA z i0)&&true)
abbrev dG:=ee (z.b.N 0) (z.b.X 0) (z.b.Y 0) (x0 i0)
abbrev dL:=dD (z.b.N 0) (z.b.X 0) (z.b.Y 0) (x0 i0)
abbrev dR:=lM (z.b.N 0) (z.b.X 0) (z.b.Y 0) i0
abbrev dQ:Int:=(↑(Lay.fZ z.nB z.B z.nO z.O z.W z.G z.L):Int)
abbrev ep:List Prop:=ri ((!(!(dz z i0)))=true)::P
abbrev eu:=(z.l.nC:Int) !=x7 z
abbrev eG:List DV:=x5 z.nB (fun i0=>dI (z.B i0))::x5 z.nO (fun i0=>dI (z.O i0))::dI z.W::dI z.G::dI z.L::E
abbrev ez:=VT.da [p] U
abbrev eF:=VT.ite g (VT.done [False,a=0]) U
abbrev eQ:List Prop:=rf z.b.name::rf z.b.nS::(∀i0<z.b.nS,rf (z.b.fl i0))::(∀i0<z.b.nS,rf (z.b.N i0)/\(∀i1<z.b.N i0,rf (z.b.X i0 i1))/\(∀i1<z.b.N i0,rf (z.b.Y i0 i1)))::rf z.b.dr::rf z.b.nO::(∀(i0:Nat),x2 z i0 (0:Nat))::(∀(i0:Nat),x2 z i0 (1:Nat))::(∀(i0:Nat),x2 z i0 (2:Nat))::(∀(i0:Nat),x2 z i0 (3:Nat))::(∀(i0:Nat),x2 z i0 (4:Nat))::(∀(i0:Nat),x2 z i0 (5:Nat))::rf z.b.nB::(∀(i0:Nat),x3 z i0 (0:Nat))::(∀(i0:Nat),x3 z i0 (1:Nat))::(∀(i0:Nat),x3 z i0 (2:Nat))::(∀(i0:Nat),x3 z i0 (3:Nat))::(∀(i0:Nat),x3 z i0 (4:Nat))::(∀(i0:Nat),x3 z i0 (5:Nat))::rf z.nB::(∀i0<z.nB,rf (z.B i0))::rf z.nO::(∀i0<z.nO,rf (z.O i0))::rf z.W::rf z.G::rf z.L::P
abbrev fC:=DV.dN (DV.val (Value.string z.b.name)::DV.di z.b.nS [fun i0=>dI (z.b.fl i0),fun i0=>DV.di (z.b.N i0) [fun i1=>dI (z.b.X i0 i1),fun i1=>dI (z.b.Y i0 i1)]]::dI z.b.dr::DV.di z.b.nO [fun i0=>dI (z.b.O i0 0),fun i0=>dI (z.b.O i0 1),fun i0=>dI (z.b.O i0 2),fun i0=>dI (z.b.O i0 3),fun i0=>dI (z.b.O i0 4),fun i0=>dI (z.b.O i0 5)]::DV.di z.b.nB [fun i0=>dI (z.b.B i0 0),fun i0=>dI (z.b.B i0 1),fun i0=>dI (z.b.B i0 2),fun i0=>dI (z.b.B i0 3),fun i0=>dI (z.b.B i0 4),fun i0=>dI (z.b.B i0 5)]::eG z [dI (dQ z),DV.di (x8 z) [fun i0=>dI (Lay.fa z.nB z.B z.nO z.O i0),fun i0=>dI (Lay.ed z.nB i0),fun i0=>dB (decide (z.nB<=i0))],DV.di (z.b.N 0) [fun i0=>dI (z.b.X 0 i0),fun i0=>dI (z.b.Y 0 i0),fun i0=>dI (z.b.X 0 (x9 z i0)),fun i0=>dI (z.b.Y 0 (x9 z i0)),fun i0=>dI (dG z i0),fun i0=>dI (dL z i0)],x5 (z.b.N 0) (fun i0=>dI (dR z i0))])
abbrev fM:= ∀i0<z.l.nR,rf (z.l.nP i0)/\(∀i1<z.l.nP i0,rf (z.l.P i0 i1))
abbrev fR:= ∀i0<z.l.nR,rf (z.l.nQ i0)/\(∀i1<z.l.nQ i0,rf (z.l.Q i0 i1))
abbrev fj:List Prop:=rf z.l.nR::(∀i0<z.l.nR,rf (z.l.F i0))::(∀i0<z.l.nR,rf (z.l.SX i0))::(∀i0<z.l.nR,rf (z.l.SY i0))::(∀i0<z.l.nR,rf (z.l.Ln i0))::P
abbrev gp:=Int.toNat (x0 i0+1)
abbrev iI:=z.l.C (Int.toNat ((x0 i0+1)%x7 z))
abbrev ji:List Prop:=ri ((!(eu z))=true)::ri ((!(eu z))=true)::P
abbrev iq:=eQ z (rf (dQ z)::rf (x8 z)::(∀i0<x8 z,rf (Lay.fa z.nB z.B z.nO z.O i0))::(∀i0<x8 z,rf (Lay.ed z.nB i0))::(∀i0<x8 z,rf (decide (z.nB<=i0)))::rf (z.b.N 0)::(∀(i0:Nat),x6 z i0 (z.b.X 0 i0))::(∀(i0:Nat),x6 z i0 (z.b.Y 0 i0))::(∀(i0:Nat),x6 z i0 (z.b.X 0 (x9 z i0)))::(∀(i0:Nat),x6 z i0 (z.b.Y 0 (x9 z i0)))::(∀(i0:Nat),x6 z i0 (dG z i0))::(∀(i0:Nat),x6 z i0 (dL z i0))::rf (z.b.N 0)::(∀(i0:Nat),x6 z i0 (dR z i0))::rf a::P)
abbrev jj:=Lay.jd z.nB z.B z.nO z.O (z.l.nP (x1 i0)) (z.l.P (x1 i0)) (z.l.nQ (x1 i0)) (z.l.Q (x1 i0)) (z.l.Ln (x1 i0))
abbrev jv:=Lay.fU (fun i0=>kT (z.l.C i0)) z.l.nC
abbrev il:=dm prog k (fC z::dI (x0 i0)::dI (z.l.C (x1 i0))::E) (dI a)
abbrev iH:List Prop:=p::iq z (fj z (fM z::fR z::rf (z.l.nR:Int)::eQ z (rf z.l.nC::(∀i0<z.l.nC,rf (z.l.C i0))::P))) (x7 z)
abbrev lu:=jG (z.b.N 0) (z.b.X 0) (z.b.Y 0) z.G z.W (x0 i0) (z.l.C (x1 i0)) (iI z i0)
abbrev xt:VT:=ez (dm prog 31 [jI z.b,DV.agg (eG z [])] (DV.fy [fC z,dI 0])) (VT.ite ((0:Int) !=(0:Int)) (VT.done [False,rf (0:Int)]) (ez (dm prog 33 [fC z] (dI (x7 z))) (VT.da (ji z (ji z [eu z=false->(!(eu z))=true])) (eF (11:Int) (if (eu z)=true then true else ((z.l.nR:Int) !=x7 z)) (ez (dm prog 99 [x5 z.l.nC (fun i0=>dI (z.l.C i0)),DV.val (Value.func (Fn.func 100) (Array.mk []) (Array.mk []))] (dB (jv z))) (eF (2:Int) (jv z) (VT.loop Nat (fun i0=>i0<=z.b.N 0) (Int.toNat 0) (iH z (0=(↑(Int.toNat 0):Int)) (fj z [fM z,fR z])) (fun i0=>VT.ite (decide ((x0 i0)<(z.l.nR:Int))) (ez (0<=x0 i0/\x0 i0<(z.l.nR:Int)) (VT.da [0<=x0 i0/\x0 i0<(z.l.nC:Int),cZ (x0 i0+1),0<=x0 i0+1/\0<x7 z,0<=(x0 i0+1)%x7 z/\(x0 i0+1)%x7 z<(z.l.nC:Int)] (eF (10:Int) (z.l.F (x1 i0) !=x0 i0) (VT.da (il z i0 (x4 z i0) (36:Nat) []::dm prog 35 [fC z,dI (x0 i0),dI (x4 z i0),dI z.G] (DV.val (Value.agg (Array.mk [Value.int IntKind.i64 (dC z i0),Value.int IntKind.i64 (dA z i0)])))::ep z i0 (ep z i0 (ep z i0 (ep z i0 (ep z i0 (((!(!(dz z i0)))=true->il z i0 (lu z i0) (37:Nat) [dI (iI z i0)])::ep z i0 (ep z i0 [(!(dz z i0))=false->(!(!(dz z i0)))=true]))))))) (eF (3:Int) (if (!(dz z i0))=true then true else (z.l.Ln (x1 i0) !=lu z i0)) (ez (dm prog 102 [DV.agg (eG z []),dI (z.l.Ln (x1 i0)),DV.agg [x5 (z.l.nP (x1 i0)) (fun i1=>dI (z.l.P (x1 i0) i1)),x5 (z.l.nQ (x1 i0)) (fun i1=>dI (z.l.Q (x1 i0) i1))]] (dI (jj z i0))) (eF (jj z i0) (jj z i0 !=0) (ez (cZ (x0 i0+1)) (VT.done (iH z (x0 i0+1=(↑(gp i0):Int)) (fj z [fM z,fR z,gp i0<=z.b.N 0,z.b.N 0 - gp i0<z.b.N 0 - i0]))))))))))) (VT.done (iq z [] (0:Int)))))))))))
end
end w3c
open w3c in
theorem TS (b:dJ) (nB:Nat) (B:Nat->Int) (nO:Nat) (O:Nat->Int) (W G L:Int) (l:fX) (hN: ∀i,i<b.nS->b.N i<=1000) (h0:ja b nB B nO O W G L=0) (hl:Gh b nB B nO O W G l=0) (ht:mI l):dm prog 39 [jI b,Lay.sys nB B nO O W G L,Hg l] (.fy [qR b nB B nO O W G L,dI 0]):=by
 refine db dv (IX b nB B nO O W G L l) (V:=xt ⟨b,nB,B,nO,O,W,G,L,l⟩) (by kernel_rfl) ?_
 simp only [xt,x0,x1,x2,x3,x4,x5,x6,x7,x8,x9,dC,dA,dz,dG,dL,dR,dQ,ep,eu,eG,ez,eF,eQ,fC,fM,fR,fj,gp,iI,ji,iq,jj,jv,il,iH,lu,Rf,VT.holds,dt,Sq]
 obtain ⟨hc,hs,_,_,_,_,_⟩:=fu h0
 obtain ⟨b1,b2,b3,b4,b5⟩:=js hc
 have hn:=fp b2
 obtain ⟨hX,hY⟩:=eB b2
 have g1:=(fP hs).1
 have g2:=g1
 unfold j8 at g2
 obtain ⟨t1,t2,t3⟩:=ht
 obtain ⟨Uk,DD,hru⟩:=VE h0 hl
 have hany:Lay.fU (fun k=>kT (l.C k)) l.nC=false:=zp.2 fun k hk=>wg.2 (DD k (by omega))
 refine ⟨sw b nB B nO O W G L hN h0,fun h=>absurd trivial h,fun _=>⟨VC _ _ _ _ _ _ _ _ _ _ _ _ _ _ _,fun h=>absurd h (by omega),fun h=> ?_⟩⟩
 refine ⟨Bd l.nC l.C (by omega),fun h2=>absurd h2 (by rw [hany];simp),fun h2=>⟨rfl,ao _,fun i hi dK=> ?_⟩⟩
 have q1:=bf ((i:Int)+1) (show (b.N 0:Int)≠0 by omega)
 have q2:=bm ((i:Int)+1) (show (0:Int)<b.N 0 by omega)
 have ha:=DD i (by omega)
 have hU:=DD (((i:Int)+1)%(b.N 0:Int)).toNat (by omega)
 have bb:=pU (n:=b.N 0) (X:=b.X 0) (Y:=b.Y 0) (i:Int) g1 ha
 have t4:=t3 i (by omega)
 have hri:=(hru i (by omega)).1
 refine ⟨by omega,⟨by omega,by unfold cZ;omega,by omega,q1,by omega⟩,fun h3=>absurd hri (by rw [ru_1 h3];decide),fun h3=>⟨⟨rR _ _ _ _ _ _ _ _ _ _ _ _ _ _ _ _ _ (by omega) g1 ha,qS _ _ _ _ _ _ _ _ _ _ _ _ _ _ _ _ _ _ (by omega) hX hY (by omega) (by omega),fun _=>qN _ _ _ _ _ _ _ _ _ _ _ _ _ _ _ _ _ _ (by omega) (by omega) hX hY g1 ha hU⟩,fun h4=>absurd hri (fun hr0=>absurd ((ru_2 h3 fun hx=> ?_).symm.trans hr0) (by decide)),fun h4=> ?_⟩⟩
 ·rcases h4 with h4|h4
  ·exact absurd (h4 hx.1 hx.2.1) (by simp)
  ·exact h4 hx.2.2
 ·have h5:l.SX i=Ly b G W i (l.C i)/\l.SY i=Lx b G W i (l.C i)/\l.Ln i=jG (b.N 0) (b.X 0) (b.Y 0) G W i (l.C i) (LQ b l i):=by
   by_cases e1:l.SX i=Ly b G W i (l.C i)
   ·by_cases e2:l.SY i=Lx b G W i (l.C i)
    ·exact ⟨e1,e2,h4.2⟩
    ·exact absurd (fun _ hx=>absurd hx e2) h4.1
   ·exact absurd (fun hx=>absurd hx e1) h4.1
  rw [Tt h3 h5] at hri
  refine ⟨Lay.H3 nB B nO O W G L _ _ _ _ _ hs (by omega) (by omega),fun h6=>absurd hri h6,fun h6=>⟨by unfold cZ;omega,rfl,by omega,by omega⟩⟩
end Go.Abs
end
section
set_option maxRecDepth 100000
namespace Go.Abs
open Go
def bxN (b:dJ) (nB:Nat) (B:Nat->Int) (nO:Nat) (O:Nat->Int) (W G L:Int) (l:fX):Nat:=if rk b nB B nO O W G L l=0 then (dn l (b.N 0)).length else 0
abbrev oo (f:Int) (n:Nat) (A:Nat->Int) (m:Nat) (L:Int):DV:= .agg [dI f,Lay.nums n A,Lay.nums m (lfF L)]
theorem yZ (l:fX): ∀n k,k∈dn l n->k<n/\l.Ln k>0
 |0,k,h=>by cases h
 |n+1,k,h=>by
  rw [dn] at h
  split at h
  ·rcases aT.1 h with h|h
   ·have:=yZ l n k h;omega
   ·obtain rfl:=au.1 h;omega
  ·have:=yZ l n k h;omega
theorem Eo {α:Type} {f:Nat->α} (l:List Nat) (x:Nat) {v:α} (hv:v=f x): ∀j,j<(l++[x]).length->(if j<l.length then f (l.getD j 0) else v)=f ((l++[x]).getD j 0):=fun j h=>by
 rw [aO] at h
 simp at h
 split
 ·rename_i h1;simp [aM h1]
 ·rw [show j=l.length by omega,hv];simp
theorem G3 {l:fX} {k:Nat} (h:l.Ln k>0):dn l (k+1)=dn l k++[k]:=by rw [dn,ah h]
theorem LM {l:fX} {k:Nat} (h: ¬l.Ln k>0):dn l (k+1)=dn l k:=by rw [dn,ae h]
noncomputable def IA (b:dJ) (nB:Nat) (B:Nat->Int) (nO:Nat) (O:Nat->Int) (W G L:Int) (l:fX):eH:={ dq:=[(1,[(3,.res fun _=> .fy [.any,dI (rk b nB B nO O W G L l)])]),(9,[(13,.res fun _=>dI 0),(14,.pos),(17,.res fun _=>bx 0 0 0 0 0 0)])],loops:=[(0,{ ι:=Nat,keep:=[],boxes:=[],ts:=fun _ _=>[],inv:=fun _ _=>True,mu:=fun _ i=>i,rd:=fun _ _=>0 })],dw:=[] }
theorem RX (b:dJ) (nB:Nat) (B:Nat->Int) (nO:Nat) (O:Nat->Int) (W G L:Int) (l:fX) (hN: ∀i,i<b.nS->b.N i<=1000) (ht:mI l) (h0:rk b nB B nO O W G L l≠0):dm prog 9 [jI b,Lay.sys nB B nO O W G L,Hg l] (.fy [.di 0 (bxC b G W L l (dn l (b.N 0))),dI (rk b nB B nO O W G L l)]):=by
 refine db dv (IA b nB B nO O W G L l) (V:= .da [dm prog 39 [(jI b),.agg [.di nB [fun i=>(dI (B i))],.di nO [fun i=>(dI (O i))],(dI W),(dI G),(dI L)],.agg [.di l.nC [fun i=>(dI (l.C i))],.di l.nR [fun i=>(dI (l.F i)),fun i=>(dI (l.SX i)),fun i=>(dI (l.SY i)),fun i=>(dI (l.Ln i)),fun i=> .di (l.nP i) [fun dS=>(dI (l.P i dS))],fun i=> .di (l.nQ i) [fun dS=>(dI (l.Q i dS))]]]] (.fy [.any,(dI (rk b nB B nO O W G L l))])] (.ite (rk b nB B nO O W G L l !=0) (.done [(0:Nat)=0,rk b nB B nO O W G L l=rk b nB B nO O W G L l]) (.loop Nat (fun a=>True) (0:Nat) [] fun i=> .da [False] (.done [False])))) (by kernel_rfl) ?_
 simp only [VT.holds,dt,Sq]
 exact ⟨LV b nB B nO O W G L l hN ht,fun h=>absurd h h0⟩
noncomputable def Iz (b:dJ) (nB:Nat) (B:Nat->Int) (nO:Nat) (O:Nat->Int) (W G L:Int) (l:fX):eH:={ dq:=[(1,[(3,.res fun _=> .fy [qR b nB B nO O W G L,dI 0])]),(9,[(13,.res fun _=>dI (b.N 0:Int)),(14,.pos),(17,Yd b G W L)])],loops:=[(0,{ ι:=Nat,keep:=[5,8,24,25],boxes:=[5],ts:=fun _ i=>[(26,dI (i:Int))],rw:=fun _ i=>[(10,6,(dn l i).length,bxC b G W L l (dn l i))],inv:=fun _ i=>i<=b.N 0,mu:=fun _ i=>b.N 0 - i,rd:=fun _ σ=>(eA (σ.get 26)).toNat })],dw:=[] }
noncomputable abbrev qg (dS:Nat) (l:fX) (i:Nat):Bool:=decide (dS<List.length (dn l i))
noncomputable abbrev ZE (b:dJ) (nB:Nat) (B:Nat->Int) (nO:Nat) (O:Nat->Int) (W:Int) (G:Int) (L:Int):DV:= .dN [.val (.string b.name),.di b.nS [fun i=>(dI (b.fl i)),fun i=> .di (b.N i) [fun dS=>(dI (b.X i dS)),fun dS=>(dI (b.Y i dS))]],(dI b.dr),.di b.nO [fun i=>(dI (b.O i (0:Nat))),fun i=>(dI (b.O i (1:Nat))),fun i=>(dI (b.O i (2:Nat))),fun i=>(dI (b.O i (3:Nat))),fun i=>(dI (b.O i (4:Nat))),fun i=>(dI (b.O i (5:Nat)))],.di b.nB [fun i=>(dI (b.B i (0:Nat))),fun i=>(dI (b.B i (1:Nat))),fun i=>(dI (b.B i (2:Nat))),fun i=>(dI (b.B i (3:Nat))),fun i=>(dI (b.B i (4:Nat))),fun i=>(dI (b.B i (5:Nat)))],.di nB [fun i=>(dI (B i))],.di nO [fun i=>(dI (O i))],(dI W),(dI G),(dI L),(dI (↑(Lay.fZ nB B nO O W G L):Int)),.di (Lay.iv nB B nO O W G L) [fun i=>(dI (Lay.fa nB B nO O i)),fun i=>(dI (Lay.ed nB i)),fun i=>(dB (decide (nB<=i)))],.di (b.N 0) [fun i=>(dI (b.X 0 i)),fun i=>(dI (b.Y 0 i)),fun i=>(dI (b.X 0 (ix (b.N 0) ((i:Int)+(1:Int))))),fun i=>(dI (b.Y 0 (ix (b.N 0) ((i:Int)+(1:Int))))),fun i=>(dI (ee (b.N 0) (b.X 0) (b.Y 0) (i:Int))),fun i=>(dI (dD (b.N 0) (b.X 0) (b.Y 0) (i:Int)))],.di (b.N 0) [fun k=>(dI (lM (b.N 0) (b.X 0) (b.Y 0) k))]]
noncomputable abbrev ZD (b:dJ) (nB:Nat) (B:Nat->Int) (nO:Nat) (O:Nat->Int) (W:Int) (G:Int) (L:Int) (l:fX) (r:List Prop):List Prop:=(b.dr=b.dr)::(b.nO=b.nO)::(∀(i:Nat),i<b.nO->b.O i (0:Nat)=b.O i (0:Nat))::(∀(i:Nat),i<b.nO->b.O i (1:Nat)=b.O i (1:Nat))::(∀(i:Nat),i<b.nO->b.O i (2:Nat)=b.O i (2:Nat))::(∀(i:Nat),i<b.nO->b.O i (3:Nat)=b.O i (3:Nat))::(∀(i:Nat),i<b.nO->b.O i (4:Nat)=b.O i (4:Nat))::(∀(i:Nat),i<b.nO->b.O i (5:Nat)=b.O i (5:Nat))::(b.nB=b.nB)::(∀(i:Nat),i<b.nB->b.B i (0:Nat)=b.B i (0:Nat))::(∀(i:Nat),i<b.nB->b.B i (1:Nat)=b.B i (1:Nat))::(∀(i:Nat),i<b.nB->b.B i (2:Nat)=b.B i (2:Nat))::(∀(i:Nat),i<b.nB->b.B i (3:Nat)=b.B i (3:Nat))::(∀(i:Nat),i<b.nB->b.B i (4:Nat)=b.B i (4:Nat))::(∀(i:Nat),i<b.nB->b.B i (5:Nat)=b.B i (5:Nat))::(nB=nB)::(∀(i:Nat),i<nB->B i=B i)::(nO=nO)::(∀(i:Nat),i<nO->O i=O i)::(W=W)::(G=G)::(L=L)::((↑(Lay.fZ nB B nO O W G L):Int)=(↑(Lay.fZ nB B nO O W G L):Int))::(Lay.iv nB B nO O W G L=Lay.iv nB B nO O W G L)::(∀(i:Nat),i<Lay.iv nB B nO O W G L->Lay.fa nB B nO O i=Lay.fa nB B nO O i)::(∀(i:Nat),i<Lay.iv nB B nO O W G L->Lay.ed nB i=Lay.ed nB i)::(∀(i:Nat),i<Lay.iv nB B nO O W G L->decide (nB<=i)=decide (nB<=i))::(b.N 0=b.N 0)::(∀(i:Nat),i<b.N 0->b.X 0 i=b.X 0 i)::(∀(i:Nat),i<b.N 0->b.Y 0 i=b.Y 0 i)::(∀(i:Nat),i<b.N 0->b.X 0 (ix (b.N 0) ((i:Int)+(1:Int)))=b.X 0 (ix (b.N 0) ((i:Int)+(1:Int))))::(∀(i:Nat),i<b.N 0->b.Y 0 (ix (b.N 0) ((i:Int)+(1:Int)))=b.Y 0 (ix (b.N 0) ((i:Int)+(1:Int))))
 ::(∀(i:Nat),i<b.N 0->ee (b.N 0) (b.X 0) (b.Y 0) (i:Int)=ee (b.N 0) (b.X 0) (b.Y 0) (i:Int))::(∀(i:Nat),i<b.N 0->dD (b.N 0) (b.X 0) (b.Y 0) (i:Int)=dD (b.N 0) (b.X 0) (b.Y 0) (i:Int))::(b.N 0=b.N 0)::(∀(i:Nat),i<b.N 0->lM (b.N 0) (b.X 0) (b.Y 0) i=lM (b.N 0) (b.X 0) (b.Y 0) i)::(l.nR=l.nR)::(∀(i:Nat),i<l.nR->l.F i=l.F i)::(∀(i:Nat),i<l.nR->l.SX i=l.SX i)::(∀(i:Nat),i<l.nR->l.SY i=l.SY i)::(∀(i:Nat),i<l.nR->l.Ln i=l.Ln i)::r
noncomputable abbrev ZC (l:fX) (r:List Prop):List Prop:=(l.nC=l.nC)::(∀(i:Nat),i<l.nC->l.C i=l.C i)::(l.nR=l.nR)::(∀(i:Nat),i<l.nR->l.F i=l.F i)::(∀(i:Nat),i<l.nR->l.SX i=l.SX i)::(∀(i:Nat),i<l.nR->l.SY i=l.SY i)::(∀(i:Nat),i<l.nR->l.Ln i=l.Ln i)::r
namespace w3e
noncomputable section
structure Z where
 b:dJ
 nB:Nat
 B:Nat->Int
 nO:Nat
 O:Nat->Int
 W:Int
 G:Int
 L:Int
 l:fX
variable (z:Z) (i0 i1:Nat) (p q:Prop) (P:List Prop) (a b:Int) (k:Nat) (E:List DV) (oh:Nat->DV) (BW:List Nat) (Yw:List Value)
abbrev x0:Int:=(i0:Int)
abbrev x1:=List.length (dn z.l k)
abbrev x2:=Int.toNat (x0 i0+1)
abbrev x3:=i0<z.b.N 0->rf a
abbrev x4:=i0<z.b.nO->rf (z.b.O i0 k)
abbrev x5:=i0<z.b.nB->rf (z.b.B i0 k)
abbrev x6:=Lay.iv z.nB z.B z.nO z.O z.W z.G z.L
abbrev x7:=DV.di k [oh]
abbrev x8:=ix (z.b.N 0) (x0 i0+1)
abbrev x9:=(x0 i0+1)%(↑(z.b.N 0):Int)
abbrev dC:=i1<x1 z (x2 i0)->a=b
abbrev dA:=z.l.C (Int.toNat (x0 i0))
abbrev dz:=z.l.C (Int.toNat (x9 z i0))
abbrev dG:=x1 z (z.b.N 0)
abbrev dL:List Value:=Value.int IntKind.i64 a::Yw
abbrev dR:=gq z.b.dr z.L
abbrev dQ:= ∀i0<z.l.nR,rf (z.l.nQ i0)/\(∀i1<z.l.nQ i0,rf (z.l.Q i0 i1))
abbrev ep:=if (decide (i1<(x1 z i0)))=true then a else b
abbrev eu:=ee (z.b.N 0) (z.b.X 0) (z.b.Y 0) (x0 i0)
abbrev eG:=dD (z.b.N 0) (z.b.X 0) (z.b.Y 0) (x0 i0)
abbrev ez:=lM (z.b.N 0) (z.b.X 0) (z.b.Y 0) i0
abbrev eF:List Prop:=p::rf z.l.nR::(∀i0<z.l.nR,rf (z.l.F i0))::(∀i0<z.l.nR,rf (z.l.SX i0))::(∀i0<z.l.nR,rf (z.l.SY i0))::(∀i0<z.l.nR,rf (z.l.Ln i0))::(∀i0<z.l.nR,rf (z.l.nP i0)/\(∀i1<z.l.nP i0,rf (z.l.P i0 i1)))::P
abbrev eQ:=nf z.b z.G z.W z.l BW i1
abbrev fC:=nd z.b z.G z.W z.l BW i1
abbrev fM:=nw z.b z.G z.W z.l BW i1
abbrev fR:=nv z.b z.G z.W z.l BW i1
abbrev fj:=Lay.fZ z.nB z.B z.nO z.O z.W z.G z.L
abbrev gp:=dn z.l (z.b.N 0)
abbrev iI:List DV:=x7 z.nB (fun i0=>dI (z.B i0))::x7 z.nO (fun i0=>dI (z.O i0))::dI z.W::dI z.G::dI z.L::E
abbrev ji:= ∀i0<z.l.nC,rf (z.l.C i0)
abbrev iq:=DV.dN (DV.val (Value.string z.b.name)::DV.di z.b.nS [fun i0=>dI (z.b.fl i0),fun i0=>DV.di (z.b.N i0) [fun i1=>dI (z.b.X i0 i1),fun i1=>dI (z.b.Y i0 i1)]]::dI z.b.dr::DV.di z.b.nO [fun i0=>dI (z.b.O i0 0),fun i0=>dI (z.b.O i0 1),fun i0=>dI (z.b.O i0 2),fun i0=>dI (z.b.O i0 3),fun i0=>dI (z.b.O i0 4),fun i0=>dI (z.b.O i0 5)]::DV.di z.b.nB [fun i0=>dI (z.b.B i0 0),fun i0=>dI (z.b.B i0 1),fun i0=>dI (z.b.B i0 2),fun i0=>dI (z.b.B i0 3),fun i0=>dI (z.b.B i0 4),fun i0=>dI (z.b.B i0 5)]::iI z [dI (↑(fj z):Int),DV.di (x6 z) [fun i0=>dI (Lay.fa z.nB z.B z.nO z.O i0),fun i0=>dI (Lay.ed z.nB i0),fun i0=>dB (decide (z.nB<=i0))],DV.di (z.b.N 0) [fun i0=>dI (z.b.X 0 i0),fun i0=>dI (z.b.Y 0 i0),fun i0=>dI (z.b.X 0 (x8 z i0)),fun i0=>dI (z.b.Y 0 (x8 z i0)),fun i0=>dI (eu z i0),fun i0=>dI (eG z i0)],x7 (z.b.N 0) (fun i0=>dI (ez z i0))])
abbrev jj:List Prop:=rf z.b.name::rf z.b.nS::(∀i0<z.b.nS,rf (z.b.fl i0))::(∀i0<z.b.nS,rf (z.b.N i0)/\(∀i1<z.b.N i0,rf (z.b.X i0 i1))/\(∀i1<z.b.N i0,rf (z.b.Y i0 i1)))::rf z.b.dr::rf z.b.nO::(∀(i0:Nat),x4 z i0 (0:Nat))::(∀(i0:Nat),x4 z i0 (1:Nat))::(∀(i0:Nat),x4 z i0 (2:Nat))::(∀(i0:Nat),x4 z i0 (3:Nat))::(∀(i0:Nat),x4 z i0 (4:Nat))::(∀(i0:Nat),x4 z i0 (5:Nat))::rf z.b.nB::(∀(i0:Nat),x5 z i0 (0:Nat))::(∀(i0:Nat),x5 z i0 (1:Nat))::(∀(i0:Nat),x5 z i0 (2:Nat))::(∀(i0:Nat),x5 z i0 (3:Nat))::(∀(i0:Nat),x5 z i0 (4:Nat))::(∀(i0:Nat),x5 z i0 (5:Nat))::rf z.nB::(∀i0<z.nB,rf (z.B i0))::rf z.nO::(∀i0<z.nO,rf (z.O i0))::rf z.W::rf z.G::rf z.L::rf (↑(fj z):Int)::rf (x6 z)::(∀i0<x6 z,rf (Lay.fa z.nB z.B z.nO z.O i0))::(∀i0<x6 z,rf (Lay.ed z.nB i0))::(∀i0<x6 z,rf (decide (z.nB<=i0)))::rf (z.b.N 0)::(∀(i0:Nat),x3 z i0 (z.b.X 0 i0))::(∀(i0:Nat),x3 z i0 (z.b.Y 0 i0))::(∀(i0:Nat),x3 z i0 (z.b.X 0 (x8 z i0)))::(∀(i0:Nat),x3 z i0 (z.b.Y 0 (x8 z i0)))::(∀(i0:Nat),x3 z i0 (eu z i0))::(∀(i0:Nat),x3 z i0 (eG z i0))::rf (z.b.N 0)::eF z (∀(i0:Nat),x3 z i0 (ez z i0)) (dQ z::rf (z.l.nR:Int)::P)
abbrev jv:=dC z i0 i1 a (eQ z i1 (dn z.l (x2 i0)))
abbrev il:=dC z i0 i1 a (fC z i1 (dn z.l (x2 i0)))
abbrev iH:=dC z i0 i1 a (fM z i1 (dn z.l (x2 i0)))
abbrev lu:=dC z i0 i1 a (fR z i1 (dn z.l (x2 i0)))
abbrev lq:=VT.da [cZ (x0 i0+1)] (VT.done ((x0 i0+1=(↑(x2 i0):Int))::rf (0:Nat)::P))
abbrev ku:List Prop:=p::q::rf z.l.nC::eF z (ji z) [dQ z,x2 i0<=z.b.N 0,z.b.N 0 - x2 i0<z.b.N 0 - i0]
abbrev qq:=lC (z.b.N 0) (z.b.X 0) (z.b.Y 0) z.G z.W (x0 i0) (dA z i0) (dz z i0)
abbrev nm:=lA (z.b.N 0) (z.b.X 0) (z.b.Y 0) z.G z.W (x0 i0) (dA z i0) (dz z i0)
abbrev nA:=lB (z.b.N 0) (z.b.X 0) (z.b.Y 0) z.G z.W (x0 i0) (dA z i0) (dz z i0)
abbrev uh:=lz (z.b.N 0) (z.b.X 0) (z.b.Y 0) z.G z.W (x0 i0) (dA z i0) (dz z i0)
abbrev xt:VT:=VT.da [dm prog 39 [jI z.b,DV.agg (iI z []),DV.agg [x7 z.l.nC (fun i0=>dI (z.l.C i0)),DV.di z.l.nR [fun i0=>dI (z.l.F i0),fun i0=>dI (z.l.SX i0),fun i0=>dI (z.l.SY i0),fun i0=>dI (z.l.Ln i0),fun i0=>x7 (z.l.nP i0) (fun i1=>dI (z.l.P i0 i1)),fun i0=>x7 (z.l.nQ i0) (fun i1=>dI (z.l.Q i0 i1))]]] (DV.fy [iq z,dI 0])] (VT.ite ((0:Int) !=(0:Int)) (VT.done [dG z=0,rf (0:Int)]) (VT.loop Nat (fun i0=>i0<=z.b.N 0) (Int.toNat 0) ((0=(↑(Int.toNat 0):Int))::rf (0:Nat)::((nat_lit 0)=0)::jj z (((nat_lit 0)=0)::rf z.l.nC::eF z (ji z) [dQ z])) (fun i0=>VT.ite (decide ((x0 i0)<(z.l.nR:Int))) (VT.da [0<=x0 i0/\x0 i0<(z.l.nR:Int)] (VT.ite (decide ((z.l.Ln (Int.toNat (x0 i0)))>(0:Int))) (VT.da [0<=x0 i0/\x0 i0<(z.l.nC:Int),cZ (x0 i0+1),dm prog 33 [iq z] (dI (↑(z.b.N 0):Int)),0<=x0 i0+1/\0<(↑(z.b.N 0):Int),0<=x9 z i0/\x9 z i0<(z.l.nC:Int),dm prog 40 [iq z,dI (x0 i0),dI (dA z i0),dI (dz z i0)] (DV.val (Value.agg (Array.mk (dL (qq z i0) (dL (nm z i0) (dL (0:Int) (dL (nA z i0) (dL (uh z i0) (dL (dR z) []))))))))),x1 z i0<=x1 z i0,(x1 z i0+1)*((nat_lit 47)+1)<=140737488355328,(1:Nat)<=(1:Nat)] (lq i0 ((x1 z i0+1=x1 z (x2 i0))::jj z ((x1 z i0+1=x1 z (x2 i0))::(∀(i1:Nat),jv z i0 i1 (ep z i0 i1 (eQ z i1 (dn z.l i0)) (qq z i0)))::(∀(i1:Nat),il z i0 i1 (ep z i0 i1 (fC z i1 (dn z.l i0)) (nm z i0)))::(∀(i1:Nat),dC z i0 i1 (ep z i0 i1 (0:Int) (0:Int)) (0:Int))::(∀(i1:Nat),iH z i0 i1 (ep z i0 i1 (fM z i1 (dn z.l i0)) (nA z i0)))::ku z i0 (∀(i1:Nat),lu z i0 i1 (ep z i0 i1 (fR z i1 (dn z.l i0)) (uh z i0))) (∀(i1:Nat),dC z i0 i1 (ep z i0 i1 (dR z) (dR z)) (dR z)))))) (lq i0 ((x1 z i0=x1 z (x2 i0))::jj z ((x1 z i0=x1 z (x2 i0))::(∀(i1:Nat),jv z i0 i1 (eQ z i1 (dn z.l i0)))::(∀(i1:Nat),il z i0 i1 (fC z i1 (dn z.l i0)))::(∀i1<x1 z (x2 i0),rf (0:Int))::(∀(i1:Nat),iH z i0 i1 (fM z i1 (dn z.l i0)))::ku z i0 (∀(i1:Nat),lu z i0 i1 (fR z i1 (dn z.l i0))) (∀i1<x1 z (x2 i0),rf (dR z))))))) (VT.done [x1 z i0<=x1 z i0,x1 z i0=dG z,∀i1<dG z,eQ z i1 (dn z.l i0)=eQ z i1 (gp z),∀i1<dG z,fC z i1 (dn z.l i0)=fC z i1 (gp z),∀i0<dG z,rf (0:Int),∀i1<dG z,fM z i1 (dn z.l i0)=fM z i1 (gp z),∀i1<dG z,fR z i1 (dn z.l i0)=fR z i1 (gp z),∀i0<dG z,rf (dR z),rf (0:Int)]))))
end
end w3e
open w3e in
theorem RW (b:dJ) (nB:Nat) (B:Nat->Int) (nO:Nat) (O:Nat->Int) (W G L:Int) (l:fX) (hN: ∀i,i<b.nS->b.N i<=1000) (ht:mI l) (h0:ja b nB B nO O W G L=0) (hl:Gh b nB B nO O W G l=0):dm prog 9 [jI b,Lay.sys nB B nO O W G L,Hg l] (.fy [.di (dn l (b.N 0)).length (bxC b G W L l (dn l (b.N 0))),dI 0]):=by
 refine db dv (Iz b nB B nO O W G L l) (V:=xt ⟨b,nB,B,nO,O,W,G,L,l⟩) (by kernel_rfl) ?_
 simp only [xt,x0,x1,x2,x3,x4,x5,x6,x7,x8,x9,dC,dA,dz,dG,dL,dR,dQ,ep,eu,eG,ez,eF,eQ,fC,fM,fR,fj,gp,iI,ji,iq,jj,jv,il,iH,lu,lq,ku,qq,nm,nA,uh,Rf,VT.holds,dt,Sq]
 obtain ⟨hc,hs,k3,_,_,_,_⟩:=fu h0
 obtain ⟨b1,b2,b3,b4,b5⟩:=js hc
 have hn:=fp b2
 obtain ⟨hX,hY⟩:=eB b2
 obtain ⟨g1,gL⟩:=fP hs
 obtain ⟨Uk,DD,hru⟩:=VE h0 hl
 have oS:dm prog 39 [jI b,Lay.sys nB B nO O W G L,Hg l] (.fy [qR b nB B nO O W G L,dI 0]):=TS b nB B nO O W G L l hN h0 hl ht
 refine ⟨oS,fun h=>absurd trivial h,fun _=>⟨rfl,ao _,fun i hi=>⟨fun dK=> ?_,fun iy=> ?_⟩⟩⟩
 ·skip
  have q1:=bf ((i:Int)+1) (show (b.N 0:Int)≠0 by omega)
  have q2:=bm ((i:Int)+1) (show (0:Int)<b.N 0 by omega)
  have ha:=DD i (by omega)
  have hU:=DD (((i:Int)+1)%(b.N 0:Int)).toNat (by omega)
  have hle:=zY l i
  refine ⟨by omega,fun h=>⟨⟨by omega,by unfold cZ;omega,VC _ _ _ _ _ _ _ _ _ _ _ _ _ _ _,⟨by omega,by omega⟩,⟨by omega,by omega⟩,xb _ _ _ _ _ _ _ _ _ _ _ _ _ _ _ _ _ _ (by omega) (by omega) hX hY g1 ha hU (by omega) (by omega),af _,by omega,af _⟩,by unfold cZ;omega,rfl,?_⟩,fun h=>⟨by unfold cZ;omega,rfl,?_⟩⟩
  ·rw [G3 h]
   exact ⟨by simp,by simp,Eo (f:=fun k=>lC (b.N 0) (b.X 0) (b.Y 0) G W (k:Nat) (l.C k) (LQ b l k)) _ _ rfl,Eo (f:=fun k=>lA (b.N 0) (b.X 0) (b.Y 0) G W (k:Nat) (l.C k) (LQ b l k)) _ _ rfl,fun _ _=>by split<;>rfl,Eo (f:=fun k=>lB (b.N 0) (b.X 0) (b.Y 0) G W (k:Nat) (l.C k) (LQ b l k)) _ _ rfl,Eo (f:=fun k=>lz (b.N 0) (b.X 0) (b.Y 0) G W (k:Nat) (l.C k) (LQ b l k)) _ _ rfl,fun _ _=>by split<;>rfl,by omega,by omega⟩
  ·rw [LM h]
   exact ⟨rfl,rfl,fun _ _=>rfl,fun _ _=>rfl,fun _ _=>rfl,fun _ _=>rfl,by omega,by omega⟩
 ·obtain rfl:i=b.N 0:=by omega
  exact ⟨af _,rfl,fun _ _=>rfl,fun _ _=>rfl,fun _ _=>rfl,fun _ _=>rfl⟩
section
variable {b:dJ} {nB:Nat} {B:Nat->Int} {nO:Nat} {O:Nat->Int} {W G L:Int} {l:fX}
theorem Ij (b:dJ) (nB:Nat) (B:Nat->Int) (nO:Nat) (O:Nat->Int) (W G L:Int) (l:fX) (hN: ∀i,i<b.nS->b.N i<=1000) (ht:mI l):
 dm prog 9 [jI b,Lay.sys nB B nO O W G L,Hg l] (.fy [.di (bxN b nB B nO O W G L l) (bxC b G W L l (dn l (b.N 0))),dI (rk b nB B nO O W G L l)]):=by
 by_cases h:rk b nB B nO O W G L l=0
 ·obtain ⟨h1,h2⟩:=Hq h
  rw [bxN,ah h,h]
  exact RW b nB B nO O W G L l hN ht h1 h2
 ·rw [bxN,ae h]
  exact RX b nB B nO O W G L l hN ht h
end
end Go.Abs
end
section
set_option maxRecDepth 100000
namespace Go.Abs
open Go
abbrev pr (x y:Int) (k:Nat):Int:=List.getD [x,y] k 0
def jK (nB:Nat) (B:Nat->Int) (nO:Nat) (O:Nat->Int):Int:=(Lay.mG nB B O (nB+nO):Nat)
theorem MH {nB:Nat} {B:Nat->Int} {nO:Nat} {O:Nat->Int} {W G L:Int} (hs:Lay.fN nB B nO O W G L=0):(Lay.fZ nB B nO O W G L:Int)=jK nB B nO O/\1<=jK nB B nO O/\jK nB B nO O<=10000:=by
 obtain ⟨s1,s2,s3,sB,sO,_,_⟩:=Lay.n5 hs
 have hu:=Lay.O7 s1 sB sO
 refine ⟨?_,?_⟩
 ·rw [Lay.fZ,ah hs,Lay.unit_eq];rfl
 ·unfold jK;omega
section
variable {u:Int} {n:Nat} {R:Int->Int->Int->Int} {nT:Nat} {T L0 L1:Nat->Int} {f:Nat}
end
abbrev lst2 (n:Nat) (A B:Nat->Int):DV:= .di n [fun i=>dI (A i),fun i=>dI (B i)]
end Go.Abs
end
section
set_option maxRecDepth 100000
namespace Go.Abs
open Go
structure ua where
 nT:Nat
 T:Nat->Int
 n0:Nat
 A0:Nat->Int
 A1:Nat->Int
 n1:Nat
 B0:Nat->Int
 B1:Nat->Int
abbrev Z3 (p:ua):DV:= .agg [Lay.nums p.nT p.T,lst2 p.n0 p.A0 p.A1,lst2 p.n1 p.B0 p.B1]
def pvL (x y:Int):Int:=if x<0\/0<=y/\y<x then y else x
def pvK (nB:Nat) (B:Nat->Int) (l:fX):Int:=10000*lv nB B l l.nR+mf l l.nR
section
variable {b:dJ} {nB:Nat} {B:Nat->Int} {nO:Nat} {O:Nat->Int} {W G:Int} {l:fX} {p:ua}
theorem Yj (ht:mI l):cZ (10000*lv nB B l l.nR)/\cZ (10000*lv nB B l l.nR+mf l l.nR)/\(0<=lv nB B l l.nR/\lv nB B l l.nR<=100000000)/\0<=mf l l.nR/\mf l l.nR<=100000000:=by
 have h1:=Ed (nB:=nB) (B:=B) ht l.nR (af _)
 have h2:=Ee ht l.nR (af _)
 have h3:=ht.2.1
 unfold cZ
 omega
end
section
variable {b:dJ} {nB:Nat} {B:Nat->Int} {nO:Nat} {O:Nat->Int} {W G L:Int} {l:fX} {p:ua}
end
end Go.Abs
end
section
set_option maxRecDepth 100000
namespace Go.Abs.Lay
open Go
end Go.Abs.Lay
end
section
set_option maxRecDepth 100000
namespace Go.Abs
open Go
def iN (n:Nat) (X Y:Nat->Int) (G W:Int):Nat->Int
 |0=>0
 |m+1=>max (iN n X Y G W m) (jG n X Y G W ((m/4:Nat):Int) ((m%4/2:Nat):Int) ((m%4%2:Nat):Int))
def J6 (lon u:Int):Int:=if lon>4000*u then 8 else 0
def TH (lon u:Int):Nat:=if J6 lon u=0 then (lon/u+1).toNat else 0
def Cn (T:Nat->Int) (u x:Int):Int:=if x<0\/x%u≠0 then -1 else T (x/u).toNat
section
variable {n:Nat} {X Y:Nat->Int} {G W:Int} {T:Nat->Int} {u:Int}
theorem c4 {c:Nat} (h:c<4):(0<=((c/2:Nat):Int)/\((c/2:Nat):Int)<=1)/\0<=((c%2:Nat):Int)/\((c%2:Nat):Int)<=1:=by omega
theorem Py (hn:0<n) (hX:kM n X) (hY:kM n Y) (hg:j8 G W) (i:Int) {a b:Int} (ha:0<=a/\a<=1) (hb:0<=b/\b<=1): -40000<=jG n X Y G W i a b/\jG n X Y G W i a b<=4040000:=by
 have b1:=pU (n:=n) (X:=X) (Y:=Y) i hg ha
 have b2:=xO i hn hX hY hg hb
 unfold jG
 omega
theorem Vm (hg:j8 G W) (i:Int) {a b:Int} (ha:0<=a/\a<=1) (hb:0<=b/\b<=1):jG n X Y G W i a b<=jG n X Y G W i 1 0:=by
 obtain ⟨g1,g2,g3,g4⟩:=hg
 have h1:=Ds ha ⟨g3,g4⟩
 have h2:=Ds hb ⟨g3,g4⟩
 unfold jG gA ft
 split<;>split<;>omega
theorem za (hn:0<n) (hX:kM n X) (hY:kM n Y) (hg:j8 G W): ∀m,0<=iN n X Y G W m/\iN n X Y G W m<=4040000
 |0=>by rw [iN];omega
 |m+1=>by
  have:=za hn hX hY hg m
  have h:=c4 (c:=m%4) (by omega)
  have:=Py hn hX hY hg ((m/4:Nat):Int) h.1 h.2
  rw [iN]
  omega
theorem TM {m k:Nat} (h:k<m):jG n X Y G W ((k/4:Nat):Int) ((k%4/2:Nat):Int) ((k%4%2:Nat):Int)<=iN n X Y G W m:=by
 induction m with
 |zero=>omega
 |succ m ih=>
  rw [iN]
  by_cases e:k=m
  ·subst e;omega
  ·have:=ih (by omega);omega
theorem ES {i c:Nat} (hi:i<n) (hc:c<4):jG n X Y G W i ((c/2:Nat):Int) ((c%2:Nat):Int)<=iN n X Y G W (4*n):=by
 have:=TM (n:=n) (X:=X) (Y:=Y) (G:=G) (W:=W) (m:=4*n) (k:=4*i+c) (by omega)
 rwa [show (4*i+c)/4=i by omega,show (4*i+c)%4=c by omega] at this
end
def qI (nB:Nat) (B:Nat->Int) (nO:Nat) (O:Nat->Int) (W G L:Int) (k:Nat):Int:=Lay.kB (Lay.yf (Lay.fB nB B nO O (nB+nO)) (Lay.fa nB B nO O) (Lay.ed nB) (nB+nO)) k
noncomputable def Cv (b:dJ) (nB:Nat) (B:Nat->Int) (nO:Nat) (O:Nat->Int) (W G L:Int):eH:={ dq:=[(2,[(1,.res fun _=>dI (b.N 0:Int))]),(8,[(4,.pos),(6,.pos),(7,.res fun l=>dI (jG (b.N 0) (b.X 0) (b.Y 0) G W (aI l 1) (aI l 2) (aI l 3)))])],loops:=[(0,{ ι:=Nat,keep:=[0,7],boxes:=[],ts:=fun _ i=>[(3,dI (iN (b.N 0) (b.X 0) (b.Y 0) G W (4*i))),(8,dI (i:Int))],inv:=fun _ i=>i<=b.N 0,mu:=fun _ i=>b.N 0 - i,rd:=fun _ σ=>(eA (σ.get 8)).toNat }),(2,{ ι:=Nat,keep:=[0,7,8,4],boxes:=[],ts:=fun σ c=>[(3,dI (iN (b.N 0) (b.X 0) (b.Y 0) G W (4*(eA (σ.get 8)).toNat+c))),(11,dI (c:Int))],inv:=fun _ c=>c<=4,mu:=fun _ c=>4 - c,rd:=fun _ σ=>(eA (σ.get 11)).toNat })],dw:=[] }
namespace w3f
noncomputable section
structure Z where
 b:dJ
 nB:Nat
 B:Nat->Int
 nO:Nat
 O:Nat->Int
 W:Int
 G:Int
 L:Int
variable (z:Z) (i0 i1:Nat) (p:Prop) (P:List Prop) (a:Int) (k:Nat)
abbrev x0:=i0<z.b.N 0->rf a
abbrev x1:=i0<z.b.nO->rf (z.b.O i0 k)
abbrev x2:=i0<z.b.nB->rf (z.b.B i0 k)
abbrev x3:=(i0:Int)+1
abbrev x4:=Lay.iv z.nB z.B z.nO z.O z.W z.G z.L
abbrev x5:=ix (z.b.N 0) (x3 i0)
abbrev x6:=iN (z.b.N 0) (z.b.X 0) (z.b.Y 0) z.G z.W k
abbrev x7:=Int.toNat 0
abbrev x8:=ee (z.b.N 0) (z.b.X 0) (z.b.Y 0) (i0:Int)
abbrev x9:=dD (z.b.N 0) (z.b.X 0) (z.b.Y 0) (i0:Int)
abbrev dC:=lM (z.b.N 0) (z.b.X 0) (z.b.Y 0) i0
abbrev dA:=Lay.fZ z.nB z.B z.nO z.O z.W z.G z.L
abbrev dz:=Int.toNat ((i1:Int)+1)
abbrev dG:=4*Int.toNat (i0:Int)+k
abbrev dL:List Prop:=p::rf z.b.name::rf z.b.nS::(∀i0<z.b.nS,rf (z.b.fl i0))::(∀i0<z.b.nS,rf (z.b.N i0)/\(∀i1<z.b.N i0,rf (z.b.X i0 i1))/\(∀i1<z.b.N i0,rf (z.b.Y i0 i1)))::rf z.b.dr::rf z.b.nO::(∀(i0:Nat),x1 z i0 (0:Nat))::(∀(i0:Nat),x1 z i0 (1:Nat))::(∀(i0:Nat),x1 z i0 (2:Nat))::(∀(i0:Nat),x1 z i0 (3:Nat))::(∀(i0:Nat),x1 z i0 (4:Nat))::(∀(i0:Nat),x1 z i0 (5:Nat))::rf z.b.nB::(∀(i0:Nat),x2 z i0 (0:Nat))::(∀(i0:Nat),x2 z i0 (1:Nat))::(∀(i0:Nat),x2 z i0 (2:Nat))::(∀(i0:Nat),x2 z i0 (3:Nat))::(∀(i0:Nat),x2 z i0 (4:Nat))::(∀(i0:Nat),x2 z i0 (5:Nat))::rf z.nB::(∀i0<z.nB,rf (z.B i0))::rf z.nO::(∀i0<z.nO,rf (z.O i0))::rf z.W::rf z.G::rf z.L::rf (↑(dA z):Int)::rf (x4 z)::(∀i0<x4 z,rf (Lay.fa z.nB z.B z.nO z.O i0))::(∀i0<x4 z,rf (Lay.ed z.nB i0))::(∀i0<x4 z,rf (decide (z.nB<=i0)))::rf (z.b.N 0)::(∀(i0:Nat),x0 z i0 (z.b.X 0 i0))::(∀(i0:Nat),x0 z i0 (z.b.Y 0 i0))::(∀(i0:Nat),x0 z i0 (z.b.X 0 (x5 z i0)))::(∀(i0:Nat),x0 z i0 (z.b.Y 0 (x5 z i0)))::(∀(i0:Nat),x0 z i0 (x8 z i0))::(∀(i0:Nat),x0 z i0 (x9 z i0))::rf (z.b.N 0)::(∀(i0:Nat),x0 z i0 (dC z i0))::rf (↑(z.b.N 0):Int)::P
abbrev dR:=DV.dN [DV.val (Value.string z.b.name),DV.di z.b.nS [fun i0=>dI (z.b.fl i0),fun i0=>DV.di (z.b.N i0) [fun i1=>dI (z.b.X i0 i1),fun i1=>dI (z.b.Y i0 i1)]],dI z.b.dr,DV.di z.b.nO [fun i0=>dI (z.b.O i0 0),fun i0=>dI (z.b.O i0 1),fun i0=>dI (z.b.O i0 2),fun i0=>dI (z.b.O i0 3),fun i0=>dI (z.b.O i0 4),fun i0=>dI (z.b.O i0 5)],DV.di z.b.nB [fun i0=>dI (z.b.B i0 0),fun i0=>dI (z.b.B i0 1),fun i0=>dI (z.b.B i0 2),fun i0=>dI (z.b.B i0 3),fun i0=>dI (z.b.B i0 4),fun i0=>dI (z.b.B i0 5)],DV.di z.nB [fun i0=>dI (z.B i0)],DV.di z.nO [fun i0=>dI (z.O i0)],dI z.W,dI z.G,dI z.L,dI (↑(dA z):Int),DV.di (x4 z) [fun i0=>dI (Lay.fa z.nB z.B z.nO z.O i0),fun i0=>dI (Lay.ed z.nB i0),fun i0=>dB (decide (z.nB<=i0))],DV.di (z.b.N 0) [fun i0=>dI (z.b.X 0 i0),fun i0=>dI (z.b.Y 0 i0),fun i0=>dI (z.b.X 0 (x5 z i0)),fun i0=>dI (z.b.Y 0 (x5 z i0)),fun i0=>dI (x8 z i0),fun i0=>dI (x9 z i0)],DV.di (z.b.N 0) [fun i0=>dI (dC z i0)]]
abbrev dQ:=jG (z.b.N 0) (z.b.X 0) (z.b.Y 0) z.G z.W (i0:Int) ((i1:Int)/2) ((i1:Int)%2)
abbrev xt:VT:=VT.da [dm prog 33 [dR z] (dI (↑(z.b.N 0):Int))] (VT.loop Nat (fun i0=>i0<=z.b.N 0) x7 ((0=x6 z (4*x7))::dL z (0=(x7:Int)) []) (fun i0=>VT.ite (decide ((i0:Int)<(↑(z.b.N 0):Int))) (VT.loop Nat (fun i0=>i0<=4) x7 ((x6 z (4*i0)=x6 z (dG i0 x7))::dL z (0=(x7:Int)) [rf (i0:Int),rf (i0:Int)]) (fun i1=>VT.ite (decide ((i1:Int)<(4:Int))) (VT.da [0<=(i1:Int)/\(0:Int)<(2:Int)/\(i1:Int)<=9223372036854775807,0<=(i1:Int)/\(0:Int)<(2:Int),dm prog 37 [dR z,dI (i0:Int),dI ((i1:Int)/2),dI ((i1:Int)%2)] (dI (dQ z i0 i1))] (VT.da [cZ ((i1:Int)+1)] (VT.done ((hP (x6 z (dG i0 i1)) [dQ z i0 i1]=x6 z (dG i0 (dz i1)))::dL z ((i1:Int)+1=(↑(dz i1):Int)) [rf (i0:Int),rf (i0:Int),dz i1<=4,4 - dz i1<4 - i1])))) (VT.da [cZ (x3 i0)] (VT.done ((x6 z (dG i0 i1)=x6 z (4*Int.toNat (x3 i0)))::dL z (x3 i0=(↑(Int.toNat (x3 i0)):Int)) [Int.toNat (x3 i0)<=z.b.N 0,z.b.N 0 - Int.toNat (x3 i0)<z.b.N 0 - i0]))))) (VT.done [x6 z (4*i0)=x6 z (4*z.b.N 0)])))
end
end w3f
open w3f in
theorem M9 (b:dJ) (nB:Nat) (B:Nat->Int) (nO:Nat) (O:Nat->Int) (W G L:Int) (hn:0<b.N 0) (jH:b.N 0<=1000) (hX:kM (b.N 0) (b.X 0)) (hY:kM (b.N 0) (b.Y 0)) (hg:j8 G W):dm prog 95 [qR b nB B nO O W G L] (dI (iN (b.N 0) (b.X 0) (b.Y 0) G W (4*b.N 0))):=by
 refine db dv (Cv b nB B nO O W G L) (V:=xt ⟨b,nB,B,nO,O,W,G,L⟩) (by kernel_rfl) ?_
 simp only [xt,x0,x1,x2,x3,x4,x5,x6,x7,x8,x9,dC,dA,dz,dG,dL,dR,dQ,Rf,VT.holds,dt,Sq]
 have e2: ∀c:Nat,(c:Int)/2=((c/2:Nat):Int):=fun c=>by omega
 have e3: ∀c:Nat,(c:Int)%2=((c%2:Nat):Int):=fun c=>by omega
 simp only [e2,e3]
 refine ⟨VC _ _ _ _ _ _ _ _ _ _ _ _ _ _ _,⟨rfl,rfl⟩,ao _,fun i hi=>⟨fun dK=>⟨⟨rfl,rfl⟩,by omega,fun c hc=>⟨fun hc4=> ?_,fun hc4=> ?_⟩⟩,fun iy=>by rw [show i=b.N 0 by omega]⟩⟩
 ·have h4:=c4 (c:=c) (by omega)
  refine ⟨⟨by omega,by omega,qN _ _ _ _ _ _ _ _ _ _ _ _ _ _ _ _ _ _ (by omega) jH hX hY hg h4.1 h4.2⟩,by unfold cZ;omega,?_,rfl,by omega,by omega⟩
  rw [vf,show 4*i+(c+1)=4*i+c+1 by omega,iN,show (4*i+c)/4=i by omega,show (4*i+c)%4=c by omega]
 ·exact ⟨by unfold cZ;omega,by rw [show 4*i+c=4*(i+1) by omega],rfl,by omega,by omega⟩
noncomputable def yQ (b:dJ) (nB:Nat) (B:Nat->Int) (nO:Nat) (O:Nat->Int) (W G L:Int):eH:={ dq:=[(1,[(1,.res fun _=>dI (iN (b.N 0) (b.X 0) (b.Y 0) G W (4*b.N 0)))]),(4,[(10,.pos),(11,.res fun l=> .di (aI l 1+1).toNat [fun k=>dI (qI nB B nO O W G L k)])])],loops:=[],dw:=[] }
namespace w3g
noncomputable section
structure Z where
 b:dJ
 nB:Nat
 B:Nat->Int
 nO:Nat
 O:Nat->Int
 W:Int
 G:Int
 L:Int
variable (z:Z) (i0:Nat)
abbrev x0:Int:=(↑(Lay.fZ z.nB z.B z.nO z.O z.W z.G z.L):Int)
abbrev x1:=iN (z.b.N 0) (z.b.X 0) (z.b.Y 0) z.G z.W (4*z.b.N 0)
abbrev x2:=TH (x1 z) (x0 z)
abbrev x3:=Int.toNat (x1 z/x0 z+1)
abbrev x4:=DV.di (Lay.iv z.nB z.B z.nO z.O z.W z.G z.L) [fun i0=>dI (Lay.fa z.nB z.B z.nO z.O i0),fun i0=>dI (Lay.ed z.nB i0),fun i0=>dB (decide (z.nB<=i0))]
abbrev x5:=qI z.nB z.B z.nO z.O z.W z.G z.L i0
abbrev xt:VT:=VT.da [dm prog 95 [DV.dN [DV.val (Value.string z.b.name),DV.di z.b.nS [fun i0=>dI (z.b.fl i0),fun i0=>DV.di (z.b.N i0) [fun i1=>dI (z.b.X i0 i1),fun i1=>dI (z.b.Y i0 i1)]],dI z.b.dr,DV.di z.b.nO [fun i0=>dI (z.b.O i0 0),fun i0=>dI (z.b.O i0 1),fun i0=>dI (z.b.O i0 2),fun i0=>dI (z.b.O i0 3),fun i0=>dI (z.b.O i0 4),fun i0=>dI (z.b.O i0 5)],DV.di z.b.nB [fun i0=>dI (z.b.B i0 0),fun i0=>dI (z.b.B i0 1),fun i0=>dI (z.b.B i0 2),fun i0=>dI (z.b.B i0 3),fun i0=>dI (z.b.B i0 4),fun i0=>dI (z.b.B i0 5)],DV.di z.nB [fun i0=>dI (z.B i0)],DV.di z.nO [fun i0=>dI (z.O i0)],dI z.W,dI z.G,dI z.L,dI (x0 z),x4 z,DV.di (z.b.N 0) [fun i0=>dI (z.b.X 0 i0),fun i0=>dI (z.b.Y 0 i0),fun i0=>dI (z.b.X 0 (ix (z.b.N 0) ((i0:Int)+1))),fun i0=>dI (z.b.Y 0 (ix (z.b.N 0) ((i0:Int)+1))),fun i0=>dI (ee (z.b.N 0) (z.b.X 0) (z.b.Y 0) (i0:Int)),fun i0=>dI (dD (z.b.N 0) (z.b.X 0) (z.b.Y 0) (i0:Int))],DV.di (z.b.N 0) [fun i0=>dI (lM (z.b.N 0) (z.b.X 0) (z.b.Y 0) i0)]]] (dI (x1 z))] (VT.da [cZ (4000*x0 z)] (VT.ite (decide ((x1 z)>(4000*x0 z))) (VT.done [x2 z=0,8=J6 (x1 z) (x0 z)]) (VT.da [0<=x1 z/\0<x0 z/\x1 z<=9223372036854775807,dm prog 59 [DV.agg [dI (x0 z),x4 z],dI (x1 z/x0 z)] (DV.di (x3 z) [fun i0=>dI (x5 z i0)])] (VT.done [x3 z=x2 z,∀i0<x2 z,rf (x5 z i0),0=J6 (x1 z) (x0 z)]))))
end
end w3g
open w3g in
theorem yj (b:dJ) (nB:Nat) (B:Nat->Int) (nO:Nat) (O:Nat->Int) (W G L:Int) (hn:0<b.N 0) (jH:b.N 0<=1000) (hX:kM (b.N 0) (b.X 0)) (hY:kM (b.N 0) (b.Y 0)) (hg:j8 G W) (hs:Lay.fN nB B nO O W G L=0):dm prog 32 [qR b nB B nO O W G L] (.fy [.di (TH (iN (b.N 0) (b.X 0) (b.Y 0) G W (4*b.N 0)) (Lay.fZ nB B nO O W G L)) [fun k=>dI (qI nB B nO O W G L k)],dI (J6 (iN (b.N 0) (b.X 0) (b.Y 0) G W (4*b.N 0)) (Lay.fZ nB B nO O W G L))]):=by
 refine db dv (yQ b nB B nO O W G L) (V:=xt ⟨b,nB,B,nO,O,W,G,L⟩) (by kernel_rfl) ?_
 simp only [xt,x0,x1,x2,x3,x4,x5,Rf,VT.holds,dt,Sq]
 obtain ⟨s1,s2,s3,sB,sO,_,_⟩:=Lay.n5 hs
 have hu:=Lay.zy s1 sB sO
 have cu:Lay.fZ nB B nO O W G L=Lay.fB nB B nO O (nB+nO):=by rw [Lay.fZ,ah hs]
 have cn:Lay.iv nB B nO O W G L=nB+nO:=by rw [Lay.iv,ah hs]
 have hl:=za hn hX hY hg (4*b.N 0)
 rw [<-cu] at hu
 have hq:iN (b.N 0) (b.X 0) (b.Y 0) G W (4*b.N 0)>4000*(Lay.fZ nB B nO O W G L:Int)\/iN (b.N 0) (b.X 0) (b.Y 0) G W (4*b.N 0)/(Lay.fZ nB B nO O W G L:Int)<=4000:=by
  by_cases h:iN (b.N 0) (b.X 0) (b.Y 0) G W (4*b.N 0)>4000*(Lay.fZ nB B nO O W G L:Int)
  ·exact .inl h
  ·refine .inr ?_
   have:=Int.ediv_le_ediv (a:=iN (b.N 0) (b.X 0) (b.Y 0) G W (4*b.N 0)) (b:=4000*(Lay.fZ nB B nO O W G L:Int)) (c:=(Lay.fZ nB B nO O W G L:Int)) (by omega) (by omega)
   rwa [Int.mul_ediv_cancel _ (by omega)] at this
 have hq0:=bZ hl.1 (show 0<=(Lay.fZ nB B nO O W G L:Int) by omega)
 refine ⟨M9 b nB B nO O W G L hn jH hX hY hg,by unfold cZ;omega,fun h=> ?_,fun h=>⟨⟨by omega,?_⟩,?_,?_⟩⟩
 ·exact ⟨by rw [TH,J6,ah h];rfl,by rw [J6,ah h]⟩
 ·have:=Lay.Td (Lay.fB nB B nO O (nB+nO)) (nB+nO) (Lay.fa nB B nO O) (Lay.ed nB) (fun i=>decide (nB<=i)) (iN (b.N 0) (b.X 0) (b.Y 0) G W (4*b.N 0)/(Lay.fZ nB B nO O W G L:Int)) (by rw [<-cu];omega) (by omega) (fun i hi=>Lay.sa sB sO hi) (fun i hi=>Lay.zw sB sO hi) (fun i _=>Lay.G4 nB i) hq0 (by omega)
  rw [cn]
  rw [<-cu] at this
  unfold qI
  rw [cu] at this ⊢
  exact this
 ·rw [TH,J6,ae h,ah rfl]
 ·rw [J6,ae h]
noncomputable def KW (c0 c1:DV) (rf:Int) (c3 c4 c5 c6:DV) (W G L:Int) (u:Nat) (nY:DV) (n:Nat) (X Y:Nat->Int) (N:Nat) (T:Nat->Int) (i a e:Int):eH:={ dq:=[(1,[(4,.res fun _=>dI (jG n X Y G W i a e))]),(2,[(9,.pos)]),(4,[(7,.pos)])],loops:=[],dw:=[] }
namespace w3h
noncomputable section
structure Z where
 c0:DV
 c1:DV
 rf:Int
 c3:DV
 c4:DV
 c5:DV
 c6:DV
 W:Int
 G:Int
 L:Int
 u:Nat
 nY:DV
 n:Nat
 X:Nat->Int
 Y:Nat->Int
 N:Nat
 T:Nat->Int
 i:Int
 a:Int
 e:Int
variable (z:Z) (P:List Prop)
abbrev x0:=jG z.n z.X z.Y z.G z.W z.i z.a z.e
abbrev x1:=decide ((x0 z)<(0:Int))
abbrev x2:Int:=(z.u:Int)
abbrev x3:=(!(x1 z))=true
abbrev x4:List Prop:=ri (x3 z)::ri (x3 z)::P
abbrev xt:VT:=VT.da [dm prog 37 [DV.dN [z.c0,z.c1,dI z.rf,z.c3,z.c4,z.c5,z.c6,dI z.W,dI z.G,dI z.L,dI (x2 z),z.nY,DV.di z.n [fun i0=>dI (z.X i0),fun i0=>dI (z.Y i0),fun i0=>dI (z.X (ix z.n ((i0:Int)+1))),fun i0=>dI (z.Y (ix z.n ((i0:Int)+1))),fun i0=>dI (ee z.n z.X z.Y (i0:Int)),fun i0=>dI (dD z.n z.X z.Y (i0:Int))],DV.di z.n [fun i0=>dI (lM z.n z.X z.Y i0)]],dI z.i,dI z.a,dI z.e] (dI (x0 z))] (VT.da (x4 z (x4 z (x4 z [x3 z->0<=x0 z/\0<x2 z,ri (x3 z),x1 z=false->x3 z]))) (VT.ite (if (x1 z)=true then true else (x0 z%x2 z !=0)) (VT.done [(-(1:Int))=Cn z.T (x2 z) (x0 z)]) (VT.da [0<=x0 z/\0<x2 z/\x0 z<=9223372036854775807,0<=x0 z/x2 z/\x0 z/x2 z<(z.N:Int)] (VT.done [(z.T (Int.toNat (x0 z/x2 z)))=Cn z.T (x2 z) (x0 z)]))))
end
end w3h
open w3h in
theorem Zw (c0 c1:DV) (rf:Int) (c3 c4 c5 c6:DV) (W G L:Int) (u:Nat) (nY:DV) (n:Nat) (X Y:Nat->Int) (N:Nat) (T:Nat->Int) (i a e:Int) (h:0<=i/\i<n) (jH:n<=1000) (hX:kM n X) (hY:kM n Y) (hg:j8 G W) (ha:0<=a/\a<=1) (he:0<=e/\e<=1) (hu:1<=u/\u<=10000) (hN:jG n X Y G W i a e/u<N):dm prog 34 [uF c0 c1 rf c3 c4 c5 c6 W G L (dI (u:Int)) nY n X Y,Lay.nums N T,dI i,dI a,dI e] (dI (Cn T u (jG n X Y G W i a e))):=by
 refine db dv (KW c0 c1 rf c3 c4 c5 c6 W G L u nY n X Y N T i a e) (V:=xt ⟨c0,c1,rf,c3,c4,c5,c6,W,G,L,u,nY,n,X,Y,N,T,i,a,e⟩) (by kernel_rfl) ?_
 simp only [xt,x0,x1,x2,x3,x4,Rf,VT.holds,dt,Sq]
 have hb:=Py (by omega) hX hY hg i ha he
 refine ⟨qN _ _ _ _ _ _ _ _ _ _ _ _ _ _ _ _ _ _ h jH hX hY hg ha he,fun h1=>by omega,fun h1=>by rw [Cn,ah h1],fun h1=>⟨⟨by omega,bZ (by omega) (by omega),hN⟩,?_⟩⟩
 rw [Cn,ae (by omega)]
end Go.Abs
end
section
set_option maxRecDepth 100000
namespace Go.Abs
open Go
def Fz (nB:Nat) (B:Nat->Int) (nO:Nat) (O:Nat->Int) (W G L:Int):Int:=(Lay.fZ nB B nO O W G L:Nat)
def Jf (b:dJ) (G W u:Int):Bool:=decide (∃i,i<b.N 0/\jG (b.N 0) (b.X 0) (b.Y 0) G W (i:Nat) 1 0>4000*u)
def BS (b:dJ) (G W u:Int):Bool:=decide (∀i,i<b.N 0-> ¬(jG (b.N 0) (b.X 0) (b.Y 0) G W (i:Nat) 1 0>800*u/\jG (b.N 0) (b.X 0) (b.Y 0) G W (i:Nat) 1 0<=4000*u))
section
variable {b:dJ} {nB:Nat} {B:Nat->Int} {nO:Nat} {O:Nat->Int} {W G L:Int}
theorem Va (hs:Lay.fN nB B nO O W G L=0):Fz nB B nO O W G L=jK nB B nO O/\1<=jK nB B nO O/\jK nB B nO O<=10000:=MH hs
end
noncomputable def I7 (b:dJ) (nB:Nat) (B:Nat->Int) (nO:Nat) (O:Nat->Int) (W G L:Int):eH:={ dq:=[(1,[(2,.res fun _=>dI (jK nB B nO O))]),(5,[(5,.res fun l=>dI (jG (b.N 0) (b.X 0) (b.Y 0) G W (aI l 2) 1 0))])],loops:=[(0,{ ι:=Nat,keep:=[1,3],boxes:=[1],ts:=fun _ i=>[(4,dI (i:Int))],inv:=fun _ i=>i<=b.N 0/\ ∀k,k<i-> ¬(jG (b.N 0) (b.X 0) (b.Y 0) G W (k:Nat) 1 0>800*(jK nB B nO O)/\jG (b.N 0) (b.X 0) (b.Y 0) G W (k:Nat) 1 0<=4000*(jK nB B nO O)),mu:=fun _ i=>b.N 0 - i,rd:=fun _ σ=>(eA (σ.get 4)).toNat })],dw:=[] }
namespace w3i
noncomputable section
structure Z where
 b:dJ
 nB:Nat
 B:Nat->Int
 nO:Nat
 O:Nat->Int
 W:Int
 G:Int
 L:Int
variable (z:Z) (i0 i1:Nat) (P:List Prop) (a:Int) (k:Nat) (g:Bool)
abbrev x0:=jK z.nB z.B z.nO z.O
abbrev x1:=i0<z.b.nO->rf (z.b.O i0 k)
abbrev x2:=i0<z.b.nB->rf (z.b.B i0 k)
abbrev x3:=jG (z.b.N 0) (z.b.X 0) (z.b.Y 0) z.G z.W a 1 0
abbrev x4:=decide ((x3 z (i0:Int))>(800*x0 z))
abbrev x5:=Int.toNat ((i0:Int)+1)
abbrev x6:=i1<k->(¬(x3 z (i1:Int)>800*x0 z/\x3 z (i1:Int)<=4000*x0 z))
abbrev x7:=DV.agg [DV.di z.nB [fun i0=>dI (z.B i0)],DV.di z.nO [fun i0=>dI (z.O i0)],dI z.W,dI z.G,dI z.L]
abbrev x8:=VT.done [g=BS z.b z.G z.W (x0 z)]
abbrev x9:List Prop:=(a=(k:Int))::rf (x0 z)::rf z.b.name::rf z.b.nS::(∀i0<z.b.nS,rf (z.b.fl i0))::(∀i0<z.b.nS,rf (z.b.N i0)/\(∀i1<z.b.N i0,rf (z.b.X i0 i1))/\(∀i1<z.b.N i0,rf (z.b.Y i0 i1)))::rf z.b.dr::rf z.b.nO::(∀(i0:Nat),x1 z i0 (0:Nat))::(∀(i0:Nat),x1 z i0 (1:Nat))::(∀(i0:Nat),x1 z i0 (2:Nat))::(∀(i0:Nat),x1 z i0 (3:Nat))::(∀(i0:Nat),x1 z i0 (4:Nat))::(∀(i0:Nat),x1 z i0 (5:Nat))::rf z.b.nB::(∀(i0:Nat),x2 z i0 (0:Nat))::(∀(i0:Nat),x2 z i0 (1:Nat))::(∀(i0:Nat),x2 z i0 (2:Nat))::(∀(i0:Nat),x2 z i0 (3:Nat))::(∀(i0:Nat),x2 z i0 (4:Nat))::(∀(i0:Nat),x2 z i0 (5:Nat))::rf z.nB::(∀i0<z.nB,rf (z.B i0))::rf z.nO::(∀i0<z.nO,rf (z.O i0))::rf z.W::rf z.G::rf z.L::P
abbrev xt:VT:=VT.da [dm prog 72 [x7 z] (dI (x0 z))] (VT.loop Nat (fun i0=>i0<=z.b.N 0/\(∀(i1:Nat),x6 z i1 i0)) (Int.toNat 0) (x9 z [] (0:Int) (Int.toNat 0)) (fun i0=>VT.da [(0:Int)<=(0:Int)/\0<(z.b.nS:Int)] (VT.ite (decide ((i0:Int)<(↑(z.b.N (Int.toNat 0)):Int))) (VT.da [dm prog 73 [jI z.b,x7 z,dI (i0:Int),dI 1,dI 0] (dI (x3 z (i0:Int)))] (VT.da [cZ (800*x0 z),ri (x4 z i0=true),x4 z i0=true->cZ (4000*x0 z),ri (x4 z i0=true),ri (x4 z i0=true),ri (x4 z i0=true)] (VT.ite (if (x4 z i0)=true then (decide ((x3 z (i0:Int))<=(4000*x0 z))) else false) (x8 z false) (VT.da [cZ ((i0:Int)+1)] (VT.done (x9 z [x5 i0<=z.b.N 0/\(∀(i1:Nat),x6 z i1 (x5 i0)),z.b.N 0 - x5 i0<z.b.N 0 - i0] ((i0:Int)+1) (x5 i0))))))) (x8 z true))))
end
end w3i
open w3i in
theorem TN (b:dJ) (nB:Nat) (B:Nat->Int) (nO:Nat) (O:Nat->Int) (W G L:Int) (h0:ja b nB B nO O W G L=0):dm prog 25 [Qq b nB B nO O W G L] (dB (BS b G W (jK nB B nO O))):=by
 refine db dv (I7 b nB B nO O W G L) (V:=xt ⟨b,nB,B,nO,O,W,G,L⟩) (by kernel_rfl) ?_
 simp only [xt,x0,x1,x2,x3,x4,x5,x6,x7,x8,x9,Rf,VT.holds,dt,Sq]
 obtain ⟨hc,hs,_,_,_,_,_⟩:=fu h0
 obtain ⟨b1,b2,b3,b4,b5⟩:=js hc
 have hn:=fp b2
 have g1:=(fP hs).1
 obtain ⟨u1,u2,u3⟩:=Va hs
 obtain ⟨s1,s2,s3,sB,sO,_,_⟩:=Lay.n5 hs
 refine ⟨Lay.Lb nB B nO O W G L s2 s3 sB sO,rfl,⟨ao _,fun k hk=>absurd hk (aF k)⟩,fun i ⟨hi,hb⟩=>⟨by omega,fun dK=>⟨wY b nB B nO O W G L i 1 0 b1 b2 g1 (by omega) (by omega) (by omega),⟨by unfold cZ;omega,fun _=>by unfold cZ;omega⟩,fun h=> ?_,fun h=>⟨by unfold cZ;omega,rfl,⟨by omega,fun k hk=> ?_⟩,by omega⟩⟩,fun iy=> ?_⟩⟩
 ·rw [BS,bW,an]
  exact fun hx=>hx i (by omega) h
 ·by_cases e:k=i
  ·rw [e];exact fun hx=>h hx.1 hx.2
  ·exact hb k (by omega)
 ·rw [BS,bW,ai]
  exact fun k hk=>hb k (by omega)
noncomputable def I2 (b:dJ) (nB:Nat) (B:Nat->Int) (nO:Nat) (O:Nat->Int) (W G L:Int):eH:={ dq:=[(2,[(2,J0 b)]),(4,[(3,.res fun l=>dI (jG (b.N 0) (b.X 0) (b.Y 0) G W (aI l 2) 1 0)),(5,.res fun _=>dI (jK nB B nO O))])],loops:=[(0,{ ι:=Nat,keep:=[2,3],boxes:=[2,3],ts:=fun _ i=>[(5,dI (i:Int))],inv:=fun _ i=>i<=b.N 0/\ ∀k,k<i-> ¬jG (b.N 0) (b.X 0) (b.Y 0) G W (k:Nat) 1 0>4000*(jK nB B nO O),mu:=fun _ i=>b.N 0 - i,rd:=fun _ σ=>(eA (σ.get 5)).toNat })],dw:=[] }
namespace w3j
noncomputable section
structure Z where
 b:dJ
 nB:Nat
 B:Nat->Int
 nO:Nat
 O:Nat->Int
 W:Int
 G:Int
 L:Int
variable (z:Z) (i0 i1:Nat) (P:List Prop) (a:Int) (k:Nat) (g:Bool)
abbrev x0:=i0<z.b.nO->rf (z.b.O i0 k)
abbrev x1:=i0<z.b.nB->rf (z.b.B i0 k)
abbrev x2:=jK z.nB z.B z.nO z.O
abbrev x3:=Int.toNat ((i0:Int)+1)
abbrev x4:=jG (z.b.N 0) (z.b.X 0) (z.b.Y 0) z.G z.W a 1 0
abbrev x5:=i1<k->(¬(x4 z (i1:Int)>4000*x2 z))
abbrev x6:=DV.agg [DV.di z.nB [fun i0=>dI (z.B i0)],DV.di z.nO [fun i0=>dI (z.O i0)],dI z.W,dI z.G,dI z.L]
abbrev x7:=VT.done [g=Jf z.b z.G z.W (x2 z)]
abbrev x8:List Prop:=(a=(k:Int))::rf z.b.name::rf z.b.nS::(∀i0<z.b.nS,rf (z.b.fl i0))::(∀i0<z.b.nS,rf (z.b.N i0)/\(∀i1<z.b.N i0,rf (z.b.X i0 i1))/\(∀i1<z.b.N i0,rf (z.b.Y i0 i1)))::rf z.b.dr::rf z.b.nO::(∀(i0:Nat),x0 z i0 (0:Nat))::(∀(i0:Nat),x0 z i0 (1:Nat))::(∀(i0:Nat),x0 z i0 (2:Nat))::(∀(i0:Nat),x0 z i0 (3:Nat))::(∀(i0:Nat),x0 z i0 (4:Nat))::(∀(i0:Nat),x0 z i0 (5:Nat))::rf z.b.nB::(∀(i0:Nat),x1 z i0 (0:Nat))::(∀(i0:Nat),x1 z i0 (1:Nat))::(∀(i0:Nat),x1 z i0 (2:Nat))::(∀(i0:Nat),x1 z i0 (3:Nat))::(∀(i0:Nat),x1 z i0 (4:Nat))::(∀(i0:Nat),x1 z i0 (5:Nat))::rf z.nB::(∀i0<z.nB,rf (z.B i0))::rf z.nO::(∀i0<z.nO,rf (z.O i0))::rf z.W::rf z.G::P
abbrev xt:VT:=VT.loop Nat (fun i0=>i0<=z.b.N 0/\(∀(i1:Nat),x5 z i1 i0)) (Int.toNat 0) (x8 z [rf z.L] (0:Int) (Int.toNat 0)) (fun i0=>VT.da [dm prog 90 [jI z.b] (DV.di (z.b.N 0) [fun i0=>dI (z.b.X 0 i0),fun i0=>dI (z.b.Y 0 i0)])] (VT.ite (decide ((i0:Int)<(↑(z.b.N 0):Int))) (VT.da [dm prog 73 [jI z.b,x6 z,dI (i0:Int),dI 1,dI 0] (dI (x4 z (i0:Int))),dm prog 72 [x6 z] (dI (x2 z)),cZ (4000*x2 z)] (VT.ite (decide ((x4 z (i0:Int))>(4000*x2 z))) (x7 z true) (VT.da [cZ ((i0:Int)+1)] (VT.done (x8 z [rf z.L,x3 i0<=z.b.N 0/\(∀(i1:Nat),x5 z i1 (x3 i0)),z.b.N 0 - x3 i0<z.b.N 0 - i0] ((i0:Int)+1) (x3 i0)))))) (x7 z false)))
end
end w3j
open w3j in
theorem TR (b:dJ) (nB:Nat) (B:Nat->Int) (nO:Nat) (O:Nat->Int) (W G L:Int) (h0:ja b nB B nO O W G L=0):dm prog 30 [jI b,Lay.sys nB B nO O W G L] (dB (Jf b G W (jK nB B nO O))):=by
 refine db dv (I2 b nB B nO O W G L) (V:=xt ⟨b,nB,B,nO,O,W,G,L⟩) (by kernel_rfl) ?_
 simp only [xt,x0,x1,x2,x3,x4,x5,x6,x7,x8,Rf,VT.holds,dt,Sq]
 obtain ⟨hc,hs,_,_,_,_,_⟩:=fu h0
 obtain ⟨b1,b2,b3,b4,b5⟩:=js hc
 have hn:=fp b2
 have g1:=(fP hs).1
 obtain ⟨u1,u2,u3⟩:=Va hs
 obtain ⟨s1,s2,s3,sB,sO,_,_⟩:=Lay.n5 hs
 refine ⟨rfl,⟨ao _,fun k hk=>absurd hk (aF k)⟩,fun i ⟨hi,hb⟩=>⟨pI b b1,fun dK=>⟨⟨wY b nB B nO O W G L i 1 0 b1 b2 g1 (by omega) (by omega) (by omega),Lay.Lb nB B nO O W G L s2 s3 sB sO,by unfold cZ;omega⟩,fun h=> ?_,fun h=>⟨by unfold cZ;omega,rfl,⟨by omega,fun k hk=> ?_⟩,by omega⟩⟩,fun iy=> ?_⟩⟩
 ·rw [Jf,bW,ai]
  exact ⟨i,by omega,h⟩
 ·by_cases e:k=i
  ·rw [e];exact h
  ·exact hb k (by omega)
 ·rw [Jf,bW,an]
  exact fun ⟨k,hk,hx⟩=>hb k (by omega) hx
end Go.Abs
end
