/- Contracts and what they stand on. -/
import Derived.Test.YtoinjphpfpklmaaGreatDoorK18
set_option linter.unusedVariables false
set_option linter.unusedSimpArgs false
section
set_option maxRecDepth 100000
namespace Go.Abs
open Go
abbrev opV (b:dL) (i:Nat):DV:= .val (.agg #[.int .i64 (b.O i 0),.int .i64 (b.O i 1),.int .i64 (b.O i 2),.int .i64 (b.O i 3),.int .i64 (b.O i 4),.int .i64 (b.O i 5)])
def NB (b:dL) (i:Nat):Bool:=decide (b.O i 0<0\/b.O i 0>=b.nS\/b.O i 1<0\/b.O i 1>=b.N (b.O i 0).toNat)
def Ce (b:dL) (i:Nat):Bool:=decide (b.O i 2<0\/b.O i 2>=b.O i 3\/b.O i 3>fb (b.N (b.O i 0).toNat) (b.X (b.O i 0).toNat) (b.Y (b.O i 0).toNat) ((b.O i 1).toNat:Int)\/b.O i 4<0\/b.O i 4>=b.O i 5\/b.O i 5>fj b (b.O i 0).toNat - b.fl (b.O i 0).toNat)
def FB (b:dL) (i j:Nat):Bool:=decide (b.O j 0=b.O i 0/\b.O j 1=b.O i 1/\max (b.O j 2) (b.O i 2)<min (b.O j 3) (b.O i 3)/\max (b.O j 4) (b.O i 4)<min (b.O j 5) (b.O i 5))
def oP (b:dL) (i:Nat):Int:=if NB b i=true then 6 else if Ce b i=true then 2 else if ∀j,j<i->FB b i j=false then 0 else 12
theorem Qq {b:dL} {i:Nat} (h:oP b i=0):NB b i=false/\Ce b i=false:=by
 unfold oP at h
 split at h
 ·cases h
 ·rename_i h1
  split at h
  ·cases h
  ·rename_i h2
   exact ⟨by simpa using h1,by simpa using h2⟩
def rLenW:fx:= .res fun l=>dI (fb (aN l) (aX l) (aY l) (aI l 1))
theorem xi {b:dL} {i:Nat}:Ce b i=true↔(b.O i 2<0\/b.O i 2>=b.O i 3\/b.O i 3>fb (b.N (b.O i 0).toNat) (b.X (b.O i 0).toNat) (b.Y (b.O i 0).toNat) ((b.O i 1).toNat:Int)\/b.O i 4<0\/b.O i 4>=b.O i 5\/b.O i 5>fj b (b.O i 0).toNat - b.fl (b.O i 0).toNat):=by unfold Ce;rw [ah]
theorem pc {b:dL} {i:Nat}:NB b i=true↔(b.O i 0<0\/b.O i 0>=b.nS\/b.O i 1<0\/b.O i 1>=b.N (b.O i 0).toNat):=by unfold NB;rw [ah]
def UY (b:dL):Prop:=(∀i,i<b.nS->0<=b.fl i/\b.fl i<=1000000)/\0<=b.dE/\b.dE<=1000000
theorem Lq {b:dL} (h:UY b) (i:Nat):0<=fj b i/\fj b i<=1000000:=by
 unfold fj
 split
 ·exact h.1 _ (by assumption)
 ·exact h.2
noncomputable def CS (b:dL) (i:Nat):eA:={ dz:=[(6,[(17,rLenW),(38,TY b)])],loops:=[(0,{ ι:=Nat,keep:=[4,82,83],boxes:=[4],ts:=fun _ j=>[(84,dI (j:Int))],inv:=fun _ j=>j<=i/\ ∀k,k<j->FB b i k=false,mu:=fun _ j=>i - j,rd:=fun _ σ=>(ez (σ.get 84)).toNat })],dK:=[] }
namespace w1d
noncomputable section
structure Z where
 b:dL
 i:Nat
variable (z:Z) (i0:Nat) (p:Prop) (P:List Prop) (a:Int) (k:Nat) (g h:Bool) (U:VT)
abbrev x0:=z.b.O z.i 0
abbrev x1:=if g=true then true else h
abbrev x2:=Int.toNat (x0 z)
abbrev x3:=z.b.O (Int.toNat (i0:Int)) k
abbrev x4:=decide (a<(0:Int))
abbrev x5:=z.b.O z.i 1
abbrev x6:=x4 (z.b.O z.i 2)
abbrev x7:=if g=true then h else false
abbrev x8:List Prop:=ri ((!g)=true)::P
abbrev x9:=x1 (x6 z) (decide ((z.b.O z.i 2)>=(z.b.O z.i 3)))
abbrev dM:=fb (z.b.N (x2 z)) (z.b.X (x2 z)) (z.b.Y (x2 z)) (x5 z)
abbrev dQ:=x1 (x9 z) (decide ((z.b.O z.i 3)>(dM z)))
abbrev dS:=x7 (x3 z i0 (0:Nat)==x0 z) (x3 z i0 (1:Nat)==x5 z)
abbrev dT:=DV.val (Value.int IntKind.i64 a)
abbrev dU:=x1 (dQ z) (x4 (z.b.O z.i 4))
abbrev dY:=x1 (dU z) (decide ((z.b.O z.i 4)>=(z.b.O z.i 5)))
abbrev eb:=i0<z.i->rf (z.b.O i0 k)
abbrev eE:=x7 (dS z i0) (decide ((hP (x3 z i0 (2:Nat)) [z.b.O z.i 2])<(iD (x3 z i0 (3:Nat)) [z.b.O z.i 3])))
abbrev eH:List Prop:=ri (dS z i0=true)::ri (dS z i0=true)::P
abbrev eT:List Prop:=ri (eE z i0=true)::ri (eE z i0=true)::P
abbrev eG:=g=false->(!h)=true
abbrev eZ:List Prop:=ri ((x3 z i0 (0:Nat)==x0 z)=true)::P
abbrev fi:=VT.ite g (VT.done [a=oP z.b z.i]) U
abbrev fR:=Int.toNat ((i0:Int)+1)
abbrev fU:=x8 (x8 P (x4 (x0 z))) (x4 (x0 z))
abbrev fS:=x8 (x8 P (x4 (x5 z))) (x4 (x5 z))
abbrev fz:List Prop:=((!(dY z))=true->p)::x8 (x8 P (dY z)) (dY z)
abbrev gi:=fj z.b (x2 z) - z.b.fl (x2 z)
abbrev iA:List Prop:=p::rf z.i::(∀(i0:Nat),eb z i0 (0:Nat))::(∀(i0:Nat),eb z i0 (1:Nat))::(∀(i0:Nat),eb z i0 (2:Nat))::(∀(i0:Nat),eb z i0 (3:Nat))::(∀(i0:Nat),eb z i0 (4:Nat))::(∀(i0:Nat),eb z i0 (5:Nat))::rf (z.i:Int)::rf (x0 z)::rf (x5 z)::rf (z.b.O z.i 2)::rf (z.b.O z.i 3)::rf (z.b.O z.i 4)::rf (z.b.O z.i 5)::P
abbrev xt:VT:=VT.dk (fU z (fU z (x8 [eG (x4 (x0 z)) (x4 (x0 z))] (x4 (x0 z))))) (fi z (6:Int) (x1 (x4 (x0 z)) (decide ((x0 z)>=(z.b.nS:Int)))) (VT.dk [0<=x0 z/\x0 z<(z.b.nS:Int)] (VT.dk (fS z (fS z (x8 [eG (x4 (x5 z)) (x4 (x5 z))] (x4 (x5 z))))) (fi z (6:Int) (x1 (x4 (x5 z)) (decide ((x5 z)>=(↑(z.b.N (x2 z)):Int)))) (VT.dk (x8 (x8 (x8 (x8 (eG (x6 z) (x6 z)::x8 (x8 (x8 (x8 (x8 (((!(x9 z))=true->dv prog 49 [DV.dt (z.b.N (x2 z)) [fun i0=>dT (z.b.X (x2 z) i0),fun i0=>dT (z.b.Y (x2 z) i0)],dT (x5 z)] (dT (dM z)))::x8 (x8 (eG (x9 z) (x9 z)::x8 (x8 (eG (dQ z) (dQ z)::x8 (x8 (x8 (x8 (eG (dU z) (dU z)::x8 (x8 (x8 (x8 (fz z (dv prog 107 [DV.agg [DV.val (Value.string z.b.name),DV.dt z.b.nS [fun i0=>dT (z.b.fl i0),fun i0=>DV.dt (z.b.N i0) [fun i1=>dT (z.b.X i0 i1),fun i1=>dT (z.b.Y i0 i1)]],dT z.b.dE,DV.dt z.b.nO [fun i0=>dT (z.b.O i0 0),fun i0=>dT (z.b.O i0 1),fun i0=>dT (z.b.O i0 2),fun i0=>dT (z.b.O i0 3),fun i0=>dT (z.b.O i0 4),fun i0=>dT (z.b.O i0 5)],DV.dt z.b.nB [fun i0=>dT (z.b.B i0 0),fun i0=>dT (z.b.B i0 1),fun i0=>dT (z.b.B i0 2),fun i0=>dT (z.b.B i0 3),fun i0=>dT (z.b.B i0 4),fun i0=>dT (z.b.B i0 5)]],dT (x0 z)] (dT (fj z.b (x2 z)))) (x8 (fz z (dh (gi z)) [eG (dY z) (dY z)]) (dY z))) (dY z)) (dY z)) (dY z)) (dY z)) (dU z)) (dU z)) (dU z)) (dU z)) (dQ z)) (dQ z)) (x9 z)) (x9 z)) (x9 z)) (x9 z)) (x9 z)) (x9 z)) (x9 z)) (x6 z)) (x6 z)) (x6 z)) (x6 z)) (fi z (2:Int) (x1 (dY z) (decide ((z.b.O z.i 5)>(gi z)))) (VT.loop Nat (fun i0=>i0<=z.i/\(∀i1<i0,FB z.b z.i i1=false)) (Int.toNat 0) (iA z (0=(↑(Int.toNat 0):Int)) []) (fun i0=>VT.ite (decide ((i0:Int)<(z.i:Int))) (VT.dk [0<=(i0:Int)/\(i0:Int)<(z.i:Int)] (VT.dk (eZ z i0 (eZ z i0 (eZ z i0 (eZ z i0 (eZ z i0 (eH z i0 (eH z i0 (eH z i0 (eH z i0 (eH z i0 (ri (dS z i0=true)::eT z i0 (eT z i0 (eT z i0 (eT z i0 (eT z i0 [ri (eE z i0=true)]))))))))))))))) (fi z (12:Int) (x7 (eE z i0) (decide ((hP (x3 z i0 (4:Nat)) [z.b.O z.i 4])<(iD (x3 z i0 (5:Nat)) [z.b.O z.i 5])))) (VT.dk [dh ((i0:Int)+1)] (VT.done (iA z ((i0:Int)+1=(↑(fR i0):Int)) [fR i0<=z.i/\(∀i1<fR i0,FB z.b z.i i1=false),z.i - fR i0<z.i - i0])))))) (VT.done [0=oP z.b z.i])))))))))
end
end w1d
open w1d in
theorem Nu (b:dL) (i:Nat) (hi:i<=1000) (hS:b.nS<=1000) (ho:tQ b) (hf:UY b):dv prog 106 [kz b,opV b i,.dt i (o9 b)] (dI (oP b i)):=by
 refine dm dJ (CS b i) (V:=xt ⟨b,i⟩) (by kernel_rfl) ?_
 simp only [xt,x0,x1,x2,x3,x4,x5,x6,x7,x8,x9,dM,dQ,dS,dT,dU,dY,eb,eE,eH,eT,eG,eZ,fi,fR,fU,fS,fz,gi,iA,Rf,VT.holds,dC,Sq]
 have Rx: ∀j,FB b i j=decide (b.O j 0=b.O i 0/\b.O j 1=b.O i 1/\max (b.O j 2) (b.O i 2)<min (b.O j 3) (b.O i 3)/\max (b.O j 4) (b.O i 4)<min (b.O j 5) (b.O i 5)):=fun j=>rfl
 simp only [vA,yv]
 refine ⟨fun h=>by rw [oP,ag (pc.2 (by omega))],fun h0=>⟨by omega,fun h=>by rw [oP,ag (pc.2 (by omega))],fun h1=> ?_⟩⟩
 have e0:((b.O i 0).toNat:Int)=b.O i 0:=by omega
 have e1:((b.O i 1).toNat:Int)=b.O i 1:=by omega
 have hs:(b.O i 0).toNat<b.nS:=by omega
 have N3:=ho _ hs
 have hn:=fO N3
 obtain ⟨hX,hY⟩:=eS N3
 have hm: ¬NB b i=true:=fun h=>by have:=pc.1 h;omega
 have hr:=xi (b:=b) (i:=i)
 rw [e1] at hr
 have ht:=VD b (b.O i 0).toNat (by omega)
 rw [e0] at ht
 have hl:=AT (b.N (b.O i 0).toNat) (b.X (b.O i 0).toNat) (b.Y (b.O i 0).toNat) (b.O i 1) (by omega) (by omega) (by omega) (by omega) hX hY
 have b1:=Lq hf (b.O i 0).toNat
 have b2:=hf.1 _ hs
 generalize hL:fb (b.N (b.O i 0).toNat) (b.X (b.O i 0).toNat) (b.Y (b.O i 0).toNat) (b.O i 1)=L at*
 have lG:dv prog 49 [my (b.N (b.O i 0).toNat) (b.X (b.O i 0).toNat) (b.Y (b.O i 0).toNat),dI (b.O i 1)] (dI L):=by rw [<-hL];exact hl
 refine ⟨⟨fun _=>lG,fun _=>ht,fun _=>by unfold dh;omega⟩,fun h=>by rw [oP,ab hm,ag (hr.2 (by omega))],fun h=> ?_⟩
 have Zn: ¬Ce b i=true:=fun h2=>by have:=hr.1 h2;omega
 refine ⟨rfl,⟨aq _,fun k hk=>absurd hk (aG k)⟩,fun j ⟨hj,hb⟩=>⟨fun dR=>⟨⟨by omega,dR⟩,fun h2=> ?_,fun h2=>⟨by unfold dh;omega,by omega,⟨by omega,fun k hk=> ?_⟩,by omega⟩⟩,fun iG=> ?_⟩⟩
 ·rw [oP,ab hm,ab Zn,ab]
  intro fp
  have:=fp j (by omega)
  rw [Rx,aj] at this
  exact this ⟨h2.1.1.1,h2.1.1.2,h2.1.2,h2.2⟩
 ·rcases a8 k j with h5|h5
  ·exact hb k h5
  ·rw [show k=j by omega,Rx,aj]
   rintro ⟨c1,c2,c3,c4⟩
   exact h2 ⟨⟨c1,c2⟩,c3⟩ c4
 ·rw [oP,ab hm,ab Zn,ag (fun k hk=>hb k (by omega))]
noncomputable def BR (b:dL) (i:Nat):eA:={ dz:=[(2,[(6,vf),(20,vf)]),(4,[(7,vg)]),(5,[(3,TY b)])],loops:=[(0,{ ι:=Nat,keep:=[1,2,5],boxes:=[2,5],ts:=fun _ j=>[(8,dI (j:Int))],inv:=fun _ j=>j<=i/\ ∀k,k<j->FB b i k=false,mu:=fun _ j=>i - j,rd:=fun _ σ=>(ez (σ.get 8)).toNat })],dK:=[] }
namespace w1e
noncomputable section
structure Z where
 b:dL
 i:Nat
variable (z:Z) (i0:Nat) (p:Prop) (P:List Prop) (a:Int) (k:Nat) (g h:Bool) (E:List DV) (U:VT)
abbrev x0:=z.b.O (Int.toNat (z.i:Int)) k
abbrev x1:=x0 z (0:Nat)
abbrev x2:=z.b.O (Int.toNat (i0:Int)) k
abbrev x3:=Int.toNat (x1 z)
abbrev x4:=if g=true then true else h
abbrev x5:=if g=true then h else false
abbrev x6:List Prop:=ri (g=true)::P
abbrev x7:=x0 z (3:Nat)
abbrev x8:=x0 z (1:Nat)
abbrev x9:=DV.val (Value.int IntKind.i64 a)
abbrev dM:=decide ((x0 z (2:Nat))<(0:Int))
abbrev dQ:=z.b.N (x3 z)
abbrev dS:=x4 (dM z) (decide ((x0 z (2:Nat))>=(x7 z)))
abbrev dT:=x5 (x2 z i0 (0:Nat)==x1 z) (x2 z i0 (1:Nat)==x8 z)
abbrev dU:=decide ((0<=x1 z)/\(x1 z<=(z.b.nS:Int) - 1))
abbrev dY:=fb (dQ z) (z.b.X (x3 z)) (z.b.Y (x3 z)) a
abbrev eb:=x4 (dS z) (decide ((x7 z)>(dY z (↑(Int.toNat (x8 z)):Int))))
abbrev eE:=x5 (dT z i0) (decide ((x0 z (2:Nat))<(x2 z i0 (3:Nat))))
abbrev eH:=x6 P (!(!(dU z)))
abbrev eT:=x4 (eb z) (decide ((x0 z (4:Nat))<(0:Int)))
abbrev eG:=i0<z.b.nO->rf (z.b.O i0 k)
abbrev eZ:=i0<z.b.nB->rf (z.b.B i0 k)
abbrev fi:=x5 (eE z i0) (decide ((x2 z i0 (2:Nat))<(x7 z)))
abbrev fR:=x0 z (5:Nat)
abbrev fU:=(i0:Int)+1
abbrev fS:=g=false->(!h)=true
abbrev fz:=x4 (eT z) (decide ((x0 z (4:Nat))>=(fR z)))
abbrev gi:=x5 (fi z i0) (decide ((x0 z (4:Nat))<(x2 z i0 (5:Nat))))
abbrev iA:=x6 P (x2 z i0 (0:Nat)==x1 z)
abbrev jw:=VT.ite g (VT.done [a=oP z.b z.i]) U
abbrev iw:=x6 (x6 P (!(dM z))) (!(dM z))
abbrev jk:=x6 (x6 P (!(eT z))) (!(eT z))
abbrev jj:=0<=x1 z/\x1 z<(z.b.nS:Int)
abbrev gQ:=fj z.b (x3 z) - z.b.fl (x3 z)
abbrev iz:List DV:=[x9 a,x9 (0:Int),x9 ((k:Int) - 1)]
abbrev mc:=dv prog 82 E (DV.val (Value.bool g))
abbrev kB:=decide ((0<=x8 z)/\(x8 z<=(↑(dQ z):Int) - 1))
abbrev j8:List Prop:=p::rf (z.i:Int)::rf z.b.name::rf z.b.nS::(∀i0<z.b.nS,rf (z.b.fl i0))::(∀i0<z.b.nS,rf (z.b.N i0)/\(∀i1<z.b.N i0,rf (z.b.X i0 i1))/\(∀i1<z.b.N i0,rf (z.b.Y i0 i1)))::rf z.b.dE::rf z.b.nO::(∀(i0:Nat),eG z i0 (0:Nat))::(∀(i0:Nat),eG z i0 (1:Nat))::(∀(i0:Nat),eG z i0 (2:Nat))::(∀(i0:Nat),eG z i0 (3:Nat))::(∀(i0:Nat),eG z i0 (4:Nat))::(∀(i0:Nat),eG z i0 (5:Nat))::rf z.b.nB::(∀(i0:Nat),eZ z i0 (0:Nat))::(∀(i0:Nat),eZ z i0 (1:Nat))::(∀(i0:Nat),eZ z i0 (2:Nat))::(∀(i0:Nat),eZ z i0 (3:Nat))::(∀(i0:Nat),eZ z i0 (4:Nat))::(∀(i0:Nat),eZ z i0 (5:Nat))::rf (x1 z)::rf (x8 z)::rf (x0 z (2:Nat))::rf (x7 z)::rf (x0 z (4:Nat))::rf (fR z)::P
abbrev xt:VT:=VT.dk [0<=(z.i:Int)/\(z.i:Int)<(z.b.nO:Int)] (VT.dk (dh ((z.b.nS:Int) - 1)::mc (dU z) (iz (x1 z) z.b.nS)::eH z (eH z (eH z (eH z (eH z (((!(!(dU z)))=true->jj z)::eH z (eH z (eH z (eH z (((!(!(dU z)))=true->dh ((↑(dQ z):Int) - 1))::eH z (eH z (((!(!(dU z)))=true->mc (kB z) (iz (x8 z) (dQ z)))::eH z [fS (!(dU z)) (!(dU z))])))))))))))) (jw z (6:Int) (x4 (!(dU z)) (!(kB z))) (VT.dk [jj z,dv prog 131 [DV.dt (dQ z) [fun i0=>x9 (z.b.X (x3 z) i0),fun i0=>x9 (z.b.Y (x3 z) i0)]] (DV.dt (dQ z) [fun i0=>x9 (z.b.X (x3 z) i0),fun i0=>x9 (z.b.Y (x3 z) i0),fun i0=>x9 (z.b.X (x3 z) (ix (dQ z) (fU i0))),fun i0=>x9 (z.b.Y (x3 z) (ix (dQ z) (fU i0))),fun i0=>x9 (dY z (i0:Int)),fun i0=>x9 (dD (dQ z) (z.b.X (x3 z)) (z.b.Y (x3 z)) (i0:Int))]),0<=x8 z/\x8 z<(↑(dQ z):Int)] (VT.dk [dv prog 132 [DV.agg [DV.val (Value.string z.b.name),DV.dt z.b.nS [fun i0=>x9 (z.b.fl i0),fun i0=>DV.dt (z.b.N i0) [fun i1=>x9 (z.b.X i0 i1),fun i1=>x9 (z.b.Y i0 i1)]],x9 z.b.dE,DV.dt z.b.nO [fun i0=>x9 (z.b.O i0 0),fun i0=>x9 (z.b.O i0 1),fun i0=>x9 (z.b.O i0 2),fun i0=>x9 (z.b.O i0 3),fun i0=>x9 (z.b.O i0 4),fun i0=>x9 (z.b.O i0 5)],DV.dt z.b.nB [fun i0=>x9 (z.b.B i0 0),fun i0=>x9 (z.b.B i0 1),fun i0=>x9 (z.b.B i0 2),fun i0=>x9 (z.b.B i0 3),fun i0=>x9 (z.b.B i0 4),fun i0=>x9 (z.b.B i0 5)]],x9 (x1 z)] (x9 (fj z.b (x3 z))),jj z,dh (gQ z)] (VT.dk (iw z (iw z (fS (dM z) (dM z)::x6 (x6 (x6 (fS (dS z) (dS z)::x6 (x6 (fS (eb z) (eb z)::jk z (jk z (fS (eT z) (eT z)::x6 (x6 (x6 [fS (fz z) (fz z)] (!(fz z))) (!(fz z))) (!(fz z))))) (!(eb z))) (!(eb z))) (!(dS z))) (!(dS z))) (!(dS z))))) (jw z (2:Int) (x4 (fz z) (decide ((fR z)>(gQ z)))) (VT.loop Nat (fun i0=>i0<=z.i/\(∀i1<i0,FB z.b z.i i1=false)) (Int.toNat 0) (j8 z (0=(↑(Int.toNat 0):Int)) []) (fun i0=>VT.ite (decide ((i0:Int)<(z.i:Int))) (VT.dk [0<=(i0:Int)/\(i0:Int)<(z.b.nO:Int)] (VT.dk (iA z i0 (iA z i0 (iA z i0 (iA z i0 (iA z i0 (x6 (x6 (x6 (x6 (x6 (x6 (x6 (x6 (x6 (x6 (x6 (x6 (x6 (x6 (x6 (x6 (x6 (x6 (x6 (x6 [] (gi z i0)) (gi z i0)) (gi z i0)) (gi z i0)) (gi z i0)) (fi z i0)) (fi z i0)) (fi z i0)) (fi z i0)) (fi z i0)) (eE z i0)) (eE z i0)) (eE z i0)) (eE z i0)) (eE z i0)) (dT z i0)) (dT z i0)) (dT z i0)) (dT z i0)) (dT z i0))))))) (jw z (12:Int) (x5 (gi z i0) (decide ((x2 z i0 (4:Nat))<(fR z)))) (VT.dk [dh (fU i0)] (VT.done (j8 z (fU i0=(↑(Int.toNat (fU i0)):Int)) [Int.toNat (fU i0)<=z.i/\(∀i1<Int.toNat (fU i0),FB z.b z.i i1=false),z.i - Int.toNat (fU i0)<z.i - i0])))))) (VT.done [0=oP z.b z.i])))))))))
end
end w1e
open w1e in
theorem J4 (b:dL) (i:Nat) (hi:i<b.nO) (hO:b.nO<=1000) (hS:b.nS<=1000) (ho:tQ b) (hf:UY b) (jq: ∀j,j<i->oP b j=0):dv prog 85 [kz b,dI (i:Int)] (dI (oP b i)):=by
 refine dm dJ (BR b i) (V:=xt ⟨b,i⟩) (by kernel_rfl) ?_
 simp only [xt,x0,x1,x2,x3,x4,x5,x6,x7,x8,x9,dM,dQ,dS,dT,dU,dY,eb,eE,eH,eT,eG,eZ,fi,fR,fU,fS,fz,gi,iA,jw,iw,jk,jj,gQ,iz,mc,kB,j8,Rf,VT.holds,dC,Sq]
 have Rx: ∀j,FB b i j=decide (b.O j 0=b.O i 0/\b.O j 1=b.O i 1/\max (b.O j 2) (b.O i 2)<min (b.O j 3) (b.O i 3)/\max (b.O j 4) (b.O i 4)<min (b.O j 5) (b.O i 5)):=fun j=>rfl
 have hN:0<=b.O i 0->b.O i 0<b.nS->b.N (b.O i 0).toNat<=40:=fun h1 h2=>(fO (ho (b.O i 0).toNat (by omega))).2
 refine ⟨⟨by omega,by omega⟩,⟨by unfold dh;omega,iB _ _ _,fun h=>by omega,fun h=>by have:=hN (by omega) (by omega);unfold dh;omega,fun _=>iB _ _ _⟩,fun h=>by rw [oP,ag (pc.2 (by omega))],fun h=> ?_⟩
 have e0:((b.O i 0).toNat:Int)=b.O i 0:=by omega
 have e1:((b.O i 1).toNat:Int)=b.O i 1:=by omega
 have hs:(b.O i 0).toNat<b.nS:=by omega
 have N3:=ho _ hs
 have hn:=fO N3
 have hm: ¬NB b i=true:=fun h=>by have:=pc.1 h;omega
 have hr:=xi (b:=b) (i:=i)
 have ht:=PW b (b.O i 0).toNat (by omega)
 rw [e0] at ht
 have b1:=Lq hf (b.O i 0).toNat
 have b2:=hf.1 _ hs
 have hw:=q8 _ _ _ N3
 refine ⟨⟨by omega,hw,by omega⟩,⟨ht,by omega,by unfold dh;omega⟩,fun h=>by rw [oP,ab hm,ag (hr.2 (by omega))],fun h=> ?_⟩
 have Zn: ¬Ce b i=true:=fun h2=>by have:=hr.1 h2;omega
 refine ⟨rfl,⟨aq _,fun k hk=>absurd hk (aG k)⟩,fun j ⟨hj,hb⟩=>⟨fun dR=> ?_,fun iG=> ?_⟩⟩
 ·have hpj: ¬Ce b j=true:=by rw [(Qq (jq j (by omega))).2];simp
  rw [xi] at hpj
  refine ⟨⟨by omega,by omega⟩,fun h2=> ?_,fun h2=>⟨by unfold dh;omega,by omega,⟨by omega,fun k hk=> ?_⟩,by omega⟩⟩
  ·rw [oP,ab hm,ab Zn,ab]
   intro fp
   have:=fp j (by omega)
   rw [Rx,aj] at this
   exact this (by omega)
  ·rcases a8 k j with h5|h5
   ·exact hb k h5
   ·rw [show k=j by omega,Rx,aj]
    omega
 ·rw [oP,ab hm,ab Zn,ag (fun k hk=>hb k (by omega))]
end Go.Abs
end
section
set_option maxRecDepth 100000
namespace Go.Abs
open Go
def WC (b:dL) (i:Nat):Int:=nA (b.B i 0) (b.B i 1) (b.B i 2) (b.B i 3) (b.B i 4) (b.B i 5)
def blI (b:dL) (i:Nat):Bool:=jN b (b.B i 0) (b.B i 1) (b.B i 2) (b.B i 3) (b.B i 4) (b.B i 5)
def qS (b:dL):Bool:=decide (b.nS<1\/b.nS>20\/b.nO>100\/b.nB>50)
def BC (b:dL) (i:Nat):Int:=if WC b i≠0 then WC b i else if blI b i=true then 12 else 0
def uW (b:dL):Bool:=decide (b.dE<=b.fl (b.nS - 1)\/b.dE>1000000)
def fh (b:dL):Int:=if iO b.name=false then 4 else if qS b=true then 11 else if fW (pH b) b.nS≠0 then fW (pH b) b.nS else if uW b=true then 2 else if fW (oP b) b.nO≠0 then fW (oP b) b.nO else fW (BC b) b.nB
theorem mO {b:dL}:qS b=true↔(b.nS<1\/b.nS>20\/b.nO>100\/b.nB>50):=by unfold qS;rw [ah]
theorem o5 {b:dL}:uW b=true↔(b.dE<=b.fl (b.nS - 1)\/b.dE>1000000):=by unfold uW;rw [ah]
theorem mQ {b:dL} (h1:qS b=false) (h2: ∀i,i<b.nS->pH b i=0) (h3:uW b=false):tQ b/\UY b/\ ∀i,i<b.nS->b.fl i<fj b i:=by
 have s1: ¬(b.nS<1\/b.nS>20\/b.nO>100\/b.nB>50):=fun h=>by rw [mO.2 h] at h1;cases h1
 have s2: ¬(b.dE<=b.fl (b.nS - 1)\/b.dE>1000000):=fun h=>by rw [o5.2 h] at h3;cases h3
 obtain ⟨o1,o2,o3⟩:=st_ok h2
 have hl:=o2 (b.nS - 1) (by omega)
 refine ⟨o1,⟨o2,by omega,by omega⟩,fun i hi=> ?_⟩
 unfold fj
 split
 ·exact o3 i (by assumption)
 ·rw [show i=b.nS - 1 by omega];omega
theorem lq {b:dL} (h:fh b=0):iO b.name=true/\qS b=false/\(∀i,i<b.nS->pH b i=0)/\uW b=false/\(∀i,i<b.nO->oP b i=0)/\(∀i,i<b.nB->BC b i=0):=by
 unfold fh at h
 split at h
 ·cases h
 ·rename_i a1
  split at h
  ·cases h
  ·rename_i a2
   split at h
   ·rename_i a3;exact absurd h a3
   ·rename_i a3
    split at h
    ·cases h
    ·rename_i a4
     split at h
     ·rename_i a5;exact absurd h a5
     ·rename_i a5
      exact ⟨by simpa using a1,by simpa using a2,lW (bP.1 a3),by simpa using a4,lW (bP.1 a5),lW h⟩
def G2 (b:dL):fx:= .res fun _=>dI (fh b)
def rBlk (b:dL):fx:= .res fun l=>dB (jN b (fI 0 (arg l 1)) (fI 1 (arg l 1)) (fI 2 (arg l 1)) (fI 3 (arg l 1)) (fI 4 (arg l 1)) (fI 5 (arg l 1)))
section
variable {b:dL}
theorem H9 (h:iO b.name=false):fh b=4:=by rw [fh,ag h]
theorem Eg (h:iO b.name=true) (h1:qS b=true):fh b=11:=by rw [fh,ab (by rw [h];simp),ag h1]
theorem Eh (h:iO b.name=true) (h1:qS b=false) (h2:fW (pH b) b.nS≠0):fh b=fW (pH b) b.nS:=by
 rw [fh,ab (by rw [h];simp),ab (by rw [h1];simp),ag h2]
theorem KN (h:iO b.name=true) (h1:qS b=false) {i:Nat} (hi:i<b.nS) (h2: ∀j,j<i->pH b j=0) (h3:pH b i≠0):fh b=pH b i:=by
 have e:=kx h2 h3 hi
 rw [Eh h h1 (by rw [e];exact h3),e]
theorem H8 (h:iO b.name=true) (h1:qS b=false) (h2: ∀j,j<b.nS->pH b j=0) (h3:uW b=true):fh b=2:=by
 rw [fh,ab (by rw [h];simp),ab (by rw [h1];simp),ab (by rw [fV h2];simp),ag h3]
theorem Sd (h:iO b.name=true) (h1:qS b=false) (h2: ∀j,j<b.nS->pH b j=0) (h3:uW b=false) {i:Nat} (hi:i<b.nO) (h4: ∀j,j<i->oP b j=0) (h5:oP b i≠0):fh b=oP b i:=by
 have e:=kx h4 h5 hi
 rw [fh,ab (by rw [h];simp),ab (by rw [h1];simp),ab (by rw [fV h2];simp),ab (by rw [h3];simp),ag (by rw [e];exact h5),e]
theorem zE (h:iO b.name=true) (h1:qS b=false) (h2: ∀j,j<b.nS->pH b j=0) (h3:uW b=false) (h4: ∀j,j<b.nO->oP b j=0):fh b=fW (BC b) b.nB:=by
 rw [fh,ab (by rw [h];simp),ab (by rw [h1];simp),ab (by rw [fV h2];simp),ab (by rw [h3];simp),ab (by rw [fV h4];simp)]
theorem FC (h:iO b.name=true) (h1:qS b=false) (h2: ∀j,j<b.nS->pH b j=0) (h3:uW b=false) (h4: ∀j,j<b.nO->oP b j=0) {i:Nat} (hi:i<b.nB) (h5: ∀j,j<i->BC b j=0) (h6:BC b i≠0):fh b=BC b i:=by
 rw [zE h h1 h2 h3 h4,kx h5 h6 hi]
theorem WL {i:Nat} (h:WC b i≠0):BC b i=WC b i:=by rw [BC,ag h]
theorem WK {i:Nat} (h:WC b i=0) (h2:blI b i=true):BC b i=12:=by rw [BC,ab (by rw [h];simp),ag h2]
theorem Si {i:Nat} (h:WC b i=0) (h2:blI b i=false):BC b i=0:=by rw [BC,ab (by rw [h];simp),ab (by rw [h2];simp)]
theorem upto {P:Nat->Prop} {i:Nat} (h: ∀j,j<i->P j) (hi:P i): ∀j,j<i+1->P j:=fun j hj=>by
 rcases a8 j i with h1|h1
 ·exact h j h1
 ·rw [show j=i by omega];exact hi
end
noncomputable def I3 (b:dL):eA:={ dz:=[(1,[(2,Qg b)]),(5,[(2,.res fun _=>dI (fW (pH b) b.nS))]),(13,[(6,.res fun l=>dI (oP b (lenOf (arg l 2))))]),(20,[(1,YK)]),(23,[(2,rBlk b)])],loops:=[(0,{ ι:=Nat,keep:=[1,60,61],boxes:=[1],ts:=fun _ i=>[(62,dI (i:Int))],inv:=fun _ i=>i<=b.nO/\ ∀j,j<i->oP b j=0,mu:=fun _ i=>b.nO - i,rd:=fun _ σ=>(ez (σ.get 62)).toNat }),(2,{ ι:=Nat,keep:=[1,79,80],boxes:=[1],ts:=fun _ i=>[(81,dI (i:Int))],inv:=fun _ i=>i<=b.nB/\ ∀j,j<i->BC b j=0,mu:=fun _ i=>b.nB - i,rd:=fun _ σ=>(ez (σ.get 81)).toNat })],dK:=[] }
namespace w1f
noncomputable section
variable (z:dL) (i0:Nat) (p:Prop) (P:List Prop) (a:Int) (k:Nat) (g h:Bool) (U:VT) (xA:List Value)
abbrev x0:=Int.toNat (i0:Int)
abbrev x1:=DV.val (Value.int IntKind.i64 a)
abbrev x2:=z.B (x0 i0) k
abbrev x3:=i0<z.nO->rf (z.O i0 k)
abbrev x4:=i0<z.nB->rf (z.B i0 k)
abbrev x5:=if g=true then true else h
abbrev x6:=decide ((z.nS:Int)<(1:Int))
abbrev x7:=Int.toNat 0
abbrev x8:List Value:=Value.int IntKind.i64 (x2 z i0 k)::xA
abbrev x9:Int:=(z.nO:Int)
abbrev dM:List Prop:=ri ((!g)=true)::P
abbrev dQ:=x5 (x6 z) (decide ((z.nS:Int)>(20:Int)))
abbrev dS:=VT.dk [p] U
abbrev dT:=Int.toNat ((i0:Int)+1)
abbrev dU:=(z.nS:Int) - 1
abbrev dY:=VT.ite g (VT.done [a=fh z]) U
abbrev eb:= ∀(i0:Nat),x4 z i0 (5:Nat)
abbrev eE:List Value:=Value.int IntKind.i64 (z.O (x0 i0) k)::xA
abbrev eH:=x1 (z.O (i0+x7) k)
abbrev eT:=x5 (dQ z) (decide ((x9 z)>(100:Int)))
abbrev eG:List Prop:=rf z.nO::(∀(i0:Nat),x3 z i0 (0:Nat))::(∀(i0:Nat),x3 z i0 (1:Nat))::(∀(i0:Nat),x3 z i0 (2:Nat))::(∀(i0:Nat),x3 z i0 (3:Nat))::(∀(i0:Nat),x3 z i0 (4:Nat))::(∀(i0:Nat),x3 z i0 (5:Nat))::P
abbrev eZ:List Prop:=rf z.nB::(∀(i0:Nat),x4 z i0 (0:Nat))::(∀(i0:Nat),x4 z i0 (1:Nat))::(∀(i0:Nat),x4 z i0 (2:Nat))::(∀(i0:Nat),x4 z i0 (3:Nat))::(∀(i0:Nat),x4 z i0 (4:Nat))::P
abbrev fi:=decide (z.dE<=(z.fl (Int.toNat (dU z))))
abbrev fR:=g=false->(!h)=true
abbrev fU:List Prop:=rf a::rf z.name::rf z.nS::(∀i0<z.nS,rf (z.fl i0))::(∀i0<z.nS,rf (z.N i0)/\(∀i1<z.N i0,rf (z.X i0 i1))/\(∀i1<z.N i0,rf (z.Y i0 i1)))::rf z.dE::eG z (eZ z P)
abbrev fS:=oP z (x0 i0 - x7)
abbrev fz:=DV.val (Value.string z.name)
abbrev gi:=DV.val (Value.agg (Array.mk xA))
abbrev iA:=DV.dt z.nS [fun i0=>x1 (z.fl i0),fun i0=>DV.dt (z.N i0) [fun i1=>x1 (z.X i0 i1),fun i1=>x1 (z.Y i0 i1)]]
abbrev jw:=fW (pH z) z.nS
abbrev iw:=nA (x2 z i0 (0:Nat)) (x2 z i0 (1:Nat)) (x2 z i0 (2:Nat)) (x2 z i0 (3:Nat)) (x2 z i0 (4:Nat)) (x2 z i0 (5:Nat))
abbrev jk:=dS (0<=(i0:Int)/\(i0:Int)<a) U
abbrev jj:=dS (dh ((i0:Int)+1)) (VT.done P)
abbrev gQ:=(i0:Int)+1=(↑(dT i0):Int)
abbrev iz:=gi (x8 z i0 (0:Nat) (x8 z i0 (1:Nat) (x8 z i0 (2:Nat) (x8 z i0 (3:Nat) (x8 z i0 (4:Nat) (x8 z i0 (5:Nat) []))))))
abbrev mc:=DV.agg [fz z,iA z,x1 z.dE,DV.dt z.nO [fun i0=>x1 (z.O i0 0),fun i0=>x1 (z.O i0 1),fun i0=>x1 (z.O i0 2),fun i0=>x1 (z.O i0 3),fun i0=>x1 (z.O i0 4),fun i0=>x1 (z.O i0 5)],DV.dt z.nB [fun i0=>x1 (z.B i0 0),fun i0=>x1 (z.B i0 1),fun i0=>x1 (z.B i0 2),fun i0=>x1 (z.B i0 3),fun i0=>x1 (z.B i0 4),fun i0=>x1 (z.B i0 5)]]
abbrev kB:=jN z (x2 z i0 (0:Nat)) (x2 z i0 (1:Nat)) (x2 z i0 (2:Nat)) (x2 z i0 (3:Nat)) (x2 z i0 (4:Nat)) (x2 z i0 (5:Nat))
abbrev xt:VT:=dS (dv prog 104 [fz z] (DV.val (Value.bool (iO z.name)))) (dY z (4:Int) (!(iO z.name)) (VT.dk (dM (dM (dM (fR (x6 z) (x6 z)::dM (dM (dM (fR (dQ z) (dQ z)::dM (dM (dM [fR (eT z) (eT z)] (eT z)) (eT z)) (eT z)) (dQ z)) (dQ z)) (dQ z)) (x6 z)) (x6 z)) (x6 z)) (dY z (11:Int) (x5 (eT z) (decide ((z.nB:Int)>(50:Int)))) (dS (dv prog 105 [iA z] (x1 (jw z))) (dY z (jw z) (jw z !=0) (VT.dk (dh (dU z)::(0<=dU z/\dU z<(z.nS:Int))::dM (dM [fR (fi z) (fi z)] (fi z)) (fi z)) (dY z (2:Int) (x5 (fi z) (decide (z.dE>(1000000:Int)))) (VT.loop Nat (fun i0=>i0<=z.nO/\(∀i1<i0,oP z i1=0)) x7 ((0=(x7:Int))::eG z (fU z [eb z] (x9 z))) (fun i0=>VT.ite (decide ((i0:Int)<(x9 z))) (jk i0 (x9 z) (VT.dk [(0:Int)<=(0:Int)/\0<=(i0:Int)/\(i0:Int)<=x9 z,dv prog 106 [mc z,gi (eE z i0 (0:Nat) (eE z i0 (1:Nat) (eE z i0 (2:Nat) (eE z i0 (3:Nat) (eE z i0 (4:Nat) (eE z i0 (5:Nat) [])))))),DV.dt (x0 i0 - x7) [fun i0=>eH z i0 (0:Nat),fun i0=>eH z i0 (1:Nat),fun i0=>eH z i0 (2:Nat),fun i0=>eH z i0 (3:Nat),fun i0=>eH z i0 (4:Nat),fun i0=>eH z i0 (5:Nat)]] (x1 (fS z i0))] (dY z (fS z i0) (fS z i0 !=0) (jj i0 (gQ i0::eG z (fU z [eb z,dT i0<=z.nO/\(∀i1<dT i0,oP z i1=0),z.nO - dT i0<z.nO - i0] (x9 z))))))) (VT.loop Nat (fun i0=>i0<=z.nB/\(∀i1<i0,BC z i1=0)) x7 ((0=(x7:Int))::eZ z (eb z::fU z [eb z] (z.nB:Int))) (fun i0=>VT.ite (decide ((i0:Int)<(z.nB:Int))) (jk i0 (z.nB:Int) (dS (dv prog 42 [iz z i0] (x1 (iw z i0))) (dY z (iw z i0) (iw z i0 !=0) (dS (dv prog 43 [mc z,iz z i0] (DV.val (Value.bool (kB z i0)))) (dY z (12:Int) (kB z i0) (jj i0 (gQ i0::eZ z (eb z::fU z [eb z,dT i0<=z.nB/\(∀i1<dT i0,BC z i1=0),z.nB - dT i0<z.nB - i0] (z.nB:Int))))))))) (VT.done [0=fh z]))))))))))))
end
end w1f
open w1f in
theorem zF (b:dL) (hN: ∀i,i<b.nS->b.N i<=1000):dv prog 41 [kz b] (dI (fh b)):=by
 refine dm dJ (I3 b) (V:=xt b) (by kernel_rfl) ?_
 simp only [xt,x0,x1,x2,x3,x4,x5,x6,x7,x8,x9,dM,dQ,dS,dT,dU,dY,eb,eE,eH,eT,eG,eZ,fi,fR,fU,fS,fz,gi,iA,jw,iw,jk,jj,gQ,iz,mc,kB,Rf,VT.holds,dC,Sq]
 simp only [bJ]
 refine ⟨QQ b.name,fun h=>(H9 h).symm,fun hn=>⟨fun h=>(Eg hn (mO.2 (by omega))).symm,fun h=> ?_⟩⟩
 have hs:qS b=false:=by
  cases h1:qS b with
  |false=>rfl
  |true=>have:=mO.1 h1;omega
 refine ⟨BA b (by omega) hN,fun h1=>(Eh hn hs h1).symm,fun h1=> ?_⟩
 have mh:=lW h1
 have e1:((b.nS:Int) - 1).toNat=b.nS - 1:=by omega
 rw [e1]
 refine ⟨⟨by unfold dh;omega,by omega,by omega⟩,fun h2=>(H8 hn hs mh (o5.2 h2)).symm,fun h2=> ?_⟩
 have hr:uW b=false:=by
  cases h3:uW b with
  |false=>rfl
  |true=>have:=o5.1 h3;omega
 obtain ⟨f1,f2,f3⟩:=mQ hs mh hr
 refine ⟨rfl,⟨aq _,fun j hj=>absurd hj (aG j)⟩,fun i ⟨hi,hb⟩=>⟨fun dR=>⟨⟨by omega,dR⟩,⟨⟨db _,by omega,by omega⟩,Nu b i (by omega) (by omega) f1 f2⟩,fun h3=>(Sd hn hs mh hr (by omega) hb h3).symm,fun h3=>⟨by unfold dh;omega,by omega,⟨by omega,upto hb h3⟩,by omega⟩⟩,fun iG=> ?_⟩⟩
 have nN: ∀j,j<b.nO->oP b j=0:=fun j hj=>hb j (by omega)
 refine ⟨rfl,⟨aq _,fun j hj=>absurd hj (aG j)⟩,fun k ⟨hk,gJ⟩=>⟨fun dR=>⟨⟨by omega,dR⟩,uA _ _ _ _ _ _,fun h3=> ?_,fun h3=>⟨Sl b _ _ _ _ _ _ (by omega) f1 h3,fun h4=> ?_,fun h4=>⟨by unfold dh;omega,by omega,⟨by omega,upto gJ (Si h3 h4)⟩,by omega⟩⟩⟩,fun NX=> ?_⟩⟩
 ·have e:=WL (b:=b) (i:=k) h3
  rw [FC hn hs mh hr nN (by omega) gJ (by rw [e];exact h3),e];rfl
 ·have e:=WK (b:=b) (i:=k) h3 h4
  rw [FC hn hs mh hr nN (by omega) gJ (by rw [e];simp),e]
 ·rw [zE hn hs mh hr nN,fV (fun j hj=>gJ j (by omega))]
noncomputable def Gb (b:dL):eA:={ dz:=[(1,[(2,Qg b)]),(3,[(3,vf)]),(9,[(2,G3)]),(14,[(12,rCov)]),(21,[(2,.res fun l=>dI (oP b (aI l 1).toNat))]),(27,[(5,YK)]),(30,[(6,rBlk b)])],loops:=[(0,{ ι:=Nat,keep:=[1],boxes:=[1],ts:=fun _ i=>[(3,dI (i:Int))],inv:=fun _ i=>i<=b.nS/\ ∀j,j<i->pH b j=0,mu:=fun _ i=>b.nS - i,rd:=fun _ σ=>(ez (σ.get 3)).toNat }),(2,{ ι:=Nat,keep:=[1],boxes:=[1],ts:=fun _ i=>[(6,dI (i:Int))],inv:=fun _ i=>i<=b.nO/\ ∀j,j<i->oP b j=0,mu:=fun _ i=>b.nO - i,rd:=fun _ σ=>(ez (σ.get 6)).toNat }),(4,{ ι:=Nat,keep:=[1],boxes:=[1],ts:=fun _ i=>[(8,dI (i:Int))],inv:=fun _ i=>i<=b.nB/\ ∀j,j<i->BC b j=0,mu:=fun _ i=>b.nB - i,rd:=fun _ σ=>(ez (σ.get 8)).toNat })],dK:=[] }
namespace w1g
noncomputable section
variable (z:dL) (i0:Nat) (p q:Prop) (P:List Prop) (a:Int) (k:Nat) (g h:Bool) (A:DV) (E:List DV) (U V:VT) (jM:Nat->Prop) (yR:Nat->VT) (xA:List Value)
abbrev x0:Int:=(i0:Int)
abbrev x1:=Int.toNat (x0 i0)
abbrev x2:=DV.val (Value.int IntKind.i64 a)
abbrev x3:=z.B (x1 i0) k
abbrev x4:Int:=(z.nS:Int)
abbrev x5:List Prop:=ri (g=true)::P
abbrev x6:=i0<z.nO->rf (z.O i0 k)
abbrev x7:=i0<z.nB->rf (z.B i0 k)
abbrev x8:=decide ((x0 i0)>(0:Int))
abbrev x9:=if (x0 i0==0)=true then (z.fl (x1 i0) !=0) else false
abbrev dM:=Int.toNat (x0 i0 - 1)
abbrev dQ:=if g=true then true else h
abbrev dS:=Int.toNat (x0 i0+1)
abbrev dT:=(!(x9 z i0))&&(x8 i0)
abbrev dU:List Value:=Value.int IntKind.i64 (x3 z i0 k)::xA
abbrev dY:=decide ((1<=x4 z)/\(x4 z<=20))
abbrev eb:=VT.ite g (VT.done [a=fh z]) U
abbrev eE:=x5 (x5 P (x8 i0)) (x8 i0)
abbrev eH:= ∀(i0:Nat),x7 z i0 (4:Nat)
abbrev eT:= ∀(i0:Nat),x7 z i0 (5:Nat)
abbrev eG:=if (x8 i0)=true then g else false
abbrev eZ:=x5 (x5 P (dT z i0)) (dT z i0)
abbrev fi:=dQ (!(dY z)) (decide ((z.nO:Int)>(100:Int)))
abbrev fR:List Prop:=p::rf z.name::rf z.nS::(∀i0<z.nS,rf (z.fl i0))::(∀i0<z.nS,rf (z.N i0)/\(∀i1<z.N i0,rf (z.X i0 i1))/\(∀i1<z.N i0,rf (z.Y i0 i1)))::rf z.dE::rf z.nO::(∀(i0:Nat),x6 z i0 (0:Nat))::(∀(i0:Nat),x6 z i0 (1:Nat))::(∀(i0:Nat),x6 z i0 (2:Nat))::(∀(i0:Nat),x6 z i0 (3:Nat))::(∀(i0:Nat),x6 z i0 (4:Nat))::(∀(i0:Nat),x6 z i0 (5:Nat))::rf z.nB::(∀(i0:Nat),x7 z i0 (0:Nat))::(∀(i0:Nat),x7 z i0 (1:Nat))::(∀(i0:Nat),x7 z i0 (2:Nat))::(∀(i0:Nat),x7 z i0 (3:Nat))::P
abbrev fU:=decide (z.dE<=(z.fl (Int.toNat (x4 z - 1))))
abbrev fS:=dQ (x9 z i0) (eG i0 (decide ((z.fl (x1 i0))<=(z.fl (dM i0)))))
abbrev fz:=dv prog k E (DV.val (Value.bool g))
abbrev gi:=VT.ite (decide ((x0 i0)<a)) U V
abbrev iA:List Prop:=(x8 i0=true->p)::eE i0 P
abbrev jw:=DV.val (Value.string z.name)
abbrev iw:=gI (z.N (x1 i0)) (z.X (x1 i0)) (z.Y (x1 i0))
abbrev jk:=VT.loop Nat jM (Int.toNat 0) (fR z (0=(↑(Int.toNat 0):Int)) [eH z,eT z]) yR
abbrev jj:=VT.dk [dh (x0 i0+1)] (VT.done (fR z (x0 i0+1=(↑(dS i0):Int)) [eH z,eT z,p,q]))
abbrev gQ:=nA (x3 z i0 (0:Nat)) (x3 z i0 (1:Nat)) (x3 z i0 (2:Nat)) (x3 z i0 (3:Nat)) (x3 z i0 (4:Nat)) (x3 z i0 (5:Nat))
abbrev iz:=dQ g (decide (a>(1000000:Int)))
abbrev mc:=VT.dk [0<=x0 i0/\x0 i0<(z.nB:Int),p] U
abbrev kB:=0<=x0 i0 - 1/\x0 i0 - 1<x4 z
abbrev j8:=DV.dt (z.N (x1 i0)) [fun i1=>x2 (z.X (x1 i0) i1),fun i1=>x2 (z.Y (x1 i0) i1)]
abbrev oO:=DV.val (Value.agg (Array.mk (dU z i0 (0:Nat) (dU z i0 (1:Nat) (dU z i0 (2:Nat) (dU z i0 (3:Nat) (dU z i0 (4:Nat) (dU z i0 (5:Nat) []))))))))
abbrev mq:List DV:=[DV.agg [jw z,DV.dt z.nS [fun i0=>x2 (z.fl i0),fun i0=>DV.dt (z.N i0) [fun i1=>x2 (z.X i0 i1),fun i1=>x2 (z.Y i0 i1)]],x2 z.dE,DV.dt z.nO [fun i0=>x2 (z.O i0 0),fun i0=>x2 (z.O i0 1),fun i0=>x2 (z.O i0 2),fun i0=>x2 (z.O i0 3),fun i0=>x2 (z.O i0 4),fun i0=>x2 (z.O i0 5)],DV.dt z.nB [fun i0=>x2 (z.B i0 0),fun i0=>x2 (z.B i0 1),fun i0=>x2 (z.B i0 2),fun i0=>x2 (z.B i0 3),fun i0=>x2 (z.B i0 4),fun i0=>x2 (z.B i0 5)]],A]
abbrev nH:=nW (z.N (dM i0)) (z.X (dM i0)) (z.Y (dM i0)) (z.N (x1 i0)) (z.X (x1 i0)) (z.Y (x1 i0))
abbrev sS:=jN z (x3 z i0 (0:Nat)) (x3 z i0 (1:Nat)) (x3 z i0 (2:Nat)) (x3 z i0 (3:Nat)) (x3 z i0 (4:Nat)) (x3 z i0 (5:Nat))
abbrev xt:VT:=VT.dk [fz (81:Nat) (iO z.name) [jw z]] (eb z (4:Int) (!(iO z.name)) (VT.dk (fz (82:Nat) (dY z) [x2 (x4 z),x2 (1:Int),x2 (20:Int)]::x5 (x5 (x5 (((!(dY z))=false->(!(!(dY z)))=true)::x5 (x5 (x5 [fi z=false->(!(fi z))=true] (!(fi z))) (!(fi z))) (!(fi z))) (!(!(dY z)))) (!(!(dY z)))) (!(!(dY z)))) (eb z (11:Int) (dQ (fi z) (decide ((z.nB:Int)>(50:Int)))) (jk z (fun i0=>i0<=z.nS/\(∀i1<i0,pH z i1=0)) (fun i0=>gi i0 (x4 z) (VT.dk [0<=x0 i0/\x0 i0<x4 z] (VT.dk [dv prog 83 [j8 z i0] (x2 (iw z i0))] (eb z (iw z i0) (iw z i0 !=0) (VT.dk (x5 (x5 (x5 (x5 (x5 (eZ z i0 (x5 ((dT z i0=true->dh (x0 i0 - 1))::eZ z i0 ((dT z i0=true->kB z i0)::eZ z i0 (eZ z i0 (x5 (((!(x9 z i0))=true->x8 i0=true->dT z i0=true)::(x9 z i0=false->(!(x9 z i0))=true)::x5 (x5 [fS z i0=false->(!(fS z i0))=true] (!(fS z i0))) (!(fS z i0))) (!(x9 z i0)))))) (dT z i0))) (!(x9 z i0))) (!(x9 z i0))) (x0 i0==0)) (x0 i0==0)) (x0 i0==0)) (eb z (10:Int) (iz (z.fl (x1 i0)) (fS z i0)) (VT.dk (eE i0 (iA i0 (dh (x0 i0 - 1)) (iA i0 (kB z i0) (eE i0 (x5 (iA i0 (fz (84:Nat) (nH z i0) [DV.dt (z.N (dM i0)) [fun i1=>x2 (z.X (dM i0) i1),fun i1=>x2 (z.Y (dM i0) i1)],j8 z i0]) []) (x8 i0)))))) (eb z (12:Int) (eG i0 (!(nH z i0))) (jj z i0 (dS i0<=z.nS/\(∀i1<dS i0,pH z i1=0)) (z.nS - dS i0<z.nS - i0))))))))) (VT.dk (dh (x4 z - 1)::(0<=x4 z - 1/\x4 z - 1<x4 z)::x5 (x5 [fU z=false->(!(fU z))=true] (!(fU z))) (!(fU z))) (eb z (2:Int) (iz z.dE (fU z)) (jk z (fun i0=>i0<=z.nO/\(∀i1<i0,oP z i1=0)) (fun i0=>gi i0 (z.nO:Int) (VT.dk [dv prog 85 (mq z (x2 (x0 i0))) (x2 (oP z (x1 i0)))] (eb z (oP z (x1 i0)) (oP z (x1 i0) !=0) (jj z i0 (dS i0<=z.nO/\(∀i1<dS i0,oP z i1=0)) (z.nO - dS i0<z.nO - i0)))) (jk z (fun i0=>i0<=z.nB/\(∀i1<i0,BC z i1=0)) (fun i0=>gi i0 (z.nB:Int) (mc z i0 (dv prog 86 [oO z i0] (x2 (gQ z i0))) (eb z (gQ z i0) (gQ z i0 !=0) (mc z i0 (fz (87:Nat) (sS z i0) (mq z (oO z i0))) (eb z (12:Int) (sS z i0) (jj z i0 (dS i0<=z.nB/\(∀i1<dS i0,BC z i1=0)) (z.nB - dS i0<z.nB - i0)))))) (VT.done [0=fh z]))))))))))))
end
end w1g
open w1g in
theorem Ic (b:dL) (hN: ∀i,i<b.nS->b.N i<=1000):dv prog 28 [kz b] (dI (fh b)):=by
 refine dm dJ (Gb b) (V:=xt b) (by kernel_rfl) ?_
 simp only [xt,x0,x1,x2,x3,x4,x5,x6,x7,x8,x9,dM,dQ,dS,dT,dU,dY,eb,eE,eH,eT,eG,eZ,fi,fR,fU,fS,fz,gi,iA,jw,iw,jk,jj,gQ,iz,mc,kB,j8,oO,mq,nH,sS,Rf,VT.holds,dC,Sq]
 refine ⟨NM b.name,fun h=>(H9 h).symm,fun hn=>⟨iB _ _ _,fun h=>(Eg hn (mO.2 (by omega))).symm,fun h=> ?_⟩⟩
 have hs:qS b=false:=by
  cases h1:qS b with
  |false=>rfl
  |true=>have:=mO.1 h1;omega
 refine ⟨rfl,⟨aq _,fun j hj=>absurd hj (aG j)⟩,fun i ⟨hi,Gn⟩=>⟨fun dR=> ?_,fun hge0=> ?_⟩⟩
 ·have hp:((i:Int) - 1).toNat=i - 1:=by omega
  simp only [hp]
  have hNi:=hN i (by omega)
  have mh:pH b i=if gI (b.N i) (b.X i) (b.Y i)≠0 then gI (b.N i) (b.X i) (b.Y i) else if tR b i=true then 10 else if 0<i/\nW (b.N (i - 1)) (b.X (i - 1)) (b.Y (i - 1)) (b.N i) (b.X i) (b.Y i)=false then 12 else 0:=rfl
  refine ⟨⟨by omega,dR⟩,Ib _ _ _ (by omega),fun h1=> ?_,fun hc=> ?_⟩
  ·have e:pH b i=gI (b.N i) (b.X i) (b.Y i):=by rw [mh,ag h1]
   rw [KN hn hs (by omega) Gn (by rw [e];exact h1),e]
  ·refine ⟨⟨fun _=>by unfold dh;omega,fun _=>by omega,fun h1 h2=>⟨h1,h2⟩⟩,fun h1=> ?_,fun h1=> ?_⟩
   ·have ho:tR b i=true:=by
     rw [tR,ah]
     omega
    have e:pH b i=10:=by rw [mh,ab (by rw [hc];simp),ag ho]
    rw [KN hn hs (by omega) Gn (by rw [e];simp),e]
   ·have ho:tR b i=false:=by
     rw [tR,aj]
     omega
    refine ⟨⟨fun _=>by unfold dh;omega,fun _=>by omega,fun h2=>Oe _ _ _ _ _ _ (uP (Gn (i - 1) (by omega))).1 hc⟩,fun h2=> ?_,fun h2=>⟨by unfold dh;omega,by omega,⟨by omega,upto Gn ?_⟩,by omega⟩⟩
    ·have e:pH b i=12:=by rw [mh,ab (by rw [hc];simp),ab (by rw [ho];simp),ag ⟨by omega,h2.2⟩]
     rw [KN hn hs (by omega) Gn (by rw [e];simp),e]
    ·rw [mh,ab (by rw [hc];simp),ab (by rw [ho];simp),ab]
     rintro ⟨h4,h5⟩
     rw [h2 (by omega)] at h5
     cases h5
 ·have mh: ∀j,j<b.nS->pH b j=0:=fun j hj=>Gn j (by omega)
  have e1:((b.nS:Int) - 1).toNat=b.nS - 1:=by omega
  rw [e1]
  refine ⟨⟨by unfold dh;omega,by omega,by omega⟩,fun h2=>(H8 hn hs mh (o5.2 h2)).symm,fun h2=> ?_⟩
  have hr:uW b=false:=by
   cases h3:uW b with
   |false=>rfl
   |true=>have:=o5.1 h3;omega
  obtain ⟨f1,f2,f3⟩:=mQ hs mh hr
  refine ⟨rfl,⟨aq _,fun j hj=>absurd hj (aG j)⟩,fun i ⟨hi,hb⟩=>⟨fun dR=>⟨J4 b i (by omega) (by omega) (by omega) f1 f2 hb,fun h3=>(Sd hn hs mh hr (by omega) hb h3).symm,fun h3=>⟨by unfold dh;omega,by omega,⟨by omega,upto hb h3⟩,by omega⟩⟩,fun iG=> ?_⟩⟩
  have nN: ∀j,j<b.nO->oP b j=0:=fun j hj=>hb j (by omega)
  refine ⟨rfl,⟨aq _,fun j hj=>absurd hj (aG j)⟩,fun k ⟨hk,gJ⟩=>⟨fun dR=>⟨⟨⟨by omega,dR⟩,Ie _ _ _ _ _ _⟩,fun h3=> ?_,fun h3=>⟨⟨⟨by omega,dR⟩,Ow b _ _ _ _ _ _ (by omega) f1 f3 h3⟩,fun h4=> ?_,fun h4=>⟨by unfold dh;omega,by omega,⟨by omega,upto gJ (Si h3 h4)⟩,by omega⟩⟩⟩,fun NX=> ?_⟩⟩
  ·have e:=WL (b:=b) (i:=k) h3
   rw [FC hn hs mh hr nN (by omega) gJ (by rw [e];exact h3),e];rfl
  ·have e:=WK (b:=b) (i:=k) h3 h4
   rw [FC hn hs mh hr nN (by omega) gJ (by rw [e];simp),e]
  ·rw [zE hn hs mh hr nN,fV (fun j hj=>gJ j (by omega))]
end Go.Abs
end
section
set_option maxRecDepth 100000
namespace Go.Abs
open Go
section
variable {b:dL} {s:Int}
theorem JX (h:qS b=false): ¬(b.nS<1\/b.nS>20\/b.nO>100\/b.nB>50):=fun h1=>by rw [mO.2 h1] at h;cases h
theorem P3 (h:jL b=true):b.nS<=25/\b.nO<=105/\b.nB<=55/\ ∀i,i<b.nS->b.N i<=45:=by
 unfold jL at h
 rw [ah] at h
 refine ⟨by omega,by omega,by omega,fun i hi=> ?_⟩
 have:=h.2 i hi
 rw [AR,aj] at this
 omega
end
end Go.Abs
end
section
set_option maxRecDepth 100000
namespace Go.Abs
open Go
def ki (p:Nat->Bool):Nat->Int
 |0=> -1
 |k+1=>if 0<=ki p k then ki p k else if p k=true then (k:Int) else -1
theorem ou {p:Nat->Bool}: ∀{n:Nat},(∀j,j<n->p j=false)->ki p n= -1
 |0,_=>rfl
 |n+1,h=>by
  rw [ki,ou (fun j hj=>h j (by omega)),ab (by omega),ab (by rw [h n (by omega)];simp)]
theorem Ea {p:Nat->Bool} {i:Nat} (h: ∀j,j<i->p j=false) (hi:p i=true): ∀{n:Nat},i<n->ki p n=i
 |n+1,hn=>by
  rcases a8 i n with h1|h1
  ·have:=Ea h hi h1
   rw [ki,this,ag (by omega)]
  ·have:i=n:=by omega
   subst this
   rw [ki,ou h,ab (by omega),ag hi]
def SN (b:dL) (x1 y1 z1 x2 y2 z2:Int) (i:Nat):Bool:=lD x1 y1 z1 x2 y2 z2 (b.B i 0) (b.B i 1) (b.B i 2) (b.B i 3) (b.B i 4) (b.B i 5)
theorem Hb (a1 b1 c1 d1 e1 f1 a2 b2 c2 d2 e2 f2:Int):lD a1 b1 c1 d1 e1 f1 a2 b2 c2 d2 e2 f2=lD a2 b2 c2 d2 e2 f2 a1 b1 c1 d1 e1 f1:=by
 unfold lD
 rw [bu];omega
section
variable {b:dL} {x1 y1 z1 x2 y2 z2:Int}
end
noncomputable def I1 (b:dL) (x1 y1 z1 x2 y2 z2:Int):eA:={ dz:=[(4,[(6,rCmR)])],loops:=[(0,{ ι:=Nat,keep:=[2,3],boxes:=[2,3],ts:=fun _ i=>[(5,dI (i:Int))],inv:=fun _ i=>i<=b.nB/\ ∀j,j<i->SN b x1 y1 z1 x2 y2 z2 j=false,mu:=fun _ i=>b.nB - i,rd:=fun _ σ=>(ez (σ.get 5)).toNat })],dK:=[] }
theorem UX (b:dL) (x1 y1 z1 x2 y2 z2:Int) (hB:b.nB<=1000):dv prog 91 [kz b,bx x1 y1 z1 x2 y2 z2] (dI (ki (SN b x1 y1 z1 x2 y2 z2) b.nB)):=by
 refine dm dJ (I1 b x1 y1 z1 x2 y2 z2) (V:=VT.loop Nat (fun (a:Nat)=>a<=b.nB/\ ∀(j:Nat),j<a->SN b x1 y1 z1 x2 y2 z2 j=false) (0:Int).toNat [(0:Int)=(↑(0:Int).toNat:Int),b.name=b.name,b.nS=b.nS,∀i<b.nS,b.fl i=b.fl i,∀i<b.nS,b.N i=b.N i/\(∀ed<b.N i,b.X i ed=b.X i ed)/\ ∀ed<b.N i,b.Y i ed=b.Y i ed,b.dE=b.dE,b.nO=b.nO,∀i<b.nO,b.O i 0=b.O i 0,∀i<b.nO,b.O i 1=b.O i 1,∀i<b.nO,b.O i 2=b.O i 2,∀i<b.nO,b.O i 3=b.O i 3,∀i<b.nO,b.O i 4=b.O i 4,∀i<b.nO,b.O i 5=b.O i 5,b.nB=b.nB,∀i<b.nB,b.B i 0=b.B i 0,∀i<b.nB,b.B i 1=b.B i 1,∀i<b.nB,b.B i 2=b.B i 2,∀i<b.nB,b.B i 3=b.B i 3,∀i<b.nB,b.B i 4=b.B i 4,∀i<b.nB,b.B i 5=b.B i 5,x1=x1,y1=y1,z1=z1,x2=x2,y2=y2,z2=z2] fun (i:Nat)=>VT.ite (decide ((i:Int)<(b.nB:Int))) (VT.dk [(0:Int)<=(i:Int)/\(i:Int)<(b.nB:Int),dv prog 138 [DV.val (Value.agg (Array.mk [Value.int IntKind.i64 (b.B (i:Int).toNat (0:Nat)),Value.int IntKind.i64 (b.B (i:Int).toNat (1:Nat)),Value.int IntKind.i64 (b.B (i:Int).toNat (2:Nat)),Value.int IntKind.i64 (b.B (i:Int).toNat (3:Nat)),Value.int IntKind.i64 (b.B (i:Int).toNat (4:Nat)),Value.int IntKind.i64 (b.B (i:Int).toNat (5:Nat))])),DV.val (Value.agg (Array.mk [Value.int IntKind.i64 x1,Value.int IntKind.i64 y1,Value.int IntKind.i64 z1,Value.int IntKind.i64 x2,Value.int IntKind.i64 y2,Value.int IntKind.i64 z2]))] (DV.fC [DV.val (Value.agg (Array.mk [Value.int IntKind.i64 (CK (lD
  (b.B (i:Int).toNat (0:Nat)) (b.B (i:Int).toNat (1:Nat)) (b.B (i:Int).toNat (2:Nat)) (b.B (i:Int).toNat (3:Nat)) (b.B (i:Int).toNat (4:Nat)) (b.B (i:Int).toNat (5:Nat)) x1 y1 z1 x2 y2 z2) (max (b.B (i:Int).toNat (0:Nat)) x1)),Value.int IntKind.i64 (CK (lD (b.B (i:Int).toNat (0:Nat)) (b.B (i:Int).toNat (1:Nat)) (b.B (i:Int).toNat (2:Nat)) (b.B (i:Int).toNat (3:Nat)) (b.B (i:Int).toNat (4:Nat)) (b.B (i:Int).toNat (5:Nat)) x1 y1 z1 x2 y2 z2) (max (b.B (i:Int).toNat (1:Nat)) y1)),Value.int IntKind.i64 (CK (lD (b.B (i:Int).toNat (0:Nat)) (b.B (i:Int).toNat (1:Nat)) (b.B (i:Int).toNat (2:Nat)) (b.B (i:Int).toNat (3:Nat)) (b.B (i:Int).toNat (4:Nat)) (b.B (i:Int).toNat (5:Nat)) x1 y1 z1 x2 y2 z2) (max (b.B (i:Int).toNat (2:Nat)) z1)),Value.int IntKind.i64 (CK (lD (b.B (i:Int).toNat (0:Nat)) (b.B (i:Int).toNat (1:Nat)) (b.B (i:Int).toNat (2:Nat)) (b.B (i:Int).toNat (3:Nat)) (b.B (i:Int).toNat (4:Nat)) (b.B (i:Int).toNat (5:Nat)) x1 y1 z1 x2 y2 z2) (min (b.B (i:Int).toNat (3:Nat)) x2)),Value.int IntKind.i64 (CK (lD (b.B (i:Int).toNat (0:Nat)) (b.B (i:Int).toNat (1:Nat)) (b.B (i:Int).toNat (2:Nat)) (b.B (i:Int).toNat (3:Nat)) (b.B (i:Int).toNat (4:Nat)) (b.B (i:Int).toNat (5:Nat)) x1 y1 z1 x2 y2 z2) (min (b.B (i:Int).toNat (4:Nat)) y2)),Value.int IntKind.i64 (CK (lD (b.B (i:Int).toNat (0:Nat)) (b.B (i:Int).toNat (1:Nat)) (b.B (i:Int).toNat (2:Nat)) (b.B (i:Int).toNat (3:Nat)) (b.B (i:Int).toNat (4:Nat)) (b.B (i:Int).toNat (5:Nat)) x1 y1 z1 x2 y2 z2) (min (b.B (i:Int).toNat (5:Nat)) z2))])),DV.val (Value.bool
  (lD (b.B (i:Int).toNat (0:Nat)) (b.B (i:Int).toNat (1:Nat)) (b.B (i:Int).toNat (2:Nat)) (b.B (i:Int).toNat (3:Nat)) (b.B (i:Int).toNat (4:Nat)) (b.B (i:Int).toNat (5:Nat)) x1 y1 z1 x2 y2 z2))])] (VT.ite (lD (b.B (i:Int).toNat (0:Nat)) (b.B (i:Int).toNat (1:Nat)) (b.B (i:Int).toNat (2:Nat)) (b.B (i:Int).toNat (3:Nat)) (b.B (i:Int).toNat (4:Nat)) (b.B (i:Int).toNat (5:Nat)) x1 y1 z1 x2 y2 z2) (VT.done [(i:Int)=ki (SN b x1 y1 z1 x2 y2 z2) b.nB]) (VT.dk [dh ((i:Int)+1)] (VT.done [(i:Int)+1=(↑((i:Int)+1).toNat:Int),b.name=b.name,b.nS=b.nS,∀i<b.nS,b.fl i=b.fl i,∀i<b.nS,b.N i=b.N i/\(∀ed<b.N i,b.X i ed=b.X i ed)/\ ∀ed<b.N i,b.Y i ed=b.Y i ed,b.dE=b.dE,b.nO=b.nO,∀i<b.nO,b.O i 0=b.O i 0,∀i<b.nO,b.O i 1=b.O i 1,∀i<b.nO,b.O i 2=b.O i 2,∀i<b.nO,b.O i 3=b.O i 3,∀i<b.nO,b.O i 4=b.O i 4,∀i<b.nO,b.O i 5=b.O i 5,b.nB=b.nB,∀i<b.nB,b.B i 0=b.B i 0,∀i<b.nB,b.B i 1=b.B i 1,∀i<b.nB,b.B i 2=b.B i 2,∀i<b.nB,b.B i 3=b.B i 3,∀i<b.nB,b.B i 4=b.B i 4,∀i<b.nB,b.B i 5=b.B i 5,x1=x1,y1=y1,z1=z1,x2=x2,y2=y2,z2=z2,Int.toNat ((i:Int)+1)<=b.nB/\ ∀(j:Nat),j<((i:Int)+1).toNat->SN b x1 y1 z1 x2 y2 z2 j=false,b.nB - ((i:Int)+1).toNat<b.nB - i])))) (VT.done [(-1:Int)=ki (SN b x1 y1 z1 x2 y2 z2) b.nB])) (by kernel_rfl) ?_
 simp only [VT.holds,dC,Sq]
 refine ⟨rfl,⟨aq _,fun j hj=>absurd hj (aG j)⟩,fun i ⟨hi,hb⟩=>⟨fun dR=>⟨⟨⟨by omega,dR⟩,Oi _ _ _ _ _ _ _ _ _ _ _ _⟩,fun h=> ?_,fun h=>⟨by unfold dh;omega,by omega,⟨by omega,upto hb ?_⟩,by omega⟩⟩,fun iG=>by rw [ou (fun j hj=>hb j (by omega))]⟩⟩
 ·rw [Hb] at h
  exact (Ea hb h (by omega)).symm
 ·rw [Hb] at h
  exact h
end Go.Abs
end
section
set_option maxRecDepth 100000
namespace Go.Abs
open Go
def kX (d:Int):Int:=if d=0 then 1 else if d=2 then -1 else 0
def kW (d:Int):Int:=if d=1 then 1 else if d=3 then -1 else 0
theorem gX {d:Int} (h:0<=d/\d<4):[(1:Int),0,-1,0].getD d.toNat 0=kX d:=by
 obtain rfl|rfl|rfl|rfl:d=0\/d=1\/d=2\/d=3:=by omega
 all_goals rfl
theorem gY {d:Int} (h:0<=d/\d<4):[(0:Int),1,0,-1].getD d.toNat 0=kW d:=by
 obtain rfl|rfl|rfl|rfl:d=0\/d=1\/d=2\/d=3:=by omega
 all_goals rfl
theorem P1 {d:Int} (h:0<=d/\d<4):(kX d=1/\kW d=0)\/(kX d=0/\kW d=1)\/(kX d= -1/\kW d=0)\/(kX d=0/\kW d= -1):=by
 obtain rfl|rfl|rfl|rfl:d=0\/d=1\/d=2\/d=3:=by omega
 all_goals decide
def m3 (x:Int):Prop:= -3000000<=x/\x<=3000000
def rMo:fx:= .res fun l=>dP (fI 0 (arg l 0)+aI l 2*fI 0 (arg l 1)) (fI 1 (arg l 0)+aI l 2*fI 1 (arg l 1))
def rSt:fx:= .res fun l=> .fC [dI (kX (aI l 0)),dI (kW (aI l 0))]
noncomputable def I5 (x y a b n:Int):eA:={ dz:=[],loops:=[],dK:=[] }
theorem Ma (x y a b n:Int) (h:m3 n) (h0:m3 x) (h1:m3 y) (h2: -1<=a/\a<=1) (h3: -1<=b/\b<=1):dv prog 51 [dP x y,dP a b,dI n] (dP (x+n*a) (y+n*b)):=by
 refine dm dJ (I5 x y a b n) (V:=VT.dk [dh (n*a),dh (x+n*a),dh (n*b),dh (y+n*b)] (VT.done [x+n*a=x+n*a,y+n*b=y+n*b])) (by kernel_rfl) ?_
 simp only [VT.holds,dC,Sq]
 unfold m3 at*
 obtain rfl|rfl|rfl:a= -1\/a=0\/a=1:=by omega
 all_goals
  obtain rfl|rfl|rfl:b= -1\/b=0\/b=1:=by omega
  all_goals
   unfold dh
   omega
noncomputable def K8 (d:Int):eA:={ dz:=[],loops:=[],dK:=[] }
theorem ED (d:Int) (h:0<=d/\d<4):dv prog 137 [dI d] (.fC [dI (kX d),dI (kW d)]):=by
 refine dm dJ (K8 d) (V:=VT.ite (d==0) (VT.done [(1:Int)=kX d,(0:Int)=kW d]) (VT.ite (d==1) (VT.done [(0:Int)=kX d,(1:Int)=kW d]) (VT.ite (d==2) (VT.done [(-1:Int)=kX d,(0:Int)=kW d]) (VT.done [(0:Int)=kX d,(-1:Int)=kW d])))) (by kernel_rfl) ?_
 simp only [VT.holds,dC,Sq]
 refine ⟨fun h1=>by subst h1;exact ⟨rfl,rfl⟩,fun h1=>⟨fun h2=>by subst h2;exact ⟨rfl,rfl⟩,fun h2=>⟨fun h3=>by subst h3;exact ⟨rfl,rfl⟩,fun h3=> ?_⟩⟩⟩
 obtain rfl:d=3:=by omega
 exact ⟨rfl,rfl⟩
end Go.Abs
end
