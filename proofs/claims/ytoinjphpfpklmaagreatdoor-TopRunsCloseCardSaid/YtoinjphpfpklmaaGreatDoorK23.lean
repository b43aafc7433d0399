/- Contracts and what they stand on. -/
import Derived.Test.YtoinjphpfpklmaaGreatDoorK18
set_option linter.unusedVariables false
set_option linter.unusedSimpArgs false
section
set_option maxRecDepth 100000
namespace Go.Abs
open Go
abbrev opV (b:dJ) (i:Nat):DV:= .val (.agg #[.int .i64 (b.O i 0),.int .i64 (b.O i 1),.int .i64 (b.O i 2),.int .i64 (b.O i 3),.int .i64 (b.O i 4),.int .i64 (b.O i 5)])
def M7 (b:dJ) (i:Nat):Bool:=decide (b.O i 0<0\/b.O i 0>=b.nS\/b.O i 1<0\/b.O i 1>=b.N (b.O i 0).toNat)
def JX (b:dJ) (i:Nat):Bool:=decide (b.O i 2<0\/b.O i 2>=b.O i 3\/b.O i 3>ee (b.N (b.O i 0).toNat) (b.X (b.O i 0).toNat) (b.Y (b.O i 0).toNat) ((b.O i 1).toNat:Int)\/b.O i 4<0\/b.O i 4>=b.O i 5\/b.O i 5>fb b (b.O i 0).toNat - b.fl (b.O i 0).toNat)
def Fl (b:dJ) (i j:Nat):Bool:=decide (b.O j 0=b.O i 0/\b.O j 1=b.O i 1/\max (b.O j 2) (b.O i 2)<min (b.O j 3) (b.O i 3)/\max (b.O j 4) (b.O i 4)<min (b.O j 5) (b.O i 5))
def o8 (b:dJ) (i:Nat):Int:=if M7 b i=true then 6 else if JX b i=true then 2 else if ∀j,j<i->Fl b i j=false then 0 else 12
theorem PT {b:dJ} {i:Nat} (h:o8 b i=0):M7 b i=false/\JX b i=false:=by
 unfold o8 at h
 split at h
 ·cases h
 ·rename_i h1
  split at h
  ·cases h
  ·rename_i h2
   exact ⟨by simpa using h1,by simpa using h2⟩
def rLenW:fE:= .res fun l=>dI (ee (aN l) (aX l) (aY l) (aI l 1))
theorem xa {b:dJ} {i:Nat}:JX b i=true↔(b.O i 2<0\/b.O i 2>=b.O i 3\/b.O i 3>ee (b.N (b.O i 0).toNat) (b.X (b.O i 0).toNat) (b.Y (b.O i 0).toNat) ((b.O i 1).toNat:Int)\/b.O i 4<0\/b.O i 4>=b.O i 5\/b.O i 5>fb b (b.O i 0).toNat - b.fl (b.O i 0).toNat):=by unfold JX;rw [ai]
theorem oI {b:dJ} {i:Nat}:M7 b i=true↔(b.O i 0<0\/b.O i 0>=b.nS\/b.O i 1<0\/b.O i 1>=b.N (b.O i 0).toNat):=by unfold M7;rw [ai]
def Uv (b:dJ):Prop:=(∀i,i<b.nS->0<=b.fl i/\b.fl i<=1000000)/\0<=b.dr/\b.dr<=1000000
theorem Ld {b:dJ} (h:Uv b) (i:Nat):0<=fb b i/\fb b i<=1000000:=by
 unfold fb
 split
 ·exact h.1 _ (by assumption)
 ·exact h.2
noncomputable def Cw (b:dJ) (i:Nat):eH:={ dq:=[(6,[(17,rLenW),(38,Tw b)])],loops:=[(0,{ ι:=Nat,keep:=[4,82,83],boxes:=[4],ts:=fun _ j=>[(84,dI (j:Int))],inv:=fun _ j=>j<=i/\ ∀k,k<j->Fl b i k=false,mu:=fun _ j=>i - j,rd:=fun _ σ=>(eA (σ.get 84)).toNat })],dw:=[] }
namespace w1d
noncomputable section
structure Z where
 b:dJ
 i:Nat
variable (z:Z) (i0:Nat) (p:Prop) (P:List Prop) (a:Int) (k:Nat) (g h:Bool) (U:VT)
abbrev x0:=z.b.O z.i 0
abbrev x1:=if g=true then true else h
abbrev x2:=Int.toNat (x0 z)
abbrev x3:=z.b.O (Int.toNat (i0:Int)) k
abbrev x4:=decide (a<(0:Int))
abbrev x5:=z.b.O z.i 1
abbrev x6:=x4 (z.b.O z.i 2)
abbrev x7:=if g=true then h else false
abbrev x8:List Prop:=ri ((!g)=true)::P
abbrev x9:=x1 (x6 z) (decide ((z.b.O z.i 2)>=(z.b.O z.i 3)))
abbrev dC:=ee (z.b.N (x2 z)) (z.b.X (x2 z)) (z.b.Y (x2 z)) (x5 z)
abbrev dA:=x1 (x9 z) (decide ((z.b.O z.i 3)>(dC z)))
abbrev dz:=x7 (x3 z i0 (0:Nat)==x0 z) (x3 z i0 (1:Nat)==x5 z)
abbrev dG:=DV.val (Value.int IntKind.i64 a)
abbrev dL:=x1 (dA z) (x4 (z.b.O z.i 4))
abbrev dR:=x1 (dL z) (decide ((z.b.O z.i 4)>=(z.b.O z.i 5)))
abbrev dQ:=i0<z.i->rf (z.b.O i0 k)
abbrev ep:=x7 (dz z i0) (decide ((hP (x3 z i0 (2:Nat)) [z.b.O z.i 2])<(iM (x3 z i0 (3:Nat)) [z.b.O z.i 3])))
abbrev eu:List Prop:=ri (dz z i0=true)::ri (dz z i0=true)::P
abbrev eG:List Prop:=ri (ep z i0=true)::ri (ep z i0=true)::P
abbrev ez:=g=false->(!h)=true
abbrev eF:List Prop:=ri ((x3 z i0 (0:Nat)==x0 z)=true)::P
abbrev eQ:=VT.ite g (VT.done [a=o8 z.b z.i]) U
abbrev fC:=Int.toNat ((i0:Int)+1)
abbrev fM:=x8 (x8 P (x4 (x0 z))) (x4 (x0 z))
abbrev fR:=x8 (x8 P (x4 (x5 z))) (x4 (x5 z))
abbrev fj:List Prop:=((!(dR z))=true->p)::x8 (x8 P (dR z)) (dR z)
abbrev gp:=fb z.b (x2 z) - z.b.fl (x2 z)
abbrev iI:List Prop:=p::rf z.i::(∀(i0:Nat),dQ z i0 (0:Nat))::(∀(i0:Nat),dQ z i0 (1:Nat))::(∀(i0:Nat),dQ z i0 (2:Nat))::(∀(i0:Nat),dQ z i0 (3:Nat))::(∀(i0:Nat),dQ z i0 (4:Nat))::(∀(i0:Nat),dQ z i0 (5:Nat))::rf (z.i:Int)::rf (x0 z)::rf (x5 z)::rf (z.b.O z.i 2)::rf (z.b.O z.i 3)::rf (z.b.O z.i 4)::rf (z.b.O z.i 5)::P
abbrev xt:VT:=VT.da (fM z (fM z (x8 [ez (x4 (x0 z)) (x4 (x0 z))] (x4 (x0 z))))) (eQ z (6:Int) (x1 (x4 (x0 z)) (decide ((x0 z)>=(z.b.nS:Int)))) (VT.da [0<=x0 z/\x0 z<(z.b.nS:Int)] (VT.da (fR z (fR z (x8 [ez (x4 (x5 z)) (x4 (x5 z))] (x4 (x5 z))))) (eQ z (6:Int) (x1 (x4 (x5 z)) (decide ((x5 z)>=(↑(z.b.N (x2 z)):Int)))) (VT.da (x8 (x8 (x8 (x8 (ez (x6 z) (x6 z)::x8 (x8 (x8 (x8 (x8 (((!(x9 z))=true->dm prog 49 [DV.di (z.b.N (x2 z)) [fun i0=>dG (z.b.X (x2 z) i0),fun i0=>dG (z.b.Y (x2 z) i0)],dG (x5 z)] (dG (dC z)))::x8 (x8 (ez (x9 z) (x9 z)::x8 (x8 (ez (dA z) (dA z)::x8 (x8 (x8 (x8 (ez (dL z) (dL z)::x8 (x8 (x8 (x8 (fj z (dm prog 107 [DV.agg [DV.val (Value.string z.b.name),DV.di z.b.nS [fun i0=>dG (z.b.fl i0),fun i0=>DV.di (z.b.N i0) [fun i1=>dG (z.b.X i0 i1),fun i1=>dG (z.b.Y i0 i1)]],dG z.b.dr,DV.di z.b.nO [fun i0=>dG (z.b.O i0 0),fun i0=>dG (z.b.O i0 1),fun i0=>dG (z.b.O i0 2),fun i0=>dG (z.b.O i0 3),fun i0=>dG (z.b.O i0 4),fun i0=>dG (z.b.O i0 5)],DV.di z.b.nB [fun i0=>dG (z.b.B i0 0),fun i0=>dG (z.b.B i0 1),fun i0=>dG (z.b.B i0 2),fun i0=>dG (z.b.B i0 3),fun i0=>dG (z.b.B i0 4),fun i0=>dG (z.b.B i0 5)]],dG (x0 z)] (dG (fb z.b (x2 z)))) (x8 (fj z (cZ (gp z)) [ez (dR z) (dR z)]) (dR z))) (dR z)) (dR z)) (dR z)) (dR z)) (dL z)) (dL z)) (dL z)) (dL z)) (dA z)) (dA z)) (x9 z)) (x9 z)) (x9 z)) (x9 z)) (x9 z)) (x9 z)) (x9 z)) (x6 z)) (x6 z)) (x6 z)) (x6 z)) (eQ z (2:Int) (x1 (dR z) (decide ((z.b.O z.i 5)>(gp z)))) (VT.loop Nat (fun i0=>i0<=z.i/\(∀i1<i0,Fl z.b z.i i1=false)) (Int.toNat 0) (iI z (0=(↑(Int.toNat 0):Int)) []) (fun i0=>VT.ite (decide ((i0:Int)<(z.i:Int))) (VT.da [0<=(i0:Int)/\(i0:Int)<(z.i:Int)] (VT.da (eF z i0 (eF z i0 (eF z i0 (eF z i0 (eF z i0 (eu z i0 (eu z i0 (eu z i0 (eu z i0 (eu z i0 (ri (dz z i0=true)::eG z i0 (eG z i0 (eG z i0 (eG z i0 (eG z i0 [ri (ep z i0=true)]))))))))))))))) (eQ z (12:Int) (x7 (ep z i0) (decide ((hP (x3 z i0 (4:Nat)) [z.b.O z.i 4])<(iM (x3 z i0 (5:Nat)) [z.b.O z.i 5])))) (VT.da [cZ ((i0:Int)+1)] (VT.done (iI z ((i0:Int)+1=(↑(fC i0):Int)) [fC i0<=z.i/\(∀i1<fC i0,Fl z.b z.i i1=false),z.i - fC i0<z.i - i0])))))) (VT.done [0=o8 z.b z.i])))))))))
end
end w1d
open w1d in
theorem MW (b:dJ) (i:Nat) (hi:i<=1000) (hS:b.nS<=1000) (ho:xh b) (hf:Uv b):dm prog 106 [jI b,opV b i,.di i (MZ b)] (dI (o8 b i)):=by
 refine db dv (Cw b i) (V:=xt ⟨b,i⟩) (by kernel_rfl) ?_
 simp only [xt,x0,x1,x2,x3,x4,x5,x6,x7,x8,x9,dC,dA,dz,dG,dL,dR,dQ,ep,eu,eG,ez,eF,eQ,fC,fM,fR,fj,gp,iI,Rf,VT.holds,dt,Sq]
 have QS: ∀j,Fl b i j=decide (b.O j 0=b.O i 0/\b.O j 1=b.O i 1/\max (b.O j 2) (b.O i 2)<min (b.O j 3) (b.O i 3)/\max (b.O j 4) (b.O i 4)<min (b.O j 5) (b.O i 5)):=fun j=>rfl
 simp only [vf,yi]
 refine ⟨fun h=>by rw [o8,ah (oI.2 (by omega))],fun h0=>⟨by omega,fun h=>by rw [o8,ah (oI.2 (by omega))],fun h1=> ?_⟩⟩
 have e0:((b.O i 0).toNat:Int)=b.O i 0:=by omega
 have e1:((b.O i 1).toNat:Int)=b.O i 1:=by omega
 have hs:(b.O i 0).toNat<b.nS:=by omega
 have DD:=ho _ hs
 have hn:=fp DD
 obtain ⟨hX,hY⟩:=eB DD
 have hm: ¬M7 b i=true:=fun h=>by have:=oI.1 h;omega
 have hr:=xa (b:=b) (i:=i)
 rw [e1] at hr
 have ht:=Vc b (b.O i 0).toNat (by omega)
 rw [e0] at ht
 have hl:=vj (b.N (b.O i 0).toNat) (b.X (b.O i 0).toNat) (b.Y (b.O i 0).toNat) (b.O i 1) (by omega) (by omega) (by omega) (by omega) hX hY
 have b1:=Ld hf (b.O i 0).toNat
 have b2:=hf.1 _ hs
 generalize hL:ee (b.N (b.O i 0).toNat) (b.X (b.O i 0).toNat) (b.Y (b.O i 0).toNat) (b.O i 1)=L at*
 have oS:dm prog 49 [mh (b.N (b.O i 0).toNat) (b.X (b.O i 0).toNat) (b.Y (b.O i 0).toNat),dI (b.O i 1)] (dI L):=by rw [<-hL];exact hl
 refine ⟨⟨fun _=>oS,fun _=>ht,fun _=>by unfold cZ;omega⟩,fun h=>by rw [o8,ae hm,ah (hr.2 (by omega))],fun h=> ?_⟩
 have YM: ¬JX b i=true:=fun h2=>by have:=hr.1 h2;omega
 refine ⟨rfl,⟨ao _,fun k hk=>absurd hk (aF k)⟩,fun j ⟨hj,hb⟩=>⟨fun dK=>⟨⟨by omega,dK⟩,fun h2=> ?_,fun h2=>⟨by unfold cZ;omega,by omega,⟨by omega,fun k hk=> ?_⟩,by omega⟩⟩,fun iy=> ?_⟩⟩
 ·rw [o8,ae hm,ae YM,ae]
  intro fh
  have:=fh j (by omega)
  rw [QS,an] at this
  exact this ⟨h2.1.1.1,h2.1.1.2,h2.1.2,h2.2⟩
 ·rcases aU k j with h5|h5
  ·exact hb k h5
  ·rw [show k=j by omega,QS,an]
   rintro ⟨c1,c2,c3,c4⟩
   exact h2 ⟨⟨c1,c2⟩,c3⟩ c4
 ·rw [o8,ae hm,ae YM,ah (fun k hk=>hb k (by omega))]
noncomputable def Bu (b:dJ) (i:Nat):eH:={ dq:=[(2,[(6,uK),(20,uK)]),(4,[(7,uL)]),(5,[(3,Tw b)])],loops:=[(0,{ ι:=Nat,keep:=[1,2,5],boxes:=[2,5],ts:=fun _ j=>[(8,dI (j:Int))],inv:=fun _ j=>j<=i/\ ∀k,k<j->Fl b i k=false,mu:=fun _ j=>i - j,rd:=fun _ σ=>(eA (σ.get 8)).toNat })],dw:=[] }
namespace w1e
noncomputable section
structure Z where
 b:dJ
 i:Nat
variable (z:Z) (i0:Nat) (p:Prop) (P:List Prop) (a:Int) (k:Nat) (g h:Bool) (E:List DV) (U:VT)
abbrev x0:=z.b.O (Int.toNat (z.i:Int)) k
abbrev x1:=x0 z (0:Nat)
abbrev x2:=z.b.O (Int.toNat (i0:Int)) k
abbrev x3:=Int.toNat (x1 z)
abbrev x4:=if g=true then true else h
abbrev x5:=if g=true then h else false
abbrev x6:List Prop:=ri (g=true)::P
abbrev x7:=x0 z (3:Nat)
abbrev x8:=x0 z (1:Nat)
abbrev x9:=DV.val (Value.int IntKind.i64 a)
abbrev dC:=decide ((x0 z (2:Nat))<(0:Int))
abbrev dA:=z.b.N (x3 z)
abbrev dz:=x4 (dC z) (decide ((x0 z (2:Nat))>=(x7 z)))
abbrev dG:=x5 (x2 z i0 (0:Nat)==x1 z) (x2 z i0 (1:Nat)==x8 z)
abbrev dL:=decide ((0<=x1 z)/\(x1 z<=(z.b.nS:Int) - 1))
abbrev dR:=ee (dA z) (z.b.X (x3 z)) (z.b.Y (x3 z)) a
abbrev dQ:=x4 (dz z) (decide ((x7 z)>(dR z (↑(Int.toNat (x8 z)):Int))))
abbrev ep:=x5 (dG z i0) (decide ((x0 z (2:Nat))<(x2 z i0 (3:Nat))))
abbrev eu:=x6 P (!(!(dL z)))
abbrev eG:=x4 (dQ z) (decide ((x0 z (4:Nat))<(0:Int)))
abbrev ez:=i0<z.b.nO->rf (z.b.O i0 k)
abbrev eF:=i0<z.b.nB->rf (z.b.B i0 k)
abbrev eQ:=x5 (ep z i0) (decide ((x2 z i0 (2:Nat))<(x7 z)))
abbrev fC:=x0 z (5:Nat)
abbrev fM:=(i0:Int)+1
abbrev fR:=g=false->(!h)=true
abbrev fj:=x4 (eG z) (decide ((x0 z (4:Nat))>=(fC z)))
abbrev gp:=x5 (eQ z i0) (decide ((x0 z (4:Nat))<(x2 z i0 (5:Nat))))
abbrev iI:=x6 P (x2 z i0 (0:Nat)==x1 z)
abbrev ji:=VT.ite g (VT.done [a=o8 z.b z.i]) U
abbrev iq:=x6 (x6 P (!(dC z))) (!(dC z))
abbrev jj:=x6 (x6 P (!(eG z))) (!(eG z))
abbrev jv:=0<=x1 z/\x1 z<(z.b.nS:Int)
abbrev il:=fb z.b (x3 z) - z.b.fl (x3 z)
abbrev iH:List DV:=[x9 a,x9 (0:Int),x9 ((k:Int) - 1)]
abbrev lu:=dm prog 82 E (DV.val (Value.bool g))
abbrev lq:=decide ((0<=x8 z)/\(x8 z<=(↑(dA z):Int) - 1))
abbrev ku:List Prop:=p::rf (z.i:Int)::rf z.b.name::rf z.b.nS::(∀i0<z.b.nS,rf (z.b.fl i0))::(∀i0<z.b.nS,rf (z.b.N i0)/\(∀i1<z.b.N i0,rf (z.b.X i0 i1))/\(∀i1<z.b.N i0,rf (z.b.Y i0 i1)))::rf z.b.dr::rf z.b.nO::(∀(i0:Nat),ez z i0 (0:Nat))::(∀(i0:Nat),ez z i0 (1:Nat))::(∀(i0:Nat),ez z i0 (2:Nat))::(∀(i0:Nat),ez z i0 (3:Nat))::(∀(i0:Nat),ez z i0 (4:Nat))::(∀(i0:Nat),ez z i0 (5:Nat))::rf z.b.nB::(∀(i0:Nat),eF z i0 (0:Nat))::(∀(i0:Nat),eF z i0 (1:Nat))::(∀(i0:Nat),eF z i0 (2:Nat))::(∀(i0:Nat),eF z i0 (3:Nat))::(∀(i0:Nat),eF z i0 (4:Nat))::(∀(i0:Nat),eF z i0 (5:Nat))::rf (x1 z)::rf (x8 z)::rf (x0 z (2:Nat))::rf (x7 z)::rf (x0 z (4:Nat))::rf (fC z)::P
abbrev xt:VT:=VT.da [0<=(z.i:Int)/\(z.i:Int)<(z.b.nO:Int)] (VT.da (cZ ((z.b.nS:Int) - 1)::lu (dL z) (iH (x1 z) z.b.nS)::eu z (eu z (eu z (eu z (eu z (((!(!(dL z)))=true->jv z)::eu z (eu z (eu z (eu z (((!(!(dL z)))=true->cZ ((↑(dA z):Int) - 1))::eu z (eu z (((!(!(dL z)))=true->lu (lq z) (iH (x8 z) (dA z)))::eu z [fR (!(dL z)) (!(dL z))])))))))))))) (ji z (6:Int) (x4 (!(dL z)) (!(lq z))) (VT.da [jv z,dm prog 131 [DV.di (dA z) [fun i0=>x9 (z.b.X (x3 z) i0),fun i0=>x9 (z.b.Y (x3 z) i0)]] (DV.di (dA z) [fun i0=>x9 (z.b.X (x3 z) i0),fun i0=>x9 (z.b.Y (x3 z) i0),fun i0=>x9 (z.b.X (x3 z) (ix (dA z) (fM i0))),fun i0=>x9 (z.b.Y (x3 z) (ix (dA z) (fM i0))),fun i0=>x9 (dR z (i0:Int)),fun i0=>x9 (dD (dA z) (z.b.X (x3 z)) (z.b.Y (x3 z)) (i0:Int))]),0<=x8 z/\x8 z<(↑(dA z):Int)] (VT.da [dm prog 132 [DV.agg [DV.val (Value.string z.b.name),DV.di z.b.nS [fun i0=>x9 (z.b.fl i0),fun i0=>DV.di (z.b.N i0) [fun i1=>x9 (z.b.X i0 i1),fun i1=>x9 (z.b.Y i0 i1)]],x9 z.b.dr,DV.di z.b.nO [fun i0=>x9 (z.b.O i0 0),fun i0=>x9 (z.b.O i0 1),fun i0=>x9 (z.b.O i0 2),fun i0=>x9 (z.b.O i0 3),fun i0=>x9 (z.b.O i0 4),fun i0=>x9 (z.b.O i0 5)],DV.di z.b.nB [fun i0=>x9 (z.b.B i0 0),fun i0=>x9 (z.b.B i0 1),fun i0=>x9 (z.b.B i0 2),fun i0=>x9 (z.b.B i0 3),fun i0=>x9 (z.b.B i0 4),fun i0=>x9 (z.b.B i0 5)]],x9 (x1 z)] (x9 (fb z.b (x3 z))),jv z,cZ (il z)] (VT.da (iq z (iq z (fR (dC z) (dC z)::x6 (x6 (x6 (fR (dz z) (dz z)::x6 (x6 (fR (dQ z) (dQ z)::jj z (jj z (fR (eG z) (eG z)::x6 (x6 (x6 [fR (fj z) (fj z)] (!(fj z))) (!(fj z))) (!(fj z))))) (!(dQ z))) (!(dQ z))) (!(dz z))) (!(dz z))) (!(dz z))))) (ji z (2:Int) (x4 (fj z) (decide ((fC z)>(il z)))) (VT.loop Nat (fun i0=>i0<=z.i/\(∀i1<i0,Fl z.b z.i i1=false)) (Int.toNat 0) (ku z (0=(↑(Int.toNat 0):Int)) []) (fun i0=>VT.ite (decide ((i0:Int)<(z.i:Int))) (VT.da [0<=(i0:Int)/\(i0:Int)<(z.b.nO:Int)] (VT.da (iI z i0 (iI z i0 (iI z i0 (iI z i0 (iI z i0 (x6 (x6 (x6 (x6 (x6 (x6 (x6 (x6 (x6 (x6 (x6 (x6 (x6 (x6 (x6 (x6 (x6 (x6 (x6 (x6 [] (gp z i0)) (gp z i0)) (gp z i0)) (gp z i0)) (gp z i0)) (eQ z i0)) (eQ z i0)) (eQ z i0)) (eQ z i0)) (eQ z i0)) (ep z i0)) (ep z i0)) (ep z i0)) (ep z i0)) (ep z i0)) (dG z i0)) (dG z i0)) (dG z i0)) (dG z i0)) (dG z i0))))))) (ji z (12:Int) (x5 (gp z i0) (decide ((x2 z i0 (4:Nat))<(fC z)))) (VT.da [cZ (fM i0)] (VT.done (ku z (fM i0=(↑(Int.toNat (fM i0)):Int)) [Int.toNat (fM i0)<=z.i/\(∀i1<Int.toNat (fM i0),Fl z.b z.i i1=false),z.i - Int.toNat (fM i0)<z.i - i0])))))) (VT.done [0=o8 z.b z.i])))))))))
end
end w1e
open w1e in
theorem J1 (b:dJ) (i:Nat) (hi:i<b.nO) (hO:b.nO<=1000) (hS:b.nS<=1000) (ho:xh b) (hf:Uv b) (jq: ∀j,j<i->o8 b j=0):dm prog 85 [jI b,dI (i:Int)] (dI (o8 b i)):=by
 refine db dv (Bu b i) (V:=xt ⟨b,i⟩) (by kernel_rfl) ?_
 simp only [xt,x0,x1,x2,x3,x4,x5,x6,x7,x8,x9,dC,dA,dz,dG,dL,dR,dQ,ep,eu,eG,ez,eF,eQ,fC,fM,fR,fj,gp,iI,ji,iq,jj,jv,il,iH,lu,lq,ku,Rf,VT.holds,dt,Sq]
 have QS: ∀j,Fl b i j=decide (b.O j 0=b.O i 0/\b.O j 1=b.O i 1/\max (b.O j 2) (b.O i 2)<min (b.O j 3) (b.O i 3)/\max (b.O j 4) (b.O i 4)<min (b.O j 5) (b.O i 5)):=fun j=>rfl
 have hN:0<=b.O i 0->b.O i 0<b.nS->b.N (b.O i 0).toNat<=40:=fun h1 h2=>(fp (ho (b.O i 0).toNat (by omega))).2
 refine ⟨⟨by omega,by omega⟩,⟨by unfold cZ;omega,iz _ _ _,fun h=>by omega,fun h=>by have:=hN (by omega) (by omega);unfold cZ;omega,fun _=>iz _ _ _⟩,fun h=>by rw [o8,ah (oI.2 (by omega))],fun h=> ?_⟩
 have e0:((b.O i 0).toNat:Int)=b.O i 0:=by omega
 have e1:((b.O i 1).toNat:Int)=b.O i 1:=by omega
 have hs:(b.O i 0).toNat<b.nS:=by omega
 have DD:=ho _ hs
 have hn:=fp DD
 have hm: ¬M7 b i=true:=fun h=>by have:=oI.1 h;omega
 have hr:=xa (b:=b) (i:=i)
 have ht:=Pd b (b.O i 0).toNat (by omega)
 rw [e0] at ht
 have b1:=Ld hf (b.O i 0).toNat
 have b2:=hf.1 _ hs
 have hw:=qD _ _ _ DD
 refine ⟨⟨by omega,hw,by omega⟩,⟨ht,by omega,by unfold cZ;omega⟩,fun h=>by rw [o8,ae hm,ah (hr.2 (by omega))],fun h=> ?_⟩
 have YM: ¬JX b i=true:=fun h2=>by have:=hr.1 h2;omega
 refine ⟨rfl,⟨ao _,fun k hk=>absurd hk (aF k)⟩,fun j ⟨hj,hb⟩=>⟨fun dK=> ?_,fun iy=> ?_⟩⟩
 ·have hpj: ¬JX b j=true:=by rw [(PT (jq j (by omega))).2];simp
  rw [xa] at hpj
  refine ⟨⟨by omega,by omega⟩,fun h2=> ?_,fun h2=>⟨by unfold cZ;omega,by omega,⟨by omega,fun k hk=> ?_⟩,by omega⟩⟩
  ·rw [o8,ae hm,ae YM,ae]
   intro fh
   have:=fh j (by omega)
   rw [QS,an] at this
   exact this (by omega)
  ·rcases aU k j with h5|h5
   ·exact hb k h5
   ·rw [show k=j by omega,QS,an]
    omega
 ·rw [o8,ae hm,ae YM,ah (fun k hk=>hb k (by omega))]
end Go.Abs
end
section
set_option maxRecDepth 100000
namespace Go.Abs
open Go
def Zy (b:dJ) (i:Nat):Int:=mb (b.B i 0) (b.B i 1) (b.B i 2) (b.B i 3) (b.B i 4) (b.B i 5)
def blI (b:dJ) (i:Nat):Bool:=jh b (b.B i 0) (b.B i 1) (b.B i 2) (b.B i 3) (b.B i 4) (b.B i 5)
def qJ (b:dJ):Bool:=decide (b.nS<1\/b.nS>20\/b.nO>100\/b.nB>50)
def Fu (b:dJ) (i:Nat):Int:=if Zy b i≠0 then Zy b i else if blI b i=true then 12 else 0
def wZ (b:dJ):Bool:=decide (b.dr<=b.fl (b.nS - 1)\/b.dr>1000000)
def fA (b:dJ):Int:=if iX b.name=false then 4 else if qJ b=true then 11 else if fY (pg b) b.nS≠0 then fY (pg b) b.nS else if wZ b=true then 2 else if fY (o8 b) b.nO≠0 then fY (o8 b) b.nO else fY (Fu b) b.nB
theorem mr {b:dJ}:qJ b=true↔(b.nS<1\/b.nS>20\/b.nO>100\/b.nB>50):=by unfold qJ;rw [ai]
theorem oD {b:dJ}:wZ b=true↔(b.dr<=b.fl (b.nS - 1)\/b.dr>1000000):=by unfold wZ;rw [ai]
theorem mA {b:dJ} (h1:qJ b=false) (h2: ∀i,i<b.nS->pg b i=0) (h3:wZ b=false):xh b/\Uv b/\ ∀i,i<b.nS->b.fl i<fb b i:=by
 have s1: ¬(b.nS<1\/b.nS>20\/b.nO>100\/b.nB>50):=fun h=>by rw [mr.2 h] at h1;cases h1
 have s2: ¬(b.dr<=b.fl (b.nS - 1)\/b.dr>1000000):=fun h=>by rw [oD.2 h] at h3;cases h3
 obtain ⟨o1,o2,o3⟩:=st_ok h2
 have hl:=o2 (b.nS - 1) (by omega)
 refine ⟨o1,⟨o2,by omega,by omega⟩,fun i hi=> ?_⟩
 unfold fb
 split
 ·exact o3 i (by assumption)
 ·rw [show i=b.nS - 1 by omega];omega
theorem mD {b:dJ} (h:fA b=0):iX b.name=true/\qJ b=false/\(∀i,i<b.nS->pg b i=0)/\wZ b=false/\(∀i,i<b.nO->o8 b i=0)/\(∀i,i<b.nB->Fu b i=0):=by
 unfold fA at h
 split at h
 ·cases h
 ·rename_i a1
  split at h
  ·cases h
  ·rename_i a2
   split at h
   ·rename_i a3;exact absurd h a3
   ·rename_i a3
    split at h
    ·cases h
    ·rename_i a4
     split at h
     ·rename_i a5;exact absurd h a5
     ·rename_i a5
      exact ⟨by simpa using a1,by simpa using a2,ki (ca.1 a3),by simpa using a4,ki (ca.1 a5),ki h⟩
def GY (b:dJ):fE:= .res fun _=>dI (fA b)
def Yh (b:dJ):fE:= .res fun l=>dB (jh b (fI 0 (arg l 1)) (fI 1 (arg l 1)) (fI 2 (arg l 1)) (fI 3 (arg l 1)) (fI 4 (arg l 1)) (fI 5 (arg l 1)))
section
variable {b:dJ}
theorem H9 (h:iX b.name=false):fA b=4:=by rw [fA,ah h]
theorem DS (h:iX b.name=true) (h1:qJ b=true):fA b=11:=by rw [fA,ae (by rw [h];simp),ah h1]
theorem DT (h:iX b.name=true) (h1:qJ b=false) (h2:fY (pg b) b.nS≠0):fA b=fY (pg b) b.nS:=by
 rw [fA,ae (by rw [h];simp),ae (by rw [h1];simp),ah h2]
theorem KD (h:iX b.name=true) (h1:qJ b=false) {i:Nat} (hi:i<b.nS) (h2: ∀j,j<i->pg b j=0) (h3:pg b i≠0):fA b=pg b i:=by
 have e:=kj h2 h3 hi
 rw [DT h h1 (by rw [e];exact h3),e]
theorem H8 (h:iX b.name=true) (h1:qJ b=false) (h2: ∀j,j<b.nS->pg b j=0) (h3:wZ b=true):fA b=2:=by
 rw [fA,ae (by rw [h];simp),ae (by rw [h1];simp),ae (by rw [gH h2];simp),ah h3]
theorem RP (h:iX b.name=true) (h1:qJ b=false) (h2: ∀j,j<b.nS->pg b j=0) (h3:wZ b=false) {i:Nat} (hi:i<b.nO) (h4: ∀j,j<i->o8 b j=0) (h5:o8 b i≠0):fA b=o8 b i:=by
 have e:=kj h4 h5 hi
 rw [fA,ae (by rw [h];simp),ae (by rw [h1];simp),ae (by rw [gH h2];simp),ae (by rw [h3];simp),ah (by rw [e];exact h5),e]
theorem Fm (h:iX b.name=true) (h1:qJ b=false) (h2: ∀j,j<b.nS->pg b j=0) (h3:wZ b=false) (h4: ∀j,j<b.nO->o8 b j=0):fA b=fY (Fu b) b.nB:=by
 rw [fA,ae (by rw [h];simp),ae (by rw [h1];simp),ae (by rw [gH h2];simp),ae (by rw [h3];simp),ae (by rw [gH h4];simp)]
theorem Fo (h:iX b.name=true) (h1:qJ b=false) (h2: ∀j,j<b.nS->pg b j=0) (h3:wZ b=false) (h4: ∀j,j<b.nO->o8 b j=0) {i:Nat} (hi:i<b.nB) (h5: ∀j,j<i->Fu b j=0) (h6:Fu b i≠0):fA b=Fu b i:=by
 rw [Fm h h1 h2 h3 h4,kj h5 h6 hi]
theorem Wc {i:Nat} (h:Zy b i≠0):Fu b i=Zy b i:=by rw [Fu,ah h]
theorem Wb {i:Nat} (h:Zy b i=0) (h2:blI b i=true):Fu b i=12:=by rw [Fu,ae (by rw [h];simp),ah h2]
theorem Wa {i:Nat} (h:Zy b i=0) (h2:blI b i=false):Fu b i=0:=by rw [Fu,ae (by rw [h];simp),ae (by rw [h2];simp)]
theorem upto {P:Nat->Prop} {i:Nat} (h: ∀j,j<i->P j) (hi:P i): ∀j,j<i+1->P j:=fun j hj=>by
 rcases aU j i with h1|h1
 ·exact h j h1
 ·rw [show j=i by omega];exact hi
end
noncomputable def IW (b:dJ):eH:={ dq:=[(1,[(2,PF b)]),(5,[(2,.res fun _=>dI (fY (pg b) b.nS))]),(13,[(6,.res fun l=>dI (o8 b (lenOf (arg l 2))))]),(20,[(1,PJ)]),(23,[(2,Yh b)])],loops:=[(0,{ ι:=Nat,keep:=[1,60,61],boxes:=[1],ts:=fun _ i=>[(62,dI (i:Int))],inv:=fun _ i=>i<=b.nO/\ ∀j,j<i->o8 b j=0,mu:=fun _ i=>b.nO - i,rd:=fun _ σ=>(eA (σ.get 62)).toNat }),(2,{ ι:=Nat,keep:=[1,79,80],boxes:=[1],ts:=fun _ i=>[(81,dI (i:Int))],inv:=fun _ i=>i<=b.nB/\ ∀j,j<i->Fu b j=0,mu:=fun _ i=>b.nB - i,rd:=fun _ σ=>(eA (σ.get 81)).toNat })],dw:=[] }
namespace w1f
noncomputable section
variable (z:dJ) (i0:Nat) (p:Prop) (P:List Prop) (a:Int) (k:Nat) (g h:Bool) (U:VT) (xr:List Value)
abbrev x0:=Int.toNat (i0:Int)
abbrev x1:=DV.val (Value.int IntKind.i64 a)
abbrev x2:=z.B (x0 i0) k
abbrev x3:=i0<z.nO->rf (z.O i0 k)
abbrev x4:=i0<z.nB->rf (z.B i0 k)
abbrev x5:=if g=true then true else h
abbrev x6:=decide ((z.nS:Int)<(1:Int))
abbrev x7:=Int.toNat 0
abbrev x8:List Value:=Value.int IntKind.i64 (x2 z i0 k)::xr
abbrev x9:Int:=(z.nO:Int)
abbrev dC:List Prop:=ri ((!g)=true)::P
abbrev dA:=x5 (x6 z) (decide ((z.nS:Int)>(20:Int)))
abbrev dz:=VT.da [p] U
abbrev dG:=Int.toNat ((i0:Int)+1)
abbrev dL:=(z.nS:Int) - 1
abbrev dR:=VT.ite g (VT.done [a=fA z]) U
abbrev dQ:= ∀(i0:Nat),x4 z i0 (5:Nat)
abbrev ep:List Value:=Value.int IntKind.i64 (z.O (x0 i0) k)::xr
abbrev eu:=x1 (z.O (i0+x7) k)
abbrev eG:=x5 (dA z) (decide ((x9 z)>(100:Int)))
abbrev ez:List Prop:=rf z.nO::(∀(i0:Nat),x3 z i0 (0:Nat))::(∀(i0:Nat),x3 z i0 (1:Nat))::(∀(i0:Nat),x3 z i0 (2:Nat))::(∀(i0:Nat),x3 z i0 (3:Nat))::(∀(i0:Nat),x3 z i0 (4:Nat))::(∀(i0:Nat),x3 z i0 (5:Nat))::P
abbrev eF:List Prop:=rf z.nB::(∀(i0:Nat),x4 z i0 (0:Nat))::(∀(i0:Nat),x4 z i0 (1:Nat))::(∀(i0:Nat),x4 z i0 (2:Nat))::(∀(i0:Nat),x4 z i0 (3:Nat))::(∀(i0:Nat),x4 z i0 (4:Nat))::P
abbrev eQ:=decide (z.dr<=(z.fl (Int.toNat (dL z))))
abbrev fC:=g=false->(!h)=true
abbrev fM:List Prop:=rf a::rf z.name::rf z.nS::(∀i0<z.nS,rf (z.fl i0))::(∀i0<z.nS,rf (z.N i0)/\(∀i1<z.N i0,rf (z.X i0 i1))/\(∀i1<z.N i0,rf (z.Y i0 i1)))::rf z.dr::ez z (eF z P)
abbrev fR:=o8 z (x0 i0 - x7)
abbrev fj:=DV.val (Value.string z.name)
abbrev gp:=DV.val (Value.agg (Array.mk xr))
abbrev iI:=DV.di z.nS [fun i0=>x1 (z.fl i0),fun i0=>DV.di (z.N i0) [fun i1=>x1 (z.X i0 i1),fun i1=>x1 (z.Y i0 i1)]]
abbrev ji:=fY (pg z) z.nS
abbrev iq:=mb (x2 z i0 (0:Nat)) (x2 z i0 (1:Nat)) (x2 z i0 (2:Nat)) (x2 z i0 (3:Nat)) (x2 z i0 (4:Nat)) (x2 z i0 (5:Nat))
abbrev jj:=dz (0<=(i0:Int)/\(i0:Int)<a) U
abbrev jv:=dz (cZ ((i0:Int)+1)) (VT.done P)
abbrev il:=(i0:Int)+1=(↑(dG i0):Int)
abbrev iH:=gp (x8 z i0 (0:Nat) (x8 z i0 (1:Nat) (x8 z i0 (2:Nat) (x8 z i0 (3:Nat) (x8 z i0 (4:Nat) (x8 z i0 (5:Nat) []))))))
abbrev lu:=DV.agg [fj z,iI z,x1 z.dr,DV.di z.nO [fun i0=>x1 (z.O i0 0),fun i0=>x1 (z.O i0 1),fun i0=>x1 (z.O i0 2),fun i0=>x1 (z.O i0 3),fun i0=>x1 (z.O i0 4),fun i0=>x1 (z.O i0 5)],DV.di z.nB [fun i0=>x1 (z.B i0 0),fun i0=>x1 (z.B i0 1),fun i0=>x1 (z.B i0 2),fun i0=>x1 (z.B i0 3),fun i0=>x1 (z.B i0 4),fun i0=>x1 (z.B i0 5)]]
abbrev lq:=jh z (x2 z i0 (0:Nat)) (x2 z i0 (1:Nat)) (x2 z i0 (2:Nat)) (x2 z i0 (3:Nat)) (x2 z i0 (4:Nat)) (x2 z i0 (5:Nat))
abbrev xt:VT:=dz (dm prog 104 [fj z] (DV.val (Value.bool (iX z.name)))) (dR z (4:Int) (!(iX z.name)) (VT.da (dC (dC (dC (fC (x6 z) (x6 z)::dC (dC (dC (fC (dA z) (dA z)::dC (dC (dC [fC (eG z) (eG z)] (eG z)) (eG z)) (eG z)) (dA z)) (dA z)) (dA z)) (x6 z)) (x6 z)) (x6 z)) (dR z (11:Int) (x5 (eG z) (decide ((z.nB:Int)>(50:Int)))) (dz (dm prog 105 [iI z] (x1 (ji z))) (dR z (ji z) (ji z !=0) (VT.da (cZ (dL z)::(0<=dL z/\dL z<(z.nS:Int))::dC (dC [fC (eQ z) (eQ z)] (eQ z)) (eQ z)) (dR z (2:Int) (x5 (eQ z) (decide (z.dr>(1000000:Int)))) (VT.loop Nat (fun i0=>i0<=z.nO/\(∀i1<i0,o8 z i1=0)) x7 ((0=(x7:Int))::ez z (fM z [dQ z] (x9 z))) (fun i0=>VT.ite (decide ((i0:Int)<(x9 z))) (jj i0 (x9 z) (VT.da [(0:Int)<=(0:Int)/\0<=(i0:Int)/\(i0:Int)<=x9 z,dm prog 106 [lu z,gp (ep z i0 (0:Nat) (ep z i0 (1:Nat) (ep z i0 (2:Nat) (ep z i0 (3:Nat) (ep z i0 (4:Nat) (ep z i0 (5:Nat) [])))))),DV.di (x0 i0 - x7) [fun i0=>eu z i0 (0:Nat),fun i0=>eu z i0 (1:Nat),fun i0=>eu z i0 (2:Nat),fun i0=>eu z i0 (3:Nat),fun i0=>eu z i0 (4:Nat),fun i0=>eu z i0 (5:Nat)]] (x1 (fR z i0))] (dR z (fR z i0) (fR z i0 !=0) (jv i0 (il i0::ez z (fM z [dQ z,dG i0<=z.nO/\(∀i1<dG i0,o8 z i1=0),z.nO - dG i0<z.nO - i0] (x9 z))))))) (VT.loop Nat (fun i0=>i0<=z.nB/\(∀i1<i0,Fu z i1=0)) x7 ((0=(x7:Int))::eF z (dQ z::fM z [dQ z] (z.nB:Int))) (fun i0=>VT.ite (decide ((i0:Int)<(z.nB:Int))) (jj i0 (z.nB:Int) (dz (dm prog 42 [iH z i0] (x1 (iq z i0))) (dR z (iq z i0) (iq z i0 !=0) (dz (dm prog 43 [lu z,iH z i0] (DV.val (Value.bool (lq z i0)))) (dR z (12:Int) (lq z i0) (jv i0 (il i0::eF z (dQ z::fM z [dQ z,dG i0<=z.nB/\(∀i1<dG i0,Fu z i1=0),z.nB - dG i0<z.nB - i0] (z.nB:Int))))))))) (VT.done [0=fA z]))))))))))))
end
end w1f
open w1f in
theorem zh (b:dJ) (hN: ∀i,i<b.nS->b.N i<=1000):dm prog 41 [jI b] (dI (fA b)):=by
 refine db dv (IW b) (V:=xt b) (by kernel_rfl) ?_
 simp only [xt,x0,x1,x2,x3,x4,x5,x6,x7,x8,x9,dC,dA,dz,dG,dL,dR,dQ,ep,eu,eG,ez,eF,eQ,fC,fM,fR,fj,gp,iI,ji,iq,jj,jv,il,iH,lu,lq,Rf,VT.holds,dt,Sq]
 simp only [bM]
 refine ⟨Qs b.name,fun h=>(H9 h).symm,fun hn=>⟨fun h=>(DS hn (mr.2 (by omega))).symm,fun h=> ?_⟩⟩
 have hs:qJ b=false:=by
  cases h1:qJ b with
  |false=>rfl
  |true=>have:=mr.1 h1;omega
 refine ⟨Be b (by omega) hN,fun h1=>(DT hn hs h1).symm,fun h1=> ?_⟩
 have pF:=ki h1
 have e1:((b.nS:Int) - 1).toNat=b.nS - 1:=by omega
 rw [e1]
 refine ⟨⟨by unfold cZ;omega,by omega,by omega⟩,fun h2=>(H8 hn hs pF (oD.2 h2)).symm,fun h2=> ?_⟩
 have hr:wZ b=false:=by
  cases h3:wZ b with
  |false=>rfl
  |true=>have:=oD.1 h3;omega
 obtain ⟨f1,f2,f3⟩:=mA hs pF hr
 refine ⟨rfl,⟨ao _,fun j hj=>absurd hj (aF j)⟩,fun i ⟨hi,hb⟩=>⟨fun dK=>⟨⟨by omega,dK⟩,⟨⟨cO _,by omega,by omega⟩,MW b i (by omega) (by omega) f1 f2⟩,fun h3=>(RP hn hs pF hr (by omega) hb h3).symm,fun h3=>⟨by unfold cZ;omega,by omega,⟨by omega,upto hb h3⟩,by omega⟩⟩,fun iy=> ?_⟩⟩
 have np: ∀j,j<b.nO->o8 b j=0:=fun j hj=>hb j (by omega)
 refine ⟨rfl,⟨ao _,fun j hj=>absurd hj (aF j)⟩,fun k ⟨hk,hU⟩=>⟨fun dK=>⟨⟨by omega,dK⟩,pT _ _ _ _ _ _,fun h3=> ?_,fun h3=>⟨Ik b _ _ _ _ _ _ (by omega) f1 h3,fun h4=> ?_,fun h4=>⟨by unfold cZ;omega,by omega,⟨by omega,upto hU (Wa h3 h4)⟩,by omega⟩⟩⟩,fun No=> ?_⟩⟩
 ·have e:=Wc (b:=b) (i:=k) h3
  rw [Fo hn hs pF hr np (by omega) hU (by rw [e];exact h3),e];rfl
 ·have e:=Wb (b:=b) (i:=k) h3 h4
  rw [Fo hn hs pF hr np (by omega) hU (by rw [e];simp),e]
 ·rw [Fm hn hs pF hr np,gH (fun j hj=>hU j (by omega))]
noncomputable def F6 (b:dJ):eH:={ dq:=[(1,[(2,PF b)]),(3,[(3,uK)]),(9,[(2,zV)]),(14,[(12,rCov)]),(21,[(2,.res fun l=>dI (o8 b (aI l 1).toNat))]),(27,[(5,PJ)]),(30,[(6,Yh b)])],loops:=[(0,{ ι:=Nat,keep:=[1],boxes:=[1],ts:=fun _ i=>[(3,dI (i:Int))],inv:=fun _ i=>i<=b.nS/\ ∀j,j<i->pg b j=0,mu:=fun _ i=>b.nS - i,rd:=fun _ σ=>(eA (σ.get 3)).toNat }),(2,{ ι:=Nat,keep:=[1],boxes:=[1],ts:=fun _ i=>[(6,dI (i:Int))],inv:=fun _ i=>i<=b.nO/\ ∀j,j<i->o8 b j=0,mu:=fun _ i=>b.nO - i,rd:=fun _ σ=>(eA (σ.get 6)).toNat }),(4,{ ι:=Nat,keep:=[1],boxes:=[1],ts:=fun _ i=>[(8,dI (i:Int))],inv:=fun _ i=>i<=b.nB/\ ∀j,j<i->Fu b j=0,mu:=fun _ i=>b.nB - i,rd:=fun _ σ=>(eA (σ.get 8)).toNat })],dw:=[] }
namespace w1g
noncomputable section
variable (z:dJ) (i0:Nat) (p q:Prop) (P:List Prop) (a:Int) (k:Nat) (g h:Bool) (A:DV) (E:List DV) (U V:VT) (mR:Nat->Prop) (tA:Nat->VT) (xr:List Value)
abbrev x0:Int:=(i0:Int)
abbrev x1:=Int.toNat (x0 i0)
abbrev x2:=DV.val (Value.int IntKind.i64 a)
abbrev x3:=z.B (x1 i0) k
abbrev x4:Int:=(z.nS:Int)
abbrev x5:List Prop:=ri (g=true)::P
abbrev x6:=i0<z.nO->rf (z.O i0 k)
abbrev x7:=i0<z.nB->rf (z.B i0 k)
abbrev x8:=decide ((x0 i0)>(0:Int))
abbrev x9:=if (x0 i0==0)=true then (z.fl (x1 i0) !=0) else false
abbrev dC:=Int.toNat (x0 i0 - 1)
abbrev dA:=if g=true then true else h
abbrev dz:=Int.toNat (x0 i0+1)
abbrev dG:=(!(x9 z i0))&&(x8 i0)
abbrev dL:List Value:=Value.int IntKind.i64 (x3 z i0 k)::xr
abbrev dR:=decide ((1<=x4 z)/\(x4 z<=20))
abbrev dQ:=VT.ite g (VT.done [a=fA z]) U
abbrev ep:=x5 (x5 P (x8 i0)) (x8 i0)
abbrev eu:= ∀(i0:Nat),x7 z i0 (4:Nat)
abbrev eG:= ∀(i0:Nat),x7 z i0 (5:Nat)
abbrev ez:=if (x8 i0)=true then g else false
abbrev eF:=x5 (x5 P (dG z i0)) (dG z i0)
abbrev eQ:=dA (!(dR z)) (decide ((z.nO:Int)>(100:Int)))
abbrev fC:List Prop:=p::rf z.name::rf z.nS::(∀i0<z.nS,rf (z.fl i0))::(∀i0<z.nS,rf (z.N i0)/\(∀i1<z.N i0,rf (z.X i0 i1))/\(∀i1<z.N i0,rf (z.Y i0 i1)))::rf z.dr::rf z.nO::(∀(i0:Nat),x6 z i0 (0:Nat))::(∀(i0:Nat),x6 z i0 (1:Nat))::(∀(i0:Nat),x6 z i0 (2:Nat))::(∀(i0:Nat),x6 z i0 (3:Nat))::(∀(i0:Nat),x6 z i0 (4:Nat))::(∀(i0:Nat),x6 z i0 (5:Nat))::rf z.nB::(∀(i0:Nat),x7 z i0 (0:Nat))::(∀(i0:Nat),x7 z i0 (1:Nat))::(∀(i0:Nat),x7 z i0 (2:Nat))::(∀(i0:Nat),x7 z i0 (3:Nat))::P
abbrev fM:=decide (z.dr<=(z.fl (Int.toNat (x4 z - 1))))
abbrev fR:=dA (x9 z i0) (ez i0 (decide ((z.fl (x1 i0))<=(z.fl (dC i0)))))
abbrev fj:=dm prog k E (DV.val (Value.bool g))
abbrev gp:=VT.ite (decide ((x0 i0)<a)) U V
abbrev iI:List Prop:=(x8 i0=true->p)::ep i0 P
abbrev ji:=DV.val (Value.string z.name)
abbrev iq:=gz (z.N (x1 i0)) (z.X (x1 i0)) (z.Y (x1 i0))
abbrev jj:=VT.loop Nat mR (Int.toNat 0) (fC z (0=(↑(Int.toNat 0):Int)) [eu z,eG z]) tA
abbrev jv:=VT.da [cZ (x0 i0+1)] (VT.done (fC z (x0 i0+1=(↑(dz i0):Int)) [eu z,eG z,p,q]))
abbrev il:=mb (x3 z i0 (0:Nat)) (x3 z i0 (1:Nat)) (x3 z i0 (2:Nat)) (x3 z i0 (3:Nat)) (x3 z i0 (4:Nat)) (x3 z i0 (5:Nat))
abbrev iH:=dA g (decide (a>(1000000:Int)))
abbrev lu:=VT.da [0<=x0 i0/\x0 i0<(z.nB:Int),p] U
abbrev lq:=0<=x0 i0 - 1/\x0 i0 - 1<x4 z
abbrev ku:=DV.di (z.N (x1 i0)) [fun i1=>x2 (z.X (x1 i0) i1),fun i1=>x2 (z.Y (x1 i0) i1)]
abbrev qq:=DV.val (Value.agg (Array.mk (dL z i0 (0:Nat) (dL z i0 (1:Nat) (dL z i0 (2:Nat) (dL z i0 (3:Nat) (dL z i0 (4:Nat) (dL z i0 (5:Nat) []))))))))
abbrev nm:List DV:=[DV.agg [ji z,DV.di z.nS [fun i0=>x2 (z.fl i0),fun i0=>DV.di (z.N i0) [fun i1=>x2 (z.X i0 i1),fun i1=>x2 (z.Y i0 i1)]],x2 z.dr,DV.di z.nO [fun i0=>x2 (z.O i0 0),fun i0=>x2 (z.O i0 1),fun i0=>x2 (z.O i0 2),fun i0=>x2 (z.O i0 3),fun i0=>x2 (z.O i0 4),fun i0=>x2 (z.O i0 5)],DV.di z.nB [fun i0=>x2 (z.B i0 0),fun i0=>x2 (z.B i0 1),fun i0=>x2 (z.B i0 2),fun i0=>x2 (z.B i0 3),fun i0=>x2 (z.B i0 4),fun i0=>x2 (z.B i0 5)]],A]
abbrev nA:=nu (z.N (dC i0)) (z.X (dC i0)) (z.Y (dC i0)) (z.N (x1 i0)) (z.X (x1 i0)) (z.Y (x1 i0))
abbrev uh:=jh z (x3 z i0 (0:Nat)) (x3 z i0 (1:Nat)) (x3 z i0 (2:Nat)) (x3 z i0 (3:Nat)) (x3 z i0 (4:Nat)) (x3 z i0 (5:Nat))
abbrev xt:VT:=VT.da [fj (81:Nat) (iX z.name) [ji z]] (dQ z (4:Int) (!(iX z.name)) (VT.da (fj (82:Nat) (dR z) [x2 (x4 z),x2 (1:Int),x2 (20:Int)]::x5 (x5 (x5 (((!(dR z))=false->(!(!(dR z)))=true)::x5 (x5 (x5 [eQ z=false->(!(eQ z))=true] (!(eQ z))) (!(eQ z))) (!(eQ z))) (!(!(dR z)))) (!(!(dR z)))) (!(!(dR z)))) (dQ z (11:Int) (dA (eQ z) (decide ((z.nB:Int)>(50:Int)))) (jj z (fun i0=>i0<=z.nS/\(∀i1<i0,pg z i1=0)) (fun i0=>gp i0 (x4 z) (VT.da [0<=x0 i0/\x0 i0<x4 z] (VT.da [dm prog 83 [ku z i0] (x2 (iq z i0))] (dQ z (iq z i0) (iq z i0 !=0) (VT.da (x5 (x5 (x5 (x5 (x5 (eF z i0 (x5 ((dG z i0=true->cZ (x0 i0 - 1))::eF z i0 ((dG z i0=true->lq z i0)::eF z i0 (eF z i0 (x5 (((!(x9 z i0))=true->x8 i0=true->dG z i0=true)::(x9 z i0=false->(!(x9 z i0))=true)::x5 (x5 [fR z i0=false->(!(fR z i0))=true] (!(fR z i0))) (!(fR z i0))) (!(x9 z i0)))))) (dG z i0))) (!(x9 z i0))) (!(x9 z i0))) (x0 i0==0)) (x0 i0==0)) (x0 i0==0)) (dQ z (10:Int) (iH (z.fl (x1 i0)) (fR z i0)) (VT.da (ep i0 (iI i0 (cZ (x0 i0 - 1)) (iI i0 (lq z i0) (ep i0 (x5 (iI i0 (fj (84:Nat) (nA z i0) [DV.di (z.N (dC i0)) [fun i1=>x2 (z.X (dC i0) i1),fun i1=>x2 (z.Y (dC i0) i1)],ku z i0]) []) (x8 i0)))))) (dQ z (12:Int) (ez i0 (!(nA z i0))) (jv z i0 (dz i0<=z.nS/\(∀i1<dz i0,pg z i1=0)) (z.nS - dz i0<z.nS - i0))))))))) (VT.da (cZ (x4 z - 1)::(0<=x4 z - 1/\x4 z - 1<x4 z)::x5 (x5 [fM z=false->(!(fM z))=true] (!(fM z))) (!(fM z))) (dQ z (2:Int) (iH z.dr (fM z)) (jj z (fun i0=>i0<=z.nO/\(∀i1<i0,o8 z i1=0)) (fun i0=>gp i0 (z.nO:Int) (VT.da [dm prog 85 (nm z (x2 (x0 i0))) (x2 (o8 z (x1 i0)))] (dQ z (o8 z (x1 i0)) (o8 z (x1 i0) !=0) (jv z i0 (dz i0<=z.nO/\(∀i1<dz i0,o8 z i1=0)) (z.nO - dz i0<z.nO - i0)))) (jj z (fun i0=>i0<=z.nB/\(∀i1<i0,Fu z i1=0)) (fun i0=>gp i0 (z.nB:Int) (lu z i0 (dm prog 86 [qq z i0] (x2 (il z i0))) (dQ z (il z i0) (il z i0 !=0) (lu z i0 (fj (87:Nat) (uh z i0) (nm z (qq z i0))) (dQ z (12:Int) (uh z i0) (jv z i0 (dz i0<=z.nB/\(∀i1<dz i0,Fu z i1=0)) (z.nB - dz i0<z.nB - i0)))))) (VT.done [0=fA z]))))))))))))
end
end w1g
open w1g in
theorem RQ (b:dJ) (hN: ∀i,i<b.nS->b.N i<=1000):dm prog 28 [jI b] (dI (fA b)):=by
 refine db dv (F6 b) (V:=xt b) (by kernel_rfl) ?_
 simp only [xt,x0,x1,x2,x3,x4,x5,x6,x7,x8,x9,dC,dA,dz,dG,dL,dR,dQ,ep,eu,eG,ez,eF,eQ,fC,fM,fR,fj,gp,iI,ji,iq,jj,jv,il,iH,lu,lq,ku,qq,nm,nA,uh,Rf,VT.holds,dt,Sq]
 refine ⟨Nf b.name,fun h=>(H9 h).symm,fun hn=>⟨iz _ _ _,fun h=>(DS hn (mr.2 (by omega))).symm,fun h=> ?_⟩⟩
 have hs:qJ b=false:=by
  cases h1:qJ b with
  |false=>rfl
  |true=>have:=mr.1 h1;omega
 refine ⟨rfl,⟨ao _,fun j hj=>absurd hj (aF j)⟩,fun i ⟨hi,Sv⟩=>⟨fun dK=> ?_,fun hge0=> ?_⟩⟩
 ·have hp:((i:Int) - 1).toNat=i - 1:=by omega
  simp only [hp]
  have hNi:=hN i (by omega)
  have pF:pg b i=if gz (b.N i) (b.X i) (b.Y i)≠0 then gz (b.N i) (b.X i) (b.Y i) else if uW b i=true then 10 else if 0<i/\nu (b.N (i - 1)) (b.X (i - 1)) (b.Y (i - 1)) (b.N i) (b.X i) (b.Y i)=false then 12 else 0:=rfl
  refine ⟨⟨by omega,dK⟩,Ia _ _ _ (by omega),fun h1=> ?_,fun hc=> ?_⟩
  ·have e:pg b i=gz (b.N i) (b.X i) (b.Y i):=by rw [pF,ah h1]
   rw [KD hn hs (by omega) Sv (by rw [e];exact h1),e]
  ·refine ⟨⟨fun _=>by unfold cZ;omega,fun _=>by omega,fun h1 h2=>⟨h1,h2⟩⟩,fun h1=> ?_,fun h1=> ?_⟩
   ·have ho:uW b i=true:=by
     rw [uW,ai]
     omega
    have e:pg b i=10:=by rw [pF,ae (by rw [hc];simp),ah ho]
    rw [KD hn hs (by omega) Sv (by rw [e];simp),e]
   ·have ho:uW b i=false:=by
     rw [uW,an]
     omega
    refine ⟨⟨fun _=>by unfold cZ;omega,fun _=>by omega,fun h2=>Ny _ _ _ _ _ _ (uy (Sv (i - 1) (by omega))).1 hc⟩,fun h2=> ?_,fun h2=>⟨by unfold cZ;omega,by omega,⟨by omega,upto Sv ?_⟩,by omega⟩⟩
    ·have e:pg b i=12:=by rw [pF,ae (by rw [hc];simp),ae (by rw [ho];simp),ah ⟨by omega,h2.2⟩]
     rw [KD hn hs (by omega) Sv (by rw [e];simp),e]
    ·rw [pF,ae (by rw [hc];simp),ae (by rw [ho];simp),ae]
     rintro ⟨h4,h5⟩
     rw [h2 (by omega)] at h5
     cases h5
 ·have pF: ∀j,j<b.nS->pg b j=0:=fun j hj=>Sv j (by omega)
  have e1:((b.nS:Int) - 1).toNat=b.nS - 1:=by omega
  rw [e1]
  refine ⟨⟨by unfold cZ;omega,by omega,by omega⟩,fun h2=>(H8 hn hs pF (oD.2 h2)).symm,fun h2=> ?_⟩
  have hr:wZ b=false:=by
   cases h3:wZ b with
   |false=>rfl
   |true=>have:=oD.1 h3;omega
  obtain ⟨f1,f2,f3⟩:=mA hs pF hr
  refine ⟨rfl,⟨ao _,fun j hj=>absurd hj (aF j)⟩,fun i ⟨hi,hb⟩=>⟨fun dK=>⟨J1 b i (by omega) (by omega) (by omega) f1 f2 hb,fun h3=>(RP hn hs pF hr (by omega) hb h3).symm,fun h3=>⟨by unfold cZ;omega,by omega,⟨by omega,upto hb h3⟩,by omega⟩⟩,fun iy=> ?_⟩⟩
  have np: ∀j,j<b.nO->o8 b j=0:=fun j hj=>hb j (by omega)
  refine ⟨rfl,⟨ao _,fun j hj=>absurd hj (aF j)⟩,fun k ⟨hk,hU⟩=>⟨fun dK=>⟨⟨⟨by omega,dK⟩,Ib _ _ _ _ _ _⟩,fun h3=> ?_,fun h3=>⟨⟨⟨by omega,dK⟩,NO b _ _ _ _ _ _ (by omega) f1 f3 h3⟩,fun h4=> ?_,fun h4=>⟨by unfold cZ;omega,by omega,⟨by omega,upto hU (Wa h3 h4)⟩,by omega⟩⟩⟩,fun No=> ?_⟩⟩
  ·have e:=Wc (b:=b) (i:=k) h3
   rw [Fo hn hs pF hr np (by omega) hU (by rw [e];exact h3),e];rfl
  ·have e:=Wb (b:=b) (i:=k) h3 h4
   rw [Fo hn hs pF hr np (by omega) hU (by rw [e];simp),e]
  ·rw [Fm hn hs pF hr np,gH (fun j hj=>hU j (by omega))]
end Go.Abs
end
section
set_option maxRecDepth 100000
namespace Go.Abs
open Go
section
variable {b:dJ} {s:Int}
theorem JR (h:qJ b=false): ¬(b.nS<1\/b.nS>20\/b.nO>100\/b.nB>50):=fun h1=>by rw [mr.2 h1] at h;cases h
theorem Pn (h:jk b=true):b.nS<=25/\b.nO<=105/\b.nB<=55/\ ∀i,i<b.nS->b.N i<=45:=by
 unfold jk at h
 rw [ai] at h
 refine ⟨by omega,by omega,by omega,fun i hi=> ?_⟩
 have:=h.2 i hi
 rw [yk,an] at this
 omega
end
end Go.Abs
end
section
set_option maxRecDepth 100000
namespace Go.Abs
open Go
def ik (p:Nat->Bool):Nat->Int
 |0=> -1
 |k+1=>if 0<=ik p k then ik p k else if p k=true then (k:Int) else -1
theorem kg {p:Nat->Bool}: ∀{n:Nat},(∀j,j<n->p j=false)->ik p n= -1
 |0,_=>rfl
 |n+1,h=>by
  rw [ik,kg (fun j hj=>h j (by omega)),ae (by omega),ae (by rw [h n (by omega)];simp)]
theorem xE {p:Nat->Bool} {i:Nat} (h: ∀j,j<i->p j=false) (hi:p i=true): ∀{n:Nat},i<n->ik p n=i
 |n+1,hn=>by
  rcases aU i n with h1|h1
  ·have:=xE h hi h1
   rw [ik,this,ah (by omega)]
  ·have:i=n:=by omega
   subst this
   rw [ik,kg h,ae (by omega),ah hi]
def Dn (b:dJ) (x1 y1 z1 x2 y2 z2:Int) (i:Nat):Bool:=j5 x1 y1 z1 x2 y2 z2 (b.B i 0) (b.B i 1) (b.B i 2) (b.B i 3) (b.B i 4) (b.B i 5)
theorem G8 (a1 b1 c1 d1 e1 f1 a2 b2 c2 d2 e2 f2:Int):j5 a1 b1 c1 d1 e1 f1 a2 b2 c2 d2 e2 f2=j5 a2 b2 c2 d2 e2 f2 a1 b1 c1 d1 e1 f1:=by
 unfold j5
 rw [cH];omega
def Io (b:dJ) (x1 y1 z1 x2 y2 z2:Int):Int:=if fA b≠0 then fA b else mb x1 y1 z1 x2 y2 z2
def UY (b:dJ) (x1 y1 z1 x2 y2 z2:Int):Bool:=decide (Io b x1 y1 z1 x2 y2 z2=0)&&jh b x1 y1 z1 x2 y2 z2
def Uw (b:dJ) (x1 y1 z1 x2 y2 z2:Int):Int:=if Io b x1 y1 z1 x2 y2 z2≠0 then 0 else ik (Dn b x1 y1 z1 x2 y2 z2) b.nB
abbrev cpB (x1 y1 z1 x2 y2 z2:Int):DV:= .dN [dI x1,dI y1,dI z1,dI x2,dI y2,dI z2]
section
variable {b:dJ} {x1 y1 z1 x2 y2 z2:Int}
theorem UX (h:fA b≠0):Io b x1 y1 z1 x2 y2 z2=fA b/\UY b x1 y1 z1 x2 y2 z2=false/\Uw b x1 y1 z1 x2 y2 z2=0:=by
 have e:Io b x1 y1 z1 x2 y2 z2=fA b:=by rw [Io,ah h]
 exact ⟨e,by rw [UY,e,bg h];rfl,by rw [Uw,ah (by rw [e];exact h)]⟩
theorem UW (h:fA b=0) (h2:mb x1 y1 z1 x2 y2 z2≠0):Io b x1 y1 z1 x2 y2 z2=mb x1 y1 z1 x2 y2 z2/\UY b x1 y1 z1 x2 y2 z2=false/\Uw b x1 y1 z1 x2 y2 z2=0:=by
 have e:Io b x1 y1 z1 x2 y2 z2=mb x1 y1 z1 x2 y2 z2:=by rw [Io,ae (by rw [h];simp)]
 exact ⟨e,by rw [UY,e,bg h2];rfl,by rw [Uw,ah (by rw [e];exact h2)]⟩
theorem UU (h:fA b=0) (h2:mb x1 y1 z1 x2 y2 z2=0):Io b x1 y1 z1 x2 y2 z2=0/\UY b x1 y1 z1 x2 y2 z2=jh b x1 y1 z1 x2 y2 z2/\Uw b x1 y1 z1 x2 y2 z2=ik (Dn b x1 y1 z1 x2 y2 z2) b.nB:=by
 have e:Io b x1 y1 z1 x2 y2 z2=0:=by rw [Io,ae (by rw [h];simp),h2]
 exact ⟨e,by rw [UY,e];rfl,by rw [Uw,ae (by rw [e];simp)]⟩
end
noncomputable def IH (a1 b1 c1 d1 e1 f1 a2 b2 c2 d2 e2 f2:Int):eH:={ dq:=[(1,[(2,rCm)])],loops:=[],dw:=[] }
theorem Ut (a1 b1 c1 d1 e1 f1 a2 b2 c2 d2 e2 f2:Int) :dm prog 45 [bx a2 b2 c2 d2 e2 f2,cpB a1 b1 c1 d1 e1 f1] (dB (j5 a1 b1 c1 d1 e1 f1 a2 b2 c2 d2 e2 f2)):=by
 refine db dv (IH a1 b1 c1 d1 e1 f1 a2 b2 c2 d2 e2 f2) (V:=VT.da [dm prog 46 [DV.val (Value.agg (Array.mk [Value.int IntKind.i64 a1,Value.int IntKind.i64 b1,Value.int IntKind.i64 c1,Value.int IntKind.i64 d1,Value.int IntKind.i64 e1,Value.int IntKind.i64 f1])),DV.val (Value.agg (Array.mk [Value.int IntKind.i64 a2,Value.int IntKind.i64 b2,Value.int IntKind.i64 c2,Value.int IntKind.i64 d2,Value.int IntKind.i64 e2,Value.int IntKind.i64 f2]))] (DV.fy [DV.val (Value.agg (Array.mk [Value.int IntKind.i64 (max a1 a2),Value.int IntKind.i64 (max b1 b2),Value.int IntKind.i64 (max c1 c2),Value.int IntKind.i64 (min d1 d2),Value.int IntKind.i64 (min e1 e2),Value.int IntKind.i64 (min f1 f2)])),DV.val (Value.bool (j5 a1 b1 c1 d1 e1 f1 a2 b2 c2 d2 e2 f2))])] (VT.done [j5 a1 b1 c1 d1 e1 f1 a2 b2 c2 d2 e2 f2=j5 a1 b1 c1 d1 e1 f1 a2 b2 c2 d2 e2 f2])) (by kernel_rfl) ?_
 simp only [VT.holds,dt,Sq]
 exact H0 _ _ _ _ _ _ _ _ _ _ _ _
noncomputable def Bt (b:dJ) (x1 y1 z1 x2 y2 z2:Int):eH:={ dq:=[(4,[(5,.res fun l=>dB (j5 x1 y1 z1 x2 y2 z2 (fI 0 (arg l 0)) (fI 1 (arg l 0)) (fI 2 (arg l 0)) (fI 3 (arg l 0)) (fI 4 (arg l 0)) (fI 5 (arg l 0))))])],loops:=[(0,{ ι:=Nat,keep:=[0,1,7],boxes:=[],ts:=fun _ i=>[(8,dI (i:Int))],inv:=fun _ i=>i<=b.nB/\ ∀j,j<i->Dn b x1 y1 z1 x2 y2 z2 j=false,mu:=fun _ i=>b.nB - i,rd:=fun _ σ=>(eA (σ.get 8)).toNat })],dw:=[] }
namespace w1i
noncomputable section
structure Z where
 b:dJ
 x1:Int
 y1:Int
 z1:Int
 x2:Int
 y2:Int
 z2:Int
variable (z:Z) (i0 i1:Nat) (p:Prop) (P:List Prop) (a:Int) (k:Nat) (E:List DV) (vu:List Value)
abbrev v0:=z.b.B (Int.toNat (i0:Int)) k
abbrev v1:=i0<z.b.nB->rf (z.b.B i0 k)
abbrev v2:List DV:=DV.val (Value.int IntKind.i64 a)::E
abbrev v3:List Value:=Value.int IntKind.i64 (v0 z i0 k)::vu
abbrev v4:=Int.toNat ((i0:Int)+1)
abbrev v5:List Prop:=p::rf z.b.nB::(∀(i0:Nat),v1 z i0 (0:Nat))::(∀(i0:Nat),v1 z i0 (1:Nat))::(∀(i0:Nat),v1 z i0 (2:Nat))::(∀(i0:Nat),v1 z i0 (3:Nat))::(∀(i0:Nat),v1 z i0 (4:Nat))::(∀(i0:Nat),v1 z i0 (5:Nat))::rf z.x1::rf z.y1::rf z.z1::rf z.x2::rf z.y2::rf z.z2::rf (z.b.nB:Int)::P
abbrev v6:=VT.done [a=ik (Dn z.b z.x1 z.y1 z.z1 z.x2 z.y2 z.z2) z.b.nB]
abbrev v7:=i1<k->Dn z.b z.x1 z.y1 z.z1 z.x2 z.y2 z.z2 i1=false
abbrev v8:=j5 z.x1 z.y1 z.z1 z.x2 z.y2 z.z2 (v0 z i0 (0:Nat)) (v0 z i0 (1:Nat)) (v0 z i0 (2:Nat)) (v0 z i0 (3:Nat)) (v0 z i0 (4:Nat)) (v0 z i0 (5:Nat))
abbrev xt:VT:=VT.loop Nat (fun i0=>i0<=z.b.nB/\(∀(i1:Nat),v7 z i1 i0)) (Int.toNat 0) (v5 z (0=(↑(Int.toNat 0):Int)) []) (fun i0=>VT.ite (decide ((i0:Int)<(z.b.nB:Int))) (VT.da [0<=(i0:Int)/\(i0:Int)<(z.b.nB:Int),dm prog (45:FuncId) [DV.val (Value.agg (Array.mk (v3 z i0 (0:Nat) (v3 z i0 (1:Nat) (v3 z i0 (2:Nat) (v3 z i0 (3:Nat) (v3 z i0 (4:Nat) (v3 z i0 (5:Nat) [])))))))),DV.dN (v2 z.x1 (v2 z.y1 (v2 z.z1 (v2 z.x2 (v2 z.y2 (v2 z.z2 []))))))] (DV.val (Value.bool (v8 z i0)))] (VT.ite (v8 z i0) (v6 z (i0:Int)) (VT.da [cZ ((i0:Int)+1)] (VT.done (v5 z ((i0:Int)+1=(↑(v4 i0):Int)) [v4 i0<=z.b.nB/\(∀(i1:Nat),v7 z i1 (v4 i0)),z.b.nB - v4 i0<z.b.nB - i0]))))) (v6 z (-(1:Int))))
end
end w1i
open w1i in
theorem Kb (b:dJ) (x1 y1 z1 x2 y2 z2:Int) (hB:b.nB<=1000):dm prog 44 [.di b.nB (NN b),.jL 45 [cpB x1 y1 z1 x2 y2 z2]] (dI (ik (Dn b x1 y1 z1 x2 y2 z2) b.nB)):=by
 refine db dv (Bt b x1 y1 z1 x2 y2 z2) (V:=xt ⟨b,x1,y1,z1,x2,y2,z2⟩) (by kernel_rfl) ?_
 simp only [xt,v0,v1,v2,v3,v4,v5,v6,v7,v8,Rf,VT.holds,dt,Sq]
 refine ⟨rfl,⟨ao _,fun j hj=>absurd hj (aF j)⟩,fun i ⟨hi,hb⟩=>⟨fun dK=>⟨⟨⟨by omega,dK⟩,Ut _ _ _ _ _ _ _ _ _ _ _ _⟩,fun h=>(xE hb h (by omega)).symm,fun h=>⟨by unfold cZ;omega,by omega,⟨by omega,upto hb h⟩,by omega⟩⟩,fun iy=>by rw [kg (fun j hj=>hb j (by omega))]⟩⟩
noncomputable def IV (b:dJ) (x1 y1 z1 x2 y2 z2:Int):eH:={ dq:=[(4,[(6,rCmR)])],loops:=[(0,{ ι:=Nat,keep:=[2,3],boxes:=[2,3],ts:=fun _ i=>[(5,dI (i:Int))],inv:=fun _ i=>i<=b.nB/\ ∀j,j<i->Dn b x1 y1 z1 x2 y2 z2 j=false,mu:=fun _ i=>b.nB - i,rd:=fun _ σ=>(eA (σ.get 5)).toNat })],dw:=[] }
theorem Us (b:dJ) (x1 y1 z1 x2 y2 z2:Int) (hB:b.nB<=1000):dm prog 91 [jI b,bx x1 y1 z1 x2 y2 z2] (dI (ik (Dn b x1 y1 z1 x2 y2 z2) b.nB)):=by
 refine db dv (IV b x1 y1 z1 x2 y2 z2) (V:=VT.loop Nat (fun (a:Nat)=>a<=b.nB/\ ∀(j:Nat),j<a->Dn b x1 y1 z1 x2 y2 z2 j=false) (0:Int).toNat [(0:Int)=(↑(0:Int).toNat:Int),b.name=b.name,b.nS=b.nS,∀i<b.nS,b.fl i=b.fl i,∀i<b.nS,b.N i=b.N i/\(∀dS<b.N i,b.X i dS=b.X i dS)/\ ∀dS<b.N i,b.Y i dS=b.Y i dS,b.dr=b.dr,b.nO=b.nO,∀i<b.nO,b.O i 0=b.O i 0,∀i<b.nO,b.O i 1=b.O i 1,∀i<b.nO,b.O i 2=b.O i 2,∀i<b.nO,b.O i 3=b.O i 3,∀i<b.nO,b.O i 4=b.O i 4,∀i<b.nO,b.O i 5=b.O i 5,b.nB=b.nB,∀i<b.nB,b.B i 0=b.B i 0,∀i<b.nB,b.B i 1=b.B i 1,∀i<b.nB,b.B i 2=b.B i 2,∀i<b.nB,b.B i 3=b.B i 3,∀i<b.nB,b.B i 4=b.B i 4,∀i<b.nB,b.B i 5=b.B i 5,x1=x1,y1=y1,z1=z1,x2=x2,y2=y2,z2=z2] fun (i:Nat)=>VT.ite (decide ((i:Int)<(b.nB:Int))) (VT.da [(0:Int)<=(i:Int)/\(i:Int)<(b.nB:Int),dm prog 138 [DV.val (Value.agg (Array.mk [Value.int IntKind.i64 (b.B (i:Int).toNat (0:Nat)),Value.int IntKind.i64 (b.B (i:Int).toNat (1:Nat)),Value.int IntKind.i64 (b.B (i:Int).toNat (2:Nat)),Value.int IntKind.i64 (b.B (i:Int).toNat (3:Nat)),Value.int IntKind.i64 (b.B (i:Int).toNat (4:Nat)),Value.int IntKind.i64 (b.B (i:Int).toNat (5:Nat))])),DV.val (Value.agg (Array.mk [Value.int IntKind.i64 x1,Value.int IntKind.i64 y1,Value.int IntKind.i64 z1,Value.int IntKind.i64 x2,Value.int IntKind.i64 y2,Value.int IntKind.i64 z2]))] (DV.fy [DV.val (Value.agg (Array.mk [Value.int IntKind.i64 (Co (j5
  (b.B (i:Int).toNat (0:Nat)) (b.B (i:Int).toNat (1:Nat)) (b.B (i:Int).toNat (2:Nat)) (b.B (i:Int).toNat (3:Nat)) (b.B (i:Int).toNat (4:Nat)) (b.B (i:Int).toNat (5:Nat)) x1 y1 z1 x2 y2 z2) (max (b.B (i:Int).toNat (0:Nat)) x1)),Value.int IntKind.i64 (Co (j5 (b.B (i:Int).toNat (0:Nat)) (b.B (i:Int).toNat (1:Nat)) (b.B (i:Int).toNat (2:Nat)) (b.B (i:Int).toNat (3:Nat)) (b.B (i:Int).toNat (4:Nat)) (b.B (i:Int).toNat (5:Nat)) x1 y1 z1 x2 y2 z2) (max (b.B (i:Int).toNat (1:Nat)) y1)),Value.int IntKind.i64 (Co (j5 (b.B (i:Int).toNat (0:Nat)) (b.B (i:Int).toNat (1:Nat)) (b.B (i:Int).toNat (2:Nat)) (b.B (i:Int).toNat (3:Nat)) (b.B (i:Int).toNat (4:Nat)) (b.B (i:Int).toNat (5:Nat)) x1 y1 z1 x2 y2 z2) (max (b.B (i:Int).toNat (2:Nat)) z1)),Value.int IntKind.i64 (Co (j5 (b.B (i:Int).toNat (0:Nat)) (b.B (i:Int).toNat (1:Nat)) (b.B (i:Int).toNat (2:Nat)) (b.B (i:Int).toNat (3:Nat)) (b.B (i:Int).toNat (4:Nat)) (b.B (i:Int).toNat (5:Nat)) x1 y1 z1 x2 y2 z2) (min (b.B (i:Int).toNat (3:Nat)) x2)),Value.int IntKind.i64 (Co (j5 (b.B (i:Int).toNat (0:Nat)) (b.B (i:Int).toNat (1:Nat)) (b.B (i:Int).toNat (2:Nat)) (b.B (i:Int).toNat (3:Nat)) (b.B (i:Int).toNat (4:Nat)) (b.B (i:Int).toNat (5:Nat)) x1 y1 z1 x2 y2 z2) (min (b.B (i:Int).toNat (4:Nat)) y2)),Value.int IntKind.i64 (Co (j5 (b.B (i:Int).toNat (0:Nat)) (b.B (i:Int).toNat (1:Nat)) (b.B (i:Int).toNat (2:Nat)) (b.B (i:Int).toNat (3:Nat)) (b.B (i:Int).toNat (4:Nat)) (b.B (i:Int).toNat (5:Nat)) x1 y1 z1 x2 y2 z2) (min (b.B (i:Int).toNat (5:Nat)) z2))])),DV.val (Value.bool
  (j5 (b.B (i:Int).toNat (0:Nat)) (b.B (i:Int).toNat (1:Nat)) (b.B (i:Int).toNat (2:Nat)) (b.B (i:Int).toNat (3:Nat)) (b.B (i:Int).toNat (4:Nat)) (b.B (i:Int).toNat (5:Nat)) x1 y1 z1 x2 y2 z2))])] (VT.ite (j5 (b.B (i:Int).toNat (0:Nat)) (b.B (i:Int).toNat (1:Nat)) (b.B (i:Int).toNat (2:Nat)) (b.B (i:Int).toNat (3:Nat)) (b.B (i:Int).toNat (4:Nat)) (b.B (i:Int).toNat (5:Nat)) x1 y1 z1 x2 y2 z2) (VT.done [(i:Int)=ik (Dn b x1 y1 z1 x2 y2 z2) b.nB]) (VT.da [cZ ((i:Int)+1)] (VT.done [(i:Int)+1=(↑((i:Int)+1).toNat:Int),b.name=b.name,b.nS=b.nS,∀i<b.nS,b.fl i=b.fl i,∀i<b.nS,b.N i=b.N i/\(∀dS<b.N i,b.X i dS=b.X i dS)/\ ∀dS<b.N i,b.Y i dS=b.Y i dS,b.dr=b.dr,b.nO=b.nO,∀i<b.nO,b.O i 0=b.O i 0,∀i<b.nO,b.O i 1=b.O i 1,∀i<b.nO,b.O i 2=b.O i 2,∀i<b.nO,b.O i 3=b.O i 3,∀i<b.nO,b.O i 4=b.O i 4,∀i<b.nO,b.O i 5=b.O i 5,b.nB=b.nB,∀i<b.nB,b.B i 0=b.B i 0,∀i<b.nB,b.B i 1=b.B i 1,∀i<b.nB,b.B i 2=b.B i 2,∀i<b.nB,b.B i 3=b.B i 3,∀i<b.nB,b.B i 4=b.B i 4,∀i<b.nB,b.B i 5=b.B i 5,x1=x1,y1=y1,z1=z1,x2=x2,y2=y2,z2=z2,Int.toNat ((i:Int)+1)<=b.nB/\ ∀(j:Nat),j<((i:Int)+1).toNat->Dn b x1 y1 z1 x2 y2 z2 j=false,b.nB - ((i:Int)+1).toNat<b.nB - i])))) (VT.done [(-1:Int)=ik (Dn b x1 y1 z1 x2 y2 z2) b.nB])) (by kernel_rfl) ?_
 simp only [VT.holds,dt,Sq]
 refine ⟨rfl,⟨ao _,fun j hj=>absurd hj (aF j)⟩,fun i ⟨hi,hb⟩=>⟨fun dK=>⟨⟨⟨by omega,dK⟩,NB _ _ _ _ _ _ _ _ _ _ _ _⟩,fun h=> ?_,fun h=>⟨by unfold cZ;omega,by omega,⟨by omega,upto hb ?_⟩,by omega⟩⟩,fun iy=>by rw [kg (fun j hj=>hb j (by omega))]⟩⟩
 ·rw [G8] at h
  exact (xE hb h (by omega)).symm
 ·rw [G8] at h
  exact h
noncomputable def yR (b:dJ) (x1 y1 z1 x2 y2 z2:Int):eH:={ dq:=[(1,[(1,GY b)]),(4,[(1,PJ)]),(7,[(2,Yh b)])],loops:=[],dw:=[] }
namespace w1j
noncomputable section
structure Z where
 b:dJ
 x1:Int
 y1:Int
 z1:Int
 x2:Int
 y2:Int
 z2:Int
variable (z:Z) (a:Int) (g:Bool) (BW:List Value)
abbrev v0:=DV.val (Value.int IntKind.i64 a)
abbrev v1:List Value:=Value.int IntKind.i64 a::BW
abbrev v2:=mb z.x1 z.y1 z.z1 z.x2 z.y2 z.z2
abbrev v3:=VT.done [g=UY z.b z.x1 z.y1 z.z1 z.x2 z.y2 z.z2,a=Io z.b z.x1 z.y1 z.z1 z.x2 z.y2 z.z2]
abbrev v4:=DV.val (Value.agg (Array.mk (v1 z.x1 (v1 z.y1 (v1 z.z1 (v1 z.x2 (v1 z.y2 (v1 z.z2 []))))))))
abbrev v5:=DV.agg [DV.val (Value.string z.b.name),DV.di z.b.nS [fun i0=>v0 (z.b.fl i0),fun i0=>DV.di (z.b.N i0) [fun i1=>v0 (z.b.X i0 i1),fun i1=>v0 (z.b.Y i0 i1)]],v0 z.b.dr,DV.di z.b.nO [fun i0=>v0 (z.b.O i0 0),fun i0=>v0 (z.b.O i0 1),fun i0=>v0 (z.b.O i0 2),fun i0=>v0 (z.b.O i0 3),fun i0=>v0 (z.b.O i0 4),fun i0=>v0 (z.b.O i0 5)],DV.di z.b.nB [fun i0=>v0 (z.b.B i0 0),fun i0=>v0 (z.b.B i0 1),fun i0=>v0 (z.b.B i0 2),fun i0=>v0 (z.b.B i0 3),fun i0=>v0 (z.b.B i0 4),fun i0=>v0 (z.b.B i0 5)]]
abbrev v6:=jh z.b z.x1 z.y1 z.z1 z.x2 z.y2 z.z2
abbrev xt:VT:=VT.da [dm prog 41 [v5 z] (v0 (fA z.b))] (VT.ite (fA z.b !=0) (v3 z (fA z.b) false) (VT.da [dm prog 42 [v4 z] (v0 (v2 z))] (VT.ite (v2 z !=0) (v3 z (v2 z) false) (VT.da [dm prog 43 [v5 z,v4 z] (DV.val (Value.bool (v6 z)))] (v3 z (0:Int) (v6 z))))))
end
end w1j
open w1j in
theorem Il (b:dJ) (x1 y1 z1 x2 y2 z2:Int) (hN: ∀i,i<b.nS->b.N i<=1000):dm prog 10 [jI b,bx x1 y1 z1 x2 y2 z2] (.fy [dB (UY b x1 y1 z1 x2 y2 z2),dI (Io b x1 y1 z1 x2 y2 z2)]):=by
 refine db dv (yR b x1 y1 z1 x2 y2 z2) (V:=xt ⟨b,x1,y1,z1,x2,y2,z2⟩) (by kernel_rfl) ?_
 simp only [xt,v0,v1,v2,v3,v4,v5,v6,Rf,VT.holds,dt,Sq]
 refine ⟨zh b hN,fun h=>⟨(UX h).2.1.symm,(UX h).1.symm⟩,fun h=>⟨pT _ _ _ _ _ _,fun h1=>⟨(UW h h1).2.1.symm,(UW h h1).1.symm⟩,fun h1=> ?_⟩⟩
 obtain ⟨c1,c2,c3,c4,c5,c6⟩:=mD h
 have hs:=JR c2
 obtain ⟨f1,f2,f3⟩:=mA c2 c3 c4
 exact ⟨Ik b _ _ _ _ _ _ (by omega) f1 h1,(UU h h1).2.1.symm,(UU h h1).1.symm⟩
noncomputable def CE (b:dJ) (x1 y1 z1 x2 y2 z2:Int):eH:={ dq:=[(1,[(1,GY b)]),(4,[(1,PJ)]),(7,[(3,.res fun _=>dI (ik (Dn b x1 y1 z1 x2 y2 z2) b.nB))])],loops:=[],dw:=[] }
namespace w1k
noncomputable section
structure Z where
 b:dJ
 x1:Int
 y1:Int
 z1:Int
 x2:Int
 y2:Int
 z2:Int
variable (z:Z) (a b:Int) (U:VT) (BW:List Value)
abbrev v0:=DV.val (Value.int IntKind.i64 a)
abbrev v1:List Value:=Value.int IntKind.i64 a::BW
abbrev v2:=mb z.x1 z.y1 z.z1 z.x2 z.y2 z.z2
abbrev v3:=Uw z.b z.x1 z.y1 z.z1 z.x2 z.y2 z.z2
abbrev v4:=Io z.b z.x1 z.y1 z.z1 z.x2 z.y2 z.z2
abbrev v5:=VT.ite (a !=0) (VT.done [0=v3 z,b=v4 z]) U
abbrev v6:=DV.di z.b.nB [fun i0=>v0 (z.b.B i0 0),fun i0=>v0 (z.b.B i0 1),fun i0=>v0 (z.b.B i0 2),fun i0=>v0 (z.b.B i0 3),fun i0=>v0 (z.b.B i0 4),fun i0=>v0 (z.b.B i0 5)]
abbrev v7:=ik (Dn z.b z.x1 z.y1 z.z1 z.x2 z.y2 z.z2) z.b.nB
abbrev xt:VT:=VT.da [dm prog 41 [DV.agg [DV.val (Value.string z.b.name),DV.di z.b.nS [fun i0=>v0 (z.b.fl i0),fun i0=>DV.di (z.b.N i0) [fun i1=>v0 (z.b.X i0 i1),fun i1=>v0 (z.b.Y i0 i1)]],v0 z.b.dr,DV.di z.b.nO [fun i0=>v0 (z.b.O i0 0),fun i0=>v0 (z.b.O i0 1),fun i0=>v0 (z.b.O i0 2),fun i0=>v0 (z.b.O i0 3),fun i0=>v0 (z.b.O i0 4),fun i0=>v0 (z.b.O i0 5)],v6 z]] (v0 (fA z.b))] (v5 z (fA z.b) (fA z.b) (VT.da [dm prog 42 [DV.val (Value.agg (Array.mk (v1 z.x1 (v1 z.y1 (v1 z.z1 (v1 z.x2 (v1 z.y2 (v1 z.z2 []))))))))] (v0 (v2 z))] (v5 z (v2 z) (v2 z) (VT.da [dm prog 44 [v6 z,DV.jL 45 [DV.dN [v0 z.x1,v0 z.y1,v0 z.z1,v0 z.x2,v0 z.y2,v0 z.z2]]] (v0 (v7 z))] (VT.done [v7 z=v3 z,0=v4 z])))))
end
end w1k
open w1k in
theorem Nw (b:dJ) (x1 y1 z1 x2 y2 z2:Int) (hN: ∀i,i<b.nS->b.N i<=1000):dm prog 11 [jI b,bx x1 y1 z1 x2 y2 z2] (.fy [dI (Uw b x1 y1 z1 x2 y2 z2),dI (Io b x1 y1 z1 x2 y2 z2)]):=by
 refine db dv (CE b x1 y1 z1 x2 y2 z2) (V:=xt ⟨b,x1,y1,z1,x2,y2,z2⟩) (by kernel_rfl) ?_
 simp only [xt,v0,v1,v2,v3,v4,v5,v6,v7,Rf,VT.holds,dt,Sq]
 refine ⟨zh b hN,fun h=>⟨(UX h).2.2.symm,(UX h).1.symm⟩,fun h=>⟨pT _ _ _ _ _ _,fun h1=>⟨(UW h h1).2.2.symm,(UW h h1).1.symm⟩,fun h1=> ?_⟩⟩
 have hs:=JR (mD h).2.1
 exact ⟨Kb b _ _ _ _ _ _ (by omega),(UU h h1).2.2.symm,(UU h h1).1.symm⟩
end Go.Abs
end
section
set_option maxRecDepth 100000
namespace Go.Abs
open Go
def jY (d:Int):Int:=if d=0 then 1 else if d=2 then -1 else 0
def jX (d:Int):Int:=if d=1 then 1 else if d=3 then -1 else 0
theorem gX {d:Int} (h:0<=d/\d<4):[(1:Int),0,-1,0].getD d.toNat 0=jY d:=by
 obtain rfl|rfl|rfl|rfl:d=0\/d=1\/d=2\/d=3:=by omega
 all_goals rfl
theorem gY {d:Int} (h:0<=d/\d<4):[(0:Int),1,0,-1].getD d.toNat 0=jX d:=by
 obtain rfl|rfl|rfl|rfl:d=0\/d=1\/d=2\/d=3:=by omega
 all_goals rfl
theorem Ph {d:Int} (h:0<=d/\d<4):(jY d=1/\jX d=0)\/(jY d=0/\jX d=1)\/(jY d= -1/\jX d=0)\/(jY d=0/\jX d= -1):=by
 obtain rfl|rfl|rfl|rfl:d=0\/d=1\/d=2\/d=3:=by omega
 all_goals decide
def m3 (x:Int):Prop:= -3000000<=x/\x<=3000000
def rMo:fE:= .res fun l=>dP (fI 0 (arg l 0)+aI l 2*fI 0 (arg l 1)) (fI 1 (arg l 0)+aI l 2*fI 1 (arg l 1))
def rSt:fE:= .res fun l=> .fy [dI (jY (aI l 0)),dI (jX (aI l 0))]
noncomputable def IZ (x y a b n:Int):eH:={ dq:=[],loops:=[],dw:=[] }
theorem y7 (x y a b n:Int) (h:m3 n) (h0:m3 x) (h1:m3 y) (h2: -1<=a/\a<=1) (h3: -1<=b/\b<=1):dm prog 51 [dP x y,dP a b,dI n] (dP (x+n*a) (y+n*b)):=by
 refine db dv (IZ x y a b n) (V:=VT.da [cZ (n*a),cZ (x+n*a),cZ (n*b),cZ (y+n*b)] (VT.done [x+n*a=x+n*a,y+n*b=y+n*b])) (by kernel_rfl) ?_
 simp only [VT.holds,dt,Sq]
 unfold m3 at*
 obtain rfl|rfl|rfl:a= -1\/a=0\/a=1:=by omega
 all_goals
  obtain rfl|rfl|rfl:b= -1\/b=0\/b=1:=by omega
  all_goals
   unfold cZ
   omega
noncomputable def KX (d:Int):eH:={ dq:=[],loops:=[],dw:=[] }
theorem El (d:Int) (h:0<=d/\d<4):dm prog 137 [dI d] (.fy [dI (jY d),dI (jX d)]):=by
 refine db dv (KX d) (V:=VT.ite (d==0) (VT.done [(1:Int)=jY d,(0:Int)=jX d]) (VT.ite (d==1) (VT.done [(0:Int)=jY d,(1:Int)=jX d]) (VT.ite (d==2) (VT.done [(-1:Int)=jY d,(0:Int)=jX d]) (VT.done [(0:Int)=jY d,(-1:Int)=jX d])))) (by kernel_rfl) ?_
 simp only [VT.holds,dt,Sq]
 refine ⟨fun h1=>by subst h1;exact ⟨rfl,rfl⟩,fun h1=>⟨fun h2=>by subst h2;exact ⟨rfl,rfl⟩,fun h2=>⟨fun h3=>by subst h3;exact ⟨rfl,rfl⟩,fun h3=> ?_⟩⟩⟩
 obtain rfl:d=3:=by omega
 exact ⟨rfl,rfl⟩
end Go.Abs
end
