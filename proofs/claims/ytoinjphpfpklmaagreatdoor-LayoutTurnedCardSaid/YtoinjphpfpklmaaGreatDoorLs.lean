/- Contracts and what they stand on. -/
import Derived.Test.YtoinjphpfpklmaaGreatDoorL10
import Derived.Shelf.SlSortCmp.NoneTotal
import Derived.Ground.SlsfProg
import Derived.Lib.SortBridge
set_option linter.unusedVariables false
set_option linter.unusedSimpArgs false
section
section
set_option maxRecDepth 100000
namespace Go.Abs
open Go
theorem Iu {x:Int}:oC x=false↔0<=x/\x<=1:=by
 unfold oC Lay.nI
 simp
structure gE where
 nC:Nat
 C:Nat->Int
 nR:Nat
 F:Nat->Int
 SX:Nat->Int
 SY:Nat->Int
 Ln:Nat->Int
 nP:Nat->Nat
 P:Nat->Nat->Int
 nQ:Nat->Nat
 Q:Nat->Nat->Int
abbrev runC (l:gE):List (Nat->DV):=[fun i=>dI (l.F i),fun i=>dI (l.SX i),fun i=>dI (l.SY i),fun i=>dI (l.Ln i),fun i=>Lay.nums (l.nP i) (l.P i),fun i=>Lay.nums (l.nQ i) (l.Q i)]
abbrev ND (l:gE):DV:= .agg [Lay.nums l.nC l.C,.dt l.nR (runC l)]
def YQ (nB:Nat) (B:Nat->Int) (l:gE) (i:Nat):Int:=(l.nQ i:Int)+Lay.pD (l.P i) (B (nB - 1)) (l.nP i)
def k6 (nB:Nat) (B:Nat->Int) (l:gE):Nat->Int
 |0=>0
 |k+1=>k6 nB B l k+YQ nB B l k
def lN (l:gE):Nat->Int
 |0=>0
 |k+1=>lN l k+(l.nP k:Int)
def q9 (l:gE):Prop:=l.nC<=1000/\l.nR<=1000/\ ∀i,i<l.nR->l.nP i<=10000/\l.nQ i<=10000
def Z6 (nB:Nat) (B:Nat->Int) (nO:Nat) (O:Nat->Int) (l:gE) (i:Nat):Int:=Lay.j6 nB B nO O (l.nP i) (l.P i) (l.nQ i) (l.Q i) (l.Ln i)
def OU (b:dL) (G W:Int) (i:Nat) (a:Int):Int:=xa (b.N 0) (b.X 0) (b.Y 0) i (gv (b.N 0) (b.X 0) (b.Y 0) G W i a) G
def OT (b:dL) (G W:Int) (i:Nat) (a:Int):Int:=wZ (b.N 0) (b.X 0) (b.Y 0) i (gv (b.N 0) (b.X 0) (b.Y 0) G W i a) G
def nxC (b:dL) (l:gE) (i:Nat):Int:=l.C (((i:Int)+1)%(b.N 0:Int)).toNat
def Nl (b:dL) (nB:Nat) (B:Nat->Int) (nO:Nat) (O:Nat->Int) (W G:Int) (l:gE) (i:Nat):Int:=
 if l.F i≠i then 10 else if ¬(l.SX i=OU b G W i (l.C i)/\l.SY i=OT b G W i (l.C i)/\l.Ln i=ko (b.N 0) (b.X 0) (b.Y 0) G W i (l.C i) (nxC b l i)) then 3 else Z6 nB B nO O l i
def Ka (b:dL) (nB:Nat) (B:Nat->Int) (nO:Nat) (O:Nat->Int) (W G:Int) (l:gE):Int:=
 if l.nC≠b.N 0\/l.nR≠b.N 0 then 11 else if Lay.gw (fun k=>oC (l.C k)) l.nC=true then 2 else fW (Nl b nB B nO O W G l) (b.N 0)
def xy (b:dL) (nB:Nat) (B:Nat->Int) (nO:Nat) (O:Nat->Int) (W G L:Int) (l:gE):Int:=if ij b nB B nO O W G L≠0 then ij b nB B nO O W G L else Ka b nB B nO O W G l
theorem Qt {nB:Nat} {B:Nat->Int} {l:gE} (h:q9 l) {i:Nat} (hi:i<l.nR):0<=YQ nB B l i/\YQ nB B l i<=20000:=by
 have:=h.2.2 i hi
 have hc:=Lay.zD (l.P i) (B (nB - 1)) (l.nP i)
 unfold YQ
 omega
theorem Lo {nB:Nat} {B:Nat->Int} {l:gE} (h:q9 l): ∀k,k<=l.nR->0<=k6 nB B l k/\k6 nB B l k<=20000*k
 |0,_=>by rw [k6];omega
 |k+1,hk=>by
  have:=Lo (nB:=nB) (B:=B) h k (by omega)
  have:=Qt (nB:=nB) (B:=B) h (i:=k) (by omega)
  rw [k6]
  omega
theorem Lp {l:gE} (h:q9 l): ∀k,k<=l.nR->0<=lN l k/\lN l k<=10000*k
 |0,_=>by rw [lN];omega
 |k+1,hk=>by
  have:=Lp h k (by omega)
  have:=h.2.2 k (by omega)
  rw [lN]
  omega
noncomputable def II (x:Int):eA:={ dz:=[(1,[(1,.res fun _=>dB (Lay.nI x 0 1))])],loops:=[],dK:=[] }
theorem Uq (x:Int) :dv prog 100 [dI x] (dB (oC x)):=by
 refine dm dJ (II x) (V:= .dk [dv prog 101 [(dI x),(dI (0:Int)),(dI (1:Int))] ((dB (Lay.nI x (0:Int) (1:Int))))] (.done [(!Lay.nI x (0:Int) (1:Int))=oC x])) (by kernel_rfl) ?_
 simp only [VT.holds,dC,Sq]
 exact ⟨Lay.iB x 0 1,rfl⟩
noncomputable def IU (nB:Nat) (B:Nat->Int) (nO:Nat) (O:Nat->Int) (W G L:Int) (l:gE):eA:={ dz:=[(5,[(3,.res fun q=>dP ((lenOf (fD 1 (arg q 1)):Int)+Lay.pD (ic 0 (fD 0 (arg q 1))) (B (nB - 1)) (lenOf (fD 0 (arg q 1)))) (lenOf (fD 0 (arg q 1))))])],loops:=[(0,{ ι:=Nat,keep:=[2,3,4,10,11,5],boxes:=[2,3,4],ts:=fun _ i=>[(12,dI (i:Int))],bx:=fun _ i=>[(5,[dI (k6 nB B l i),dI (lN l i)])],inv:=fun _ i=>i<=l.nR,mu:=fun _ i=>l.nR - i,rd:=fun _ σ=>(ez (σ.get 12)).toNat })],dK:=[] }
namespace w3j
noncomputable section
structure Z where
 nB:Nat
 B:Nat->Int
 nO:Nat
 O:Nat->Int
 W:Int
 G:Int
 L:Int
 l:gE
variable (z:Z) (i0:Nat) (p:Prop) (P:List Prop)
abbrev x0:=Int.toNat (i0:Int)
abbrev x1:=Int.toNat ((i0:Int)+1)
abbrev x2:=Int.toNat 0
abbrev x3:List Prop:=p::rf z.l.nR::(∀i0<z.l.nR,rf (z.l.F i0))::(∀i0<z.l.nR,rf (z.l.SX i0))::(∀i0<z.l.nR,rf (z.l.SY i0))::(∀i0<z.l.nR,rf (z.l.Ln i0))::(∀i0<z.l.nR,rf (z.l.nP i0)/\(∀i1<z.l.nP i0,rf (z.l.P i0 i1)))::(∀i0<z.l.nR,rf (z.l.nQ i0)/\(∀i1<z.l.nQ i0,rf (z.l.Q i0 i1)))::P
abbrev x4:=(↑(z.l.nQ (x0 i0)):Int)+Lay.pD (z.l.P (x0 i0)) (z.B (z.nB - 1)) (z.l.nP (x0 i0))
abbrev x5:=lN z.l i0+(↑(z.l.nP (x0 i0)):Int)
abbrev x6:List Prop:=rf z.nB::(∀i0<z.nB,rf (z.B i0))::rf z.nO::(∀i0<z.nO,rf (z.O i0))::rf z.W::rf z.G::rf z.L::rf z.l.nC::x3 z (∀i0<z.l.nC,rf (z.l.C i0)) (rf (0:Int)::rf (0:Int)::P)
abbrev xt:VT:=VT.loop Nat (fun i0=>i0<=z.l.nR) x2 (x3 z (0=(x2:Int)) (rf (z.l.nR:Int)::(0=k6 z.nB z.B z.l x2)::(0=lN z.l x2)::x6 z [])) (fun i0=>VT.ite (decide ((i0:Int)<(z.l.nR:Int))) (VT.dk [0<=(i0:Int)/\(i0:Int)<(z.l.nR:Int)] (VT.dk [dv prog (117:FuncId) [DV.agg [DV.dt z.nB [fun i0=>dI (z.B i0)],DV.dt z.nO [fun i0=>dI (z.O i0)],dI z.W,dI z.G,dI z.L],DV.agg [DV.dt (z.l.nP (x0 i0)) [fun i1=>dI (z.l.P (x0 i0) i1)],DV.dt (z.l.nQ (x0 i0)) [fun i1=>dI (z.l.Q (x0 i0) i1)]]] (DV.val (Value.agg (Array.mk [Value.int IntKind.i64 (x4 z i0),Value.int IntKind.i64 (↑(z.l.nP (x0 i0)):Int)])))] (VT.dk [dh (k6 z.nB z.B z.l i0+x4 z i0)] (VT.dk [dh (x5 z i0)] (VT.dk [dh ((i0:Int)+1)] (VT.done (x3 z ((i0:Int)+1=(↑(x1 i0):Int)) (rf (z.l.nR:Int)::(k6 z.nB z.B z.l i0+x4 z i0=k6 z.nB z.B z.l (x1 i0))::(x5 z i0=lN z.l (x1 i0))::x6 z [x1 i0<=z.l.nR,z.l.nR - x1 i0<z.l.nR - i0])))))))) (VT.done [k6 z.nB z.B z.l i0=k6 z.nB z.B z.l z.l.nR,lN z.l i0=lN z.l z.l.nR]))
end
end w3j
open w3j in
theorem TF (nB:Nat) (B:Nat->Int) (nO:Nat) (O:Nat->Int) (W G L:Int) (l:gE) (hs:Lay.fm nB B nO O W G L=0) (h:q9 l):dv prog 61 [Lay.sys nB B nO O W G L,ND l] (dP (k6 nB B l l.nR) (lN l l.nR)):=by
 refine dm dJ (IU nB B nO O W G L l) (V:=xt ⟨nB,B,nO,O,W,G,L,l⟩) (by kernel_rfl) ?_
 simp only [xt,x0,x1,x2,x3,x4,x5,x6,Rf,VT.holds,dC,Sq]
 obtain ⟨s1,s2,s3,sB,sO,sr,_⟩:=Lay.k7 hs
 obtain ⟨t1,t2,t3⟩:=h
 refine ⟨⟨rfl,rfl,rfl⟩,aq _,fun i hi=>⟨fun dR=> ?_,fun iG=>by rw [show i=l.nR by omega];exact ⟨rfl,rfl⟩⟩⟩
 have t4:=t3 i (by omega)
 have a1:=Lo (nB:=nB) (B:=B) ⟨t1,t2,t3⟩ i hi
 have a2:=Lp ⟨t1,t2,t3⟩ i hi
 have a3:=Qt (nB:=nB) (B:=B) ⟨t1,t2,t3⟩ (i:=i) (by omega)
 unfold YQ at a3
 exact ⟨by omega,Lay.HZ nB B nO O W G L _ _ _ _ s1 (by omega) sr (by omega) (by omega),by unfold dh;omega,by unfold dh;omega,by unfold dh;omega,rfl,rfl,rfl,by omega,by omega⟩
end Go.Abs
end
section
set_option maxRecDepth 100000
namespace Go.Abs
open Go
def rClo (nB:Nat) (B:Nat->Int) (nO:Nat) (O:Nat->Int):fx:= .res fun q=>dI (Lay.j6 nB B nO O (lenOf (fD 0 (arg q 2))) (ic 0 (fD 0 (arg q 2))) (lenOf (fD 1 (arg q 2))) (ic 0 (fD 1 (arg q 2))) (aI q 1))
theorem MT {p:Nat->Bool} {n:Nat}:Lay.gw p n=false↔ ∀k,k<n->p k=false:=by
 unfold Lay.gw
 rw [bj,ah]
section
variable {b:dL} {nB:Nat} {B:Nat->Int} {nO:Nat} {O:Nat->Int} {W G L:Int} {l:gE}
theorem ly_1 (h: ¬(l.nC:Int)=b.N 0\/ ¬(l.nR:Int)=b.N 0):Ka b nB B nO O W G l=11:=by rw [Ka,ag (by omega)]
theorem ly_2 (h:l.nC=b.N 0/\l.nR=b.N 0) (h2:Lay.gw (fun k=>oC (l.C k)) l.nC=true):Ka b nB B nO O W G l=2:=by rw [Ka,ab (by omega),ag h2]
theorem ly_3 (h:l.nC=b.N 0/\l.nR=b.N 0) (h2:Lay.gw (fun k=>oC (l.C k)) l.nC=false):Ka b nB B nO O W G l=fW (Nl b nB B nO O W G l) (b.N 0):=by rw [Ka,ab (by omega),ab (by rw [h2];simp)]
theorem QB (h:l.nC=b.N 0/\l.nR=b.N 0) (h2:Lay.gw (fun k=>oC (l.C k)) l.nC=false) {i:Nat} (hi:i<b.N 0) (hb: ∀k,k<i->Nl b nB B nO O W G l k=0) {e:Int} (he:Nl b nB B nO O W G l i=e) (h0:e≠0):e=Ka b nB B nO O W G l:=by
 rw [ly_3 h h2,kx hb (by rw [he];exact h0) hi,he]
theorem V3 (h:l.nC=b.N 0/\l.nR=b.N 0) (h2:Lay.gw (fun k=>oC (l.C k)) l.nC=false) (hb: ∀k,k<b.N 0->Nl b nB B nO O W G l k=0):0=Ka b nB B nO O W G l:=by
 rw [ly_3 h h2,fV hb]
theorem ru_1 {i:Nat} (h: ¬l.F i=(i:Int)):Nl b nB B nO O W G l i=10:=by rw [Nl,ag h]
theorem ru_2 {i:Nat} (h:l.F i=(i:Int)) (h2: ¬(l.SX i=OU b G W i (l.C i)/\l.SY i=OT b G W i (l.C i)/\l.Ln i=ko (b.N 0) (b.X 0) (b.Y 0) G W i (l.C i) (nxC b l i))):Nl b nB B nO O W G l i=3:=by rw [Nl,ab (fun hx=>hx h),ag h2]
theorem YD {i:Nat} (h:l.F i=(i:Int)) (h2:l.SX i=OU b G W i (l.C i)/\l.SY i=OT b G W i (l.C i)/\l.Ln i=ko (b.N 0) (b.X 0) (b.Y 0) G W i (l.C i) (nxC b l i)):Nl b nB B nO O W G l i=Z6 nB B nO O l i:=by rw [Nl,ab (fun hx=>hx h),ab (fun hx=>hx h2)]
end
theorem KM (m:Nat) (C:Nat->Int) (hm:m<=1000000):dv prog 99 [Lay.nums m C,.val (.func (.func 100) #[] #[])] (dB (Lay.gw (fun k=>oC (C k)) m)):=by
 obtain ⟨r,hr⟩:=Lay.iF (fun k=>oC (C k)) m
 exact Lay.qE 100 oC m C r hm Uq hr
noncomputable def IX (b:dL) (nB:Nat) (B:Nat->Int) (nO:Nat) (O:Nat->Int) (W G L:Int) (l:gE):eA:={ dz:=[(1,[(2,rArE b nB B nO O W G L)]),(4,[(1,.res fun _=>dI 0)]),(7,[(2,.res fun _=>dB true)])],loops:=[(0,{ ι:=Nat,keep:=[],boxes:=[],ts:=fun _ _=>[],inv:=fun _ _=>True,mu:=fun _ i=>i,rd:=fun _ _=>0 })],dK:=[] }
theorem Up (b:dL) (nB:Nat) (B:Nat->Int) (nO:Nat) (O:Nat->Int) (W G L:Int) (l:gE) (hN: ∀i,i<b.nS->b.N i<=1000) (h0:ij b nB B nO O W G L≠0):dv prog 39 [kz b,Lay.sys nB B nO O W G L,ND l] (.fC [.any,dI (ij b nB B nO O W G L)]):=by
 refine dm dJ (IX b nB B nO O W G L l) (V:= .dk [dv prog 31 [(kz b),.agg [.dt nB [fun i=>(dI (B i))],.dt nO [fun i=>(dI (O i))],(dI W),(dI G),(dI L)]] (.fC [.any,(dI (ij b nB B nO O W G L))])] (.ite (ij b nB B nO O W G L !=0) (.done [ij b nB B nO O W G L=ij b nB B nO O W G L]) (.dk [dv prog 33 [.any] ((dI (0:Int)))] (.dk [ri ((!(l.nC:Int) !=0)=true),ri ((!(l.nC:Int) !=0)=true),ri ((!(l.nC:Int) !=0)=true),ri ((!(l.nC:Int) !=0)=true),((l.nC:Int) !=0)=false->(!(l.nC:Int) !=0)=true] (.ite (if ((l.nC:Int) !=0)=true then true else (l.nR:Int) !=0) (.done [(11:Int)=ij b nB B nO O W G L]) (.dk [dv prog 99 [.dt l.nC [fun i=>(dI (l.C i))],.val (Value.func (Fn.func 100) (Array.mk []) (Array.mk []))] ((dB true))] (.ite true (.done [(2:Int)=ij b nB B nO O W G L]) (.loop Nat (fun a=>True) (0:Nat) [] fun i=> .dk [False] (.done [False]))))))))) (by kernel_rfl) ?_
 simp only [VT.holds,dC,Sq]
 exact ⟨En b nB B nO O W G L hN,fun h=>absurd h h0⟩
noncomputable def IW (b:dL) (nB:Nat) (B:Nat->Int) (nO:Nat) (O:Nat->Int) (W G L:Int) (l:gE):eA:={ dz:=[(1,[(2,YL b nB B nO O W G L)]),(4,[(1,.res fun _=>dI (b.N 0:Int))]),(7,[(2,.res fun _=>dB (Lay.gw (fun k=>oC (l.C k)) l.nC))]),(12,[(10,.pos)]),(15,[(7,.res fun q=>dI (gv (b.N 0) (b.X 0) (b.Y 0) G W (aI q 1) (aI q 2))),(10,.res fun q=>dP (xa (b.N 0) (b.X 0) (b.Y 0) (aI q 1) (aI q 2) (aI q 3)) (wZ (b.N 0) (b.X 0) (b.Y 0) (aI q 1) (aI q 2) (aI q 3))),(19,.res fun q=>dI (ko (b.N 0) (b.X 0) (b.Y 0) G W (aI q 1) (aI q 2) (aI q 3)))]),(17,[(5,rClo nB B nO O)])],loops:=[(0,{ ι:=Nat,keep:=[3,4,5,8,10,43,44],boxes:=[3,4,5],ts:=fun _ i=>[(45,dI (i:Int))],inv:=fun _ i=>i<=b.N 0/\ ∀k,k<i->Nl b nB B nO O W G l k=0,mu:=fun _ i=>b.N 0 - i,rd:=fun _ σ=>(ez (σ.get 45)).toNat })],dK:=[] }
namespace w3l
noncomputable section
structure Z where
 b:dL
 nB:Nat
 B:Nat->Int
 nO:Nat
 O:Nat->Int
 W:Int
 G:Int
 L:Int
 l:gE
variable (z:Z) (i0 i1:Nat) (p:Prop) (P:List Prop) (a:Int) (k:Nat) (g:Bool) (E:List DV) (U:VT) (DY:FuncId) (yS:Nat->DV)
abbrev x0:Int:=(i0:Int)
abbrev x1:=Int.toNat (x0 i0)
abbrev x2:=gv (z.b.N 0) (z.b.X 0) (z.b.Y 0) z.G z.W (x0 i0) (z.l.C (x1 i0))
abbrev x3:=i0<z.b.nO->rf (z.b.O i0 k)
abbrev x4:=i0<z.b.nB->rf (z.b.B i0 k)
abbrev x5:=DV.dt k [yS]
abbrev x6:Int:=(↑(z.b.N 0):Int)
abbrev x7:=i0<z.b.N 0->rf a
abbrev x8:=ix (z.b.N 0) (x0 i0+1)
abbrev x9:=Lay.ir z.nB z.B z.nO z.O z.W z.G z.L
abbrev dM:=xa (z.b.N 0) (z.b.X 0) (z.b.Y 0) (x0 i0) (x2 z i0) z.G
abbrev dQ:=wZ (z.b.N 0) (z.b.X 0) (z.b.Y 0) (x0 i0) (x2 z i0) z.G
abbrev dS:=(z.l.SX (x1 i0)==dM z i0)&&((z.l.SY (x1 i0)==dQ z i0)&&true)
abbrev dT:List Prop:=ri ((!(!(dS z i0)))=true)::P
abbrev dU:=(z.l.nC:Int) !=x6 z
abbrev dY:=fb (z.b.N 0) (z.b.X 0) (z.b.Y 0) (x0 i0)
abbrev eb:=dD (z.b.N 0) (z.b.X 0) (z.b.Y 0) (x0 i0)
abbrev eE:=ov (z.b.N 0) (z.b.X 0) (z.b.Y 0) i0
abbrev eH:List DV:=x5 z.nB (fun i0=>dI (z.B i0))::x5 z.nO (fun i0=>dI (z.O i0))::dI z.W::dI z.G::dI z.L::E
abbrev eT:Int:=(↑(Lay.fQ z.nB z.B z.nO z.O z.W z.G z.L):Int)
abbrev eG:=VT.done [a=Ka z.b z.nB z.B z.nO z.O z.W z.G z.l]
abbrev eZ:=VT.dk [p] U
abbrev fi:=VT.ite g (eG z a) U
abbrev fR:=DV.dV (DV.val (Value.string z.b.name)::DV.dt z.b.nS [fun i0=>dI (z.b.fl i0),fun i0=>DV.dt (z.b.N i0) [fun i1=>dI (z.b.X i0 i1),fun i1=>dI (z.b.Y i0 i1)]]::dI z.b.dE::DV.dt z.b.nO [fun i0=>dI (z.b.O i0 0),fun i0=>dI (z.b.O i0 1),fun i0=>dI (z.b.O i0 2),fun i0=>dI (z.b.O i0 3),fun i0=>dI (z.b.O i0 4),fun i0=>dI (z.b.O i0 5)]::DV.dt z.b.nB [fun i0=>dI (z.b.B i0 0),fun i0=>dI (z.b.B i0 1),fun i0=>dI (z.b.B i0 2),fun i0=>dI (z.b.B i0 3),fun i0=>dI (z.b.B i0 4),fun i0=>dI (z.b.B i0 5)]::eH z [dI (eT z),DV.dt (x9 z) [fun i0=>dI (Lay.eI z.nB z.B z.nO z.O i0),fun i0=>dI (Lay.ew z.nB i0),fun i0=>dB (decide (z.nB<=i0))],DV.dt (z.b.N 0) [fun i0=>dI (z.b.X 0 i0),fun i0=>dI (z.b.Y 0 i0),fun i0=>dI (z.b.X 0 (x8 z i0)),fun i0=>dI (z.b.Y 0 (x8 z i0)),fun i0=>dI (dY z i0),fun i0=>dI (eb z i0)],x5 (z.b.N 0) (fun i0=>dI (eE z i0))])
abbrev fU:=Int.toNat (x0 i0+1)
abbrev fS:= ∀i0<z.l.nR,rf (z.l.nQ i0)/\(∀i1<z.l.nQ i0,rf (z.l.Q i0 i1))
abbrev fz:List Prop:=rf z.l.nR::(∀i0<z.l.nR,rf (z.l.F i0))::(∀i0<z.l.nR,rf (z.l.SX i0))::(∀i0<z.l.nR,rf (z.l.SY i0))::(∀i0<z.l.nR,rf (z.l.Ln i0))::(∀i0<z.l.nR,rf (z.l.nP i0)/\(∀i1<z.l.nP i0,rf (z.l.P i0 i1)))::P
abbrev gi:List Prop:=rf z.b.name::rf z.b.nS::(∀i0<z.b.nS,rf (z.b.fl i0))::(∀i0<z.b.nS,rf (z.b.N i0)/\(∀i1<z.b.N i0,rf (z.b.X i0 i1))/\(∀i1<z.b.N i0,rf (z.b.Y i0 i1)))::rf z.b.dE::rf z.b.nO::(∀(i0:Nat),x3 z i0 (0:Nat))::(∀(i0:Nat),x3 z i0 (1:Nat))::(∀(i0:Nat),x3 z i0 (2:Nat))::(∀(i0:Nat),x3 z i0 (3:Nat))::(∀(i0:Nat),x3 z i0 (4:Nat))::(∀(i0:Nat),x3 z i0 (5:Nat))::rf z.b.nB::(∀(i0:Nat),x4 z i0 (0:Nat))::(∀(i0:Nat),x4 z i0 (1:Nat))::(∀(i0:Nat),x4 z i0 (2:Nat))::(∀(i0:Nat),x4 z i0 (3:Nat))::(∀(i0:Nat),x4 z i0 (4:Nat))::(∀(i0:Nat),x4 z i0 (5:Nat))::rf z.nB::(∀i0<z.nB,rf (z.B i0))::rf z.nO::(∀i0<z.nO,rf (z.O i0))::rf z.W::rf z.G::rf z.L::P
abbrev iA:=z.l.C (Int.toNat ((x0 i0+1)%x6 z))
abbrev jw:List Prop:=ri ((!(dU z))=true)::ri ((!(dU z))=true)::P
abbrev iw:=Lay.j6 z.nB z.B z.nO z.O (z.l.nP (x1 i0)) (z.l.P (x1 i0)) (z.l.nQ (x1 i0)) (z.l.Q (x1 i0)) (z.l.Ln (x1 i0))
abbrev jk:=Lay.gw (fun i0=>oC (z.l.C i0)) z.l.nC
abbrev jj:=dv prog DY (fR z::dI (x0 i0)::dI (z.l.C (x1 i0))::E) (dI a)
abbrev gQ:List Prop:=p::gi z (rf (eT z)::rf (x9 z)::(∀i0<x9 z,rf (Lay.eI z.nB z.B z.nO z.O i0))::(∀i0<x9 z,rf (Lay.ew z.nB i0))::(∀i0<x9 z,rf (decide (z.nB<=i0)))::rf (z.b.N 0)::(∀(i0:Nat),x7 z i0 (z.b.X 0 i0))::(∀(i0:Nat),x7 z i0 (z.b.Y 0 i0))::(∀(i0:Nat),x7 z i0 (z.b.X 0 (x8 z i0)))::(∀(i0:Nat),x7 z i0 (z.b.Y 0 (x8 z i0)))::(∀(i0:Nat),x7 z i0 (dY z i0))::(∀(i0:Nat),x7 z i0 (eb z i0))::rf (z.b.N 0)::(∀(i0:Nat),x7 z i0 (eE z i0))::rf (x6 z)::fz z (fS z::rf (z.l.nR:Int)::gi z (rf z.l.nC::(∀i0<z.l.nC,rf (z.l.C i0))::P)))
abbrev iz:=ko (z.b.N 0) (z.b.X 0) (z.b.Y 0) z.G z.W (x0 i0) (z.l.C (x1 i0)) (iA z i0)
abbrev mc:=i1<k->Nl z.b z.nB z.B z.nO z.O z.W z.G z.l i1=0
abbrev xt:VT:=eZ (dv prog (31:FuncId) [kz z.b,DV.agg (eH z [])] (DV.fC [fR z,dI 0])) (fi z (0:Int) ((0:Int) !=(0:Int)) (eZ (dv prog (33:FuncId) [fR z] (dI (x6 z))) (VT.dk (jw z (jw z [dU z=false->(!(dU z))=true])) (fi z (11:Int) (if (dU z)=true then true else ((z.l.nR:Int) !=x6 z)) (eZ (dv prog (99:FuncId) [x5 z.l.nC (fun i0=>dI (z.l.C i0)),DV.val (Value.func (Fn.func 100) (Array.mk []) (Array.mk []))] (dB (jk z))) (fi z (2:Int) (jk z) (VT.loop Nat (fun i0=>i0<=z.b.N 0/\(∀(i1:Nat),mc z i1 i0)) (Int.toNat 0) (gQ z (0=(↑(Int.toNat 0):Int)) (fz z [fS z])) (fun i0=>VT.ite (decide ((x0 i0)<(z.l.nR:Int))) (eZ (0<=x0 i0/\x0 i0<(z.l.nR:Int)) (VT.dk [0<=x0 i0/\x0 i0<(z.l.nC:Int),dh (x0 i0+1),0<=x0 i0+1/\0<x6 z,0<=(x0 i0+1)%x6 z/\(x0 i0+1)%x6 z<(z.l.nC:Int)] (fi z (10:Int) (z.l.F (x1 i0) !=x0 i0) (VT.dk (jj z i0 (x2 z i0) [] (36:FuncId)::dv prog (35:FuncId) [fR z,dI (x0 i0),dI (x2 z i0),dI z.G] (DV.val (Value.agg (Array.mk [Value.int IntKind.i64 (dM z i0),Value.int IntKind.i64 (dQ z i0)])))::dT z i0 (dT z i0 (dT z i0 (dT z i0 (dT z i0 (((!(!(dS z i0)))=true->jj z i0 (iz z i0) [dI (iA z i0)] (37:FuncId))::dT z i0 (dT z i0 [(!(dS z i0))=false->(!(!(dS z i0)))=true]))))))) (fi z (3:Int) (if (!(dS z i0))=true then true else (z.l.Ln (x1 i0) !=iz z i0)) (eZ (dv prog (102:FuncId) [DV.agg (eH z []),dI (z.l.Ln (x1 i0)),DV.agg [x5 (z.l.nP (x1 i0)) (fun i1=>dI (z.l.P (x1 i0) i1)),x5 (z.l.nQ (x1 i0)) (fun i1=>dI (z.l.Q (x1 i0) i1))]] (dI (iw z i0))) (fi z (iw z i0) (iw z i0 !=0) (eZ (dh (x0 i0+1)) (VT.done (gQ z (x0 i0+1=(↑(fU i0):Int)) (fz z [fS z,fU i0<=z.b.N 0/\(∀(i1:Nat),mc z i1 (fU i0)),z.b.N 0 - fU i0<z.b.N 0 - i0]))))))))))) (eG z (0:Int))))))))))
end
end w3l
open w3l in
theorem Uo (b:dL) (nB:Nat) (B:Nat->Int) (nO:Nat) (O:Nat->Int) (W G L:Int) (l:gE) (hN: ∀i,i<b.nS->b.N i<=1000) (h0:ij b nB B nO O W G L=0) (ht:q9 l):dv prog 39 [kz b,Lay.sys nB B nO O W G L,ND l] (.fC [.any,dI (Ka b nB B nO O W G l)]):=by
 refine dm dJ (IW b nB B nO O W G L l) (V:=xt ⟨b,nB,B,nO,O,W,G,L,l⟩) (by kernel_rfl) ?_
 simp only [xt,x0,x1,x2,x3,x4,x5,x6,x7,x8,x9,dM,dQ,dS,dT,dU,dY,eb,eE,eH,eT,eG,eZ,fi,fR,fU,fS,fz,gi,iA,jw,iw,jk,jj,gQ,iz,mc,Rf,VT.holds,dC,Sq]
 obtain ⟨hc,hs,_,_,_,_,_⟩:=iy h0
 obtain ⟨b1,b2,b3,b4,b5⟩:=nE hc
 have hn:=fO b2
 obtain ⟨hX,hY⟩:=eS b2
 have g1:=(jV hs).1
 have g2:=g1
 unfold mK at g2
 obtain ⟨t1,t2,t3⟩:=ht
 refine ⟨xU b nB B nO O W G L hN h0,fun h=>absurd trivial h,fun _=>⟨n_c _ _ _ _ _ _ _ _ _ _ _ _ _ _ _,fun h=>(ly_1 h).symm,fun h=> ?_⟩⟩
 have ZK:l.nC=b.N 0/\l.nR=b.N 0:=by omega
 refine ⟨KM l.nC l.C (by omega),fun h2=>(ly_2 ZK h2).symm,fun h2=>⟨rfl,⟨aq _,fun k hk=>absurd hk (aG k)⟩,fun i ⟨hi,hb⟩=>⟨fun dR=> ?_,fun iG=>V3 ZK h2 fun k hk=>hb k (by omega)⟩⟩⟩
 have N3: ∀k,k<b.N 0->0<=l.C k/\l.C k<=1:=fun k hk=>Iu.1 (MT.1 h2 k (by omega))
 have q1:=bm ((i:Int)+1) (show (b.N 0:Int)≠0 by omega)
 have q2:=br ((i:Int)+1) (show (0:Int)<b.N 0 by omega)
 have ha:=N3 i (by omega)
 have gJ:=N3 (((i:Int)+1)%(b.N 0:Int)).toNat (by omega)
 have bb:=sj (n:=b.N 0) (X:=b.X 0) (Y:=b.Y 0) (i:Int) g1 ha
 have t4:=t3 i (by omega)
 refine ⟨by omega,⟨by omega,by unfold dh;omega,by omega,q1,by omega⟩,fun h3=>QB ZK h2 (by omega) hb (ru_1 h3) (by decide),fun h3=>⟨⟨wF _ _ _ _ _ _ _ _ _ _ _ _ _ _ _ _ _ (by omega) g1 ha,uY _ _ _ _ _ _ _ _ _ _ _ _ _ _ _ _ _ _ (by omega) hX hY (by omega) (by omega),fun _=>uU _ _ _ _ _ _ _ _ _ _ _ _ _ _ _ _ _ _ (by omega) (by omega) hX hY g1 ha gJ⟩,fun h4=>QB ZK h2 (by omega) hb (ru_2 h3 fun hx=> ?_) (by decide),fun h4=> ?_⟩⟩
 ·rcases h4 with h4|h4
  ·exact absurd (h4 hx.1 hx.2.1) (by simp)
  ·exact h4 hx.2.2
 ·have h5:l.SX i=OU b G W i (l.C i)/\l.SY i=OT b G W i (l.C i)/\l.Ln i=ko (b.N 0) (b.X 0) (b.Y 0) G W i (l.C i) (nxC b l i):=by
   by_cases e1:l.SX i=OU b G W i (l.C i)
   ·by_cases e2:l.SY i=OT b G W i (l.C i)
    ·exact ⟨e1,e2,h4.2⟩
    ·exact absurd (fun _ hx=>absurd hx e2) h4.1
   ·exact absurd (fun hx=>absurd hx e1) h4.1
  refine ⟨Lay.Sc nB B nO O W G L _ _ _ _ _ hs (by omega) (by omega),fun h6=>QB ZK h2 (by omega) hb (YD h3 h5) h6,fun h6=>⟨by unfold dh;omega,rfl,⟨by omega,fun k hk=> ?_⟩,by omega⟩⟩
  by_cases e:k=i
  ·rw [e,YD h3 h5];exact h6
  ·exact hb k (by omega)
end Go.Abs
end
end
section
set_option maxRecDepth 100000
namespace Go.Abs
open Go
section
variable {b:dL} {nB:Nat} {B:Nat->Int} {nO:Nat} {O:Nat->Int} {W G L:Int} {l:gE}
end
end Go.Abs
end
section
set_option maxRecDepth 100000
namespace Go.Abs
open Go
section
variable {b:dL} {nB:Nat} {B:Nat->Int} {nO:Nat} {O:Nat->Int} {W G L:Int} {l:gE}
theorem V7 (h:ij b nB B nO O W G L≠0):xy b nB B nO O W G L l=ij b nB B nO O W G L:=by rw [xy,ag h]
theorem V6 (h:ij b nB B nO O W G L=0):xy b nB B nO O W G L l=Ka b nB B nO O W G l:=by rw [xy,ab (by rw [h];simp)]
theorem QK (h:xy b nB B nO O W G L l=0):ij b nB B nO O W G L=0/\Ka b nB B nO O W G l=0:=by
 by_cases h1:ij b nB B nO O W G L=0
 ·exact ⟨h1,by rw [<-V6 h1];exact h⟩
 ·rw [V7 h1] at h;exact absurd h h1
theorem Un (b:dL) (nB:Nat) (B:Nat->Int) (nO:Nat) (O:Nat->Int) (W G L:Int) (l:gE) (hN: ∀i,i<b.nS->b.N i<=1000) (ht:q9 l):
 dv prog 39 [kz b,Lay.sys nB B nO O W G L,ND l] (.fC [.any,dI (xy b nB B nO O W G L l)]):=by
 by_cases h:ij b nB B nO O W G L=0
 ·rw [V6 h];exact Uo b nB B nO O W G L l hN h ht
 ·rw [V7 h];exact Up b nB B nO O W G L l hN h
def TC (b:dL) (nB:Nat) (B:Nat->Int) (nO:Nat) (O:Nat->Int) (W G L:Int) (l:gE):Int:=if xy b nB B nO O W G L l=0 then k6 nB B l l.nR else 0
def TD (b:dL) (nB:Nat) (B:Nat->Int) (nO:Nat) (O:Nat->Int) (W G L:Int) (l:gE):Int:=if xy b nB B nO O W G L l=0 then lN l l.nR else 0
end
noncomputable def wQ (b:dL) (nB:Nat) (B:Nat->Int) (nO:Nat) (O:Nat->Int) (W G L:Int) (l:gE):eA:={ dz:=[(1,[(3,.res fun _=> .fC [.any,dI (xy b nB B nO O W G L l)])])],loops:=[],dK:=[] }
theorem CL (b:dL) (nB:Nat) (B:Nat->Int) (nO:Nat) (O:Nat->Int) (W G L:Int) (l:gE) (hN: ∀i,i<b.nS->b.N i<=1000) (ht:q9 l):dv prog 60 [kz b,Lay.sys nB B nO O W G L,ND l] (dI (xy b nB B nO O W G L l)):=by
 refine dm dJ (wQ b nB B nO O W G L l) (V:= .dk [dv prog 39 [(kz b),.agg [.dt nB [fun i=>(dI (B i))],.dt nO [fun i=>(dI (O i))],(dI W),(dI G),(dI L)],.agg [.dt l.nC [fun i=>(dI (l.C i))],.dt l.nR [fun i=>(dI (l.F i)),fun i=>(dI (l.SX i)),fun i=>(dI (l.SY i)),fun i=>(dI (l.Ln i)),fun i=> .dt (l.nP i) [fun ed=>(dI (l.P i ed))],fun i=> .dt (l.nQ i) [fun ed=>(dI (l.Q i ed))]]]] (.fC [.any,(dI (xy b nB B nO O W G L l))])] (.done [xy b nB B nO O W G L l=xy b nB B nO O W G L l])) (by kernel_rfl) ?_
 simp only [VT.holds,dC,Sq]
 exact Un b nB B nO O W G L l hN ht
noncomputable def BV (b:dL) (nB:Nat) (B:Nat->Int) (nO:Nat) (O:Nat->Int) (W G L:Int) (l:gE):eA:={ dz:=[(1,[(3,.res fun _=>dI (xy b nB B nO O W G L l))]),(4,[(2,.res fun _=>dP (k6 nB B l l.nR) (lN l l.nR))])],loops:=[],dK:=[] }
abbrev pN (l:gE):DV:= .agg [.dt l.nC [fun i=>(dI (l.C i))],.dt l.nR [fun i=>(dI (l.F i)),fun i=>(dI (l.SX i)),fun i=>(dI (l.SY i)),fun i=>(dI (l.Ln i)),fun i=> .dt (l.nP i) [fun ed=>(dI (l.P i ed))],fun i=> .dt (l.nQ i) [fun ed=>(dI (l.Q i ed))]]]
theorem pO (b:dL) (nB:Nat) (B:Nat->Int) (nO:Nat) (O:Nat->Int) (W G L:Int) (l:gE) (hN: ∀i,i<b.nS->b.N i<=1000) (ht:q9 l):dv prog 18 [kz b,Lay.sys nB B nO O W G L,ND l] (.fC [dP (TC b nB B nO O W G L l) (TD b nB B nO O W G L l),dI (xy b nB B nO O W G L l)]):=by
 refine dm dJ (BV b nB B nO O W G L l) (V:= .dk [dv prog 60 [(kz b),.agg [.dt nB [fun i=>(dI (B i))],.dt nO [fun i=>(dI (O i))],(dI W),(dI G),(dI L)],(pN l)] ((dI (xy b nB B nO O W G L l)))] (.ite (xy b nB B nO O W G L l !=0) (.done [(0:Int)=TC b nB B nO O W G L l,(0:Int)=TD b nB B nO O W G L l,xy b nB B nO O W G L l=xy b nB B nO O W G L l]) (.dk [dv prog 61 [.agg [.dt nB [fun i=>(dI (B i))],.dt nO [fun i=>(dI (O i))],(dI W),(dI G),(dI L)],(pN l)] (.val (.agg (Array.mk [.int .i64 (k6 nB B l l.nR),.int .i64 (lN l l.nR)])))] (.done [k6 nB B l l.nR=TC b nB B nO O W G L l,lN l l.nR=TD b nB B nO O W G L l,(0:Int)=xy b nB B nO O W G L l])))) (by kernel_rfl) ?_
 simp only [VT.holds,dC,pN,Sq]
 refine ⟨CL b nB B nO O W G L l hN ht,fun h=>⟨by rw [TC,ab h],by rw [TD,ab h]⟩,fun h=>⟨TF nB B nO O W G L l (iy (QK h).1).2.1 ht,by rw [TC,ag h],by rw [TD,ag h],h.symm⟩⟩
end Go.Abs
end
section
set_option maxRecDepth 100000
namespace Go.Abs
open Go
abbrev pr (x y:Int) (k:Nat):Int:=List.getD [x,y] k 0
def me (nB:Nat) (B:Nat->Int) (nO:Nat) (O:Nat->Int):Int:=(Lay.mV nB B O (nB+nO):Nat)
theorem Nb {nB:Nat} {B:Nat->Int} {nO:Nat} {O:Nat->Int} {W G L:Int} (hs:Lay.fm nB B nO O W G L=0):(Lay.fQ nB B nO O W G L:Int)=me nB B nO O/\1<=me nB B nO O/\me nB B nO O<=10000:=by
 obtain ⟨s1,s2,s3,sB,sO,_,_⟩:=Lay.k7 hs
 have hu:=Lay.PQ s1 sB sO
 refine ⟨?_,?_⟩
 ·rw [Lay.fQ,ag hs,Lay.unit_eq];rfl
 ·unfold me;omega
section
variable {u:Int} {n:Nat} {R:Int->Int->Int->Int} {nT:Nat} {T L0 L1:Nat->Int} {f:Nat}
end
abbrev lst2 (n:Nat) (A B:Nat->Int):DV:= .dt n [fun i=>dI (A i),fun i=>dI (B i)]
end Go.Abs
end
section
set_option maxRecDepth 100000
namespace Go.Abs
open Go
structure nY where
 nT:Nat
 T:Nat->Int
 n0:Nat
 A0:Nat->Int
 A1:Nat->Int
 n1:Nat
 B0:Nat->Int
 B1:Nat->Int
abbrev YN (p:nY):DV:= .agg [Lay.nums p.nT p.T,lst2 p.n0 p.A0 p.A1,lst2 p.n1 p.B0 p.B1]
def pvL (x y:Int):Int:=if x<0\/0<=y/\y<x then y else x
def pvK (nB:Nat) (B:Nat->Int) (l:gE):Int:=10000*k6 nB B l l.nR+lN l l.nR
section
variable {b:dL} {nB:Nat} {B:Nat->Int} {nO:Nat} {O:Nat->Int} {W G:Int} {l:gE} {p:nY}
end
section
variable {b:dL} {nB:Nat} {B:Nat->Int} {nO:Nat} {O:Nat->Int} {W G L:Int} {l:gE} {p:nY}
end
end Go.Abs
end
section
set_option maxRecDepth 100000
namespace Go.Abs.Lay
open Go
end Go.Abs.Lay
end
section
set_option maxRecDepth 100000
namespace Go.Abs
open Go
def iq (n:Nat) (X Y:Nat->Int) (G W:Int):Nat->Int
 |0=>0
 |m+1=>max (iq n X Y G W m) (ko n X Y G W ((m/4:Nat):Int) ((m%4/2:Nat):Int) ((m%4%2:Nat):Int))
def J9 (lon u:Int):Int:=if lon>4000*u then 8 else 0
def Uf (lon u:Int):Nat:=if J9 lon u=0 then (lon/u+1).toNat else 0
def CJ (T:Nat->Int) (u x:Int):Int:=if x<0\/x%u≠0 then -1 else T (x/u).toNat
section
variable {n:Nat} {X Y:Nat->Int} {G W:Int} {T:Nat->Int} {u:Int}
theorem c4 {c:Nat} (h:c<4):(0<=((c/2:Nat):Int)/\((c/2:Nat):Int)<=1)/\0<=((c%2:Nat):Int)/\((c%2:Nat):Int)<=1:=by omega
theorem P8 (hn:0<n) (hX:kd n X) (hY:kd n Y) (hg:mK G W) (i:Int) {a b:Int} (ha:0<=a/\a<=1) (hb:0<=b/\b<=1): -40000<=ko n X Y G W i a b/\ko n X Y G W i a b<=4040000:=by
 have b1:=sj (n:=n) (X:=X) (Y:=Y) i hg ha
 have b2:=xS i hn hX hY hg hb
 unfold ko
 omega
theorem VG (hg:mK G W) (i:Int) {a b:Int} (ha:0<=a/\a<=1) (hb:0<=b/\b<=1):ko n X Y G W i a b<=ko n X Y G W i 1 0:=by
 obtain ⟨g1,g2,g3,g4⟩:=hg
 have h1:=DQ ha ⟨g3,g4⟩
 have h2:=DQ hb ⟨g3,g4⟩
 unfold ko iL gv
 split<;>split<;>omega
theorem zt (hn:0<n) (hX:kd n X) (hY:kd n Y) (hg:mK G W): ∀m,0<=iq n X Y G W m/\iq n X Y G W m<=4040000
 |0=>by rw [iq];omega
 |m+1=>by
  have:=zt hn hX hY hg m
  have h:=c4 (c:=m%4) (by omega)
  have:=P8 hn hX hY hg ((m/4:Nat):Int) h.1 h.2
  rw [iq]
  omega
theorem Uj {m k:Nat} (h:k<m):ko n X Y G W ((k/4:Nat):Int) ((k%4/2:Nat):Int) ((k%4%2:Nat):Int)<=iq n X Y G W m:=by
 induction m with
 |zero=>omega
 |succ m ih=>
  rw [iq]
  by_cases e:k=m
  ·subst e;omega
  ·have:=ih (by omega);omega
theorem E5 {i c:Nat} (hi:i<n) (hc:c<4):ko n X Y G W i ((c/2:Nat):Int) ((c%2:Nat):Int)<=iq n X Y G W (4*n):=by
 have:=Uj (n:=n) (X:=X) (Y:=Y) (G:=G) (W:=W) (m:=4*n) (k:=4*i+c) (by omega)
 rwa [show (4*i+c)/4=i by omega,show (4*i+c)%4=c by omega] at this
end
def rh (nB:Nat) (B:Nat->Int) (nO:Nat) (O:Nat->Int) (W G L:Int) (k:Nat):Int:=Lay.j9 (Lay.wU (Lay.eO nB B nO O (nB+nO)) (Lay.eI nB B nO O) (Lay.ew nB) (nB+nO)) k
noncomputable def CR (b:dL) (nB:Nat) (B:Nat->Int) (nO:Nat) (O:Nat->Int) (W G L:Int):eA:={ dz:=[(2,[(1,.res fun _=>dI (b.N 0:Int))]),(8,[(4,.pos),(6,.pos),(7,.res fun l=>dI (ko (b.N 0) (b.X 0) (b.Y 0) G W (aI l 1) (aI l 2) (aI l 3)))])],loops:=[(0,{ ι:=Nat,keep:=[0,7],boxes:=[],ts:=fun _ i=>[(3,dI (iq (b.N 0) (b.X 0) (b.Y 0) G W (4*i))),(8,dI (i:Int))],inv:=fun _ i=>i<=b.N 0,mu:=fun _ i=>b.N 0 - i,rd:=fun _ σ=>(ez (σ.get 8)).toNat }),(2,{ ι:=Nat,keep:=[0,7,8,4],boxes:=[],ts:=fun σ c=>[(3,dI (iq (b.N 0) (b.X 0) (b.Y 0) G W (4*(ez (σ.get 8)).toNat+c))),(11,dI (c:Int))],inv:=fun _ c=>c<=4,mu:=fun _ c=>4 - c,rd:=fun _ σ=>(ez (σ.get 11)).toNat })],dK:=[] }
namespace w3o
noncomputable section
structure Z where
 b:dL
 nB:Nat
 B:Nat->Int
 nO:Nat
 O:Nat->Int
 W:Int
 G:Int
 L:Int
variable (z:Z) (i0 i1:Nat) (p:Prop) (P:List Prop) (a:Int) (k:Nat)
abbrev x0:=i0<z.b.N 0->rf a
abbrev x1:=i0<z.b.nO->rf (z.b.O i0 k)
abbrev x2:=i0<z.b.nB->rf (z.b.B i0 k)
abbrev x3:=(i0:Int)+1
abbrev x4:=Lay.ir z.nB z.B z.nO z.O z.W z.G z.L
abbrev x5:=ix (z.b.N 0) (x3 i0)
abbrev x6:=iq (z.b.N 0) (z.b.X 0) (z.b.Y 0) z.G z.W k
abbrev x7:=Int.toNat 0
abbrev x8:=fb (z.b.N 0) (z.b.X 0) (z.b.Y 0) (i0:Int)
abbrev x9:=dD (z.b.N 0) (z.b.X 0) (z.b.Y 0) (i0:Int)
abbrev dM:=ov (z.b.N 0) (z.b.X 0) (z.b.Y 0) i0
abbrev dQ:=Lay.fQ z.nB z.B z.nO z.O z.W z.G z.L
abbrev dS:=Int.toNat ((i1:Int)+1)
abbrev dT:=4*Int.toNat (i0:Int)+k
abbrev dU:List Prop:=p::rf z.b.name::rf z.b.nS::(∀i0<z.b.nS,rf (z.b.fl i0))::(∀i0<z.b.nS,rf (z.b.N i0)/\(∀i1<z.b.N i0,rf (z.b.X i0 i1))/\(∀i1<z.b.N i0,rf (z.b.Y i0 i1)))::rf z.b.dE::rf z.b.nO::(∀(i0:Nat),x1 z i0 (0:Nat))::(∀(i0:Nat),x1 z i0 (1:Nat))::(∀(i0:Nat),x1 z i0 (2:Nat))::(∀(i0:Nat),x1 z i0 (3:Nat))::(∀(i0:Nat),x1 z i0 (4:Nat))::(∀(i0:Nat),x1 z i0 (5:Nat))::rf z.b.nB::(∀(i0:Nat),x2 z i0 (0:Nat))::(∀(i0:Nat),x2 z i0 (1:Nat))::(∀(i0:Nat),x2 z i0 (2:Nat))::(∀(i0:Nat),x2 z i0 (3:Nat))::(∀(i0:Nat),x2 z i0 (4:Nat))::(∀(i0:Nat),x2 z i0 (5:Nat))::rf z.nB::(∀i0<z.nB,rf (z.B i0))::rf z.nO::(∀i0<z.nO,rf (z.O i0))::rf z.W::rf z.G::rf z.L::rf (↑(dQ z):Int)::rf (x4 z)::(∀i0<x4 z,rf (Lay.eI z.nB z.B z.nO z.O i0))::(∀i0<x4 z,rf (Lay.ew z.nB i0))::(∀i0<x4 z,rf (decide (z.nB<=i0)))::rf (z.b.N 0)::(∀(i0:Nat),x0 z i0 (z.b.X 0 i0))::(∀(i0:Nat),x0 z i0 (z.b.Y 0 i0))::(∀(i0:Nat),x0 z i0 (z.b.X 0 (x5 z i0)))::(∀(i0:Nat),x0 z i0 (z.b.Y 0 (x5 z i0)))::(∀(i0:Nat),x0 z i0 (x8 z i0))::(∀(i0:Nat),x0 z i0 (x9 z i0))::rf (z.b.N 0)::(∀(i0:Nat),x0 z i0 (dM z i0))::rf (↑(z.b.N 0):Int)::P
abbrev dY:=DV.dV [DV.val (Value.string z.b.name),DV.dt z.b.nS [fun i0=>dI (z.b.fl i0),fun i0=>DV.dt (z.b.N i0) [fun i1=>dI (z.b.X i0 i1),fun i1=>dI (z.b.Y i0 i1)]],dI z.b.dE,DV.dt z.b.nO [fun i0=>dI (z.b.O i0 0),fun i0=>dI (z.b.O i0 1),fun i0=>dI (z.b.O i0 2),fun i0=>dI (z.b.O i0 3),fun i0=>dI (z.b.O i0 4),fun i0=>dI (z.b.O i0 5)],DV.dt z.b.nB [fun i0=>dI (z.b.B i0 0),fun i0=>dI (z.b.B i0 1),fun i0=>dI (z.b.B i0 2),fun i0=>dI (z.b.B i0 3),fun i0=>dI (z.b.B i0 4),fun i0=>dI (z.b.B i0 5)],DV.dt z.nB [fun i0=>dI (z.B i0)],DV.dt z.nO [fun i0=>dI (z.O i0)],dI z.W,dI z.G,dI z.L,dI (↑(dQ z):Int),DV.dt (x4 z) [fun i0=>dI (Lay.eI z.nB z.B z.nO z.O i0),fun i0=>dI (Lay.ew z.nB i0),fun i0=>dB (decide (z.nB<=i0))],DV.dt (z.b.N 0) [fun i0=>dI (z.b.X 0 i0),fun i0=>dI (z.b.Y 0 i0),fun i0=>dI (z.b.X 0 (x5 z i0)),fun i0=>dI (z.b.Y 0 (x5 z i0)),fun i0=>dI (x8 z i0),fun i0=>dI (x9 z i0)],DV.dt (z.b.N 0) [fun i0=>dI (dM z i0)]]
abbrev eb:=ko (z.b.N 0) (z.b.X 0) (z.b.Y 0) z.G z.W (i0:Int) ((i1:Int)/2) ((i1:Int)%2)
abbrev xt:VT:=VT.dk [dv prog 33 [dY z] (dI (↑(z.b.N 0):Int))] (VT.loop Nat (fun i0=>i0<=z.b.N 0) x7 ((0=x6 z (4*x7))::dU z (0=(x7:Int)) []) (fun i0=>VT.ite (decide ((i0:Int)<(↑(z.b.N 0):Int))) (VT.loop Nat (fun i0=>i0<=4) x7 ((x6 z (4*i0)=x6 z (dT i0 x7))::dU z (0=(x7:Int)) [rf (i0:Int),rf (i0:Int)]) (fun i1=>VT.ite (decide ((i1:Int)<(4:Int))) (VT.dk [0<=(i1:Int)/\(0:Int)<(2:Int)/\(i1:Int)<=9223372036854775807,0<=(i1:Int)/\(0:Int)<(2:Int),dv prog 37 [dY z,dI (i0:Int),dI ((i1:Int)/2),dI ((i1:Int)%2)] (dI (eb z i0 i1))] (VT.dk [dh ((i1:Int)+1)] (VT.done ((hP (x6 z (dT i0 i1)) [eb z i0 i1]=x6 z (dT i0 (dS i1)))::dU z ((i1:Int)+1=(↑(dS i1):Int)) [rf (i0:Int),rf (i0:Int),dS i1<=4,4 - dS i1<4 - i1])))) (VT.dk [dh (x3 i0)] (VT.done ((x6 z (dT i0 i1)=x6 z (4*Int.toNat (x3 i0)))::dU z (x3 i0=(↑(Int.toNat (x3 i0)):Int)) [Int.toNat (x3 i0)<=z.b.N 0,z.b.N 0 - Int.toNat (x3 i0)<z.b.N 0 - i0]))))) (VT.done [x6 z (4*i0)=x6 z (4*z.b.N 0)])))
end
end w3o
open w3o in
theorem NF (b:dL) (nB:Nat) (B:Nat->Int) (nO:Nat) (O:Nat->Int) (W G L:Int) (hn:0<b.N 0) (jO:b.N 0<=1000) (hX:kd (b.N 0) (b.X 0)) (hY:kd (b.N 0) (b.Y 0)) (hg:mK G W):dv prog 95 [yo b nB B nO O W G L] (dI (iq (b.N 0) (b.X 0) (b.Y 0) G W (4*b.N 0))):=by
 refine dm dJ (CR b nB B nO O W G L) (V:=xt ⟨b,nB,B,nO,O,W,G,L⟩) (by kernel_rfl) ?_
 simp only [xt,x0,x1,x2,x3,x4,x5,x6,x7,x8,x9,dM,dQ,dS,dT,dU,dY,eb,Rf,VT.holds,dC,Sq]
 have e2: ∀c:Nat,(c:Int)/2=((c/2:Nat):Int):=fun c=>by omega
 have e3: ∀c:Nat,(c:Int)%2=((c%2:Nat):Int):=fun c=>by omega
 simp only [e2,e3]
 refine ⟨n_c _ _ _ _ _ _ _ _ _ _ _ _ _ _ _,⟨rfl,rfl⟩,aq _,fun i hi=>⟨fun dR=>⟨⟨rfl,rfl⟩,by omega,fun c hc=>⟨fun hc4=> ?_,fun hc4=> ?_⟩⟩,fun iG=>by rw [show i=b.N 0 by omega]⟩⟩
 ·have h4:=c4 (c:=c) (by omega)
  refine ⟨⟨by omega,by omega,uU _ _ _ _ _ _ _ _ _ _ _ _ _ _ _ _ _ _ (by omega) jO hX hY hg h4.1 h4.2⟩,by unfold dh;omega,?_,rfl,by omega,by omega⟩
  rw [vA,show 4*i+(c+1)=4*i+c+1 by omega,iq,show (4*i+c)/4=i by omega,show (4*i+c)%4=c by omega]
 ·exact ⟨by unfold dh;omega,by rw [show 4*i+c=4*(i+1) by omega],rfl,by omega,by omega⟩
noncomputable def zb (b:dL) (nB:Nat) (B:Nat->Int) (nO:Nat) (O:Nat->Int) (W G L:Int):eA:={ dz:=[(1,[(1,.res fun _=>dI (iq (b.N 0) (b.X 0) (b.Y 0) G W (4*b.N 0)))]),(4,[(10,.pos),(11,.res fun l=> .dt (aI l 1+1).toNat [fun k=>dI (rh nB B nO O W G L k)])])],loops:=[],dK:=[] }
namespace w3p
noncomputable section
structure Z where
 b:dL
 nB:Nat
 B:Nat->Int
 nO:Nat
 O:Nat->Int
 W:Int
 G:Int
 L:Int
variable (z:Z) (i0:Nat)
abbrev x0:Int:=(↑(Lay.fQ z.nB z.B z.nO z.O z.W z.G z.L):Int)
abbrev x1:=iq (z.b.N 0) (z.b.X 0) (z.b.Y 0) z.G z.W (4*z.b.N 0)
abbrev x2:=Uf (x1 z) (x0 z)
abbrev x3:=Int.toNat (x1 z/x0 z+1)
abbrev x4:=DV.dt (Lay.ir z.nB z.B z.nO z.O z.W z.G z.L) [fun i0=>dI (Lay.eI z.nB z.B z.nO z.O i0),fun i0=>dI (Lay.ew z.nB i0),fun i0=>dB (decide (z.nB<=i0))]
abbrev x5:=rh z.nB z.B z.nO z.O z.W z.G z.L i0
abbrev xt:VT:=VT.dk [dv prog 95 [DV.dV [DV.val (Value.string z.b.name),DV.dt z.b.nS [fun i0=>dI (z.b.fl i0),fun i0=>DV.dt (z.b.N i0) [fun i1=>dI (z.b.X i0 i1),fun i1=>dI (z.b.Y i0 i1)]],dI z.b.dE,DV.dt z.b.nO [fun i0=>dI (z.b.O i0 0),fun i0=>dI (z.b.O i0 1),fun i0=>dI (z.b.O i0 2),fun i0=>dI (z.b.O i0 3),fun i0=>dI (z.b.O i0 4),fun i0=>dI (z.b.O i0 5)],DV.dt z.b.nB [fun i0=>dI (z.b.B i0 0),fun i0=>dI (z.b.B i0 1),fun i0=>dI (z.b.B i0 2),fun i0=>dI (z.b.B i0 3),fun i0=>dI (z.b.B i0 4),fun i0=>dI (z.b.B i0 5)],DV.dt z.nB [fun i0=>dI (z.B i0)],DV.dt z.nO [fun i0=>dI (z.O i0)],dI z.W,dI z.G,dI z.L,dI (x0 z),x4 z,DV.dt (z.b.N 0) [fun i0=>dI (z.b.X 0 i0),fun i0=>dI (z.b.Y 0 i0),fun i0=>dI (z.b.X 0 (ix (z.b.N 0) ((i0:Int)+1))),fun i0=>dI (z.b.Y 0 (ix (z.b.N 0) ((i0:Int)+1))),fun i0=>dI (fb (z.b.N 0) (z.b.X 0) (z.b.Y 0) (i0:Int)),fun i0=>dI (dD (z.b.N 0) (z.b.X 0) (z.b.Y 0) (i0:Int))],DV.dt (z.b.N 0) [fun i0=>dI (ov (z.b.N 0) (z.b.X 0) (z.b.Y 0) i0)]]] (dI (x1 z))] (VT.dk [dh (4000*x0 z)] (VT.ite (decide ((x1 z)>(4000*x0 z))) (VT.done [x2 z=0,8=J9 (x1 z) (x0 z)]) (VT.dk [0<=x1 z/\0<x0 z/\x1 z<=9223372036854775807,dv prog 59 [DV.agg [dI (x0 z),x4 z],dI (x1 z/x0 z)] (DV.dt (x3 z) [fun i0=>dI (x5 z i0)])] (VT.done [x3 z=x2 z,∀i0<x2 z,rf (x5 z i0),0=J9 (x1 z) (x0 z)]))))
end
end w3p
open w3p in
theorem yw (b:dL) (nB:Nat) (B:Nat->Int) (nO:Nat) (O:Nat->Int) (W G L:Int) (hn:0<b.N 0) (jO:b.N 0<=1000) (hX:kd (b.N 0) (b.X 0)) (hY:kd (b.N 0) (b.Y 0)) (hg:mK G W) (hs:Lay.fm nB B nO O W G L=0):dv prog 32 [yo b nB B nO O W G L] (.fC [.dt (Uf (iq (b.N 0) (b.X 0) (b.Y 0) G W (4*b.N 0)) (Lay.fQ nB B nO O W G L)) [fun k=>dI (rh nB B nO O W G L k)],dI (J9 (iq (b.N 0) (b.X 0) (b.Y 0) G W (4*b.N 0)) (Lay.fQ nB B nO O W G L))]):=by
 refine dm dJ (zb b nB B nO O W G L) (V:=xt ⟨b,nB,B,nO,O,W,G,L⟩) (by kernel_rfl) ?_
 simp only [xt,x0,x1,x2,x3,x4,x5,Rf,VT.holds,dC,Sq]
 obtain ⟨s1,s2,s3,sB,sO,_,_⟩:=Lay.k7 hs
 have hu:=Lay.oT s1 sB sO
 have cu:Lay.fQ nB B nO O W G L=Lay.eO nB B nO O (nB+nO):=by rw [Lay.fQ,ag hs]
 have cn:Lay.ir nB B nO O W G L=nB+nO:=by rw [Lay.ir,ag hs]
 have hl:=zt hn hX hY hg (4*b.N 0)
 rw [<-cu] at hu
 have hq:iq (b.N 0) (b.X 0) (b.Y 0) G W (4*b.N 0)>4000*(Lay.fQ nB B nO O W G L:Int)\/iq (b.N 0) (b.X 0) (b.Y 0) G W (4*b.N 0)/(Lay.fQ nB B nO O W G L:Int)<=4000:=by
  by_cases h:iq (b.N 0) (b.X 0) (b.Y 0) G W (4*b.N 0)>4000*(Lay.fQ nB B nO O W G L:Int)
  ·exact .inl h
  ·refine .inr ?_
   have:=Int.ediv_le_ediv (a:=iq (b.N 0) (b.X 0) (b.Y 0) G W (4*b.N 0)) (b:=4000*(Lay.fQ nB B nO O W G L:Int)) (c:=(Lay.fQ nB B nO O W G L:Int)) (by omega) (by omega)
   rwa [Int.mul_ediv_cancel _ (by omega)] at this
 have hq0:=cq hl.1 (show 0<=(Lay.fQ nB B nO O W G L:Int) by omega)
 refine ⟨NF b nB B nO O W G L hn jO hX hY hg,by unfold dh;omega,fun h=> ?_,fun h=>⟨⟨by omega,?_⟩,?_,?_⟩⟩
 ·exact ⟨by rw [Uf,J9,ag h];rfl,by rw [J9,ag h]⟩
 ·have:=Lay.Ls (Lay.eO nB B nO O (nB+nO)) (nB+nO) (Lay.eI nB B nO O) (Lay.ew nB) (fun i=>decide (nB<=i)) (iq (b.N 0) (b.X 0) (b.Y 0) G W (4*b.N 0)/(Lay.fQ nB B nO O W G L:Int)) (by rw [<-cu];omega) (by omega) (fun i hi=>Lay.od sB sO hi) (fun i hi=>Lay.pM sB sO hi) (fun i _=>Lay.AD nB i) hq0 (by omega)
  rw [cn]
  rw [<-cu] at this
  unfold rh
  rw [cu] at this ⊢
  exact this
 ·rw [Uf,J9,ab h,ag rfl]
 ·rw [J9,ab h]
noncomputable def K7 (c0 c1:DV) (rf:Int) (c3 c4 c5 c6:DV) (W G L:Int) (u:Nat) (oA:DV) (n:Nat) (X Y:Nat->Int) (N:Nat) (T:Nat->Int) (i a e:Int):eA:={ dz:=[(1,[(4,.res fun _=>dI (ko n X Y G W i a e))]),(2,[(9,.pos)]),(4,[(7,.pos)])],loops:=[],dK:=[] }
namespace w3q
noncomputable section
structure Z where
 c0:DV
 c1:DV
 rf:Int
 c3:DV
 c4:DV
 c5:DV
 c6:DV
 W:Int
 G:Int
 L:Int
 u:Nat
 oA:DV
 n:Nat
 X:Nat->Int
 Y:Nat->Int
 N:Nat
 T:Nat->Int
 i:Int
 a:Int
 e:Int
variable (z:Z) (P:List Prop)
abbrev x0:=ko z.n z.X z.Y z.G z.W z.i z.a z.e
abbrev x1:=decide ((x0 z)<(0:Int))
abbrev x2:Int:=(z.u:Int)
abbrev x3:=(!(x1 z))=true
abbrev x4:List Prop:=ri (x3 z)::ri (x3 z)::P
abbrev xt:VT:=VT.dk [dv prog 37 [DV.dV [z.c0,z.c1,dI z.rf,z.c3,z.c4,z.c5,z.c6,dI z.W,dI z.G,dI z.L,dI (x2 z),z.oA,DV.dt z.n [fun i0=>dI (z.X i0),fun i0=>dI (z.Y i0),fun i0=>dI (z.X (ix z.n ((i0:Int)+1))),fun i0=>dI (z.Y (ix z.n ((i0:Int)+1))),fun i0=>dI (fb z.n z.X z.Y (i0:Int)),fun i0=>dI (dD z.n z.X z.Y (i0:Int))],DV.dt z.n [fun i0=>dI (ov z.n z.X z.Y i0)]],dI z.i,dI z.a,dI z.e] (dI (x0 z))] (VT.dk (x4 z (x4 z (x4 z [x3 z->0<=x0 z/\0<x2 z,ri (x3 z),x1 z=false->x3 z]))) (VT.ite (if (x1 z)=true then true else (x0 z%x2 z !=0)) (VT.done [(-(1:Int))=CJ z.T (x2 z) (x0 z)]) (VT.dk [0<=x0 z/\0<x2 z/\x0 z<=9223372036854775807,0<=x0 z/x2 z/\x0 z/x2 z<(z.N:Int)] (VT.done [(z.T (Int.toNat (x0 z/x2 z)))=CJ z.T (x2 z) (x0 z)]))))
end
end w3q
open w3q in
theorem Z4 (c0 c1:DV) (rf:Int) (c3 c4 c5 c6:DV) (W G L:Int) (u:Nat) (oA:DV) (n:Nat) (X Y:Nat->Int) (N:Nat) (T:Nat->Int) (i a e:Int) (h:0<=i/\i<n) (jO:n<=1000) (hX:kd n X) (hY:kd n Y) (hg:mK G W) (ha:0<=a/\a<=1) (he:0<=e/\e<=1) (hu:1<=u/\u<=10000) (hN:ko n X Y G W i a e/u<N):dv prog 34 [uX c0 c1 rf c3 c4 c5 c6 W G L (dI (u:Int)) oA n X Y,Lay.nums N T,dI i,dI a,dI e] (dI (CJ T u (ko n X Y G W i a e))):=by
 refine dm dJ (K7 c0 c1 rf c3 c4 c5 c6 W G L u oA n X Y N T i a e) (V:=xt ⟨c0,c1,rf,c3,c4,c5,c6,W,G,L,u,oA,n,X,Y,N,T,i,a,e⟩) (by kernel_rfl) ?_
 simp only [xt,x0,x1,x2,x3,x4,Rf,VT.holds,dC,Sq]
 have hb:=P8 (by omega) hX hY hg i ha he
 refine ⟨uU _ _ _ _ _ _ _ _ _ _ _ _ _ _ _ _ _ _ h jO hX hY hg ha he,fun h1=>by omega,fun h1=>by rw [CJ,ag h1],fun h1=>⟨⟨by omega,cq (by omega) (by omega),hN⟩,?_⟩⟩
 rw [CJ,ab (by omega)]
end Go.Abs
end
section
set_option maxRecDepth 100000
namespace Go.Abs
open Go
def FI (nB:Nat) (B:Nat->Int) (nO:Nat) (O:Nat->Int) (W G L:Int):Int:=(Lay.fQ nB B nO O W G L:Nat)
def lgF (b:dL) (G W u:Int):Bool:=decide (∃i,i<b.N 0/\ko (b.N 0) (b.X 0) (b.Y 0) G W (i:Nat) 1 0>4000*u)
def NG (b:dL) (G W u:Int):Bool:=decide (∀i,i<b.N 0-> ¬(ko (b.N 0) (b.X 0) (b.Y 0) G W (i:Nat) 1 0>800*u/\ko (b.N 0) (b.X 0) (b.Y 0) G W (i:Nat) 1 0<=4000*u))
section
variable {b:dL} {nB:Nat} {B:Nat->Int} {nO:Nat} {O:Nat->Int} {W G L:Int}
theorem u_bdB (hs:Lay.fm nB B nO O W G L=0):FI nB B nO O W G L=me nB B nO O/\1<=me nB B nO O/\me nB B nO O<=10000:=Nb hs
end
noncomputable def Jg (b:dL) (nB:Nat) (B:Nat->Int) (nO:Nat) (O:Nat->Int) (W G L:Int):eA:={ dz:=[(1,[(2,.res fun _=>dI (me nB B nO O))]),(5,[(5,.res fun l=>dI (ko (b.N 0) (b.X 0) (b.Y 0) G W (aI l 2) 1 0))])],loops:=[(0,{ ι:=Nat,keep:=[1,3],boxes:=[1],ts:=fun _ i=>[(4,dI (i:Int))],inv:=fun _ i=>i<=b.N 0/\ ∀k,k<i-> ¬(ko (b.N 0) (b.X 0) (b.Y 0) G W (k:Nat) 1 0>800*(me nB B nO O)/\ko (b.N 0) (b.X 0) (b.Y 0) G W (k:Nat) 1 0<=4000*(me nB B nO O)),mu:=fun _ i=>b.N 0 - i,rd:=fun _ σ=>(ez (σ.get 4)).toNat })],dK:=[] }
namespace w3r
noncomputable section
structure Z where
 b:dL
 nB:Nat
 B:Nat->Int
 nO:Nat
 O:Nat->Int
 W:Int
 G:Int
 L:Int
variable (z:Z) (i0 i1:Nat) (P:List Prop) (a:Int) (k:Nat) (g:Bool)
abbrev x0:=me z.nB z.B z.nO z.O
abbrev x1:=i0<z.b.nO->rf (z.b.O i0 k)
abbrev x2:=i0<z.b.nB->rf (z.b.B i0 k)
abbrev x3:=ko (z.b.N 0) (z.b.X 0) (z.b.Y 0) z.G z.W a 1 0
abbrev x4:=decide ((x3 z (i0:Int))>(800*x0 z))
abbrev x5:=Int.toNat ((i0:Int)+1)
abbrev x6:=i1<k->(¬(x3 z (i1:Int)>800*x0 z/\x3 z (i1:Int)<=4000*x0 z))
abbrev x7:=DV.agg [DV.dt z.nB [fun i0=>dI (z.B i0)],DV.dt z.nO [fun i0=>dI (z.O i0)],dI z.W,dI z.G,dI z.L]
abbrev x8:=VT.done [g=NG z.b z.G z.W (x0 z)]
abbrev x9:List Prop:=(a=(k:Int))::rf (x0 z)::rf z.b.name::rf z.b.nS::(∀i0<z.b.nS,rf (z.b.fl i0))::(∀i0<z.b.nS,rf (z.b.N i0)/\(∀i1<z.b.N i0,rf (z.b.X i0 i1))/\(∀i1<z.b.N i0,rf (z.b.Y i0 i1)))::rf z.b.dE::rf z.b.nO::(∀(i0:Nat),x1 z i0 (0:Nat))::(∀(i0:Nat),x1 z i0 (1:Nat))::(∀(i0:Nat),x1 z i0 (2:Nat))::(∀(i0:Nat),x1 z i0 (3:Nat))::(∀(i0:Nat),x1 z i0 (4:Nat))::(∀(i0:Nat),x1 z i0 (5:Nat))::rf z.b.nB::(∀(i0:Nat),x2 z i0 (0:Nat))::(∀(i0:Nat),x2 z i0 (1:Nat))::(∀(i0:Nat),x2 z i0 (2:Nat))::(∀(i0:Nat),x2 z i0 (3:Nat))::(∀(i0:Nat),x2 z i0 (4:Nat))::(∀(i0:Nat),x2 z i0 (5:Nat))::rf z.nB::(∀i0<z.nB,rf (z.B i0))::rf z.nO::(∀i0<z.nO,rf (z.O i0))::rf z.W::rf z.G::rf z.L::P
abbrev xt:VT:=VT.dk [dv prog 72 [x7 z] (dI (x0 z))] (VT.loop Nat (fun i0=>i0<=z.b.N 0/\(∀(i1:Nat),x6 z i1 i0)) (Int.toNat 0) (x9 z [] (0:Int) (Int.toNat 0)) (fun i0=>VT.dk [(0:Int)<=(0:Int)/\0<(z.b.nS:Int)] (VT.ite (decide ((i0:Int)<(↑(z.b.N (Int.toNat 0)):Int))) (VT.dk [dv prog 73 [kz z.b,x7 z,dI (i0:Int),dI 1,dI 0] (dI (x3 z (i0:Int)))] (VT.dk [dh (800*x0 z),ri (x4 z i0=true),x4 z i0=true->dh (4000*x0 z),ri (x4 z i0=true),ri (x4 z i0=true),ri (x4 z i0=true)] (VT.ite (if (x4 z i0)=true then (decide ((x3 z (i0:Int))<=(4000*x0 z))) else false) (x8 z false) (VT.dk [dh ((i0:Int)+1)] (VT.done (x9 z [x5 i0<=z.b.N 0/\(∀(i1:Nat),x6 z i1 (x5 i0)),z.b.N 0 - x5 i0<z.b.N 0 - i0] ((i0:Int)+1) (x5 i0))))))) (x8 z true))))
end
end w3r
open w3r in
theorem Uk (b:dL) (nB:Nat) (B:Nat->Int) (nO:Nat) (O:Nat->Int) (W G L:Int) (h0:ij b nB B nO O W G L=0):dv prog 25 [QN b nB B nO O W G L] (dB (NG b G W (me nB B nO O))):=by
 refine dm dJ (Jg b nB B nO O W G L) (V:=xt ⟨b,nB,B,nO,O,W,G,L⟩) (by kernel_rfl) ?_
 simp only [xt,x0,x1,x2,x3,x4,x5,x6,x7,x8,x9,Rf,VT.holds,dC,Sq]
 obtain ⟨hc,hs,_,_,_,_,_⟩:=iy h0
 obtain ⟨b1,b2,b3,b4,b5⟩:=nE hc
 have hn:=fO b2
 have g1:=(jV hs).1
 obtain ⟨u1,u2,u3⟩:=u_bdB hs
 obtain ⟨s1,s2,s3,sB,sO,_,_⟩:=Lay.k7 hs
 refine ⟨Lay.Ty nB B nO O W G L s2 s3 sB sO,rfl,⟨aq _,fun k hk=>absurd hk (aG k)⟩,fun i ⟨hi,hb⟩=>⟨by omega,fun dR=>⟨DB b nB B nO O W G L i 1 0 b1 b2 g1 (by omega) (by omega) (by omega),⟨by unfold dh;omega,fun _=>by unfold dh;omega⟩,fun h=> ?_,fun h=>⟨by unfold dh;omega,rfl,⟨by omega,fun k hk=> ?_⟩,by omega⟩⟩,fun iG=> ?_⟩⟩
 ·rw [NG,bX,aj]
  exact fun hx=>hx i (by omega) h
 ·by_cases e:k=i
  ·rw [e];exact fun hx=>h hx.1 hx.2
  ·exact hb k (by omega)
 ·rw [NG,bX,ah]
  exact fun k hk=>hb k (by omega)
end Go.Abs
end
section
set_option maxRecDepth 100000
namespace Go.Abs
open Go
def R0 (k:Nat->Int) (x0 x1:Int) (m:Int) (c b:Nat):Bool:=decide (c%2=b/\0<=pr x0 x1 (c/2)/\0<=k c/\(m<0\/pr x0 x1 (c/2)+k c<m))
def Gp (k:Nat->Int) (x0 x1:Int):Nat->Nat->Int
 |0,_=> -1
 |c+1,b=>if R0 k x0 x1 (Gp k x0 x1 c b) c b=true then pr x0 x1 (c/2)+k c else Gp k x0 x1 c b
def KI (k:Nat->Int) (x0 x1:Int):Nat->Nat->Int
 |0,_=>0
 |c+1,b=>if R0 k x0 x1 (Gp k x0 x1 c b) c b=true then ((c/2:Nat):Int) else KI k x0 x1 c b
def RX (K:Nat->Nat->Int) (f:Nat):Nat->Nat->Int
 |0,b=>if b=f then 0 else -1
 |i+1,b=>Gp (K i) (RX K f i 0) (RX K f i 1) 4 b
def dpF (K:Nat->Nat->Int) (f:Nat):Nat->Nat->Int
 |0,_=>0
 |i+1,b=>KI (K i) (RX K f i 0) (RX K f i 1) 4 b
def mnS (x y:Int):Nat->Int
 |0=>if 0<=x then x else -1
 |_+1=>if 0<=y/\((if 0<=x then x else -1)<0\/y<(if 0<=x then x else -1)) then y else if 0<=x then x else -1
section
variable {k:Nat->Int} {x0 x1:Int} {m:Int}
theorem RZ {X Y:Int} (hx: -1<=x0/\x0<=X) (hy: -1<=x1/\x1<=X) (hX: -1<=X) (hk: ∀c,c<4-> -1<=k c/\k c<=Y) (hY:0<=Y): ∀c b,c<=4-> -1<=Gp k x0 x1 c b/\Gp k x0 x1 c b<=X+Y
 |0,b,_=>by rw [Gp];omega
 |c+1,b,hc=>by
  have h1:=RZ hx hy hX hk hY c b (by omega)
  have h2:=hk c (by omega)
  rw [Gp]
  split
  ·rename_i h
   rw [R0,ah] at h
   obtain ⟨_,h3,h4,_⟩:=h
   have h5:pr x0 x1 (c/2)<=X:=by
    rcases (show c/2=0\/c/2=1 by omega) with e|e<;>rw [e]
    ·exact hx.2
    ·exact hy.2
   omega
  ·exact h1
theorem RY: ∀c b,b<=1->c<=4->0<=Gp k x0 x1 c b->(KI k x0 x1 c b=0\/KI k x0 x1 c b=1)/\0<=pr x0 x1 (KI k x0 x1 c b).toNat/\0<=k (2*(KI k x0 x1 c b).toNat+b)/\Gp k x0 x1 c b=pr x0 x1 (KI k x0 x1 c b).toNat+k (2*(KI k x0 x1 c b).toNat+b)
 |0,b,_,_,h=>by rw [Gp] at h;omega
 |c+1,b,hb,hc,h=>by
  rw [Gp] at h ⊢
  rw [KI]
  by_cases e:R0 k x0 x1 (Gp k x0 x1 c b) c b=true
  ·rw [ag e,ag e]
   rw [R0,ah] at e
   have e2:2*((c/2:Nat):Int).toNat+b=c:=by omega
   have e3:((c/2:Nat):Int).toNat=c/2:=by omega
   rw [e2,e3]
   exact ⟨by omega,e.2.1,e.2.2.1,rfl⟩
  ·rw [ab e] at h ⊢
   rw [ab e]
   exact RY c b hb (by omega) h
end
theorem KH {K:Nat->Nat->Int} {f n:Nat} {Y:Int} (hY:0<=Y) (hK: ∀i c,i<n->c<4-> -1<=K i c/\K i c<=Y): ∀i b,i<=n-> -1<=RX K f i b/\RX K f i b<=i*Y
 |0,b,_=>by rw [RX];split<;>omega
 |i+1,b,hi=>by
  have h0:=KH (f:=f) hY hK i 0 (by omega)
  have h1:=KH (f:=f) hY hK i 1 (by omega)
  have hp:0<=(i:Int)*Y:=Int.mul_nonneg (by omega) hY
  have:=RZ h0 h1 (by omega) (fun c hc=>hK i c (by omega) hc) hY 4 b (ae _)
  rw [RX,show ((i+1:Nat):Int)=(i:Int)+1 by omega,Int.add_mul]
  omega
def kb (b:dL) (G W i a e:Int):Int:=ko (b.N 0) (b.X 0) (b.Y 0) G W i a e
def jP (nB:Nat) (B:Nat->Int) (nO:Nat) (O:Nat->Int) (x:Int):Int:=CJ (Lay.yf nB B nO O) (me nB B nO O) x
def kR (b:dL) (nB:Nat) (B:Nat->Int) (nO:Nat) (O:Nat->Int) (W G:Int) (i c:Nat):Int:=jP nB B nO O (kb b G W i ((c/2:Nat):Int) ((c%2:Nat):Int))
def dX (b:dL) (nB:Nat) (B:Nat->Int) (nO:Nat) (O:Nat->Int) (W G:Int) (f i e:Nat):Int:=RX (kR b nB B nO O W G) f i e
def dZ (b:dL) (nB:Nat) (B:Nat->Int) (nO:Nat) (O:Nat->Int) (W G:Int) (f i c e:Nat):Int:=Gp (kR b nB B nO O W G i) (dX b nB B nO O W G f i 0) (dX b nB B nO O W G f i 1) c e
section
variable {b:dL} {nB:Nat} {B:Nat->Int} {nO:Nat} {O:Nat->Int} {W G L:Int}
theorem wE (hs:Lay.fm nB B nO O W G L=0) {x:Int} (h:x<=4000*me nB B nO O): -1<=jP nB B nO O x/\jP nB B nO O x<=40010000:=by
 obtain ⟨_,u1,u2⟩:=Nb hs
 unfold jP CJ
 split
 ·omega
 ·rename_i hn
  have hx:0<=x:=by omega
  have q0:0<=x/me nB B nO O:=cq hx (by omega)
  have q1:x/me nB B nO O<=4000:=by
   have:=Int.ediv_le_ediv (show 0<me nB B nO O by omega) h
   rwa [Int.mul_ediv_cancel _ (by omega)] at this
  have hb:=Lay.EB (l:=Lay.wU (Lay.mV nB B O (nB+nO)) (Lay.vh nB B O) (Lay.rA nB) (nB+nO)) (fun p hp=>by
   obtain ⟨i,_,rfl⟩:=bf.1 hp
   show 0<=Lay.rA nB i/\Lay.rA nB i<=10001
   unfold Lay.rA
   split
   ·split<;>omega
   ·omega) (x/me nB B nO O).toNat
  have he:Lay.yf nB B nO O (x/me nB B nO O).toNat=Lay.j9 (Lay.wU (Lay.mV nB B O (nB+nO)) (Lay.vh nB B O) (Lay.rA nB) (nB+nO)) (x/me nB B nO O).toNat:=rfl
  rw [he]
  have:10001*((x/me nB B nO O).toNat:Int)<=40004000:=by omega
  omega
theorem ru (h0:ij b nB B nO O W G L=0) (hl: ∀i,i<b.N 0->ko (b.N 0) (b.X 0) (b.Y 0) G W (i:Nat) 1 0<=4000*(me nB B nO O)) {i:Nat} (hi:i<b.N 0) {a e:Int} (ha:0<=a/\a<=1) (he:0<=e/\e<=1):kb b G W i a e<=4000*me nB B nO O/\ -9000000<=kb b G W i a e/\kb b G W i a e<=9000000:=by
 obtain ⟨hc,hs,_,_,_,_,_⟩:=iy h0
 obtain ⟨b1,b2,b3,b4,b5⟩:=nE hc
 have hn4:=fO b2
 obtain ⟨hX,hY⟩:=eS b2
 have g1:=(jV hs).1
 have h1:=VG (n:=b.N 0) (X:=b.X 0) (Y:=b.Y 0) g1 (i:Int) ha he
 have h2:=P8 (n:=b.N 0) (X:=b.X 0) (Y:=b.Y 0) (by omega) hX hY g1 (i:Int) ha he
 have h3:=hl i hi
 unfold kb
 omega
theorem kR_bd (h0:ij b nB B nO O W G L=0) (hl: ∀i,i<b.N 0->ko (b.N 0) (b.X 0) (b.Y 0) G W (i:Nat) 1 0<=4000*(me nB B nO O)) (i c:Nat) (hi:i<b.N 0) (hc:c<4): -1<=kR b nB B nO O W G i c/\kR b nB B nO O W G i c<=40010000:=
 wE (iy h0).2.1 (ru h0 hl hi (by omega) (by omega)).1
theorem Ed (h0:ij b nB B nO O W G L=0) (hl: ∀i,i<b.N 0->ko (b.N 0) (b.X 0) (b.Y 0) G W (i:Nat) 1 0<=4000*(me nB B nO O)) (f i e:Nat) (hi:i<=b.N 0): -1<=dX b nB B nO O W G f i e/\dX b nB B nO O W G f i e<=2000000000:=by
 have hn4:=fO (nE (iy h0).1).2.1
 have h:=KH (K:=kR b nB B nO O W G) (f:=f) (n:=b.N 0) (Y:=40010000) (by omega) (fun i c hi hc=>kR_bd h0 hl i c hi hc) i e hi
 unfold dX
 omega
variable {f i c e:Nat} {x k:Int}
theorem mB (h:c%2≠e):dZ b nB B nO O W G f i c e=dZ b nB B nO O W G f i (c+1) e:=by
 unfold dZ
 rw [Gp,ab]
 rw [R0,ah]
 exact fun hx=>h hx.1
theorem ya (hx:pr (dX b nB B nO O W G f i 0) (dX b nB B nO O W G f i 1) (c/2)=x) (hk:kR b nB B nO O W G i c=k) (h1:c%2=e) (h2:(x>=0/\k>=0)/\(dZ b nB B nO O W G f i c e<0\/x+k<dZ b nB B nO O W G f i c e)):x+k=dZ b nB B nO O W G f i (c+1) e:=by
 unfold dZ at h2 ⊢
 rw [Gp,ag,hx,hk]
 rw [R0,ah,hx,hk]
 exact ⟨h1,h2.1.1,h2.1.2,h2.2⟩
theorem mn (hx:pr (dX b nB B nO O W G f i 0) (dX b nB B nO O W G f i 1) (c/2)=x) (hk:kR b nB B nO O W G i c=k) (h2:x>=0/\k>=0-> ¬dZ b nB B nO O W G f i c e<0/\ ¬x+k<dZ b nB B nO O W G f i c e):dZ b nB B nO O W G f i c e=dZ b nB B nO O W G f i (c+1) e:=by
 unfold dZ at h2 ⊢
 rw [Gp,ab]
 rw [R0,ah,hx,hk]
 exact fun h=>by
  have:=h2 ⟨h.2.1,h.2.2.1⟩
  have:=h.2.2.2
  omega
end
end Go.Abs
end
section
namespace Go.Proofs
open Go.Shelf
def Tryz.Dx:Go.Shelf.Ren:=⟨fun|6=>97|15=>142|14=>141|28=>167|29=>168|20=>159|21=>160|22=>161|23=>162|24=>163|25=>164|26=>165|27=>166|46=>179|47=>180|48=>181|49=>182|50=>183|57=>190|n=>n,fun|22=>27|24=>3|25=>91|3=>3|39=>201|0=>0|53=>223|55=>225|4=>4|46=>217|45=>216|50=>175|5=>5|9=>9|66=>232|70=>236|76=>242|77=>185|n=>n,fun|n=>n⟩
theorem Tryz.VF:Go.Proofs.SlLaysF.n6 Tryz.prog Tryz.Dx:={ mixed:=by kernel_rfl,f6:=⟨Tryz.f97.name,by decide,Tryz.func97.trans (congrArg some (by kernel_rfl))⟩,f14:=⟨Tryz.f141.name,by decide,Tryz.func141.trans (congrArg some (by kernel_rfl))⟩,f15:=Tryz.func142.trans (congrArg some (by kernel_rfl)),f20:=⟨Tryz.f159.name,by decide,Tryz.func159.trans (congrArg some (by kernel_rfl))⟩,f21:=⟨Tryz.f160.name,by decide,Tryz.func160.trans (congrArg some (by kernel_rfl))⟩,f22:=⟨Tryz.f161.name,by decide,Tryz.func161.trans (congrArg some (by kernel_rfl))⟩,f23:=⟨Tryz.f162.name,by decide,Tryz.func162.trans (congrArg some (by kernel_rfl))⟩,f24:=⟨Tryz.f163.name,by decide,Tryz.func163.trans (congrArg some (by kernel_rfl))⟩,f25:=⟨Tryz.f164.name,by decide,Tryz.func164.trans (congrArg some (by kernel_rfl))⟩,f26:=⟨Tryz.f165.name,by decide,Tryz.func165.trans (congrArg some (by kernel_rfl))⟩,f27:=⟨Tryz.f166.name,by decide,Tryz.func166.trans (congrArg some (by kernel_rfl))⟩,f28:=Tryz.func167.trans (congrArg some (by kernel_rfl)),f29:=Tryz.func168.trans (congrArg some (by kernel_rfl)),f46:=⟨Tryz.f179.name,by decide,Tryz.func179.trans (congrArg some (by kernel_rfl))⟩,f47:=Tryz.func180.trans (congrArg some (by kernel_rfl)),f48:=Tryz.func181.trans (congrArg some (by kernel_rfl)),f49:=⟨Tryz.f182.name,by decide,Tryz.func182.trans (congrArg some (by kernel_rfl))⟩,f50:=⟨Tryz.f183.name,by decide,Tryz.func183.trans (congrArg some (by kernel_rfl))⟩,f57:=⟨Tryz.f190.name,by decide,Tryz.func190.trans (congrArg some (by kernel_rfl))⟩,t0:=Tryz.underlying0,a0:=Tryz.isAgg0,z0:=Tryz.sizeOf0,v0:=Tryz.zeroValue0,t3:=Tryz.underlying3,a3:=Tryz.isAgg3,z3:=Tryz.sizeOf3,v3:=Tryz.zeroValue3,t4:=Tryz.underlying4,a4:=Tryz.isAgg4,z4:=Tryz.sizeOf4,v4:=Tryz.zeroValue4,t5:=Tryz.underlying5,a5:=Tryz.isAgg5,z5:=Tryz.sizeOf5,v5:=Tryz.zeroValue5,t9:=Tryz.underlying9,a9:=Tryz.isAgg9,z9:=Tryz.sizeOf9,v9:=Tryz.zeroValue9,t22:=Tryz.underlying27,a22:=Tryz.isAgg27,z22:=Tryz.sizeOf27,v22:=Tryz.zeroValue27,a24:=Tryz.isAgg3,z24:=Tryz.sizeOf3,t25:=Tryz.underlying91,a25:=Tryz.isAgg91,z25:=Tryz.sizeOf91,v25:=Tryz.zeroValue91,t39:=Tryz.underlying201,a39:=Tryz.isAgg201,z39:=Tryz.sizeOf201,v39:=Tryz.zeroValue201,t45:=Tryz.underlying216,a45:=Tryz.isAgg216,z45:=Tryz.sizeOf216,v45:=Tryz.zeroValue216,t46:=Tryz.underlying217,a46:=Tryz.isAgg217,z46:=Tryz.sizeOf217,v46:=Tryz.zeroValue217,t50:=Tryz.underlying175,a50:=Tryz.isAgg175,z50:=Tryz.sizeOf175,v50:=Tryz.zeroValue175,t53:=Tryz.underlying223,a53:=Tryz.isAgg223,z53:=Tryz.sizeOf223,v53:=Tryz.zeroValue223,t55:=Tryz.underlying225,a55:=Tryz.isAgg225,z55:=Tryz.sizeOf225,v55:=Tryz.zeroValue225,t66:=Tryz.underlying232,a66:=Tryz.isAgg232,z66:=Tryz.sizeOf232,v66:=Tryz.zeroValue232,t70:=Tryz.underlying236,a70:=Tryz.isAgg236,z70:=Tryz.sizeOf236,v70:=Tryz.zeroValue236,t76:=Tryz.underlying242,a76:=Tryz.isAgg242,z76:=Tryz.sizeOf242,v76:=Tryz.zeroValue242,t77:=Tryz.underlying185,a77:=Tryz.isAgg185,z77:=Tryz.sizeOf185,v77:=Tryz.zeroValue185 }
end Go.Proofs
end
section
set_option maxRecDepth 100000
namespace Go.Abs.Lay
open Go Go.RowKit Go.Shelf Go.Lib Go.Sort Go.Proofs
attribute [local go_sem] Oper.semAt_some
def mY (l:List Int):List Int:=l.mergeSort fun x y=>decide (y<=x)
abbrev Sm:=Fin 16384
def encS (x:Sm):Value:= .int .i64 (x.val:Int)
def Sf (x y:Sm):Int:=(y.val:Int) - (x.val:Int)
theorem ltS (x y:Sm):ltOf Sf x y=decide (y.val<x.val):=by
 unfold ltOf Sf
 rw [bu];omega
theorem swoS:SWO (ltOf Sf) where
 irrefl x:=by rw [ltS];simp
 trans x y z h1 h2:=by rw [ltS,ah] at*;omega
 ntrans x y z h1 h2:=by rw [ltS,aj] at*;omega
theorem totS (x y:Sm) (h1:ltOf Sf x y=false) (h2:ltOf Sf y x=false):x=y:=by
 rw [ltS,aj] at*
 exact Fin.ext (by omega)
theorem geS:(fun x y:Sm=> !ltOf Sf y x)=fun x y=>decide (y.val<=x.val):=by
 funext x y
 rw [ltS]
 by_cases h:y.val<=x.val
 ·rw [bz h,bI (by omega)];rfl
 ·rw [bI h,bz (by omega)];rfl
set_option maxHeartbeats 1000000 in
theorem Z5 (x y:Sm) (W:World):Calls prog 98 #[encS x,encS y] W fun e w'=>e= .returned (.int .i64 (Sf x y))/\ ∃q,w'=W.drewN q:=by
 have mixed:=dJ
 have h1:=x.isLt
 have h2:=y.isLt
 unfold encS Sf
 generalize x.val=a at*
 generalize y.val=b at*
 go_enter Go.Proofs.Tryz.func98,Go.Proofs.Tryz.ntmps98
 go_wp2
 go_ret
 exact ⟨rfl,0,rfl⟩
def TG (x:Int):Sm:=⟨x.toNat%16384,Nat.mod_lt _ (by decide)⟩
theorem MC {x:Int} (h0:0<=x) (h1:x<=10000):((TG x).val:Int)=x:=by
 unfold TG
 show ((x.toNat%16384:Nat):Int)=x
 omega
theorem GM (l:List Int) (h: ∀x∈l,0<=x/\x<=10000):((l.map TG).mergeSort fun x y=> !ltOf Sf y x).map (fun x=>(x.val:Int))=mY l:=by
 rw [geS,List.map_mergeSort (s:=fun x y:Int=>decide (y<=x))]
 ·rw [List.map_map,mY]
  congr 1
  conv=>rhs;rw [<-List.map_id l]
  exact List.map_congr_left fun x hx=>MC (h x hx).1 (h x hx).2
 ·intro a _ b _
  rw [bu];omega
theorem Yy (n:Nat) (A:Nat->Int) (hn:n<=1000000) (hA: ∀i,i<n->0<=A i/\A i<=10000):FnT prog 97 n A (fun i=>(mY ((List.range n).map A)).getD i 0) [.val (.func (.func 98) #[] #[])]:=by
 refine ⟨⟨_,Go.Proofs.Tryz.func97,rfl,by kernel_rfl⟩,fun w v0 vs hs hv=> ?_⟩
 match vs,hs with
 |[v1],_=>
  have r1:=hv 0 _ _ rfl rfl
  cases r1
  refine ⟨fun e h0=> ?_,fun g C cv T e hC hh eW fe=> ?_⟩
  ·subst e
   have hS:=AnyF.slices_SortFunc_none (P:=prog) (ρ:=Tryz.Dx) { Tryz.VF with } none 0 (.func (.func 98) #[] #[]) w
   change Calls prog 97 _ _ _ at hS
   exact hS.mono fun e w' ⟨he,hw⟩=>⟨he,by rw [hw];exact Below.refl _ _⟩
  ·subst e
   have hl: ∀x∈(List.range n).map A,0<=x/\x<=10000:=fun x hx=>by
    obtain ⟨i,hi,rfl⟩:=bf.1 hx
    exact hA i (bg.1 hi)
   have hd:((((List.range n).map A).map TG).toArray).size=n:=by simp
   have eg: ∀args w,(callFunc 98 args).run prog w= .ok (.enter 98 args) w:=enters_of Go.Proofs.Tryz.func98 (by kernel_rfl) rfl
   have hH:Holds encS w g 0 (((List.range n).map A).map TG).toArray:=fun j hj=>by
    rw [hd] at hj
    have oQ:=fe j hj
    have ZE:(((List.range n).map A).map TG).toArray[j]! =TG (A j):=by simp [hj]
    refine ⟨?_,?_⟩
    ·rw [ZE,encS,MC (hA j hj).1 (hA j hj).2,aE]
     simp only [World.cell?,hh,oQ]
     rfl
    ·simp [World.frozen?,hh]
   have hS:=Any.slices_SortFunc_total Tryz.VF encS (fun _=>rfl) Sf swoS 98 #[] g 0 C (((List.range n).map A).map TG).toArray w eg (CmpReads.lays (fun _ _ _ _ x y=>Z5 x y _)) hH (ef hh) (by rw [hd];omega) totS
   change Calls prog 97 _ _ _ at hS
   rw [hd] at hS
   refine hS.mono fun e w' ⟨he,m,os,hw⟩=>⟨he,?_⟩
   have hsn:=GM _ hl
   generalize rT:(((List.range n).map A).map TG).toArray.toList.mergeSort (fun x y=> !ltOf Sf y x)=d' at hw
   rw [List.toList_toArray] at rT
   rw [rT] at hsn
   have hdl:d'.length=n:=by rw [<-rT,List.length_mergeSort];simp
   refine ⟨putCells encS 0 d'.toArray cv,putRow encS (Sort.ahead w m) g 0 d'.toArray,by simp [putCells,eW],fun i hi=> ?_,by simp [putRow,mapBlock,Sort.ahead],rfl,rfl,rfl,fun h=>(by cases h),fun k hk=> ?_,?_,?_⟩
   ·have h1:i<d'.length:=by omega
    have h2:i<cv.size:=by omega
    have h3:(mY ((List.range n).map A)).getD i 0=((d'[i]'h1).val:Int):=by rw [<-hsn];simp [h1]
    show (putCells encS 0 d'.toArray cv)[i]? =some (Value.int IntKind.i64 ((mY ((List.range n).map A)).getD i 0))
    rw [h3]
    simp only [putCells,Array.getElem?_mapIdx,az h2,aA,bZ,aq,aE,h1,ck,ba,bJ,encS]
    simp [h1]
   ·simp only [putRow,mapBlock,Sort.ahead,dc]
    rw [ab (fun e=>hk e.symm)]
   ·simp only [putRow,mapBlock,Sort.ahead,dc,ba,hh,aA,onCells]
   ·rw [hw]
    refine ⟨rfl,rfl,rfl,by simp [sortWorld,grow],fun k hk=> ?_,fun h=>(by cases h)⟩
    simp only [sortWorld,grow]
    rw [Array.getElem?_append_left hk]
end Go.Abs.Lay
end
