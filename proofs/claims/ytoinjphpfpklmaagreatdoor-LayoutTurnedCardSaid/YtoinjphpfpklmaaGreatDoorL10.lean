/- Contracts and what they stand on. -/
import Derived.Test.YtoinjphpfpklmaaGreatDoorM51
import Derived.Lib.Walk
import Derived.Test.YtoinjphpfpklmaaGreatDoorGlo
import Derived.Lib.SliceRun
import Derived.Lib.AppendZerosOnto
set_option linter.unusedVariables false
set_option linter.unusedSimpArgs false
section
set_option maxRecDepth 100000
namespace Go.Abs
open Go
def tB (b:dL):dL:=⟨b.name,b.nS,b.fl,b.N,fun i k=> -b.Y i k,fun i k=>b.X i k,b.dE,b.nO,b.O,b.nB,fun i j=>if j=0 then -b.B i 4 else if j=1 then b.B i 0 else if j=3 then -b.B i 1 else if j=4 then b.B i 3 else b.B i j⟩
abbrev aae (b:dL):DV:= .agg [.val (.string b.name),.dt b.nS [fun i=>dI (b.fl i),fun i=>my (b.N i) (fun k=> -b.Y i k) (fun k=>b.X i k)],dI b.dE,.dt b.nO (o9 b),.dt b.nB [fun i=>dI (-b.B i 4),fun i=>dI (b.B i 0),fun i=>dI (b.B i 2),fun i=>dI (-b.B i 1),fun i=>dI (b.B i 3),fun i=>dI (b.B i 5)]]
def rT1:fx:= .res fun l=>dP (-(fI 1 (arg l 0))) (fI 0 (arg l 0))
def rT2:fx:= .res fun l=>bx (-(fI 4 (arg l 0))) (fI 0 (arg l 0)) (fI 2 (arg l 0)) (-(fI 1 (arg l 0))) (fI 3 (arg l 0)) (fI 5 (arg l 0))
abbrev Yx (b:dL):List (Nat->DV):=[fun i=>dI (b.fl i),fun i=>my (b.N i) (fun k=> -b.Y i k) (fun k=>b.X i k)]
abbrev boxT (b:dL):List (Nat->DV):=[fun i=>dI (-b.B i 4),fun i=>dI (b.B i 0),fun i=>dI (b.B i 2),fun i=>dI (-b.B i 1),fun i=>dI (b.B i 3),fun i=>dI (b.B i 5)]
abbrev cloT1:DV:= .val (.func (.func 75) #[] #[])
abbrev cloT2:DV:= .val (.func (.func 76) #[] #[])
noncomputable def I7 (x y:Int):eA:={ dz:=[],loops:=[],dK:=[] }
theorem TB (x y:Int) (h: -1000000<=y/\y<=1000000):dv prog 75 [dP x y] (dP (-y) x):=by
 refine dm dJ (I7 x y) (V:= .dk [dh (-y)] (.done [-y= -y,x=x])) (by kernel_rfl) ?_
 simp only [VT.holds,dC,imp_self,bO,b8,ck,gj,il,fN,bU,cL,bW,ct,bA,cf,an,bQ,aM,bj,df,dg,cw,beq_iff_eq,cx,ah,aj,ne_eq]
 unfold dh;omega
noncomputable def I6 (a b c d e f:Int):eA:={ dz:=[],loops:=[],dK:=[] }
theorem TA (a b c d e f:Int) (h: -1000000<=b/\b<=1000000) (h2: -1000000<=e/\e<=1000000):dv prog 76 [bx a b c d e f] (bx (-e) a c (-b) d f):=by
 refine dm dJ (I6 a b c d e f) (V:= .dk [dh (-e),dh (-b)] (.done [-e= -e,a=a,c=c,-b= -b,d=d,f=f])) (by kernel_rfl) ?_
 simp only [VT.holds,dC,imp_self,bO,b8,ck,gj,il,fN,bU,cL,bW,ct,bA,cf,an,bQ,aM,bj,df,dg,cw,beq_iff_eq,cx,ah,aj,ne_eq]
 unfold dh;omega
noncomputable def Db (b:dL):eA:={ dz:=[(1,[(6,.res fun _=> .dt b.nO (o9 b))]),(9,[(4,rT1)]),(11,[(3,.frp)]),(16,[(4,rT2)])],loops:=[(0,{ ι:=Nat,keep:=[1,2,3,6,7,24,25],boxes:=[3,6],ts:=fun _ i=>[(26,dI (i:Int))],bx:=fun σ i=>[(7,[.val (.string b.name),.row 2 (σ.nx+50) 0 i,dI b.dE,.dt b.nO (o9 b),.val (.slice none 0 0)])],rb:=fun _ i=>[(7,1,2,i,Yx b)],inv:=fun _ i=>i<=b.nS,mu:=fun _ i=>b.nS - i,rd:=fun _ σ=>(ez (σ.get 26)).toNat }),(2,{ ι:=Nat,keep:=[1,2,3,6,7,10,24,25,26,34,35],boxes:=[3,6],ts:=fun _ k=>[(36,dI (k:Int))],bx:=fun σ k=>[(10,[dI (b.fl (ez (σ.get 26)).toNat),.row 2 (σ.nx+50) 0 k]),(7,[.val (.string b.name),.row 2 (σ.nx+51) 0 (ez (σ.get 26)).toNat,dI b.dE,.dt b.nO (o9 b),.val (.slice none 0 0)])],rb:=fun σ k=>[(10,1,2,k,[fun j=>dI (-b.Y (ez (σ.get 26)).toNat j),fun j=>dI (b.X (ez (σ.get 26)).toNat j)]),(7,1,2,(ez (σ.get 26)).toNat,Yx b)],inv:=fun σ k=>k<=b.N (ez (σ.get 26)).toNat,mu:=fun σ k=>b.N (ez (σ.get 26)).toNat - k,rd:=fun _ σ=>(ez (σ.get 36)).toNat }),(4,{ ι:=Nat,keep:=[1,2,3,6,7,57,58],boxes:=[3,6],ts:=fun _ i=>[(59,dI (i:Int))],bx:=fun σ i=>[(7,[.val (.string b.name),.row 2 (σ.nx+50) 0 b.nS,dI b.dE,.dt b.nO (o9 b),.row 6 (σ.nx+51) 0 i])],rb:=fun _ i=>[(7,1,2,b.nS,Yx b),(7,4,6,i,boxT b)],inv:=fun _ i=>i<=b.nB,mu:=fun _ i=>b.nB - i,rd:=fun _ σ=>(ez (σ.get 59)).toNat })],dK:=[] }
noncomputable abbrev ql (i_2:Nat) (i:Nat):Bool:=decide (i_2<Int.toNat (↑i:Int))
noncomputable abbrev WJ (b:dL):DV:= .dt b.nO [fun i=>(dI (b.O i (0:Nat))),fun i=>(dI (b.O i (1:Nat))),fun i=>(dI (b.O i (2:Nat))),fun i=>(dI (b.O i (3:Nat))),fun i=>(dI (b.O i (4:Nat))),fun i=>(dI (b.O i (5:Nat)))]
noncomputable abbrev WI (b:dL) (r:List Prop):List Prop:=(b.dE=b.dE)::(b.nO=b.nO)::(∀(i:Nat),i<b.nO->b.O i (0:Nat)=b.O i (0:Nat))::(∀(i:Nat),i<b.nO->b.O i (1:Nat)=b.O i (1:Nat))::(∀(i:Nat),i<b.nO->b.O i (2:Nat)=b.O i (2:Nat))::(∀(i:Nat),i<b.nO->b.O i (3:Nat)=b.O i (3:Nat))::(∀(i:Nat),i<b.nO->b.O i (4:Nat)=b.O i (4:Nat))::(∀(i:Nat),i<b.nO->b.O i (5:Nat)=b.O i (5:Nat))::(b.nB=b.nB)::(∀(i:Nat),i<b.nB->b.B i (0:Nat)=b.B i (0:Nat))::(∀(i:Nat),i<b.nB->b.B i (1:Nat)=b.B i (1:Nat))::(∀(i:Nat),i<b.nB->b.B i (2:Nat)=b.B i (2:Nat))::(∀(i:Nat),i<b.nB->b.B i (3:Nat)=b.B i (3:Nat))::(∀(i:Nat),i<b.nB->b.B i (4:Nat)=b.B i (4:Nat))::(∀(i:Nat),i<b.nB->b.B i (5:Nat)=b.B i (5:Nat))::(ByteArray.mk #[]=ByteArray.mk #[])::(Value.slice none (0:Nat) (0:Nat)=Value.slice none (0:Nat) (0:Nat))::((0:Int)=(0:Int))::(Value.slice none (0:Nat) (0:Nat)=Value.slice none (0:Nat) (0:Nat))::(Value.slice none (0:Nat) (0:Nat)=Value.slice none (0:Nat) (0:Nat))::r
noncomputable abbrev WH (b:dL) (r:List Prop):List Prop:=(b.dE=b.dE)::(b.nO=b.nO)::(∀(i:Nat),i<b.nO->b.O i (0:Nat)=b.O i (0:Nat))::(∀(i:Nat),i<b.nO->b.O i (1:Nat)=b.O i (1:Nat))::(∀(i:Nat),i<b.nO->b.O i (2:Nat)=b.O i (2:Nat))::(∀(i:Nat),i<b.nO->b.O i (3:Nat)=b.O i (3:Nat))::(∀(i:Nat),i<b.nO->b.O i (4:Nat)=b.O i (4:Nat))::(∀(i:Nat),i<b.nO->b.O i (5:Nat)=b.O i (5:Nat))::r
noncomputable abbrev WG (r:List Prop):List Prop:=(Value.func (Fn.func (75:FuncId)) (Array.mk []) (Array.mk [])=Value.func (Fn.func (75:FuncId)) (Array.mk []) (Array.mk []))::(Value.func (Fn.func (76:FuncId)) (Array.mk []) (Array.mk [])=Value.func (Fn.func (76:FuncId)) (Array.mk []) (Array.mk []))::r
noncomputable abbrev WE (b:dL) (r:List Prop):List Prop:=(Value.slice none (0:Nat) (0:Nat)=Value.slice none (0:Nat) (0:Nat))::(b.name=b.name)::(b.nS=b.nS)::(∀(i:Nat),i<b.nS->b.fl i=b.fl i)::r
noncomputable abbrev WD (b:dL) (r:List Prop):List Prop:=(b.nB=b.nB)::(∀(i:Nat),i<b.nB->b.B i (0:Nat)=b.B i (0:Nat))::(∀(i:Nat),i<b.nB->b.B i (1:Nat)=b.B i (1:Nat))::(∀(i:Nat),i<b.nB->b.B i (2:Nat)=b.B i (2:Nat))::(∀(i:Nat),i<b.nB->b.B i (3:Nat)=b.B i (3:Nat))::(∀(i:Nat),i<b.nB->b.B i (4:Nat)=b.B i (4:Nat))::(∀(i:Nat),i<b.nB->b.B i (5:Nat)=b.B i (5:Nat))::((↑b.nB:Int)=(↑b.nB:Int))::r
namespace w3c
noncomputable section
variable (z:dL) (i0 i1 i2:Nat) (p:Prop) (P Q:List Prop) (a b:Int) (k l:Nat) (U V:VT) (yS:Nat->Prop) (jM:Nat->VT) (NK:FuncId) (Cm:List Value)
abbrev x0:=i0<z.nO->rf (z.O i0 k)
abbrev x1:=Int.toNat (↑i0:Int)
abbrev x2:=i0<z.nB->rf (z.B i0 k)
abbrev x3:List Prop:=rf (Value.slice none 0 0)::P
abbrev x4:=Int.toNat ((↑i0:Int)+1)
abbrev x5:List Value:=Value.int IntKind.i64 a::Cm
abbrev x6:=z.N (x1 i0)
abbrev x7:List Prop:=rf z.dE::rf z.nO::(∀(i0:Nat),x0 z i0 (0:Nat))::(∀(i0:Nat),x0 z i0 (1:Nat))::(∀(i0:Nat),x0 z i0 (2:Nat))::(∀(i0:Nat),x0 z i0 (3:Nat))::(∀(i0:Nat),x0 z i0 (4:Nat))::(∀(i0:Nat),x0 z i0 (5:Nat))::P
abbrev x8:List Prop:=rf z.nS::(∀i0<z.nS,rf (z.fl i0))::p::P
abbrev x9:List Prop:=rf (Value.func (Fn.func NK) (Array.mk []) (Array.mk []))::P
abbrev dM:=x5 (z.B (x1 i0) k) Cm
abbrev dQ:=x8 z (∀i0<z.nS,rf (z.N i0)/\(∀i1<z.N i0,rf (z.X i0 i1))/\(∀i1<z.N i0,rf (z.Y i0 i1))) P
abbrev dS:= ∀(i0:Nat),x2 z i0 (5:Nat)
abbrev dT:List Prop:=rf z.nB::(∀(i0:Nat),x2 z i0 (0:Nat))::(∀(i0:Nat),x2 z i0 (1:Nat))::(∀(i0:Nat),x2 z i0 (2:Nat))::(∀(i0:Nat),x2 z i0 (3:Nat))::(∀(i0:Nat),x2 z i0 (4:Nat))::dS z::P
abbrev dU:=Int.toNat ((↑i1:Int)+1)
abbrev dY:=Int.toNat (↑i1:Int)
abbrev eb:List Prop:=p::rf z.name::rf (0:Nat)::P
abbrev eE:=Int.toNat 0=0
abbrev eH:List Prop:=p::x9 (x9 P (76:FuncId)) (75:FuncId)
abbrev eT:=dQ z (x7 z (dT z (rf (ByteArray.mk (List.toArray []))::x3 (rf (0:Int)::x3 (x3 P)))))
abbrev eG:=i1<x4 i0->a=z.B i1 k
abbrev eZ:=DV.val (Value.agg (Array.mk Cm))
abbrev fi:=x7 z (x3 (rf z.name::eT z P))
abbrev fR:=eH p (dQ z (rf (↑z.nS:Int)::P))
abbrev fU:=if (decide (i1<i0))=true then (z.B i1 k) else (z.B (x1 i0) l)
abbrev fS:=VT.loop Nat yS (Int.toNat 0) P jM
abbrev fz:= ∀i0<z.nS,rf (z.N i0)/\(∀i1<z.N i0,rf (-(z.Y i0 i1)))/\(∀i1<z.N i0,rf (z.X i0 i1))
abbrev gi:List Prop:=[p,k<=140737488355328,(1:Nat)<=(1:Nat)]
abbrev iA:=0=(↑(Int.toNat 0):Int)
abbrev jw:=if (decide (i1<i0))=true then (-(z.B i1 k)) else a
abbrev iw:=eH p (dT z (rf (↑z.nB:Int)::P))
abbrev jk:=if (decide (i2<(x1 i0)))=true then a else b
abbrev jj:=VT.ite (decide ((↑i0:Int)<(↑k:Int))) U V
abbrev gQ:=VT.dk P (VT.dk [dh ((↑i0:Int)+1)] (VT.done Q))
abbrev iz:=x7 z (rf (0:Nat)::p::rf z.name::eT z P)
abbrev mc:=(↑i0:Int)+1=(↑(x4 i0):Int)
abbrev kB:=VT.dk [0<=(↑i0:Int)/\(↑i0:Int)<(↑k:Int)] U
abbrev j8:List Prop:=rf (↑i0:Int)::rf (x6 z i0)::(∀i1<x6 z i0,rf (z.X (x1 i0) i1))::(∀i1<x6 z i0,rf (z.Y (x1 i0) i1))::rf (↑(x6 z i0):Int)::P
abbrev oO:=DV.dt z.nO [fun i0=>dI (z.O i0 0),fun i0=>dI (z.O i0 1),fun i0=>dI (z.O i0 2),fun i0=>dI (z.O i0 3),fun i0=>dI (z.O i0 4),fun i0=>dI (z.O i0 5)]
abbrev mq:List Prop:=(∀i1<x1 i0,rf (z.fl i1))::(∀i1<x1 i0,rf (z.N i1)/\(∀i0<z.N i1,rf (-(z.Y i1 i0)))/\(∀i0<z.N i1,rf (z.X i1 i0)))::rf (z.fl (x1 i0))::rf (0:Nat)::P
abbrev xt:VT:=VT.dk [dv prog 123 [oO z] (oO z)] (fS (fR z iA (eb z eE (eE::fi z []))) (fun i0=>i0<=z.nS) (fun i0=>jj i0 z.nS (kB i0 z.nS (fS (fR z iA (j8 z i0 (eE::(i0=x1 i0)::mq z i0 (eb z eE ((i0=x1 i0)::fi z []))))) (fun i1=>i1<=x6 z i0) (fun i1=>VT.ite (decide ((↑i1:Int)<(↑(x6 z i0):Int))) (VT.dk [0<=(↑i1:Int)/\(↑i1:Int)<(↑(x6 z i0):Int)] (VT.dk (dv prog (75:FuncId) [eZ (x5 (z.X (x1 i0) (dY i1)) (x5 (z.Y (x1 i0) (dY i1)) []))] (eZ (x5 (-(z.Y (x1 i0) (dY i1))) (x5 (z.X (x1 i0) (dY i1)) [])))::gi (i1<=i1) ((i1+1)*((nat_lit 15)+1))) (VT.dk [dh ((↑i1:Int)+1)] (VT.done (fR z ((↑i1:Int)+1=(↑(dU i1):Int)) (j8 z i0 ((i1+1=dU i1)::(∀i2<dU i1,(if (decide (i2<i1))=true then (-(z.Y (x1 i0) i2)) else (-(z.Y (x1 i0) (dY i1))))=(-(z.Y (x1 i0) i2)))::(∀i2<dU i1,(if (decide (i2<i1))=true then (z.X (x1 i0) i2) else (z.X (x1 i0) (dY i1)))=z.X (x1 i0) i2)::rf (x1 i0)::mq z i0 (eb z (i1+1=dU i1) (rf (x1 i0)::fi z [dU i1<=x6 z i0,x6 z i0 - dU i1<x6 z i0 - i1]))))))))) (gQ i0 ((i1<=i1)::gi (x1 i0<=x1 i0) ((x1 i0+1)*((nat_lit 31)+1))) (fR z (mc i0) ((x1 i0+1=x4 i0)::(∀i1<x4 i0,(if (decide (i1<(x1 i0)))=true then (z.fl i1) else (z.fl (x1 i0)))=z.fl i1)::eb z (∀i2<x4 i0,(if (decide (i2<(x1 i0)))=true then (z.N i2) else i1)=z.N i2/\(∀i1<z.N i2,jk i0 i2 (-(z.Y i2 i1)) (-(z.Y (x1 i0) i1))=(-(z.Y i2 i1)))/\(∀i1<z.N i2,jk i0 i2 (z.X i2 i1) (z.X (x1 i0) i1)=z.X i2 i1)) ((x1 i0+1=x4 i0)::fi z [x4 i0<=z.nS,z.nS - x4 i0<z.nS - i0]))))))) (fS (iw z iA ((i0=z.nS)::(∀i0<z.nS,rf (z.fl i0))::fz z::eb z eE ((i0=z.nS)::iz z eE []))) (fun i0=>i0<=z.nB) (fun i0=>jj i0 z.nB (kB i0 z.nB (gQ i0 (dv prog (76:FuncId) [eZ (dM z i0 (0:Nat) (dM z i0 (1:Nat) (dM z i0 (2:Nat) (dM z i0 (3:Nat) (dM z i0 (4:Nat) (dM z i0 (5:Nat) []))))))] (eZ (x5 (-(z.B (x1 i0) 4)) (dM z i0 (0:Nat) (dM z i0 (2:Nat) (x5 (-(z.B (x1 i0) 1)) (dM z i0 (3:Nat) (dM z i0 (5:Nat) [])))))))::gi (i0<=i0) ((i0+1)*((nat_lit 47)+1))) (iw z (mc i0) (x8 z (fz z) ((i0+1=x4 i0)::(∀i1<x4 i0,jw z i0 i1 (-(z.B (x1 i0) 4)) (4:Nat)=(-(z.B i1 4)))::(∀(i1:Nat),eG z i0 i1 (fU z i0 i1 (0:Nat) (0:Nat)) (0:Nat))::(∀(i1:Nat),eG z i0 i1 (fU z i0 i1 (2:Nat) (2:Nat)) (2:Nat))::(∀i1<x4 i0,jw z i0 i1 (-(z.B (x1 i0) 1)) (1:Nat)=(-(z.B i1 1)))::(∀(i1:Nat),eG z i0 i1 (fU z i0 i1 (3:Nat) (3:Nat)) (3:Nat))::eb z (∀(i1:Nat),eG z i0 i1 (fU z i0 i1 (5:Nat) (5:Nat)) (5:Nat)) (rf z.nS::iz z (i0+1=x4 i0) [x4 i0<=z.nB,z.nB - x4 i0<z.nB - i0])))))) (VT.done ((z.nS<=z.nS)::(i0<=i0)::rf z.name::x8 z (fz z) (x7 z [i0=z.nB,∀i0<z.nB,rf (-(z.B i0 4)),∀(i0:Nat),x2 z i0 (0:Nat),∀(i0:Nat),x2 z i0 (2:Nat),∀i0<z.nB,rf (-(z.B i0 1)),∀(i0:Nat),x2 z i0 (3:Nat),dS z])))))))
end
end w3c
open w3c in
theorem Oo (b:dL) (hS:b.nS<=1000) (hO:b.nO<=1000) (hB:b.nB<=1000) (hN: ∀i,i<b.nS->b.N i<=1000) (hY: ∀i,i<b.nS->kd (b.N i) (b.Y i)) (hX: ∀i,i<b.nS->kd (b.N i) (b.X i)) (hC: ∀i,i<b.nB->(-1000000<=b.B i 1/\b.B i 1<=1000000)/\(-1000000<=b.B i 4/\b.B i 4<=1000000)):dv prog 74 [kz b,cloT1,cloT2] (aae b):=by
 refine dm dJ (Db b) (V:=xt b) (by kernel_rfl) ?_
 simp only [xt,x0,x1,x2,x3,x4,x5,x6,x7,x8,x9,dM,dQ,dS,dT,dU,dY,eb,eE,eH,eT,eG,eZ,fi,fR,fU,fS,fz,gi,iA,jw,iw,jk,jj,gQ,iz,mc,kB,j8,oO,mq,Rf,VT.holds,dC,imp_self,bO,b8,ck,gj,il,fN,bU,cL,bW,ct,bA,cf,an,bQ,aM,bj,df,dg,cw,beq_iff_eq,cx,ah,aj,ne_eq]
 refine ⟨MH b hO,rfl,aq _,fun i hi=>⟨fun dR=>⟨⟨by omega,dR⟩,rfl,aq _,fun k hk=>⟨fun oo=> ?_,fun oo=> ?_⟩⟩,fun iG=>⟨⟨rfl,by omega,by omega⟩,aq _,fun j hj=>⟨fun O8=> ?_,fun O8=>⟨by omega,ae _,by omega⟩⟩⟩⟩⟩
 ·have hy:=hY i (by omega) k (by omega)
  have hNi:=hN i (by omega)
  exact ⟨⟨by omega,oo⟩,⟨TB _ _ hy,ae _,by omega,ae _⟩,by unfold dh;omega,by omega,eh (f:=fun j=> -b.Y i j) rfl,eh (f:=fun j=>b.X i j) rfl,by omega,by omega⟩
 ·have e:k=b.N i:=by omega
  subst e
  refine ⟨⟨ae _,ae _,by omega,ae _⟩,by unfold dh;omega,by omega,eh (f:=b.fl) rfl,fun j hj=> ?_,by omega,by omega⟩
  by_cases h:j<i
  ·simp only [ag h,bO,b8]
  ·have:j=i:=by omega
   subst this
   simp only [Nat.lt_irrefl,cE,bO,b8]
 ·obtain ⟨q1,q2⟩:=hC j (by omega)
  exact ⟨⟨by omega,O8⟩,⟨TA _ _ _ _ _ _ q1 q2,ae _,by omega,ae _⟩,by unfold dh;omega,by omega,eh (f:=fun m=> -b.B m 4) rfl,eh (f:=fun m=>b.B m 0) rfl,eh (f:=fun m=>b.B m 2) rfl,eh (f:=fun m=> -b.B m 1) rfl,eh (f:=fun m=>b.B m 3) rfl,eh (f:=fun m=>b.B m 5) rfl,by omega,by omega⟩
noncomputable def OG (b:dL):eA:={ dz:=[(1,[(1,G2 b)]),(4,[(1,.res fun _=>aae b)])],loops:=[],dK:=[] }
theorem Yq (b:dL) (h:fh b=0) (hN: ∀i,i<b.nS->b.N i<=1000):dv prog 26 [kz b] (.fC [aae b,dI 0]):=by
 refine dm dJ (OG b) (V:= .dk [dv prog (41:Nat) [(kz b)] ((dI (fh b)))] (.ite (fh b !=(0:Int)) (.done [ByteArray.mk #[]=b.name,b.nS=(0:Nat),(0:Int)=b.dE,b.nO=(0:Nat),b.nB=(0:Nat),fh b=(0:Int)]) (.dk [dv prog (74:Nat) [(kz b),.val (Value.func (Fn.func (75:Nat)) (Array.mk []) (Array.mk [])),.val (Value.func (Fn.func (76:Nat)) (Array.mk []) (Array.mk []))] (.agg [.val (.string b.name),.dt b.nS [fun i=>(dI (b.fl i)),fun i=> .dt (b.N i) [fun ed=>(dI (-b.Y i ed)),fun ed=>(dI (b.X i ed))]],(dI b.dE),.dt b.nO [fun i=>(dI (b.O i (0:Nat))),fun i=>(dI (b.O i (1:Nat))),fun i=>(dI (b.O i (2:Nat))),fun i=>(dI (b.O i (3:Nat))),fun i=>(dI (b.O i (4:Nat))),fun i=>(dI (b.O i (5:Nat)))],.dt b.nB [fun i=>(dI (-b.B i (4:Nat))),fun i=>(dI (b.B i (0:Nat))),fun i=>(dI (b.B i (2:Nat))),fun i=>(dI (-b.B i (1:Nat))),fun i=>(dI (b.B i (3:Nat))),fun i=>(dI (b.B i (5:Nat)))]])] (.done [b.name=b.name,b.nS=b.nS,∀(i:Nat),i<b.nS->b.fl i=b.fl i,∀(i:Nat),i<b.nS->b.N i=b.N i/\(∀(ed:Nat),ed<b.N i-> -b.Y i ed= -b.Y i ed)/\ ∀(ed:Nat),ed<b.N i->b.X i ed=b.X i ed,b.dE=b.dE,b.nO=b.nO,∀(i:Nat),i<b.nO->b.O i (0:Nat)=b.O i (0:Nat),∀(i:Nat),i<b.nO->b.O i (1:Nat)=b.O i (1:Nat),∀(i:Nat),i<b.nO->b.O i (2:Nat)=b.O i (2:Nat),∀(i:Nat),i<b.nO->b.O i (3:Nat)=b.O i (3:Nat),∀(i:Nat),i<b.nO->b.O i (4:Nat)=b.O i (4:Nat),∀(i:Nat),i<b.nO->b.O i (5:Nat)=b.O i (5:Nat),b.nB=b.nB,∀(i:Nat),i<b.nB-> -b.B i (4:Nat)= -b.B i (4:Nat),∀(i:Nat),i<b.nB->b.B i (0:Nat)=b.B i (0:Nat),∀(i:Nat),i<b.nB->b.B i (2:Nat)=b.B i (2:Nat),∀(i:Nat),i<b.nB-> -b.B i (1:Nat)= -b.B i (1:Nat),∀(i:Nat),i<b.nB->b.B i (3:Nat)=b.B i (3:Nat),∀(i:Nat),i<b.nB->b.B i (5:Nat)=b.B i (5:Nat),(0:Int)=(0:Int)])))) (by kernel_rfl) ?_
 simp only [VT.holds,dC,imp_self,bO,b8,ck,gj,il,fN,bU,cL,bW,ct,bA,cf,an,bQ,aM,bj,df,dg,cw,beq_iff_eq,cx,ah,aj,ne_eq]
 have hs:=JX (lq h).2.1
 obtain ⟨c1,c2,c3,c4,c5,c6⟩:=lq h
 obtain ⟨f1,f2,f3⟩:=mQ c2 c3 c4
 refine ⟨zF b hN,fun h2=>absurd h h2,fun _=> ?_⟩
 refine Oo b (by omega) (by omega) (by omega) hN (fun i hi=>(eS (f1 i hi)).2) (fun i hi=>(eS (f1 i hi)).1) (fun i hi=> ?_)
 have hb:=c6 i hi
 unfold BC at hb
 split at hb
 ·rename_i h2;exact absurd hb h2
 ·rename_i h2
  have h3:=pE (bP.1 h2)
  omega
end Go.Abs
end
section
set_option maxRecDepth 100000
namespace Go.Abs
open Go Go.RowKit Go.Lib
attribute [local go_sem] Oper.semAt_some
def Jv (x:Int):Int:=max x (wrap64 (-x))
theorem Sx (x:Int) (w:World):Calls prog 77 #[.int .i64 x] w fun e w'=>e= .returned (.int .i64 (Jv x))/\w'=w:=by
 have mixed:=dJ
 go_enter Go.Proofs.Tryz.func77,Go.Proofs.Tryz.ntmps77
 go_wp2
 go_ret
 exact ⟨rfl,rfl⟩
theorem Sy (x:Int):dv prog 77 [dI x] (dI (Jv x)):=by
 refine ⟨⟨_,Go.Proofs.Tryz.func77,rfl,by kernel_rfl⟩,fun S w vs hs hv _=> ?_⟩
 obtain ⟨⟨l⟩,rfl⟩: ∃v:Array Value,vs=v:=⟨vs,rfl⟩
 match l,hs with
 |[u0],_=>
  have r0:=hv 0 _ _ rfl rfl
  cases r0
  exact (Sx x w).mono fun e w' ⟨he,hw⟩=>⟨_,he,.val _,by rw [hw];exact Below.refl _ _⟩
theorem SA {x:Int} (h: -2000000<=x/\x<=2000000):Jv x<=2000000:=by
 have e:wrap64 (-x)= -x:=by unfold wrap64;omega
 rw [Jv,e]
 omega
theorem MZ {x:Int} (h:x>2000000):Jv x>2000000:=by
 have:x<=Jv x:=Int.le_max_left _ _
 omega
end Go.Abs
end
section
set_option maxRecDepth 100000
namespace Go.Abs
open Go
def zB:dL:=⟨⟨#[]⟩,0,fun _=>0,fun _=>0,fun _ _=>0,fun _ _=>0,0,0,fun _ _=>0,0,fun _ _=>0⟩
def mvR (dx dy:Int):Bool:=decide (-2000000<=dx/\dx<=2000000)&&decide (-2000000<=dy/\dy<=2000000)
def mvX (b:dL) (dx dy:Int):Int:=if mvR dx dy=true then (if V2 b dx dy=true then 0 else 2) else 2
def xp (b:dL) (dx dy:Int):Int:=if fh b=0 then mvX b dx dy else fh b
def iM (b:dL) (dx dy:Int):dL:=if xp b dx dy=0 then mvB b dx dy else zB
theorem L9 {dx dy:Int}:mvR dx dy=true↔(-2000000<=dx/\dx<=2000000)/\(-2000000<=dy/\dy<=2000000):=by
 unfold mvR
 rw [an,decide_eq_true_iff,decide_eq_true_iff]
theorem YX {b:dL} {dx dy:Int} (h: ¬fh b=0):xp b dx dy=fh b/\iM b dx dy=zB:=by
 have e:xp b dx dy=fh b:=ab h
 exact ⟨e,by rw [iM,e,ab h]⟩
theorem YW {b:dL} {dx dy:Int} (h:fh b=0) (hr: ¬mvR dx dy=true):xp b dx dy=2/\iM b dx dy=zB:=by
 have e:xp b dx dy=2:=by rw [xp,ag h,mvX,ab hr]
 exact ⟨e,by rw [iM,e,ab (by decide)]⟩
theorem YY {b:dL} {dx dy:Int} (h:fh b=0) (hr:mvR dx dy=true) (hg:V2 b dx dy=false):xp b dx dy=2/\iM b dx dy=zB:=by
 have e:xp b dx dy=2:=by rw [xp,ag h,mvX,ag hr,ab (by rw [hg];decide)]
 exact ⟨e,by rw [iM,e,ab (by decide)]⟩
theorem mv_ok {b:dL} {dx dy:Int} (h:fh b=0) (hr:mvR dx dy=true) (hg:V2 b dx dy=true):xp b dx dy=0/\iM b dx dy=mvB b dx dy:=by
 have e:xp b dx dy=0:=by rw [xp,ag h,mvX,ag hr,ag hg]
 exact ⟨e,by rw [iM,ag e]⟩
theorem Vc {b:dL} (h:fh b=0):(b.nS<=20/\b.nO<=100/\b.nB<=50)/\(∀i,i<b.nS->kd (b.N i) (b.X i)/\kd (b.N i) (b.Y i))/\ ∀i,i<b.nB-> ∀j,j<6-> -1000000<=b.B i j/\b.B i j<=1000000:=by
 have hs:=JX (lq h).2.1
 obtain ⟨c1,c2,c3,c4,c5,c6⟩:=lq h
 obtain ⟨f1,f2,f3⟩:=mQ c2 c3 c4
 refine ⟨by omega,fun i hi=>eS (f1 i hi),fun i hi=> ?_⟩
 have hb:=c6 i hi
 unfold BC at hb
 split at hb
 ·rename_i h2;exact absurd hb h2
 ·rename_i h2
  have h3:=pE (bP.1 h2)
  intro j hj
  match j,hj with
  |0,_=>exact h3.1
  |1,_=>exact h3.2.1
  |2,_=>exact h3.2.2.1
  |3,_=>exact h3.2.2.2.1
  |4,_=>exact h3.2.2.2.2.1
  |5,_=>have:=h3.2.2.2.2.2;omega
noncomputable def OK (b:dL) (dx dy:Int):eA:={ dz:=[(1,[(1,G2 b)]),(4,[(1,.res fun _=>dI (Jv dx)),(5,.res fun _=>dI (Jv dy))]),(7,[(3,.sh 1 2 fun _=>([dB (V2 b dx dy)],bldV b dx dy))])],loops:=[],dK:=[] }
noncomputable abbrev qd (dx:Int):Bool:= !decide (Jv dx>(2000000:Int))
noncomputable abbrev qb (dx:Int) (dy:Int):Bool:=if decide (Jv dx>(2000000:Int))=true then true else decide (Jv dy>(2000000:Int))
noncomputable abbrev qj (dx:Int) (dy:Int):Bool:= !if (qb dx dy)=true then true else decide (dx<(-2000000:Int))
noncomputable abbrev qf (dx:Int) (dy:Int):Bool:= !if decide (Jv dx>(2000000:Int))=true then true else decide (Jv dy>(2000000:Int))
namespace w3d
noncomputable section
structure Z where
 b:dL
 dx:Int
 dy:Int
variable (z:Z) (i0:Nat) (P:List Prop) (a:Int) (k l:Nat) (g:Bool) (U:VT) (pj:ByteArray)
abbrev x0:=iM z.b z.dx z.dy
abbrev x1:=decide ((Jv a)>(2000000:Int))
abbrev x2:=if (x1 z.dx)=true then true else (x1 z.dy)
abbrev x3:=i0<dL.nO (x0 z)->z.b.O i0 k=dL.O (x0 z) i0 l
abbrev x4:=i0<dL.nB (x0 z)->a=dL.B (x0 z) i0 k
abbrev x5:=if g=true then true else (decide (a<(-(2000000:Int))))
abbrev x6:=(!(x1 z.dx))=true
abbrev x7:=VT.done ((pj=dL.name (x0 z))::P)
abbrev x8:=VT.ite g (x7 z [dL.nS (x0 z)=0,0=dL.dE (x0 z),dL.nO (x0 z)=0,dL.nB (x0 z)=0,a=xp z.b z.dx z.dy] (ByteArray.mk (List.toArray []))) U
abbrev x9:=(!(x5 z.dx (x2 z)))=true
abbrev dM:=DV.jt k [DV.dV [dI z.dx],DV.dV [dI z.dy],DV.ptr 0 0]
abbrev xt:VT:=VT.dk [dv prog 41 [kz z.b] (dI (fh z.b))] (x8 z (fh z.b) (fh z.b !=0) (VT.dk [dv prog 77 [dI z.dx] (dI (Jv z.dx)),ri (x6 z),x6 z->dv prog 77 [dI z.dy] (dI (Jv z.dy)),ri (x6 z),x1 z.dx=false->x6 z,ri ((!(x2 z))=true),x2 z=false->(!(x2 z))=true,ri (x9 z),x5 z.dx (x2 z)=false->x9 z] (x8 z (2:Int) (x5 z.dy (x5 z.dx (x2 z))) (VT.dk [FnS prog 74 [kz z.b,dM z (78:Nat),dM z (80:Nat)] [dB true] [dB (V2 z.b z.dx z.dy)] (DV.agg [DV.val (Value.string z.b.name),DV.dt z.b.nS [fun i0=>dI (z.b.fl i0),fun i0=>DV.dt (z.b.N i0) [fun i1=>dI (z.b.X i0 i1+z.dx),fun i1=>dI (z.b.Y i0 i1+z.dy)]],dI z.b.dE,DV.dt z.b.nO [fun i0=>dI (z.b.O i0 0),fun i0=>dI (z.b.O i0 1),fun i0=>dI (z.b.O i0 2),fun i0=>dI (z.b.O i0 3),fun i0=>dI (z.b.O i0 4),fun i0=>dI (z.b.O i0 5)],DV.dt z.b.nB [fun i0=>dI (z.b.B i0 0+z.dx),fun i0=>dI (z.b.B i0 1+z.dy),fun i0=>dI (z.b.B i0 2),fun i0=>dI (z.b.B i0 3+z.dx),fun i0=>dI (z.b.B i0 4+z.dy),fun i0=>dI (z.b.B i0 5)]])] (x8 z (2:Int) (!(V2 z.b z.dx z.dy)) (x7 z [z.b.nS=dL.nS (x0 z),∀i0<dL.nS (x0 z),z.b.fl i0=dL.fl (x0 z) i0,∀i0<dL.nS (x0 z),z.b.N i0=dL.N (x0 z) i0/\(∀i1<dL.N (x0 z) i0,z.b.X i0 i1+z.dx=dL.X (x0 z) i0 i1)/\(∀i1<dL.N (x0 z) i0,z.b.Y i0 i1+z.dy=dL.Y (x0 z) i0 i1),z.b.dE=dL.dE (x0 z),z.b.nO=dL.nO (x0 z),∀(i0:Nat),x3 z i0 (0:Nat) (0:Nat),∀(i0:Nat),x3 z i0 (1:Nat) (1:Nat),∀(i0:Nat),x3 z i0 (2:Nat) (2:Nat),∀(i0:Nat),x3 z i0 (3:Nat) (3:Nat),∀(i0:Nat),x3 z i0 (4:Nat) (4:Nat),∀(i0:Nat),x3 z i0 (5:Nat) (5:Nat),z.b.nB=dL.nB (x0 z),∀(i0:Nat),x4 z i0 (z.b.B i0 0+z.dx) (0:Nat),∀(i0:Nat),x4 z i0 (z.b.B i0 1+z.dy) (1:Nat),∀(i0:Nat),x4 z i0 (z.b.B i0 2) (2:Nat),∀(i0:Nat),x4 z i0 (z.b.B i0 3+z.dx) (3:Nat),∀(i0:Nat),x4 z i0 (z.b.B i0 4+z.dy) (4:Nat),∀(i0:Nat),x4 z i0 (z.b.B i0 5) (5:Nat),0=xp z.b z.dx z.dy] z.b.name))))))
end
end w3d
open w3d in
theorem aan (b:dL) (dx dy:Int) (hN: ∀i,i<b.nS->b.N i<=1000):dv prog 27 [kz b,dI dx,dI dy] (.fC [kz (iM b dx dy),dI (xp b dx dy)]):=by
 refine dm dJ (OK b dx dy) (V:=xt ⟨b,dx,dy⟩) (by kernel_rfl) ?_
 simp only [xt,x0,x1,x2,x3,x4,x5,x6,x7,x8,x9,dM,Rf,VT.holds,dC,imp_self,bO,b8,ck,gj,il,fN,bU,cL,bW,ct,bA,cf,an,bQ,aM,bj,df,dg,cw,beq_iff_eq,cx,ah,aj,ne_eq]
 refine ⟨zF b hN,fun h=> ?_,fun h=>⟨⟨Sy _,fun _=>Sy _⟩,fun ho=> ?_,fun ho=> ?_⟩⟩
 ·obtain ⟨e1,e2⟩:=YX (dx:=dx) (dy:=dy) h
  rw [e1,e2];exact ⟨rfl,rfl,rfl,rfl,rfl,rfl⟩
 ·obtain ⟨e1,e2⟩:=YW (dx:=dx) (dy:=dy) h (fun hr=>by
   obtain ⟨hx,hy⟩:=L9.1 hr
   have:=SA hx
   have:=SA hy
   omega)
  rw [e1,e2];exact ⟨rfl,rfl,rfl,rfl,rfl,rfl⟩
 ·have hx: -2000000<=dx/\dx<=2000000:=by
   refine ⟨by omega,?_⟩
   rcases Int.lt_or_le 2000000 dx with h9|h9
   ·have:=MZ h9;omega
   ·exact h9
  have hy: -2000000<=dy/\dy<=2000000:=by
   refine ⟨by omega,?_⟩
   rcases Int.lt_or_le 2000000 dy with h9|h9
   ·have:=MZ h9;omega
   ·exact h9
  have hr:=L9.2 ⟨hx,hy⟩
  obtain ⟨k1,k2,k3⟩:=Vc h
  refine ⟨KO b dx dy (by omega) (by omega) (by omega) hN (fun i hi=>(k2 i hi).2) (fun i hi=>(k2 i hi).1) k3 hx hy,fun hg=> ?_,fun hg=> ?_⟩
  ·obtain ⟨e1,e2⟩:=YY h hr hg
   rw [e1,e2];exact ⟨rfl,rfl,rfl,rfl,rfl,rfl⟩
  ·obtain ⟨e1,e2⟩:=mv_ok h hr hg
   rw [e1,e2]
   exact ⟨rfl,rfl,fun _ _=>rfl,fun _ _=>⟨rfl,fun _ _=>rfl,fun _ _=>rfl⟩,rfl,rfl,fun _ _=>rfl,fun _ _=>rfl,fun _ _=>rfl,fun _ _=>rfl,fun _ _=>rfl,fun _ _=>rfl,rfl,fun _ _=>rfl,fun _ _=>rfl,fun _ _=>rfl,fun _ _=>rfl,fun _ _=>rfl,fun _ _=>rfl,rfl⟩
end Go.Abs
end
section
set_option maxRecDepth 100000
namespace Go.Abs
open Go
def xr (f:Nat->Bool):Nat->Bool
 |0=>false
 |k+1=>(xr f k !=f k)
theorem zN {f g:Nat->Bool}: ∀{n:Nat},(∀i,i<n->f i=g i)->xr f n=xr g n
 |0,_=>rfl
 |n+1,h=>by rw [xr,xr,zN fun i hi=>h i (by omega),h n (by omega)]
theorem Lf (F A:Nat->Bool): ∀k,(xr (fun i=>F i&&(A i !=A (i+1))) k !=xr (fun i=>A (i+1)&&(F i !=F (i+1))) k)=((F 0&&A 0) !=(F k&&A k))
 |0=>by simp [xr]
 |k+1=>by
  have ih:=Lf F A k
  simp only [xr]
  generalize xr (fun i=>F i&&(A i !=A (i+1))) k=a at*
  generalize xr (fun i=>A (i+1)&&(F i !=F (i+1))) k=b at*
  generalize (F 0&&A 0)=c at*
  revert ih
  cases F k<;>cases F (k+1)<;>cases A k<;>cases A (k+1)<;>cases a<;>cases b<;>cases c<;>decide
theorem KL (n:Nat) (X Y:Nat->Int) (p q:Int): ∀k,Od n X Y p q k=xr (fun i=>Pb n X Y p q i) k
 |0=>rfl
 |k+1=>by
  rw [Od,xr,KL n X Y p q k]
  cases Pb n X Y p q k<;>cases xr (fun i=>Pb n X Y p q i) k<;>rfl
theorem Ut {n:Nat} (hn:0<n):ix n (n:Int)=0:=by
 unfold ix
 rw [show (n:Int)+n=(n:Int)*2 by omega,Int.mul_emod_right];rfl
theorem Us {n:Nat} (hn:0<n):ix n 0=0:=by
 unfold ix
 rw [Int.zero_add,Int.emod_self];rfl
section
variable {n:Nat} {X Y:Nat->Int}
theorem rj {i:Int} (h:dO n X Y i=true):(X (ix n i)=X (ix n (i+1))/\Y (ix n i)≠Y (ix n (i+1)))\/(Y (ix n i)=Y (ix n (i+1))/\X (ix n i)≠X (ix n (i+1))):=by
 unfold dO vZ at h
 rw [ah] at h
 omega
theorem R3 {i:Nat} (h:dO n X Y i=true) (p q:Int):Pb n X Y p q i=(decide (X (ix n i)>p)&&(decide (Y (ix n i)<=q) !=decide (Y (ix n ((i:Int)+1))<=q))):=by
 have:=rj h
 unfold Pb lo hi
 rw [Bool.eq_iff_iff]
 simp only [an,ah,dg,ne_eq,bu]
 omega
end
end Go.Abs
end
section
set_option maxRecDepth 100000
namespace Go.Abs
open Go
section
variable {n:Nat} {X Y:Nat->Int}
theorem QC (i:Int):lo n (fun k=> -X k) i= -hi n X i:=by unfold lo hi;dsimp only;omega
theorem Rn (i:Int):hi n (fun k=> -X k) i= -lo n X i:=by unfold lo hi;dsimp only;omega
theorem KK (i:Int):dO n (fun k=> -Y k) X i=dO n X Y i:=by
 unfold dO vZ
 rw [bu]
 dsimp only
 omega
theorem oM {i:Int} (h:dO n X Y i=true):dD n (fun k=> -Y k) X i=(dD n X Y i+1)%4:=by
 have hs:=rj h
 unfold dD HX
 dsimp only
 (repeat' split)<;>omega
theorem Kw (i:Nat):iJ n (fun k=> -Y k) X i=iJ n X Y i:=by
 unfold iJ
 rw [KK,KK]
 cases h1:dO n X Y i
 ·rfl
 ·cases h2:dO n X Y ((i:Int) - 1)
  ·rfl
  ·rw [oM h1,oM h2]
   congr 1
   rw [bu]
   omega
theorem PT (i k:Int):Ex n (fun k=> -Y k) X i k=Ex n X Y i k:=by
 unfold Ex
 rw [QC,Rn,QC,Rn,bu]
 omega
theorem On (i k:Nat):kT n (fun k=> -Y k) X i k=kT n X Y i k:=by
 unfold kT
 rw [PT]
theorem Lm: ∀k,uM n (fun k=> -Y k) X k=uM n X Y k
 |0=>rfl
 |k+1=>by
  rw [uM,uM,Lm k]
  rw [Int.neg_mul,Int.neg_mul,Int.mul_comm (Y (ix n k)),Int.mul_comm (Y (ix n (k+1)))]
  omega
theorem OB:jK n (fun k=> -Y k) X=jK n X Y:=by
 unfold jK
 rw [bu]
 have e: ∀k,pF (fun k=> -Y k) X k=pF X Y k:=fun k=>by
  unfold pF gN
  dsimp only
  congr 1
  rw [Bool.and_comm]
  congr 1
  rw [bu]
  omega
 simp only [e]
theorem MJ:gI n (fun k=> -Y k) X=gI n X Y:=by
 unfold gI
 simp only [OB,Kw,On,Lm]
theorem AX (i:Int):fb n (fun k=> -Y k) X i=fb n X Y i:=by
 unfold fb
 dsimp only
 omega
theorem U5 (hn:0<n) (hp: ∀i,i<n->dO n X Y (i:Nat)=true) {p q:Int} (UA: ∀i,i<n->OV n X Y p q i=false):Od n (fun k=> -Y k) X (-q) p n=Od n X Y p q n:=by
 have h1:=Lf (fun i=>decide (X (ix n (i:Nat))>p)) (fun i=>decide (Y (ix n (i:Nat))<=q)) n
 simp only [Ut hn,Int.natCast_zero,Us hn,bne_self_eq_false] at h1
 have e: ∀a b:Bool,(a !=b)=false->b=a:=by decide
 have h2:=e _ _ h1
 rw [KL,KL]
 rw [zN (g:=fun i=>decide (X (ix n (i:Nat))>p)&&(decide (Y (ix n (i:Nat))<=q) !=decide (Y (ix n ((i+1:Nat):Int))<=q))) (f:=fun i=>Pb n X Y p q i) fun i hi=>by rw [R3 (hp i hi),Int.natCast_succ]]
 rw [<-h2]
 refine zN fun i hi=> ?_
 rw [R3 (by rw [KK];exact hp i hi),Int.natCast_succ]
 have hs:=rj (hp i hi)
 have ho:=UA i hi
 unfold OV lo Go.Abs.hi at ho
 rw [aj] at ho
 rw [Bool.eq_iff_iff]
 simp only [an,ah,dg,ne_eq,bu]
 omega
theorem Bb (hn:0<n) (hp: ∀i,i<n->dO n X Y (i:Nat)=true) {x y:Int} (hx: ∀k,k<n->x≠2*X k) (hy: ∀k,k<n->y≠2*Y k):kg n (fun k=> -Y k) X (-y) x n=kg n X Y x y n:=by
 rw [<-zC hn hy,<-zC hn (X:=fun k=> -Y k) (Y:=X) hx]
 have e:(fun k=>2*(fun k=> -Y k) k)=fun k=> -(fun k=>2*Y k) k:=by funext k;dsimp only;omega
 rw [e]
 have hp2: ∀i,i<n->dO n (fun k=>2*X k) (fun k=>2*Y k) (i:Nat)=true:=fun i hi=>by
  have:=rj (hp i hi)
  unfold dO vZ
  rw [ah]
  dsimp only
  omega
 refine U5 hn hp2 fun i hi=> ?_
 have hs:=rj (hp i hi)
 have h1:=hx _ (iV (i:=(i:Int)) hn)
 have h2:=hy _ (iV (i:=(i:Int)) hn)
 unfold OV lo Go.Abs.hi
 rw [aj]
 dsimp only
 omega
end
def sg (gx gy:List Int) (p:Int->Int->Bool):Prop:= ∀i j,i+1<gx.length->j+1<gy.length->p (gx.getD i 0+gx.getD (i+1) 0) (gy.getD j 0+gy.getD (j+1) 0)=false
theorem pT {l:List Int} {i:Nat} (h:i<l.length):(l.reverse.map fun x=> -x).getD i 0= -(l.getD (l.length - 1 - i) 0):=by
 rw [bB,aw,List.getElem?_reverse h,bB]
 have h2:l.length - 1 - i<l.length:=by omega
 rw [ak h2]
 rfl
theorem Ei {gx gy:List Int} {p p':Int->Int->Bool} (h: ∀i j,i+1<gx.length->j+1<gy.length->p' (-(gy.getD j 0+gy.getD (j+1) 0)) (gx.getD i 0+gx.getD (i+1) 0)=p (gx.getD i 0+gx.getD (i+1) 0) (gy.getD j 0+gy.getD (j+1) 0)):
 sg (gy.reverse.map fun x=> -x) gx p'↔sg gx gy p:=by
 have hl:(gy.reverse.map fun x=> -x).length=gy.length:=by simp
 constructor
 ·intro hc i j hi hj
  have h1:=hc (gy.length - 2 - j) i (by rw [hl];omega) hi
  rw [pT (by omega),pT (by omega),show gy.length - 1 - (gy.length - 2 - j)=j+1 by omega,show gy.length - 1 - (gy.length - 2 - j+1)=j by omega] at h1
  rw [<-h i j hi hj,show -(gy.getD j 0+gy.getD (j+1) 0)= -gy.getD (j+1) 0+ -gy.getD j 0 by omega]
  exact h1
 ·intro hc i j hi hj
  rw [hl] at hi
  rw [pT (by omega),pT (by omega),show gy.length - 1 - i=(gy.length - 2 - i)+1 by omega,show gy.length - 1 - (i+1)=gy.length - 2 - i by omega]
  rw [show -gy.getD (gy.length - 2 - i+1) 0+ -gy.getD (gy.length - 2 - i) 0= -(gy.getD (gy.length - 2 - i) 0+gy.getD (gy.length - 2 - i+1) 0) by omega,h j (gy.length - 2 - i) hj (by omega)]
  exact hc j _ hj (by omega)
theorem Ig {gx gy:List Int} {f:Nat->Bool} {p:Int->Int->Bool} (h: ∀i j,j<gy.length - 1->f ((gy.length - 1)*i+j)=p (gx.getD i 0+gx.getD (i+1) 0) (gy.getD j 0+gy.getD (j+1) 0)):
 (∀k,k<(gy.length - 1)*(gx.length - 1)->f k=false)↔sg gx gy p:=by
 constructor
 ·intro hc i j hi hj
  rw [<-h i j (by omega)]
  exact hc _ (wB (by omega) (by omega))
 ·intro hc k hk
  have hM:0<gy.length - 1:=Nat.pos_of_mul_pos_right (Nat.lt_of_le_of_lt (aq k) hk)
  have h1:=Nat.div_add_mod k (gy.length - 1)
  have h2:=Nat.mod_lt k hM
  have h3:=Nat.div_lt_of_lt_mul hk
  generalize k/(gy.length - 1)=q at*
  generalize k%(gy.length - 1)=r at*
  rw [<-h1,h _ _ h2]
  exact hc _ _ (by omega) (by omega)
theorem xH (n:Nat) (X:Nat->Int) (m:Nat) (X':Nat->Int):M0 (gr n X m X'):=(jm _).1
theorem xG {n:Nat} {X:Nat->Int} {m:Nat} {X':Nat->Int} {x:Int}:x∈gr n X m X'↔(∃k,k<n/\X k=x)\/ ∃k,k<m/\X' k=x:=by
 unfold gr
 rw [(jm _).2]
 simp only [fw,cO,aO,bf,bg,N2,X2,decide_true,ba,Nat.one_ne_zero,decide_false,bT,cE]
theorem An {l:List Int} (h:M0 l):M0 (l.reverse.map fun x=> -x):=by
 unfold M0 at h ⊢
 rw [List.pairwise_map,List.pairwise_reverse]
 exact h.imp fun h=>by omega
theorem Am {l:List Int} {x:Int}:x∈(l.reverse.map fun x=> -x)↔ -x∈l:=by
 simp only [bf,List.mem_reverse]
 exact ⟨fun ⟨a,h,e⟩=>by rw [<-e,Int.neg_neg];exact h,fun h=>⟨_,h,Int.neg_neg x⟩⟩
theorem ZP (n:Nat) (Y:Nat->Int) (m:Nat) (Y':Nat->Int):gr n (fun k=> -Y k) m (fun k=> -Y' k)=(gr n Y m Y').reverse.map fun x=> -x:=by
 refine BH (xH _ _ _ _) (An (xH _ _ _ _)) fun x=> ?_
 rw [xG,Am,xG]
 constructor
 ·rintro (⟨k,hk,e⟩|⟨k,hk,e⟩)
  ·exact .inl ⟨k,hk,by omega⟩
  ·exact .inr ⟨k,hk,by omega⟩
 ·rintro (⟨k,hk,e⟩|⟨k,hk,e⟩)
  ·exact .inl ⟨k,hk,by omega⟩
  ·exact .inr ⟨k,hk,by omega⟩
theorem HY (n:Nat) (X Y:Nat->Int) (m:Nat) (X' Y':Nat->Int):nW n X Y m X' Y'=true↔sg (gr n X m X') (gr n Y m Y') fun x y=>kg m X' Y' x y m&& !kg n X Y x y n:=by
 unfold nW
 rw [ah]
 exact Ig (f:=y9 n X Y m X' Y') fun i j hj=>by
  unfold y9
  rw [zG n X Y m X' Y' hj]
theorem Hh (n:Nat) (X Y:Nat->Int) (m:Nat) (X' Y':Nat->Int):AO n X Y m X' Y'=false↔sg (gr n X m X') (gr n Y m Y') fun x y=>kg m X' Y' x y m&&kg n X Y x y n:=by
 unfold AO
 rw [bj,ah]
 exact Ig (f:=E2 n X Y m X' Y') fun i j hj=>by
  unfold E2
  rw [zG n X Y m X' Y' hj]
section
variable {n:Nat} {X Y:Nat->Int}
theorem R5 {m:Nat} {X' Y':Nat->Int} (h1:gI n X Y=0) (h2:gI m X' Y'=0):nW n (fun k=> -Y k) X m (fun k=> -Y' k) X'=nW n X Y m X' Y':=by
 have n1:=fO h1
 have n2:=fO h2
 rw [Bool.eq_iff_iff,HY,HY,ZP]
 refine Ei fun i j hi hj=> ?_
 have g1:=oK hi
 have g2:=oK hj
 rw [Bb (by omega) (fun i hi=>lp h2 hi) g1.2 g2.2,Bb (by omega) (fun i hi=>lp h1 hi) g1.1 g2.1]
theorem LD {a b:Int} {x:Int}:(∃k,k<4/\yj a b k=x)↔x=a\/x=b:=by
 constructor
 ·rintro ⟨k,hk,e⟩
  match k,hk with
  |0,_=>exact .inl e.symm
  |1,_=>exact .inr e.symm
  |2,_=>exact .inr e.symm
  |3,_=>exact .inl e.symm
 ·rintro (e|e)
  ·exact ⟨0,by omega,e.symm⟩
  ·exact ⟨1,by omega,e.symm⟩
theorem LC {a b:Int} {x:Int}:(∃k,k<4/\yi a b k=x)↔x=a\/x=b:=by
 constructor
 ·rintro ⟨k,hk,e⟩
  match k,hk with
  |0,_=>exact .inl e.symm
  |1,_=>exact .inl e.symm
  |2,_=>exact .inr e.symm
  |3,_=>exact .inr e.symm
 ·rintro (e|e)
  ·exact ⟨0,by omega,e.symm⟩
  ·exact ⟨2,by omega,e.symm⟩
theorem Qy (h:gI n X Y=0) {x1 x2 y1 y2:Int} (hx:x1<x2) (hy:y1<y2):rG n (fun k=> -Y k) X (-y2) (-y1) x1 x2=rG n X Y x1 x2 y1 y2:=by
 have n1:=fO h
 have e1:gr n (fun k=> -Y k) 4 (yj (-y2) (-y1))=(gr n Y 4 (yi y1 y2)).reverse.map fun x=> -x:=by
  refine BH (xH _ _ _ _) (An (xH _ _ _ _)) fun x=> ?_
  rw [xG,Am,xG,LD,LC]
  constructor
  ·rintro (⟨k,hk,e⟩|e)
   ·exact .inl ⟨k,hk,by omega⟩
   ·exact .inr (by omega)
  ·rintro (⟨k,hk,e⟩|e)
   ·exact .inl ⟨k,hk,by omega⟩
   ·exact .inr (by omega)
 have e2:gr n X 4 (yi x1 x2)=gr n X 4 (yj x1 x2):=by
  refine BH (xH _ _ _ _) (xH _ _ _ _) fun x=> ?_
  rw [xG,xG,LD,LC]
 have key:AO n (fun k=> -Y k) X 4 (yj (-y2) (-y1)) (yi x1 x2)=false↔AO n X Y 4 (yj x1 x2) (yi y1 y2)=false:=by
  rw [Hh,Hh,e1,e2]
  refine Ei fun i j hi hj=> ?_
  have g1:=oK hi
  have g2:=oK hj
  rw [Bb (by omega) (fun i hi=>lp h hi) g1.1 g2.1,Kq _ _ _ _ _ _ (by omega) hx,Kq _ _ _ _ _ _ hx hy]
  congr 1
  rw [bu]
  have q1:=g1.2 0 (by omega)
  have q2:=g1.2 1 (by omega)
  have q3:=g2.2 0 (by omega)
  have q4:=g2.2 2 (by omega)
  change _≠2*x1 at q1
  change _≠2*x2 at q2
  change _≠2*y1 at q3
  change _≠2*y2 at q4
  omega
 unfold rG
 cases h1:AO n X Y 4 (yj x1 x2) (yi y1 y2)
 ·exact key.2 h1
 ·cases h2:AO n (fun k=> -Y k) X 4 (yj (-y2) (-y1)) (yi x1 x2)
  ·rw [key.1 h2] at h1;cases h1
  ·rfl
end
section
variable {b:dL}
theorem Vd (h:iO b.name=true) (h1:qS b=false) (h2: ∀j,j<b.nS->pH b j=0) (h3:uW b=false) (h4: ∀j,j<b.nO->oP b j=0) (h5: ∀j,j<b.nB->BC b j=0):fh b=0:=by
 rw [zE h h1 h2 h3 h4,fV h5]
theorem Sn (hs:tQ b) {x1 y1 z1 x2 y2 z2:Int} (hx:x1<x2) (hy:y1<y2):jN (tB b) (-y2) x1 z1 (-y1) x2 z2=jN b x1 y1 z1 x2 y2 z2:=by
 unfold jN
 congr 1
 rw [bu]
 have e: ∀i,i<b.nS->qQ (tB b) (-y2) x1 z1 (-y1) x2 z2 i=qQ b x1 y1 z1 x2 y2 z2 i:=fun i hi=>by
  unfold qQ
  have:=Qy (hs i hi) hx hy
  change (_&&rG (b.N i) (fun k=> -b.Y i k) (b.X i) (-y2) (-y1) x1 x2)=_
  rw [this]
  rfl
 exact ⟨fun h i hi=>by rw [<-e i hi];exact h i hi,fun h i hi=>by rw [e i hi];exact h i hi⟩
theorem Vb {a b' c d e f:Int} (h:nA a b' c d e f=0):nA (-e) a c (-b') d f=0:=by
 have h2:=pE h
 unfold nA
 rw [ab,ab]
 ·omega
 ·unfold gN
  simp only [ah]
  omega
theorem Ia (h:fh b=0):fh (tB b)=0:=by
 obtain ⟨c1,c2,c3,c4,c5,c6⟩:=lq h
 obtain ⟨f1,f2,f3⟩:=mQ c2 c3 c4
 refine Vd c1 c2 (fun j hj=> ?_) c4 (fun j hj=> ?_) (fun j hj=> ?_)
 ·have h1:=c3 j hj
  have e1:=f1 j hj
  change j<b.nS at hj
  unfold pH at h1 ⊢
  change (if gI (b.N j) (fun k=> -b.Y j k) (b.X j)≠0 then gI (b.N j) (fun k=> -b.Y j k) (b.X j) else if tR b j=true then 10 else if 0<j/\nW (b.N (j - 1)) (fun k=> -b.Y (j - 1) k) (b.X (j - 1)) (b.N j) (fun k=> -b.Y j k) (b.X j)=false then 12 else 0)=0
  rw [MJ,R5 (f1 (j - 1) (by omega)) e1]
  exact h1
 ·have h1:=c5 j hj
  unfold oP at h1 ⊢
  have e: ∀i,Ce (tB b) i=Ce b i:=fun i=>by
   unfold Ce
   change decide (b.O i 2<0\/b.O i 2>=b.O i 3\/b.O i 3>fb (b.N (b.O i 0).toNat) (fun k=> -b.Y (b.O i 0).toNat k) (b.X (b.O i 0).toNat) ((b.O i 1).toNat:Int)\/b.O i 4<0\/b.O i 4>=b.O i 5\/b.O i 5>fj b (b.O i 0).toNat - b.fl (b.O i 0).toNat)=_
   rw [AX]
  rw [e]
  exact h1
 ·have h1:=c6 j hj
  unfold BC at h1
  split at h1
  ·rename_i h2;exact absurd h1 h2
  ·rename_i h2
   have h2:=bP.1 h2
   split at h1
   ·cases h1
   ·rename_i h3
    have hc:=pE h2
    have e1:WC (tB b) j=0:=Vb h2
    have e2:blI (tB b) j=blI b j:=Sn (b:=b) f1 (x1:=b.B j 0) (y1:=b.B j 1) (z1:=b.B j 2) (x2:=b.B j 3) (y2:=b.B j 4) (z2:=b.B j 5) (by omega) (by omega)
    exact Si e1 (by rw [e2];simpa using h3)
end
end Go.Abs
end
section
set_option maxRecDepth 100000
namespace Go.Abs
open Go
def oC (x:Int):Bool:= !Lay.nI x 0 1
def rArE (b:dL) (nB:Nat) (B:Nat->Int) (nO:Nat) (O:Nat->Int) (W G L:Int):fx:= .res fun _=> .fC [.any,dI (ij b nB B nO O W G L)]
def YL (b:dL) (nB:Nat) (B:Nat->Int) (nO:Nat) (O:Nat->Int) (W G L:Int):fx:= .res fun _=> .fC [yo b nB B nO O W G L,dI 0]
section
variable {b:dL} {nB:Nat} {B:Nat->Int} {nO:Nat} {O:Nat->Int} {W G L i:Int} {m:Nat} {C:Nat->Int}
end
noncomputable def C5 (b:dL) (nB:Nat) (B:Nat->Int) (nO:Nat) (O:Nat->Int) (W G L:Int):eA:={ dz:=[(1,[(1,G2 b)]),(4,[(1,.res fun _=> .fC [Lay.Ot nB B nO O W G L,dI (Lay.fm nB B nO O W G L)])]),(9,[(4,.pos)]),(15,[(2,T3)]),(20,[(2,rWaK)]),(21,[(2,rCoK)]),(27,[(2,rRbx b G W L)]),(31,[(2,VM)])],loops:=[(1,{ ι:=Nat,keep:=[2,3,7,9,60],boxes:=[2,3,7],ts:=fun _ i=>[(61,dI (i:Int))],inv:=fun _ i=>i<=2,mu:=fun _ i=>2 - i,rd:=fun _ σ=>(ez (σ.get 61)).toNat }),(3,{ ι:=Nat,keep:=[2,14,109],boxes:=[2,14],ts:=fun _ i=>[(110,dI (i:Int))],inv:=fun _ i=>i<=b.N 0,mu:=fun _ i=>b.N 0 - i,rd:=fun _ σ=>(ez (σ.get 110)).toNat }),(5,{ ι:=Nat,keep:=[2,14,109,110,15,16,117,118],boxes:=[2,14,16],ts:=fun _ j=>[(119,dI (j:Int))],inv:=fun σ j=>j<=b.nB,mu:=fun _ j=>b.nB - j,rd:=fun _ σ=>(ez (σ.get 119)).toNat })],dK:=[] }
namespace w3e
noncomputable section
structure Z where
 b:dL
 nB:Nat
 B:Nat->Int
 nO:Nat
 O:Nat->Int
 W:Int
 G:Int
 L:Int
variable (z:Z) (i0 i1:Nat) (p:Prop) (P:List Prop) (a:Int) (k:Nat) (g:Bool) (A:DV) (E:List DV) (U:VT) (jM:Nat->Prop) (yR:Nat->VT) (xA:List Value)
abbrev x0:=Int.toNat 0
abbrev x1:=z.b.N x0
abbrev x2:Int:=(i0:Int)
abbrev x3:=i0<z.b.nB->rf (z.b.B i0 k)
abbrev x4:=i0<z.b.nO->rf (z.b.O i0 k)
abbrev x5:=i0<x1 z->rf a
abbrev x6:=Lay.ir z.nB z.B z.nO z.O z.W z.G z.L
abbrev x7:=z.b.B (Int.toNat (i1:Int)) k
abbrev x8:List Value:=Value.int IntKind.i64 a::xA
abbrev x9:=VT.dk [p] U
abbrev dM:List Prop:=rf z.b.nB::(∀(i0:Nat),x3 z i0 (0:Nat))::(∀(i0:Nat),x3 z i0 (1:Nat))::(∀(i0:Nat),x3 z i0 (2:Nat))::(∀(i0:Nat),x3 z i0 (3:Nat))::(∀(i0:Nat),x3 z i0 (4:Nat))::(∀(i0:Nat),x3 z i0 (5:Nat))::P
abbrev dQ:List Prop:=rf z.b.name::rf z.b.nS::(∀i0<z.b.nS,rf (z.b.fl i0))::(∀i0<z.b.nS,rf (z.b.N i0)/\(∀i1<z.b.N i0,rf (z.b.X i0 i1))/\(∀i1<z.b.N i0,rf (z.b.Y i0 i1)))::rf z.b.dE::rf z.b.nO::(∀(i0:Nat),x4 z i0 (0:Nat))::(∀(i0:Nat),x4 z i0 (1:Nat))::(∀(i0:Nat),x4 z i0 (2:Nat))::(∀(i0:Nat),x4 z i0 (3:Nat))::(∀(i0:Nat),x4 z i0 (4:Nat))::(∀(i0:Nat),x4 z i0 (5:Nat))::dM z P
abbrev dS:=Lay.fQ z.nB z.B z.nO z.O z.W z.G z.L
abbrev dT:=z.b.X x0 (ix (x1 z) (x2 i0+1))
abbrev dU:=z.b.Y x0 (ix (x1 z) (x2 i0+1))
abbrev dY:= ∀i0<x6 z,rf (Lay.ew z.nB i0)
abbrev eb:=kG z.b.dE z.L
abbrev eE:= ∀i0<x6 z,rf (decide (z.nB<=i0))
abbrev eH:=VT.ite g (VT.done [False,a=0]) U
abbrev eT:=fb (x1 z) (z.b.X x0) (z.b.Y x0) (x2 i0)
abbrev eG:=dD (x1 z) (z.b.X x0) (z.b.Y x0) (x2 i0)
abbrev eZ:=ov (x1 z) (z.b.X x0) (z.b.Y x0) i0
abbrev fi:=dQ z (rf z.nB::(∀i0<z.nB,rf (z.B i0))::rf z.nO::(∀i0<z.nO,rf (z.O i0))::rf z.W::rf z.G::rf z.L::rf (↑(dS z):Int)::rf (x6 z)::(∀i0<x6 z,rf (Lay.eI z.nB z.B z.nO z.O i0))::P)
abbrev fR:=oZ (z.b.N 0) (z.b.X 0) (z.b.Y 0) z.G z.W (x2 i0) 1 0
abbrev fU:=oX (z.b.N 0) (z.b.X 0) (z.b.Y 0) z.G z.W (x2 i0) 1 0
abbrev fS:=oY (z.b.N 0) (z.b.X 0) (z.b.Y 0) z.G z.W (x2 i0) 1 0
abbrev fz:=oW (z.b.N 0) (z.b.X 0) (z.b.Y 0) z.G z.W (x2 i0) 1 0
abbrev gi:=Int.toNat (x2 i0+1)
abbrev iA:=x8 (x7 z i1 k) xA
abbrev jw:List Prop:=p::rf (x1 z)::(∀(i0:Nat),x5 z i0 (z.b.X x0 i0))::(∀(i0:Nat),x5 z i0 (z.b.Y x0 i0))::P
abbrev iw:=DV.fC [A,dI a]
abbrev jk:= ∀(i0:Nat),x5 z i0 (eZ z i0)
abbrev jj:List Prop:=p::rf (↑(x1 z):Int)::P
abbrev gQ:=dQ z (fi z (dY z::jw z (eE z) ((∀(i0:Nat),x5 z i0 (dT z i0))::(∀(i0:Nat),x5 z i0 (dU z i0))::(∀(i0:Nat),x5 z i0 (eT z i0))::(∀(i0:Nat),x5 z i0 (eG z i0))::rf (x1 z)::P)))
abbrev iz:=Int.toNat ((i1:Int)+1)
abbrev mc:=DV.val (Value.agg (Array.mk xA))
abbrev kB:=DV.dt (x1 z) [fun i0=>dI (z.b.X x0 i0),fun i0=>dI (z.b.Y x0 i0)]
abbrev j8:=List.getD [z.G,z.G+z.W] (Int.toNat (x2 i0)) 0
abbrev oO:=Lay.fm z.nB z.B z.nO z.O z.W z.G z.L
abbrev mq:=DV.dt (x1 z) [fun i0=>dI (eZ z i0)]
abbrev nH:=jw z p (rf z.G::rf (z.G+z.W)::P)
abbrev sS:=VT.loop Nat jM x0 (jj z (0=(x0:Int)) P) yR
abbrev yb:=x9 (dh (x2 i0+1)) (VT.done P)
abbrev wR:=x2 i0+1=(↑(gi i0):Int)
abbrev mU:=dv prog k [kB z] (iw (0:Int) A)
abbrev so:=DV.dt (x6 z) [fun i0=>dI (Lay.eI z.nB z.B z.nO z.O i0),fun i0=>dI (Lay.ew z.nB i0),fun i0=>dB (decide (z.nB<=i0))]
abbrev xb:=DV.dt (x1 z) [fun i0=>dI (z.b.X x0 i0),fun i0=>dI (z.b.Y x0 i0),fun i0=>dI (dT z i0),fun i0=>dI (dU z i0),fun i0=>dI (eT z i0),fun i0=>dI (eG z i0)]
abbrev qJ:List Prop:=rf (x2 i0)::rf (x2 i0)::dM z (rf (z.b.nB:Int)::gQ z (jk z::rf (fR z i0)::rf (fU z i0)::rf (0:Int)::rf (fS z i0)::rf (fz z i0)::rf (eb z)::P))
abbrev sn:=mc (x8 (fR z i0) (x8 (fU z i0) (x8 (0:Int) (x8 (fS z i0) (x8 (fz z i0) (x8 (eb z) []))))))
abbrev mb:=lE (x1 z) (z.b.X x0) (z.b.Y x0) (j8 z i0)
abbrev qZ:List DV:=DV.dt z.nB [fun i0=>dI (z.B i0)]::DV.dt z.nO [fun i0=>dI (z.O i0)]::dI z.W::dI z.G::E
abbrev tH:=Uv (fR z i0) (fU z i0) 0 (fS z i0) (fz z i0) (eb z) (x7 z i1 (0:Nat)) (x7 z i1 (1:Nat)) (x7 z i1 (2:Nat)) (x7 z i1 (3:Nat)) (x7 z i1 (4:Nat)) (x7 z i1 (5:Nat))
abbrev xt:VT:=x9 (dv prog 41 [kz z.b] (dI (fh z.b))) (eH (fh z.b) (fh z.b !=0) (x9 (dv prog 57 [DV.agg (qZ z [dI z.L])] (iw (oO z) (DV.agg [dI (↑(dS z):Int),so z]))) (eH (oO z) (oO z !=0) (eH (2:Int) (decide (z.b.dE<z.L)) (x9 (0<=z.b.dE/\0<z.L/\z.b.dE<=9223372036854775807) (eH (8:Int) (decide ((z.b.dE/z.L)>(40:Int))) (x9 ((0:Int)<=(0:Int)/\0<(z.b.nS:Int)) (x9 (dh (z.G+z.W)) (VT.loop Nat (fun i0=>i0<=2) x0 (nH z (0=(x0:Int)) (fi z [dY z,eE z])) (fun i0=>VT.ite (decide ((x2 i0)<(2:Int))) (x9 (0<=x2 i0/\x2 i0<(↑(2:Nat):Int)) (x9 (dv prog 13 [kB z,dI (j8 z i0)] (iw (mb z i0) DV.any)) (eH (12:Int) (mb z i0 !=0) (yb i0 (nH z (wR i0) (fi z [dY z,eE z,gi i0<=2,2 - gi i0<2 - i0])))))) (x9 (mU z (93:Nat) (xb z)) (x9 (mU z (94:Nat) (mq z)) (eH (12:Int) ((↑(x1 z):Int) !=(↑(x1 z):Int)) (sS z (gQ z [jk z]) (fun i0=>i0<=z.b.N 0) (fun i0=>VT.ite (decide ((x2 i0)<(↑(x1 z):Int))) (x9 (dv prog 40 [DV.dV (DV.val (Value.string z.b.name)::DV.dt z.b.nS [fun i0=>dI (z.b.fl i0),fun i0=>DV.dt (z.b.N i0) [fun i1=>dI (z.b.X i0 i1),fun i1=>dI (z.b.Y i0 i1)]]::dI z.b.dE::DV.dt z.b.nO [fun i0=>dI (z.b.O i0 0),fun i0=>dI (z.b.O i0 1),fun i0=>dI (z.b.O i0 2),fun i0=>dI (z.b.O i0 3),fun i0=>dI (z.b.O i0 4),fun i0=>dI (z.b.O i0 5)]::DV.dt z.b.nB [fun i0=>dI (z.b.B i0 0),fun i0=>dI (z.b.B i0 1),fun i0=>dI (z.b.B i0 2),fun i0=>dI (z.b.B i0 3),fun i0=>dI (z.b.B i0 4),fun i0=>dI (z.b.B i0 5)]::qZ z [dI z.L,dI (↑(dS z):Int),so z,xb z,mq z]),dI (x2 i0),dI 1,dI 0] (sn z i0)) (sS z (qJ z i0 []) (fun i0=>i0<=z.b.nB) (fun i1=>VT.ite (decide ((i1:Int)<(z.b.nB:Int))) (x9 (0<=(i1:Int)/\(i1:Int)<(z.b.nB:Int)) (x9 (dv prog 12 [sn z i0,mc (iA z i1 (0:Nat) (iA z i1 (1:Nat) (iA z i1 (2:Nat) (iA z i1 (3:Nat) (iA z i1 (4:Nat) (iA z i1 (5:Nat) []))))))] (iw (U0 (fR z i0) (fU z i0) 0 (fS z i0) (fz z i0) (eb z) (x7 z i1 (0:Nat)) (x7 z i1 (1:Nat)) (x7 z i1 (2:Nat)) (x7 z i1 (3:Nat)) (x7 z i1 (4:Nat)) (x7 z i1 (5:Nat))) (dB (tH z i0 i1)))) (eH (12:Int) (tH z i0 i1) (x9 (dh ((i1:Int)+1)) (VT.done (jj z ((i1:Int)+1=(↑(iz i1):Int)) (qJ z i0 [iz i1<=z.b.nB,z.b.nB - iz i1<z.b.nB - i1]))))))) (yb i0 (jj z (wR i0) (gQ z [jk z,gi i0<=z.b.N 0,z.b.N 0 - gi i0<z.b.N 0 - i0])))))) (VT.done (fi z [dY z,eE z,x1 z=z.b.N 0,∀i0<z.b.N 0,z.b.X x0 i0=z.b.X 0 i0,∀i0<z.b.N 0,z.b.Y x0 i0=z.b.Y 0 i0,∀i0<z.b.N 0,dT z i0=z.b.X 0 (ix (z.b.N 0) (x2 i0+1)),∀i0<z.b.N 0,dU z i0=z.b.Y 0 (ix (z.b.N 0) (x2 i0+1)),∀i0<z.b.N 0,eT z i0=fb (z.b.N 0) (z.b.X 0) (z.b.Y 0) (x2 i0),∀i0<z.b.N 0,eG z i0=dD (z.b.N 0) (z.b.X 0) (z.b.Y 0) (x2 i0),x1 z=z.b.N 0,∀i0<z.b.N 0,eZ z i0=ov (z.b.N 0) (z.b.X 0) (z.b.Y 0) i0,rf (0:Int)])))))))))))))))))
end
end w3e
open w3e in
theorem xU (b:dL) (nB:Nat) (B:Nat->Int) (nO:Nat) (O:Nat->Int) (W G L:Int) (hN: ∀i,i<b.nS->b.N i<=1000) (h0:ij b nB B nO O W G L=0):dv prog 31 [kz b,Lay.sys nB B nO O W G L] (.fC [yo b nB B nO O W G L,dI 0]):=by
 refine dm dJ (C5 b nB B nO O W G L) (V:=xt ⟨b,nB,B,nO,O,W,G,L⟩) (by kernel_rfl) ?_
 simp only [xt,x0,x1,x2,x3,x4,x5,x6,x7,x8,x9,dM,dQ,dS,dT,dU,dY,eb,eE,eH,eT,eG,eZ,fi,fR,fU,fS,fz,gi,iA,jw,iw,jk,jj,gQ,iz,mc,kB,j8,oO,mq,nH,sS,yb,wR,mU,so,xb,qJ,sn,mb,qZ,tH,Rf,VT.holds,dC,Sq]
 obtain ⟨hc,hs,h3,h4,e1,e2,hk⟩:=iy h0
 obtain ⟨b1,b2,b3,b4,b5⟩:=nE hc
 obtain ⟨g1,g2,g3⟩:=jV hs
 have hg:=g1
 unfold mK at hg
 have hn:=fO b2
 obtain ⟨hX,hY⟩:=eS b2
 refine ⟨zF b hN,fun h=>absurd hc h,fun _=>⟨Lay.AE nB B nO O W G L,fun h=>absurd hs h,fun _=>⟨fun h=>absurd h h3,fun _=>⟨by omega,fun h=>absurd h h4,fun _=>⟨by omega,by unfold dh;omega,rfl,by omega,fun i hi=>⟨fun dR=> ?_,fun iG=> ?_⟩⟩⟩⟩⟩⟩
 ·have Ms:i=0\/i=1:=by omega
  have hd:(0<=ZN G W i/\ZN G W i<=1000000)/\lE (b.N 0) (b.X 0) (b.Y 0) (ZN G W i)=0:=by
   rcases Ms with rfl|rfl
   ·exact ⟨show 0<=G/\G<=1000000 by omega,e1⟩
   ·exact ⟨show 0<=G+W/\G+W<=1000000 by omega,e2⟩
  exact ⟨by omega,Hc _ _ _ _ b2 hd.1,fun h=>absurd hd.2 h,fun h=>⟨by unfold dh;omega,rfl,by omega,by omega⟩⟩
 ·refine ⟨Lj b2,Ee b2,fun h=>absurd trivial h,fun _=>⟨rfl,aq _,fun i hi dR=> ?_⟩⟩
  refine ⟨DD _ _ _ _ _ _ _ _ _ _ _ _ _ _ _ _ _ _ (by omega) (by omega) hX hY g1 (by omega) (by omega) ⟨b3,b4⟩ ⟨g2,g3⟩,rfl,aq _,fun j hj=>⟨fun xC=> ?_,fun NX=>⟨by unfold dh;omega,rfl,by omega,by omega⟩⟩⟩
  rw [sC hc hs h4 e1 e2 (i:=i) (j:=j) (by omega) (by omega)]
  have hb:jX b G W L i j=false:=by
   unfold mZ at hk
   rw [ah] at hk
   exact hk i (by omega) j (by omega)
  refine ⟨by omega,?_,fun h=>(by rw [hb] at h;cases h),fun h=>⟨by unfold dh;omega,rfl,by omega,by omega⟩⟩
  have:=DM (oZ (b.N 0) (b.X 0) (b.Y 0) G W i 1 0) (oX (b.N 0) (b.X 0) (b.Y 0) G W i 1 0) 0 (oY (b.N 0) (b.X 0) (b.Y 0) G W i 1 0) (oW (b.N 0) (b.X 0) (b.Y 0) G W i 1 0) (kG b.dE L) (b.B j 0) (b.B j 1) (b.B j 2) (b.B j 3) (b.B j 4) (b.B j 5)
  rw [sC hc hs h4 e1 e2 (i:=i) (j:=j) (by omega) (by omega)] at this
  exact this
end Go.Abs
end
section
set_option maxRecDepth 100000
namespace Go.Abs.Lay
open Go Go.RowKit Go.Lib
attribute [local go_sem] Oper.semAt_some
set_option maxHeartbeats 4000000 in
theorem N6 (w:World):Calls prog 187 #[.slice none 0 0,.int .i64 0] w fun e w'=>e= .returned (.slice none 0 0)/\w'=w:=by
 have mixed:=dJ
 go_enter Go.Proofs.Tryz.func187,Go.Proofs.Tryz.ntmps187
 go_wp2
 go_ret
 exact ⟨rfl,rfl⟩
set_option maxHeartbeats 4000000 in
theorem RB (w:World) (n:Nat) (h0:0<n) (hn:n<=100000000):Calls prog 187 #[.slice none 0 0,.int .i64 n] w fun e w'=>
 ∃G,n<=G/\e= .returned (.slice (some ⟨w.heap.size,0,none⟩) 0 G)/\w'=w.drew.alloc (.cells (Builtin.zeroCells #[.int .i64 0] n++Builtin.zeroCells #[.int .i64 0] (G - n)) 3):=by
 have mixed:=dJ
 have h1: ¬((n:Int)<0):=by omega
 have h4:(n:Int)>0:=by omega
 have hrz: ∀ty,(Builtin.append_ #[27,3] ty #[.slice none 0 0,.int .i64 (n:Int)]).run prog w=
  .ok (.slice (some ⟨w.heap.size,0,none⟩) n (grownCap w n 0 3)) (w.drew.alloc (.cells (Builtin.zeroCells #[.int .i64 0] n++Builtin.zeroCells #[.int .i64 0] (grownCap w n 0 3 - n)) 3)):=fun ty=>
  run_append_nil_zeros w 27 3 ty 3 _ (.int .i64 0) .i64 .i64 Go.Proofs.Tryz.underlying27 Go.Proofs.Tryz.underlying3 rfl (by kernel_rfl) n h0 (of_decide_eq_true (by kernel_rfl)) (by omega) (by
   have hb:(prog.types[3].bytes)=8:=by kernel_rfl
   show n*prog.types[3].bytes<=_
   rw [hb];omega)
 have hGn:n<=grownCap w n 0 3:=grownCap_ge w _ _ _
 obtain ⟨G,hG⟩: ∃G,G=grownCap w n 0 3:=⟨_,rfl⟩
 have hG63:G<=9223372036854775807:=by
  have:=grownCap_le_maxLen w n 0 3 (by unfold maxLen;omega)
  rw [<-hG] at this
  unfold maxLen at this
  omega
 rw [<-hG] at hrz hGn
 clear hG
 go_enter Go.Proofs.Tryz.func187,Go.Proofs.Tryz.ntmps187
 go_wp2_with (at_builtin;refine Lib.wpList_append_run _ rfl _ _ _ _ rfl _ _ rfl rfl _ _ (hrz _) ?_)
 all_goals (go_ret;exact ⟨G,hGn,rfl,rfl⟩)
theorem ZO (n:Int) (h0:0<=n) (hn:n<=100000000):Vz prog 187 [.val (.slice none 0 0),.val (.int .i64 n)] 0 [fun _=> .val (.int .i64 0)]:=by
 refine ⟨⟨_,Go.Proofs.Tryz.func187,rfl,by kernel_rfl⟩,fun S w vs hs hv _=> ?_⟩
 obtain ⟨⟨l⟩,rfl⟩: ∃v:Array Value,vs=v:=⟨vs,rfl⟩
 match l,hs with
 |[u0,u1],_=>
  have r0:=hv 0 _ _ rfl rfl
  have r1:=hv 1 _ _ rfl rfl
  cases r0;cases r1
  by_cases e:n=0
  ·subst e
   refine (N6 w).mono fun e w' ⟨he,hw⟩=>⟨_,he,?_,.inl ⟨rfl,rfl⟩⟩
   rw [hw];exact Below.refl _ _
  ·obtain ⟨k,rfl⟩: ∃k:Nat,n=k:=⟨n.toNat,by omega⟩
   refine (RB w k (by omega) (by omega)).mono fun e w' ⟨G,hG,he,hw⟩=>⟨_,he,?_,.inr ⟨w.heap.size,G,(Builtin.zeroCells #[Value.int IntKind.i64 0] k++Builtin.zeroCells #[Value.int IntKind.i64 0] (G - k)),3,rfl,ae _,by rw [hw];exact heap_alloc_new w.drew _,?_,aq _,fun i j f hi=>absurd hi (aG _)⟩⟩
   ·rw [hw]
    exact (show Below w.heap.size w w.drew from ⟨rfl,rfl,rfl,ae _,fun _ _=>rfl,fun _=>Nat.le_succ _⟩).alloc (ae _) _
   ·simp only [Array.size_append,size_zeroCells,aH,b7]
    show k*1+(G - k)*1=_
    omega
end Go.Abs.Lay
end
section
set_option maxRecDepth 100000
namespace Go.Abs.Lay
open Go
def sU (N:Nat->Nat):Nat->Nat
 |0=>0
 |i+1=>sU N i+N i
def y8 (N:Nat->Nat) (A:Nat->Nat->Int):Nat->Nat->Int
 |0=>fun _=>0
 |i+1=>fun k=>if k<sU N i then y8 N A i k else A i (k - sU N i)
def jx (f:Nat->Int):Nat->Int
 |0=>0
 |k+1=>jx f k+f k
def T4:fx:= .res fun l=> .dt (sU (fun i=>lenOf (Oj 0 (arg l 0) i)) (lenOf (arg l 0))) [fun k=> .val (.int .i64 (y8 (fun i=>lenOf (Oj 0 (arg l 0) i)) (fun i k=>ic 0 (Oj 0 (arg l 0) i) k) (lenOf (arg l 0)) k))]
theorem Lw {N:Nat->Nat} {b:Nat} {m:Nat} (h: ∀i,i<m->N i<=b): ∀i,i<=m->sU N i<=i*b
 |0,_=>aq _
 |i+1,hi=>by
  have:=Lw h i (by omega)
  have:=h i (by omega)
  rw [bY]
  simp only [sU]
  omega
theorem Ly {f:Nat->Int} {n:Nat} (h: ∀k,k<n->1<=f k/\f k<=10000): ∀k,k<=n->0<=jx f k/\jx f k<=10000*k
 |0,_=>⟨db _,db _⟩
 |k+1,hk=>by
  have:=Ly h k (by omega)
  have:=h k (by omega)
  simp only [jx]
  omega
theorem zZ {f g:Nat->Int}: ∀{n:Nat},(∀k,k<n->f k=g k)->jx f n=jx g n
 |0,_=>rfl
 |n+1,h=>by
  rw [jx,jx,zZ fun k hk=>h k (by omega),h n (by omega)]
theorem GK (f g:Nat->Int) (n:Nat): ∀m,jx (fun k=>if k<n then f k else g (k - n)) (n+m)=jx f n+jx g m
 |0=>by
  rw [bV,jx,Int.add_zero]
  exact zZ fun k hk=>ag hk
 |m+1=>by
  rw [<-cC,jx,GK f g n m,ab (by omega),Nat.add_sub_cancel_left,jx,Int.add_assoc]
def rSum:fx:= .res fun l=>dI (jx (ic 0 (fD 0 (arg l 0))) (lenOf (fD 0 (arg l 0)))+jx (ic 0 (fD 1 (arg l 0))) (lenOf (fD 1 (arg l 0))))
def j6 (nB:Nat) (B:Nat->Int) (nO:Nat) (O:Nat->Int) (nC:Nat) (C:Nat->Int) (nD:Nat) (D:Nat->Int) (len:Int):Int:=
 if B4 nB B nO O nC C nD D=0 then (if jx C nC+jx D nD=len then 0 else 25) else B4 nB B nO O nC C nD D
def Qi:fx:= .res fun l=>dB (gw (fun k=>aX l k==aI l 1) (aN l))
theorem ck_bd {nB:Nat} {B:Nat->Int} {nO:Nat} {O:Nat->Int} {W G L:Int} {nC:Nat} {C:Nat->Int} {nD:Nat} {D:Nat->Int} (hs:fm nB B nO O W G L=0) (h:B4 nB B nO O nC C nD D=0):
 (∀k,k<nC->1<=C k/\C k<=10000)/\ ∀k,k<nD->1<=D k/\D k<=10000:=by
 obtain ⟨_,_,_,sB,sO,_,_⟩:=k7 hs
 unfold B4 at h
 split at h
 ·cases h
 ·split at h
  ·cases h
  ·rename_i h2
   constructor
   ·intro k hk
    obtain ⟨j,hj,e⟩:=xn (n:=nC) (A:=C) (m:=nB) (O:=B) (by cases hx:gd nC C nB B with|true=>exact absurd (.inl hx) h2|false=>rfl) hk
    rw [<-e];exact sB j hj
   ·intro k hk
    obtain ⟨j,hj,e⟩:=xn (n:=nD) (A:=D) (m:=nO) (O:=O) (by cases hx:gd nD D nO O with|true=>exact absurd (.inr hx) h2|false=>rfl) hk
    rw [<-e];exact sO j hj
noncomputable def Dl (m:Nat) (N:Nat->Nat) (A:Nat->Nat->Int):eA:={ dz:=[(9,[(1,.row fun _=>(0,[fun _=> .val (.int .i64 0)]))])],loops:=[(0,{ ι:=Nat,keep:=[0,9,10],boxes:=[],ts:=fun _ i=>[(11,dI (i:Int)),(3,dI (sU N i))],inv:=fun _ i=>i<=m,mu:=fun _ i=>m - i,rd:=fun _ σ=>(ez (σ.get 11)).toNat }),(2,{ ι:=Nat,keep:=[25,26],boxes:=[],ts:=fun _ i=>[(27,dI (i:Int))],rw:=fun _ i=>[(6,1,sU N i,[fun k=> .val (.int .i64 (y8 N A i k))])],inv:=fun _ i=>i<=m,mu:=fun _ i=>m - i,rd:=fun _ σ=>(ez (σ.get 27)).toNat })],dK:=[] }
namespace w3f
noncomputable section
structure Z where
 m:Nat
 N:Nat->Nat
 A:Nat->Nat->Int
variable (z:Z) (i0:Nat) (p:Prop) (P:List Prop) (k:Nat) (U V:VT) (DY:Nat->VT)
abbrev x0:=Lay.sU z.N k
abbrev x1:=Int.toNat ((i0:Int)+1)
abbrev x2:=Int.toNat 0
abbrev x3:= ∀i0<z.m,rf (z.N i0)/\(∀i1<(z.N i0),rf (z.A i0 i1))
abbrev x4:=(↑(x0 z i0):Int)+(↑(z.N (Int.toNat (i0:Int))):Int)
abbrev x5:=x0 z i0+(z.N (Int.toNat (i0:Int)))
abbrev x6:=VT.dk [dh ((i0:Int)+1)] (VT.done (((i0:Int)+1=(↑(x1 i0):Int))::p::P))
abbrev x7:=VT.loop Nat (fun i0=>i0<=z.m) x2 ((0=(x2:Int))::p::P) DY
abbrev x8:=x6 i0 (x4 z i0=(↑(x0 z (x1 i0)):Int)) [rf z.m,x3 z,rf z.m,x3 z,rf (z.m:Int),x1 i0<=z.m,z.m - x1 i0<z.m - i0]
abbrev x9:=VT.ite (decide ((i0:Int)<(z.m:Int))) (VT.dk [0<=(i0:Int)/\(i0:Int)<(z.m:Int)] U) V
abbrev xt:VT:=x7 z (0=(↑(x0 z x2):Int)) [rf z.m,x3 z,rf z.m,x3 z,rf (z.m:Int)] (fun i0=>x9 z i0 (VT.dk [dh (x4 z i0)] (VT.ite (decide ((x4 z i0)<(0:Int))) (VT.dk [False,False] (x8 z i0)) (x8 z i0))) (VT.dk [Vz prog 187 [DV.val (Value.slice none 0 0),dI (↑(x0 z i0):Int)] 0 [fun i0=>dI 0]] (x7 z (rf (0:Nat)) [0=x0 z x2,rf z.m,x3 z,rf (z.m:Int),0=x0 z x2,∀i0<x0 z x2,0=Lay.y8 z.N z.A x2 i0] (fun i0=>x9 z i0 (VT.dk [x0 z i0<=x0 z i0,x5 z i0*((nat_lit 7)+1)<=140737488355328] (x6 i0 (rf (0:Nat)) [x5 z i0=x0 z (x1 i0),rf z.m,x3 z,rf (z.m:Int),x5 z i0=x0 z (x1 i0),∀i1<x0 z (x1 i0),(if (decide (i1<(x0 z i0)))=true then (Lay.y8 z.N z.A i0 i1) else (z.A (Int.toNat (i0:Int)) (i1 - x0 z i0)))=Lay.y8 z.N z.A (x1 i0) i1,x1 i0<=z.m,z.m - x1 i0<z.m - i0])) (VT.done [x0 z i0<=x0 z i0,x0 z i0=x0 z z.m,∀i1<x0 z z.m,Lay.y8 z.N z.A i0 i1=Lay.y8 z.N z.A z.m i1])))))
end
end w3f
open w3f in
theorem Sa (m:Nat) (N:Nat->Nat) (A:Nat->Nat->Int) (hm:m<=10) (hN: ∀i,i<m->N i<=1000000):dv prog 173 [lists m N A] (.dt (sU N m) [fun k=> .val (.int .i64 (y8 N A m k))]):=by
 refine dm dJ (Dl m N A) (V:=xt ⟨m,N,A⟩) (by kernel_rfl) ?_
 simp only [xt,x0,x1,x2,x3,x4,x5,x6,x7,x8,x9,Rf,VT.holds,dC,Sq]
 have hs:=fun i hi=>Lw (m:=m) hN i hi
 have hb: ∀i,i<=m->sU N i<=10000000:=fun i hi=>by
  have:=hs i hi
  have:i*1000000<=10*1000000:=aK _ (by omega)
  omega
 refine ⟨⟨rfl,rfl⟩,aq _,fun i hi=>⟨fun dR=> ?_,fun iG=>⟨ZO _ (by omega) (by have:=hb i hi;omega),⟨rfl,rfl,rfl,fun k hk=>absurd hk (aG k)⟩,aq _,fun i hi=>⟨fun dR=> ?_,fun iG=> ?_⟩⟩⟩⟩
 ·have h1:=hb i hi
  have h2:=hN i (by omega)
  exact ⟨⟨by omega,by omega⟩,by unfold dh;omega,fun h=>absurd h (by omega),fun _=>⟨by unfold dh;omega,rfl,by simp only [sU];omega,by omega,by omega⟩⟩
 ·have h1:=hb i hi
  have h2:=hN i (by omega)
  exact ⟨⟨by omega,by omega⟩,⟨ae _,by omega⟩,by unfold dh;omega,rfl,rfl,rfl,fun k hk=>rfl,by omega,by omega⟩
 ·rw [show i=m by omega]
  exact ⟨ae _,rfl,fun _ _=>rfl⟩
noncomputable def OH (nC:Nat) (C:Nat->Int) (nD:Nat) (D:Nat->Int):eA:={ dz:=[(2,[(5,T4)])],loops:=[(0,{ ι:=Nat,keep:=[11,12],boxes:=[],ts:=fun _ i=>[(13,dI (i:Int)),(3,dI (jx (fun k=>if k<nC then C k else D (k - nC)) i))],inv:=fun _ i=>i<=nC+nD,mu:=fun _ i=>nC+nD - i,rd:=fun _ σ=>(ez (σ.get 13)).toNat })],dK:=[] }
namespace w3g
noncomputable section
structure Z where
 nC:Nat
 C:Nat->Int
 nD:Nat
 D:Nat->Int
variable (z:Z) (i0 i1:Nat) (k:Nat)
abbrev x0:=if (decide (i0=(0:Nat)))=true then z.nC else z.nD
abbrev x1:=Lay.sU (fun i0=>x0 z i0) 2
abbrev x2:=if (decide (i0=(0:Nat)))=true then (z.C i1) else (z.D i1)
abbrev x3:=Lay.y8 (fun i0=>x0 z i0) (fun i0=>fun i1=>x2 z i0 i1) 2 k
abbrev x4:=Lay.jx (fun i0=>if i0<z.nC then (z.C i0) else (z.D (i0 - z.nC))) k
abbrev x5:=Int.toNat ((i0:Int)+1)
abbrev x6:=x4 z i0+x3 z (Int.toNat (i0:Int))
abbrev xt:VT:=VT.dk [(2:Nat)<=(2:Nat),dv prog 173 [DV.dt 2 [fun i0=>DV.dt (x0 z i0) [fun i1=>dI (x2 z i0 i1)]]] (DV.dt (x1 z) [fun i0=>dI (x3 z i0)])] (VT.loop Nat (fun i0=>i0<=z.nC+z.nD) (Int.toNat 0) [0=(↑(Int.toNat 0):Int),0=x4 z (Int.toNat 0),rf (x1 z),∀i0<x1 z,rf (x3 z i0),rf (↑(x1 z):Int)] (fun i0=>VT.ite (decide ((i0:Int)<(↑(x1 z):Int))) (VT.dk [0<=(i0:Int)/\(i0:Int)<(↑(x1 z):Int)] (VT.dk [dh (x6 z i0)] (VT.dk [dh ((i0:Int)+1)] (VT.done [(i0:Int)+1=(↑(x5 i0):Int),x6 z i0=x4 z (x5 i0),rf (x1 z),∀i0<x1 z,rf (x3 z i0),rf (↑(x1 z):Int),x5 i0<=z.nC+z.nD,z.nC+z.nD - x5 i0<z.nC+z.nD - i0])))) (VT.done [x4 z i0=Lay.jx z.C z.nC+Lay.jx z.D z.nD])))
end
end w3g
open w3g in
theorem sum_c (nC:Nat) (C:Nat->Int) (nD:Nat) (D:Nat->Int) (h1:nC<=1000000) (h2:nD<=1000000) (hC: ∀k,k<nC->1<=C k/\C k<=10000) (hD: ∀k,k<nD->1<=D k/\D k<=10000):dv prog 145 [clg nC C nD D] (dI (jx C nC+jx D nD)):=by
 refine dm dJ (OH nC C nD D) (V:=xt ⟨nC,C,nD,D⟩) (by kernel_rfl) ?_
 simp only [xt,x0,x1,x2,x3,x4,x5,x6,Rf,VT.holds,dC,Sq]
 have Ux:sU (fun i=>if i=0 then nC else nD) 2=nC+nD:=by simp [sU]
 have hcat:y8 (fun i=>if i=0 then nC else nD) (fun i k=>if i=0 then C k else D k) 2=fun k=>if k<nC then C k else D (k - nC):=by
  funext k
  simp [y8,sU]
 have hc:=Sa 2 (fun i=>if i=0 then nC else nD) (fun i k=>if i=0 then C k else D k) (by omega) (fun i _=>by split<;>omega)
 rw [Ux,hcat] at hc ⊢
 have hf: ∀k,k<nC+nD->1<=(fun k=>if k<nC then C k else D (k - nC)) k/\(fun k=>if k<nC then C k else D (k - nC)) k<=10000:=fun k hk=>by
  dsimp only
  split
  ·exact hC k ‹_›
  ·exact hD _ (by omega)
 refine ⟨⟨ae _,hc⟩,⟨rfl,rfl⟩,aq _,fun i hi=>⟨fun dR=> ?_,fun iG=> ?_⟩⟩
 ·have h3:=Ly hf i hi
  have h4:=hf i (by omega)
  have h5:i<=2000000:=by omega
  have h6:jx (fun k=>if k<nC then C k else D (k - nC)) (i+1)=jx (fun k=>if k<nC then C k else D (k - nC)) i+(fun k=>if k<nC then C k else D (k - nC)) i:=rfl
  generalize jx (fun k=>if k<nC then C k else D (k - nC)) i=X at*
  exact ⟨⟨by omega,by omega⟩,(by unfold dh;omega:dh (X+(fun k=>if k<nC then C k else D (k - nC)) i)),by unfold dh;omega,rfl,h6.symm,by omega,by omega⟩
 ·rw [show i=nC+nD by omega,GK]
noncomputable def FU (nB:Nat) (B:Nat->Int) (nO:Nat) (O:Nat->Int) (W G L len:Int) (nC:Nat) (C:Nat->Int) (nD:Nat) (D:Nat->Int):eA:={ dz:=[(1,[(2,rCk)]),(4,[(1,rSum)])],loops:=[],dK:=[] }
theorem Sc (nB:Nat) (B:Nat->Int) (nO:Nat) (O:Nat->Int) (W G L len:Int) (nC:Nat) (C:Nat->Int) (nD:Nat) (D:Nat->Int) (hs:fm nB B nO O W G L=0) (hc:nC<=1000000) (hd:nD<=1000000):dv prog 102 [sys nB B nO O W G L,dI len,clg nC C nD D] (dI (j6 nB B nO O nC C nD D len)):=by
 refine dm dJ (FU nB B nO O W G L len nC C nD D) (V:= .dk [dv prog 144 [.agg [.dt nB [fun i=>(dI (B i))],.dt nO [fun i=>(dI (O i))],(dI W),(dI G),(dI L)],.agg [.dt nC [fun i=>(dI (C i))],.dt nD [fun i=>(dI (D i))]]] ((dI (B4 nB B nO O nC C nD D)))] (.ite (B4 nB B nO O nC C nD D !=0) (.done [B4 nB B nO O nC C nD D=j6 nB B nO O nC C nD D len]) (.dk [dv prog 145 [.agg [.dt nC [fun i=>(dI (C i))],.dt nD [fun i=>(dI (D i))]]] ((dI (jx C nC+jx D nD)))] (.ite (jx C nC+jx D nD !=len) (.done [(25:Int)=j6 nB B nO O nC C nD D len]) (.done [(0:Int)=j6 nB B nO O nC C nD D len]))))) (by kernel_rfl) ?_
 simp only [VT.holds,dC,Sq]
 refine ⟨ck_c nB B nO O W G L nC C nD D hs hc hd,fun h=>by rw [j6,ab h],fun h=> ?_⟩
 obtain ⟨bC,bD⟩:=ck_bd hs h
 exact ⟨sum_c nC C nD D hc hd bC bD,fun h2=>by rw [j6,ag h,ab h2],fun h2=>by rw [j6,ag h,ag h2]⟩
end Go.Abs.Lay
end
