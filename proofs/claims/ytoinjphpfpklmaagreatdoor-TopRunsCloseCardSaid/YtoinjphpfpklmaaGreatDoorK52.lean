/- Contracts and what they stand on. -/
import Derived.Test.YtoinjphpfpklmaaGreatDoorK43
import Derived.Test.YtoinjphpfpklmaaGreatDoorRows
import Derived.ProofKit
import Derived.LaidMore
import Derived.Stop.Joined
import Derived.Lib.Walk
import Derived.Lib.SliceRun
import Derived.Lib.AppendZerosOnto
set_option linter.unusedVariables false
set_option linter.unusedSimpArgs false
section
namespace Go.Abs
open Go Go.RowKit Go.WideShapes Go.ChangeShapes Go.Deep Go.Joins Go.WideElems
open Go.Proofs
section
variable {H:Type} {enc:TypeId×Value->H} {w:World} {base:Nat} {spare:Nat->Bool} {held:Bool}
theorem Ah {P:Program} {t:TypeId} {fs:Array Field} {fuel:Nat} {cs:List Value} {x:DataW H×List MemPlace} (hs:P.underlying t=some (.struct fs)) (jR:oneCellFields P fs=true) (hC:P.cellsOf t=fs.size)
 (h:DataW.trod enc P w base spare held fuel t cs=some x):
 cs.length=fs.size/\ ∃n:Nat,∀(j:Nat) (f:Field),fs[j]? =some f-> ∃u y,cs[j]? =some u/\DataW.trod enc P w base spare held n f.type [u]=some y:=by
 obtain ⟨xs,n,_,_,hl,hlen,hg⟩:=DataW.trod_struct hs h
 refine ⟨hl.trans hC,n,fun j f B5=> ?_⟩
 have hj:=(aJ.1 B5).1
 have hjc:j<cs.length:=by rw [hl,hC];exact hj
 obtain ⟨ho,hk⟩:=hone_of jR j _ B5
 have h1:=hg j _ B5
 rw [ho,hk] at h1
 have Hy:(cs.drop j).take 1=[cs[j]]:=by
  rw [cx hjc]
  rfl
 rw [Hy] at h1
 have hxs:xs[j]? =some (xs[j]'(by omega)):=ak (by omega)
 exact ⟨_,_,ak hjc,h1.trans hxs⟩
theorem PB {S:Nat->Prop} (hS: ∀b,S b) {a:Addr} {len cap:Nat} (hl:len<=cap) (h: ∀i,i<len-> ∃z,w.cell? (a.add i)=some (.int .i64 z)):
 ∃A:Nat->Int,du (fQ w S) (Lay.nums len A) (.slice (some a) len cap):=by
 classical
 refine ⟨fun i=>if hi:i<len then (h i hi).choose else 0,?_⟩
 refine .di (fun i j=> .int .i64 (if hi:i<len then (h i hi).choose else 0)) hl (fun i j f hi hj=>⟨a,rfl,?_,hS _⟩) (fun _=>by simp) (fun _ _ _ _ _=>rfl) fun i j f hi hj=> ?_
 ·match j,hj with
  |0,_=>rw [dif_pos hi,cB,Nat.mul_one,bU];exact .inl ⟨(h i hi).choose_spec,rfl⟩
 ·match j,hj with
  |0,hj=>cases hj;exact .val _
theorem open_ints {P:Program} {S:Nat->Prop} (hS: ∀b,S b) {t e:TypeId} {fuel:Nat} {v:Value} {x:DataW H×List MemPlace} (ht:P.underlying t=some (.slice e)) (he:P.underlying e=some (.int .i64)) (hC:P.cellsOf e=1)
 (h:DataW.trod enc P w base spare held fuel t [v]=some x): ∃(n:Nat) (A:Nat->Int),du (fQ w S) (Lay.nums n A) v:=by
 rcases open_slice1 ht hC h with ⟨h0,_⟩|⟨a,len,cap,m,n,V,D,Pl,xy,_,hl,_,hm,_,hi⟩
 ·cases h0
  exact ⟨0,fun _=>0,uG _⟩
 ·cases xy
  obtain ⟨A,hA⟩:=PB hS (w:=w) (a:=a) hl fun i QJ=>by
   have YV:i<m:=by rw [hm];split<;>omega
   obtain ⟨hc,ht'⟩:=hi i YV
   obtain ⟨z,hz,_,_⟩:=DataW.trod_int he ht'
   exact ⟨z,by rw [hc];exact congrArg some (List.cons.inj hz).1⟩
  exact ⟨len,A,hA⟩
abbrev bldL (b:dJ):List DV:=[.val (.string b.name),.di b.nS (ML b),dI b.dr,.di b.nO (MZ b),.di b.nB (NN b)]
abbrev sysL (nB:Nat) (B:Nat->Int) (nO:Nat) (O:Nat->Int) (W G L:Int):List DV:=[Lay.nums nB B,Lay.nums nO O,dI W,dI G,dI L]
set_option maxRecDepth 100000 in
theorem MY {fuel:Nat} {cs:List Value} {x:DataW H×List MemPlace} (h:DataW.trod enc Tryz.prog w base spare held fuel 26 cs=some x):
 ∃b:dJ,cs.length=5/\ ∀(j:Nat) (d:DV) (u:Value),(bldL b)[j]? =some d->cs[j]? =some u->du (fQ w fun _=>True) d u:=by
 obtain ⟨fq,n,hf⟩:=Ah (fs:=_) Tryz.underlying26 (by kernel_rfl) (by kernel_rfl) h
 obtain ⟨u0,x0,e0,t0⟩:=hf 0 _ rfl
 obtain ⟨u1,x1,e1,t1⟩:=hf 1 _ rfl
 obtain ⟨u2,x2,e2,t2⟩:=hf 2 _ rfl
 obtain ⟨u3,x3,e3,t3⟩:=hf 3 _ rfl
 obtain ⟨u4,x4,e4,t4⟩:=hf 4 _ rfl
 obtain ⟨s,hs,_⟩:=DataW.trod_string Tryz.underlying9 t0
 cases hs
 obtain ⟨nS,fl,N,X,Y,r1⟩:=EH (S:=fun _=>True) (fun _=>trivial) Tryz.underlying22 Tryz.underlying55 (by kernel_rfl) (by kernel_rfl) Tryz.underlying3 rfl Tryz.underlying53 Tryz.underlying83 (by kernel_rfl) (by kernel_rfl) rfl (fun j f hj=>by
  match j,hj with
  |0,hj=>cases hj;exact Tryz.underlying3
  |1,hj=>cases hj;exact Tryz.underlying3) t1
 obtain ⟨dr,rfl⟩:=open_int Tryz.underlying3 t2
 obtain ⟨nO,O,r3⟩:=Ag (S:=fun _=>True) (fun _=>trivial) Tryz.underlying23 Tryz.underlying170 (by kernel_rfl) (by kernel_rfl) rfl (fun j f hj=>by
  match j,hj with
  |0,hj=>cases hj;exact Tryz.underlying3
  |1,hj=>cases hj;exact Tryz.underlying3
  |2,hj=>cases hj;exact Tryz.underlying3
  |3,hj=>cases hj;exact Tryz.underlying3
  |4,hj=>cases hj;exact Tryz.underlying3
  |5,hj=>cases hj;exact Tryz.underlying3) t3
 obtain ⟨nB,B,r4⟩:=Ag (S:=fun _=>True) (fun _=>trivial) Tryz.underlying24 Tryz.underlying49 (by kernel_rfl) (by kernel_rfl) rfl (fun j f hj=>by
  match j,hj with
  |0,hj=>cases hj;exact Tryz.underlying3
  |1,hj=>cases hj;exact Tryz.underlying3
  |2,hj=>cases hj;exact Tryz.underlying3
  |3,hj=>cases hj;exact Tryz.underlying3
  |4,hj=>cases hj;exact Tryz.underlying3
  |5,hj=>cases hj;exact Tryz.underlying3) t4
 refine ⟨⟨s,nS,fl,N,X,Y,dr,nO,O,nB,B⟩,fq,fun j d u hd hu=> ?_⟩
 match j,hd with
 |0,hd=>cases hd;rw [e0] at hu;cases hu;exact .val _
 |1,hd=>cases hd;rw [e1] at hu;cases hu;exact r1
 |2,hd=>cases hd;rw [e2] at hu;cases hu;exact .val _
 |3,hd=>cases hd;rw [e3] at hu;cases hu;exact r3
 |4,hd=>cases hd;rw [e4] at hu;cases hu;exact r4
set_option maxRecDepth 100000 in
theorem MX {fuel:Nat} {cs:List Value} {x:DataW H×List MemPlace} (h:DataW.trod enc Tryz.prog w base spare held fuel 29 cs=some x):
 ∃nB B nO O W G L,cs.length=5/\ ∀(j:Nat) (d:DV) (u:Value),(sysL nB B nO O W G L)[j]? =some d->cs[j]? =some u->du (fQ w fun _=>True) d u:=by
 obtain ⟨fq,n,hf⟩:=Ah (fs:=_) Tryz.underlying29 (by kernel_rfl) (by kernel_rfl) h
 obtain ⟨u0,x0,e0,t0⟩:=hf 0 _ rfl
 obtain ⟨u1,x1,e1,t1⟩:=hf 1 _ rfl
 obtain ⟨u2,x2,e2,t2⟩:=hf 2 _ rfl
 obtain ⟨u3,x3,e3,t3⟩:=hf 3 _ rfl
 obtain ⟨u4,x4,e4,t4⟩:=hf 4 _ rfl
 obtain ⟨nB,B,r0⟩:=open_ints (S:=fun _=>True) (fun _=>trivial) Tryz.underlying27 Tryz.underlying3 (by kernel_rfl) t0
 obtain ⟨nO,O,r1⟩:=open_ints (S:=fun _=>True) (fun _=>trivial) Tryz.underlying27 Tryz.underlying3 (by kernel_rfl) t1
 obtain ⟨z2,rfl⟩:=open_int Tryz.underlying3 t2
 obtain ⟨z3,rfl⟩:=open_int Tryz.underlying3 t3
 obtain ⟨z4,rfl⟩:=open_int Tryz.underlying3 t4
 refine ⟨nB,B,nO,O,z2,z3,z4,fq,fun j d u hd hu=> ?_⟩
 match j,hd with
 |0,hd=>cases hd;rw [e0] at hu;cases hu;exact r0
 |1,hd=>cases hd;rw [e1] at hu;cases hu;exact r1
 |2,hd=>cases hd;rw [e2] at hu;cases hu;exact .val _
 |3,hd=>cases hd;rw [e3] at hu;cases hu;exact .val _
 |4,hd=>cases hd;rw [e4] at hu;cases hu;exact .val _
set_option maxRecDepth 100000 in
theorem PR {r:Reach} {b0:Nat} {v0:Value} {d:DataW H} {p:List MemPlace} (hv:Value.okWide Tryz.prog w r b0 31 v0) (h0:DataW.Trod enc Tryz.prog w base spare held 31 v0 d p):
 ∃b nB B nO O W G L,du (fQ w fun _=>True) (Qq b nB B nO O W G L) v0:=by
 obtain ⟨⟨l⟩,rfl,fq⟩:=okWide_struct Tryz.underlying31 hv
 obtain ⟨fuel,hf⟩:=h0
 obtain ⟨y0,y1,n,_,hl,t0,t1⟩:=trod_struct2 Tryz.underlying31 hf
 rw [show Tryz.prog.cellsOf 26=5 by kernel_rfl] at t0
 rw [show Tryz.prog.cellsOf 29=5 by kernel_rfl] at t1
 rw [show Tryz.prog.cellsOf 31=10 by kernel_rfl] at fq
 obtain ⟨b,l0,r0⟩:=MY t0
 obtain ⟨nB,B,nO,O,W,G,L,l1,r1⟩:=MX t1
 refine ⟨b,nB,B,nO,O,W,G,L,.agg fq fun j d u hd hu=> ?_⟩
 have DA:l[j]? =some u:=by simpa using hu
 by_cases h5:j<5
 ·refine r0 j d u ?_ ?_
  ·match j,h5 with
   |0,_=>exact hd
   |1,_=>exact hd
   |2,_=>exact hd
   |3,_=>exact hd
   |4,_=>exact hd
  ·rw [List.getElem?_take_of_lt h5]
   exact DA
 ·have hj:j<10:=by
   have:=(aJ.1 hu).1
   omega
  obtain ⟨k,rfl⟩: ∃k,j=5+k:=⟨j - 5,by omega⟩
  refine r1 k d u ?_ ?_
  ·match k,hj with
   |0,_=>exact hd
   |1,_=>exact hd
   |2,_=>exact hd
   |3,_=>exact hd
   |4,_=>exact hd
   |k+5,hj=>exact absurd hj (by omega)
  ·rw [List.getElem?_take_of_lt (by omega)]
   show (List.drop 5 l)[k]? =some u
   rw [bu]
   exact DA
end
end Go.Abs
end
section
namespace Go.Proofs.YtoinjphpfpklmaaGreatDoor
open Go.ChangeShapes Go.WideShapes Go.ChangeAt Go.RowKit Go.Abs
theorem Q8:Tryz.prog.globalNamed "putlog/building.steps" =some 0:=by kernel_rfl
theorem XY:(Tryz.prog.globals[0]?).map (·.type)=some 120:=by kernel_rfl
theorem c3:Tryz.prog.cellsOf 3=1:=by kernel_rfl
theorem c36:Tryz.prog.cellsOf 83=2:=by kernel_rfl
theorem c57:Tryz.prog.cellsOf 120=8:=by kernel_rfl
abbrev Hp:List (String×DataW Unit):=[("putlog/building.steps",Rows.laid_putlog_building_steps)]
set_option maxRecDepth 100000 in
theorem uQ {H:Type} {enc:TypeId×Value->H} {w:World} {base:Nat} {sp:Nat->Bool} {held:Bool} {fuel:Nat} {cs:List Value} {a b:Int} {x:DataW H×List MemPlace} (h:DataW.trod enc Tryz.prog w base sp held fuel 83 cs=some x)
 (hx:x.1= .agg [.lit (.int .i64 a),.lit (.int .i64 b)]):cs=[.int .i64 a,.int .i64 b]:=by
 obtain ⟨y0,y1,n,rfl,hl,h0,h1⟩:=trod_struct2 Tryz.underlying83 h
 obtain ⟨i,e0,d0,_⟩:=DataW.trod_int Tryz.underlying3 h0
 obtain ⟨j,e1,d1,_⟩:=DataW.trod_int Tryz.underlying3 h1
 rw [c36] at hl
 rw [c3] at e0 e1
 subst d0 d1
 simp only [DataW.agg.injEq,List.cons.injEq,DataW.lit.injEq,Lit.int.injEq,cQ,cR] at hx
 obtain ⟨rfl,rfl⟩:=hx
 match cs,hl with
 |[u,v],_=>
  simp only [List.drop_zero,List.take_succ_cons,List.take_zero,List.cons.injEq,cR] at e0
  simp only [List.drop_succ_cons,List.drop_zero,List.take_succ_cons,List.take_zero,List.cons.injEq,cR] at e1
  rw [e0,e1]
theorem list8 (l:List Value) (h:l.length=8): ∃a b c d e f g i,l=[a,b,c,d,e,f,g,i]:=by
 match l,h with
 |[a,b,c,d,e,f,g,i],_=>exact ⟨a,b,c,d,e,f,g,i,rfl⟩
set_option maxRecDepth 100000 in
theorem E5 {W:World} (h:laidMetH Tryz.prog Hp W):ju (fQ W fun _=>True):=by
 rw [MakeChecks.laidMetH_plain _ _ _ (by kernel_rfl)] at h
 obtain ⟨ps,⟨g,t,cs,fuel,p,q,hg,ht,hv,hd,_,_⟩,_,_⟩:=h
 obtain rfl:=bF (Q8.symm.trans hg)
 obtain rfl:=bF (XY.symm.trans ht)
 obtain ⟨xs,m,_,ex,hl,hn,AG⟩:=DataW.trod_array Tryz.underlying120 hd
 rw [c36] at AG
 rw [c57] at hl
 have eZ:=fun k=>World.var?_cell Q8 hv k
 obtain ⟨l⟩:=cs
 obtain ⟨v0,v1,v2,v3,v4,v5,v6,v7,rfl⟩:=list8 l hl
 match xs,hn with
 |[x0,x1,x2,x3],_=>
  simp only [aB,bO,List.map_nil,Rows.laid_putlog_building_steps,DataW.agg.injEq,List.cons.injEq,cR] at ex
  obtain ⟨⟨e0,e1,e2,e3⟩,_⟩:=ex
  have h0:=uQ (AG 0 (by decide)) e0.symm
  have h1:=uQ (AG 1 (by decide)) e1.symm
  have h2:=uQ (AG 2 (by decide)) e2.symm
  have h3:=uQ (AG 3 (by decide)) e3.symm
  simp at h0 h1 h2 h3
  obtain ⟨rfl,rfl⟩:=h0
  obtain ⟨rfl,rfl⟩:=h1
  obtain ⟨rfl,rfl⟩:=h2
  obtain ⟨rfl,rfl⟩:=h3
  intro d v hdv
  simp only [Vl,gl,bO,List.map_nil,au,aB] at hdv
  obtain ⟨rfl,rfl⟩:=hdv
  refine .dN (fun k=>[Value.int .i64 1,.int .i64 0,.int .i64 0,.int .i64 1,.int .i64 (-1),.int .i64 0,.int .i64 0,.int .i64 (-1)].getD k undef) (fun j d hj=>⟨?_,trivial⟩) (fun j d hj=> ?_) (fun j d hj=> ?_)
  ·have:=eZ j
   match j,hj with
   |0,_=>exact .inl ⟨this,rfl⟩
   |1,_=>exact .inl ⟨this,rfl⟩
   |2,_=>exact .inl ⟨this,rfl⟩
   |3,_=>exact .inl ⟨this,rfl⟩
   |4,_=>exact .inl ⟨this,rfl⟩
   |5,_=>exact .inl ⟨this,rfl⟩
   |6,_=>exact .inl ⟨this,rfl⟩
   |7,_=>exact .inl ⟨this,rfl⟩
  ·match j,hj with
   |0,hj=>rfl
   |1,hj=>rfl
   |2,hj=>rfl
   |3,hj=>rfl
   |4,hj=>rfl
   |5,hj=>rfl
   |6,hj=>rfl
   |7,hj=>rfl
  ·match j,hj with
   |0,hj=>cases hj;exact .val _
   |1,hj=>cases hj;exact .val _
   |2,hj=>cases hj;exact .val _
   |3,hj=>cases hj;exact .val _
   |4,hj=>cases hj;exact .val _
   |5,hj=>cases hj;exact .val _
   |6,hj=>cases hj;exact .val _
   |7,hj=>cases hj;exact .val _
end Go.Proofs.YtoinjphpfpklmaaGreatDoor
end
section
set_option maxRecDepth 100000
namespace Go.Abs
open Go
def kT (x:Int):Bool:= !Lay.ni x 0 1
def rArE (b:dJ) (nB:Nat) (B:Nat->Int) (nO:Nat) (O:Nat->Int) (W G L:Int):fE:= .res fun _=> .fy [.any,dI (ja b nB B nO O W G L)]
def TA (b:dJ) (nB:Nat) (B:Nat->Int) (nO:Nat) (O:Nat->Int) (W G L:Int):fE:= .res fun _=> .fy [qR b nB B nO O W G L,dI 0]
section
variable {b:dJ} {nB:Nat} {B:Nat->Int} {nO:Nat} {O:Nat->Int} {W G L i:Int} {m:Nat} {C:Nat->Int}
end
noncomputable def CF (b:dJ) (nB:Nat) (B:Nat->Int) (nO:Nat) (O:Nat->Int) (W G L:Int):eH:={ dq:=[(1,[(1,GY b)]),(4,[(1,.res fun _=> .fy [Lay.Zz nB B nO O W G L,dI (Lay.fN nB B nO O W G L)])]),(9,[(4,.pos)]),(15,[(2,Ty)]),(20,[(2,rWaK)]),(21,[(2,rCoK)]),(27,[(2,Yd b G W L)]),(31,[(2,Vr)])],loops:=[(1,{ ι:=Nat,keep:=[2,3,7,9,60],boxes:=[2,3,7],ts:=fun _ i=>[(61,dI (i:Int))],inv:=fun _ i=>i<=2,mu:=fun _ i=>2 - i,rd:=fun _ σ=>(eA (σ.get 61)).toNat }),(3,{ ι:=Nat,keep:=[2,14,109],boxes:=[2,14],ts:=fun _ i=>[(110,dI (i:Int))],inv:=fun _ i=>i<=b.N 0,mu:=fun _ i=>b.N 0 - i,rd:=fun _ σ=>(eA (σ.get 110)).toNat }),(5,{ ι:=Nat,keep:=[2,14,109,110,15,16,117,118],boxes:=[2,14,16],ts:=fun _ j=>[(119,dI (j:Int))],inv:=fun σ j=>j<=b.nB,mu:=fun _ j=>b.nB - j,rd:=fun _ σ=>(eA (σ.get 119)).toNat })],dw:=[] }
namespace w32
noncomputable section
structure Z where
 b:dJ
 nB:Nat
 B:Nat->Int
 nO:Nat
 O:Nat->Int
 W:Int
 G:Int
 L:Int
variable (z:Z) (i0 i1:Nat) (p:Prop) (P:List Prop) (a:Int) (k:Nat) (g:Bool) (A:DV) (E:List DV) (U:VT) (mR:Nat->Prop) (tA:Nat->VT) (xr:List Value)
abbrev x0:=Int.toNat 0
abbrev x1:=z.b.N x0
abbrev x2:Int:=(i0:Int)
abbrev x3:=i0<z.b.nB->rf (z.b.B i0 k)
abbrev x4:=i0<z.b.nO->rf (z.b.O i0 k)
abbrev x5:=i0<x1 z->rf a
abbrev x6:=Lay.iv z.nB z.B z.nO z.O z.W z.G z.L
abbrev x7:=z.b.B (Int.toNat (i1:Int)) k
abbrev x8:List Value:=Value.int IntKind.i64 a::xr
abbrev x9:=VT.da [p] U
abbrev dC:List Prop:=rf z.b.nB::(∀(i0:Nat),x3 z i0 (0:Nat))::(∀(i0:Nat),x3 z i0 (1:Nat))::(∀(i0:Nat),x3 z i0 (2:Nat))::(∀(i0:Nat),x3 z i0 (3:Nat))::(∀(i0:Nat),x3 z i0 (4:Nat))::(∀(i0:Nat),x3 z i0 (5:Nat))::P
abbrev dA:List Prop:=rf z.b.name::rf z.b.nS::(∀i0<z.b.nS,rf (z.b.fl i0))::(∀i0<z.b.nS,rf (z.b.N i0)/\(∀i1<z.b.N i0,rf (z.b.X i0 i1))/\(∀i1<z.b.N i0,rf (z.b.Y i0 i1)))::rf z.b.dr::rf z.b.nO::(∀(i0:Nat),x4 z i0 (0:Nat))::(∀(i0:Nat),x4 z i0 (1:Nat))::(∀(i0:Nat),x4 z i0 (2:Nat))::(∀(i0:Nat),x4 z i0 (3:Nat))::(∀(i0:Nat),x4 z i0 (4:Nat))::(∀(i0:Nat),x4 z i0 (5:Nat))::dC z P
abbrev dz:=Lay.fZ z.nB z.B z.nO z.O z.W z.G z.L
abbrev dG:=z.b.X x0 (ix (x1 z) (x2 i0+1))
abbrev dL:=z.b.Y x0 (ix (x1 z) (x2 i0+1))
abbrev dR:= ∀i0<x6 z,rf (Lay.ed z.nB i0)
abbrev dQ:=gq z.b.dr z.L
abbrev ep:= ∀i0<x6 z,rf (decide (z.nB<=i0))
abbrev eu:=VT.ite g (VT.done [False,a=0]) U
abbrev eG:=ee (x1 z) (z.b.X x0) (z.b.Y x0) (x2 i0)
abbrev ez:=dD (x1 z) (z.b.X x0) (z.b.Y x0) (x2 i0)
abbrev eF:=lM (x1 z) (z.b.X x0) (z.b.Y x0) i0
abbrev eQ:=dA z (rf z.nB::(∀i0<z.nB,rf (z.B i0))::rf z.nO::(∀i0<z.nO,rf (z.O i0))::rf z.W::rf z.G::rf z.L::rf (↑(dz z):Int)::rf (x6 z)::(∀i0<x6 z,rf (Lay.fa z.nB z.B z.nO z.O i0))::P)
abbrev fC:=lC (z.b.N 0) (z.b.X 0) (z.b.Y 0) z.G z.W (x2 i0) 1 0
abbrev fM:=lA (z.b.N 0) (z.b.X 0) (z.b.Y 0) z.G z.W (x2 i0) 1 0
abbrev fR:=lB (z.b.N 0) (z.b.X 0) (z.b.Y 0) z.G z.W (x2 i0) 1 0
abbrev fj:=lz (z.b.N 0) (z.b.X 0) (z.b.Y 0) z.G z.W (x2 i0) 1 0
abbrev gp:=Int.toNat (x2 i0+1)
abbrev iI:=x8 (x7 z i1 k) xr
abbrev ji:List Prop:=p::rf (x1 z)::(∀(i0:Nat),x5 z i0 (z.b.X x0 i0))::(∀(i0:Nat),x5 z i0 (z.b.Y x0 i0))::P
abbrev iq:=DV.fy [A,dI a]
abbrev jj:= ∀(i0:Nat),x5 z i0 (eF z i0)
abbrev jv:List Prop:=p::rf (↑(x1 z):Int)::P
abbrev il:=dA z (eQ z (dR z::ji z (ep z) ((∀(i0:Nat),x5 z i0 (dG z i0))::(∀(i0:Nat),x5 z i0 (dL z i0))::(∀(i0:Nat),x5 z i0 (eG z i0))::(∀(i0:Nat),x5 z i0 (ez z i0))::rf (x1 z)::P)))
abbrev iH:=Int.toNat ((i1:Int)+1)
abbrev lu:=DV.val (Value.agg (Array.mk xr))
abbrev lq:=DV.di (x1 z) [fun i0=>dI (z.b.X x0 i0),fun i0=>dI (z.b.Y x0 i0)]
abbrev ku:=List.getD [z.G,z.G+z.W] (Int.toNat (x2 i0)) 0
abbrev qq:=Lay.fN z.nB z.B z.nO z.O z.W z.G z.L
abbrev nm:=DV.di (x1 z) [fun i0=>dI (eF z i0)]
abbrev nA:=ji z p (rf z.G::rf (z.G+z.W)::P)
abbrev uh:=VT.loop Nat mR x0 (jv z (0=(x0:Int)) P) tA
abbrev BB:=x9 (cZ (x2 i0+1)) (VT.done P)
abbrev BF:=x2 i0+1=(↑(gp i0):Int)
abbrev ou:=dm prog k [lq z] (iq (0:Int) A)
abbrev ug:=DV.di (x6 z) [fun i0=>dI (Lay.fa z.nB z.B z.nO z.O i0),fun i0=>dI (Lay.ed z.nB i0),fun i0=>dB (decide (z.nB<=i0))]
abbrev BE:=DV.di (x1 z) [fun i0=>dI (z.b.X x0 i0),fun i0=>dI (z.b.Y x0 i0),fun i0=>dI (dG z i0),fun i0=>dI (dL z i0),fun i0=>dI (eG z i0),fun i0=>dI (ez z i0)]
abbrev sA:List Prop:=rf (x2 i0)::rf (x2 i0)::dC z (rf (z.b.nB:Int)::il z (jj z::rf (fC z i0)::rf (fM z i0)::rf (0:Int)::rf (fR z i0)::rf (fj z i0)::rf (dQ z)::P))
abbrev sL:=lu (x8 (fC z i0) (x8 (fM z i0) (x8 (0:Int) (x8 (fR z i0) (x8 (fj z i0) (x8 (dQ z) []))))))
abbrev lN:=kP (x1 z) (z.b.X x0) (z.b.Y x0) (ku z i0)
abbrev rV:List DV:=DV.di z.nB [fun i0=>dI (z.B i0)]::DV.di z.nO [fun i0=>dI (z.O i0)]::dI z.W::dI z.G::E
abbrev uf:=Si (fC z i0) (fM z i0) 0 (fR z i0) (fj z i0) (dQ z) (x7 z i1 (0:Nat)) (x7 z i1 (1:Nat)) (x7 z i1 (2:Nat)) (x7 z i1 (3:Nat)) (x7 z i1 (4:Nat)) (x7 z i1 (5:Nat))
abbrev xt:VT:=x9 (dm prog 41 [jI z.b] (dI (fA z.b))) (eu (fA z.b) (fA z.b !=0) (x9 (dm prog 57 [DV.agg (rV z [dI z.L])] (iq (qq z) (DV.agg [dI (↑(dz z):Int),ug z]))) (eu (qq z) (qq z !=0) (eu (2:Int) (decide (z.b.dr<z.L)) (x9 (0<=z.b.dr/\0<z.L/\z.b.dr<=9223372036854775807) (eu (8:Int) (decide ((z.b.dr/z.L)>(40:Int))) (x9 ((0:Int)<=(0:Int)/\0<(z.b.nS:Int)) (x9 (cZ (z.G+z.W)) (VT.loop Nat (fun i0=>i0<=2) x0 (nA z (0=(x0:Int)) (eQ z [dR z,ep z])) (fun i0=>VT.ite (decide ((x2 i0)<(2:Int))) (x9 (0<=x2 i0/\x2 i0<(↑(2:Nat):Int)) (x9 (dm prog 13 [lq z,dI (ku z i0)] (iq (lN z i0) DV.any)) (eu (12:Int) (lN z i0 !=0) (BB i0 (nA z (BF i0) (eQ z [dR z,ep z,gp i0<=2,2 - gp i0<2 - i0])))))) (x9 (ou z (93:Nat) (BE z)) (x9 (ou z (94:Nat) (nm z)) (eu (12:Int) ((↑(x1 z):Int) !=(↑(x1 z):Int)) (uh z (il z [jj z]) (fun i0=>i0<=z.b.N 0) (fun i0=>VT.ite (decide ((x2 i0)<(↑(x1 z):Int))) (x9 (dm prog 40 [DV.dN (DV.val (Value.string z.b.name)::DV.di z.b.nS [fun i0=>dI (z.b.fl i0),fun i0=>DV.di (z.b.N i0) [fun i1=>dI (z.b.X i0 i1),fun i1=>dI (z.b.Y i0 i1)]]::dI z.b.dr::DV.di z.b.nO [fun i0=>dI (z.b.O i0 0),fun i0=>dI (z.b.O i0 1),fun i0=>dI (z.b.O i0 2),fun i0=>dI (z.b.O i0 3),fun i0=>dI (z.b.O i0 4),fun i0=>dI (z.b.O i0 5)]::DV.di z.b.nB [fun i0=>dI (z.b.B i0 0),fun i0=>dI (z.b.B i0 1),fun i0=>dI (z.b.B i0 2),fun i0=>dI (z.b.B i0 3),fun i0=>dI (z.b.B i0 4),fun i0=>dI (z.b.B i0 5)]::rV z [dI z.L,dI (↑(dz z):Int),ug z,BE z,nm z]),dI (x2 i0),dI 1,dI 0] (sL z i0)) (uh z (sA z i0 []) (fun i0=>i0<=z.b.nB) (fun i1=>VT.ite (decide ((i1:Int)<(z.b.nB:Int))) (x9 (0<=(i1:Int)/\(i1:Int)<(z.b.nB:Int)) (x9 (dm prog 12 [sL z i0,lu (iI z i1 (0:Nat) (iI z i1 (1:Nat) (iI z i1 (2:Nat) (iI z i1 (3:Nat) (iI z i1 (4:Nat) (iI z i1 (5:Nat) []))))))] (iq (Rr (fC z i0) (fM z i0) 0 (fR z i0) (fj z i0) (dQ z) (x7 z i1 (0:Nat)) (x7 z i1 (1:Nat)) (x7 z i1 (2:Nat)) (x7 z i1 (3:Nat)) (x7 z i1 (4:Nat)) (x7 z i1 (5:Nat))) (dB (uf z i0 i1)))) (eu (12:Int) (uf z i0 i1) (x9 (cZ ((i1:Int)+1)) (VT.done (jv z ((i1:Int)+1=(↑(iH i1):Int)) (sA z i0 [iH i1<=z.b.nB,z.b.nB - iH i1<z.b.nB - i1]))))))) (BB i0 (jv z (BF i0) (il z [jj z,gp i0<=z.b.N 0,z.b.N 0 - gp i0<z.b.N 0 - i0])))))) (VT.done (eQ z [dR z,ep z,x1 z=z.b.N 0,∀i0<z.b.N 0,z.b.X x0 i0=z.b.X 0 i0,∀i0<z.b.N 0,z.b.Y x0 i0=z.b.Y 0 i0,∀i0<z.b.N 0,dG z i0=z.b.X 0 (ix (z.b.N 0) (x2 i0+1)),∀i0<z.b.N 0,dL z i0=z.b.Y 0 (ix (z.b.N 0) (x2 i0+1)),∀i0<z.b.N 0,eG z i0=ee (z.b.N 0) (z.b.X 0) (z.b.Y 0) (x2 i0),∀i0<z.b.N 0,ez z i0=dD (z.b.N 0) (z.b.X 0) (z.b.Y 0) (x2 i0),x1 z=z.b.N 0,∀i0<z.b.N 0,eF z i0=lM (z.b.N 0) (z.b.X 0) (z.b.Y 0) i0,rf (0:Int)])))))))))))))))))
end
end w32
open w32 in
theorem sw (b:dJ) (nB:Nat) (B:Nat->Int) (nO:Nat) (O:Nat->Int) (W G L:Int) (hN: ∀i,i<b.nS->b.N i<=1000) (h0:ja b nB B nO O W G L=0):dm prog 31 [jI b,Lay.sys nB B nO O W G L] (.fy [qR b nB B nO O W G L,dI 0]):=by
 refine db dv (CF b nB B nO O W G L) (V:=xt ⟨b,nB,B,nO,O,W,G,L⟩) (by kernel_rfl) ?_
 simp only [xt,x0,x1,x2,x3,x4,x5,x6,x7,x8,x9,dC,dA,dz,dG,dL,dR,dQ,ep,eu,eG,ez,eF,eQ,fC,fM,fR,fj,gp,iI,ji,iq,jj,jv,il,iH,lu,lq,ku,qq,nm,nA,uh,BB,BF,ou,ug,BE,sA,sL,lN,rV,uf,Rf,VT.holds,dt,Sq]
 obtain ⟨hc,hs,h3,h4,e1,e2,hk⟩:=fu h0
 obtain ⟨b1,b2,b3,b4,b5⟩:=js hc
 obtain ⟨g1,g2,g3⟩:=fP hs
 have hg:=g1
 unfold j8 at hg
 have hn:=fp b2
 obtain ⟨hX,hY⟩:=eB b2
 refine ⟨zh b hN,fun h=>absurd hc h,fun _=>⟨Lay.G6 nB B nO O W G L,fun h=>absurd hs h,fun _=>⟨fun h=>absurd h h3,fun _=>⟨by omega,fun h=>absurd h h4,fun _=>⟨by omega,by unfold cZ;omega,rfl,by omega,fun i hi=>⟨fun dK=> ?_,fun iy=> ?_⟩⟩⟩⟩⟩⟩
 ·have L7:i=0\/i=1:=by omega
  have hd:(0<=Zc G W i/\Zc G W i<=1000000)/\kP (b.N 0) (b.X 0) (b.Y 0) (Zc G W i)=0:=by
   rcases L7 with rfl|rfl
   ·exact ⟨show 0<=G/\G<=1000000 by omega,e1⟩
   ·exact ⟨show 0<=G+W/\G+W<=1000000 by omega,e2⟩
  exact ⟨by omega,G9 _ _ _ _ b2 hd.1,fun h=>absurd hd.2 h,fun h=>⟨by unfold cZ;omega,rfl,by omega,by omega⟩⟩
 ·refine ⟨K9 b2,DO b2,fun h=>absurd trivial h,fun _=>⟨rfl,ao _,fun i hi dK=> ?_⟩⟩
  refine ⟨xb _ _ _ _ _ _ _ _ _ _ _ _ _ _ _ _ _ _ (by omega) (by omega) hX hY g1 (by omega) (by omega) ⟨b3,b4⟩ ⟨g2,g3⟩,rfl,ao _,fun j hj=>⟨fun xw=> ?_,fun No=>⟨by unfold cZ;omega,rfl,by omega,by omega⟩⟩⟩
  rw [r9 hc hs h4 e1 e2 (i:=i) (j:=j) (by omega) (by omega)]
  have hb:jU b G W L i j=false:=by
   unfold oa at hk
   rw [ai] at hk
   exact hk i (by omega) j (by omega)
  refine ⟨by omega,?_,fun h=>(by rw [hb] at h;cases h),fun h=>⟨by unfold cZ;omega,rfl,by omega,by omega⟩⟩
  have:=xg (lC (b.N 0) (b.X 0) (b.Y 0) G W i 1 0) (lA (b.N 0) (b.X 0) (b.Y 0) G W i 1 0) 0 (lB (b.N 0) (b.X 0) (b.Y 0) G W i 1 0) (lz (b.N 0) (b.X 0) (b.Y 0) G W i 1 0) (gq b.dr L) (b.B j 0) (b.B j 1) (b.B j 2) (b.B j 3) (b.B j 4) (b.B j 5)
  rw [r9 hc hs h4 e1 e2 (i:=i) (j:=j) (by omega) (by omega)] at this
  exact this
end Go.Abs
end
section
set_option maxRecDepth 100000
namespace Go.Abs.Lay
open Go Go.RowKit Go.Lib
attribute [local go_sem] Oper.semAt_some
set_option maxHeartbeats 4000000 in
theorem Ns (w:World):Calls prog 187 #[.slice none 0 0,.int .i64 0] w fun e w'=>e= .returned (.slice none 0 0)/\w'=w:=by
 have mixed:=dv
 go_enter Go.Proofs.Tryz.func187,Go.Proofs.Tryz.ntmps187
 go_wp2
 go_ret
 exact ⟨rfl,rfl⟩
set_option maxHeartbeats 4000000 in
theorem Q0 (w:World) (n:Nat) (h0:0<n) (hn:n<=100000000):Calls prog 187 #[.slice none 0 0,.int .i64 n] w fun e w'=>
 ∃G,n<=G/\e= .returned (.slice (some ⟨w.heap.size,0,none⟩) 0 G)/\w'=w.drew.alloc (.cells (Builtin.zeroCells #[.int .i64 0] n++Builtin.zeroCells #[.int .i64 0] (G - n)) 3):=by
 have mixed:=dv
 have h1: ¬((n:Int)<0):=by omega
 have h4:(n:Int)>0:=by omega
 have hrz: ∀ty,(Builtin.append_ #[27,3] ty #[.slice none 0 0,.int .i64 (n:Int)]).run prog w=
  .ok (.slice (some ⟨w.heap.size,0,none⟩) n (grownCap w n 0 3)) (w.drew.alloc (.cells (Builtin.zeroCells #[.int .i64 0] n++Builtin.zeroCells #[.int .i64 0] (grownCap w n 0 3 - n)) 3)):=fun ty=>
  run_append_nil_zeros w 27 3 ty 3 _ (.int .i64 0) .i64 .i64 Go.Proofs.Tryz.underlying27 Go.Proofs.Tryz.underlying3 rfl (by kernel_rfl) n h0 (of_decide_eq_true (by kernel_rfl)) (by omega) (by
   have hb:(prog.types[3].bytes)=8:=by kernel_rfl
   show n*prog.types[3].bytes<=_
   rw [hb];omega)
 have hGn:n<=grownCap w n 0 3:=grownCap_ge w _ _ _
 obtain ⟨G,hG⟩: ∃G,G=grownCap w n 0 3:=⟨_,rfl⟩
 have hG63:G<=9223372036854775807:=by
  have:=grownCap_le_maxLen w n 0 3 (by unfold maxLen;omega)
  rw [<-hG] at this
  unfold maxLen at this
  omega
 rw [<-hG] at hrz hGn
 clear hG
 go_enter Go.Proofs.Tryz.func187,Go.Proofs.Tryz.ntmps187
 go_wp2_with (at_builtin;refine Lib.wpList_append_run _ rfl _ _ _ _ rfl _ _ rfl rfl _ _ (hrz _) ?_)
 all_goals (go_ret;exact ⟨G,hGn,rfl,rfl⟩)
theorem Zd (n:Int) (h0:0<=n) (hn:n<=100000000):ZU prog 187 [.val (.slice none 0 0),.val (.int .i64 n)] 0 [fun _=> .val (.int .i64 0)]:=by
 refine ⟨⟨_,Go.Proofs.Tryz.func187,rfl,by kernel_rfl⟩,fun S w vs hs hv _=> ?_⟩
 obtain ⟨⟨l⟩,rfl⟩: ∃v:Array Value,vs=v:=⟨vs,rfl⟩
 match l,hs with
 |[u0,u1],_=>
  have r0:=hv 0 _ _ rfl rfl
  have r1:=hv 1 _ _ rfl rfl
  cases r0;cases r1
  by_cases e:n=0
  ·subst e
   refine (Ns w).mono fun e w' ⟨he,hw⟩=>⟨_,he,?_,.inl ⟨rfl,rfl⟩⟩
   rw [hw];exact Below.refl _ _
  ·obtain ⟨k,rfl⟩: ∃k:Nat,n=k:=⟨n.toNat,by omega⟩
   refine (Q0 w k (by omega) (by omega)).mono fun e w' ⟨G,hG,he,hw⟩=>⟨_,he,?_,.inr ⟨w.heap.size,G,(Builtin.zeroCells #[Value.int IntKind.i64 0] k++Builtin.zeroCells #[Value.int IntKind.i64 0] (G - k)),3,rfl,af _,by rw [hw];exact heap_alloc_new w.drew _,?_,ao _,fun i j f hi=>absurd hi (aF _)⟩⟩
   ·rw [hw]
    exact (show Below w.heap.size w w.drew from ⟨rfl,rfl,rfl,af _,fun _ _=>rfl,fun _=>Nat.le_succ _⟩).alloc (af _) _
   ·simp only [Array.size_append,size_zeroCells,aL,b7]
    show k*1+(G - k)*1=_
    omega
end Go.Abs.Lay
end
section
set_option maxRecDepth 100000
namespace Go.Abs.Lay
open Go
def sC (N:Nat->Nat):Nat->Nat
 |0=>0
 |i+1=>sC N i+N i
def yN (N:Nat->Nat) (A:Nat->Nat->Int):Nat->Nat->Int
 |0=>fun _=>0
 |i+1=>fun k=>if k<sC N i then yN N A i k else A i (k - sC N i)
def jw (f:Nat->Int):Nat->Int
 |0=>0
 |k+1=>jw f k+f k
def Tz:fE:= .res fun l=> .di (sC (fun i=>lenOf (NC 0 (arg l 0) i)) (lenOf (arg l 0))) [fun k=> .val (.int .i64 (yN (fun i=>lenOf (NC 0 (arg l 0) i)) (fun i k=>iQ 0 (NC 0 (arg l 0) i) k) (lenOf (arg l 0)) k))]
theorem Lj {N:Nat->Nat} {b:Nat} {m:Nat} (h: ∀i,i<m->N i<=b): ∀i,i<=m->sC N i<=i*b
 |0,_=>ao _
 |i+1,hi=>by
  have:=Lj h i (by omega)
  have:=h i (by omega)
  rw [cq]
  simp only [sC]
  omega
theorem Ll {f:Nat->Int} {n:Nat} (h: ∀k,k<n->1<=f k/\f k<=10000): ∀k,k<=n->0<=jw f k/\jw f k<=10000*k
 |0,_=>⟨cO _,cO _⟩
 |k+1,hk=>by
  have:=Ll h k (by omega)
  have:=h k (by omega)
  simp only [jw]
  omega
theorem zF {f g:Nat->Int}: ∀{n:Nat},(∀k,k<n->f k=g k)->jw f n=jw g n
 |0,_=>rfl
 |n+1,h=>by
  rw [jw,jw,zF fun k hk=>h k (by omega),h n (by omega)]
theorem GC (f g:Nat->Int) (n:Nat): ∀m,jw (fun k=>if k<n then f k else g (k - n)) (n+m)=jw f n+jw g m
 |0=>by
  rw [bU,jw,bI]
  exact zF fun k hk=>ah hk
 |m+1=>by
  rw [<-bT,jw,GC f g n m,ae (by omega),Nat.add_sub_cancel_left,jw,Int.add_assoc]
def rSum:fE:= .res fun l=>dI (jw (iQ 0 (fD 0 (arg l 0))) (lenOf (fD 0 (arg l 0)))+jw (iQ 0 (fD 1 (arg l 0))) (lenOf (fD 1 (arg l 0))))
def jd (nB:Nat) (B:Nat->Int) (nO:Nat) (O:Nat->Int) (nC:Nat) (C:Nat->Int) (nD:Nat) (D:Nat->Int) (len:Int):Int:=
 if DR nB B nO O nC C nD D=0 then (if jw C nC+jw D nD=len then 0 else 25) else DR nB B nO O nC C nD D
def PH:fE:= .res fun l=>dB (fU (fun k=>aX l k==aI l 1) (aN l))
theorem V9 {nB:Nat} {B:Nat->Int} {nO:Nat} {O:Nat->Int} {W G L:Int} {nC:Nat} {C:Nat->Int} {nD:Nat} {D:Nat->Int} (hs:fN nB B nO O W G L=0) (h:DR nB B nO O nC C nD D=0):
 (∀k,k<nC->1<=C k/\C k<=10000)/\ ∀k,k<nD->1<=D k/\D k<=10000:=by
 obtain ⟨_,_,_,sB,sO,_,_⟩:=n5 hs
 unfold DR at h
 split at h
 ·cases h
 ·split at h
  ·cases h
  ·rename_i h2
   constructor
   ·intro k hk
    obtain ⟨j,hj,e⟩:=xi (n:=nC) (A:=C) (m:=nB) (O:=B) (by cases hx:gi nC C nB B with|true=>exact absurd (.inl hx) h2|false=>rfl) hk
    rw [<-e];exact sB j hj
   ·intro k hk
    obtain ⟨j,hj,e⟩:=xi (n:=nD) (A:=D) (m:=nO) (O:=O) (by cases hx:gi nD D nO O with|true=>exact absurd (.inr hx) h2|false=>rfl) hk
    rw [<-e];exact sO j hj
noncomputable def CU (m:Nat) (N:Nat->Nat) (A:Nat->Nat->Int):eH:={ dq:=[(9,[(1,.row fun _=>(0,[fun _=> .val (.int .i64 0)]))])],loops:=[(0,{ ι:=Nat,keep:=[0,9,10],boxes:=[],ts:=fun _ i=>[(11,dI (i:Int)),(3,dI (sC N i))],inv:=fun _ i=>i<=m,mu:=fun _ i=>m - i,rd:=fun _ σ=>(eA (σ.get 11)).toNat }),(2,{ ι:=Nat,keep:=[25,26],boxes:=[],ts:=fun _ i=>[(27,dI (i:Int))],rw:=fun _ i=>[(6,1,sC N i,[fun k=> .val (.int .i64 (yN N A i k))])],inv:=fun _ i=>i<=m,mu:=fun _ i=>m - i,rd:=fun _ σ=>(eA (σ.get 27)).toNat })],dw:=[] }
namespace w33
noncomputable section
structure Z where
 m:Nat
 N:Nat->Nat
 A:Nat->Nat->Int
variable (z:Z) (i0:Nat) (p:Prop) (P:List Prop) (k:Nat) (U V:VT) (Dz:Nat->VT)
abbrev x0:=Lay.sC z.N k
abbrev x1:=Int.toNat ((i0:Int)+1)
abbrev x2:=Int.toNat 0
abbrev x3:= ∀i0<z.m,rf (z.N i0)/\(∀i1<(z.N i0),rf (z.A i0 i1))
abbrev x4:=(↑(x0 z i0):Int)+(↑(z.N (Int.toNat (i0:Int))):Int)
abbrev x5:=x0 z i0+(z.N (Int.toNat (i0:Int)))
abbrev x6:=VT.da [cZ ((i0:Int)+1)] (VT.done (((i0:Int)+1=(↑(x1 i0):Int))::p::P))
abbrev x7:=VT.loop Nat (fun i0=>i0<=z.m) x2 ((0=(x2:Int))::p::P) Dz
abbrev x8:=x6 i0 (x4 z i0=(↑(x0 z (x1 i0)):Int)) [rf z.m,x3 z,rf z.m,x3 z,rf (z.m:Int),x1 i0<=z.m,z.m - x1 i0<z.m - i0]
abbrev x9:=VT.ite (decide ((i0:Int)<(z.m:Int))) (VT.da [0<=(i0:Int)/\(i0:Int)<(z.m:Int)] U) V
abbrev xt:VT:=x7 z (0=(↑(x0 z x2):Int)) [rf z.m,x3 z,rf z.m,x3 z,rf (z.m:Int)] (fun i0=>x9 z i0 (VT.da [cZ (x4 z i0)] (VT.ite (decide ((x4 z i0)<(0:Int))) (VT.da [False,False] (x8 z i0)) (x8 z i0))) (VT.da [ZU prog 187 [DV.val (Value.slice none 0 0),dI (↑(x0 z i0):Int)] 0 [fun i0=>dI 0]] (x7 z (rf (0:Nat)) [0=x0 z x2,rf z.m,x3 z,rf (z.m:Int),0=x0 z x2,∀i0<x0 z x2,0=Lay.yN z.N z.A x2 i0] (fun i0=>x9 z i0 (VT.da [x0 z i0<=x0 z i0,x5 z i0*((nat_lit 7)+1)<=140737488355328] (x6 i0 (rf (0:Nat)) [x5 z i0=x0 z (x1 i0),rf z.m,x3 z,rf (z.m:Int),x5 z i0=x0 z (x1 i0),∀i1<x0 z (x1 i0),(if (decide (i1<(x0 z i0)))=true then (Lay.yN z.N z.A i0 i1) else (z.A (Int.toNat (i0:Int)) (i1 - x0 z i0)))=Lay.yN z.N z.A (x1 i0) i1,x1 i0<=z.m,z.m - x1 i0<z.m - i0])) (VT.done [x0 z i0<=x0 z i0,x0 z i0=x0 z z.m,∀i1<x0 z z.m,Lay.yN z.N z.A i0 i1=Lay.yN z.N z.A z.m i1])))))
end
end w33
open w33 in
theorem RO (m:Nat) (N:Nat->Nat) (A:Nat->Nat->Int) (hm:m<=10) (hN: ∀i,i<m->N i<=1000000):dm prog 173 [lists m N A] (.di (sC N m) [fun k=> .val (.int .i64 (yN N A m k))]):=by
 refine db dv (CU m N A) (V:=xt ⟨m,N,A⟩) (by kernel_rfl) ?_
 simp only [xt,x0,x1,x2,x3,x4,x5,x6,x7,x8,x9,Rf,VT.holds,dt,Sq]
 have hs:=fun i hi=>Lj (m:=m) hN i hi
 have hb: ∀i,i<=m->sC N i<=10000000:=fun i hi=>by
  have:=hs i hi
  have:i*1000000<=10*1000000:=ba _ (by omega)
  omega
 refine ⟨⟨rfl,rfl⟩,ao _,fun i hi=>⟨fun dK=> ?_,fun iy=>⟨Zd _ (by omega) (by have:=hb i hi;omega),⟨rfl,rfl,rfl,fun k hk=>absurd hk (aF k)⟩,ao _,fun i hi=>⟨fun dK=> ?_,fun iy=> ?_⟩⟩⟩⟩
 ·have h1:=hb i hi
  have h2:=hN i (by omega)
  exact ⟨⟨by omega,by omega⟩,by unfold cZ;omega,fun h=>absurd h (by omega),fun _=>⟨by unfold cZ;omega,rfl,by simp only [sC];omega,by omega,by omega⟩⟩
 ·have h1:=hb i hi
  have h2:=hN i (by omega)
  exact ⟨⟨by omega,by omega⟩,⟨af _,by omega⟩,by unfold cZ;omega,rfl,rfl,rfl,fun k hk=>rfl,by omega,by omega⟩
 ·rw [show i=m by omega]
  exact ⟨af _,rfl,fun _ _=>rfl⟩
noncomputable def NY (nC:Nat) (C:Nat->Int) (nD:Nat) (D:Nat->Int):eH:={ dq:=[(2,[(5,Tz)])],loops:=[(0,{ ι:=Nat,keep:=[11,12],boxes:=[],ts:=fun _ i=>[(13,dI (i:Int)),(3,dI (jw (fun k=>if k<nC then C k else D (k - nC)) i))],inv:=fun _ i=>i<=nC+nD,mu:=fun _ i=>nC+nD - i,rd:=fun _ σ=>(eA (σ.get 13)).toNat })],dw:=[] }
namespace w34
noncomputable section
structure Z where
 nC:Nat
 C:Nat->Int
 nD:Nat
 D:Nat->Int
variable (z:Z) (i0 i1:Nat) (k:Nat)
abbrev x0:=if (decide (i0=(0:Nat)))=true then z.nC else z.nD
abbrev x1:=Lay.sC (fun i0=>x0 z i0) 2
abbrev x2:=if (decide (i0=(0:Nat)))=true then (z.C i1) else (z.D i1)
abbrev x3:=Lay.yN (fun i0=>x0 z i0) (fun i0=>fun i1=>x2 z i0 i1) 2 k
abbrev x4:=Lay.jw (fun i0=>if i0<z.nC then (z.C i0) else (z.D (i0 - z.nC))) k
abbrev x5:=Int.toNat ((i0:Int)+1)
abbrev x6:=x4 z i0+x3 z (Int.toNat (i0:Int))
abbrev xt:VT:=VT.da [(2:Nat)<=(2:Nat),dm prog 173 [DV.di 2 [fun i0=>DV.di (x0 z i0) [fun i1=>dI (x2 z i0 i1)]]] (DV.di (x1 z) [fun i0=>dI (x3 z i0)])] (VT.loop Nat (fun i0=>i0<=z.nC+z.nD) (Int.toNat 0) [0=(↑(Int.toNat 0):Int),0=x4 z (Int.toNat 0),rf (x1 z),∀i0<x1 z,rf (x3 z i0),rf (↑(x1 z):Int)] (fun i0=>VT.ite (decide ((i0:Int)<(↑(x1 z):Int))) (VT.da [0<=(i0:Int)/\(i0:Int)<(↑(x1 z):Int)] (VT.da [cZ (x6 z i0)] (VT.da [cZ ((i0:Int)+1)] (VT.done [(i0:Int)+1=(↑(x5 i0):Int),x6 z i0=x4 z (x5 i0),rf (x1 z),∀i0<x1 z,rf (x3 z i0),rf (↑(x1 z):Int),x5 i0<=z.nC+z.nD,z.nC+z.nD - x5 i0<z.nC+z.nD - i0])))) (VT.done [x4 z i0=Lay.jw z.C z.nC+Lay.jw z.D z.nD])))
end
end w34
open w34 in
theorem sum_c (nC:Nat) (C:Nat->Int) (nD:Nat) (D:Nat->Int) (h1:nC<=1000000) (h2:nD<=1000000) (hC: ∀k,k<nC->1<=C k/\C k<=10000) (hD: ∀k,k<nD->1<=D k/\D k<=10000):dm prog 145 [clg nC C nD D] (dI (jw C nC+jw D nD)):=by
 refine db dv (NY nC C nD D) (V:=xt ⟨nC,C,nD,D⟩) (by kernel_rfl) ?_
 simp only [xt,x0,x1,x2,x3,x4,x5,x6,Rf,VT.holds,dt,Sq]
 have T4:sC (fun i=>if i=0 then nC else nD) 2=nC+nD:=by simp [sC]
 have hcat:yN (fun i=>if i=0 then nC else nD) (fun i k=>if i=0 then C k else D k) 2=fun k=>if k<nC then C k else D (k - nC):=by
  funext k
  simp [yN,sC]
 have hc:=RO 2 (fun i=>if i=0 then nC else nD) (fun i k=>if i=0 then C k else D k) (by omega) (fun i _=>by split<;>omega)
 rw [T4,hcat] at hc ⊢
 have hf: ∀k,k<nC+nD->1<=(fun k=>if k<nC then C k else D (k - nC)) k/\(fun k=>if k<nC then C k else D (k - nC)) k<=10000:=fun k hk=>by
  dsimp only
  split
  ·exact hC k ‹_›
  ·exact hD _ (by omega)
 refine ⟨⟨af _,hc⟩,⟨rfl,rfl⟩,ao _,fun i hi=>⟨fun dK=> ?_,fun iy=> ?_⟩⟩
 ·have h3:=Ll hf i hi
  have h4:=hf i (by omega)
  have h5:i<=2000000:=by omega
  have h6:jw (fun k=>if k<nC then C k else D (k - nC)) (i+1)=jw (fun k=>if k<nC then C k else D (k - nC)) i+(fun k=>if k<nC then C k else D (k - nC)) i:=rfl
  generalize jw (fun k=>if k<nC then C k else D (k - nC)) i=X at*
  exact ⟨⟨by omega,by omega⟩,(by unfold cZ;omega:cZ (X+(fun k=>if k<nC then C k else D (k - nC)) i)),by unfold cZ;omega,rfl,h6.symm,by omega,by omega⟩
 ·rw [show i=nC+nD by omega,GC]
noncomputable def FN (nB:Nat) (B:Nat->Int) (nO:Nat) (O:Nat->Int) (W G L len:Int) (nC:Nat) (C:Nat->Int) (nD:Nat) (D:Nat->Int):eH:={ dq:=[(1,[(2,rCk)]),(4,[(1,rSum)])],loops:=[],dw:=[] }
theorem H3 (nB:Nat) (B:Nat->Int) (nO:Nat) (O:Nat->Int) (W G L len:Int) (nC:Nat) (C:Nat->Int) (nD:Nat) (D:Nat->Int) (hs:fN nB B nO O W G L=0) (hc:nC<=1000000) (hd:nD<=1000000):dm prog 102 [sys nB B nO O W G L,dI len,clg nC C nD D] (dI (jd nB B nO O nC C nD D len)):=by
 refine db dv (FN nB B nO O W G L len nC C nD D) (V:= .da [dm prog 144 [.agg [.di nB [fun i=>(dI (B i))],.di nO [fun i=>(dI (O i))],(dI W),(dI G),(dI L)],.agg [.di nC [fun i=>(dI (C i))],.di nD [fun i=>(dI (D i))]]] ((dI (DR nB B nO O nC C nD D)))] (.ite (DR nB B nO O nC C nD D !=0) (.done [DR nB B nO O nC C nD D=jd nB B nO O nC C nD D len]) (.da [dm prog 145 [.agg [.di nC [fun i=>(dI (C i))],.di nD [fun i=>(dI (D i))]]] ((dI (jw C nC+jw D nD)))] (.ite (jw C nC+jw D nD !=len) (.done [(25:Int)=jd nB B nO O nC C nD D len]) (.done [(0:Int)=jd nB B nO O nC C nD D len]))))) (by kernel_rfl) ?_
 simp only [VT.holds,dt,Sq]
 refine ⟨ck_c nB B nO O W G L nC C nD D hs hc hd,fun h=>by rw [jd,ae h],fun h=> ?_⟩
 obtain ⟨bC,bD⟩:=V9 hs h
 exact ⟨sum_c nC C nD D hc hd bC bD,fun h2=>by rw [jd,ah h,ae h2],fun h2=>by rw [jd,ah h,ah h2]⟩
end Go.Abs.Lay
end
section
section
set_option maxRecDepth 100000
namespace Go.Abs
open Go
theorem wg {x:Int}:kT x=false↔0<=x/\x<=1:=by
 unfold kT Lay.ni
 simp
structure fX where
 nC:Nat
 C:Nat->Int
 nR:Nat
 F:Nat->Int
 SX:Nat->Int
 SY:Nat->Int
 Ln:Nat->Int
 nP:Nat->Nat
 P:Nat->Nat->Int
 nQ:Nat->Nat
 Q:Nat->Nat->Int
abbrev runC (l:fX):List (Nat->DV):=[fun i=>dI (l.F i),fun i=>dI (l.SX i),fun i=>dI (l.SY i),fun i=>dI (l.Ln i),fun i=>Lay.nums (l.nP i) (l.P i),fun i=>Lay.nums (l.nQ i) (l.Q i)]
abbrev Hg (l:fX):DV:= .agg [Lay.nums l.nC l.C,.di l.nR (runC l)]
def Yl (nB:Nat) (B:Nat->Int) (l:fX) (i:Nat):Int:=(l.nQ i:Int)+Lay.rO (l.P i) (B (nB - 1)) (l.nP i)
def lv (nB:Nat) (B:Nat->Int) (l:fX):Nat->Int
 |0=>0
 |k+1=>lv nB B l k+Yl nB B l k
def mf (l:fX):Nat->Int
 |0=>0
 |k+1=>mf l k+(l.nP k:Int)
def mI (l:fX):Prop:=l.nC<=1000/\l.nR<=1000/\ ∀i,i<l.nR->l.nP i<=10000/\l.nQ i<=10000
def UH (nB:Nat) (B:Nat->Int) (nO:Nat) (O:Nat->Int) (l:fX) (i:Nat):Int:=Lay.jd nB B nO O (l.nP i) (l.P i) (l.nQ i) (l.Q i) (l.Ln i)
def Ly (b:dJ) (G W:Int) (i:Nat) (a:Int):Int:=qB (b.N 0) (b.X 0) (b.Y 0) i (ft (b.N 0) (b.X 0) (b.Y 0) G W i a) G
def Lx (b:dJ) (G W:Int) (i:Nat) (a:Int):Int:=qA (b.N 0) (b.X 0) (b.Y 0) i (ft (b.N 0) (b.X 0) (b.Y 0) G W i a) G
def LQ (b:dJ) (l:fX) (i:Nat):Int:=l.C (((i:Int)+1)%(b.N 0:Int)).toNat
def JW (b:dJ) (nB:Nat) (B:Nat->Int) (nO:Nat) (O:Nat->Int) (W G:Int) (l:fX) (i:Nat):Int:=
 if l.F i≠i then 10 else if ¬(l.SX i=Ly b G W i (l.C i)/\l.SY i=Lx b G W i (l.C i)/\l.Ln i=jG (b.N 0) (b.X 0) (b.Y 0) G W i (l.C i) (LQ b l i)) then 3 else UH nB B nO O l i
def Gh (b:dJ) (nB:Nat) (B:Nat->Int) (nO:Nat) (O:Nat->Int) (W G:Int) (l:fX):Int:=
 if l.nC≠b.N 0\/l.nR≠b.N 0 then 11 else if Lay.fU (fun k=>kT (l.C k)) l.nC=true then 2 else fY (JW b nB B nO O W G l) (b.N 0)
def rk (b:dJ) (nB:Nat) (B:Nat->Int) (nO:Nat) (O:Nat->Int) (W G L:Int) (l:fX):Int:=if ja b nB B nO O W G L≠0 then ja b nB B nO O W G L else Gh b nB B nO O W G l
theorem P3 {nB:Nat} {B:Nat->Int} {l:fX} (h:mI l) {i:Nat} (hi:i<l.nR):0<=Yl nB B l i/\Yl nB B l i<=20000:=by
 have:=h.2.2 i hi
 have hc:=Lay.zg (l.P i) (B (nB - 1)) (l.nP i)
 unfold Yl
 omega
theorem Ed {nB:Nat} {B:Nat->Int} {l:fX} (h:mI l): ∀k,k<=l.nR->0<=lv nB B l k/\lv nB B l k<=20000*k
 |0,_=>by rw [lv];omega
 |k+1,hk=>by
  have:=Ed (nB:=nB) (B:=B) h k (by omega)
  have:=P3 (nB:=nB) (B:=B) h (i:=k) (by omega)
  rw [lv]
  omega
theorem Ee {l:fX} (h:mI l): ∀k,k<=l.nR->0<=mf l k/\mf l k<=10000*k
 |0,_=>by rw [mf];omega
 |k+1,hk=>by
  have:=Ee h k (by omega)
  have:=h.2.2 k (by omega)
  rw [mf]
  omega
noncomputable def ID (x:Int):eH:={ dq:=[(1,[(1,.res fun _=>dB (Lay.ni x 0 1))])],loops:=[],dw:=[] }
theorem TV (x:Int) :dm prog 100 [dI x] (dB (kT x)):=by
 refine db dv (ID x) (V:= .da [dm prog 101 [(dI x),(dI (0:Int)),(dI (1:Int))] ((dB (Lay.ni x (0:Int) (1:Int))))] (.done [(!Lay.ni x (0:Int) (1:Int))=kT x])) (by kernel_rfl) ?_
 simp only [VT.holds,dt,Sq]
 exact ⟨Lay.iz x 0 1,rfl⟩
noncomputable def IM (nB:Nat) (B:Nat->Int) (nO:Nat) (O:Nat->Int) (W G L:Int) (l:fX):eH:={ dq:=[(5,[(3,.res fun q=>dP ((lenOf (fD 1 (arg q 1)):Int)+Lay.rO (iQ 0 (fD 0 (arg q 1))) (B (nB - 1)) (lenOf (fD 0 (arg q 1)))) (lenOf (fD 0 (arg q 1))))])],loops:=[(0,{ ι:=Nat,keep:=[2,3,4,10,11,5],boxes:=[2,3,4],ts:=fun _ i=>[(12,dI (i:Int))],bx:=fun _ i=>[(5,[dI (lv nB B l i),dI (mf l i)])],inv:=fun _ i=>i<=l.nR,mu:=fun _ i=>l.nR - i,rd:=fun _ σ=>(eA (σ.get 12)).toNat })],dw:=[] }
namespace w37
noncomputable section
structure Z where
 nB:Nat
 B:Nat->Int
 nO:Nat
 O:Nat->Int
 W:Int
 G:Int
 L:Int
 l:fX
variable (z:Z) (i0:Nat) (p:Prop) (P:List Prop)
abbrev x0:=Int.toNat (i0:Int)
abbrev x1:=Int.toNat ((i0:Int)+1)
abbrev x2:=Int.toNat 0
abbrev x3:List Prop:=p::rf z.l.nR::(∀i0<z.l.nR,rf (z.l.F i0))::(∀i0<z.l.nR,rf (z.l.SX i0))::(∀i0<z.l.nR,rf (z.l.SY i0))::(∀i0<z.l.nR,rf (z.l.Ln i0))::(∀i0<z.l.nR,rf (z.l.nP i0)/\(∀i1<z.l.nP i0,rf (z.l.P i0 i1)))::(∀i0<z.l.nR,rf (z.l.nQ i0)/\(∀i1<z.l.nQ i0,rf (z.l.Q i0 i1)))::P
abbrev x4:=(↑(z.l.nQ (x0 i0)):Int)+Lay.rO (z.l.P (x0 i0)) (z.B (z.nB - 1)) (z.l.nP (x0 i0))
abbrev x5:=mf z.l i0+(↑(z.l.nP (x0 i0)):Int)
abbrev x6:List Prop:=rf z.nB::(∀i0<z.nB,rf (z.B i0))::rf z.nO::(∀i0<z.nO,rf (z.O i0))::rf z.W::rf z.G::rf z.L::rf z.l.nC::x3 z (∀i0<z.l.nC,rf (z.l.C i0)) (rf (0:Int)::rf (0:Int)::P)
abbrev xt:VT:=VT.loop Nat (fun i0=>i0<=z.l.nR) x2 (x3 z (0=(x2:Int)) (rf (z.l.nR:Int)::(0=lv z.nB z.B z.l x2)::(0=mf z.l x2)::x6 z [])) (fun i0=>VT.ite (decide ((i0:Int)<(z.l.nR:Int))) (VT.da [0<=(i0:Int)/\(i0:Int)<(z.l.nR:Int)] (VT.da [dm prog (117:FuncId) [DV.agg [DV.di z.nB [fun i0=>dI (z.B i0)],DV.di z.nO [fun i0=>dI (z.O i0)],dI z.W,dI z.G,dI z.L],DV.agg [DV.di (z.l.nP (x0 i0)) [fun i1=>dI (z.l.P (x0 i0) i1)],DV.di (z.l.nQ (x0 i0)) [fun i1=>dI (z.l.Q (x0 i0) i1)]]] (DV.val (Value.agg (Array.mk [Value.int IntKind.i64 (x4 z i0),Value.int IntKind.i64 (↑(z.l.nP (x0 i0)):Int)])))] (VT.da [cZ (lv z.nB z.B z.l i0+x4 z i0)] (VT.da [cZ (x5 z i0)] (VT.da [cZ ((i0:Int)+1)] (VT.done (x3 z ((i0:Int)+1=(↑(x1 i0):Int)) (rf (z.l.nR:Int)::(lv z.nB z.B z.l i0+x4 z i0=lv z.nB z.B z.l (x1 i0))::(x5 z i0=mf z.l (x1 i0))::x6 z [x1 i0<=z.l.nR,z.l.nR - x1 i0<z.l.nR - i0])))))))) (VT.done [lv z.nB z.B z.l i0=lv z.nB z.B z.l z.l.nR,mf z.l i0=mf z.l z.l.nR]))
end
end w37
open w37 in
theorem S8 (nB:Nat) (B:Nat->Int) (nO:Nat) (O:Nat->Int) (W G L:Int) (l:fX) (hs:Lay.fN nB B nO O W G L=0) (h:mI l):dm prog 61 [Lay.sys nB B nO O W G L,Hg l] (dP (lv nB B l l.nR) (mf l l.nR)):=by
 refine db dv (IM nB B nO O W G L l) (V:=xt ⟨nB,B,nO,O,W,G,L,l⟩) (by kernel_rfl) ?_
 simp only [xt,x0,x1,x2,x3,x4,x5,x6,Rf,VT.holds,dt,Sq]
 obtain ⟨s1,s2,s3,sB,sO,sr,_⟩:=Lay.n5 hs
 obtain ⟨t1,t2,t3⟩:=h
 refine ⟨⟨rfl,rfl,rfl⟩,ao _,fun i hi=>⟨fun dK=> ?_,fun iy=>by rw [show i=l.nR by omega];exact ⟨rfl,rfl⟩⟩⟩
 have t4:=t3 i (by omega)
 have a1:=Ed (nB:=nB) (B:=B) ⟨t1,t2,t3⟩ i hi
 have a2:=Ee ⟨t1,t2,t3⟩ i hi
 have a3:=P3 (nB:=nB) (B:=B) ⟨t1,t2,t3⟩ (i:=i) (by omega)
 unfold Yl at a3
 exact ⟨by omega,Lay.RJ nB B nO O W G L _ _ _ _ s1 (by omega) sr (by omega) (by omega),by unfold cZ;omega,by unfold cZ;omega,by unfold cZ;omega,rfl,rfl,rfl,by omega,by omega⟩
end Go.Abs
end
section
set_option maxRecDepth 100000
namespace Go.Abs
open Go
def rClo (nB:Nat) (B:Nat->Int) (nO:Nat) (O:Nat->Int):fE:= .res fun q=>dI (Lay.jd nB B nO O (lenOf (fD 0 (arg q 2))) (iQ 0 (fD 0 (arg q 2))) (lenOf (fD 1 (arg q 2))) (iQ 0 (fD 1 (arg q 2))) (aI q 1))
theorem zp {p:Nat->Bool} {n:Nat}:Lay.fU p n=false↔ ∀k,k<n->p k=false:=by
 unfold Lay.fU
 rw [bK,ai]
section
variable {b:dJ} {nB:Nat} {B:Nat->Int} {nO:Nat} {O:Nat->Int} {W G L:Int} {l:fX}
theorem ly_1 (h: ¬(l.nC:Int)=b.N 0\/ ¬(l.nR:Int)=b.N 0):Gh b nB B nO O W G l=11:=by rw [Gh,ah (by omega)]
theorem ly_2 (h:l.nC=b.N 0/\l.nR=b.N 0) (h2:Lay.fU (fun k=>kT (l.C k)) l.nC=true):Gh b nB B nO O W G l=2:=by rw [Gh,ae (by omega),ah h2]
theorem Ys (h:l.nC=b.N 0/\l.nR=b.N 0) (h2:Lay.fU (fun k=>kT (l.C k)) l.nC=false):Gh b nB B nO O W G l=fY (JW b nB B nO O W G l) (b.N 0):=by rw [Gh,ae (by omega),ae (by rw [h2];simp)]
theorem Qf (h:l.nC=b.N 0/\l.nR=b.N 0) (h2:Lay.fU (fun k=>kT (l.C k)) l.nC=false) {i:Nat} (hi:i<b.N 0) (hb: ∀k,k<i->JW b nB B nO O W G l k=0) {e:Int} (he:JW b nB B nO O W G l i=e) (h0:e≠0):e=Gh b nB B nO O W G l:=by
 rw [Ys h h2,kj hb (by rw [he];exact h0) hi,he]
theorem VF (h:l.nC=b.N 0/\l.nR=b.N 0) (h2:Lay.fU (fun k=>kT (l.C k)) l.nC=false) (hb: ∀k,k<b.N 0->JW b nB B nO O W G l k=0):0=Gh b nB B nO O W G l:=by
 rw [Ys h h2,gH hb]
theorem ru_1 {i:Nat} (h: ¬l.F i=(i:Int)):JW b nB B nO O W G l i=10:=by rw [JW,ah h]
theorem ru_2 {i:Nat} (h:l.F i=(i:Int)) (h2: ¬(l.SX i=Ly b G W i (l.C i)/\l.SY i=Lx b G W i (l.C i)/\l.Ln i=jG (b.N 0) (b.X 0) (b.Y 0) G W i (l.C i) (LQ b l i))):JW b nB B nO O W G l i=3:=by rw [JW,ae (fun hx=>hx h),ah h2]
theorem Tt {i:Nat} (h:l.F i=(i:Int)) (h2:l.SX i=Ly b G W i (l.C i)/\l.SY i=Lx b G W i (l.C i)/\l.Ln i=jG (b.N 0) (b.X 0) (b.Y 0) G W i (l.C i) (LQ b l i)):JW b nB B nO O W G l i=UH nB B nO O l i:=by rw [JW,ae (fun hx=>hx h),ae (fun hx=>hx h2)]
end
theorem Bd (m:Nat) (C:Nat->Int) (hm:m<=1000000):dm prog 99 [Lay.nums m C,.val (.func (.func 100) #[] #[])] (dB (Lay.fU (fun k=>kT (C k)) m)):=by
 obtain ⟨r,hr⟩:=Lay.iC (fun k=>kT (C k)) m
 exact Lay.pR 100 kT m C r hm TV hr
noncomputable def IQ (b:dJ) (nB:Nat) (B:Nat->Int) (nO:Nat) (O:Nat->Int) (W G L:Int) (l:fX):eH:={ dq:=[(1,[(2,rArE b nB B nO O W G L)]),(4,[(1,.res fun _=>dI 0)]),(7,[(2,.res fun _=>dB true)])],loops:=[(0,{ ι:=Nat,keep:=[],boxes:=[],ts:=fun _ _=>[],inv:=fun _ _=>True,mu:=fun _ i=>i,rd:=fun _ _=>0 })],dw:=[] }
theorem TU (b:dJ) (nB:Nat) (B:Nat->Int) (nO:Nat) (O:Nat->Int) (W G L:Int) (l:fX) (hN: ∀i,i<b.nS->b.N i<=1000) (h0:ja b nB B nO O W G L≠0):dm prog 39 [jI b,Lay.sys nB B nO O W G L,Hg l] (.fy [.any,dI (ja b nB B nO O W G L)]):=by
 refine db dv (IQ b nB B nO O W G L l) (V:= .da [dm prog 31 [(jI b),.agg [.di nB [fun i=>(dI (B i))],.di nO [fun i=>(dI (O i))],(dI W),(dI G),(dI L)]] (.fy [.any,(dI (ja b nB B nO O W G L))])] (.ite (ja b nB B nO O W G L !=0) (.done [ja b nB B nO O W G L=ja b nB B nO O W G L]) (.da [dm prog 33 [.any] ((dI (0:Int)))] (.da [ri ((!(l.nC:Int) !=0)=true),ri ((!(l.nC:Int) !=0)=true),ri ((!(l.nC:Int) !=0)=true),ri ((!(l.nC:Int) !=0)=true),((l.nC:Int) !=0)=false->(!(l.nC:Int) !=0)=true] (.ite (if ((l.nC:Int) !=0)=true then true else (l.nR:Int) !=0) (.done [(11:Int)=ja b nB B nO O W G L]) (.da [dm prog 99 [.di l.nC [fun i=>(dI (l.C i))],.val (Value.func (Fn.func 100) (Array.mk []) (Array.mk []))] ((dB true))] (.ite true (.done [(2:Int)=ja b nB B nO O W G L]) (.loop Nat (fun a=>True) (0:Nat) [] fun i=> .da [False] (.done [False]))))))))) (by kernel_rfl) ?_
 simp only [VT.holds,dt,Sq]
 exact ⟨DZ b nB B nO O W G L hN,fun h=>absurd h h0⟩
noncomputable def IP (b:dJ) (nB:Nat) (B:Nat->Int) (nO:Nat) (O:Nat->Int) (W G L:Int) (l:fX):eH:={ dq:=[(1,[(2,TA b nB B nO O W G L)]),(4,[(1,.res fun _=>dI (b.N 0:Int))]),(7,[(2,.res fun _=>dB (Lay.fU (fun k=>kT (l.C k)) l.nC))]),(12,[(10,.pos)]),(15,[(7,.res fun q=>dI (ft (b.N 0) (b.X 0) (b.Y 0) G W (aI q 1) (aI q 2))),(10,.res fun q=>dP (qB (b.N 0) (b.X 0) (b.Y 0) (aI q 1) (aI q 2) (aI q 3)) (qA (b.N 0) (b.X 0) (b.Y 0) (aI q 1) (aI q 2) (aI q 3))),(19,.res fun q=>dI (jG (b.N 0) (b.X 0) (b.Y 0) G W (aI q 1) (aI q 2) (aI q 3)))]),(17,[(5,rClo nB B nO O)])],loops:=[(0,{ ι:=Nat,keep:=[3,4,5,8,10,43,44],boxes:=[3,4,5],ts:=fun _ i=>[(45,dI (i:Int))],inv:=fun _ i=>i<=b.N 0/\ ∀k,k<i->JW b nB B nO O W G l k=0,mu:=fun _ i=>b.N 0 - i,rd:=fun _ σ=>(eA (σ.get 45)).toNat })],dw:=[] }
namespace w39
noncomputable section
structure Z where
 b:dJ
 nB:Nat
 B:Nat->Int
 nO:Nat
 O:Nat->Int
 W:Int
 G:Int
 L:Int
 l:fX
variable (z:Z) (i0 i1:Nat) (p:Prop) (P:List Prop) (a:Int) (k:Nat) (g:Bool) (E:List DV) (U:VT) (Dz:FuncId) (Qr:Nat->DV)
abbrev x0:Int:=(i0:Int)
abbrev x1:=Int.toNat (x0 i0)
abbrev x2:=ft (z.b.N 0) (z.b.X 0) (z.b.Y 0) z.G z.W (x0 i0) (z.l.C (x1 i0))
abbrev x3:=i0<z.b.nO->rf (z.b.O i0 k)
abbrev x4:=i0<z.b.nB->rf (z.b.B i0 k)
abbrev x5:=DV.di k [Qr]
abbrev x6:Int:=(↑(z.b.N 0):Int)
abbrev x7:=i0<z.b.N 0->rf a
abbrev x8:=ix (z.b.N 0) (x0 i0+1)
abbrev x9:=Lay.iv z.nB z.B z.nO z.O z.W z.G z.L
abbrev dC:=qB (z.b.N 0) (z.b.X 0) (z.b.Y 0) (x0 i0) (x2 z i0) z.G
abbrev dA:=qA (z.b.N 0) (z.b.X 0) (z.b.Y 0) (x0 i0) (x2 z i0) z.G
abbrev dz:=(z.l.SX (x1 i0)==dC z i0)&&((z.l.SY (x1 i0)==dA z i0)&&true)
abbrev dG:List Prop:=ri ((!(!(dz z i0)))=true)::P
abbrev dL:=(z.l.nC:Int) !=x6 z
abbrev dR:=ee (z.b.N 0) (z.b.X 0) (z.b.Y 0) (x0 i0)
abbrev dQ:=dD (z.b.N 0) (z.b.X 0) (z.b.Y 0) (x0 i0)
abbrev ep:=lM (z.b.N 0) (z.b.X 0) (z.b.Y 0) i0
abbrev eu:List DV:=x5 z.nB (fun i0=>dI (z.B i0))::x5 z.nO (fun i0=>dI (z.O i0))::dI z.W::dI z.G::dI z.L::E
abbrev eG:Int:=(↑(Lay.fZ z.nB z.B z.nO z.O z.W z.G z.L):Int)
abbrev ez:=VT.done [a=Gh z.b z.nB z.B z.nO z.O z.W z.G z.l]
abbrev eF:=VT.da [p] U
abbrev eQ:=VT.ite g (ez z a) U
abbrev fC:=DV.dN (DV.val (Value.string z.b.name)::DV.di z.b.nS [fun i0=>dI (z.b.fl i0),fun i0=>DV.di (z.b.N i0) [fun i1=>dI (z.b.X i0 i1),fun i1=>dI (z.b.Y i0 i1)]]::dI z.b.dr::DV.di z.b.nO [fun i0=>dI (z.b.O i0 0),fun i0=>dI (z.b.O i0 1),fun i0=>dI (z.b.O i0 2),fun i0=>dI (z.b.O i0 3),fun i0=>dI (z.b.O i0 4),fun i0=>dI (z.b.O i0 5)]::DV.di z.b.nB [fun i0=>dI (z.b.B i0 0),fun i0=>dI (z.b.B i0 1),fun i0=>dI (z.b.B i0 2),fun i0=>dI (z.b.B i0 3),fun i0=>dI (z.b.B i0 4),fun i0=>dI (z.b.B i0 5)]::eu z [dI (eG z),DV.di (x9 z) [fun i0=>dI (Lay.fa z.nB z.B z.nO z.O i0),fun i0=>dI (Lay.ed z.nB i0),fun i0=>dB (decide (z.nB<=i0))],DV.di (z.b.N 0) [fun i0=>dI (z.b.X 0 i0),fun i0=>dI (z.b.Y 0 i0),fun i0=>dI (z.b.X 0 (x8 z i0)),fun i0=>dI (z.b.Y 0 (x8 z i0)),fun i0=>dI (dR z i0),fun i0=>dI (dQ z i0)],x5 (z.b.N 0) (fun i0=>dI (ep z i0))])
abbrev fM:=Int.toNat (x0 i0+1)
abbrev fR:= ∀i0<z.l.nR,rf (z.l.nQ i0)/\(∀i1<z.l.nQ i0,rf (z.l.Q i0 i1))
abbrev fj:List Prop:=rf z.l.nR::(∀i0<z.l.nR,rf (z.l.F i0))::(∀i0<z.l.nR,rf (z.l.SX i0))::(∀i0<z.l.nR,rf (z.l.SY i0))::(∀i0<z.l.nR,rf (z.l.Ln i0))::(∀i0<z.l.nR,rf (z.l.nP i0)/\(∀i1<z.l.nP i0,rf (z.l.P i0 i1)))::P
abbrev gp:List Prop:=rf z.b.name::rf z.b.nS::(∀i0<z.b.nS,rf (z.b.fl i0))::(∀i0<z.b.nS,rf (z.b.N i0)/\(∀i1<z.b.N i0,rf (z.b.X i0 i1))/\(∀i1<z.b.N i0,rf (z.b.Y i0 i1)))::rf z.b.dr::rf z.b.nO::(∀(i0:Nat),x3 z i0 (0:Nat))::(∀(i0:Nat),x3 z i0 (1:Nat))::(∀(i0:Nat),x3 z i0 (2:Nat))::(∀(i0:Nat),x3 z i0 (3:Nat))::(∀(i0:Nat),x3 z i0 (4:Nat))::(∀(i0:Nat),x3 z i0 (5:Nat))::rf z.b.nB::(∀(i0:Nat),x4 z i0 (0:Nat))::(∀(i0:Nat),x4 z i0 (1:Nat))::(∀(i0:Nat),x4 z i0 (2:Nat))::(∀(i0:Nat),x4 z i0 (3:Nat))::(∀(i0:Nat),x4 z i0 (4:Nat))::(∀(i0:Nat),x4 z i0 (5:Nat))::rf z.nB::(∀i0<z.nB,rf (z.B i0))::rf z.nO::(∀i0<z.nO,rf (z.O i0))::rf z.W::rf z.G::rf z.L::P
abbrev iI:=z.l.C (Int.toNat ((x0 i0+1)%x6 z))
abbrev ji:List Prop:=ri ((!(dL z))=true)::ri ((!(dL z))=true)::P
abbrev iq:=Lay.jd z.nB z.B z.nO z.O (z.l.nP (x1 i0)) (z.l.P (x1 i0)) (z.l.nQ (x1 i0)) (z.l.Q (x1 i0)) (z.l.Ln (x1 i0))
abbrev jj:=Lay.fU (fun i0=>kT (z.l.C i0)) z.l.nC
abbrev jv:=dm prog Dz (fC z::dI (x0 i0)::dI (z.l.C (x1 i0))::E) (dI a)
abbrev il:List Prop:=p::gp z (rf (eG z)::rf (x9 z)::(∀i0<x9 z,rf (Lay.fa z.nB z.B z.nO z.O i0))::(∀i0<x9 z,rf (Lay.ed z.nB i0))::(∀i0<x9 z,rf (decide (z.nB<=i0)))::rf (z.b.N 0)::(∀(i0:Nat),x7 z i0 (z.b.X 0 i0))::(∀(i0:Nat),x7 z i0 (z.b.Y 0 i0))::(∀(i0:Nat),x7 z i0 (z.b.X 0 (x8 z i0)))::(∀(i0:Nat),x7 z i0 (z.b.Y 0 (x8 z i0)))::(∀(i0:Nat),x7 z i0 (dR z i0))::(∀(i0:Nat),x7 z i0 (dQ z i0))::rf (z.b.N 0)::(∀(i0:Nat),x7 z i0 (ep z i0))::rf (x6 z)::fj z (fR z::rf (z.l.nR:Int)::gp z (rf z.l.nC::(∀i0<z.l.nC,rf (z.l.C i0))::P)))
abbrev iH:=jG (z.b.N 0) (z.b.X 0) (z.b.Y 0) z.G z.W (x0 i0) (z.l.C (x1 i0)) (iI z i0)
abbrev lu:=i1<k->JW z.b z.nB z.B z.nO z.O z.W z.G z.l i1=0
abbrev xt:VT:=eF (dm prog (31:FuncId) [jI z.b,DV.agg (eu z [])] (DV.fy [fC z,dI 0])) (eQ z (0:Int) ((0:Int) !=(0:Int)) (eF (dm prog (33:FuncId) [fC z] (dI (x6 z))) (VT.da (ji z (ji z [dL z=false->(!(dL z))=true])) (eQ z (11:Int) (if (dL z)=true then true else ((z.l.nR:Int) !=x6 z)) (eF (dm prog (99:FuncId) [x5 z.l.nC (fun i0=>dI (z.l.C i0)),DV.val (Value.func (Fn.func 100) (Array.mk []) (Array.mk []))] (dB (jj z))) (eQ z (2:Int) (jj z) (VT.loop Nat (fun i0=>i0<=z.b.N 0/\(∀(i1:Nat),lu z i1 i0)) (Int.toNat 0) (il z (0=(↑(Int.toNat 0):Int)) (fj z [fR z])) (fun i0=>VT.ite (decide ((x0 i0)<(z.l.nR:Int))) (eF (0<=x0 i0/\x0 i0<(z.l.nR:Int)) (VT.da [0<=x0 i0/\x0 i0<(z.l.nC:Int),cZ (x0 i0+1),0<=x0 i0+1/\0<x6 z,0<=(x0 i0+1)%x6 z/\(x0 i0+1)%x6 z<(z.l.nC:Int)] (eQ z (10:Int) (z.l.F (x1 i0) !=x0 i0) (VT.da (jv z i0 (x2 z i0) [] (36:FuncId)::dm prog (35:FuncId) [fC z,dI (x0 i0),dI (x2 z i0),dI z.G] (DV.val (Value.agg (Array.mk [Value.int IntKind.i64 (dC z i0),Value.int IntKind.i64 (dA z i0)])))::dG z i0 (dG z i0 (dG z i0 (dG z i0 (dG z i0 (((!(!(dz z i0)))=true->jv z i0 (iH z i0) [dI (iI z i0)] (37:FuncId))::dG z i0 (dG z i0 [(!(dz z i0))=false->(!(!(dz z i0)))=true]))))))) (eQ z (3:Int) (if (!(dz z i0))=true then true else (z.l.Ln (x1 i0) !=iH z i0)) (eF (dm prog (102:FuncId) [DV.agg (eu z []),dI (z.l.Ln (x1 i0)),DV.agg [x5 (z.l.nP (x1 i0)) (fun i1=>dI (z.l.P (x1 i0) i1)),x5 (z.l.nQ (x1 i0)) (fun i1=>dI (z.l.Q (x1 i0) i1))]] (dI (iq z i0))) (eQ z (iq z i0) (iq z i0 !=0) (eF (cZ (x0 i0+1)) (VT.done (il z (x0 i0+1=(↑(fM i0):Int)) (fj z [fR z,fM i0<=z.b.N 0/\(∀(i1:Nat),lu z i1 (fM i0)),z.b.N 0 - fM i0<z.b.N 0 - i0]))))))))))) (ez z (0:Int))))))))))
end
end w39
open w39 in
theorem TT (b:dJ) (nB:Nat) (B:Nat->Int) (nO:Nat) (O:Nat->Int) (W G L:Int) (l:fX) (hN: ∀i,i<b.nS->b.N i<=1000) (h0:ja b nB B nO O W G L=0) (ht:mI l):dm prog 39 [jI b,Lay.sys nB B nO O W G L,Hg l] (.fy [.any,dI (Gh b nB B nO O W G l)]):=by
 refine db dv (IP b nB B nO O W G L l) (V:=xt ⟨b,nB,B,nO,O,W,G,L,l⟩) (by kernel_rfl) ?_
 simp only [xt,x0,x1,x2,x3,x4,x5,x6,x7,x8,x9,dC,dA,dz,dG,dL,dR,dQ,ep,eu,eG,ez,eF,eQ,fC,fM,fR,fj,gp,iI,ji,iq,jj,jv,il,iH,lu,Rf,VT.holds,dt,Sq]
 obtain ⟨hc,hs,_,_,_,_,_⟩:=fu h0
 obtain ⟨b1,b2,b3,b4,b5⟩:=js hc
 have hn:=fp b2
 obtain ⟨hX,hY⟩:=eB b2
 have g1:=(fP hs).1
 have g2:=g1
 unfold j8 at g2
 obtain ⟨t1,t2,t3⟩:=ht
 refine ⟨sw b nB B nO O W G L hN h0,fun h=>absurd trivial h,fun _=>⟨VC _ _ _ _ _ _ _ _ _ _ _ _ _ _ _,fun h=>(ly_1 h).symm,fun h=> ?_⟩⟩
 have Uk:l.nC=b.N 0/\l.nR=b.N 0:=by omega
 refine ⟨Bd l.nC l.C (by omega),fun h2=>(ly_2 Uk h2).symm,fun h2=>⟨rfl,⟨ao _,fun k hk=>absurd hk (aF k)⟩,fun i ⟨hi,hb⟩=>⟨fun dK=> ?_,fun iy=>VF Uk h2 fun k hk=>hb k (by omega)⟩⟩⟩
 have DD: ∀k,k<b.N 0->0<=l.C k/\l.C k<=1:=fun k hk=>wg.1 (zp.1 h2 k (by omega))
 have q1:=bf ((i:Int)+1) (show (b.N 0:Int)≠0 by omega)
 have q2:=bm ((i:Int)+1) (show (0:Int)<b.N 0 by omega)
 have ha:=DD i (by omega)
 have hU:=DD (((i:Int)+1)%(b.N 0:Int)).toNat (by omega)
 have bb:=pU (n:=b.N 0) (X:=b.X 0) (Y:=b.Y 0) (i:Int) g1 ha
 have t4:=t3 i (by omega)
 refine ⟨by omega,⟨by omega,by unfold cZ;omega,by omega,q1,by omega⟩,fun h3=>Qf Uk h2 (by omega) hb (ru_1 h3) (by decide),fun h3=>⟨⟨rR _ _ _ _ _ _ _ _ _ _ _ _ _ _ _ _ _ (by omega) g1 ha,qS _ _ _ _ _ _ _ _ _ _ _ _ _ _ _ _ _ _ (by omega) hX hY (by omega) (by omega),fun _=>qN _ _ _ _ _ _ _ _ _ _ _ _ _ _ _ _ _ _ (by omega) (by omega) hX hY g1 ha hU⟩,fun h4=>Qf Uk h2 (by omega) hb (ru_2 h3 fun hx=> ?_) (by decide),fun h4=> ?_⟩⟩
 ·rcases h4 with h4|h4
  ·exact absurd (h4 hx.1 hx.2.1) (by simp)
  ·exact h4 hx.2.2
 ·have h5:l.SX i=Ly b G W i (l.C i)/\l.SY i=Lx b G W i (l.C i)/\l.Ln i=jG (b.N 0) (b.X 0) (b.Y 0) G W i (l.C i) (LQ b l i):=by
   by_cases e1:l.SX i=Ly b G W i (l.C i)
   ·by_cases e2:l.SY i=Lx b G W i (l.C i)
    ·exact ⟨e1,e2,h4.2⟩
    ·exact absurd (fun _ hx=>absurd hx e2) h4.1
   ·exact absurd (fun hx=>absurd hx e1) h4.1
  refine ⟨Lay.H3 nB B nO O W G L _ _ _ _ _ hs (by omega) (by omega),fun h6=>Qf Uk h2 (by omega) hb (Tt h3 h5) h6,fun h6=>⟨by unfold cZ;omega,rfl,⟨by omega,fun k hk=> ?_⟩,by omega⟩⟩
  by_cases e:k=i
  ·rw [e,Tt h3 h5];exact h6
  ·exact hb k (by omega)
end Go.Abs
end
end
section
set_option maxRecDepth 100000
namespace Go.Abs
open Go
section
variable {b:dJ} {nB:Nat} {B:Nat->Int} {nO:Nat} {O:Nat->Int} {W G L:Int} {l:fX}
theorem VJ (h:ja b nB B nO O W G L≠0):rk b nB B nO O W G L l=ja b nB B nO O W G L:=by rw [rk,ah h]
theorem VI (h:ja b nB B nO O W G L=0):rk b nB B nO O W G L l=Gh b nB B nO O W G l:=by rw [rk,ae (by rw [h];simp)]
theorem Hq (h:rk b nB B nO O W G L l=0):ja b nB B nO O W G L=0/\Gh b nB B nO O W G l=0:=by
 by_cases h1:ja b nB B nO O W G L=0
 ·exact ⟨h1,by rw [<-VI h1];exact h⟩
 ·rw [VJ h1] at h;exact absurd h h1
theorem LV (b:dJ) (nB:Nat) (B:Nat->Int) (nO:Nat) (O:Nat->Int) (W G L:Int) (l:fX) (hN: ∀i,i<b.nS->b.N i<=1000) (ht:mI l):
 dm prog 39 [jI b,Lay.sys nB B nO O W G L,Hg l] (.fy [.any,dI (rk b nB B nO O W G L l)]):=by
 by_cases h:ja b nB B nO O W G L=0
 ·rw [VI h];exact TT b nB B nO O W G L l hN h ht
 ·rw [VJ h];exact TU b nB B nO O W G L l hN h
def XR (b:dJ) (nB:Nat) (B:Nat->Int) (nO:Nat) (O:Nat->Int) (W G L:Int) (l:fX):Int:=if rk b nB B nO O W G L l=0 then lv nB B l l.nR else 0
def XS (b:dJ) (nB:Nat) (B:Nat->Int) (nO:Nat) (O:Nat->Int) (W G L:Int) (l:fX):Int:=if rk b nB B nO O W G L l=0 then mf l l.nR else 0
end
noncomputable def wF (b:dJ) (nB:Nat) (B:Nat->Int) (nO:Nat) (O:Nat->Int) (W G L:Int) (l:fX):eH:={ dq:=[(1,[(3,.res fun _=> .fy [.any,dI (rk b nB B nO O W G L l)])])],loops:=[],dw:=[] }
theorem Cp (b:dJ) (nB:Nat) (B:Nat->Int) (nO:Nat) (O:Nat->Int) (W G L:Int) (l:fX) (hN: ∀i,i<b.nS->b.N i<=1000) (ht:mI l):dm prog 60 [jI b,Lay.sys nB B nO O W G L,Hg l] (dI (rk b nB B nO O W G L l)):=by
 refine db dv (wF b nB B nO O W G L l) (V:= .da [dm prog 39 [(jI b),.agg [.di nB [fun i=>(dI (B i))],.di nO [fun i=>(dI (O i))],(dI W),(dI G),(dI L)],.agg [.di l.nC [fun i=>(dI (l.C i))],.di l.nR [fun i=>(dI (l.F i)),fun i=>(dI (l.SX i)),fun i=>(dI (l.SY i)),fun i=>(dI (l.Ln i)),fun i=> .di (l.nP i) [fun dS=>(dI (l.P i dS))],fun i=> .di (l.nQ i) [fun dS=>(dI (l.Q i dS))]]]] (.fy [.any,(dI (rk b nB B nO O W G L l))])] (.done [rk b nB B nO O W G L l=rk b nB B nO O W G L l])) (by kernel_rfl) ?_
 simp only [VT.holds,dt,Sq]
 exact LV b nB B nO O W G L l hN ht
noncomputable def Bw (b:dJ) (nB:Nat) (B:Nat->Int) (nO:Nat) (O:Nat->Int) (W G L:Int) (l:fX):eH:={ dq:=[(1,[(3,.res fun _=>dI (rk b nB B nO O W G L l))]),(4,[(2,.res fun _=>dP (lv nB B l l.nR) (mf l l.nR))])],loops:=[],dw:=[] }
abbrev pf (l:fX):DV:= .agg [.di l.nC [fun i=>(dI (l.C i))],.di l.nR [fun i=>(dI (l.F i)),fun i=>(dI (l.SX i)),fun i=>(dI (l.SY i)),fun i=>(dI (l.Ln i)),fun i=> .di (l.nP i) [fun dS=>(dI (l.P i dS))],fun i=> .di (l.nQ i) [fun dS=>(dI (l.Q i dS))]]]
theorem JH (b:dJ) (nB:Nat) (B:Nat->Int) (nO:Nat) (O:Nat->Int) (W G L:Int) (l:fX) (hN: ∀i,i<b.nS->b.N i<=1000) (ht:mI l):dm prog 18 [jI b,Lay.sys nB B nO O W G L,Hg l] (.fy [dP (XR b nB B nO O W G L l) (XS b nB B nO O W G L l),dI (rk b nB B nO O W G L l)]):=by
 refine db dv (Bw b nB B nO O W G L l) (V:= .da [dm prog 60 [(jI b),.agg [.di nB [fun i=>(dI (B i))],.di nO [fun i=>(dI (O i))],(dI W),(dI G),(dI L)],(pf l)] ((dI (rk b nB B nO O W G L l)))] (.ite (rk b nB B nO O W G L l !=0) (.done [(0:Int)=XR b nB B nO O W G L l,(0:Int)=XS b nB B nO O W G L l,rk b nB B nO O W G L l=rk b nB B nO O W G L l]) (.da [dm prog 61 [.agg [.di nB [fun i=>(dI (B i))],.di nO [fun i=>(dI (O i))],(dI W),(dI G),(dI L)],(pf l)] (.val (.agg (Array.mk [.int .i64 (lv nB B l l.nR),.int .i64 (mf l l.nR)])))] (.done [lv nB B l l.nR=XR b nB B nO O W G L l,mf l l.nR=XS b nB B nO O W G L l,(0:Int)=rk b nB B nO O W G L l])))) (by kernel_rfl) ?_
 simp only [VT.holds,dt,pf,Sq]
 refine ⟨Cp b nB B nO O W G L l hN ht,fun h=>⟨by rw [XR,ae h],by rw [XS,ae h]⟩,fun h=>⟨S8 nB B nO O W G L l (fu (Hq h).1).2.1 ht,by rw [XR,ah h],by rw [XS,ah h],h.symm⟩⟩
end Go.Abs
end
