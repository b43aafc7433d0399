/- Contracts and what they stand on. -/
import Derived.Test.YtoinjphpfpklmaaGreatDoorK16
set_option linter.unusedVariables false
set_option linter.unusedSimpArgs false
section
namespace Go.Abs
open Go Go.RowKit Go.WideShapes Go.ChangeShapes Go.Deep Go.Joins Go.WideElems
section
variable {H:Type} {enc:TypeId×Value->H} {P:Program} {w:World} {base:Nat} {spare:Nat->Bool} {held:Bool}
theorem J2 {t e:TypeId} {fs:Array Field} {fuel:Nat} {cs:List Value} {x:DataW H×List MemPlace} (ht:P.underlying t=some (.slice e)) (he:P.underlying e=some (.struct fs))
 (jR:oneCellFields P fs=true) (hC:P.cellsOf e=fs.size) (h:DataW.trod enc P w base spare held fuel t cs=some x):
 cs=[.slice none 0 0]\/ ∃(a:Addr) (len cap:Nat),cs=[.slice (some a) len cap]/\len<=cap/\
  ∀i,i<len-> ∃n:Nat,∀(j:Nat) (f:Field),fs[j]? =some f-> ∃u y,w.cell? (a.add (i*fs.size+j))=some u/\DataW.trod enc P w base spare held n f.type [u]=some y:=by
 rcases open_slice ht h with ⟨h0,_⟩|⟨a,len,cap,m,n,D,Pl,xy,_,hl,_,hm,_,hi⟩
 ·exact .inl h0
 ·refine .inr ⟨a,len,cap,xy,hl,fun i QJ=> ?_⟩
  have YV:i<m:=by rw [hm];split<;>omega
  obtain ⟨vS,hc,ht'⟩:=hi i YV
  rw [hC] at hc
  obtain ⟨ys,n',_,_,hlen,hyl,hf⟩:=DataW.trod_struct he ht'
  obtain ⟨_,jg,sI⟩:=World.cells?_some hc
  refine ⟨n',fun j f B5=> ?_⟩
  have hj:=(aJ.1 B5).1
  obtain ⟨ho,hk⟩:=hone_of jR j _ B5
  have eZ:=sI j hj
  have h1:=hf j _ B5
  rw [ho,hk] at h1
  have Hy:(vS.drop j).take 1=[vS[j]'(by omega)]:=by
   rw [cx (by omega)]
   rfl
  rw [Hy] at h1
  have hys:ys[j]? =some (ys[j]'(by omega)):=ak (by omega)
  refine ⟨_,_,?_,h1.trans hys⟩
  rw [<-Go.Deep.add_add,eZ,ak (by omega)]
theorem LD {S:Nat->Prop} (hS: ∀b,S b) {a:Addr} {len cap:Nat} {de:List (Nat->DV)} (hl:len<=cap)
 (h: ∀(i j:Nat) (f:Nat->DV),i<len->de[j]? =some f-> ∃u,w.cell? (a.add (i*de.length+j))=some u/\fc u=true/\du (fQ w S) (f i) u):du (fQ w S) (.di len de) (.slice (some a) len cap):=by
 refine .di (fun i j=>(w.cell? (a.add (i*de.length+j))).getD undef) hl (fun i j f hi hj=>⟨a,rfl,?_,hS _⟩) (fun _=>by simp) (fun i j f hi hj=> ?_) fun i j f hi hj=> ?_
 all_goals obtain ⟨u,e,o,r⟩:=h i j f hi hj
 ·rw [e];exact .inl ⟨e,o⟩
 ·rw [e];exact o
 ·rw [e];exact r
theorem open_int {e:TypeId} {fuel:Nat} {v:Value} {x:DataW H×List MemPlace} (he:P.underlying e=some (.int .i64)) (h:DataW.trod enc P w base spare held fuel e [v]=some x): ∃z,v= .int .i64 z:=by
 obtain ⟨z,hz,_,_⟩:=DataW.trod_int he h
 exact ⟨z,(List.cons.inj hz).1⟩
theorem Ag {S:Nat->Prop} (hS: ∀b,S b) {t e:TypeId} {fs:Array Field} {fuel:Nat} {v:Value} {x:DataW H×List MemPlace} (ht:P.underlying t=some (.slice e)) (he:P.underlying e=some (.struct fs))
 (jR:oneCellFields P fs=true) (hC:P.cellsOf e=fs.size) (hn:fs.size=6) (hint: ∀(j:Nat) (f:Field),fs[j]? =some f->P.underlying f.type=some (.int .i64)) (h:DataW.trod enc P w base spare held fuel t [v]=some x):
 ∃(n:Nat) (Z:Nat->Nat->Int),du (fQ w S) (.di n [fun i=>dI (Z i 0),fun i=>dI (Z i 1),fun i=>dI (Z i 2),fun i=>dI (Z i 3),fun i=>dI (Z i 4),fun i=>dI (Z i 5)]) v:=by
 classical
 rcases Dk ht he jR hC hint h with h0|⟨a,len,cap,xy,hl,eZ⟩
 ·cases h0
  exact ⟨0,fun _ _=>0,uG _⟩
 ·cases xy
  rw [hn] at eZ
  refine ⟨len,fun i j=>if L6:i<len/\j<6 then (eZ i j L6.1 L6.2).choose else 0,LD hS hl fun i j f hi hj=> ?_⟩
  have key: ∀j,j<6->w.cell? (a.add (i*6+j))=some (.int .i64 (if L6:i<len/\j<6 then (eZ i j L6.1 L6.2).choose else 0)):=fun j hj=>by
   rw [dif_pos ⟨hi,hj⟩];exact (eZ i j hi hj).choose_spec
  match j,hj with
  |0,hj=>cases hj;exact ⟨_,key 0 (by omega),rfl,.val _⟩
  |1,hj=>cases hj;exact ⟨_,key 1 (by omega),rfl,.val _⟩
  |2,hj=>cases hj;exact ⟨_,key 2 (by omega),rfl,.val _⟩
  |3,hj=>cases hj;exact ⟨_,key 3 (by omega),rfl,.val _⟩
  |4,hj=>cases hj;exact ⟨_,key 4 (by omega),rfl,.val _⟩
  |5,hj=>cases hj;exact ⟨_,key 5 (by omega),rfl,.val _⟩
theorem PQ {S:Nat->Prop} (hS: ∀b,S b) {t e:TypeId} {fs:Array Field} {fuel:Nat} {v:Value} {x:DataW H×List MemPlace} (ht:P.underlying t=some (.slice e)) (he:P.underlying e=some (.struct fs))
 (jR:oneCellFields P fs=true) (hC:P.cellsOf e=fs.size) (hn:fs.size=2) (hint: ∀(j:Nat) (f:Field),fs[j]? =some f->P.underlying f.type=some (.int .i64)) (h:DataW.trod enc P w base spare held fuel t [v]=some x):
 ∃(n:Nat) (X Y:Nat->Int),du (fQ w S) (mh n X Y) v/\fc v=true:=by
 rcases Dk ht he jR hC hint h with h0|⟨a,len,cap,xy,hl,eZ⟩
 ·cases h0
  exact ⟨0,fun _=>0,fun _=>0,uG _,rfl⟩
 ·cases xy
  rw [hn] at eZ
  obtain ⟨X,Y,h⟩:=MR hS hl eZ
  exact ⟨_,X,Y,h,rfl⟩
theorem EH {S:Nat->Prop} (hS: ∀b,S b) {t e t1 e1:TypeId} {f0 f1:Field} {fs1:Array Field} {fuel:Nat} {v:Value} {x:DataW H×List MemPlace} (ht:P.underlying t=some (.slice e)) (he:P.underlying e=some (.struct #[f0,f1]))
 (jR:oneCellFields P #[f0,f1]=true) (hC:P.cellsOf e=2) (h0:P.underlying f0.type=some (.int .i64)) (h1:f1.type=t1) (ht1:P.underlying t1=some (.slice e1)) (he1:P.underlying e1=some (.struct fs1))
 (hone1:oneCellFields P fs1=true) (hC1:P.cellsOf e1=fs1.size) (hn1:fs1.size=2) (hint1: ∀(j:Nat) (f:Field),fs1[j]? =some f->P.underlying f.type=some (.int .i64)) (h:DataW.trod enc P w base spare held fuel t [v]=some x):
 ∃(n:Nat) (fl:Nat->Int) (N:Nat->Nat) (X Y:Nat->Nat->Int),du (fQ w S) (.di n [fun i=>dI (fl i),fun i=>mh (N i) (X i) (Y i)]) v:=by
 classical
 rcases J2 ht he jR hC h with h0'|⟨a,len,cap,xy,hl,AG⟩
 ·cases h0'
  exact ⟨0,fun _=>0,fun _=>0,fun _ _=>0,fun _ _=>0,uG _⟩
 ·cases xy
  have fh: ∀i,∃(q:Int×Nat×(Nat->Int)×(Nat->Int)),i<len->w.cell? (a.add (i*2+0))=some (.int .i64 q.1)/\ ∃u,w.cell? (a.add (i*2+1))=some u/\fc u=true/\du (fQ w S) (mh q.2.1 q.2.2.1 q.2.2.2) u:=fun i=>by
   by_cases hi:i<len
   ·obtain ⟨n,hn⟩:=AG i hi
    obtain ⟨u0,y0,c0,t0⟩:=hn 0 f0 rfl
    obtain ⟨u1,y1,c1,t1'⟩:=hn 1 f1 rfl
    obtain ⟨z,rfl⟩:=open_int h0 t0
    rw [h1] at t1'
    obtain ⟨m,X,Y,r,o⟩:=PQ hS ht1 he1 hone1 hC1 hn1 hint1 t1'
    exact ⟨(z,m,X,Y),fun _=>⟨c0,u1,c1,o,r⟩⟩
   ·exact ⟨(0,0,fun _=>0,fun _=>0),fun h=>absurd h hi⟩
  refine ⟨len,fun i=>(fh i).choose.1,fun i=>(fh i).choose.2.1,fun i=>(fh i).choose.2.2.1,fun i=>(fh i).choose.2.2.2,LD hS hl fun i j f hi hj=> ?_⟩
  obtain ⟨k0,u,k1,k2,k3⟩:=(fh i).choose_spec hi
  match j,hj with
  |0,hj=>cases hj;exact ⟨_,k0,rfl,.val _⟩
  |1,hj=>cases hj;exact ⟨u,k1,k2,k3⟩
end
end Go.Abs
end
section
set_option maxRecDepth 100000
namespace Go.Abs
open Go
def BL (x1 x2:Int) (i:Nat):Int:=[x1,x2,x2,x1].getD i 0
def BK (y1 y2:Int) (i:Nat):Int:=[y1,y1,y2,y2].getD i 0
def ti (n:Nat) (X Y:Nat->Int) (x1 x2 y1 y2:Int):Bool:=J7 n X Y 4 (BL x1 x2) (BK y1 y2)
def rMetS:fE:= .res fun l=>dB (ti (aN l) (aX l) (aY l) (aI l 1) (aI l 2) (aI l 3) (aI l 4))
def sX (b:dJ) (x1 y1 z1 x2 y2 z2:Int) (i:Nat):Bool:=decide (max (b.fl i) z1<min (fb b i) z2)&&ti (b.N i) (b.X i) (b.Y i) x1 x2 y1 y2
def jh (b:dJ) (x1 y1 z1 x2 y2 z2:Int):Bool:= !decide (∀i,i<b.nS->sX b x1 y1 z1 x2 y2 z2 i=false)
def xh (b:dJ):Prop:= ∀i,i<b.nS->gz (b.N i) (b.X i) (b.Y i)=0
theorem H7 {a b c d e f:Int} (h:mb a b c d e f=0):(-1000000<=a/\a<=1000000)/\(-1000000<=b/\b<=1000000)/\(-1000000<=c/\c<=1000000)/\(-1000000<=d/\d<=1000000)/\(-1000000<=e/\e<=1000000)/\(-1000000<=f/\f<=1000000)/\a<d/\b<e/\c<f:=by
 unfold mb at h
 split at h
 ·cases h
 ·rename_i h1
  split at h
  ·cases h
  ·rename_i h2
   have h3:=ca.1 h1
   simp only [ir,ai] at h3
   omega
theorem Lo {a b:Int} (ha: -1000000<=a/\a<=1000000) (hb: -1000000<=b/\b<=1000000):kM 4 (BL a b)/\kM 4 (BK a b):=by
 constructor
 all_goals
  intro k hk
  match k,hk with
  |0,_=>first|exact ha|exact hb
  |1,_=>first|exact ha|exact hb
  |2,_=>first|exact ha|exact hb
  |3,_=>first|exact ha|exact hb
theorem QX (x1 x2 y1 y2 x y:Int) (hx:x1<x2) (hy:y1<y2):kr 4 (BL x1 x2) (BK y1 y2) x y 4=decide (¬2*x1>x/\2*x2>x/\2*y1<y/\y<2*y2):=by
 have i0:ix 4 0=0:=rfl
 have i1:ix 4 1=1:=rfl
 have i2:ix 4 2=2:=rfl
 have i3:ix 4 3=3:=rfl
 have i4:ix 4 4=0:=rfl
 have b0:hasB 4 (BL x1 x2) (BK y1 y2) x y 0=false:=by
  unfold hasB lo hi
  rw [an]
  show ¬(min x1 x2=max x1 x2/\_)
  omega
 have b2:hasB 4 (BL x1 x2) (BK y1 y2) x y 2=false:=by
  unfold hasB lo hi
  rw [an]
  show ¬(min x2 x1=max x2 x1/\_)
  omega
 have b1:hasB 4 (BL x1 x2) (BK y1 y2) x y 1=decide (2*x2>x/\2*y1<y/\y<2*y2):=by
  unfold hasB lo hi
  rw [cH]
  show (min x2 x2=max x2 x2/\2*min x2 x2>x/\2*min y1 y2<y/\y<2*max y1 y2)↔_
  omega
 have b3:hasB 4 (BL x1 x2) (BK y1 y2) x y 3=decide (2*x1>x/\2*y1<y/\y<2*y2):=by
  unfold hasB lo hi
  rw [cH]
  show (min x1 x1=max x1 x1/\2*min x1 x1>x/\2*min y2 y1<y/\y<2*max y2 y1)↔_
  omega
 simp only [kr,b0,b1,b2,b3,ai]
 by_cases c1:2*x2>x/\2*y1<y/\y<2*y2
 ·by_cases c3:2*x1>x/\2*y1<y/\y<2*y2
  ·rw [ah c3,ae (by simp),ah c1,ae (by simp),bW,bg (by omega)];rfl
  ·rw [ae c3,ae (by simp),ah c1,ae (by simp),bW,bk (by omega)];rfl
 ·rw [ae (by omega),ae (by simp),ae c1,ae (by simp),bW,bg (by omega)]
theorem gr_in {n:Nat} {X:Nat->Int} {m:Nat} {X':Nat->Int} {k:Nat} (hk:k<m):X' k∈gr n X m X':=((iO (ff (N2 n m) (X2 X X') 2)).2 _).2 (o6 (i:=1) (k:=k) (by omega) hk)
theorem V4 {n:Nat} {X:Nat->Int} {m:Nat} {X':Nat->Int} {i:Nat} (hi:i+1<(gr n X m X').length):(gr n X m X').getD i 0<(gr n X m X').getD (i+1) 0:=pV (iO (ff (N2 n m) (X2 X X') 2)).1 (by omega) hi
theorem zd {n:Nat} {X:Nat->Int} {m:Nat} {X':Nat->Int} {i k:Nat} (hi:i+1<(gr n X m X').length) (hk:k<m):X' k<=(gr n X m X').getD i 0\/(gr n X m X').getD (i+1) 0<=X' k:=FC (iO (ff (N2 n m) (X2 X X') 2)).1 hi (gr_in hk)
def eJ (n:Nat) (X:Nat->Int) (x1 x2:Int):List Int:=gr n X 4 (BL x1 x2)
def fe (n:Nat) (Y:Nat->Int) (y1 y2:Int):List Int:=gr n Y 4 (BK y1 y2)
def EP (n:Nat) (X Y:Nat->Int) (x1 x2 y1 y2:Int) (c:Nat):Bool:=ER n X Y 4 (BL x1 x2) (BK y1 y2) c
theorem Mb (y:Bool) (n:Nat) (X Y:Nat->Int) (x1 x2 y1 y2:Int) (jH:n<=800):
 dm prog 129 [dB y,DV.di 2 [fun i=>DV.di (if i=0 then n else 4) [fun k=>DV.val (Value.int .i64 (if i=0 then X k else [x1,x2,x2,x1].getD k 0)),fun k=>DV.val (Value.int .i64 (if i=0 then Y k else [y1,y1,y2,y2].getD k 0))]]] (lF (if y=true then fe n Y y1 y2 else eJ n X x1 x2)):=by
 have h:=E3 y n X Y 4 (BL x1 x2) (BK y1 y2) jH (by omega)
 rw [<-y5] at h
 exact h
theorem TJ {n:Nat} {X Y:Nat->Int} (h:gz n X Y=0) {x1 x2 y1 y2:Int} (hx:x1<x2) (hy:y1<y2) {i k:Nat} (hi:i+1<(eJ n X x1 x2).length) (hk:k+1<(fe n Y y1 y2).length):
 EP n X Y x1 x2 y1 y2 (((fe n Y y1 y2).length - 1)*i+k)=(decide ((((eJ n X x1 x2).getD i 0>=x1/\(eJ n X x1 x2).getD (i+1) 0<=x2)/\(fe n Y y1 y2).getD k 0>=y1)/\(fe n Y y1 y2).getD (k+1) 0<=y2)&&xk n X Y ((eJ n X x1 x2).getD i 0+(eJ n X x1 x2).getD (i+1) 0) ((fe n Y y1 y2).getD k 0+(fe n Y y1 y2).getD (k+1) 0)):=by
 have e2:=Ao h (xB (n:=n) (X:=X) (m:=4) (X':=BL x1 x2) (i:=i) hi).1 (xB (n:=n) (X:=Y) (m:=4) (X':=BK y1 y2) (i:=k) hk).1
 have eZ:=zi n X Y 4 (BL x1 x2) (BK y1 y2) (i:=i) (k:=k) (by have:=hk;unfold fe at this;omega)
 have l1:=V4 (n:=n) (X:=X) (m:=4) (X':=BL x1 x2) (i:=i) hi
 have l2:=V4 (n:=n) (X:=Y) (m:=4) (X':=BK y1 y2) (i:=k) hk
 have s1:x1<=(gr n X 4 (BL x1 x2)).getD i 0\/(gr n X 4 (BL x1 x2)).getD (i+1) 0<=x1:=zd (k:=0) hi (by omega)
 have s2:x2<=(gr n X 4 (BL x1 x2)).getD i 0\/(gr n X 4 (BL x1 x2)).getD (i+1) 0<=x2:=zd (k:=1) hi (by omega)
 have s3:y1<=(gr n Y 4 (BK y1 y2)).getD k 0\/(gr n Y 4 (BK y1 y2)).getD (k+1) 0<=y1:=zd (k:=0) hk (by omega)
 have s4:y2<=(gr n Y 4 (BK y1 y2)).getD k 0\/(gr n Y 4 (BK y1 y2)).getD (k+1) 0<=y2:=zd (k:=2) hk (by omega)
 unfold EP ER eJ fe
 rw [eZ,e2,QX _ _ _ _ _ _ hx hy]
 dsimp only
 congr 1
 rw [cH]
 omega
noncomputable def FK (n:Nat) (X Y:Nat->Int) (x1 x2 y1 y2:Int):eH:={ dq:=[(1,[(12,.Ur)]),(2,[(3,.res fun _=>lF (eJ n X x1 x2)),(7,.res fun _=>lF (fe n Y y1 y2))]),(9,[(52,Ye)])],loops:=[(0,{ ι:=Nat,keep:=[0,1,2,3,4,12,13],boxes:=[],ts:=fun _ i=>[(14,dI (i:Int))],inv:=fun _ i=>i<=(eJ n X x1 x2).length - 1/\ ∀c,c<((fe n Y y1 y2).length - 1)*i->EP n X Y x1 x2 y1 y2 c=false,mu:=fun _ i=>(eJ n X x1 x2).length - i,rd:=fun _ σ=>(eA (σ.get 14)).toNat }),(2,{ ι:=Nat,keep:=[0,1,2,3,4,12,13,14],boxes:=[],ts:=fun _ k=>[(15,dI (k:Int))],inv:=fun σ k=>k<=(fe n Y y1 y2).length - 1/\ ∀c,c<((fe n Y y1 y2).length - 1)*(eA (σ.get 14)).toNat+k->EP n X Y x1 x2 y1 y2 c=false,mu:=fun _ k=>(fe n Y y1 y2).length - k,rd:=fun _ σ=>(eA (σ.get 15)).toNat })],dw:=[] }
theorem Qd (n:Nat) (X Y:Nat->Int) (x1 x2 y1 y2:Int) (h:gz n X Y=0) (hx:x1<x2) (hy:y1<y2) (a1: -1000000<=x1/\x1<=1000000) (a2: -1000000<=x2/\x2<=1000000) (a3: -1000000<=y1/\y1<=1000000) (a4: -1000000<=y2/\y2<=1000000):dm prog 133 [mh n X Y,dI x1,dI x2,dI y1,dI y2] (dB (ti n X Y x1 x2 y1 y2)):=by
 refine db dv (FK n X Y x1 x2 y1 y2) (V:=VT.da [(4:Nat)<=4] (VT.da [(2:Nat)<=2,dm prog 129 [DV.val (Value.bool false),DV.di 2 [fun (i:Nat)=>DV.di (if decide (i=0)=true then n else (4:Nat)) [fun (dS:Nat)=>DV.val (Value.int IntKind.i64 (if decide (i=0)=true then X dS else List.getD [x1,x2,x2,x1] dS (0:Int))),fun (dS:Nat)=>DV.val (Value.int IntKind.i64 (if decide (i=0)=true then Y dS else List.getD [y1,y1,y2,y2] dS (0:Int)))]]] (DV.di (List.length (eJ n X x1 x2)) [fun (i:Nat)=>DV.val (Value.int IntKind.i64 (List.getD (eJ n X x1 x2) i (0:Int)))]),(2:Nat)<=2,dm prog 129 [DV.val (Value.bool true),DV.di 2 [fun (i:Nat)=>DV.di (if decide (i=0)=true then n else (4:Nat)) [fun (dS:Nat)=>DV.val (Value.int IntKind.i64 (if decide (i=0)=true then X dS else List.getD [x1,x2,x2,x1] dS (0:Int))),fun (dS:Nat)=>DV.val (Value.int IntKind.i64 (if decide (i=0)=true then Y dS else List.getD [y1,y1,y2,y2] dS (0:Int)))]]] (DV.di (List.length (fe n Y y1 y2)) [fun (i:Nat)=>DV.val (Value.int IntKind.i64 (List.getD (fe n Y y1 y2) i (0:Int)))])] (VT.loop Nat (fun (a:Nat)=>a<=List.length (eJ n X x1 x2) - 1/\ ∀(c:Nat),c<(List.length (fe n Y y1 y2) - 1)*a->EP n X Y x1 x2 y1 y2 c=false) (0:Int).toNat [(0:Int)=(↑(0:Int).toNat:Int),n=n,∀i<n,X i=X i,∀i<n,Y i=Y i,x1=x1,x2=x2,y1=y1,y2=y2,List.length (eJ n X x1 x2)=List.length (eJ n X x1 x2),∀i<List.length (eJ n X x1 x2),List.getD (eJ n X x1 x2) i (0:Int)=List.getD (eJ n X x1 x2) i (0:Int),List.length (fe n Y y1 y2)=List.length (fe n Y y1 y2),∀i<List.length (fe n Y y1 y2),List.getD (fe n Y y1 y2) i (0:Int)=List.getD (fe n Y y1 y2) i (0:Int)] fun (i:Nat)=>VT.da [cZ ((i:Int)+(1:
  Int))] (VT.ite (decide ((i:Int)+1<(↑(List.length (eJ n X x1 x2)):Int))) (VT.loop Nat (fun (a:Nat)=>a<=List.length (fe n Y y1 y2) - 1/\ ∀(c:Nat),c<(List.length (fe n Y y1 y2) - 1)*Int.toNat (i:Int)+a->EP n X Y x1 x2 y1 y2 c=false) (0:Int).toNat [(0:Int)=(↑(0:Int).toNat:Int),n=n,∀i<n,X i=X i,∀i<n,Y i=Y i,x1=x1,x2=x2,y1=y1,y2=y2,List.length (eJ n X x1 x2)=List.length (eJ n X x1 x2),∀i<List.length (eJ n X x1 x2),List.getD (eJ n X x1 x2) i (0:Int)=List.getD (eJ n X x1 x2) i (0:Int),List.length (fe n Y y1 y2)=List.length (fe n Y y1 y2),∀i<List.length (fe n Y y1 y2),List.getD (fe n Y y1 y2) i (0:Int)=List.getD (fe n Y y1 y2) i (0:Int),(i:Int)=(i:Int)] fun (dS:Nat)=>VT.da [cZ ((dS:Int)+1)] (VT.ite (decide ((dS:Int)+1<(↑(List.length (fe n Y y1 y2)):Int))) (VT.da [(0:Int)<=(i:Int)/\(i:Int)<(↑(List.length (eJ n X x1 x2)):Int),ri (decide (List.getD (eJ n X x1 x2) (i:Int).toNat (0:Int)>=x1)=true),decide (List.getD (eJ n X x1 x2) (i:Int).toNat (0:Int)>=x1)=true->cZ ((i:Int)+1),ri (decide (List.getD (eJ n X x1 x2) (i:Int).toNat (0:Int)>=x1)=true),ri (decide (List.getD (eJ n X x1 x2) (i:Int).toNat (0:Int)>=x1)=true),decide (List.getD (eJ n X x1 x2) (i:Int).toNat (0:Int)>=x1)=true->(0:Int)<=(i:Int)+1/\(i:Int)+1<(↑(List.length (eJ n X x1 x2)):Int),ri (decide (List.getD (eJ n X x1 x2) (i:Int).toNat (0:Int)>=x1)=true),ri (decide (List.getD (eJ n X x1 x2) (i:Int).toNat (0:Int)>=x1)=true),ri (decide (List.getD (eJ n X x1 x2) (i:Int).toNat (0:Int)>=x1)=true),ri (decide (List.getD (eJ n X x1 x2) (i:Int).toNat (0:Int)>=x1)=true),ri ((if decide (List.getD (eJ n X x1 x2) (i:Int).toNat (0:Int)>=x1)=true then decide (List.getD (eJ n X x1 x2) ((i:Int)+1).toNat (0:Int)<=x2) else false)=true),ri ((if decide (List.getD (eJ n X x1 x2) (i:Int).toNat (0:Int)>=x1)=true then decide (List.getD (eJ n X x1 x2) ((i:Int)+1).toNat (0:Int)<=x2) else false)=true),(if decide (List.getD (eJ n X x1 x2) (i:Int).toNat (0:Int)>=x1)=true then decide (List.getD (eJ n X x1 x2) ((i:Int)+1).toNat (0:Int)<=x2) else false)=true->(0:Int)<=(dS:Int)/\(dS:Int)<(↑(List.length (fe n Y y1 y2)):Int),ri ((if decide (List.getD (eJ n X x1 x2) (i:Int).toNat (0:Int)>=x1)=true then decide (List.getD (eJ n X x1 x2) ((i:Int)+1).toNat (0:Int)<=x2) else false)=true),ri ((if decide (List.getD (eJ n X x1 x2) (i:Int).toNat (0:Int)>=x1)=true then decide (List.getD (eJ n X x1 x2) ((i:Int)+1).toNat (0:Int)<=x2) else false)=true),ri ((if decide (List.getD (eJ n X x1 x2) (i:Int).toNat (0:Int)>=x1)=true then decide (List.getD (eJ n X x1 x2) ((i:Int)+1).toNat (0:Int)<=x2) else false)=true),ri ((if decide (List.getD (eJ n X x1 x2) (i:Int).toNat (0:Int)>=x1)=true then decide (List.getD (eJ n X x1 x2) ((i:Int)+1).toNat (0:Int)<=x2) else false)=true),ri ((if (if decide (List.getD (eJ n X x1 x2) (i:Int).toNat (0:Int)>=x1)=true then decide (List.getD (eJ n X x1 x2) ((i:Int)+1).toNat (0:Int)<=x2) else false)=true then decide (List.getD (fe n Y y1 y2) (dS:Int).toNat (0:Int)>=y1) else false)=true),(if (if decide (List.getD (eJ n X x1 x2) (i:Int).toNat (0:Int)>=x1)=true then decide (List.getD (eJ n X x1 x2) ((i:Int)+1).toNat (0:Int)<=x2) else false)=true then decide (List.getD
  (fe n Y y1 y2) (dS:Int).toNat (0:Int)>=y1) else false)=true->cZ ((dS:Int)+1),ri ((if (if decide (List.getD (eJ n X x1 x2) (i:Int).toNat (0:Int)>=x1)=true then decide (List.getD (eJ n X x1 x2) ((i:Int)+1).toNat (0:Int)<=x2) else false)=true then decide (List.getD (fe n Y y1 y2) (dS:Int).toNat (0:Int)>=y1) else false)=true),ri ((if (if decide (List.getD (eJ n X x1 x2) (i:Int).toNat (0:Int)>=x1)=true then decide (List.getD (eJ n X x1 x2) ((i:Int)+1).toNat (0:Int)<=x2) else false)=true then decide (List.getD (fe n Y y1 y2) (dS:Int).toNat (0:Int)>=y1) else false)=true),(if (if decide (List.getD (eJ n X x1 x2) (i:Int).toNat (0:Int)>=x1)=true then decide (List.getD (eJ n X x1 x2) ((i:Int)+1).toNat (0:Int)<=x2) else false)=true then decide (List.getD (fe n Y y1 y2) (dS:Int).toNat (0:Int)>=y1) else false)=true->(0:Int)<=(dS:Int)+1/\(dS:Int)+1<(↑(List.length (fe n Y y1 y2)):Int),ri ((if (if decide (List.getD (eJ n X x1 x2) (i:Int).toNat (0:Int)>=x1)=true then decide (List.getD (eJ n X x1 x2) ((i:Int)+1).toNat (0:Int)<=x2) else false)=true then decide (List.getD (fe n Y y1 y2) (dS:Int).toNat (0:Int)>=y1) else false)=true),ri ((if (if decide (List.getD (eJ n X x1 x2) (i:Int).toNat (0:Int)>=x1)=true then decide (List.getD (eJ n X x1 x2) ((i:Int)+1).toNat (0:Int)<=x2) else false)=true then decide (List.getD (fe n Y y1 y2) (dS:Int).toNat (0:Int)>=y1) else false)=true),ri ((if (if decide (List.getD (eJ n X x1 x2) (i:Int).toNat (0:Int)>=x1)=true then decide (List.getD (eJ n X x1 x2) ((i:Int)+1).toNat (0:Int)<=x2) else false)=true then decide (List.getD (fe n Y y1 y2) (dS:Int).toNat (0:Int)>=y1) else false)=true),ri ((if (if decide (List.getD (eJ n X x1 x2) (i:Int).toNat (0:Int)>=x1)=true then decide (List.getD (eJ n X x1 x2) ((i:Int)+1).toNat (0:Int)<=x2) else false)=true then decide (List.getD (fe n Y y1 y2) (dS:Int).toNat (0:Int)>=y1) else false)=true),ri ((if (if (if decide (List.getD (eJ n X x1 x2) (i:Int).toNat (0:Int)>=x1)=true then decide (List.getD (eJ n X x1 x2) ((i:Int)+1).toNat (0:Int)<=x2) else false)=true then decide (List.getD (fe n Y y1 y2) (dS:Int).toNat (0:Int)>=y1) else false)=true then decide (List.getD (fe n Y y1 y2) ((dS:Int)+1).toNat (0:Int)<=y2) else false)=true),ri ((if (if (if decide (List.getD (eJ n X x1 x2) (i:Int).toNat (0:Int)>=x1)=true then decide (List.getD (eJ n X x1 x2) ((i:Int)+1).toNat (0:Int)<=x2) else false)=true then decide (List.getD (fe n Y y1 y2) (dS:Int).toNat (0:Int)>=y1) else false)=true then decide (List.getD (fe n Y y1 y2) ((dS:Int)+1).toNat (0:Int)<=y2) else false)=true),(if (if (if decide (List.getD (eJ n X x1 x2) (i:Int).toNat (0:Int)>=x1)=true then decide (List.getD (eJ n X x1 x2) ((i:Int)+1).toNat (0:Int)<=x2) else false)=true then decide
  (List.getD (fe n Y y1 y2) (dS:Int).toNat (0:Int)>=y1) else false)=true then decide (List.getD (fe n Y y1 y2) ((dS:Int)+1).toNat (0:Int)<=y2) else false)=true->(0:Int)<=(i:Int)/\(i:Int)<(↑(List.length (eJ n X x1 x2)):Int),ri ((if (if (if decide (List.getD (eJ n X x1 x2) (i:Int).toNat (0:Int)>=x1)=true then decide (List.getD (eJ n X x1 x2) ((i:Int)+1).toNat (0:Int)<=x2) else false)=true then decide (List.getD (fe n Y y1 y2) (dS:Int).toNat (0:Int)>=y1) else false)=true then decide (List.getD (fe n Y y1 y2) ((dS:Int)+1).toNat (0:Int)<=y2) else false)=true),ri ((if (if (if decide (List.getD (eJ n X x1 x2) (i:Int).toNat (0:Int)>=x1)=true then decide (List.getD (eJ n X x1 x2) ((i:Int)+1).toNat (0:Int)<=x2) else false)=true then decide (List.getD (fe n Y y1 y2) (dS:Int).toNat (0:Int)>=y1) else false)=true then decide (List.getD (fe n Y y1 y2) ((dS:Int)+1).toNat (0:Int)<=y2) else false)=true),(if (if (if decide (List.getD (eJ n X x1 x2)
  (i:Int).toNat (0:Int)>=x1)=true then decide (List.getD (eJ n X x1 x2) ((i:Int)+1).toNat (0:Int)<=x2) else false)=true then decide (List.getD (fe n Y y1 y2) (dS:Int).toNat (0:Int)>=y1) else false)=true then decide (List.getD (fe n Y y1 y2) ((dS:Int)+1).toNat (0:Int)<=y2) else false)=true->cZ ((i:Int)+1),ri ((if (if (if decide (List.getD (eJ n X x1 x2) (i:Int).toNat (0:Int)>=x1)=true then decide (List.getD (eJ n X x1 x2) ((i:Int)+1).toNat (0:Int)<=x2) else false)=true then decide (List.getD (fe n Y y1 y2) (dS:Int).toNat (0:Int)>=y1) else false)=true then decide (List.getD (fe n Y y1 y2) ((dS:Int)+1).toNat (0:Int)<=y2) else false)=true),ri ((if (if (if decide (List.getD (eJ n X x1 x2) (i:Int).toNat (0:Int)>=x1)=true then decide (List.getD (eJ n X x1 x2) ((i:Int)+1).toNat (0:Int)<=x2) else false)=true then decide (List.getD (fe n Y y1 y2) (dS:Int).toNat (0:Int)>=y1) else false)=true then decide (List.getD (fe n Y y1 y2) ((dS:Int)+1).toNat (0:Int)<=y2) else false)=true),(if (if (if decide (List.getD (eJ n X x1 x2) (i:Int).toNat (0:Int)>=x1)=true then decide (List.getD (eJ n X x1 x2) ((i:Int)+1).toNat (0:Int)<=x2) else false)=true then decide (List.getD (fe n Y y1 y2) (dS:Int).toNat (0:Int)>=y1) else false)=true then decide (List.getD (fe n Y y1 y2) ((dS:Int)+1).toNat (0:Int)<=y2) else false)=true->(0:Int)<=(i:Int)+1/\(i:Int)+1<(↑(List.length (eJ n X x1 x2)):Int),ri ((if (if (if decide (List.getD (eJ n X x1 x2) (i:Int).toNat (0:Int)>=x1)=true then decide (List.getD (eJ n X x1 x2) ((i:Int)+1).toNat (0:Int)<=x2) else false)=true then decide (List.getD (fe n Y y1 y2) (dS:Int).toNat (0:Int)>=y1) else false)=true then decide (List.getD (fe n Y y1 y2) ((dS:Int)+1).toNat (0:Int)<=y2) else false)=true),ri ((if (if (if decide (List.getD (eJ n X x1 x2) (i:Int).toNat (0:Int)>=x1)=true then decide (List.getD (eJ n X x1 x2) ((i:Int)+1).toNat (0:Int)<=x2) else false)=true then decide (List.getD (fe n Y y1 y2) (dS:Int).toNat (0:Int)>=y1) else false)=true then decide (List.getD (fe n Y y1 y2) ((dS:Int)+1).toNat (0:Int)<=y2) else false)=true),ri ((if (if (if decide (List.getD (eJ n X x1 x2) (i:Int).toNat (0:Int)>=x1)=true then decide (List.getD (eJ n X x1 x2) ((i:Int)+1).toNat (0:Int)<=x2) else false)=true then decide (List.getD (fe n Y y1 y2) (dS:Int).toNat (0:Int)>=y1) else false)=true then decide (List.getD (fe n Y y1 y2) ((dS:Int)+1).toNat (0:Int)<=y2) else false)=true),(if (if (if decide (List.getD (eJ n X x1 x2) (i:Int).toNat (0:Int)>=x1)=true then decide (List.getD (eJ n X x1 x2) ((i:Int)+1).toNat (0:Int)<=x2) else false)=true then decide (List.getD (fe n Y y1 y2) (dS:Int).toNat (0:Int)>=y1) else false)=true then decide (List.getD (fe n Y y1 y2) ((dS:Int)+1).toNat (0:Int)<=y2) else false)=true->(0:Int)<=(dS:Int)/\(dS:Int)<(↑(List.length (fe n Y y1 y2)):Int),ri ((if (if (if decide (List.getD (eJ n X x1 x2) (i:Int).toNat (0:Int)>=x1)=true then decide (List.getD (eJ n X x1 x2) ((i:Int)+1).toNat (0:Int)<=x2) else false)=true then decide (List.getD (fe n Y y1 y2) (dS:Int).toNat (0:Int)>=y1) else false)=true then decide (List.getD (fe n Y y1 y2) ((dS:Int)+1).toNat (0:Int)<=y2) else false)=true),ri ((if (if (if decide (List.getD (eJ n X x1 x2) (i:Int).toNat (0:Int)>=x1)=true then decide (List.getD (eJ n X x1 x2) ((i:Int)+1).toNat (0:Int)<=x2) else false)=true then decide (List.getD (fe n Y y1 y2) (dS:Int).toNat (0:Int)>=y1) else false)=true then decide (List.getD (fe n Y y1 y2) ((dS:Int)+1).toNat (0:Int)<=y2) else false)=true),(if (if (if decide (List.getD (eJ n X x1 x2) (i:Int).toNat (0:Int)>=x1)=true then decide (List.getD (eJ n X x1 x2) ((i:Int)+1).toNat (0:Int)<=x2) else false)=true then decide (List.getD (fe n Y y1 y2) (dS:Int).toNat (0:Int)>=y1) else false)=true then decide (List.getD (fe n Y y1 y2) ((dS:Int)+1).toNat (0:Int)<=y2) else false)=true->cZ ((dS:Int)+1),ri ((if (if (if decide (List.getD (eJ n X x1 x2) (i:Int).toNat (0:Int)>=x1)=true then decide (List.getD (eJ n X x1 x2) ((i:Int)+1).toNat (0:Int)<=x2) else false)=true then decide (List.getD (fe n Y y1 y2) (dS:Int).toNat (0:Int)>=y1) else false)=true then decide (List.getD (fe n Y y1 y2) ((dS:Int)+1).toNat (0:Int)<=y2) else false)=true),ri ((if (if (if decide (List.getD (eJ n X x1 x2) (i:Int).toNat (0:Int)>=x1)=true then decide (List.getD (eJ n X x1 x2) ((i:Int)+1).toNat (0:Int)<=x2) else false)=true then decide (List.getD (fe n Y y1 y2) (dS:Int).toNat (0:Int)>=y1) else false)=true then decide (List.getD (fe n Y y1 y2) ((dS:Int)+1).toNat (0:Int)<=y2) else false)=true),(if (if (if decide (List.getD (eJ n X x1 x2) (i:Int).toNat (0:Int)>=x1)=true then decide (List.getD (eJ n X x1 x2) ((i:Int)+1).toNat (0:Int)<=x2) else false)=true then decide (List.getD (fe n Y y1 y2) (dS:Int).toNat (0:Int)>=y1) else false)=true then decide (List.getD (fe n Y y1 y2) ((dS:Int)+1).toNat (0:Int)<=y2) else false)=true->(0:Int)<=(dS:Int)+1/\(dS:Int)+1<(↑(List.length (fe n Y y1 y2)):Int),ri ((if (if (if decide (List.getD (eJ n X x1 x2) (i:Int).toNat (0:Int)>=x1)=true then decide (List.getD (eJ n X x1 x2) ((i:Int)+1).toNat (0:Int)<=x2) else false)=true then decide (List.getD (fe n Y y1 y2) (dS:Int).toNat (0:Int)>=y1) else false)=true then decide (List.getD (fe n Y y1 y2) ((dS:Int)+1).toNat (0:Int)<=y2) else false)=true),ri ((if (if (if decide (List.getD (eJ n X x1 x2) (i:Int).toNat (0:Int)>=x1)=true then decide (List.getD (eJ n X x1 x2) ((i:Int)+1).toNat (0:Int)<=x2) else false)=true then decide (List.getD (fe n Y y1 y2) (dS:Int).toNat (0:Int)>=y1) else false)=true then decide (List.getD (fe n Y y1 y2) ((dS:Int)+1).toNat (0:Int)<=y2) else false)=true),ri ((if (if (if decide (List.getD (eJ n X x1 x2) (i:Int).toNat (0:Int)>=x1)=true then decide (List.getD (eJ n X x1 x2) ((i:Int)+1).toNat (0:Int)<=x2) else false)=true then decide (List.getD (fe n Y y1 y2) (dS:Int).toNat (0:Int)>=y1) else false)=true then decide (List.getD (fe n Y y1 y2) ((dS:Int)+1).toNat (0:Int)<=y2) else false)=true),ri ((if (if (if decide (List.getD (eJ n X x1 x2) (i:Int).toNat (0:Int)>=x1)=true then decide (List.getD (eJ n X x1 x2) ((i:Int)+1).toNat (0:Int)<=x2) else false)=true then decide (List.getD (fe n Y y1 y2) (dS:Int).toNat (0:Int)>=y1) else false)=true then decide (List.getD (fe n Y y1 y2) ((dS:Int)+1).toNat (0:Int)<=y2) else false)=true),ri ((if (if (if decide (List.getD (eJ n X x1 x2) (i:Int).toNat (0:Int)>=x1)=true then decide (List.getD (eJ n X x1 x2) ((i:Int)+1).toNat (0:Int)<=x2) else false)=true then decide (List.getD (fe n Y y1 y2) (dS:Int).toNat (0:Int)>=y1) else false)=true then decide (List.getD (fe n Y y1 y2) ((dS:Int)+1).toNat (0:Int)<=y2) else false)=true),ri ((if (if (if decide (List.getD (eJ n X x1 x2) (i:Int).toNat (0:Int)>=x1)=true then decide (List.getD (eJ n X x1 x2) ((i:Int)+1).toNat (0:Int)<=x2) else false)=true then decide (List.getD (fe n Y y1 y2) (dS:Int).toNat (0:Int)>=y1) else false)=true then decide (List.getD (fe n Y y1 y2) ((dS:Int)+1).toNat (0:Int)<=y2) else false)=true),(if (if (if decide (List.getD (eJ n X x1 x2) (i:Int).toNat (0:Int)>=x1)=true then decide (List.getD (eJ n X x1 x2) ((i:Int)+1).toNat (0:Int)<=x2) else false)=true then decide (List.getD (fe n Y y1 y2) (dS:Int).toNat (0:Int)>=y1) else false)=true then decide (List.getD (fe n Y y1 y2) ((dS:Int)+1).toNat (0:Int)<=y2) else false)=true->dm prog 130 [DV.di n [fun (i:Nat)=>DV.val (Value.int IntKind.i64 (X i)),fun (i:Nat)=>DV.val (Value.int IntKind.i64 (Y i))],DV.val (Value.int IntKind.i64 (List.getD (eJ n X x1 x2) (i:Int).toNat (0:Int))),DV.val (Value.int IntKind.i64 (List.getD (eJ n X x1 x2) ((i:Int)+1).toNat (0:Int))),DV.val (Value.int IntKind.i64 (List.getD (fe n Y y1 y2) (dS:Int).toNat (0:Int))),DV.val (Value.int IntKind.i64 (List.getD (fe n Y y1 y2) ((dS:Int)+1).toNat (0:Int)))] (DV.val (Value.bool (xk n X Y (List.getD (eJ n X x1 x2) (i:Int).toNat (0:Int)+List.getD (eJ n X x1 x2)
  ((i:Int)+1).toNat (0:Int)) (List.getD (fe n Y y1 y2) (dS:Int).toNat (0:Int)+List.getD (fe n Y y1 y2) ((dS:Int)+1).toNat (0:Int))))),ri ((if (if (if decide (List.getD (eJ n X x1 x2) (i:Int).toNat (0:Int)>=x1)=true then decide (List.getD (eJ n X x1 x2) ((i:Int)+1).toNat (0:Int)<=x2) else false)=true then decide (List.getD (fe n Y y1 y2) (dS:Int).toNat (0:Int)>=y1) else false)=true then decide (List.getD (fe n Y y1 y2) ((dS:Int)+1).toNat (0:Int)<=y2) else false)=true)] (VT.ite (if (if (if (if decide (List.getD (eJ n X x1 x2) (i:Int).toNat (0:Int)>=x1)=true then decide (List.getD (eJ n X x1 x2) ((i:Int)+1).toNat (0:Int)<=x2) else false)=true then decide (List.getD (fe n Y y1 y2) (dS:Int).toNat (0:Int)>=y1) else false)=true then decide (List.getD (fe n Y y1 y2) ((dS:Int)+1).toNat (0:Int)<=y2) else false)=true then xk n X Y (List.getD (eJ n X x1 x2) (i:Int).toNat (0:Int)+List.getD (eJ n X x1 x2) ((i:Int)+1).toNat (0:Int)) (List.getD (fe n Y y1 y2) (dS:Int).toNat (0:Int)+List.getD (fe n Y y1 y2) ((dS:Int)+1).toNat (0:Int)) else false) (VT.done [true=ti n X Y x1 x2 y1 y2]) (VT.da [cZ ((dS:Int)+1)] (VT.done [(dS:Int)+1=(↑((dS:Int)+1).toNat:Int),n=n,∀i<n,X i=X i,∀i<n,Y i=Y i,
  x1=x1,x2=x2,y1=y1,y2=y2,List.length (eJ n X x1 x2)=List.length (eJ n X x1 x2),∀i<List.length (eJ n X x1 x2),List.getD (eJ n X x1 x2) i (0:Int)=List.getD (eJ n X x1 x2) i (0:Int),List.length (fe n Y y1 y2)=List.length (fe n Y y1 y2),∀i<List.length (fe n Y y1 y2),List.getD (fe n Y y1 y2) i (0:Int)=List.getD (fe n Y y1 y2) i (0:Int),(i:Int)=(i:Int),Int.toNat ((dS:Int)+1)<=List.length (fe n Y y1 y2) - 1/\ ∀(c:Nat),c<(List.length (fe n Y y1 y2) - 1)*Int.toNat (i:Int)+((dS:Int)+1).toNat->EP n X Y x1 x2 y1 y2 c=false,List.length (fe n Y y1 y2) - ((dS:Int)+1).toNat<List.length (fe n Y y1 y2) - dS])))) (VT.da [cZ ((i:Int)+1)] (VT.done [(i:Int)+1=(↑((i:Int)+1).toNat:Int),n=n,∀i<n,X i=X i,∀i<n,Y i=Y i,x1=x1,x2=x2,y1=y1,y2=y2,List.length (eJ n X x1 x2)=List.length (eJ n X x1 x2),∀i<List.length (eJ n X x1 x2),List.getD (eJ n X x1 x2) i (0:Int)=List.getD (eJ n X x1 x2) i (0:Int),List.length (fe n Y y1 y2)=List.length (fe n Y y1 y2),∀i<List.length (fe n Y y1 y2),List.getD (fe n Y y1 y2) i (0:Int)=List.getD (fe n Y y1 y2) i (0:Int),Int.toNat ((i:Int)+1)<=List.length (eJ n X x1 x2) - 1/\ ∀(c:Nat),c<(List.length (fe n Y y1 y2) - 1)*Int.toNat ((i:Int)+1)->EP n X Y x1 x2 y1 y2 c=false,List.length (eJ n X x1 x2) - ((i:Int)+1).toNat<List.length (eJ n X x1 x2) - i])))) (VT.done [false=ti n X Y x1 x2 y1 y2]))))) (by kernel_rfl) ?_
 simp only [VT.holds,dt,Sq]
 have hn:=fp h
 obtain ⟨hX,hY⟩:=eB h
 have lx:(eJ n X x1 x2).length<=n+4:=xA n X 4 _
 have ly:(fe n Y y1 y2).length<=n+4:=xA n Y 4 _
 have bx_: ∀i,i<(eJ n X x1 x2).length-> -1000000<=(eJ n X x1 x2).getD i 0/\(eJ n X x1 x2).getD i 0<=1000000:=xz n X 4 _ 1000000 hX (Lo a1 a2).1
 have Ih: ∀i,i<(fe n Y y1 y2).length-> -1000000<=(fe n Y y1 y2).getD i 0/\(fe n Y y1 y2).getD i 0<=1000000:=xz n Y 4 _ 1000000 hY (Lo a3 a4).2
 have hN:vY n X Y 4 (BL x1 x2) (BK y1 y2)=((fe n Y y1 y2).length - 1)*((eJ n X x1 x2).length - 1):=rfl
 have hmt:ti n X Y x1 x2 y1 y2= !decide (∀k,k<((fe n Y y1 y2).length - 1)*((eJ n X x1 x2).length - 1)->EP n X Y x1 x2 y1 y2 k=false):=rfl
 refine ⟨af _,⟨af _,Mb false n X Y x1 x2 y1 y2 (by omega),af _,Mb true n X Y x1 x2 y1 y2 (by omega)⟩,rfl,⟨ao _,fun c hc=>absurd hc (by simp)⟩,fun i ⟨hi,hb⟩=>⟨by unfold cZ;omega,fun dK=>⟨rfl,⟨ao _,hb⟩,fun k ⟨hk,hU⟩=>⟨by unfold cZ;omega,fun xw=> ?_,fun iy=> ?_⟩⟩,fun iy=> ?_⟩⟩
 ·have c1:=bx_ i (by omega)
  have c2:=bx_ (i+1) (by omega)
  have c3:=Ih k (by omega)
  have c4:=Ih (k+1) (by omega)
  have hK:=TJ h hx hy (i:=i) (k:=k) (by omega) (by omega)
  have L8:((fe n Y y1 y2).length - 1)*i+k<((fe n Y y1 y2).length - 1)*((eJ n X x1 x2).length - 1):=vX (by omega) (by omega)
  have m2:=An n X Y _ _ _ _ (by omega) (by omega) hX hY c1 c2 c3 c4
  have q1:cZ ((i:Int)+1):=by unfold cZ;omega
  have q2:cZ ((k:Int)+1):=by unfold cZ;omega
  have q3:(0:Int)<=i/\(i:Int)<((eJ n X x1 x2).length:Nat):=by omega
  have q4:(0:Int)<=(i:Int)+1/\(i:Int)+1<((eJ n X x1 x2).length:Nat):=by omega
  have q5:(0:Int)<=k/\(k:Int)<((fe n Y y1 y2).length:Nat):=by omega
  have q6:(0:Int)<=(k:Int)+1/\(k:Int)+1<((fe n Y y1 y2).length:Nat):=by omega
  refine ⟨⟨q3,fun _=>q1,fun _=>q4,fun _=>q5,fun _=>q2,fun _=>q6,fun _=>q3,fun _=>q1,fun _=>q4,fun _=>q5,fun _=>q2,fun _=>q6,fun _=>m2⟩,fun hx=> ?_,fun hx=>⟨by unfold cZ;omega,by omega,⟨by omega,fun c hc=> ?_⟩,by omega⟩⟩
  ·rw [bW,hmt,bA,an]
   intro fh
   have:=fh _ L8
   rw [hK,bk hx.1,hx.2] at this
   cases this
  ·rcases aU c (((fe n Y y1 y2).length - 1)*i+k) with h5|h5
   ·exact hU c h5
   ·rw [show c=((fe n Y y1 y2).length - 1)*i+k by omega,hK]
    generalize xk n X Y _ _=p at*
    by_cases hC:(((eJ n X x1 x2).getD i 0>=x1/\(eJ n X x1 x2).getD (i+1) 0<=x2)/\(fe n Y y1 y2).getD k 0>=y1)/\(fe n Y y1 y2).getD (k+1) 0<=y2
    ·rw [hx hC,Bool.and_false]
    ·rw [bg hC];rfl
 ·refine ⟨by unfold cZ;omega,by omega,⟨by omega,fun c hc=>hU c ?_⟩,by omega⟩
  have kZ:k=(fe n Y y1 y2).length - 1:=by omega
  rw [Nat.mul_add,Nat.mul_one] at hc
  omega
 ·have pH:i=(eJ n X x1 x2).length - 1:=by omega
  rw [bW,hmt,bK,ai]
  intro c hc
  exact hb c (by rw [pH];exact hc)
noncomputable def FM (b:dJ) (x1 y1 z1 x2 y2 z2:Int):eH:={ dq:=[(1,[(20,.Ur)]),(5,[(7,Tw b),(16,.res fun l=>dB (ti (aN l) (aX l) (aY l) x1 x2 y1 y2))])],loops:=[(0,{ ι:=Nat,keep:=[2,3,5,30,31],boxes:=[2,3],ts:=fun _ i=>[(32,dI (i:Int))],inv:=fun _ i=>i<=b.nS/\ ∀j,j<i->sX b x1 y1 z1 x2 y2 z2 j=false,mu:=fun _ i=>b.nS - i,rd:=fun _ σ=>(eA (σ.get 32)).toNat })],dw:=[] }
theorem Ik (b:dJ) (x1 y1 z1 x2 y2 z2:Int) (hS:b.nS<=1000) (ho:xh b) (hc:mb x1 y1 z1 x2 y2 z2=0):dm prog 43 [jI b,bx x1 y1 z1 x2 y2 z2] (dB (jh b x1 y1 z1 x2 y2 z2)):=by
 refine db dv (FM b x1 y1 z1 x2 y2 z2) (V:=VT.da [(4:Nat)<=4] (VT.loop Nat (fun (a:Nat)=>a<=b.nS/\ ∀(j:Nat),j<a->sX b x1 y1 z1 x2 y2 z2 j=false) (0:Int).toNat [(0:Int)=(↑(0:Int).toNat:Int),(4:Nat)=4,∀i<4,List.getD [x1,x2,x2,x1] i (0:Int)=List.getD [x1,x2,x2,x1] i (0:Int),∀i<4,List.getD [y1,y1,y2,y2] i (0:Int)=List.getD [y1,y1,y2,y2] i (0:Int),b.nS=b.nS,∀i<b.nS,b.fl i=b.fl i,∀i<b.nS,b.N i=b.N i/\(∀dS<b.N i,b.X i dS=b.X i dS)/\ ∀dS<b.N i,b.Y i dS=b.Y i dS,(b.nS:Int)=(b.nS:Int),b.name=b.name,b.nS=b.nS,∀i<b.nS,b.fl i=b.fl i,∀i<b.nS,b.N i=b.N i/\(∀dS<b.N i,b.X i dS=b.X i dS)/\ ∀dS<b.N i,b.Y i dS=b.Y i dS,b.dr=b.dr,b.nO=b.nO,∀i<b.nO,b.O i 0=b.O i 0,∀i<b.nO,b.O i 1=b.O i 1,∀i<b.nO,b.O i 2=b.O i 2,∀i<b.nO,b.O i 3=b.O i 3,∀i<b.nO,b.O i 4=b.O i 4,∀i<b.nO,b.O i 5=b.O i 5,b.nB=b.nB,∀i<b.nB,b.B i 0=b.B i 0,∀i<b.nB,b.B i 1=b.B i 1,∀i<b.nB,b.B i 2=b.B i 2,∀i<b.nB,b.B i 3=b.B i 3,∀i<b.nB,b.B i 4=b.B i 4,∀i<b.nB,b.B i 5=b.B i 5,x1=x1,y1=y1,z1=z1,x2=x2,y2=y2,z2=z2] fun (i:Nat)=>VT.ite (decide ((i:Int)<(b.nS:Int))) (VT.da [(0:Int)<=(i:Int)/\(i:Int)<(b.nS:Int)] (VT.da [dm prog 107 [DV.agg [DV.val (Value.string b.name),DV.di b.nS [fun (i:Nat)=>DV.val (Value.int IntKind.i64 (b.fl i)),fun (i:Nat)=>DV.di (b.N i)
  [fun (dS:Nat)=>DV.val (Value.int IntKind.i64 (b.X i dS)),fun (dS:Nat)=>DV.val (Value.int IntKind.i64 (b.Y i dS))]],DV.val (Value.int IntKind.i64 b.dr),DV.di b.nO [fun (i:Nat)=>DV.val (Value.int IntKind.i64 (b.O i 0)),fun (i:Nat)=>DV.val (Value.int IntKind.i64 (b.O i 1)),fun (i:Nat)=>DV.val (Value.int IntKind.i64 (b.O i 2)),fun (i:Nat)=>DV.val (Value.int IntKind.i64 (b.O i 3)),fun (i:Nat)=>DV.val (Value.int IntKind.i64 (b.O i 4)),fun (i:Nat)=>DV.val (Value.int IntKind.i64 (b.O i 5))],DV.di b.nB [fun (i:Nat)=>DV.val (Value.int IntKind.i64 (b.B i 0)),fun (i:Nat)=>DV.val (Value.int IntKind.i64 (b.B i 1)),fun (i:Nat)=>DV.val (Value.int IntKind.i64 (b.B i 2)),fun (i:Nat)=>DV.val (Value.int IntKind.i64 (b.B i 3)),fun (i:Nat)=>DV.val (Value.int IntKind.i64 (b.B i 4)),fun (i:Nat)=>DV.val (Value.int IntKind.i64 (b.B i 5))]],DV.val (Value.int IntKind.i64 (i:Int))] (DV.val (Value.int IntKind.i64 (fb b (i:Int).toNat))),ri (decide (hP (b.fl (i:Int).toNat) [z1]<iM (fb b (i:Int).toNat) [z2])=true),ri (decide (hP (b.fl (i:Int).toNat) [z1]<iM (fb b (i:Int).toNat) [z2])=true),ri (decide (hP (b.fl (i:Int).toNat) [z1]<iM (fb b (i:Int).toNat) [z2])=true),decide (hP (b.fl (i:Int).toNat) [z1]<iM (fb b (i:Int).toNat) [z2])=true->dm prog 108 [DV.di (b.N (i:Int).toNat) [fun (dS:Nat)=>DV.val (Value.int IntKind.i64 (b.X (i:Int).toNat dS)),fun (dS:Nat)=>DV.val (Value.int
  IntKind.i64 (b.Y (i:Int).toNat dS))],DV.di 4 [fun (i:Nat)=>DV.val (Value.int IntKind.i64 (List.getD [x1,x2,x2,x1] i (0:Int))),fun (i:Nat)=>DV.val (Value.int IntKind.i64 (List.getD [y1,y1,y2,y2] i (0:Int)))]] (DV.val (Value.bool (ti (b.N (i:Int).toNat) (b.X (i:Int).toNat) (b.Y (i:Int).toNat) x1 x2 y1 y2))),ri (decide (hP (b.fl (i:Int).toNat) [z1]<iM (fb b (i:Int).toNat) [z2])=true)] (VT.ite (if decide (hP (b.fl (i:Int).toNat) [z1]<iM (fb b (i:Int).toNat) [z2])=true then ti (b.N (i:Int).toNat) (b.X (i:Int).toNat) (b.Y (i:Int).toNat) x1 x2 y1 y2 else false) (VT.done [true=jh b x1 y1 z1 x2 y2 z2]) (VT.da [cZ ((i:Int)+1)] (VT.done [(i:Int)+1=(↑((i:Int)+1).toNat:Int),(4:Nat)=4,∀i<4,List.getD [x1,x2,x2,x1] i (0:Int)=List.getD [x1,x2,x2,x1] i (0:Int),∀i<4,List.getD [y1,y1,y2,y2] i (0:Int)=List.getD [y1,y1,y2,y2] i (0:Int),b.nS=b.nS,∀i<b.nS,b.fl i=b.fl i,∀i<b.nS,b.N i=b.N i/\(∀dS<b.N i,b.X i dS=b.X i dS)/\ ∀dS<b.N i,b.Y i dS=b.Y i dS,(b.nS:Int)=(b.nS:Int),b.name=b.name,b.nS=b.nS,∀i<b.nS,b.fl i=b.fl i,∀i<b.nS,b.N i=b.N i/\(∀dS<b.N i,b.X i dS=b.X i dS)/\ ∀dS<b.N i,b.Y i dS=b.Y i dS,b.dr=b.dr,b.nO=b.nO,∀i<b.nO,b.O i 0=b.O i 0,∀i<b.nO,b.O i 1=b.O i 1,∀i<b.nO,b.O i 2=b.O i 2,∀i<b.nO,b.O i 3=b.O i 3,∀i<b.nO,b.O i 4=b.O i 4,∀
  (i:Nat),i<b.nO->b.O i 5=b.O i 5,b.nB=b.nB,∀i<b.nB,b.B i 0=b.B i 0,∀i<b.nB,b.B i 1=b.B i 1,∀i<b.nB,b.B i 2=b.B i 2,∀i<b.nB,b.B i 3=b.B i 3,∀i<b.nB,b.B i 4=b.B i 4,∀i<b.nB,b.B i 5=b.B i 5,x1=x1,y1=y1,z1=z1,x2=x2,y2=y2,z2=z2,Int.toNat ((i:Int)+1)<=b.nS/\ ∀(j:Nat),j<((i:Int)+1).toNat->sX b x1 y1 z1 x2 y2 z2 j=false,b.nS - ((i:Int)+1).toNat<b.nS - i]))))) (VT.done [false=jh b x1 y1 z1 x2 y2 z2]))) (by kernel_rfl) ?_
 simp only [VT.holds,dt,Sq]
 obtain ⟨a1,a2,a3,a4,a5,a6,hx,hy,hz⟩:=H7 hc
 simp only [vf,yi]
 refine ⟨af _,rfl,⟨ao _,fun j hj=>absurd hj (aF j)⟩,fun i ⟨hi,hb⟩=>⟨fun dK=> ?_,fun iy=> ?_⟩⟩
 ·have DD:=ho i (by omega)
  have hn:=fp DD
  obtain ⟨hX,hY⟩:=eB DD
  have sI: ∀j,sX b x1 y1 z1 x2 y2 z2 j=(decide (max (b.fl j) z1<min (fb b j) z2)&&ti (b.N j) (b.X j) (b.Y j) x1 x2 y1 y2):=fun j=>rfl
  refine ⟨⟨by omega,dK⟩,⟨Vc b i (by omega),fun _=>TK (b.N i) (b.X i) (b.Y i) 4 (BL x1 x2) (BK y1 y2) (by omega) (by omega) hX hY (by omega) (by omega) (Lo a1 a4).1 (Lo a2 a5).2⟩,fun h=> ?_,fun h=>⟨by unfold cZ;omega,by omega,⟨by omega,fun j hj=> ?_⟩,by omega⟩⟩
  ·rw [bW,jh,bA,an]
   intro fh
   have:=fh i (by omega)
   rw [sI,bk h.1,h.2] at this
   cases this
  ·rcases aU j i with h5|h5
   ·exact hb j h5
   ·rw [show j=i by omega,sI]
    by_cases hC:max (b.fl i) z1<min (fb b i) z2
    ·rw [h hC,Bool.and_false]
    ·rw [bg hC];rfl
 ·rw [bW,jh,bK,ai]
  exact fun j hj=>hb j (by omega)
noncomputable def CD (b:dJ) (x1 y1 z1 x2 y2 z2:Int):eH:={ dq:=[(4,[(4,Tw b),(32,rMetS)])],loops:=[(0,{ ι:=Nat,keep:=[2,3],boxes:=[2,3],ts:=fun _ i=>[(5,dI (i:Int))],inv:=fun _ i=>i<=b.nS/\ ∀j,j<i->sX b x1 y1 z1 x2 y2 z2 j=false,mu:=fun _ i=>b.nS - i,rd:=fun _ σ=>(eA (σ.get 5)).toNat })],dw:=[] }
theorem NO (b:dJ) (x1 y1 z1 x2 y2 z2:Int) (hS:b.nS<=1000) (ho:xh b) (ht: ∀i,i<b.nS->b.fl i<fb b i) (hc:mb x1 y1 z1 x2 y2 z2=0):dm prog 87 [jI b,bx x1 y1 z1 x2 y2 z2] (dB (jh b x1 y1 z1 x2 y2 z2)):=by
 refine db dv (CD b x1 y1 z1 x2 y2 z2) (V:=VT.loop Nat (fun (a:Nat)=>a<=b.nS/\ ∀(j:Nat),j<a->sX b x1 y1 z1 x2 y2 z2 j=false) (0:Int).toNat [(0:Int)=(↑(0:Int).toNat:Int),b.name=b.name,b.nS=b.nS,∀i<b.nS,b.fl i=b.fl i,∀i<b.nS,b.N i=b.N i/\(∀dS<b.N i,b.X i dS=b.X i dS)/\ ∀dS<b.N i,b.Y i dS=b.Y i dS,b.dr=b.dr,b.nO=b.nO,∀i<b.nO,b.O i 0=b.O i 0,∀i<b.nO,b.O i 1=b.O i 1,∀i<b.nO,b.O i 2=b.O i 2,∀i<b.nO,b.O i 3=b.O i 3,∀i<b.nO,b.O i 4=b.O i 4,∀i<b.nO,b.O i 5=b.O i 5,b.nB=b.nB,∀i<b.nB,b.B i 0=b.B i 0,∀i<b.nB,b.B i 1=b.B i 1,∀i<b.nB,b.B i 2=b.B i 2,∀i<b.nB,b.B i 3=b.B i 3,∀i<b.nB,b.B i 4=b.B i 4,∀i<b.nB,b.B i 5=b.B i 5,x1=x1,y1=y1,z1=z1,x2=x2,y2=y2,z2=z2] fun (i:Nat)=>VT.ite (decide ((i:Int)<(b.nS:Int))) (VT.da [dm prog 132 [DV.agg [DV.val (Value.string b.name),DV.di b.nS [fun (i:Nat)=>DV.val (Value.int IntKind.i64 (b.fl i)),fun (i:Nat)=>DV.di (b.N i) [fun (dS:Nat)=>DV.val (Value.int IntKind.i64 (b.X i dS)),fun (dS:Nat)=>DV.val (Value.int IntKind.i64 (b.Y i dS))]],DV.val (Value.int IntKind.i64 b.dr),DV.di b.nO [fun (i:Nat)=>DV.val (Value.int IntKind.i64 (b.O i 0)),fun (i:Nat)=>DV.val (Value.int IntKind.i64 (b.O i 1)),fun (i:Nat)=>DV.val (Value.int IntKind.i64 (b.O i 2)),fun (i:Nat)=>DV.val (Value.int IntKind.i64 (b.O i 3)),fun (i:Nat)=>DV.val (Value.int IntKind.i64 (b.O i 4)),fun (i:Nat)=>DV.val (Value.int IntKind.i64 (b.O i (5
  :Nat)))],DV.di b.nB [fun (i:Nat)=>DV.val (Value.int IntKind.i64 (b.B i 0)),fun (i:Nat)=>DV.val (Value.int IntKind.i64 (b.B i 1)),fun (i:Nat)=>DV.val (Value.int IntKind.i64 (b.B i 2)),fun (i:Nat)=>DV.val (Value.int IntKind.i64 (b.B i 3)),fun (i:Nat)=>DV.val (Value.int IntKind.i64 (b.B i 4)),fun (i:Nat)=>DV.val (Value.int IntKind.i64 (b.B i 5))]],DV.val (Value.int IntKind.i64 (i:Int))] (DV.val (Value.int IntKind.i64 (fb b (i:Int).toNat))),ri (decide (z1<fb b (i:Int).toNat)=true),ri (decide (z1<fb b (i:Int).toNat)=true),ri (decide (z1<fb b (i:Int).toNat)=true),decide (z1<fb b (i:Int).toNat)=true->(0:Int)<=(i:Int)/\(i:Int)<(b.nS:Int),ri (decide (z1<fb b (i:Int).toNat)=true),ri (decide (z1<fb b (i:Int).toNat)=true),ri (decide (z1<fb b (i:Int).toNat)=true),ri (decide (z1<fb b (i:Int).toNat)=true),ri (decide (z1<fb b (i:Int).toNat)=true),ri (decide (z1<fb b (i:Int).toNat)=true),ri ((if decide (z1<fb b (i:Int).toNat)=true then decide (b.fl (i:Int).toNat<z2) else false)=true),(if decide (z1<fb b (i:Int).toNat)=true then decide (b.fl (i:Int).toNat<z2) else false)=true->(if decide (z1<fb b (↑i:
  Int).toNat)=true then decide (b.fl (i:Int).toNat<z2) else false)=true,ri ((if decide (z1<fb b (i:Int).toNat)=true then decide (b.fl (i:Int).toNat<z2) else false)=true),(if decide (z1<fb b (i:Int).toNat)=true then decide (b.fl (i:Int).toNat<z2) else false)=true->(0:Int)<=(i:Int)/\(i:Int)<(b.nS:Int),ri ((if decide (z1<fb b (i:Int).toNat)=true then decide (b.fl (i:Int).toNat<z2) else false)=true),ri ((if decide (z1<fb b (i:Int).toNat)=true then decide (b.fl (i:Int).toNat<z2) else false)=true),ri ((if decide (z1<fb b (i:Int).toNat)=true then decide (b.fl (i:Int).toNat<z2) else false)=true),ri ((if decide (z1<fb b (i:Int).toNat)=true then decide (b.fl (i:Int).toNat<z2) else false)=true),ri ((if decide (z1<fb b (i:Int).toNat)=true then decide (b.fl (i:Int).toNat<z2) else false)=true),ri ((if decide (z1<fb b (i:Int).toNat)=true then decide (b.fl (i:Int).toNat<z2) else false)=true),ri ((if decide (z1<fb b (i:Int).toNat)=true then decide (b.fl (i:Int).toNat<z2) else false)=true),ri ((if decide (z1<fb b (i:Int).toNat)=true then decide (b.fl (i:Int).toNat<z2) else false)=true),ri ((if decide (z1<fb b (i:Int).toNat)=true then decide (b.fl (i:Int).toNat<z2) else false)=true),ri ((if decide (z1<fb b (i:Int).toNat)=true then decide (b.fl (i:Int).toNat<z2) else false)=true),ri ((if decide (z1<fb b (i:Int).toNat)=true then decide (b.fl (i:Int).toNat<z2) else false)=true),(if decide (z1<fb b (i:Int).toNat)=true then decide (b.fl (i:Int).toNat<z2) else false)=true->dm prog 133 [DV.di (b.N (i:Int).toNat) [fun (dS:Nat)=>DV.val (Value.int IntKind.i64 (b.X (i:Int).toNat dS)),fun (dS:Nat)=>DV.val (Value.int IntKind.i64 (b.Y (i:Int).toNat dS))],DV.val (Value.int IntKind.i64 x1),DV.val (Value.int IntKind.i64 x2),DV.val (Value.int IntKind.i64 y1),DV.val (Value.int IntKind.i64 y2)] (DV.val (Value.bool (ti (b.N (i:Int).toNat) (b.X (i:Int).toNat) (b.Y (i:Int).toNat) x1 x2 y1 y2))),ri ((if decide (z1<fb b (i:Int).toNat)=true then decide (b.fl (i:Int).toNat<z2) else false)=true)] (VT.ite (if (if decide (z1<fb b (i:Int).toNat)=true then decide (b.fl (i:Int).toNat<z2) else false)=true then ti (b.N (i:Int).toNat) (b.X (i:Int).toNat) (b.Y (i:Int).toNat) x1 x2 y1 y2 else false) (VT.done [true=jh b x1 y1 z1 x2 y2 z2]) (VT.da [cZ ((i:Int)+1)] (VT.done [(i:Int)+1=(↑((i:Int)+1).toNat:Int),b.name=b.name,b.nS=b.nS,∀i<b.nS,b.fl i=b.fl i,∀i<b.nS,b.N i=b.N i/\(∀dS<b.N i,b.X i dS=b.X i dS)/\ ∀dS<b.N i,b.Y i dS=b.Y i dS,b.dr=b.dr,b.nO=b.nO,∀i<b.nO,b.O i 0=b.O i 0,∀i<b.nO,b.O i 1=b.O i 1,∀i<b.nO,b.O i 2=b.O i 2,∀i<b.nO,b.O i 3=b.O i 3,∀i<b.nO,b.O i 4=b.O i 4,∀i<b.nO,b.O i 5=b.O i 5,b.nB=b.nB,∀i<b.nB,b.B i 0=b.B i 0,∀i<b.nB,b.B i 1=b.B i 1,∀i<b.nB,b.B i 2=b.B i 2,∀i<b.nB,b.B i 3=b.B i 3,∀i<b.nB,b.B i 4=b.B i 4,∀i<b.nB,b.B i 5=b.B i 5,x1=x1,y1=y1,z1=z1,x2=x2,y2=y2,z2=z2,Int.toNat ((i:Int)+1)<=b.nS/\ ∀(j:Nat),j<((i:Int)+1).toNat->sX b x1 y1 z1 x2 y2 z2 j=false,b.nS - ((i:Int)+1).toNat<b.nS - i])))) (VT.done [false=jh b x1 y1 z1 x2 y2 z2])) (by kernel_rfl) ?_
 simp only [VT.holds,dt,Sq]
 obtain ⟨a1,a2,a3,a4,a5,a6,hx,hy,hz⟩:=H7 hc
 refine ⟨rfl,⟨ao _,fun j hj=>absurd hj (aF j)⟩,fun i ⟨hi,hb⟩=>⟨fun dK=> ?_,fun iy=> ?_⟩⟩
 ·have DD:=ho i (by omega)
  have hti:=ht i (by omega)
  have sI: ∀j,sX b x1 y1 z1 x2 y2 z2 j=(decide (max (b.fl j) z1<min (fb b j) z2)&&ti (b.N j) (b.X j) (b.Y j) x1 x2 y1 y2):=fun j=>rfl
  have hiff:(z1<fb b i/\b.fl i<z2)↔max (b.fl i) z1<min (fb b i) z2:=by omega
  refine ⟨⟨Pd b i (by omega),fun _=>⟨by omega,dK⟩,fun _=>⟨by omega,dK⟩,fun _=>Qd (b.N i) (b.X i) (b.Y i) x1 x2 y1 y2 DD hx hy a1 a4 a2 a5⟩,fun h=> ?_,fun h=>⟨by unfold cZ;omega,by omega,⟨by omega,fun j hj=> ?_⟩,by omega⟩⟩
  ·rw [bW,jh,bA,an]
   intro fh
   have:=fh i (by omega)
   rw [sI,bk (hiff.1 h.1),h.2] at this
   cases this
  ·rcases aU j i with h5|h5
   ·exact hb j h5
   ·rw [show j=i by omega,sI]
    by_cases hC:max (b.fl i) z1<min (fb b i) z2
    ·rw [h (hiff.2 hC),Bool.and_false]
    ·rw [bg hC];rfl
 ·rw [bW,jh,bK,ai]
  exact fun j hj=>hb j (by omega)
end Go.Abs
end
section
set_option maxRecDepth 100000
namespace Go.Abs
open Go
def fY (e:Nat->Int):Nat->Int
 |0=>0
 |k+1=>if fY e k≠0 then fY e k else e k
theorem gH {e:Nat->Int}: ∀{n:Nat},(∀j,j<n->e j=0)->fY e n=0
 |0,_=>rfl
 |n+1,h=>by
  rw [fY,gH (fun j hj=>h j (by omega)),ae (by simp),h n (by omega)]
theorem kj {e:Nat->Int} {i:Nat} (h: ∀j,j<i->e j=0) (hi:e i≠0): ∀{n:Nat},i<n->fY e n=e i
 |n+1,hn=>by
  rcases aU i n with h1|h1
  ·have:=kj h hi h1
   rw [fY,this,ah hi]
  ·have:i=n:=by omega
   subst this
   rw [fY,gH h,ae (by simp)]
theorem ki {e:Nat->Int}: ∀{n:Nat},fY e n=0-> ∀j,j<n->e j=0
 |n+1,h,j,hj=>by
  rw [fY] at h
  by_cases h0:fY e n=0
  ·rw [ae (by rw [h0];simp)] at h
   rcases aU j n with h1|h1
   ·exact ki h0 j h1
   ·rw [show j=n by omega];exact h
  ·rw [ah h0] at h
   exact absurd h h0
def uW (b:dJ) (i:Nat):Bool:=decide ((i=0/\b.fl i≠0)\/(0<i/\b.fl i<=b.fl (i - 1))\/b.fl i>1000000)
def pg (b:dJ) (i:Nat):Int:=if gz (b.N i) (b.X i) (b.Y i)≠0 then gz (b.N i) (b.X i) (b.Y i) else if uW b i=true then 10 else if 0<i/\nu (b.N (i - 1)) (b.X (i - 1)) (b.Y (i - 1)) (b.N i) (b.X i) (b.Y i)=false then 12 else 0
theorem uy {b:dJ} {i:Nat} (h:pg b i=0):gz (b.N i) (b.X i) (b.Y i)=0/\uW b i=false:=by
 unfold pg at h
 split at h
 ·rename_i h1;exact absurd h h1
 ·rename_i h1
  split at h
  ·cases h
  ·rename_i h2
   exact ⟨ca.1 h1,by simpa using h2⟩
theorem st_ok {b:dJ} (h: ∀i,i<b.nS->pg b i=0):xh b/\(∀i,i<b.nS->0<=b.fl i/\b.fl i<=1000000)/\(∀i,i+1<b.nS->b.fl i<b.fl (i+1)):=by
 have ho: ∀i,i<b.nS->((i≠0\/b.fl i=0)/\(i=0\/b.fl (i - 1)<b.fl i)/\b.fl i<=1000000):=fun i hi=>by
  have:=(uy (h i hi)).2
  rw [uW,an] at this
  refine ⟨?_,?_,?_⟩
  ·rcases cf i with h0|h0
   ·right
    by_cases hf:b.fl i=0
    ·exact hf
    ·exact absurd (.inl ⟨h0,hf⟩) this
   ·left;omega
  ·rcases cf i with h0|h0
   ·left;exact h0
   ·right;omega
  ·omega
 have T8: ∀i,i<b.nS->0<=b.fl i:=fun i=>by
  induction i with
  |zero=>intro hi;have:=(ho 0 hi).1;rcases this with h|h<;>omega
  |succ i ih=>
   intro hi
   have h1:=ih (by omega)
   have h2:=(ho (i+1) hi).2.1
   simp only [Nat.add_sub_cancel] at h2
   omega
 refine ⟨fun i hi=>(uy (h i hi)).1,fun i hi=>⟨T8 i hi,(ho i hi).2.2⟩,fun i hi=> ?_⟩
 have h2:=(ho (i+1) hi).2.1
 simp only [Nat.add_sub_cancel] at h2
 omega
noncomputable def uc (b:dJ):eH:={ dq:=[(4,[(2,zV)]),(11,[(11,rCov)])],loops:=[(0,{ ι:=Nat,keep:=[0,6,7],boxes:=[],ts:=fun _ i=>[(8,dI (i:Int))],inv:=fun _ i=>i<=b.nS/\ ∀j,j<i->pg b j=0,mu:=fun _ i=>b.nS - i,rd:=fun _ σ=>(eA (σ.get 8)).toNat })],dw:=[] }
namespace w1c
noncomputable section
variable (z:dJ) (i0:Nat) (p:Prop) (P:List Prop) (a:Int) (g:Bool)
abbrev x0:=decide ((i0:Int)>(0:Int))
abbrev x1:=Int.toNat (i0:Int)
abbrev x2:=(i0:Int) - 1
abbrev x3:List Prop:=ri (x0 i0=true)::P
abbrev x4:=Int.toNat (x2 i0)
abbrev x5:=DV.val (Value.int IntKind.i64 a)
abbrev x6:=Int.toNat ((i0:Int)+1)
abbrev x7:List Prop:=(x0 i0=true->p)::x3 i0 (x3 i0 P)
abbrev x8:List Prop:=p::rf z.nS::(∀i0<z.nS,rf (z.fl i0))::P
abbrev x9:= ∀i0<z.nS,rf (z.N i0)/\(∀i1<z.N i0,rf (z.X i0 i1))/\(∀i1<z.N i0,rf (z.Y i0 i1))
abbrev dC:=VT.done [a=fY (pg z) z.nS]
abbrev dA:=nu (z.N (x4 i0)) (z.X (x4 i0)) (z.Y (x4 i0)) (z.N (x1 i0)) (z.X (x1 i0)) (z.Y (x1 i0))
abbrev dz:=if (x0 i0)=true then g else false
abbrev dG:=x8 z p (x8 z (x9 z) (x9 z::P))
abbrev dL:List DV:=[DV.di (z.N (x1 i0)) [fun i1=>x5 (z.X (x1 i0) i1),fun i1=>x5 (z.Y (x1 i0) i1)]]
abbrev dR:=x7 i0 (0<=x2 i0/\x2 i0<(z.nS:Int)) (x3 i0 (x3 i0 P))
abbrev dQ:List Prop:=ri (((i0:Int)==0)=true)::P
abbrev ep:=gz (z.N (x1 i0)) (z.X (x1 i0)) (z.Y (x1 i0))
abbrev eu:=VT.da (x3 i0 (x7 i0 (cZ (x2 i0)) (dR z i0 (x3 i0 (x7 i0 (dm prog 146 (DV.di (z.N (x4 i0)) [fun i1=>x5 (z.X (x4 i0) i1),fun i1=>x5 (z.Y (x4 i0) i1)]::dL z i0) (DV.val (Value.bool (dA z i0)))) []))))) (VT.ite (dz i0 (!(dA z i0))) (dC z (12:Int)) (VT.da [cZ ((i0:Int)+1)] (VT.done (dG z ((i0:Int)+1=(↑(x6 i0):Int)) [rf (z.nS:Int),x6 i0<=z.nS/\(∀i1<x6 i0,pg z i1=0),z.nS - x6 i0<z.nS - i0]))))
abbrev eG:=decide ((z.fl (x1 i0))<=(z.fl (x4 i0)))
abbrev ez:=VT.ite g (dC z (10:Int)) (eu z i0)
abbrev eF:=if ((i0:Int)==0)=true then (z.fl (x1 i0) !=0) else false
abbrev xt:VT:=VT.loop Nat (fun i0=>i0<=z.nS/\(∀i1<i0,pg z i1=0)) (Int.toNat 0) (dG z (0=(↑(Int.toNat 0):Int)) [rf (z.nS:Int)]) (fun i0=>VT.ite (decide ((i0:Int)<(z.nS:Int))) (VT.da [0<=(i0:Int)/\(i0:Int)<(z.nS:Int)] (VT.da [dm prog 48 (dL z i0) (x5 (ep z i0))] (VT.ite (ep z i0 !=0) (dC z (ep z i0)) (VT.da (dQ i0 (dQ i0 (dQ i0 []))) (VT.ite (eF z i0) (ez z i0 (eF z i0)) (VT.da (x3 i0 (x3 i0 (x7 i0 (cZ (x2 i0)) (dR z i0 (x3 i0 []))))) (VT.ite (dz i0 (eG z i0)) (VT.ite (dz i0 (eG z i0)) (dC z (10:Int)) (eu z i0)) (ez z i0 (decide ((z.fl (x1 i0))>(1000000:Int))))))))))) (dC z (0:Int)))
end
end w1c
open w1c in
theorem Be (b:dJ) (hS:b.nS<=1000) (hN: ∀i,i<b.nS->b.N i<=1000):dm prog 105 [.di b.nS (ML b)] (dI (fY (pg b) b.nS)):=by
 refine db dv (uc b) (V:=xt b) (by kernel_rfl) ?_
 simp only [xt,x0,x1,x2,x3,x4,x5,x6,x7,x8,x9,dC,dA,dz,dG,dL,dR,dQ,ep,eu,eG,ez,eF,Rf,VT.holds,dt,Sq]
 refine ⟨rfl,⟨ao _,fun j hj=>absurd hj (aF j)⟩,fun i ⟨hi,hb⟩=>⟨fun dK=> ?_,fun iy=>by rw [gH (fun j hj=>hb j (by omega))]⟩⟩
 have hp:((i:Int) - 1).toNat=i - 1:=by omega
 simp only [hp]
 have hNi:=hN i (by omega)
 have pF:pg b i=if gz (b.N i) (b.X i) (b.Y i)≠0 then gz (b.N i) (b.X i) (b.Y i) else if uW b i=true then 10 else if 0<i/\nu (b.N (i - 1)) (b.X (i - 1)) (b.Y (i - 1)) (b.N i) (b.X i) (b.Y i)=false then 12 else 0:=rfl
 have q1:(i:Int)>0->cZ ((i:Int) - 1):=fun _=>by unfold cZ;omega
 have q2:(i:Int)>0->0<=(i:Int) - 1/\(i:Int) - 1<(b.nS:Int):=fun _=>by omega
 refine ⟨⟨by omega,dK⟩,iF _ _ _ (by omega),fun h=> ?_,fun hc=> ?_⟩
 ·have e:pg b i=gz (b.N i) (b.X i) (b.Y i):=by rw [pF,ah h]
  rw [kj hb (by rw [e];exact h) (by omega),e]
 ·have mU:uW b i=true->10=fY (pg b) b.nS:=fun h=>by
   have e:pg b i=10:=by rw [pF,ae (by rw [hc];simp),ah h]
   rw [kj hb (by rw [e];simp) (by omega),e]
  have hcov:(i:Int)>0->dm prog 146 [mh (b.N (i - 1)) (b.X (i - 1)) (b.Y (i - 1)),mh (b.N i) (b.X i) (b.Y i)] (dB (nu (b.N (i - 1)) (b.X (i - 1)) (b.Y (i - 1)) (b.N i) (b.X i) (b.Y i))):=fun h=>by
   have QT:=(uy (hb (i - 1) (by omega))).1
   have n1:=fp hc
   have n2:=fp QT
   exact RF _ _ _ _ _ _ (by omega) (by omega) (eB QT).1 (eB QT).2 (by omega) (by omega) (eB hc).1 (eB hc).2
  have h12:uW b i=false->(i:Int)>0/\nu (b.N (i - 1)) (b.X (i - 1)) (b.Y (i - 1)) (b.N i) (b.X i) (b.Y i)=false->12=fY (pg b) b.nS:=fun h h2=>by
   have e:pg b i=12:=by rw [pF,ae (by rw [hc];simp),ae (by rw [h];simp),ah ⟨by omega,h2.2⟩]
   rw [kj hb (by rw [e];simp) (by omega),e]
  have hnext:uW b i=false->((i:Int)>0->nu (b.N (i - 1)) (b.X (i - 1)) (b.Y (i - 1)) (b.N i) (b.X i) (b.Y i)=true)-> ∀j,j<i+1->pg b j=0:=fun h h2 j hj=>by
   rcases aU j i with h3|h3
   ·exact hb j h3
   ·rw [show j=i by omega,pF,ae (by rw [hc];simp),ae (by rw [h];simp),ae]
    rintro ⟨h4,h5⟩
    rw [h2 (by omega)] at h5
    cases h5
  refine ⟨fun h1=>⟨fun _=>mU (bk (.inl ⟨by omega,h1.2⟩)),fun hx=>absurd (hx h1.1) h1.2⟩,fun h1=>⟨⟨q1,q2⟩,fun h2=>⟨fun _=>mU (bk (.inr (.inl ⟨by omega,h2.2⟩))),fun hx=>absurd h2.2 (hx h2.1)⟩,fun h2=>⟨fun h3=>mU (bk (.inr (.inr h3))),fun h3=> ?_⟩⟩⟩
  have ho:uW b i=false:=by
   rw [uW,an]
   rintro (h|h|h)
   ·exact h.2 (h1 (by omega))
   ·exact h2 (by omega) h.2
   ·exact h3 h
  exact ⟨⟨q1,q2,hcov⟩,h12 ho,fun h4=>⟨by unfold cZ;omega,by omega,⟨by omega,hnext ho h4⟩,by omega⟩⟩
end Go.Abs
end
