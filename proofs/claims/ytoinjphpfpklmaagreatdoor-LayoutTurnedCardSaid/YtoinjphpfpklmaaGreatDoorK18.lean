/- Contracts and what they stand on. -/
import Derived.Test.YtoinjphpfpklmaaGreatDoorK16
set_option linter.unusedVariables false
set_option linter.unusedSimpArgs false
section
namespace Go.Abs
open Go Go.RowKit Go.WideShapes Go.ChangeShapes Go.Deep Go.Joins Go.WideElems
section
variable {H:Type} {enc:TypeId×Value->H} {P:Program} {w:World} {base:Nat} {spare:Nat->Bool} {held:Bool}
theorem J5 {t e:TypeId} {fs:Array Field} {fuel:Nat} {cs:List Value} {x:DataW H×List MemPlace} (ht:P.underlying t=some (.slice e)) (he:P.underlying e=some (.struct fs))
 (jh:oneCellFields P fs=true) (hC:P.cellsOf e=fs.size) (h:DataW.trod enc P w base spare held fuel t cs=some x):
 cs=[.slice none 0 0]\/ ∃(a:Addr) (len cap:Nat),cs=[.slice (some a) len cap]/\len<=cap/\
  ∀i,i<len-> ∃n:Nat,∀(j:Nat) (f:Field),fs[j]? =some f-> ∃u y,w.cell? (a.add (i*fs.size+j))=some u/\DataW.trod enc P w base spare held n f.type [u]=some y:=by
 rcases open_slice ht h with ⟨h0,_⟩|⟨a,len,cap,m,n,D,Pl,uF,_,hl,_,hm,_,hi⟩
 ·exact .inl h0
 ·refine .inr ⟨a,len,cap,uF,hl,fun i hil=> ?_⟩
  have Zv:i<m:=by rw [hm];split<;>omega
  obtain ⟨kS,hc,ht'⟩:=hi i Zv
  rw [hC] at hc
  obtain ⟨ys,n',_,_,hlen,hyl,hf⟩:=DataW.trod_struct he ht'
  obtain ⟨_,iH,rW⟩:=World.cells?_some hc
  refine ⟨n',fun j f Cq=> ?_⟩
  have hj:=(aF.1 Cq).1
  obtain ⟨ho,hk⟩:=hone_of jh j _ Cq
  have fe:=rW j hj
  have h1:=hf j _ Cq
  rw [ho,hk] at h1
  have HB:(kS.drop j).take 1=[kS[j]'(by omega)]:=by
   rw [cG (by omega)]
   rfl
  rw [HB] at h1
  have hys:ys[j]? =some (ys[j]'(by omega)):=ak (by omega)
  refine ⟨_,_,?_,h1.trans hys⟩
  rw [<-Go.Deep.add_add,fe,ak (by omega)]
theorem LQ {S:Nat->Prop} (hS: ∀b,S b) {a:Addr} {len cap:Nat} {dp:List (Nat->DV)} (hl:len<=cap)
 (h: ∀(i j:Nat) (f:Nat->DV),i<len->dp[j]? =some f-> ∃u,w.cell? (a.add (i*dp.length+j))=some u/\eL u=true/\dA (fu w S) (f i) u):dA (fu w S) (.dt len dp) (.slice (some a) len cap):=by
 refine .dt (fun i j=>(w.cell? (a.add (i*dp.length+j))).getD undef) hl (fun i j f hi hj=>⟨a,rfl,?_,hS _⟩) (fun _=>by simp) (fun i j f hi hj=> ?_) fun i j f hi hj=> ?_
 all_goals obtain ⟨u,e,o,r⟩:=h i j f hi hj
 ·rw [e];exact .inl ⟨e,o⟩
 ·rw [e];exact o
 ·rw [e];exact r
theorem open_int {e:TypeId} {fuel:Nat} {v:Value} {x:DataW H×List MemPlace} (he:P.underlying e=some (.int .i64)) (h:DataW.trod enc P w base spare held fuel e [v]=some x): ∃z,v= .int .i64 z:=by
 obtain ⟨z,hz,_,_⟩:=DataW.trod_int he h
 exact ⟨z,(List.cons.inj hz).1⟩
theorem AF {S:Nat->Prop} (hS: ∀b,S b) {t e:TypeId} {fs:Array Field} {fuel:Nat} {v:Value} {x:DataW H×List MemPlace} (ht:P.underlying t=some (.slice e)) (he:P.underlying e=some (.struct fs))
 (jh:oneCellFields P fs=true) (hC:P.cellsOf e=fs.size) (hn:fs.size=6) (hint: ∀(j:Nat) (f:Field),fs[j]? =some f->P.underlying f.type=some (.int .i64)) (h:DataW.trod enc P w base spare held fuel t [v]=some x):
 ∃(n:Nat) (Z:Nat->Nat->Int),dA (fu w S) (.dt n [fun i=>dI (Z i 0),fun i=>dI (Z i 1),fun i=>dI (Z i 2),fun i=>dI (Z i 3),fun i=>dI (Z i 4),fun i=>dI (Z i 5)]) v:=by
 classical
 rcases DN ht he jh hC hint h with h0|⟨a,len,cap,uF,hl,fe⟩
 ·cases h0
  exact ⟨0,fun _ _=>0,uZ _⟩
 ·cases uF
  rw [hn] at fe
  refine ⟨len,fun i j=>if Kk:i<len/\j<6 then (fe i j Kk.1 Kk.2).choose else 0,LQ hS hl fun i j f hi hj=> ?_⟩
  have key: ∀j,j<6->w.cell? (a.add (i*6+j))=some (.int .i64 (if Kk:i<len/\j<6 then (fe i j Kk.1 Kk.2).choose else 0)):=fun j hj=>by
   rw [dif_pos ⟨hi,hj⟩];exact (fe i j hi hj).choose_spec
  match j,hj with
  |0,hj=>cases hj;exact ⟨_,key 0 (by omega),rfl,.val _⟩
  |1,hj=>cases hj;exact ⟨_,key 1 (by omega),rfl,.val _⟩
  |2,hj=>cases hj;exact ⟨_,key 2 (by omega),rfl,.val _⟩
  |3,hj=>cases hj;exact ⟨_,key 3 (by omega),rfl,.val _⟩
  |4,hj=>cases hj;exact ⟨_,key 4 (by omega),rfl,.val _⟩
  |5,hj=>cases hj;exact ⟨_,key 5 (by omega),rfl,.val _⟩
theorem Qn {S:Nat->Prop} (hS: ∀b,S b) {t e:TypeId} {fs:Array Field} {fuel:Nat} {v:Value} {x:DataW H×List MemPlace} (ht:P.underlying t=some (.slice e)) (he:P.underlying e=some (.struct fs))
 (jh:oneCellFields P fs=true) (hC:P.cellsOf e=fs.size) (hn:fs.size=2) (hint: ∀(j:Nat) (f:Field),fs[j]? =some f->P.underlying f.type=some (.int .i64)) (h:DataW.trod enc P w base spare held fuel t [v]=some x):
 ∃(n:Nat) (X Y:Nat->Int),dA (fu w S) (my n X Y) v/\eL v=true:=by
 rcases DN ht he jh hC hint h with h0|⟨a,len,cap,uF,hl,fe⟩
 ·cases h0
  exact ⟨0,fun _=>0,fun _=>0,uZ _,rfl⟩
 ·cases uF
  rw [hn] at fe
  obtain ⟨X,Y,h⟩:=Nn hS hl fe
  exact ⟨_,X,Y,h,rfl⟩
theorem EU {S:Nat->Prop} (hS: ∀b,S b) {t e t1 e1:TypeId} {f0 f1:Field} {fs1:Array Field} {fuel:Nat} {v:Value} {x:DataW H×List MemPlace} (ht:P.underlying t=some (.slice e)) (he:P.underlying e=some (.struct #[f0,f1]))
 (jh:oneCellFields P #[f0,f1]=true) (hC:P.cellsOf e=2) (h0:P.underlying f0.type=some (.int .i64)) (h1:f1.type=t1) (ht1:P.underlying t1=some (.slice e1)) (he1:P.underlying e1=some (.struct fs1))
 (hone1:oneCellFields P fs1=true) (hC1:P.cellsOf e1=fs1.size) (hn1:fs1.size=2) (hint1: ∀(j:Nat) (f:Field),fs1[j]? =some f->P.underlying f.type=some (.int .i64)) (h:DataW.trod enc P w base spare held fuel t [v]=some x):
 ∃(n:Nat) (fl:Nat->Int) (N:Nat->Nat) (X Y:Nat->Nat->Int),dA (fu w S) (.dt n [fun i=>dI (fl i),fun i=>my (N i) (X i) (Y i)]) v:=by
 classical
 rcases J5 ht he jh hC h with h0'|⟨a,len,cap,uF,hl,A9⟩
 ·cases h0'
  exact ⟨0,fun _=>0,fun _=>0,fun _ _=>0,fun _ _=>0,uZ _⟩
 ·cases uF
  have fp: ∀i,∃(q:Int×Nat×(Nat->Int)×(Nat->Int)),i<len->w.cell? (a.add (i*2+0))=some (.int .i64 q.1)/\ ∃u,w.cell? (a.add (i*2+1))=some u/\eL u=true/\dA (fu w S) (my q.2.1 q.2.2.1 q.2.2.2) u:=fun i=>by
   by_cases hi:i<len
   ·obtain ⟨n,hn⟩:=A9 i hi
    obtain ⟨u0,y0,c0,t0⟩:=hn 0 f0 rfl
    obtain ⟨u1,y1,c1,t1'⟩:=hn 1 f1 rfl
    obtain ⟨z,rfl⟩:=open_int h0 t0
    rw [h1] at t1'
    obtain ⟨m,X,Y,r,o⟩:=Qn hS ht1 he1 hone1 hC1 hn1 hint1 t1'
    exact ⟨(z,m,X,Y),fun _=>⟨c0,u1,c1,o,r⟩⟩
   ·exact ⟨(0,0,fun _=>0,fun _=>0),fun h=>absurd h hi⟩
  refine ⟨len,fun i=>(fp i).choose.1,fun i=>(fp i).choose.2.1,fun i=>(fp i).choose.2.2.1,fun i=>(fp i).choose.2.2.2,LQ hS hl fun i j f hi hj=> ?_⟩
  obtain ⟨k0,u,k1,k2,k3⟩:=(fp i).choose_spec hi
  match j,hj with
  |0,hj=>cases hj;exact ⟨_,k0,rfl,.val _⟩
  |1,hj=>cases hj;exact ⟨u,k1,k2,k3⟩
end
end Go.Abs
end
section
set_option maxRecDepth 100000
namespace Go.Abs
open Go
def yj (x1 x2:Int) (i:Nat):Int:=[x1,x2,x2,x1].getD i 0
def yi (y1 y2:Int) (i:Nat):Int:=[y1,y1,y2,y2].getD i 0
def rG (n:Nat) (X Y:Nat->Int) (x1 x2 y1 y2:Int):Bool:=AO n X Y 4 (yj x1 x2) (yi y1 y2)
def rMetS:fx:= .res fun l=>dB (rG (aN l) (aX l) (aY l) (aI l 1) (aI l 2) (aI l 3) (aI l 4))
def qQ (b:dL) (x1 y1 z1 x2 y2 z2:Int) (i:Nat):Bool:=decide (max (b.fl i) z1<min (fj b i) z2)&&rG (b.N i) (b.X i) (b.Y i) x1 x2 y1 y2
def jN (b:dL) (x1 y1 z1 x2 y2 z2:Int):Bool:= !decide (∀i,i<b.nS->qQ b x1 y1 z1 x2 y2 z2 i=false)
def tQ (b:dL):Prop:= ∀i,i<b.nS->gI (b.N i) (b.X i) (b.Y i)=0
theorem pE {a b c d e f:Int} (h:nA a b c d e f=0):(-1000000<=a/\a<=1000000)/\(-1000000<=b/\b<=1000000)/\(-1000000<=c/\c<=1000000)/\(-1000000<=d/\d<=1000000)/\(-1000000<=e/\e<=1000000)/\(-1000000<=f/\f<=1000000)/\a<d/\b<e/\c<f:=by
 unfold nA at h
 split at h
 ·cases h
 ·rename_i h1
  split at h
  ·cases h
  ·rename_i h2
   have h3:=bP.1 h1
   simp only [gN,ah] at h3
   omega
theorem LB {a b:Int} (ha: -1000000<=a/\a<=1000000) (hb: -1000000<=b/\b<=1000000):kd 4 (yj a b)/\kd 4 (yi a b):=by
 constructor
 all_goals
  intro k hk
  match k,hk with
  |0,_=>first|exact ha|exact hb
  |1,_=>first|exact ha|exact hb
  |2,_=>first|exact ha|exact hb
  |3,_=>first|exact ha|exact hb
theorem Kq (x1 x2 y1 y2 x y:Int) (hx:x1<x2) (hy:y1<y2):kg 4 (yj x1 x2) (yi y1 y2) x y 4=decide (¬2*x1>x/\2*x2>x/\2*y1<y/\y<2*y2):=by
 have i0:ix 4 0=0:=rfl
 have i1:ix 4 1=1:=rfl
 have i2:ix 4 2=2:=rfl
 have i3:ix 4 3=3:=rfl
 have i4:ix 4 4=0:=rfl
 have b0:hasB 4 (yj x1 x2) (yi y1 y2) x y 0=false:=by
  unfold hasB lo hi
  rw [aj]
  show ¬(min x1 x2=max x1 x2/\_)
  omega
 have b2:hasB 4 (yj x1 x2) (yi y1 y2) x y 2=false:=by
  unfold hasB lo hi
  rw [aj]
  show ¬(min x2 x1=max x2 x1/\_)
  omega
 have b1:hasB 4 (yj x1 x2) (yi y1 y2) x y 1=decide (2*x2>x/\2*y1<y/\y<2*y2):=by
  unfold hasB lo hi
  rw [bu]
  show (min x2 x2=max x2 x2/\2*min x2 x2>x/\2*min y1 y2<y/\y<2*max y1 y2)↔_
  omega
 have b3:hasB 4 (yj x1 x2) (yi y1 y2) x y 3=decide (2*x1>x/\2*y1<y/\y<2*y2):=by
  unfold hasB lo hi
  rw [bu]
  show (min x1 x1=max x1 x1/\2*min x1 x1>x/\2*min y2 y1<y/\y<2*max y2 y1)↔_
  omega
 simp only [kg,b0,b1,b2,b3,ah]
 by_cases c1:2*x2>x/\2*y1<y/\y<2*y2
 ·by_cases c3:2*x1>x/\2*y1<y/\y<2*y2
  ·rw [ag c3,ab (by simp),ag c1,ab (by simp),bX,bI (by omega)];rfl
  ·rw [ab c3,ab (by simp),ag c1,ab (by simp),bX,bz (by omega)];rfl
 ·rw [ab (by omega),ab (by simp),ab c1,ab (by simp),bX,bI (by omega)]
theorem gr_in {n:Nat} {X:Nat->Int} {m:Nat} {X':Nat->Int} {k:Nat} (hk:k<m):X' k∈gr n X m X':=((jm (fw (N2 n m) (X2 X X') 2)).2 _).2 (wK (i:=1) (k:=k) (by omega) hk)
theorem Wv {n:Nat} {X:Nat->Int} {m:Nat} {X':Nat->Int} {i:Nat} (hi:i+1<(gr n X m X').length):(gr n X m X').getD i 0<(gr n X m X').getD (i+1) 0:=wI (jm (fw (N2 n m) (X2 X X') 2)).1 (by omega) hi
theorem zA {n:Nat} {X:Nat->Int} {m:Nat} {X':Nat->Int} {i k:Nat} (hi:i+1<(gr n X m X').length) (hk:k<m):X' k<=(gr n X m X').getD i 0\/(gr n X m X').getD (i+1) 0<=X' k:=MS (jm (fw (N2 n m) (X2 X X') 2)).1 hi (gr_in hk)
def eM (n:Nat) (X:Nat->Int) (x1 x2:Int):List Int:=gr n X 4 (yj x1 x2)
def fo (n:Nat) (Y:Nat->Int) (y1 y2:Int):List Int:=gr n Y 4 (yi y1 y2)
def E1 (n:Nat) (X Y:Nat->Int) (x1 x2 y1 y2:Int) (c:Nat):Bool:=E2 n X Y 4 (yj x1 x2) (yi y1 y2) c
theorem Mw (y:Bool) (n:Nat) (X Y:Nat->Int) (x1 x2 y1 y2:Int) (jO:n<=800):
 dv prog 129 [dB y,DV.dt 2 [fun i=>DV.dt (if i=0 then n else 4) [fun k=>DV.val (Value.int .i64 (if i=0 then X k else [x1,x2,x2,x1].getD k 0)),fun k=>DV.val (Value.int .i64 (if i=0 then Y k else [y1,y1,y2,y2].getD k 0))]]] (lR (if y=true then fo n Y y1 y2 else eM n X x1 x2)):=by
 have h:=Fj y n X Y 4 (yj x1 x2) (yi y1 y2) jO (by omega)
 rw [<-zl] at h
 exact h
theorem Ug {n:Nat} {X Y:Nat->Int} (h:gI n X Y=0) {x1 x2 y1 y2:Int} (hx:x1<x2) (hy:y1<y2) {i k:Nat} (hi:i+1<(eM n X x1 x2).length) (hk:k+1<(fo n Y y1 y2).length):
 E1 n X Y x1 x2 y1 y2 (((fo n Y y1 y2).length - 1)*i+k)=(decide ((((eM n X x1 x2).getD i 0>=x1/\(eM n X x1 x2).getD (i+1) 0<=x2)/\(fo n Y y1 y2).getD k 0>=y1)/\(fo n Y y1 y2).getD (k+1) 0<=y2)&&xq n X Y ((eM n X x1 x2).getD i 0+(eM n X x1 x2).getD (i+1) 0) ((fo n Y y1 y2).getD k 0+(fo n Y y1 y2).getD (k+1) 0)):=by
 have e2:=AN h (oK (n:=n) (X:=X) (m:=4) (X':=yj x1 x2) (i:=i) hi).1 (oK (n:=n) (X:=Y) (m:=4) (X':=yi y1 y2) (i:=k) hk).1
 have fe:=zG n X Y 4 (yj x1 x2) (yi y1 y2) (i:=i) (k:=k) (by have:=hk;unfold fo at this;omega)
 have l1:=Wv (n:=n) (X:=X) (m:=4) (X':=yj x1 x2) (i:=i) hi
 have l2:=Wv (n:=n) (X:=Y) (m:=4) (X':=yi y1 y2) (i:=k) hk
 have s1:x1<=(gr n X 4 (yj x1 x2)).getD i 0\/(gr n X 4 (yj x1 x2)).getD (i+1) 0<=x1:=zA (k:=0) hi (by omega)
 have s2:x2<=(gr n X 4 (yj x1 x2)).getD i 0\/(gr n X 4 (yj x1 x2)).getD (i+1) 0<=x2:=zA (k:=1) hi (by omega)
 have s3:y1<=(gr n Y 4 (yi y1 y2)).getD k 0\/(gr n Y 4 (yi y1 y2)).getD (k+1) 0<=y1:=zA (k:=0) hk (by omega)
 have s4:y2<=(gr n Y 4 (yi y1 y2)).getD k 0\/(gr n Y 4 (yi y1 y2)).getD (k+1) 0<=y2:=zA (k:=2) hk (by omega)
 unfold E1 E2 eM fo
 rw [fe,e2,Kq _ _ _ _ _ _ hx hy]
 dsimp only
 congr 1
 rw [bu]
 omega
noncomputable def FQ (n:Nat) (X Y:Nat->Int) (x1 x2 y1 y2:Int):eA:={ dz:=[(1,[(12,.UW)]),(2,[(3,.res fun _=>lR (eM n X x1 x2)),(7,.res fun _=>lR (fo n Y y1 y2))]),(9,[(52,YH)])],loops:=[(0,{ ι:=Nat,keep:=[0,1,2,3,4,12,13],boxes:=[],ts:=fun _ i=>[(14,dI (i:Int))],inv:=fun _ i=>i<=(eM n X x1 x2).length - 1/\ ∀c,c<((fo n Y y1 y2).length - 1)*i->E1 n X Y x1 x2 y1 y2 c=false,mu:=fun _ i=>(eM n X x1 x2).length - i,rd:=fun _ σ=>(ez (σ.get 14)).toNat }),(2,{ ι:=Nat,keep:=[0,1,2,3,4,12,13,14],boxes:=[],ts:=fun _ k=>[(15,dI (k:Int))],inv:=fun σ k=>k<=(fo n Y y1 y2).length - 1/\ ∀c,c<((fo n Y y1 y2).length - 1)*(ez (σ.get 14)).toNat+k->E1 n X Y x1 x2 y1 y2 c=false,mu:=fun _ k=>(fo n Y y1 y2).length - k,rd:=fun _ σ=>(ez (σ.get 15)).toNat })],dK:=[] }
theorem Qz (n:Nat) (X Y:Nat->Int) (x1 x2 y1 y2:Int) (h:gI n X Y=0) (hx:x1<x2) (hy:y1<y2) (a1: -1000000<=x1/\x1<=1000000) (a2: -1000000<=x2/\x2<=1000000) (a3: -1000000<=y1/\y1<=1000000) (a4: -1000000<=y2/\y2<=1000000):dv prog 133 [my n X Y,dI x1,dI x2,dI y1,dI y2] (dB (rG n X Y x1 x2 y1 y2)):=by
 refine dm dJ (FQ n X Y x1 x2 y1 y2) (V:=VT.dk [(4:Nat)<=4] (VT.dk [(2:Nat)<=2,dv prog 129 [DV.val (Value.bool false),DV.dt 2 [fun (i:Nat)=>DV.dt (if decide (i=0)=true then n else (4:Nat)) [fun (ed:Nat)=>DV.val (Value.int IntKind.i64 (if decide (i=0)=true then X ed else List.getD [x1,x2,x2,x1] ed (0:Int))),fun (ed:Nat)=>DV.val (Value.int IntKind.i64 (if decide (i=0)=true then Y ed else List.getD [y1,y1,y2,y2] ed (0:Int)))]]] (DV.dt (List.length (eM n X x1 x2)) [fun (i:Nat)=>DV.val (Value.int IntKind.i64 (List.getD (eM n X x1 x2) i (0:Int)))]),(2:Nat)<=2,dv prog 129 [DV.val (Value.bool true),DV.dt 2 [fun (i:Nat)=>DV.dt (if decide (i=0)=true then n else (4:Nat)) [fun (ed:Nat)=>DV.val (Value.int IntKind.i64 (if decide (i=0)=true then X ed else List.getD [x1,x2,x2,x1] ed (0:Int))),fun (ed:Nat)=>DV.val (Value.int IntKind.i64 (if decide (i=0)=true then Y ed else List.getD [y1,y1,y2,y2] ed (0:Int)))]]] (DV.dt (List.length (fo n Y y1 y2)) [fun (i:Nat)=>DV.val (Value.int IntKind.i64 (List.getD (fo n Y y1 y2) i (0:Int)))])] (VT.loop Nat (fun (a:Nat)=>a<=List.length (eM n X x1 x2) - 1/\ ∀(c:Nat),c<(List.length (fo n Y y1 y2) - 1)*a->E1 n X Y x1 x2 y1 y2 c=false) (0:Int).toNat [(0:Int)=(↑(0:Int).toNat:Int),n=n,∀i<n,X i=X i,∀i<n,Y i=Y i,x1=x1,x2=x2,y1=y1,y2=y2,List.length (eM n X x1 x2)=List.length (eM n X x1 x2),∀i<List.length (eM n X x1 x2),List.getD (eM n X x1 x2) i (0:Int)=List.getD (eM n X x1 x2) i (0:Int),List.length (fo n Y y1 y2)=List.length (fo n Y y1 y2),∀i<List.length (fo n Y y1 y2),List.getD (fo n Y y1 y2) i (0:Int)=List.getD (fo n Y y1 y2) i (0:Int)] fun (i:Nat)=>VT.dk [dh ((i:Int)+(1:
  Int))] (VT.ite (decide ((i:Int)+1<(↑(List.length (eM n X x1 x2)):Int))) (VT.loop Nat (fun (a:Nat)=>a<=List.length (fo n Y y1 y2) - 1/\ ∀(c:Nat),c<(List.length (fo n Y y1 y2) - 1)*Int.toNat (i:Int)+a->E1 n X Y x1 x2 y1 y2 c=false) (0:Int).toNat [(0:Int)=(↑(0:Int).toNat:Int),n=n,∀i<n,X i=X i,∀i<n,Y i=Y i,x1=x1,x2=x2,y1=y1,y2=y2,List.length (eM n X x1 x2)=List.length (eM n X x1 x2),∀i<List.length (eM n X x1 x2),List.getD (eM n X x1 x2) i (0:Int)=List.getD (eM n X x1 x2) i (0:Int),List.length (fo n Y y1 y2)=List.length (fo n Y y1 y2),∀i<List.length (fo n Y y1 y2),List.getD (fo n Y y1 y2) i (0:Int)=List.getD (fo n Y y1 y2) i (0:Int),(i:Int)=(i:Int)] fun (ed:Nat)=>VT.dk [dh ((ed:Int)+1)] (VT.ite (decide ((ed:Int)+1<(↑(List.length (fo n Y y1 y2)):Int))) (VT.dk [(0:Int)<=(i:Int)/\(i:Int)<(↑(List.length (eM n X x1 x2)):Int),ri (decide (List.getD (eM n X x1 x2) (i:Int).toNat (0:Int)>=x1)=true),decide (List.getD (eM n X x1 x2) (i:Int).toNat (0:Int)>=x1)=true->dh ((i:Int)+1),ri (decide (List.getD (eM n X x1 x2) (i:Int).toNat (0:Int)>=x1)=true),ri (decide (List.getD (eM n X x1 x2) (i:Int).toNat (0:Int)>=x1)=true),decide (List.getD (eM n X x1 x2) (i:Int).toNat (0:Int)>=x1)=true->(0:Int)<=(i:Int)+1/\(i:Int)+1<(↑(List.length (eM n X x1 x2)):Int),ri (decide (List.getD (eM n X x1 x2) (i:Int).toNat (0:Int)>=x1)=true),ri (decide (List.getD (eM n X x1 x2) (i:Int).toNat (0:Int)>=x1)=true),ri (decide (List.getD (eM n X x1 x2) (i:Int).toNat (0:Int)>=x1)=true),ri (decide (List.getD (eM n X x1 x2) (i:Int).toNat (0:Int)>=x1)=true),ri ((if decide (List.getD (eM n X x1 x2) (i:Int).toNat (0:Int)>=x1)=true then decide (List.getD (eM n X x1 x2) ((i:Int)+1).toNat (0:Int)<=x2) else false)=true),ri ((if decide (List.getD (eM n X x1 x2) (i:Int).toNat (0:Int)>=x1)=true then decide (List.getD (eM n X x1 x2) ((i:Int)+1).toNat (0:Int)<=x2) else false)=true),(if decide (List.getD (eM n X x1 x2) (i:Int).toNat (0:Int)>=x1)=true then decide (List.getD (eM n X x1 x2) ((i:Int)+1).toNat (0:Int)<=x2) else false)=true->(0:Int)<=(ed:Int)/\(ed:Int)<(↑(List.length (fo n Y y1 y2)):Int),ri ((if decide (List.getD (eM n X x1 x2) (i:Int).toNat (0:Int)>=x1)=true then decide (List.getD (eM n X x1 x2) ((i:Int)+1).toNat (0:Int)<=x2) else false)=true),ri ((if decide (List.getD (eM n X x1 x2) (i:Int).toNat (0:Int)>=x1)=true then decide (List.getD (eM n X x1 x2) ((i:Int)+1).toNat (0:Int)<=x2) else false)=true),ri ((if decide (List.getD (eM n X x1 x2) (i:Int).toNat (0:Int)>=x1)=true then decide (List.getD (eM n X x1 x2) ((i:Int)+1).toNat (0:Int)<=x2) else false)=true),ri ((if decide (List.getD (eM n X x1 x2) (i:Int).toNat (0:Int)>=x1)=true then decide (List.getD (eM n X x1 x2) ((i:Int)+1).toNat (0:Int)<=x2) else false)=true),ri ((if (if decide (List.getD (eM n X x1 x2) (i:Int).toNat (0:Int)>=x1)=true then decide (List.getD (eM n X x1 x2) ((i:Int)+1).toNat (0:Int)<=x2) else false)=true then decide (List.getD (fo n Y y1 y2) (ed:Int).toNat (0:Int)>=y1) else false)=true),(if (if decide (List.getD (eM n X x1 x2) (i:Int).toNat (0:Int)>=x1)=true then decide (List.getD (eM n X x1 x2) ((i:Int)+1).toNat (0:Int)<=x2) else false)=true then decide (List.getD
  (fo n Y y1 y2) (ed:Int).toNat (0:Int)>=y1) else false)=true->dh ((ed:Int)+1),ri ((if (if decide (List.getD (eM n X x1 x2) (i:Int).toNat (0:Int)>=x1)=true then decide (List.getD (eM n X x1 x2) ((i:Int)+1).toNat (0:Int)<=x2) else false)=true then decide (List.getD (fo n Y y1 y2) (ed:Int).toNat (0:Int)>=y1) else false)=true),ri ((if (if decide (List.getD (eM n X x1 x2) (i:Int).toNat (0:Int)>=x1)=true then decide (List.getD (eM n X x1 x2) ((i:Int)+1).toNat (0:Int)<=x2) else false)=true then decide (List.getD (fo n Y y1 y2) (ed:Int).toNat (0:Int)>=y1) else false)=true),(if (if decide (List.getD (eM n X x1 x2) (i:Int).toNat (0:Int)>=x1)=true then decide (List.getD (eM n X x1 x2) ((i:Int)+1).toNat (0:Int)<=x2) else false)=true then decide (List.getD (fo n Y y1 y2) (ed:Int).toNat (0:Int)>=y1) else false)=true->(0:Int)<=(ed:Int)+1/\(ed:Int)+1<(↑(List.length (fo n Y y1 y2)):Int),ri ((if (if decide (List.getD (eM n X x1 x2) (i:Int).toNat (0:Int)>=x1)=true then decide (List.getD (eM n X x1 x2) ((i:Int)+1).toNat (0:Int)<=x2) else false)=true then decide (List.getD (fo n Y y1 y2) (ed:Int).toNat (0:Int)>=y1) else false)=true),ri ((if (if decide (List.getD (eM n X x1 x2) (i:Int).toNat (0:Int)>=x1)=true then decide (List.getD (eM n X x1 x2) ((i:Int)+1).toNat (0:Int)<=x2) else false)=true then decide (List.getD (fo n Y y1 y2) (ed:Int).toNat (0:Int)>=y1) else false)=true),ri ((if (if decide (List.getD (eM n X x1 x2) (i:Int).toNat (0:Int)>=x1)=true then decide (List.getD (eM n X x1 x2) ((i:Int)+1).toNat (0:Int)<=x2) else false)=true then decide (List.getD (fo n Y y1 y2) (ed:Int).toNat (0:Int)>=y1) else false)=true),ri ((if (if decide (List.getD (eM n X x1 x2) (i:Int).toNat (0:Int)>=x1)=true then decide (List.getD (eM n X x1 x2) ((i:Int)+1).toNat (0:Int)<=x2) else false)=true then decide (List.getD (fo n Y y1 y2) (ed:Int).toNat (0:Int)>=y1) else false)=true),ri ((if (if (if decide (List.getD (eM n X x1 x2) (i:Int).toNat (0:Int)>=x1)=true then decide (List.getD (eM n X x1 x2) ((i:Int)+1).toNat (0:Int)<=x2) else false)=true then decide (List.getD (fo n Y y1 y2) (ed:Int).toNat (0:Int)>=y1) else false)=true then decide (List.getD (fo n Y y1 y2) ((ed:Int)+1).toNat (0:Int)<=y2) else false)=true),ri ((if (if (if decide (List.getD (eM n X x1 x2) (i:Int).toNat (0:Int)>=x1)=true then decide (List.getD (eM n X x1 x2) ((i:Int)+1).toNat (0:Int)<=x2) else false)=true then decide (List.getD (fo n Y y1 y2) (ed:Int).toNat (0:Int)>=y1) else false)=true then decide (List.getD (fo n Y y1 y2) ((ed:Int)+1).toNat (0:Int)<=y2) else false)=true),(if (if (if decide (List.getD (eM n X x1 x2) (i:Int).toNat (0:Int)>=x1)=true then decide (List.getD (eM n X x1 x2) ((i:Int)+1).toNat (0:Int)<=x2) else false)=true then decide
  (List.getD (fo n Y y1 y2) (ed:Int).toNat (0:Int)>=y1) else false)=true then decide (List.getD (fo n Y y1 y2) ((ed:Int)+1).toNat (0:Int)<=y2) else false)=true->(0:Int)<=(i:Int)/\(i:Int)<(↑(List.length (eM n X x1 x2)):Int),ri ((if (if (if decide (List.getD (eM n X x1 x2) (i:Int).toNat (0:Int)>=x1)=true then decide (List.getD (eM n X x1 x2) ((i:Int)+1).toNat (0:Int)<=x2) else false)=true then decide (List.getD (fo n Y y1 y2) (ed:Int).toNat (0:Int)>=y1) else false)=true then decide (List.getD (fo n Y y1 y2) ((ed:Int)+1).toNat (0:Int)<=y2) else false)=true),ri ((if (if (if decide (List.getD (eM n X x1 x2) (i:Int).toNat (0:Int)>=x1)=true then decide (List.getD (eM n X x1 x2) ((i:Int)+1).toNat (0:Int)<=x2) else false)=true then decide (List.getD (fo n Y y1 y2) (ed:Int).toNat (0:Int)>=y1) else false)=true then decide (List.getD (fo n Y y1 y2) ((ed:Int)+1).toNat (0:Int)<=y2) else false)=true),(if (if (if decide (List.getD (eM n X x1 x2)
  (i:Int).toNat (0:Int)>=x1)=true then decide (List.getD (eM n X x1 x2) ((i:Int)+1).toNat (0:Int)<=x2) else false)=true then decide (List.getD (fo n Y y1 y2) (ed:Int).toNat (0:Int)>=y1) else false)=true then decide (List.getD (fo n Y y1 y2) ((ed:Int)+1).toNat (0:Int)<=y2) else false)=true->dh ((i:Int)+1),ri ((if (if (if decide (List.getD (eM n X x1 x2) (i:Int).toNat (0:Int)>=x1)=true then decide (List.getD (eM n X x1 x2) ((i:Int)+1).toNat (0:Int)<=x2) else false)=true then decide (List.getD (fo n Y y1 y2) (ed:Int).toNat (0:Int)>=y1) else false)=true then decide (List.getD (fo n Y y1 y2) ((ed:Int)+1).toNat (0:Int)<=y2) else false)=true),ri ((if (if (if decide (List.getD (eM n X x1 x2) (i:Int).toNat (0:Int)>=x1)=true then decide (List.getD (eM n X x1 x2) ((i:Int)+1).toNat (0:Int)<=x2) else false)=true then decide (List.getD (fo n Y y1 y2) (ed:Int).toNat (0:Int)>=y1) else false)=true then decide (List.getD (fo n Y y1 y2) ((ed:Int)+1).toNat (0:Int)<=y2) else false)=true),(if (if (if decide (List.getD (eM n X x1 x2) (i:Int).toNat (0:Int)>=x1)=true then decide (List.getD (eM n X x1 x2) ((i:Int)+1).toNat (0:Int)<=x2) else false)=true then decide (List.getD (fo n Y y1 y2) (ed:Int).toNat (0:Int)>=y1) else false)=true then decide (List.getD (fo n Y y1 y2) ((ed:Int)+1).toNat (0:Int)<=y2) else false)=true->(0:Int)<=(i:Int)+1/\(i:Int)+1<(↑(List.length (eM n X x1 x2)):Int),ri ((if (if (if decide (List.getD (eM n X x1 x2) (i:Int).toNat (0:Int)>=x1)=true then decide (List.getD (eM n X x1 x2) ((i:Int)+1).toNat (0:Int)<=x2) else false)=true then decide (List.getD (fo n Y y1 y2) (ed:Int).toNat (0:Int)>=y1) else false)=true then decide (List.getD (fo n Y y1 y2) ((ed:Int)+1).toNat (0:Int)<=y2) else false)=true),ri ((if (if (if decide (List.getD (eM n X x1 x2) (i:Int).toNat (0:Int)>=x1)=true then decide (List.getD (eM n X x1 x2) ((i:Int)+1).toNat (0:Int)<=x2) else false)=true then decide (List.getD (fo n Y y1 y2) (ed:Int).toNat (0:Int)>=y1) else false)=true then decide (List.getD (fo n Y y1 y2) ((ed:Int)+1).toNat (0:Int)<=y2) else false)=true),ri ((if (if (if decide (List.getD (eM n X x1 x2) (i:Int).toNat (0:Int)>=x1)=true then decide (List.getD (eM n X x1 x2) ((i:Int)+1).toNat (0:Int)<=x2) else false)=true then decide (List.getD (fo n Y y1 y2) (ed:Int).toNat (0:Int)>=y1) else false)=true then decide (List.getD (fo n Y y1 y2) ((ed:Int)+1).toNat (0:Int)<=y2) else false)=true),(if (if (if decide (List.getD (eM n X x1 x2) (i:Int).toNat (0:Int)>=x1)=true then decide (List.getD (eM n X x1 x2) ((i:Int)+1).toNat (0:Int)<=x2) else false)=true then decide (List.getD (fo n Y y1 y2) (ed:Int).toNat (0:Int)>=y1) else false)=true then decide (List.getD (fo n Y y1 y2) ((ed:Int)+1).toNat (0:Int)<=y2) else false)=true->(0:Int)<=(ed:Int)/\(ed:Int)<(↑(List.length (fo n Y y1 y2)):Int),ri ((if (if (if decide (List.getD (eM n X x1 x2) (i:Int).toNat (0:Int)>=x1)=true then decide (List.getD (eM n X x1 x2) ((i:Int)+1).toNat (0:Int)<=x2) else false)=true then decide (List.getD (fo n Y y1 y2) (ed:Int).toNat (0:Int)>=y1) else false)=true then decide (List.getD (fo n Y y1 y2) ((ed:Int)+1).toNat (0:Int)<=y2) else false)=true),ri ((if (if (if decide (List.getD (eM n X x1 x2) (i:Int).toNat (0:Int)>=x1)=true then decide (List.getD (eM n X x1 x2) ((i:Int)+1).toNat (0:Int)<=x2) else false)=true then decide (List.getD (fo n Y y1 y2) (ed:Int).toNat (0:Int)>=y1) else false)=true then decide (List.getD (fo n Y y1 y2) ((ed:Int)+1).toNat (0:Int)<=y2) else false)=true),(if (if (if decide (List.getD (eM n X x1 x2) (i:Int).toNat (0:Int)>=x1)=true then decide (List.getD (eM n X x1 x2) ((i:Int)+1).toNat (0:Int)<=x2) else false)=true then decide (List.getD (fo n Y y1 y2) (ed:Int).toNat (0:Int)>=y1) else false)=true then decide (List.getD (fo n Y y1 y2) ((ed:Int)+1).toNat (0:Int)<=y2) else false)=true->dh ((ed:Int)+1),ri ((if (if (if decide (List.getD (eM n X x1 x2) (i:Int).toNat (0:Int)>=x1)=true then decide (List.getD (eM n X x1 x2) ((i:Int)+1).toNat (0:Int)<=x2) else false)=true then decide (List.getD (fo n Y y1 y2) (ed:Int).toNat (0:Int)>=y1) else false)=true then decide (List.getD (fo n Y y1 y2) ((ed:Int)+1).toNat (0:Int)<=y2) else false)=true),ri ((if (if (if decide (List.getD (eM n X x1 x2) (i:Int).toNat (0:Int)>=x1)=true then decide (List.getD (eM n X x1 x2) ((i:Int)+1).toNat (0:Int)<=x2) else false)=true then decide (List.getD (fo n Y y1 y2) (ed:Int).toNat (0:Int)>=y1) else false)=true then decide (List.getD (fo n Y y1 y2) ((ed:Int)+1).toNat (0:Int)<=y2) else false)=true),(if (if (if decide (List.getD (eM n X x1 x2) (i:Int).toNat (0:Int)>=x1)=true then decide (List.getD (eM n X x1 x2) ((i:Int)+1).toNat (0:Int)<=x2) else false)=true then decide (List.getD (fo n Y y1 y2) (ed:Int).toNat (0:Int)>=y1) else false)=true then decide (List.getD (fo n Y y1 y2) ((ed:Int)+1).toNat (0:Int)<=y2) else false)=true->(0:Int)<=(ed:Int)+1/\(ed:Int)+1<(↑(List.length (fo n Y y1 y2)):Int),ri ((if (if (if decide (List.getD (eM n X x1 x2) (i:Int).toNat (0:Int)>=x1)=true then decide (List.getD (eM n X x1 x2) ((i:Int)+1).toNat (0:Int)<=x2) else false)=true then decide (List.getD (fo n Y y1 y2) (ed:Int).toNat (0:Int)>=y1) else false)=true then decide (List.getD (fo n Y y1 y2) ((ed:Int)+1).toNat (0:Int)<=y2) else false)=true),ri ((if (if (if decide (List.getD (eM n X x1 x2) (i:Int).toNat (0:Int)>=x1)=true then decide (List.getD (eM n X x1 x2) ((i:Int)+1).toNat (0:Int)<=x2) else false)=true then decide (List.getD (fo n Y y1 y2) (ed:Int).toNat (0:Int)>=y1) else false)=true then decide (List.getD (fo n Y y1 y2) ((ed:Int)+1).toNat (0:Int)<=y2) else false)=true),ri ((if (if (if decide (List.getD (eM n X x1 x2) (i:Int).toNat (0:Int)>=x1)=true then decide (List.getD (eM n X x1 x2) ((i:Int)+1).toNat (0:Int)<=x2) else false)=true then decide (List.getD (fo n Y y1 y2) (ed:Int).toNat (0:Int)>=y1) else false)=true then decide (List.getD (fo n Y y1 y2) ((ed:Int)+1).toNat (0:Int)<=y2) else false)=true),ri ((if (if (if decide (List.getD (eM n X x1 x2) (i:Int).toNat (0:Int)>=x1)=true then decide (List.getD (eM n X x1 x2) ((i:Int)+1).toNat (0:Int)<=x2) else false)=true then decide (List.getD (fo n Y y1 y2) (ed:Int).toNat (0:Int)>=y1) else false)=true then decide (List.getD (fo n Y y1 y2) ((ed:Int)+1).toNat (0:Int)<=y2) else false)=true),ri ((if (if (if decide (List.getD (eM n X x1 x2) (i:Int).toNat (0:Int)>=x1)=true then decide (List.getD (eM n X x1 x2) ((i:Int)+1).toNat (0:Int)<=x2) else false)=true then decide (List.getD (fo n Y y1 y2) (ed:Int).toNat (0:Int)>=y1) else false)=true then decide (List.getD (fo n Y y1 y2) ((ed:Int)+1).toNat (0:Int)<=y2) else false)=true),ri ((if (if (if decide (List.getD (eM n X x1 x2) (i:Int).toNat (0:Int)>=x1)=true then decide (List.getD (eM n X x1 x2) ((i:Int)+1).toNat (0:Int)<=x2) else false)=true then decide (List.getD (fo n Y y1 y2) (ed:Int).toNat (0:Int)>=y1) else false)=true then decide (List.getD (fo n Y y1 y2) ((ed:Int)+1).toNat (0:Int)<=y2) else false)=true),(if (if (if decide (List.getD (eM n X x1 x2) (i:Int).toNat (0:Int)>=x1)=true then decide (List.getD (eM n X x1 x2) ((i:Int)+1).toNat (0:Int)<=x2) else false)=true then decide (List.getD (fo n Y y1 y2) (ed:Int).toNat (0:Int)>=y1) else false)=true then decide (List.getD (fo n Y y1 y2) ((ed:Int)+1).toNat (0:Int)<=y2) else false)=true->dv prog 130 [DV.dt n [fun (i:Nat)=>DV.val (Value.int IntKind.i64 (X i)),fun (i:Nat)=>DV.val (Value.int IntKind.i64 (Y i))],DV.val (Value.int IntKind.i64 (List.getD (eM n X x1 x2) (i:Int).toNat (0:Int))),DV.val (Value.int IntKind.i64 (List.getD (eM n X x1 x2) ((i:Int)+1).toNat (0:Int))),DV.val (Value.int IntKind.i64 (List.getD (fo n Y y1 y2) (ed:Int).toNat (0:Int))),DV.val (Value.int IntKind.i64 (List.getD (fo n Y y1 y2) ((ed:Int)+1).toNat (0:Int)))] (DV.val (Value.bool (xq n X Y (List.getD (eM n X x1 x2) (i:Int).toNat (0:Int)+List.getD (eM n X x1 x2)
  ((i:Int)+1).toNat (0:Int)) (List.getD (fo n Y y1 y2) (ed:Int).toNat (0:Int)+List.getD (fo n Y y1 y2) ((ed:Int)+1).toNat (0:Int))))),ri ((if (if (if decide (List.getD (eM n X x1 x2) (i:Int).toNat (0:Int)>=x1)=true then decide (List.getD (eM n X x1 x2) ((i:Int)+1).toNat (0:Int)<=x2) else false)=true then decide (List.getD (fo n Y y1 y2) (ed:Int).toNat (0:Int)>=y1) else false)=true then decide (List.getD (fo n Y y1 y2) ((ed:Int)+1).toNat (0:Int)<=y2) else false)=true)] (VT.ite (if (if (if (if decide (List.getD (eM n X x1 x2) (i:Int).toNat (0:Int)>=x1)=true then decide (List.getD (eM n X x1 x2) ((i:Int)+1).toNat (0:Int)<=x2) else false)=true then decide (List.getD (fo n Y y1 y2) (ed:Int).toNat (0:Int)>=y1) else false)=true then decide (List.getD (fo n Y y1 y2) ((ed:Int)+1).toNat (0:Int)<=y2) else false)=true then xq n X Y (List.getD (eM n X x1 x2) (i:Int).toNat (0:Int)+List.getD (eM n X x1 x2) ((i:Int)+1).toNat (0:Int)) (List.getD (fo n Y y1 y2) (ed:Int).toNat (0:Int)+List.getD (fo n Y y1 y2) ((ed:Int)+1).toNat (0:Int)) else false) (VT.done [true=rG n X Y x1 x2 y1 y2]) (VT.dk [dh ((ed:Int)+1)] (VT.done [(ed:Int)+1=(↑((ed:Int)+1).toNat:Int),n=n,∀i<n,X i=X i,∀i<n,Y i=Y i,
  x1=x1,x2=x2,y1=y1,y2=y2,List.length (eM n X x1 x2)=List.length (eM n X x1 x2),∀i<List.length (eM n X x1 x2),List.getD (eM n X x1 x2) i (0:Int)=List.getD (eM n X x1 x2) i (0:Int),List.length (fo n Y y1 y2)=List.length (fo n Y y1 y2),∀i<List.length (fo n Y y1 y2),List.getD (fo n Y y1 y2) i (0:Int)=List.getD (fo n Y y1 y2) i (0:Int),(i:Int)=(i:Int),Int.toNat ((ed:Int)+1)<=List.length (fo n Y y1 y2) - 1/\ ∀(c:Nat),c<(List.length (fo n Y y1 y2) - 1)*Int.toNat (i:Int)+((ed:Int)+1).toNat->E1 n X Y x1 x2 y1 y2 c=false,List.length (fo n Y y1 y2) - ((ed:Int)+1).toNat<List.length (fo n Y y1 y2) - ed])))) (VT.dk [dh ((i:Int)+1)] (VT.done [(i:Int)+1=(↑((i:Int)+1).toNat:Int),n=n,∀i<n,X i=X i,∀i<n,Y i=Y i,x1=x1,x2=x2,y1=y1,y2=y2,List.length (eM n X x1 x2)=List.length (eM n X x1 x2),∀i<List.length (eM n X x1 x2),List.getD (eM n X x1 x2) i (0:Int)=List.getD (eM n X x1 x2) i (0:Int),List.length (fo n Y y1 y2)=List.length (fo n Y y1 y2),∀i<List.length (fo n Y y1 y2),List.getD (fo n Y y1 y2) i (0:Int)=List.getD (fo n Y y1 y2) i (0:Int),Int.toNat ((i:Int)+1)<=List.length (eM n X x1 x2) - 1/\ ∀(c:Nat),c<(List.length (fo n Y y1 y2) - 1)*Int.toNat ((i:Int)+1)->E1 n X Y x1 x2 y1 y2 c=false,List.length (eM n X x1 x2) - ((i:Int)+1).toNat<List.length (eM n X x1 x2) - i])))) (VT.done [false=rG n X Y x1 x2 y1 y2]))))) (by kernel_rfl) ?_
 simp only [VT.holds,dC,Sq]
 have hn:=fO h
 obtain ⟨hX,hY⟩:=eS h
 have lx:(eM n X x1 x2).length<=n+4:=xF n X 4 _
 have ly:(fo n Y y1 y2).length<=n+4:=xF n Y 4 _
 have bx_: ∀i,i<(eM n X x1 x2).length-> -1000000<=(eM n X x1 x2).getD i 0/\(eM n X x1 x2).getD i 0<=1000000:=xE n X 4 _ 1000000 hX (LB a1 a2).1
 have Ij: ∀i,i<(fo n Y y1 y2).length-> -1000000<=(fo n Y y1 y2).getD i 0/\(fo n Y y1 y2).getD i 0<=1000000:=xE n Y 4 _ 1000000 hY (LB a3 a4).2
 have hN:wC n X Y 4 (yj x1 x2) (yi y1 y2)=((fo n Y y1 y2).length - 1)*((eM n X x1 x2).length - 1):=rfl
 have SP:rG n X Y x1 x2 y1 y2= !decide (∀k,k<((fo n Y y1 y2).length - 1)*((eM n X x1 x2).length - 1)->E1 n X Y x1 x2 y1 y2 k=false):=rfl
 refine ⟨ae _,⟨ae _,Mw false n X Y x1 x2 y1 y2 (by omega),ae _,Mw true n X Y x1 x2 y1 y2 (by omega)⟩,rfl,⟨aq _,fun c hc=>absurd hc (by simp)⟩,fun i ⟨hi,hb⟩=>⟨by unfold dh;omega,fun dR=>⟨rfl,⟨aq _,hb⟩,fun k ⟨hk,gJ⟩=>⟨by unfold dh;omega,fun xC=> ?_,fun iG=> ?_⟩⟩,fun iG=> ?_⟩⟩
 ·have c1:=bx_ i (by omega)
  have c2:=bx_ (i+1) (by omega)
  have c3:=Ij k (by omega)
  have c4:=Ij (k+1) (by omega)
  have hK:=Ug h hx hy (i:=i) (k:=k) (by omega) (by omega)
  have Ff:((fo n Y y1 y2).length - 1)*i+k<((fo n Y y1 y2).length - 1)*((eM n X x1 x2).length - 1):=wB (by omega) (by omega)
  have m2:=AM n X Y _ _ _ _ (by omega) (by omega) hX hY c1 c2 c3 c4
  have q1:dh ((i:Int)+1):=by unfold dh;omega
  have q2:dh ((k:Int)+1):=by unfold dh;omega
  have q3:(0:Int)<=i/\(i:Int)<((eM n X x1 x2).length:Nat):=by omega
  have q4:(0:Int)<=(i:Int)+1/\(i:Int)+1<((eM n X x1 x2).length:Nat):=by omega
  have q5:(0:Int)<=k/\(k:Int)<((fo n Y y1 y2).length:Nat):=by omega
  have q6:(0:Int)<=(k:Int)+1/\(k:Int)+1<((fo n Y y1 y2).length:Nat):=by omega
  refine ⟨⟨q3,fun _=>q1,fun _=>q4,fun _=>q5,fun _=>q2,fun _=>q6,fun _=>q3,fun _=>q1,fun _=>q4,fun _=>q5,fun _=>q2,fun _=>q6,fun _=>m2⟩,fun hx=> ?_,fun hx=>⟨by unfold dh;omega,by omega,⟨by omega,fun c hc=> ?_⟩,by omega⟩⟩
  ·rw [bX,SP,aM,aj]
   intro fp
   have:=fp _ Ff
   rw [hK,bz hx.1,hx.2] at this
   cases this
  ·rcases a8 c (((fo n Y y1 y2).length - 1)*i+k) with h5|h5
   ·exact gJ c h5
   ·rw [show c=((fo n Y y1 y2).length - 1)*i+k by omega,hK]
    generalize xq n X Y _ _=p at*
    by_cases hC:(((eM n X x1 x2).getD i 0>=x1/\(eM n X x1 x2).getD (i+1) 0<=x2)/\(fo n Y y1 y2).getD k 0>=y1)/\(fo n Y y1 y2).getD (k+1) 0<=y2
    ·rw [hx hC,Bool.and_false]
    ·rw [bI hC];rfl
 ·refine ⟨by unfold dh;omega,by omega,⟨by omega,fun c hc=>gJ c ?_⟩,by omega⟩
  have kE:k=(fo n Y y1 y2).length - 1:=by omega
  rw [Nat.mul_add,Nat.mul_one] at hc
  omega
 ·have lV:i=(eM n X x1 x2).length - 1:=by omega
  rw [bX,SP,bj,ah]
  intro c hc
  exact hb c (by rw [lV];exact hc)
noncomputable def FT (b:dL) (x1 y1 z1 x2 y2 z2:Int):eA:={ dz:=[(1,[(20,.UW)]),(5,[(7,TY b),(16,.res fun l=>dB (rG (aN l) (aX l) (aY l) x1 x2 y1 y2))])],loops:=[(0,{ ι:=Nat,keep:=[2,3,5,30,31],boxes:=[2,3],ts:=fun _ i=>[(32,dI (i:Int))],inv:=fun _ i=>i<=b.nS/\ ∀j,j<i->qQ b x1 y1 z1 x2 y2 z2 j=false,mu:=fun _ i=>b.nS - i,rd:=fun _ σ=>(ez (σ.get 32)).toNat })],dK:=[] }
theorem Sl (b:dL) (x1 y1 z1 x2 y2 z2:Int) (hS:b.nS<=1000) (ho:tQ b) (hc:nA x1 y1 z1 x2 y2 z2=0):dv prog 43 [kz b,bx x1 y1 z1 x2 y2 z2] (dB (jN b x1 y1 z1 x2 y2 z2)):=by
 refine dm dJ (FT b x1 y1 z1 x2 y2 z2) (V:=VT.dk [(4:Nat)<=4] (VT.loop Nat (fun (a:Nat)=>a<=b.nS/\ ∀(j:Nat),j<a->qQ b x1 y1 z1 x2 y2 z2 j=false) (0:Int).toNat [(0:Int)=(↑(0:Int).toNat:Int),(4:Nat)=4,∀i<4,List.getD [x1,x2,x2,x1] i (0:Int)=List.getD [x1,x2,x2,x1] i (0:Int),∀i<4,List.getD [y1,y1,y2,y2] i (0:Int)=List.getD [y1,y1,y2,y2] i (0:Int),b.nS=b.nS,∀i<b.nS,b.fl i=b.fl i,∀i<b.nS,b.N i=b.N i/\(∀ed<b.N i,b.X i ed=b.X i ed)/\ ∀ed<b.N i,b.Y i ed=b.Y i ed,(b.nS:Int)=(b.nS:Int),b.name=b.name,b.nS=b.nS,∀i<b.nS,b.fl i=b.fl i,∀i<b.nS,b.N i=b.N i/\(∀ed<b.N i,b.X i ed=b.X i ed)/\ ∀ed<b.N i,b.Y i ed=b.Y i ed,b.dE=b.dE,b.nO=b.nO,∀i<b.nO,b.O i 0=b.O i 0,∀i<b.nO,b.O i 1=b.O i 1,∀i<b.nO,b.O i 2=b.O i 2,∀i<b.nO,b.O i 3=b.O i 3,∀i<b.nO,b.O i 4=b.O i 4,∀i<b.nO,b.O i 5=b.O i 5,b.nB=b.nB,∀i<b.nB,b.B i 0=b.B i 0,∀i<b.nB,b.B i 1=b.B i 1,∀i<b.nB,b.B i 2=b.B i 2,∀i<b.nB,b.B i 3=b.B i 3,∀i<b.nB,b.B i 4=b.B i 4,∀i<b.nB,b.B i 5=b.B i 5,x1=x1,y1=y1,z1=z1,x2=x2,y2=y2,z2=z2] fun (i:Nat)=>VT.ite (decide ((i:Int)<(b.nS:Int))) (VT.dk [(0:Int)<=(i:Int)/\(i:Int)<(b.nS:Int)] (VT.dk [dv prog 107 [DV.agg [DV.val (Value.string b.name),DV.dt b.nS [fun (i:Nat)=>DV.val (Value.int IntKind.i64 (b.fl i)),fun (i:Nat)=>DV.dt (b.N i)
  [fun (ed:Nat)=>DV.val (Value.int IntKind.i64 (b.X i ed)),fun (ed:Nat)=>DV.val (Value.int IntKind.i64 (b.Y i ed))]],DV.val (Value.int IntKind.i64 b.dE),DV.dt b.nO [fun (i:Nat)=>DV.val (Value.int IntKind.i64 (b.O i 0)),fun (i:Nat)=>DV.val (Value.int IntKind.i64 (b.O i 1)),fun (i:Nat)=>DV.val (Value.int IntKind.i64 (b.O i 2)),fun (i:Nat)=>DV.val (Value.int IntKind.i64 (b.O i 3)),fun (i:Nat)=>DV.val (Value.int IntKind.i64 (b.O i 4)),fun (i:Nat)=>DV.val (Value.int IntKind.i64 (b.O i 5))],DV.dt b.nB [fun (i:Nat)=>DV.val (Value.int IntKind.i64 (b.B i 0)),fun (i:Nat)=>DV.val (Value.int IntKind.i64 (b.B i 1)),fun (i:Nat)=>DV.val (Value.int IntKind.i64 (b.B i 2)),fun (i:Nat)=>DV.val (Value.int IntKind.i64 (b.B i 3)),fun (i:Nat)=>DV.val (Value.int IntKind.i64 (b.B i 4)),fun (i:Nat)=>DV.val (Value.int IntKind.i64 (b.B i 5))]],DV.val (Value.int IntKind.i64 (i:Int))] (DV.val (Value.int IntKind.i64 (fj b (i:Int).toNat))),ri (decide (hP (b.fl (i:Int).toNat) [z1]<iD (fj b (i:Int).toNat) [z2])=true),ri (decide (hP (b.fl (i:Int).toNat) [z1]<iD (fj b (i:Int).toNat) [z2])=true),ri (decide (hP (b.fl (i:Int).toNat) [z1]<iD (fj b (i:Int).toNat) [z2])=true),decide (hP (b.fl (i:Int).toNat) [z1]<iD (fj b (i:Int).toNat) [z2])=true->dv prog 108 [DV.dt (b.N (i:Int).toNat) [fun (ed:Nat)=>DV.val (Value.int IntKind.i64 (b.X (i:Int).toNat ed)),fun (ed:Nat)=>DV.val (Value.int
  IntKind.i64 (b.Y (i:Int).toNat ed))],DV.dt 4 [fun (i:Nat)=>DV.val (Value.int IntKind.i64 (List.getD [x1,x2,x2,x1] i (0:Int))),fun (i:Nat)=>DV.val (Value.int IntKind.i64 (List.getD [y1,y1,y2,y2] i (0:Int)))]] (DV.val (Value.bool (rG (b.N (i:Int).toNat) (b.X (i:Int).toNat) (b.Y (i:Int).toNat) x1 x2 y1 y2))),ri (decide (hP (b.fl (i:Int).toNat) [z1]<iD (fj b (i:Int).toNat) [z2])=true)] (VT.ite (if decide (hP (b.fl (i:Int).toNat) [z1]<iD (fj b (i:Int).toNat) [z2])=true then rG (b.N (i:Int).toNat) (b.X (i:Int).toNat) (b.Y (i:Int).toNat) x1 x2 y1 y2 else false) (VT.done [true=jN b x1 y1 z1 x2 y2 z2]) (VT.dk [dh ((i:Int)+1)] (VT.done [(i:Int)+1=(↑((i:Int)+1).toNat:Int),(4:Nat)=4,∀i<4,List.getD [x1,x2,x2,x1] i (0:Int)=List.getD [x1,x2,x2,x1] i (0:Int),∀i<4,List.getD [y1,y1,y2,y2] i (0:Int)=List.getD [y1,y1,y2,y2] i (0:Int),b.nS=b.nS,∀i<b.nS,b.fl i=b.fl i,∀i<b.nS,b.N i=b.N i/\(∀ed<b.N i,b.X i ed=b.X i ed)/\ ∀ed<b.N i,b.Y i ed=b.Y i ed,(b.nS:Int)=(b.nS:Int),b.name=b.name,b.nS=b.nS,∀i<b.nS,b.fl i=b.fl i,∀i<b.nS,b.N i=b.N i/\(∀ed<b.N i,b.X i ed=b.X i ed)/\ ∀ed<b.N i,b.Y i ed=b.Y i ed,b.dE=b.dE,b.nO=b.nO,∀i<b.nO,b.O i 0=b.O i 0,∀i<b.nO,b.O i 1=b.O i 1,∀i<b.nO,b.O i 2=b.O i 2,∀i<b.nO,b.O i 3=b.O i 3,∀i<b.nO,b.O i 4=b.O i 4,∀
  (i:Nat),i<b.nO->b.O i 5=b.O i 5,b.nB=b.nB,∀i<b.nB,b.B i 0=b.B i 0,∀i<b.nB,b.B i 1=b.B i 1,∀i<b.nB,b.B i 2=b.B i 2,∀i<b.nB,b.B i 3=b.B i 3,∀i<b.nB,b.B i 4=b.B i 4,∀i<b.nB,b.B i 5=b.B i 5,x1=x1,y1=y1,z1=z1,x2=x2,y2=y2,z2=z2,Int.toNat ((i:Int)+1)<=b.nS/\ ∀(j:Nat),j<((i:Int)+1).toNat->qQ b x1 y1 z1 x2 y2 z2 j=false,b.nS - ((i:Int)+1).toNat<b.nS - i]))))) (VT.done [false=jN b x1 y1 z1 x2 y2 z2]))) (by kernel_rfl) ?_
 simp only [VT.holds,dC,Sq]
 obtain ⟨a1,a2,a3,a4,a5,a6,hx,hy,hz⟩:=pE hc
 simp only [vA,yv]
 refine ⟨ae _,rfl,⟨aq _,fun j hj=>absurd hj (aG j)⟩,fun i ⟨hi,hb⟩=>⟨fun dR=> ?_,fun iG=> ?_⟩⟩
 ·have N3:=ho i (by omega)
  have hn:=fO N3
  obtain ⟨hX,hY⟩:=eS N3
  have rW: ∀j,qQ b x1 y1 z1 x2 y2 z2 j=(decide (max (b.fl j) z1<min (fj b j) z2)&&rG (b.N j) (b.X j) (b.Y j) x1 x2 y1 y2):=fun j=>rfl
  refine ⟨⟨by omega,dR⟩,⟨VD b i (by omega),fun _=>Uh (b.N i) (b.X i) (b.Y i) 4 (yj x1 x2) (yi y1 y2) (by omega) (by omega) hX hY (by omega) (by omega) (LB a1 a4).1 (LB a2 a5).2⟩,fun h=> ?_,fun h=>⟨by unfold dh;omega,by omega,⟨by omega,fun j hj=> ?_⟩,by omega⟩⟩
  ·rw [bX,jN,aM,aj]
   intro fp
   have:=fp i (by omega)
   rw [rW,bz h.1,h.2] at this
   cases this
  ·rcases a8 j i with h5|h5
   ·exact hb j h5
   ·rw [show j=i by omega,rW]
    by_cases hC:max (b.fl i) z1<min (fj b i) z2
    ·rw [h hC,Bool.and_false]
    ·rw [bI hC];rfl
 ·rw [bX,jN,bj,ah]
  exact fun j hj=>hb j (by omega)
noncomputable def C4 (b:dL) (x1 y1 z1 x2 y2 z2:Int):eA:={ dz:=[(4,[(4,TY b),(32,rMetS)])],loops:=[(0,{ ι:=Nat,keep:=[2,3],boxes:=[2,3],ts:=fun _ i=>[(5,dI (i:Int))],inv:=fun _ i=>i<=b.nS/\ ∀j,j<i->qQ b x1 y1 z1 x2 y2 z2 j=false,mu:=fun _ i=>b.nS - i,rd:=fun _ σ=>(ez (σ.get 5)).toNat })],dK:=[] }
theorem Ow (b:dL) (x1 y1 z1 x2 y2 z2:Int) (hS:b.nS<=1000) (ho:tQ b) (ht: ∀i,i<b.nS->b.fl i<fj b i) (hc:nA x1 y1 z1 x2 y2 z2=0):dv prog 87 [kz b,bx x1 y1 z1 x2 y2 z2] (dB (jN b x1 y1 z1 x2 y2 z2)):=by
 refine dm dJ (C4 b x1 y1 z1 x2 y2 z2) (V:=VT.loop Nat (fun (a:Nat)=>a<=b.nS/\ ∀(j:Nat),j<a->qQ b x1 y1 z1 x2 y2 z2 j=false) (0:Int).toNat [(0:Int)=(↑(0:Int).toNat:Int),b.name=b.name,b.nS=b.nS,∀i<b.nS,b.fl i=b.fl i,∀i<b.nS,b.N i=b.N i/\(∀ed<b.N i,b.X i ed=b.X i ed)/\ ∀ed<b.N i,b.Y i ed=b.Y i ed,b.dE=b.dE,b.nO=b.nO,∀i<b.nO,b.O i 0=b.O i 0,∀i<b.nO,b.O i 1=b.O i 1,∀i<b.nO,b.O i 2=b.O i 2,∀i<b.nO,b.O i 3=b.O i 3,∀i<b.nO,b.O i 4=b.O i 4,∀i<b.nO,b.O i 5=b.O i 5,b.nB=b.nB,∀i<b.nB,b.B i 0=b.B i 0,∀i<b.nB,b.B i 1=b.B i 1,∀i<b.nB,b.B i 2=b.B i 2,∀i<b.nB,b.B i 3=b.B i 3,∀i<b.nB,b.B i 4=b.B i 4,∀i<b.nB,b.B i 5=b.B i 5,x1=x1,y1=y1,z1=z1,x2=x2,y2=y2,z2=z2] fun (i:Nat)=>VT.ite (decide ((i:Int)<(b.nS:Int))) (VT.dk [dv prog 132 [DV.agg [DV.val (Value.string b.name),DV.dt b.nS [fun (i:Nat)=>DV.val (Value.int IntKind.i64 (b.fl i)),fun (i:Nat)=>DV.dt (b.N i) [fun (ed:Nat)=>DV.val (Value.int IntKind.i64 (b.X i ed)),fun (ed:Nat)=>DV.val (Value.int IntKind.i64 (b.Y i ed))]],DV.val (Value.int IntKind.i64 b.dE),DV.dt b.nO [fun (i:Nat)=>DV.val (Value.int IntKind.i64 (b.O i 0)),fun (i:Nat)=>DV.val (Value.int IntKind.i64 (b.O i 1)),fun (i:Nat)=>DV.val (Value.int IntKind.i64 (b.O i 2)),fun (i:Nat)=>DV.val (Value.int IntKind.i64 (b.O i 3)),fun (i:Nat)=>DV.val (Value.int IntKind.i64 (b.O i 4)),fun (i:Nat)=>DV.val (Value.int IntKind.i64 (b.O i (5
  :Nat)))],DV.dt b.nB [fun (i:Nat)=>DV.val (Value.int IntKind.i64 (b.B i 0)),fun (i:Nat)=>DV.val (Value.int IntKind.i64 (b.B i 1)),fun (i:Nat)=>DV.val (Value.int IntKind.i64 (b.B i 2)),fun (i:Nat)=>DV.val (Value.int IntKind.i64 (b.B i 3)),fun (i:Nat)=>DV.val (Value.int IntKind.i64 (b.B i 4)),fun (i:Nat)=>DV.val (Value.int IntKind.i64 (b.B i 5))]],DV.val (Value.int IntKind.i64 (i:Int))] (DV.val (Value.int IntKind.i64 (fj b (i:Int).toNat))),ri (decide (z1<fj b (i:Int).toNat)=true),ri (decide (z1<fj b (i:Int).toNat)=true),ri (decide (z1<fj b (i:Int).toNat)=true),decide (z1<fj b (i:Int).toNat)=true->(0:Int)<=(i:Int)/\(i:Int)<(b.nS:Int),ri (decide (z1<fj b (i:Int).toNat)=true),ri (decide (z1<fj b (i:Int).toNat)=true),ri (decide (z1<fj b (i:Int).toNat)=true),ri (decide (z1<fj b (i:Int).toNat)=true),ri (decide (z1<fj b (i:Int).toNat)=true),ri (decide (z1<fj b (i:Int).toNat)=true),ri ((if decide (z1<fj b (i:Int).toNat)=true then decide (b.fl (i:Int).toNat<z2) else false)=true),(if decide (z1<fj b (i:Int).toNat)=true then decide (b.fl (i:Int).toNat<z2) else false)=true->(if decide (z1<fj b (↑i:
  Int).toNat)=true then decide (b.fl (i:Int).toNat<z2) else false)=true,ri ((if decide (z1<fj b (i:Int).toNat)=true then decide (b.fl (i:Int).toNat<z2) else false)=true),(if decide (z1<fj b (i:Int).toNat)=true then decide (b.fl (i:Int).toNat<z2) else false)=true->(0:Int)<=(i:Int)/\(i:Int)<(b.nS:Int),ri ((if decide (z1<fj b (i:Int).toNat)=true then decide (b.fl (i:Int).toNat<z2) else false)=true),ri ((if decide (z1<fj b (i:Int).toNat)=true then decide (b.fl (i:Int).toNat<z2) else false)=true),ri ((if decide (z1<fj b (i:Int).toNat)=true then decide (b.fl (i:Int).toNat<z2) else false)=true),ri ((if decide (z1<fj b (i:Int).toNat)=true then decide (b.fl (i:Int).toNat<z2) else false)=true),ri ((if decide (z1<fj b (i:Int).toNat)=true then decide (b.fl (i:Int).toNat<z2) else false)=true),ri ((if decide (z1<fj b (i:Int).toNat)=true then decide (b.fl (i:Int).toNat<z2) else false)=true),ri ((if decide (z1<fj b (i:Int).toNat)=true then decide (b.fl (i:Int).toNat<z2) else false)=true),ri ((if decide (z1<fj b (i:Int).toNat)=true then decide (b.fl (i:Int).toNat<z2) else false)=true),ri ((if decide (z1<fj b (i:Int).toNat)=true then decide (b.fl (i:Int).toNat<z2) else false)=true),ri ((if decide (z1<fj b (i:Int).toNat)=true then decide (b.fl (i:Int).toNat<z2) else false)=true),ri ((if decide (z1<fj b (i:Int).toNat)=true then decide (b.fl (i:Int).toNat<z2) else false)=true),(if decide (z1<fj b (i:Int).toNat)=true then decide (b.fl (i:Int).toNat<z2) else false)=true->dv prog 133 [DV.dt (b.N (i:Int).toNat) [fun (ed:Nat)=>DV.val (Value.int IntKind.i64 (b.X (i:Int).toNat ed)),fun (ed:Nat)=>DV.val (Value.int IntKind.i64 (b.Y (i:Int).toNat ed))],DV.val (Value.int IntKind.i64 x1),DV.val (Value.int IntKind.i64 x2),DV.val (Value.int IntKind.i64 y1),DV.val (Value.int IntKind.i64 y2)] (DV.val (Value.bool (rG (b.N (i:Int).toNat) (b.X (i:Int).toNat) (b.Y (i:Int).toNat) x1 x2 y1 y2))),ri ((if decide (z1<fj b (i:Int).toNat)=true then decide (b.fl (i:Int).toNat<z2) else false)=true)] (VT.ite (if (if decide (z1<fj b (i:Int).toNat)=true then decide (b.fl (i:Int).toNat<z2) else false)=true then rG (b.N (i:Int).toNat) (b.X (i:Int).toNat) (b.Y (i:Int).toNat) x1 x2 y1 y2 else false) (VT.done [true=jN b x1 y1 z1 x2 y2 z2]) (VT.dk [dh ((i:Int)+1)] (VT.done [(i:Int)+1=(↑((i:Int)+1).toNat:Int),b.name=b.name,b.nS=b.nS,∀i<b.nS,b.fl i=b.fl i,∀i<b.nS,b.N i=b.N i/\(∀ed<b.N i,b.X i ed=b.X i ed)/\ ∀ed<b.N i,b.Y i ed=b.Y i ed,b.dE=b.dE,b.nO=b.nO,∀i<b.nO,b.O i 0=b.O i 0,∀i<b.nO,b.O i 1=b.O i 1,∀i<b.nO,b.O i 2=b.O i 2,∀i<b.nO,b.O i 3=b.O i 3,∀i<b.nO,b.O i 4=b.O i 4,∀i<b.nO,b.O i 5=b.O i 5,b.nB=b.nB,∀i<b.nB,b.B i 0=b.B i 0,∀i<b.nB,b.B i 1=b.B i 1,∀i<b.nB,b.B i 2=b.B i 2,∀i<b.nB,b.B i 3=b.B i 3,∀i<b.nB,b.B i 4=b.B i 4,∀i<b.nB,b.B i 5=b.B i 5,x1=x1,y1=y1,z1=z1,x2=x2,y2=y2,z2=z2,Int.toNat ((i:Int)+1)<=b.nS/\ ∀(j:Nat),j<((i:Int)+1).toNat->qQ b x1 y1 z1 x2 y2 z2 j=false,b.nS - ((i:Int)+1).toNat<b.nS - i])))) (VT.done [false=jN b x1 y1 z1 x2 y2 z2])) (by kernel_rfl) ?_
 simp only [VT.holds,dC,Sq]
 obtain ⟨a1,a2,a3,a4,a5,a6,hx,hy,hz⟩:=pE hc
 refine ⟨rfl,⟨aq _,fun j hj=>absurd hj (aG j)⟩,fun i ⟨hi,hb⟩=>⟨fun dR=> ?_,fun iG=> ?_⟩⟩
 ·have N3:=ho i (by omega)
  have hti:=ht i (by omega)
  have rW: ∀j,qQ b x1 y1 z1 x2 y2 z2 j=(decide (max (b.fl j) z1<min (fj b j) z2)&&rG (b.N j) (b.X j) (b.Y j) x1 x2 y1 y2):=fun j=>rfl
  have hiff:(z1<fj b i/\b.fl i<z2)↔max (b.fl i) z1<min (fj b i) z2:=by omega
  refine ⟨⟨PW b i (by omega),fun _=>⟨by omega,dR⟩,fun _=>⟨by omega,dR⟩,fun _=>Qz (b.N i) (b.X i) (b.Y i) x1 x2 y1 y2 N3 hx hy a1 a4 a2 a5⟩,fun h=> ?_,fun h=>⟨by unfold dh;omega,by omega,⟨by omega,fun j hj=> ?_⟩,by omega⟩⟩
  ·rw [bX,jN,aM,aj]
   intro fp
   have:=fp i (by omega)
   rw [rW,bz (hiff.1 h.1),h.2] at this
   cases this
  ·rcases a8 j i with h5|h5
   ·exact hb j h5
   ·rw [show j=i by omega,rW]
    by_cases hC:max (b.fl i) z1<min (fj b i) z2
    ·rw [h (hiff.2 hC),Bool.and_false]
    ·rw [bI hC];rfl
 ·rw [bX,jN,bj,ah]
  exact fun j hj=>hb j (by omega)
end Go.Abs
end
section
set_option maxRecDepth 100000
namespace Go.Abs
open Go
def fW (e:Nat->Int):Nat->Int
 |0=>0
 |k+1=>if fW e k≠0 then fW e k else e k
theorem fV {e:Nat->Int}: ∀{n:Nat},(∀j,j<n->e j=0)->fW e n=0
 |0,_=>rfl
 |n+1,h=>by
  rw [fW,fV (fun j hj=>h j (by omega)),ab (by simp),h n (by omega)]
theorem kx {e:Nat->Int} {i:Nat} (h: ∀j,j<i->e j=0) (hi:e i≠0): ∀{n:Nat},i<n->fW e n=e i
 |n+1,hn=>by
  rcases a8 i n with h1|h1
  ·have:=kx h hi h1
   rw [fW,this,ag hi]
  ·have:i=n:=by omega
   subst this
   rw [fW,fV h,ab (by simp)]
theorem lW {e:Nat->Int}: ∀{n:Nat},fW e n=0-> ∀j,j<n->e j=0
 |n+1,h,j,hj=>by
  rw [fW] at h
  by_cases h0:fW e n=0
  ·rw [ab (by rw [h0];simp)] at h
   rcases a8 j n with h1|h1
   ·exact lW h0 j h1
   ·rw [show j=n by omega];exact h
  ·rw [ag h0] at h
   exact absurd h h0
def tR (b:dL) (i:Nat):Bool:=decide ((i=0/\b.fl i≠0)\/(0<i/\b.fl i<=b.fl (i - 1))\/b.fl i>1000000)
def pH (b:dL) (i:Nat):Int:=if gI (b.N i) (b.X i) (b.Y i)≠0 then gI (b.N i) (b.X i) (b.Y i) else if tR b i=true then 10 else if 0<i/\nW (b.N (i - 1)) (b.X (i - 1)) (b.Y (i - 1)) (b.N i) (b.X i) (b.Y i)=false then 12 else 0
theorem uP {b:dL} {i:Nat} (h:pH b i=0):gI (b.N i) (b.X i) (b.Y i)=0/\tR b i=false:=by
 unfold pH at h
 split at h
 ·rename_i h1;exact absurd h h1
 ·rename_i h1
  split at h
  ·cases h
  ·rename_i h2
   exact ⟨bP.1 h1,by simpa using h2⟩
theorem st_ok {b:dL} (h: ∀i,i<b.nS->pH b i=0):tQ b/\(∀i,i<b.nS->0<=b.fl i/\b.fl i<=1000000)/\(∀i,i+1<b.nS->b.fl i<b.fl (i+1)):=by
 have ho: ∀i,i<b.nS->((i≠0\/b.fl i=0)/\(i=0\/b.fl (i - 1)<b.fl i)/\b.fl i<=1000000):=fun i hi=>by
  have:=(uP (h i hi)).2
  rw [tR,aj] at this
  refine ⟨?_,?_,?_⟩
  ·rcases cg i with h0|h0
   ·right
    by_cases hf:b.fl i=0
    ·exact hf
    ·exact absurd (.inl ⟨h0,hf⟩) this
   ·left;omega
  ·rcases cg i with h0|h0
   ·left;exact h0
   ·right;omega
  ·omega
 have Rg: ∀i,i<b.nS->0<=b.fl i:=fun i=>by
  induction i with
  |zero=>intro hi;have:=(ho 0 hi).1;rcases this with h|h<;>omega
  |succ i ih=>
   intro hi
   have h1:=ih (by omega)
   have h2:=(ho (i+1) hi).2.1
   simp only [Nat.add_sub_cancel] at h2
   omega
 refine ⟨fun i hi=>(uP (h i hi)).1,fun i hi=>⟨Rg i hi,(ho i hi).2.2⟩,fun i hi=> ?_⟩
 have h2:=(ho (i+1) hi).2.1
 simp only [Nat.add_sub_cancel] at h2
 omega
noncomputable def uD (b:dL):eA:={ dz:=[(4,[(2,G3)]),(11,[(11,rCov)])],loops:=[(0,{ ι:=Nat,keep:=[0,6,7],boxes:=[],ts:=fun _ i=>[(8,dI (i:Int))],inv:=fun _ i=>i<=b.nS/\ ∀j,j<i->pH b j=0,mu:=fun _ i=>b.nS - i,rd:=fun _ σ=>(ez (σ.get 8)).toNat })],dK:=[] }
namespace w1c
noncomputable section
variable (z:dL) (i0:Nat) (p:Prop) (P:List Prop) (a:Int) (g:Bool)
abbrev x0:=decide ((i0:Int)>(0:Int))
abbrev x1:=Int.toNat (i0:Int)
abbrev x2:=(i0:Int) - 1
abbrev x3:List Prop:=ri (x0 i0=true)::P
abbrev x4:=Int.toNat (x2 i0)
abbrev x5:=DV.val (Value.int IntKind.i64 a)
abbrev x6:=Int.toNat ((i0:Int)+1)
abbrev x7:List Prop:=(x0 i0=true->p)::x3 i0 (x3 i0 P)
abbrev x8:List Prop:=p::rf z.nS::(∀i0<z.nS,rf (z.fl i0))::P
abbrev x9:= ∀i0<z.nS,rf (z.N i0)/\(∀i1<z.N i0,rf (z.X i0 i1))/\(∀i1<z.N i0,rf (z.Y i0 i1))
abbrev dM:=VT.done [a=fW (pH z) z.nS]
abbrev dQ:=nW (z.N (x4 i0)) (z.X (x4 i0)) (z.Y (x4 i0)) (z.N (x1 i0)) (z.X (x1 i0)) (z.Y (x1 i0))
abbrev dS:=if (x0 i0)=true then g else false
abbrev dT:=x8 z p (x8 z (x9 z) (x9 z::P))
abbrev dU:List DV:=[DV.dt (z.N (x1 i0)) [fun i1=>x5 (z.X (x1 i0) i1),fun i1=>x5 (z.Y (x1 i0) i1)]]
abbrev dY:=x7 i0 (0<=x2 i0/\x2 i0<(z.nS:Int)) (x3 i0 (x3 i0 P))
abbrev eb:List Prop:=ri (((i0:Int)==0)=true)::P
abbrev eE:=gI (z.N (x1 i0)) (z.X (x1 i0)) (z.Y (x1 i0))
abbrev eH:=VT.dk (x3 i0 (x7 i0 (dh (x2 i0)) (dY z i0 (x3 i0 (x7 i0 (dv prog 146 (DV.dt (z.N (x4 i0)) [fun i1=>x5 (z.X (x4 i0) i1),fun i1=>x5 (z.Y (x4 i0) i1)]::dU z i0) (DV.val (Value.bool (dQ z i0)))) []))))) (VT.ite (dS i0 (!(dQ z i0))) (dM z (12:Int)) (VT.dk [dh ((i0:Int)+1)] (VT.done (dT z ((i0:Int)+1=(↑(x6 i0):Int)) [rf (z.nS:Int),x6 i0<=z.nS/\(∀i1<x6 i0,pH z i1=0),z.nS - x6 i0<z.nS - i0]))))
abbrev eT:=decide ((z.fl (x1 i0))<=(z.fl (x4 i0)))
abbrev eG:=VT.ite g (dM z (10:Int)) (eH z i0)
abbrev eZ:=if ((i0:Int)==0)=true then (z.fl (x1 i0) !=0) else false
abbrev xt:VT:=VT.loop Nat (fun i0=>i0<=z.nS/\(∀i1<i0,pH z i1=0)) (Int.toNat 0) (dT z (0=(↑(Int.toNat 0):Int)) [rf (z.nS:Int)]) (fun i0=>VT.ite (decide ((i0:Int)<(z.nS:Int))) (VT.dk [0<=(i0:Int)/\(i0:Int)<(z.nS:Int)] (VT.dk [dv prog 48 (dU z i0) (x5 (eE z i0))] (VT.ite (eE z i0 !=0) (dM z (eE z i0)) (VT.dk (eb i0 (eb i0 (eb i0 []))) (VT.ite (eZ z i0) (eG z i0 (eZ z i0)) (VT.dk (x3 i0 (x3 i0 (x7 i0 (dh (x2 i0)) (dY z i0 (x3 i0 []))))) (VT.ite (dS i0 (eT z i0)) (VT.ite (dS i0 (eT z i0)) (dM z (10:Int)) (eH z i0)) (eG z i0 (decide ((z.fl (x1 i0))>(1000000:Int))))))))))) (dM z (0:Int)))
end
end w1c
open w1c in
theorem BA (b:dL) (hS:b.nS<=1000) (hN: ∀i,i<b.nS->b.N i<=1000):dv prog 105 [.dt b.nS (Nh b)] (dI (fW (pH b) b.nS)):=by
 refine dm dJ (uD b) (V:=xt b) (by kernel_rfl) ?_
 simp only [xt,x0,x1,x2,x3,x4,x5,x6,x7,x8,x9,dM,dQ,dS,dT,dU,dY,eb,eE,eH,eT,eG,eZ,Rf,VT.holds,dC,Sq]
 refine ⟨rfl,⟨aq _,fun j hj=>absurd hj (aG j)⟩,fun i ⟨hi,hb⟩=>⟨fun dR=> ?_,fun iG=>by rw [fV (fun j hj=>hb j (by omega))]⟩⟩
 have hp:((i:Int) - 1).toNat=i - 1:=by omega
 simp only [hp]
 have hNi:=hN i (by omega)
 have mh:pH b i=if gI (b.N i) (b.X i) (b.Y i)≠0 then gI (b.N i) (b.X i) (b.Y i) else if tR b i=true then 10 else if 0<i/\nW (b.N (i - 1)) (b.X (i - 1)) (b.Y (i - 1)) (b.N i) (b.X i) (b.Y i)=false then 12 else 0:=rfl
 have q1:(i:Int)>0->dh ((i:Int) - 1):=fun _=>by unfold dh;omega
 have q2:(i:Int)>0->0<=(i:Int) - 1/\(i:Int) - 1<(b.nS:Int):=fun _=>by omega
 refine ⟨⟨by omega,dR⟩,kU _ _ _ (by omega),fun h=> ?_,fun hc=> ?_⟩
 ·have e:pH b i=gI (b.N i) (b.X i) (b.Y i):=by rw [mh,ag h]
  rw [kx hb (by rw [e];exact h) (by omega),e]
 ·have nj:tR b i=true->10=fW (pH b) b.nS:=fun h=>by
   have e:pH b i=10:=by rw [mh,ab (by rw [hc];simp),ag h]
   rw [kx hb (by rw [e];simp) (by omega),e]
  have hcov:(i:Int)>0->dv prog 146 [my (b.N (i - 1)) (b.X (i - 1)) (b.Y (i - 1)),my (b.N i) (b.X i) (b.Y i)] (dB (nW (b.N (i - 1)) (b.X (i - 1)) (b.Y (i - 1)) (b.N i) (b.X i) (b.Y i))):=fun h=>by
   have N4:=(uP (hb (i - 1) (by omega))).1
   have n1:=fO hc
   have n2:=fO N4
   exact R4 _ _ _ _ _ _ (by omega) (by omega) (eS N4).1 (eS N4).2 (by omega) (by omega) (eS hc).1 (eS hc).2
  have h12:tR b i=false->(i:Int)>0/\nW (b.N (i - 1)) (b.X (i - 1)) (b.Y (i - 1)) (b.N i) (b.X i) (b.Y i)=false->12=fW (pH b) b.nS:=fun h h2=>by
   have e:pH b i=12:=by rw [mh,ab (by rw [hc];simp),ab (by rw [h];simp),ag ⟨by omega,h2.2⟩]
   rw [kx hb (by rw [e];simp) (by omega),e]
  have hnext:tR b i=false->((i:Int)>0->nW (b.N (i - 1)) (b.X (i - 1)) (b.Y (i - 1)) (b.N i) (b.X i) (b.Y i)=true)-> ∀j,j<i+1->pH b j=0:=fun h h2 j hj=>by
   rcases a8 j i with h3|h3
   ·exact hb j h3
   ·rw [show j=i by omega,mh,ab (by rw [hc];simp),ab (by rw [h];simp),ab]
    rintro ⟨h4,h5⟩
    rw [h2 (by omega)] at h5
    cases h5
  refine ⟨fun h1=>⟨fun _=>nj (bz (.inl ⟨by omega,h1.2⟩)),fun hx=>absurd (hx h1.1) h1.2⟩,fun h1=>⟨⟨q1,q2⟩,fun h2=>⟨fun _=>nj (bz (.inr (.inl ⟨by omega,h2.2⟩))),fun hx=>absurd h2.2 (hx h2.1)⟩,fun h2=>⟨fun h3=>nj (bz (.inr (.inr h3))),fun h3=> ?_⟩⟩⟩
  have ho:tR b i=false:=by
   rw [tR,aj]
   rintro (h|h|h)
   ·exact h.2 (h1 (by omega))
   ·exact h2 (by omega) h.2
   ·exact h3 h
  exact ⟨⟨q1,q2,hcov⟩,h12 ho,fun h4=>⟨by unfold dh;omega,by omega,⟨by omega,hnext ho h4⟩,by omega⟩⟩
end Go.Abs
end
