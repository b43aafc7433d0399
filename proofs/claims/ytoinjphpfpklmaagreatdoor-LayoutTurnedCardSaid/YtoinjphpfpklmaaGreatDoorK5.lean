/- Contracts and what they stand on. -/
import Derived.Test.YtoinjphpfpklmaaGreatDoorAbsT
import Derived.Deep.Fields
import Derived.ChangeSame
import Derived.Lib.SmallJoins
import Derived.Carry
import Derived.OpenShut
import Derived.WideKeyArgs
import Derived.Test.YtoinjphpfpklmaaGreatDoorProg
set_option linter.unusedVariables false
set_option linter.unusedSimpArgs false
section
namespace Go.Abs
open Go.RowKit Go.WideShapes Go.ChangeShapes Go.Deep Go.Joins Go.WideElems
section
variable {H:Type} {enc:TypeId×Value->H} {P:Program} {w:World} {base:Nat} {spare:Nat->Bool} {held:Bool}
theorem DN {t e:TypeId} {fs:Array Field} {fuel:Nat} {cs:List Value} {x:DataW H×List MemPlace} (ht:P.underlying t=some (.slice e)) (he:P.underlying e=some (.struct fs))
 (jh:oneCellFields P fs=true) (hC:P.cellsOf e=fs.size) (hint: ∀(j:Nat) (f:Field),fs[j]? =some f->P.underlying f.type=some (.int .i64)) (h:DataW.trod enc P w base spare held fuel t cs=some x):
 cs=[.slice none 0 0]\/ ∃(a:Addr) (len cap:Nat),cs=[.slice (some a) len cap]/\len<=cap/\
  ∀i j,i<len->j<fs.size-> ∃z,w.cell? (a.add (i*fs.size+j))=some (.int .i64 z):=by
 rcases open_slice ht h with ⟨h0,_⟩|⟨a,len,cap,m,n,D,Pl,uF,_,hl,_,hm,_,hi⟩
 ·exact .inl h0
 ·refine .inr ⟨a,len,cap,uF,hl,fun i j hil hj=> ?_⟩
  have Zv:i<m:=by rw [hm];split<;>omega
  obtain ⟨kS,hc,ht'⟩:=hi i Zv
  rw [hC] at hc
  obtain ⟨ys,n',_,_,hlen,hyl,hf⟩:=DataW.trod_struct he ht'
  obtain ⟨_,iH,rW⟩:=World.cells?_some hc
  have Cq:fs[j]? =some fs[j]:=az hj
  obtain ⟨ho,hk⟩:=hone_of jh j _ Cq
  have fe:=rW j hj
  have h1:=hf j _ Cq
  rw [ho,hk] at h1
  have HB:(kS.drop j).take 1=[kS[j]'(by omega)]:=by
   rw [cG (by omega)]
   rfl
  rw [HB] at h1
  have hys:ys[j]? =some (ys[j]'(by omega)):=ak (by omega)
  obtain ⟨z,hz,_,_⟩:=DataW.trod_int (hint j _ Cq) (h1.trans hys)
  refine ⟨z,?_⟩
  rw [<-Go.Deep.add_add,fe,ak (by omega)]
  exact de some (List.cons.inj hz).1
theorem Eo {W W':World} (hl:laidOutB P=true) (hb:Below W.heap.size W W'): ∀{ts:List TypeId} {vs:List Value} {ds:List (DataW H)} {ps:List MemPlace} {sp:Nat->Bool},
 (ts.all fun t=>P.readableRec t&&decide (t<P.types.size))=true->DataW.TrodAll enc P W 0 (fun _=>true) true ts vs ds ps->(∀x∈ps,x.block<W.heap.size)->(∀x∈ps,sp x.block=true)->
   DataW.TrodAll enc P W' 0 sp true ts vs ds ps
 |[],vs,ds,ps,sp,_,h,_,_=>by
  obtain ⟨rfl,rfl,rfl⟩:=trodAll_nil h
  exact trodAll_mk0
 |t::ts,vs,ds,ps,sp,ha,h,dR,hs=>by
  obtain ⟨v,vs',d,ds',p,q,rfl,rfl,rfl,h0,h1⟩:=trodAll_cons h
  rw [List.all_cons,an,an,ah] at ha
  exact trodAll_cons_mk (Trod_stays hl ha.1.1 ha.1.2 h0 (fun x hx=>hb.lib.same (dR x (aP _ hx))) fun x hx=>hs x (aP _ hx))
   (Eo hl hb ha.2 h1 (fun x hx=>dR x (aU _ hx)) fun x hx=>hs x (aU _ hx))
theorem Cf {f:Func} {s:ChangeSpec} {apart fresh handsOn again:Bool} {W W':World} {args:Array Value} {v:Value} {ds gs:List (DataW H)} {before pa pv:List MemPlace}
 (hW:DataW.Whole enc P f.params.toList s.vars apart W args.toList ds gs before)
 (jb: ∀(b:Nat) (sp:Nat->Bool) (hd:Bool),DataW.TrodAll enc P W' b sp hd f.resultTypes.toList (v.resultList f.resultTypes.size) (s.fn H (ds++gs)).results [])
 (gK: ∀sp:Nat->Bool,(∀p∈before,sp p.block=true)->DataW.TrodAll enc P W' 0 sp true f.params.toList args.toList (s.fn H (ds++gs)).args pa)
 (We: ∀sp:Nat->Bool,(∀p∈before,sp p.block=true)->DataW.TrodVars enc P W' sp s.vars (s.fn H (ds++gs)).vars pv)
 (D2:before=pa++pv) (hb:Below W.heap.size W W')
 (ke: ∀(j:Nat) (t:TypeId) (r:Value),f.resultTypes[j]? =some t->(v.resultList f.resultTypes.size)[j]? =some r->Value.okWide P W' .any 0 t r):
 s.post enc P f apart fresh handsOn again W args v W':=by
 have dR: ∀p∈before,p.block<W.heap.size:=fun p hp=>hW.lt p hp
 have hold: ∀p∈before,(fun b=>decide (b<W.heap.size)) p.block=true:=fun p hp=>by simpa using dR p hp
 refine ⟨ds,gs,before,[],pa,pv,hW,jb _ _ _,gK _ hold,We _ hold,World.keptBut_mono (fun p hp=>⟨hp,?_⟩) (hb.lib.frame (·∈before)),fun _=> ?_⟩
 ·rw [D2,aO] at hp
  exact Or.inr hp
 ·obtain ⟨_,_,_,_,_,hz,hn⟩:=hW
  refine ⟨ke,_,_,([]++pa)++pv,⟨[]++pa,pv,trodAll_append (gK _ (fun _ _=>rfl)) (jb _ _ _),We _ (fun _ _=>rfl),rfl,?_,?_⟩,?_⟩
  ·intro b off hp
   have nU:MemPlace.cell b off∈before:=by rw [D2];simpa using hp
   rw [hb.lib.frozen (dR _ nU)]
   exact hz b off nU
  ·intro ha
   have:=hn ha
   rw [D2] at this
   simpa using this
  ·intro p hp _
   rw [D2]
   simpa using hp
end
theorem Nn {w:World} {S:Nat->Prop} (hS: ∀b,S b) {a:Addr} {len cap:Nat} (hl:len<=cap) (h: ∀i j,i<len->j<2-> ∃z,w.cell? (a.add (i*2+j))=some (.int .i64 z)):
 ∃X Y:Nat->Int,dA (fu w S) (.dt len [fun i=> .val (.int .i64 (X i)),fun i=> .val (.int .i64 (Y i))]) (.slice (some a) len cap):=by
 classical
 refine ⟨fun i=>if hi:i<len then (h i 0 hi (by decide)).choose else 0,fun i=>if hi:i<len then (h i 1 hi (by decide)).choose else 0,?_⟩
 refine .dt (fun i j=> .int .i64 (if hi:i<len then (if j=0 then (h i 0 hi (by decide)).choose else (h i 1 hi (by decide)).choose) else 0)) hl (fun i j f hi hj=>⟨a,rfl,?_,hS _⟩) (fun _=>by simp) (fun _ _ _ _ _=>rfl) fun i j f hi hj=> ?_
 ·match j,hj with
  |0,_=>rw [dif_pos hi,ag rfl];exact .inl ⟨(h i 0 hi (by decide)).choose_spec,rfl⟩
  |1,_=>rw [dif_pos hi,ab (by decide)];exact .inl ⟨(h i 1 hi (by decide)).choose_spec,rfl⟩
 ·match j,hj with
  |0,hj=>cases hj;simp only [ba];exact .val _
  |1,hj=>cases hj;simp only [show ¬(1:Nat)=0 by decide,cE];exact .val _
theorem uZ {w:World} {S:Nat->Prop} (dp:List (Nat->DV)):dA (fu w S) (.dt 0 dp) (.slice none 0 0):=
 .dt (fun _ _=> .bool false) (ae _) (fun _ _ _ h=>absurd h (by omega)) (fun h=>absurd h (by omega)) (fun _ _ _ h=>absurd h (by omega)) (fun _ _ _ h=>absurd h (by omega))
end Go.Abs
end
section
set_option maxRecDepth 100000
namespace Go.Abs
open Go
noncomputable abbrev prog:Program:=Go.Proofs.Tryz.prog
theorem dJ:prog.follows .mixedOrders=true:=by kernel_rfl
abbrev my (n:Nat) (X Y:Nat->Int):DV:= .dt n [fun i=> .val (.int .i64 (X i)),fun i=> .val (.int .i64 (Y i))]
abbrev dP (x y:Int):DV:= .val (.agg #[.int .i64 x,.int .i64 y])
def ix (n:Nat) (i:Int):Nat:=((i+(n:Int))%(n:Int)).toNat
def kd (n:Nat) (X:Nat->Int):Prop:= ∀k,k<n-> -1000000<=X k/\X k<=1000000
theorem iV {n:Nat} {i:Int} (hn:0<n):ix n i<n:=by
 have:=br (i+n) (show (0:Int)<n by omega)
 have:=bm (i+n) (show (n:Int)≠0 by omega)
 unfold ix;omega
def HX (a b c d:Int):Int:=if b=d/\a<c then 0 else if a=c/\b<d then 1 else if b=d/\a>c then 2 else if a=c/\b>d then 3 else 0
def vZ (a b c d:Int):Bool:=decide ((b=d/\a≠c)\/(a=c/\b≠d))
def dD (n:Nat) (X Y:Nat->Int) (i:Int):Int:=HX (X (ix n i)) (Y (ix n i)) (X (ix n (i+1))) (Y (ix n (i+1)))
def dO (n:Nat) (X Y:Nat->Int) (i:Int):Bool:=vZ (X (ix n i)) (Y (ix n i)) (X (ix n (i+1))) (Y (ix n (i+1)))
theorem eP (n:Nat) (X Y:Nat->Int) (i:Int):0<=dD n X Y i/\dD n X Y i<=3:=by
 unfold dD HX;grind
def lo (n:Nat) (X:Nat->Int) (i:Int):Int:=min (X (ix n i)) (X (ix n (i+1)))
def hi (n:Nat) (X:Nat->Int) (i:Int):Int:=max (X (ix n i)) (X (ix n (i+1)))
abbrev aN (l:List DV):Nat:=lenOf (arg l 0)
abbrev aX (l:List DV):Nat->Int:=ic 0 (arg l 0)
abbrev aY (l:List DV):Nat->Int:=ic 1 (arg l 0)
abbrev aI (l:List DV) (j:Nat):Int:=ez (arg l j)
def SM:fx:= .res fun l=>dP (aX l (ix (aN l) (aI l 1))) (aY l (ix (aN l) (aI l 1)))
def Qe:fx:= .res fun l=> .fC [dP (lo (aN l) (aX l) (aI l 1)) (lo (aN l) (aY l) (aI l 1)),dP (hi (aN l) (aX l) (aI l 1)) (hi (aN l) (aY l) (aI l 1))]
def YJ:fx:= .res fun l=> .fC [dI (dD (aN l) (aX l) (aY l) (aI l 1)),dB (dO (aN l) (aX l) (aY l) (aI l 1))]
def Qd:fx:= .res fun l=>dI (dD (aN l) (aX l) (aY l) (aI l 1))
def Qf:fx:= .res fun l=>dB (decide (dD (aN l) (aX l) (aY l) (aI l 1)=(dD (aN l) (aX l) (aY l) (aI l 1 - 1)+1)%4))
def YF:fx:= .res fun l=>dB (decide (lo (aN l) (aX l) (aI l 1)<=hi (aN l) (aX l) (aI l 2)/\lo (aN l) (aX l) (aI l 2)<=hi (aN l) (aX l) (aI l 1)/\lo (aN l) (aY l) (aI l 1)<=hi (aN l) (aY l) (aI l 2)/\lo (aN l) (aY l) (aI l 2)<=hi (aN l) (aY l) (aI l 1)))
def gN (x:Int):Bool:=decide (-1000000<=x/\x<=1000000)
def yq:fx:= .res fun l=>dB (gN (aI l 0))
def rBad:fx:= .res fun l=>dB (!(gN (fI 0 (arg l 0))&&gN (fI 1 (arg l 0))))
def rAbs:fx:= .res fun l=>dI ((aI l 0).natAbs:Int)
noncomputable def SG (n:Nat) (X Y:Nat->Int) (i:Int):eA:={ dz:=[(1,[(7,.pos)])],loops:=[],dK:=[] }
theorem CN (n:Nat) (X Y:Nat->Int) (i:Int) (hn:0<n) (jO:n<=1000) (h1: -(n:Int)<=i) (h2:i<=1000):dv prog 109 [my n X Y,dI i] (dP (X (ix n i)) (Y (ix n i))):=by
 refine dm dJ (SG n X Y i) (V:=VT.dk [dh (i+(n:Int)),(0:Int)<=i+(n:Int)/\(0:Int)<(n:Int),(0:Int)<=(i+(n:Int))%(n:Int)/\(i+(n:Int))%(n:Int)<(n:Int)] (VT.done [X ((i+(n:Int))%(n:Int)).toNat=X (ix n i),Y ((i+(n:Int))%(n:Int)).toNat=Y (ix n i)])) (by kernel_rfl) ?_
 simp only [VT.holds,dC,dh]
 have:=br (i+n) (show (0:Int)<n by omega)
 have:=bm (i+n) (show (n:Int)≠0 by omega)
 refine ⟨⟨by omega,by omega,by omega⟩,rfl,rfl⟩
noncomputable def OF (x:Int):eA:={ dz:=[],loops:=[],dK:=[] }
theorem MY (x:Int) (h: -9223372036854775807<=x/\x<=9223372036854775807):dv prog 77 [dI x] (dI (x.natAbs:Int)):=by
 refine dm dJ (OF x) (V:=VT.dk [dh (-x)] (VT.done [hP x [-x]=(↑(Int.natAbs x):Int)])) (by kernel_rfl) ?_
 simp only [VT.holds,dC,dh,hP]
 exact ⟨by omega,by split<;>omega⟩
noncomputable def F1 (x:Int):eA:={ dz:=[],loops:=[],dK:=[] }
theorem rP (x:Int) :dv prog 79 [dI x] (dB (gN x)):=by
 refine dm dJ (F1 x) (V:=VT.dk [decide (x>=(-1000000:Int))=true->decide (x>=(-1000000:Int))=true,decide (x>=(-1000000:Int))=true->decide (x>=(-1000000:Int))=true] (VT.done [(if decide (x>=(-1000000:Int))=true then decide (x<=1000000) else false)=gN x])) (by kernel_rfl) ?_
 simp only [VT.holds,dC,gN]
 grind
noncomputable def K5 (n:Nat) (X Y:Nat->Int) (i:Int):eA:={ dz:=[(1,[(2,SM),(6,SM)])],loops:=[],dK:=[] }
namespace w3
noncomputable section
structure Z where
 n:Nat
 X:Nat->Int
 Y:Nat->Int
 i:Int
variable (z:Z) (a b:Int) (A:DV)
abbrev x0:=DV.val (Value.int IntKind.i64 a)
abbrev x1:=z.X (ix z.n (z.i+1))
abbrev x2:=z.Y (ix z.n (z.i+1))
abbrev x3:=DV.val (Value.agg (Array.mk [Value.int IntKind.i64 a,Value.int IntKind.i64 b]))
abbrev x4:=dv prog 109 [DV.dt z.n [fun i0=>x0 (z.X i0),fun i0=>x0 (z.Y i0)],x0 a] A
abbrev xt:VT:=VT.dk [x4 z z.i (x3 (z.X (ix z.n z.i)) (z.Y (ix z.n z.i))),dh (z.i+1),x4 z (z.i+1) (x3 (x1 z) (x2 z))] (VT.done [iD (z.X (ix z.n z.i)) [x1 z]=lo z.n z.X z.i,iD (z.Y (ix z.n z.i)) [x2 z]=lo z.n z.Y z.i,hP (z.X (ix z.n z.i)) [x1 z]=hi z.n z.X z.i,hP (z.Y (ix z.n z.i)) [x2 z]=hi z.n z.Y z.i])
end
end w3
open w3 in
theorem JV (n:Nat) (X Y:Nat->Int) (i:Int) (hn:0<n) (jO:n<=1000) (h1: -(n:Int)<=i) (h2:i<=900):dv prog 150 [my n X Y,dI i] (.fC [dP (lo n X i) (lo n Y i),dP (hi n X i) (hi n Y i)]):=by
 refine dm dJ (K5 n X Y i) (V:=xt ⟨n,X,Y,i⟩) (by kernel_rfl) ?_
 simp only [xt,x0,x1,x2,x3,x4,Rf,VT.holds,dC,iD,hP]
 refine ⟨⟨CN n X Y i hn jO h1 (by omega),by unfold dh;omega,CN n X Y (i+1) hn jO (by omega) (by omega)⟩,?_⟩
 simp only [lo,hi]
 refine ⟨?_,?_,?_,?_⟩<;>split<;>omega
noncomputable def OE (n:Nat) (X Y:Nat->Int) (i:Int):eA:={ dz:=[(1,[(2,SM),(6,SM)])],loops:=[],dK:=[] }
theorem R2 (n:Nat) (X Y:Nat->Int) (i:Int) (hn:0<n) (jO:n<=1000) (h1: -(n:Int)<=i) (h2:i<=900):dv prog 110 [my n X Y,dI i] (.fC [dI (dD n X Y i),dB (dO n X Y i)]):=by
 refine dm dJ (OE n X Y i) (V:=VT.dk [dv prog 109 [DV.dt n [fun (i:Nat)=>DV.val (Value.int IntKind.i64 (X i)),fun (i:Nat)=>DV.val (Value.int IntKind.i64 (Y i))],DV.val (Value.int IntKind.i64 i)] (DV.val (Value.agg { toList:=[Value.int IntKind.i64 (X (ix n i)),Value.int IntKind.i64 (Y (ix n i))] })),dh (i+1),dv prog 109 [DV.dt n [fun (i:Nat)=>DV.val (Value.int IntKind.i64 (X i)),fun (i:Nat)=>DV.val (Value.int IntKind.i64 (Y i))],DV.val (Value.int IntKind.i64 (i+1))] (DV.val (Value.agg { toList:=[Value.int IntKind.i64 (X (ix n (i+1))),Value.int IntKind.i64 (Y (ix n (i+1)))] }))] (VT.dk [(Y (ix n i)==Y (ix n (i+1)))=true->(Y (ix n i)==Y (ix n (i+1)))=true,(Y (ix n i)==Y (ix n (i+1)))=true->(Y (ix n i)==Y (ix n (i+1)))=true,(Y (ix n i)==Y (ix n (i+1)))=true->(Y (ix n i)==Y (ix n (i+1)))=true,(Y (ix n i)==Y (ix n (i+1)))=true->(Y (ix n i)==Y (ix n (i+1)))=true,(Y (ix n i)==Y (ix n (i+1)))=true->(Y (ix n i)==Y (ix n (i+1)))=true] (VT.ite (if (Y (ix n i)==Y (ix n (i+1)))=true then decide (X (ix n i)<X (ix n (i+1))) else false) (VT.done [(0:Int)=dD n X Y i,true=dO n X Y i]) (VT.dk [(X (ix n i)==X (ix n (i+1)))=true->(X (ix n i)==X (ix n (i+1)))=true,(X (ix n i)==X (ix n (i+1)))=true->(X (ix n i)==X (ix n (i+1)))=true,(X (ix n i)==X (ix n (i+1)))=true->(X (ix n i)==X (ix n (i+1)))=true,(X (ix n i)==X (ix n (i+1)))=true->(X (ix n i)==X (ix n (i+1)))=true,(X (ix n i)==X (ix n (i+1)))=true->(X (ix n i)==X (ix n (i+1)))=true] (VT.ite (if (X (ix n i)==X (ix n (i+1)))=true then decide (Y (ix n i)<Y (ix n (i+1))) else false) (VT.done [(1:Int)=dD n X Y i,true
  =dO n X Y i]) (VT.dk [(Y (ix n i)==Y (ix n (i+1)))=true->(Y (ix n i)==Y (ix n (i+1)))=true,(Y (ix n i)==Y (ix n (i+1)))=true->(Y (ix n i)==Y (ix n (i+1)))=true,(Y (ix n i)==Y (ix n (i+1)))=true->(Y (ix n i)==Y (ix n (i+1)))=true,(Y (ix n i)==Y (ix n (i+1)))=true->(Y (ix n i)==Y (ix n (i+1)))=true,(Y (ix n i)==Y (ix n (i+1)))=true->(Y (ix n i)==Y (ix n (i+1)))=true] (VT.ite (if (Y (ix n i)==Y (ix n (i+1)))=true then decide (X (ix n i)>X (ix n (i+1))) else false) (VT.done [(2:Int)=dD n X Y i,true=dO n X Y i]) (VT.dk [(X (ix n i)==X (ix n (i+1)))=true->(X (ix n i)==X (ix n (i+1)))=true,(X (ix n i)==X (ix n (i+1)))=true->(X (ix n i)==X (ix n (i+1)))=true,(X (ix n i)==X (ix n (i+1)))=true->(X (ix n i)==X (ix n (i+1)))=true,(X (ix n i)==X (ix n (i+1)))=true->(X (ix n i)==X (ix n (i+1)))=true,(X (ix n i)==X (ix n (i+1)))=true->(X (ix n i)==X (ix n (i+1)))=true] (VT.ite (if (X (ix n i)==X (ix n (i+1)))=true then decide (Y (ix n i)>Y (ix n (i+1))) else false) (VT.done [(3:Int)=dD n X Y i,true=dO n X Y i]) (VT.done [(0:Int)=dD n X Y i,false=dO n X Y i])))))))))) (by kernel_rfl) ?_
 simp only [VT.holds,dC]
 refine ⟨⟨CN n X Y i hn jO h1 (by omega),by unfold dh;omega,CN n X Y (i+1) hn jO (by omega) (by omega)⟩,?_⟩
 unfold dD dO HX vZ
 generalize X (ix n i)=a
 generalize Y (ix n i)=b
 generalize X (ix n (i+1))=c
 generalize Y (ix n (i+1))=d
 simp only [imp_self,ck,bW,an,beq_iff_eq,ah,bQ,aj]
 refine ⟨fun h=> ?_,fun h1=>⟨fun h=> ?_,fun h2=>⟨fun h=> ?_,fun h3=>⟨fun h=> ?_,fun h4=> ?_⟩⟩⟩⟩
 all_goals grind
noncomputable def OL (n:Nat) (X Y:Nat->Int) (i:Int):eA:={ dz:=[(1,[(2,YJ)])],loops:=[],dK:=[] }
theorem Gy (n:Nat) (X Y:Nat->Int) (i:Int) (hn:0<n) (jO:n<=1000) (h1: -(n:Int)<=i) (h2:i<=900):dv prog 53 [my n X Y,dI i] (dI (dD n X Y i)):=by
 refine dm dJ (OL n X Y i) (V:=VT.dk [dv prog 110 [DV.dt n [fun (i:Nat)=>DV.val (Value.int IntKind.i64 (X i)),fun (i:Nat)=>DV.val (Value.int IntKind.i64 (Y i))],DV.val (Value.int IntKind.i64 i)] (DV.fC [DV.val (Value.int IntKind.i64 (dD n X Y i)),DV.val (Value.bool (dO n X Y i))])] (VT.done [dD n X Y i=dD n X Y i])) (by kernel_rfl) ?_
 simp only [VT.holds,dC]
 exact ⟨R2 n X Y i hn jO h1 h2,trivial⟩
noncomputable def IT (n:Nat) (X Y:Nat->Int) (i:Int):eA:={ dz:=[(1,[(2,Qd),(6,Qd),(8,.pos)])],loops:=[],dK:=[] }
namespace w5
noncomputable section
structure Z where
 n:Nat
 X:Nat->Int
 Y:Nat->Int
 i:Int
variable (z:Z) (a b:Int)
abbrev x0:=DV.val (Value.int IntKind.i64 a)
abbrev x1:=dD z.n z.X z.Y (z.i - 1)+1
abbrev x2:=dD z.n z.X z.Y z.i
abbrev x3:=dv prog 53 [DV.dt z.n [fun i0=>x0 (z.X i0),fun i0=>x0 (z.Y i0)],x0 a] (x0 b)
abbrev xt:VT:=VT.dk [x3 z z.i (x2 z),dh (z.i - 1),x3 z (z.i - 1) (dD z.n z.X z.Y (z.i - 1)),dh (x1 z),0<=x1 z/\(0:Int)<(4:Int)] (VT.done [(x2 z==x1 z%4)=decide ((x2 z)=(x1 z%4))])
end
end w5
open w5 in
theorem ES (n:Nat) (X Y:Nat->Int) (i:Int) (hn:0<n) (jO:n<=1000) (h1: -(n:Int)<i) (h2:i<=900):dv prog 50 [my n X Y,dI i] (dB (decide (dD n X Y i=(dD n X Y (i - 1)+1)%4))):=by
 refine dm dJ (IT n X Y i) (V:=xt ⟨n,X,Y,i⟩) (by kernel_rfl) ?_
 simp only [xt,x0,x1,x2,x3,Rf,VT.holds,dC,dh]
 have:=eP n X Y (i - 1)
 refine ⟨⟨Gy n X Y i hn jO (by omega) h2,by omega,Gy n X Y (i - 1) hn jO (by omega) (by omega),by omega,by omega⟩,?_⟩
 grind
noncomputable def IK (n:Nat) (X Y:Nat->Int) (i k:Int):eA:={ dz:=[(1,[(2,Qe)]),(2,[(2,Qe)])],loops:=[],dK:=[] }
namespace w6
noncomputable section
structure Z where
 n:Nat
 X:Nat->Int
 Y:Nat->Int
 i:Int
 k:Int
variable (z:Z) (P:List Prop) (a b c d:Int) (g h:Bool) (A:DV) (U:VT)
abbrev x0:=decide ((lo z.n z.X a)<=(hi z.n z.X b))
abbrev x1:=Value.int IntKind.i64 a
abbrev x2:List Prop:=ri (g=true)::ri (h=true)::P
abbrev x3:=if (x0 z z.i z.k)=true then (x0 z z.k z.i) else false
abbrev x4:=if g=true then (decide ((lo z.n z.Y a)<=(hi z.n z.Y b))) else false
abbrev x5:=x4 z z.i z.k (x3 z)
abbrev x6:=x2 P (x0 z z.i z.k) (x0 z z.i z.k)
abbrev x7:=DV.fC [DV.val (Value.agg (Array.mk [x1 (lo z.n z.X a),x1 (lo z.n z.Y b)])),DV.val (Value.agg (Array.mk [x1 (hi z.n z.X c),x1 (hi z.n z.Y d)]))]
abbrev x8:=VT.dk [dv prog 150 [DV.dt z.n [fun i0=>DV.val (x1 (z.X i0)),fun i0=>DV.val (x1 (z.Y i0))],DV.val (x1 a)] A] U
abbrev xt:VT:=x8 z z.i (x7 z z.i z.i z.i z.i) (x8 z z.k (x7 z z.k z.k z.k z.k) (VT.dk (x6 z (x6 z (x2 (x2 (x2 (x2 (x2 [ri (x5 z=true)] (x5 z) (x5 z)) (x5 z) (x5 z)) (x3 z) (x3 z)) (x3 z) (x3 z)) (x0 z z.i z.k) (x3 z)))) (VT.done [x4 z z.k z.i (x5 z)=decide ((lo z.n z.X z.i<=hi z.n z.X z.k)/\(lo z.n z.X z.k<=hi z.n z.X z.i/\lo z.n z.Y z.i<=hi z.n z.Y z.k/\lo z.n z.Y z.k<=hi z.n z.Y z.i))])))
end
end w6
open w6 in
theorem TE (n:Nat) (X Y:Nat->Int) (i k:Int) (hn:0<n) (jO:n<=1000) (h1: -(n:Int)<=i) (h2:i<=900) (k1: -(n:Int)<=k) (k2:k<=900):dv prog 113 [my n X Y,dI i,dI k] (dB (decide (lo n X i<=hi n X k/\lo n X k<=hi n X i/\lo n Y i<=hi n Y k/\lo n Y k<=hi n Y i))):=by
 refine dm dJ (IK n X Y i k) (V:=xt ⟨n,X,Y,i,k⟩) (by kernel_rfl) ?_
 simp only [xt,x0,x1,x2,x3,x4,x5,x6,x7,x8,Rf,VT.holds,dC]
 refine ⟨JV n X Y i hn jO h1 h2,JV n X Y k hn jO k1 k2,?_⟩
 simp only [imp_self,ck,bW]
 grind
noncomputable def OD (x y:Int):eA:={ dz:=[(1,[(2,yq),(7,yq)])],loops:=[],dK:=[] }
theorem Sp (x y:Int) :dv prog 112 [dP x y] (dB (!(gN x&&gN y))):=by
 refine dm dJ (OD x y) (V:=VT.dk [dv prog 79 [DV.val (Value.int IntKind.i64 x)] (DV.val (Value.bool (gN x))),(!!gN x)=true->(!!gN x)=true,(!!gN x)=true->(!!gN x)=true,(!!gN x)=true->dv prog 79 [DV.val (Value.int IntKind.i64 y)] (DV.val (Value.bool (gN y))),(!!gN x)=true->(!!gN x)=true,(!gN x)=false->(!!gN x)=true] (VT.done [(if (!gN x)=true then true else !gN y)= !(gN x&&gN y)])) (by kernel_rfl) ?_
 simp only [VT.holds,dC]
 refine ⟨⟨rP x,?_⟩,?_⟩
 ·simp only [imp_self,ck,b8]
  have:=rP y
  grind
 ·grind
end Go.Abs
end
section
set_option maxRecDepth 100000
namespace Go.Abs
open Go
def uM (n:Nat) (X Y:Nat->Int):Nat->Int
 |0=>0
 |k+1=>uM n X Y k+(X (ix n k)*Y (ix n (k+1)) - X (ix n (k+1))*Y (ix n k))
theorem YZ {a b:Int} {A B:Nat} (ha:a.natAbs<=A) (hb:b.natAbs<=B):(a*b).natAbs<=A*B:=by
 rw [Int.natAbs_mul];exact Nat.mul_le_mul ha hb
theorem sI {n:Nat} {X:Nat->Int} (h:kd n X) {k:Nat} (hk:k<n):(X k).natAbs<=1000000:=by
 have:=h k hk;omega
theorem sq {n:Nat} {X Y:Nat->Int} (hn:0<n) (hX:kd n X) (hY:kd n Y) (i j:Int):(X (ix n i)*Y (ix n j)).natAbs<=1000000000000:=
 YZ (A:=1000000) (B:=1000000) (sI hX (iV hn)) (sI hY (iV hn))
theorem JP {n:Nat} {X Y:Nat->Int} (hn:0<n) (hX:kd n X) (hY:kd n Y): ∀k,(uM n X Y k).natAbs<=2000000000000*k
 |0=>by simp [uM]
 |k+1=>by
  have:=JP hn hX hY k
  have:=sq hn hX hY k (k+1)
  have:=sq hn hX hY (k+1) k
  simp only [uM]
  omega
theorem gj (i:Nat):Int.toNat ((i:Int)+1)=i+1:=by omega
theorem il (i:Nat):Int.toNat ((i:Int)+2)=i+2:=by omega
theorem fN:Int.toNat (0:Int)=0:=rfl
def jf (p:Nat->Bool) (n:Nat) (r:Int):Prop:=(r= -1/\ ∀j,j<n->p j=false)\/ ∃i:Nat,i<n/\r=i/\p i=true/\ ∀j,j<i->p j=false
theorem iF (p:Nat->Bool) (n:Nat): ∃r,jf p n r:=by
 induction n with
 |zero=>exact ⟨-1,.inl ⟨rfl,fun j h=>by omega⟩⟩
 |succ n ih=>
  obtain ⟨r,⟨h1,h2⟩|⟨i,h1,h2,h3,h4⟩⟩:=ih
  ·cases hp:p n with
   |true=>exact ⟨n,.inr ⟨n,by omega,rfl,hp,h2⟩⟩
   |false=>
    refine ⟨-1,.inl ⟨rfl,fun j h=> ?_⟩⟩
    by_cases e:j=n
    ·rw [e];exact hp
    ·exact h2 j (by omega)
  ·exact ⟨r,.inr ⟨i,by omega,h2,h3,h4⟩⟩
def pF (X Y:Nat->Int) (k:Nat):Bool:= !(gN (X k)&&gN (Y k))
def jK (n:Nat) (X Y:Nat->Int):Bool:=decide (∀k,k<n->pF X Y k=false)
def rTw:fx:= .res fun l=>dI (uM (aN l) (aX l) (aY l) (aN l))
def vh:fx:= .res fun l=>dI (((aX l (ix (aN l) (aI l 1+1)) - aX l (ix (aN l) (aI l 1))).natAbs:Int)+((aY l (ix (aN l) (aI l 1+1)) - aY l (ix (aN l) (aI l 1))).natAbs:Int))
def YM:fx:= .res fun l=>dB (!(jK (aN l) (aX l) (aY l)))
noncomputable def IV (n:Nat) (X Y:Nat->Int):eA:={ dz:=[(5,[(2,SM),(6,SM)])],loops:=[(0,{ ι:=Nat,keep:=[0,8],boxes:=[],ts:=fun _ i=>[(3,dI (uM n X Y i)),(9,dI (i:Int))],inv:=fun _ i=>i<=n,mu:=fun _ i=>n - i,rd:=fun _ σ=>(ez (σ.get 9)).toNat })],dK:=[] }
namespace w8
noncomputable section
structure Z where
 n:Nat
 X:Nat->Int
 Y:Nat->Int
variable (z:Z) (i0:Nat) (p:Prop) (P:List Prop) (a b c:Int) (k:Nat)
abbrev x0:=(i0:Int)+1
abbrev x1:=DV.val (Value.int IntKind.i64 a)
abbrev x2:=Int.toNat (x0 i0)
abbrev x3:=(z.X (ix z.n (i0:Int)))*(z.Y (ix z.n (x0 i0)))
abbrev x4:=(z.X (ix z.n (x0 i0)))*(z.Y (ix z.n (i0:Int)))
abbrev x5:=uM z.n z.X z.Y i0+(x3 z i0 - x4 z i0)
abbrev x6:List Prop:=p::(a=(k:Int))::rf z.n::(∀i0<z.n,rf (z.X i0))::(∀i0<z.n,rf (z.Y i0))::rf (z.n:Int)::P
abbrev x7:=dv prog 109 [DV.dt z.n [fun i0=>x1 (z.X i0),fun i0=>x1 (z.Y i0)],x1 a] (DV.val (Value.agg (Array.mk [Value.int IntKind.i64 (z.X (ix z.n b)),Value.int IntKind.i64 (z.Y (ix z.n c))])))
abbrev xt:VT:=VT.loop Nat (fun i0=>i0<=z.n) (Int.toNat 0) (x6 z (rf (0:Int)) [] (0:Int) (Int.toNat 0)) (fun i0=>VT.ite (decide ((i0:Int)<(z.n:Int))) (VT.dk [x7 z (i0:Int) (i0:Int) (i0:Int),dh (x0 i0),x7 z (x0 i0) (x0 i0) (x0 i0)] (VT.dk [dh (x3 z i0),dh (x4 z i0),dh (x3 z i0 - x4 z i0),dh (x5 z i0)] (VT.dk [dh (x0 i0)] (VT.done (x6 z (x5 z i0=uM z.n z.X z.Y (x2 i0)) [x2 i0<=z.n,z.n - x2 i0<z.n - i0] (x0 i0) (x2 i0)))))) (VT.done [uM z.n z.X z.Y i0=uM z.n z.X z.Y z.n]))
end
end w8
open w8 in
theorem Tz (n:Nat) (X Y:Nat->Int) (hn:0<n) (jO:n<=800) (hX:kd n X) (hY:kd n Y):dv prog 55 [my n X Y] (dI (uM n X Y n)):=by
 refine dm dJ (IV n X Y) (V:=xt ⟨n,X,Y⟩) (by kernel_rfl) ?_
 simp only [xt,x0,x1,x2,x3,x4,x5,x6,x7,Rf,VT.holds,dC,bO,b8,ck,gj,fN,ah,aj]
 refine ⟨rfl,aq n,fun i hi=>⟨fun h=> ?_,fun h=> ?_⟩⟩
 ·have b1:=sq hn hX hY i (i+1)
  have b2:=sq hn hX hY (i+1) i
  have b3:=JP hn hX hY i
  simp only [dh]
  refine ⟨⟨CN n X Y i hn (by omega) (by omega) (by omega),by omega,CN n X Y (i+1) hn (by omega) (by omega) (by omega)⟩,⟨by omega,by omega,by omega,by omega⟩,by omega,rfl,rfl,by omega,by omega⟩
 ·have:i=n:=by omega
  rw [this]
noncomputable def F3 (n:Nat) (X Y:Nat->Int) (i:Int):eA:={ dz:=[(1,[(2,SM),(6,SM)]),(2,[(5,rAbs),(11,rAbs)])],loops:=[],dK:=[] }
namespace w9
noncomputable section
structure Z where
 n:Nat
 X:Nat->Int
 Y:Nat->Int
 i:Int
variable (z:Z) (a b c:Int)
abbrev x0:=DV.val (Value.int IntKind.i64 a)
abbrev x1:=z.X (ix z.n z.i)
abbrev x2:=z.X (ix z.n (z.i+1))
abbrev x3:=z.Y (ix z.n z.i)
abbrev x4:=z.Y (ix z.n (z.i+1))
abbrev x5:Int:=(↑(Int.natAbs (x2 z - x1 z)):Int)
abbrev x6:Int:=(↑(Int.natAbs (x4 z - x3 z)):Int)
abbrev x7:=dv prog 109 [DV.dt z.n [fun i0=>x0 (z.X i0),fun i0=>x0 (z.Y i0)],x0 a] (DV.val (Value.agg (Array.mk [Value.int IntKind.i64 b,Value.int IntKind.i64 c])))
abbrev xt:VT:=VT.dk [x7 z z.i (x1 z) (x3 z),dh (z.i+1),x7 z (z.i+1) (x2 z) (x4 z)] (VT.dk [dh (x2 z - x1 z),dv prog 77 [x0 (x2 z - x1 z)] (x0 (x5 z)),dh (x4 z - x3 z),dv prog 77 [x0 (x4 z - x3 z)] (x0 (x6 z)),dh (x5 z+x6 z)] (VT.done [rf (x5 z+x6 z)]))
end
end w9
open w9 in
theorem AT (n:Nat) (X Y:Nat->Int) (i:Int) (hn:0<n) (jO:n<=1000) (h1: -(n:Int)<=i) (h2:i<=900) (hX:kd n X) (hY:kd n Y):dv prog 49 [my n X Y,dI i] (dI (((X (ix n (i+1)) - X (ix n i)).natAbs:Int)+((Y (ix n (i+1)) - Y (ix n i)).natAbs:Int))):=by
 refine dm dJ (F3 n X Y i) (V:=xt ⟨n,X,Y,i⟩) (by kernel_rfl) ?_
 simp only [xt,x0,x1,x2,x3,x4,x5,x6,x7,Rf,VT.holds,dC,dh]
 have a1:=sI hX (iV (i:=i) hn)
 have a2:=sI hX (iV (i:=i+1) hn)
 have a3:=sI hY (iV (i:=i) hn)
 have a4:=sI hY (iV (i:=i+1) hn)
 refine ⟨⟨CN n X Y i hn jO h1 (by omega),by omega,CN n X Y (i+1) hn jO (by omega) (by omega)⟩,⟨by omega,MY _ (by omega),by omega,MY _ (by omega),by omega⟩,trivial⟩
noncomputable def IG (n:Nat) (X Y:Nat->Int) (r:Int):eA:={ dz:=[(4,[(5,rBad)])],loops:=[(0,{ ι:=Nat,keep:=[0,1,7],boxes:=[],ts:=fun _ i=>[(8,dI (i:Int))],inv:=fun _ i=>i<=n/\ ∀j,j<i->pF X Y j=false,mu:=fun _ i=>n - i,rd:=fun _ σ=>(ez (σ.get 8)).toNat })],dK:=[] }
namespace wa
noncomputable section
structure Z where
 n:Nat
 X:Nat->Int
 Y:Nat->Int
 r:Int
variable (i0:Nat) (pj:Nat->Int) (sX:List Value)
abbrev x0:=Int.toNat ((i0:Int)+1)
abbrev x1:=gN (pj (Int.toNat (i0:Int)))
abbrev x2:List Value:=Value.int IntKind.i64 (pj (Int.toNat (i0:Int)))::sX
abbrev x3:=rf (Value.func (Fn.func (112:FuncId)) (Array.mk []) (Array.mk []))
abbrev xt (z:Z):VT:=VT.loop Nat (fun i0=>i0<=z.n/\(∀i1<i0,pF z.X z.Y i1=false)) (Int.toNat 0) [0=(↑(Int.toNat 0):Int),rf z.n,∀i0<z.n,rf (z.X i0),∀i0<z.n,rf (z.Y i0),x3,rf (z.n:Int)] (fun i0=>VT.ite (decide ((i0:Int)<(z.n:Int))) (VT.dk [0<=(i0:Int)/\(i0:Int)<(z.n:Int),dv prog (112:FuncId) [DV.val (Value.agg (Array.mk (x2 i0 z.X (x2 i0 z.Y []))))] (DV.val (Value.bool (!((x1 i0 z.X)&&(x1 i0 z.Y)))))] (VT.ite (!((x1 i0 z.X)&&(x1 i0 z.Y))) (VT.done [(i0:Int)=z.r]) (VT.dk [dh ((i0:Int)+1)] (VT.done [(i0:Int)+1=(↑(x0 i0):Int),rf z.n,∀i0<z.n,rf (z.X i0),∀i0<z.n,rf (z.Y i0),x3,rf (z.n:Int),x0 i0<=z.n/\(∀i1<x0 i0,pF z.X z.Y i1=false),z.n - x0 i0<z.n - i0])))) (VT.done [(-(1:Int))=z.r]))
end
end wa
open wa in
theorem E9 (n:Nat) (X Y:Nat->Int) (r:Int) (jO:n<=1000000) (h:jf (pF X Y) n r):dv prog 149 [my n X Y,.val (.func (.func 112) #[] #[])] (dI r):=by
 refine dm dJ (IG n X Y r) (V:=xt ⟨n,X,Y,r⟩) (by kernel_rfl) ?_
 simp only [xt,x0,x1,x2,x3,Rf,VT.holds,dC,bO,b8,ck,gj,fN,ah,aj,bU]
 refine ⟨rfl,⟨aq n,fun j hj=>by omega⟩,fun i ⟨hi,hb⟩=>⟨fun dR=>⟨⟨by omega,Sp _ _⟩,fun s5=> ?_,fun ke=>⟨by unfold dh;omega,rfl,⟨by omega,fun j hj=> ?_⟩,by omega⟩⟩,fun iG=> ?_⟩⟩
 ·rcases h with ⟨h1,h2⟩|⟨k,h1,h2,h3,h4⟩
  ·have:=h2 i (by omega)
   rw [pF,s5] at this;cases this
  ·rcases Nat.lt_trichotomy i k with hk|hk|hk
   ·have:=h4 i hk
    rw [pF,s5] at this;cases this
   ·rw [h2,hk]
   ·have:=hb k hk
    rw [h3] at this;cases this
 ·by_cases e:j=i
  ·rw [e];exact ke
  ·exact hb j (by omega)
 ·rcases h with ⟨h1,h2⟩|⟨k,h1,h2,h3,h4⟩
  ·rw [h1]
  ·have:=hb k (by omega)
   rw [h3] at this;cases this
noncomputable def BQ (n:Nat) (X Y:Nat->Int) (r:Int):eA:={ dz:=[(1,[(2,.res fun _=>dI r)])],loops:=[],dK:=[] }
theorem qE (n:Nat) (X Y:Nat->Int) (r:Int) (jO:n<=1000000) (h:jf (pF X Y) n r):dv prog 111 [my n X Y,.val (.func (.func 112) #[] #[])] (dB (!(jK n X Y))):=by
 refine dm dJ (BQ n X Y r) (V:=VT.dk [dv prog 149 [DV.dt n [fun (i:Nat)=>DV.val (Value.int IntKind.i64 (X i)),fun (i:Nat)=>DV.val (Value.int IntKind.i64 (Y i))],DV.val (Value.func (Fn.func (112:FuncId)) { toList:=[] } { toList:=[] })] (DV.val (Value.int IntKind.i64 r))] (VT.done [decide (r>=0)= !jK n X Y])) (by kernel_rfl) ?_
 simp only [VT.holds,dC]
 refine ⟨E9 n X Y r jO h,?_⟩
 unfold jK
 rcases h with ⟨h1,h2⟩|⟨i,h1,h2,h3,h4⟩
 ·rw [bz h2,h1];rfl
 ·have hf: ¬ ∀k,k<n->pF X Y k=false:=fun h=>by rw [h i h1] at h3;cases h3
  rw [bI hf,h2];simp
end Go.Abs
end
section
set_option maxRecDepth 100000
namespace Go.Abs
open Go
def iJ (n:Nat) (X Y:Nat->Int) (i:Nat):Bool:=dO n X Y i&&dO n X Y ((i:Int) - 1)&&decide (dD n X Y i%2≠dD n X Y ((i:Int) - 1)%2)
def Ex (n:Nat) (X Y:Nat->Int) (i k:Int):Bool:=decide (lo n X i<=hi n X k/\lo n X k<=hi n X i/\lo n Y i<=hi n Y k/\lo n Y k<=hi n Y i)
def kT (n:Nat) (X Y:Nat->Int) (i k:Nat):Bool:=decide (((k:Int)+1)%(n:Int)≠(i:Int))&&Ex n X Y i k
def gI (n:Nat) (X Y:Nat->Int):Int:=
 if ¬(4<=n/\n<=40) then 11 else if jK n X Y=false then 2 else if ¬ ∀i,i<n->iJ n X Y i=true then 3
 else if ¬ ∀i,i<n-> ∀k,k<n->i+2<=k->kT n X Y i k=false then 12 else if uM n X Y n<0 then 10 else 0
def G3:fx:= .res fun l=>dI (gI (aN l) (aX l) (aY l))
theorem sR {n:Nat} {X Y:Nat->Int} (h:jK n X Y=true):kd n X/\kd n Y:=by
 simp only [jK,ah] at h
 refine ⟨fun k hk=> ?_,fun k hk=> ?_⟩<;>
 ·have:=h k hk
  simp [pF,gN] at this
  omega
noncomputable def IQ (n:Nat) (X Y:Nat->Int):eA:={ dz:=[(3,[(1,YM)]),(8,[(2,YJ)]),(9,[(3,YJ)]),(10,[(8,.pos),(10,.pos)]),(19,[(4,.pos),(11,YF)]),(22,[(1,rTw)])],loops:=[(0,{ ι:=Nat,keep:=[0,21],boxes:=[],ts:=fun _ i=>[(22,dI (i:Int))],inv:=fun _ i=>i<=n/\ ∀j,j<i->iJ n X Y j=true,mu:=fun _ i=>n - i,rd:=fun _ σ=>(ez (σ.get 22)).toNat }),(2,{ ι:=Nat,keep:=[0,53],boxes:=[],ts:=fun _ i=>[(54,dI (i:Int))],inv:=fun _ i=>i<=n/\ ∀j,j<i-> ∀k,k<n->j+2<=k->kT n X Y j k=false,mu:=fun _ i=>n - i,rd:=fun _ σ=>(ez (σ.get 54)).toNat }),(4,{ ι:=Nat,keep:=[0,53,54,8],boxes:=[],ts:=fun _ k=>[(9,dI (k:Int))],inv:=fun σ k=>(ez (σ.get 8)).toNat+2<=k/\ ∀j,j<k->(ez (σ.get 8)).toNat+2<=j->j<n->kT n X Y (ez (σ.get 8)).toNat j=false,mu:=fun _ k=>n+2 - k,rd:=fun _ σ=>(ez (σ.get 9)).toNat })],dK:=[] }
namespace wc
noncomputable section
structure Z where
 n:Nat
 X:Nat->Int
 Y:Nat->Int
variable (z:Z) (i0 i1 i2:Nat) (p:Prop) (P:List Prop) (a b:Int) (k:Nat) (g h:Bool) (U:VT) (NK:Nat->Prop) (Cm:Nat->VT)
abbrev x0:Int:=(i0:Int)
abbrev x1:Int:=(z.n:Int)
abbrev x2:=DV.val (Value.int IntKind.i64 a)
abbrev x3:=(i1:Int)+1
abbrev x4:= !(dO z.n z.X z.Y (x0 i0))
abbrev x5:=if g=true then true else h
abbrev x6:=x5 (x4 z i0) (!(dO z.n z.X z.Y (x0 i0 - 1)))
abbrev x7:=Int.toNat (x0 i0+1)
abbrev x8:=VT.ite g (VT.done [a=gI z.n z.X z.Y]) U
abbrev x9:=(x3 i1%x1 z !=x0 i0)=true
abbrev dM:=decide ((x1 z)<(4:Int))
abbrev dQ:=DV.dt z.n [fun i0=>x2 (z.X i0),fun i0=>x2 (z.Y i0)]
abbrev dS:=DV.val (Value.bool g)
abbrev dT:=Int.toNat (x3 i1)
abbrev dU:List Prop:=p::rf z.n::(∀i0<z.n,rf (z.X i0))::(∀i0<z.n,rf (z.Y i0))::rf (x1 z)::P
abbrev dY:=dD z.n z.X z.Y (x0 i0)
abbrev eb:=dD z.n z.X z.Y (x0 i0 - 1)
abbrev eE:=DV.fC [x2 a,dS (dO z.n z.X z.Y b)]
abbrev eH:List Prop:=((!(x6 z i0))=true->0<=a/\(0:Int)<(2:Int))::ri ((!(x6 z i0))=true)::P
abbrev eT:=VT.loop Nat NK (Int.toNat 0) [0=(↑(Int.toNat 0):Int),rf z.n,∀i0<z.n,rf (z.X i0),∀i0<z.n,rf (z.Y i0),rf (x1 z)] Cm
abbrev eG:=i2<k->Int.toNat (x0 i0)+2<=i2->i2<z.n->kT z.n z.X z.Y (Int.toNat (x0 i0)) i2=false
abbrev eZ:= ∀i0<z.n,i1+2<=i0->kT z.n z.X z.Y i1 i0=false
abbrev fi:=VT.dk [dh (x0 i0+1)] (VT.done (dU z (x0 i0+1=(↑(x7 i0):Int)) [x7 i0<=z.n/\p,z.n - x7 i0<z.n - i0]))
abbrev fR:=decide ((lo z.n z.X (x0 i0)<=hi z.n z.X (i1:Int))/\(lo z.n z.X (i1:Int)<=hi z.n z.X (x0 i0)/\lo z.n z.Y (x0 i0)<=hi z.n z.Y (i1:Int)/\lo z.n z.Y (i1:Int)<=hi z.n z.Y (x0 i0)))
abbrev xt:VT:=VT.dk [ri ((!(dM z))=true),ri ((!(dM z))=true),dM z=false->(!(dM z))=true] (x8 z (11:Int) (x5 (dM z) (decide ((x1 z)>(40:Int)))) (VT.dk [dv prog 111 [dQ z,DV.val (Value.func (Fn.func 112) (Array.mk []) (Array.mk []))] (dS (!(jK z.n z.X z.Y)))] (x8 z (2:Int) (!(jK z.n z.X z.Y)) (eT z (fun i0=>i0<=z.n/\(∀i1<i0,iJ z.n z.X z.Y i1=true)) (fun i0=>VT.ite (decide ((x0 i0)<(x1 z))) (VT.dk [dv prog 110 [dQ z,x2 (x0 i0)] (eE z (dY z i0) (x0 i0))] (VT.dk [dh (x0 i0 - 1),dv prog 110 [dQ z,x2 (x0 i0 - 1)] (eE z (eb z i0) (x0 i0 - 1))] (VT.dk (ri ((!(x4 z i0))=true)::(x4 z i0=false->(!(x4 z i0))=true)::ri ((!(x6 z i0))=true)::eH z i0 (eH z i0 [ri ((!(x6 z i0))=true),x6 z i0=false->(!(x6 z i0))=true] (eb z i0)) (dY z i0)) (x8 z (3:Int) (x5 (x6 z i0) (dY z i0%2==eb z i0%2)) (fi z i0 (∀i1<x7 i0,iJ z.n z.X z.Y i1=true)))))) (eT z (fun i0=>i0<=z.n/\(∀i1<i0,eZ z i1)) (fun i0=>VT.ite (decide ((x0 i0)<(x1 z))) (VT.dk [dh (x0 i0+2)] (VT.loop Nat (fun i1=>Int.toNat (x0 i0)+2<=i1/\(∀(i2:Nat),eG z i0 i2 i1)) (Int.toNat (x0 i0+2)) (dU z (x0 i0+2=(↑(Int.toNat (x0 i0+2)):Int)) [rf (x0 i0),rf (x0 i0)]) (fun i1=>VT.ite (decide ((i1:Int)<(x1 z))) (VT.dk [dh (x3 i1),0<=x3 i1/\0<x1 z,ri (x9 z i0 i1),ri (x9 z i0 i1),ri (x9 z i0 i1),x9 z i0 i1->dv prog 113 [dQ z,x2 (x0 i0),x2 (i1:Int)] (dS (fR z i0 i1)),ri (x9 z i0 i1)] (x8 z (12:Int) (if (x3 i1%x1 z !=x0 i0)=true then (fR z i0 i1) else false) (VT.dk [dh (x3 i1)] (VT.done (dU z (x3 i1=(↑(dT i1):Int)) [rf (x0 i0),rf (x0 i0),Int.toNat (x0 i0)+2<=dT i1/\(∀(i2:Nat),eG z i0 i2 (dT i1)),z.n+2 - dT i1<z.n+2 - i1]))))) (fi z i0 (∀i1<x7 i0,eZ z i1))))) (VT.dk [dv prog 55 [dQ z] (x2 (uM z.n z.X z.Y z.n))] (x8 z (10:Int) (decide ((uM z.n z.X z.Y z.n)<(0:Int))) (VT.done [0=gI z.n z.X z.Y]))))))))))
end
end wc
open wc in
theorem MK (n:Nat) (X Y:Nat->Int) (jO:n<=1000000):dv prog 54 [my n X Y] (dI (gI n X Y)):=by
 refine dm dJ (IQ n X Y) (V:=xt ⟨n,X,Y⟩) (by kernel_rfl) ?_
 simp only [xt,x0,x1,x2,x3,x4,x5,x6,x7,x8,x9,dM,dQ,dS,dT,dU,dY,eb,eE,eH,eT,eG,eZ,fi,fR,Rf,VT.holds,dC,Sq]
 refine ⟨fun h=> ?_,fun h=>⟨?_,fun h2=> ?_,fun h2=>⟨rfl,⟨aq n,fun j hj=>(by omega)⟩,fun i ⟨hi,hf⟩=>⟨fun dR=> ?_,fun iG=>⟨rfl,⟨aq n,fun j hj=>(by omega)⟩,fun i2 ⟨Wm,hc⟩=>⟨fun xC=>⟨?_,rfl,⟨ae _,fun j h1 h2=>(by omega)⟩,fun k ⟨hk,hck⟩=>⟨fun kr=>⟨?_,fun iH=> ?_,fun iH=> ?_⟩,fun kr=> ?_⟩⟩,fun NX=>⟨?_,fun ht=> ?_,fun ht=> ?_⟩⟩⟩⟩⟩⟩⟩
 ·rw [gI,ag (by omega)]
 ·obtain ⟨r,hr⟩:=iF (pF X Y) n
  exact qE n X Y r jO hr
 ·rw [gI,ab (by omega),ag h2]
 ·have e3:iJ n X Y i=false->3=gI n X Y:=fun hx=>by
   rw [gI,ab (by omega),ab (by rw [h2];simp),ag (fun fp=>by rw [fp i (by omega)] at hx;cases hx)]
  have:=eP n X Y i
  have:=eP n X Y ((i:Int) - 1)
  refine ⟨R2 n X Y i (by omega) (by omega) (by omega) (by omega),⟨by unfold dh;omega,R2 n X Y (i - 1) (by omega) (by omega) (by omega) (by omega)⟩,⟨fun _=>by omega,fun _=>by omega⟩,fun s5=>e3 ?_,fun ke=>⟨by unfold dh;omega,rfl,⟨by omega,fun j hj=> ?_⟩,by omega⟩⟩
  ·unfold iJ
   rcases s5 with (hb|hb)|hb<;>simp [hb]
  ·by_cases e:j=i
   ·subst e
    unfold iJ
    obtain ⟨uf,oo⟩:=ke
    simp only [not_or,Bool.not_eq_false] at uf
    simp [uf.1,uf.2,oo]
   ·exact hf j (by omega)
 ·unfold dh;omega
 ·refine ⟨by unfold dh;omega,by omega,fun _=>TE n X Y i2 k (by omega) (by omega) (by omega) (by omega) (by omega) (by omega)⟩
 ·have tz: ∀j,j<n->iJ n X Y j=true:=fun j hj=>hf j (by omega)
  rw [gI,ab (by omega),ab (by rw [h2];simp),ab (fun hx=>hx tz),ag (fun fp=> ?_)]
  have:=fp i2 (by omega) k (by omega) hk
  unfold kT Ex at this
  rw [bz iH.1,bz iH.2] at this
  cases this
 ·refine ⟨by unfold dh;omega,rfl,⟨by omega,fun j h1 h2 h3=> ?_⟩,by omega⟩
  by_cases e:j=k
  ·subst e
   unfold kT Ex
   rw [bQ,ah,aj]
   exact iH
  ·exact hck j (by omega) h2 h3
 ·refine ⟨by unfold dh;omega,rfl,⟨by omega,fun j h1 k' h2 h3=> ?_⟩,by omega⟩
  by_cases e:j=i2
  ·subst e;exact hck k' (by omega) h3 h2
  ·exact hc j (by omega) k' h2 h3
 ·obtain ⟨b1,b2⟩:=sR h2
  exact Tz n X Y (by omega) (by omega) b1 b2
 ·have tz: ∀j,j<n->iJ n X Y j=true:=fun j hj=>hf j (by omega)
  have iH: ∀j,j<n-> ∀k,k<n->j+2<=k->kT n X Y j k=false:=fun j hj=>hc j (by omega)
  rw [gI,ab (by omega),ab (by rw [h2];simp),ab (fun hx=>hx tz),ab (fun hx=>hx iH),ag ht]
 ·have tz: ∀j,j<n->iJ n X Y j=true:=fun j hj=>hf j (by omega)
  have iH: ∀j,j<n-> ∀k,k<n->j+2<=k->kT n X Y j k=false:=fun j hj=>hc j (by omega)
  rw [gI,ab (by omega),ab (by rw [h2];simp),ab (fun hx=>hx tz),ab (fun hx=>hx iH),ab ht]
noncomputable def uE (n:Nat) (X Y:Nat->Int):eA:={ dz:=[(1,[(1,G3)])],loops:=[],dK:=[] }
theorem kU (n:Nat) (X Y:Nat->Int) (jO:n<=1000000):dv prog 48 [my n X Y] (dI (gI n X Y)):=by
 refine dm dJ (uE n X Y) (V:=VT.dk [dv prog 54 [DV.dt n [fun (i:Nat)=>DV.val (Value.int IntKind.i64 (X i)),fun (i:Nat)=>DV.val (Value.int IntKind.i64 (Y i))]] (DV.val (Value.int IntKind.i64 (gI n X Y)))] (VT.done [gI n X Y=gI n X Y])) (by kernel_rfl) ?_
 simp only [VT.holds,dC,Sq]
 exact MK n X Y jO
end Go.Abs
end
section
set_option maxRecDepth 100000
namespace Go.Abs
open Go
theorem wA {n:Nat} {X Y:Nat->Int} (h:gI n X Y=0):(4<=n/\n<=40)/\jK n X Y=true/\(∀i,i<n->iJ n X Y i=true)/\
 (∀i,i<n-> ∀k,k<n->i+2<=k->kT n X Y i k=false)/\0<=uM n X Y n:=by
 unfold gI at h
 split at h
 ·cases h
 ·rename_i h1
  split at h
  ·cases h
  ·rename_i h2
   split at h
   ·cases h
   ·rename_i h3
    split at h
    ·cases h
    ·rename_i h4
     split at h
     ·cases h
     ·rename_i h5
      exact ⟨bP.1 h1,by simpa using h2,bP.1 h3,bP.1 h4,by omega⟩
theorem eS {n:Nat} {X Y:Nat->Int} (h:gI n X Y=0):kd n X/\kd n Y:=sR (wA h).2.1
theorem fO {n:Nat} {X Y:Nat->Int} (h:gI n X Y=0):4<=n/\n<=40:=(wA h).1
def OV (n:Nat) (X Y:Nat->Int) (p q:Int) (i:Nat):Bool:=decide (lo n X i<=p/\p<=hi n X i/\lo n Y i<=q/\q<=hi n Y i)
def Pb (n:Nat) (X Y:Nat->Int) (p q:Int) (i:Nat):Bool:=decide (lo n X i=hi n X i/\lo n X i>p/\lo n Y i<=q/\q<hi n Y i)
def Od (n:Nat) (X Y:Nat->Int) (p q:Int):Nat->Bool
 |0=>false
 |k+1=>if Pb n X Y p q k=true then !(Od n X Y p q k) else Od n X Y p q k
def Tw (n:Nat) (X Y:Nat->Int) (p q:Int):Int:=if ¬ ∀i,i<n->OV n X Y p q i=false then 0 else if Od n X Y p q n=true then 1 else -1
def ap (p l h:Int):Int:=max (max (l - p) (p - h)) 0
def dst (n:Nat) (X Y:Nat->Int) (p q:Int) (i:Nat):Int:=ap p (lo n X i) (hi n X i)*ap p (lo n X i) (hi n X i)+ap q (lo n Y i) (hi n Y i)*ap q (lo n Y i) (hi n Y i)
def ov (n:Nat) (X Y:Nat->Int) (k:Nat):Int:=if dD n X Y k=(dD n X Y ((k:Int) - 1)+1)%4 then 1 else -1
def rWhF:fx:= .res fun l=>dI (Tw (aN l) (aX l) (aY l) (fI 0 (arg l 1)) (fI 1 (arg l 1)))
def ME (n:Nat) (X Y:Nat->Int):Nat:=if gI n X Y≠0 then 0 else n
theorem V4 {n:Nat} {X:Nat->Int} (hn:0<n) (h:kd n X) (i:Int): -1000000<=lo n X i/\lo n X i<=1000000:=by
 have:=h _ (iV (i:=i) hn)
 have:=h _ (iV (i:=i+1) hn)
 unfold lo;omega
theorem hi_bd {n:Nat} {X:Nat->Int} (hn:0<n) (h:kd n X) (i:Int): -1000000<=hi n X i/\hi n X i<=1000000:=by
 have:=h _ (iV (i:=i) hn)
 have:=h _ (iV (i:=i+1) hn)
 unfold hi;omega
noncomputable def Da (n:Nat) (X Y:Nat->Int):eA:={ dz:=[(1,[(1,G3)]),(9,[(2,Qf)])],loops:=[(0,{ ι:=Nat,keep:=[0,14],boxes:=[],ts:=fun _ i=>[(15,dI (i:Int))],rw:=fun _ i=>[(5,1,i,[fun k=>dI (ov n X Y k)])],inv:=fun _ i=>i<=n,mu:=fun _ i=>n - i,rd:=fun _ σ=>(ez (σ.get 15)).toNat })],dK:=[] }
namespace we
noncomputable section
structure Z where
 n:Nat
 X:Nat->Int
 Y:Nat->Int
variable (z:Z) (i0 i1:Nat) (p:Prop) (P:List Prop) (a:Int)
abbrev x0:=Int.toNat ((i0:Int)+1)
abbrev x1:=DV.val (Value.int IntKind.i64 a)
abbrev x2:=gI z.n z.X z.Y
abbrev x3:List Prop:=rf z.n::(∀i0<z.n,rf (z.X i0))::(∀i0<z.n,rf (z.Y i0))::P
abbrev x4:=DV.dt z.n [fun i0=>x1 (z.X i0),fun i0=>x1 (z.Y i0)]
abbrev x5:=VT.dk [i0<=i0,(i0+1)*((nat_lit 7)+1)<=140737488355328,(1:Nat)<=(1:Nat)] (VT.dk [dh ((i0:Int)+1)] (VT.done (((i0:Int)+1=(↑(x0 i0):Int))::rf (0:Nat)::(i0+1=x0 i0)::x3 z [rf (z.n:Int),i0+1=x0 i0,p,x0 i0<=z.n,z.n - x0 i0<z.n - i0])))
abbrev x6:=i1<x0 i0->(if (decide (i1<i0))=true then (ov z.n z.X z.Y i1) else a)=ov z.n z.X z.Y i1
abbrev x7:=decide ((dD z.n z.X z.Y (i0:Int))=((dD z.n z.X z.Y ((i0:Int) - 1)+1)%4))
abbrev xt:VT:=VT.dk [dv prog 48 [x4 z] (x1 (x2 z))] (VT.ite (x2 z !=0) (VT.done [ME z.n z.X z.Y=0,rf (x2 z)]) (VT.loop Nat (fun i0=>i0<=z.n) (Int.toNat 0) ((0=(↑(Int.toNat 0):Int))::rf (0:Nat)::(Int.toNat 0=0)::x3 z [rf (z.n:Int),Int.toNat 0=0]) (fun i0=>VT.ite (decide ((i0:Int)<(z.n:Int))) (VT.dk [dv prog 50 [x4 z,x1 (i0:Int)] (DV.val (Value.bool (x7 z i0)))] (VT.ite (x7 z i0) (x5 z i0 (∀(i1:Nat),x6 z i0 i1 (1:Int))) (x5 z i0 (∀(i1:Nat),x6 z i0 i1 (-(1:Int)))))) (VT.done [i0<=i0,i0=ME z.n z.X z.Y,∀i0<ME z.n z.X z.Y,rf (ov z.n z.X z.Y i0),0=x2 z]))))
end
end we
open we in
theorem Og (n:Nat) (X Y:Nat->Int) (jO:n<=1000000):dv prog 94 [my n X Y] (.fC [.dt (ME n X Y) [fun k=>dI (ov n X Y k)],dI (gI n X Y)]):=by
 refine dm dJ (Da n X Y) (V:=xt ⟨n,X,Y⟩) (by kernel_rfl) ?_
 simp only [xt,x0,x1,x2,x3,x4,x5,x6,x7,Rf,VT.holds,dC,Sq]
 refine ⟨kU n X Y jO,fun h=>by rw [ME,ag h],fun h=>⟨rfl,aq n,fun i nU=>⟨fun dR=> ?_,fun iG=>⟨ae i,?_,h.symm⟩⟩⟩⟩
 ·have hn:=fO h
  have last: ∀s:Int,s=ov n X Y i-> ∀k,k<i+1->(if k<i then ov n X Y k else s)=ov n X Y k:=fun s hs k hk=>by
   by_cases e:k<i
   ·rw [ag e]
   ·have:k=i:=by omega
    subst this
    rw [ab e,hs]
  refine ⟨ES n X Y i (by omega) (by omega) (by omega) (by omega),fun ho=>⟨⟨ae i,by omega,ae 1⟩,by unfold dh;omega,rfl,last 1 (by rw [ov,ag ho]),by omega,by omega⟩,fun ho=>⟨⟨ae i,by omega,ae 1⟩,by unfold dh;omega,rfl,last (-1) (by rw [ov,ab ho]),by omega,by omega⟩⟩
 ·rw [ME,ab (by rw [h];simp)]
  omega
end Go.Abs
end
section
set_option maxRecDepth 100000
namespace Go.Abs
open Go
theorem rN {n i:Nat} (h:i<n):ix n (i:Int)=i:=by
 unfold ix
 rw [bM,Int.emod_eq_of_lt (by omega) (by omega)]
 rfl
theorem Uu {n:Nat} (i:Int):((i+1)%(n:Int)).toNat=ix n (i+1):=by
 unfold ix;rw [bM]
theorem Mj {n:Nat} (i:Int):((i+(n:Int) - 1)%(n:Int)).toNat=ix n (i - 1):=by
 unfold ix;congr 2;omega
def vf:fx:= .res fun l=>dB (decide (aI l 1<=aI l 0/\aI l 0<=aI l 2))
def s8 (a b c d:Int):Int:=if vZ a b c d=true then HX a b c d else -1
def Qj:fx:= .res fun l=>dI (s8 (fI 0 (arg l 0)) (fI 1 (arg l 0)) (fI 0 (arg l 1)) (fI 1 (arg l 1)))
def DJ:fx:= .res fun l=>dP (aX l (ix (aN l) (aI l 1+1))) (aY l (ix (aN l) (aI l 1+1)))
def JQ (a b c d e f g h:Int):Bool:=decide (min a c<=max e g/\min e g<=max a c/\min b d<=max f h/\min f h<=max b d)
def rTouR:fx:= .res fun l=>dB (JQ (fI 0 (arg l 0)) (fI 1 (arg l 0)) (fI 0 (arg l 1)) (fI 1 (arg l 1)) (fI 0 (arg l 2)) (fI 1 (arg l 2)) (fI 0 (arg l 3)) (fI 1 (arg l 3)))
def G4:fx:= .res fun l=>dB (decide (min (aI l 1) (aI l 2)<=aI l 0/\aI l 0<=max (aI l 1) (aI l 2)))
noncomputable def Ga (x l h:Int):eA:={ dz:=[],loops:=[],dK:=[] }
theorem iB (x l h:Int) :dv prog 82 [dI x,dI l,dI h] (dB (decide (l<=x/\x<=h))):=by
 refine dm dJ (Ga x l h) (V:=VT.dk [ri (decide (x>=l)=true),ri (decide (x>=l)=true),ri (decide (x>=l)=true)] (VT.done [(if decide (x>=l)=true then decide (x<=h) else false)=decide (l<=x/\x<=h)])) (by kernel_rfl) ?_
 simp only [VT.holds,dC,Sq]
 grind
noncomputable def SH (x:Int):eA:={ dz:=[(1,[(1,vf)])],loops:=[],dK:=[] }
theorem Cn (x:Int) :dv prog 124 [dI x] (dB (gN x)):=by
 refine dm dJ (SH x) (V:=VT.dk [dv prog 82 [DV.val (Value.int IntKind.i64 x),DV.val (Value.int IntKind.i64 (-1000000:Int)),DV.val (Value.int IntKind.i64 (1000000:Int))] (DV.val (Value.bool (decide ((-1000000:Int)<=x/\x<=1000000))))] (VT.done [decide ((-1000000:Int)<=x/\x<=1000000)=gN x])) (by kernel_rfl) ?_
 simp only [VT.holds,dC,Sq]
 exact ⟨iB x _ _,rfl⟩
noncomputable def K4 (a b c d:Int):eA:={ dz:=[],loops:=[],dK:=[] }
namespace wh
noncomputable section
structure Z where
 a:Int
 b:Int
 c:Int
 d:Int
variable (z:Z) (P:List Prop) (a b:Int) (g:Bool) (U:VT)
abbrev x0:List Prop:=ri ((z.b==z.d)=true)::P
abbrev x1:List Prop:=ri ((z.a==z.c)=true)::P
abbrev x2:=VT.done [a=s8 z.a z.b z.c z.d]
abbrev x3:=if (a==b)=true then g else false
abbrev x4:=VT.dk (x0 z (x0 z (x0 z (x0 z (x0 z []))))) (VT.ite (x3 z.b z.d g) (x2 z a) U)
abbrev x5:=VT.dk (x1 z (x1 z (x1 z (x1 z (x1 z []))))) (VT.ite (x3 z.a z.c g) (x2 z a) U)
abbrev xt:VT:=x4 z (0:Int) (decide (z.c>z.a)) (x5 z (1:Int) (decide (z.d>z.b)) (x4 z (2:Int) (decide (z.c<z.a)) (x5 z (3:Int) (decide (z.d<z.b)) (x2 z (-(1:Int))))))
end
end wh
open wh in
theorem KJ (a b c d:Int) :dv prog 125 [dP a b,dP c d] (dI (s8 a b c d)):=by
 refine dm dJ (K4 a b c d) (V:=xt ⟨a,b,c,d⟩) (by kernel_rfl) ?_
 simp only [xt,x0,x1,x2,x3,x4,x5,Rf,VT.holds,dC,Sq]
 unfold s8 vZ HX
 simp only [ah]
 refine ⟨fun h=> ?_,fun h1=>⟨fun h=> ?_,fun h2=>⟨fun h=> ?_,fun h3=>⟨fun h=> ?_,fun h4=> ?_⟩⟩⟩⟩
 all_goals grind
noncomputable def K3 (n:Nat) (X Y:Nat->Int) (i:Int):eA:={ dz:=[(1,[(5,.pos)])],loops:=[],dK:=[] }
theorem xo (n:Nat) (X Y:Nat->Int) (i:Int) (hn:0<n) (jO:n<=1000000) (h1:0<=i) (h2:i<=1000000):dv prog 126 [my n X Y,dI i] (dP (X (ix n (i+1))) (Y (ix n (i+1)))):=by
 refine dm dJ (K3 n X Y i) (V:=VT.dk [dh (i+1),(0:Int)<=i+1/\(0:Int)<(n:Int),(0:Int)<=(i+1)%(n:Int)/\(i+1)%(n:Int)<(n:Int)] (VT.done [X ((i+1)%(n:Int)).toNat=X (ix n (i+1)),Y ((i+1)%(n:Int)).toNat=Y (ix n (i+1))])) (by kernel_rfl) ?_
 simp only [VT.holds,dC,Sq]
 have:=br (i+1) (show (0:Int)<n by omega)
 have:=bm (i+1) (show (n:Int)≠0 by omega)
 rw [Uu]
 exact ⟨⟨by unfold dh;omega,by omega,by omega⟩,rfl,rfl⟩
noncomputable def F5 (a b c d e f g h:Int):eA:={ dz:=[],loops:=[],dK:=[] }
namespace wj
noncomputable section
structure Z where
 a:Int
 b:Int
 c:Int
 d:Int
 e:Int
 f:Int
 g:Int
 h:Int
variable (z:Z) (P:List Prop) (a b c d:Int) (g h:Bool)
abbrev x0:=decide ((iD a [b])<=(hP c [d]))
abbrev x1:=if g=true then h else false
abbrev x2:=x0 z.a z.c z.e z.g
abbrev x3:List Prop:=ri (g=true)::ri (h=true)::P
abbrev x4:=x1 (x2 z) (x0 z.e z.g z.a z.c)
abbrev x5:=x1 (x4 z) (x0 z.b z.d z.f z.h)
abbrev x6:=x3 P (x2 z) (x2 z)
abbrev x7:=x3 P (x4 z) (x4 z)
abbrev x8:=x3 P (x5 z) (x5 z)
abbrev xt:VT:=VT.dk (x6 z (x6 z (x6 z (x6 z (x6 z (x3 (x7 z (x7 z (x7 z (x7 z (x7 z (x8 z (x8 z (x8 z (x8 z (x8 z [ri (x5 z=true)])))))))))) (x2 z) (x4 z))))))) (VT.done [x1 (x5 z) (x0 z.f z.h z.b z.d)=JQ z.a z.b z.c z.d z.e z.f z.g z.h])
end
end wj
open wj in
theorem PS (a b c d e f g h:Int) :dv prog 127 [dP a b,dP c d,dP e f,dP g h] (dB (JQ a b c d e f g h)):=by
 refine dm dJ (F5 a b c d e f g h) (V:=xt ⟨a,b,c,d,e,f,g,h⟩) (by kernel_rfl) ?_
 simp only [xt,x0,x1,x2,x3,x4,x5,x6,x7,x8,Rf,VT.holds,dC,Sq,iD,hP]
 unfold JQ
 grind
noncomputable def CZ (x a b:Int):eA:={ dz:=[],loops:=[],dK:=[] }
namespace wk
noncomputable section
structure Z where
 x:Int
 a:Int
 b:Int
variable (z:Z)
abbrev x0:=decide (z.x>=(iD z.a [z.b]))
abbrev xt:VT:=VT.dk [ri (x0 z=true),ri (x0 z=true),ri (x0 z=true),ri (x0 z=true),ri (x0 z=true)] (VT.done [(if (x0 z)=true then (decide (z.x<=(hP z.a [z.b]))) else false)=decide ((min z.a z.b<=z.x)/\(z.x<=max z.a z.b))])
end
end wk
open wk in
theorem El (x a b:Int) :dv prog 178 [dI x,dI a,dI b] (dB (decide (min a b<=x/\x<=max a b))):=by
 refine dm dJ (CZ x a b) (V:=xt ⟨x,a,b⟩) (by kernel_rfl) ?_
 simp only [xt,x0,Rf,VT.holds,dC,Sq,iD,hP]
 grind
end Go.Abs
end
