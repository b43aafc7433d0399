/- Contracts and what they stand on. -/
import Derived.Test.YtoinjphpfpklmaaGreatDoorAbsT
import Derived.Deep.Fields
import Derived.ChangeSame
import Derived.Lib.SmallJoins
import Derived.Carry
import Derived.OpenShut
import Derived.WideKeyArgs
import Derived.Test.YtoinjphpfpklmaaGreatDoorProg
set_option linter.unusedVariables false
set_option linter.unusedSimpArgs false
section
namespace Go.Abs
open Go.RowKit Go.WideShapes Go.ChangeShapes Go.Deep Go.Joins Go.WideElems
section
variable {H:Type} {enc:TypeId×Value->H} {P:Program} {w:World} {base:Nat} {spare:Nat->Bool} {held:Bool}
theorem Dk {t e:TypeId} {fs:Array Field} {fuel:Nat} {cs:List Value} {x:DataW H×List MemPlace} (ht:P.underlying t=some (.slice e)) (he:P.underlying e=some (.struct fs))
 (jR:oneCellFields P fs=true) (hC:P.cellsOf e=fs.size) (hint: ∀(j:Nat) (f:Field),fs[j]? =some f->P.underlying f.type=some (.int .i64)) (h:DataW.trod enc P w base spare held fuel t cs=some x):
 cs=[.slice none 0 0]\/ ∃(a:Addr) (len cap:Nat),cs=[.slice (some a) len cap]/\len<=cap/\
  ∀i j,i<len->j<fs.size-> ∃z,w.cell? (a.add (i*fs.size+j))=some (.int .i64 z):=by
 rcases open_slice ht h with ⟨h0,_⟩|⟨a,len,cap,m,n,D,Pl,xy,_,hl,_,hm,_,hi⟩
 ·exact .inl h0
 ·refine .inr ⟨a,len,cap,xy,hl,fun i j QJ hj=> ?_⟩
  have YV:i<m:=by rw [hm];split<;>omega
  obtain ⟨vS,hc,ht'⟩:=hi i YV
  rw [hC] at hc
  obtain ⟨ys,n',_,_,hlen,hyl,hf⟩:=DataW.trod_struct he ht'
  obtain ⟨_,jg,sI⟩:=World.cells?_some hc
  have B5:fs[j]? =some fs[j]:=aD hj
  obtain ⟨ho,hk⟩:=hone_of jR j _ B5
  have eZ:=sI j hj
  have h1:=hf j _ B5
  rw [ho,hk] at h1
  have Hy:(vS.drop j).take 1=[vS[j]'(by omega)]:=by
   rw [cx (by omega)]
   rfl
  rw [Hy] at h1
  have hys:ys[j]? =some (ys[j]'(by omega)):=ak (by omega)
  obtain ⟨z,hz,_,_⟩:=DataW.trod_int (hint j _ B5) (h1.trans hys)
  refine ⟨z,?_⟩
  rw [<-Go.Deep.add_add,eZ,ak (by omega)]
  exact congrArg some (List.cons.inj hz).1
theorem D2 {W W':World} (hl:laidOutB P=true) (hb:Below W.heap.size W W'): ∀{ts:List TypeId} {vs:List Value} {ds:List (DataW H)} {ps:List MemPlace} {sp:Nat->Bool},
 (ts.all fun t=>P.readableRec t&&decide (t<P.types.size))=true->DataW.TrodAll enc P W 0 (fun _=>true) true ts vs ds ps->(∀x∈ps,x.block<W.heap.size)->(∀x∈ps,sp x.block=true)->
   DataW.TrodAll enc P W' 0 sp true ts vs ds ps
 |[],vs,ds,ps,sp,_,h,_,_=>by
  obtain ⟨rfl,rfl,rfl⟩:=trodAll_nil h
  exact trodAll_mk0
 |t::ts,vs,ds,ps,sp,ha,h,dK,hs=>by
  obtain ⟨v,vs',d,ds',p,q,rfl,rfl,rfl,h0,h1⟩:=trodAll_cons h
  rw [List.all_cons,av,av,ai] at ha
  exact trodAll_cons_mk (Trod_stays hl ha.1.1 ha.1.2 h0 (fun x hx=>hb.lib.same (dK x (aR _ hx))) fun x hx=>hs x (aR _ hx))
   (D2 hl hb ha.2 h1 (fun x hx=>dK x (aW _ hx)) fun x hx=>hs x (aW _ hx))
theorem BO {f:Func} {s:ChangeSpec} {apart fresh handsOn again:Bool} {W W':World} {args:Array Value} {v:Value} {ds gs:List (DataW H)} {before pa pv:List MemPlace}
 (hW:DataW.Whole enc P f.params.toList s.vars apart W args.toList ds gs before)
 (kO: ∀(b:Nat) (sp:Nat->Bool) (hd:Bool),DataW.TrodAll enc P W' b sp hd f.resultTypes.toList (v.resultList f.resultTypes.size) (s.fn H (ds++gs)).results [])
 (iK: ∀sp:Nat->Bool,(∀p∈before,sp p.block=true)->DataW.TrodAll enc P W' 0 sp true f.params.toList args.toList (s.fn H (ds++gs)).args pa)
 (VN: ∀sp:Nat->Bool,(∀p∈before,sp p.block=true)->DataW.TrodVars enc P W' sp s.vars (s.fn H (ds++gs)).vars pv)
 (DC:before=pa++pv) (hb:Below W.heap.size W W')
 (j7: ∀(j:Nat) (t:TypeId) (r:Value),f.resultTypes[j]? =some t->(v.resultList f.resultTypes.size)[j]? =some r->Value.okWide P W' .any 0 t r):
 s.post enc P f apart fresh handsOn again W args v W':=by
 have dK: ∀p∈before,p.block<W.heap.size:=fun p hp=>hW.lt p hp
 have hold: ∀p∈before,(fun b=>decide (b<W.heap.size)) p.block=true:=fun p hp=>by simpa using dK p hp
 refine ⟨ds,gs,before,[],pa,pv,hW,kO _ _ _,iK _ hold,VN _ hold,World.keptBut_mono (fun p hp=>⟨hp,?_⟩) (hb.lib.frame (·∈before)),fun _=> ?_⟩
 ·rw [DC,aT] at hp
  exact Or.inr hp
 ·obtain ⟨_,_,_,_,_,hz,hn⟩:=hW
  refine ⟨j7,_,_,([]++pa)++pv,⟨[]++pa,pv,trodAll_append (iK _ (fun _ _=>rfl)) (kO _ _ _),VN _ (fun _ _=>rfl),rfl,?_,?_⟩,?_⟩
  ·intro b off hp
   have sj:MemPlace.cell b off∈before:=by rw [DC];simpa using hp
   rw [hb.lib.frozen (dK _ sj)]
   exact hz b off sj
  ·intro ha
   have:=hn ha
   rw [DC] at this
   simpa using this
  ·intro p hp _
   rw [DC]
   simpa using hp
end
theorem MR {w:World} {S:Nat->Prop} (hS: ∀b,S b) {a:Addr} {len cap:Nat} (hl:len<=cap) (h: ∀i j,i<len->j<2-> ∃z,w.cell? (a.add (i*2+j))=some (.int .i64 z)):
 ∃X Y:Nat->Int,du (fQ w S) (.di len [fun i=> .val (.int .i64 (X i)),fun i=> .val (.int .i64 (Y i))]) (.slice (some a) len cap):=by
 classical
 refine ⟨fun i=>if hi:i<len then (h i 0 hi (by decide)).choose else 0,fun i=>if hi:i<len then (h i 1 hi (by decide)).choose else 0,?_⟩
 refine .di (fun i j=> .int .i64 (if hi:i<len then (if j=0 then (h i 0 hi (by decide)).choose else (h i 1 hi (by decide)).choose) else 0)) hl (fun i j f hi hj=>⟨a,rfl,?_,hS _⟩) (fun _=>by simp) (fun _ _ _ _ _=>rfl) fun i j f hi hj=> ?_
 ·match j,hj with
  |0,_=>rw [dif_pos hi,ah rfl];exact .inl ⟨(h i 0 hi (by decide)).choose_spec,rfl⟩
  |1,_=>rw [dif_pos hi,ae (by decide)];exact .inl ⟨(h i 1 hi (by decide)).choose_spec,rfl⟩
 ·match j,hj with
  |0,hj=>cases hj;simp only [bn];exact .val _
  |1,hj=>cases hj;simp only [show ¬(1:Nat)=0 by decide,cg];exact .val _
theorem uG {w:World} {S:Nat->Prop} (de:List (Nat->DV)):du (fQ w S) (.di 0 de) (.slice none 0 0):=
 .di (fun _ _=> .bool false) (af _) (fun _ _ _ h=>absurd h (by omega)) (fun h=>absurd h (by omega)) (fun _ _ _ h=>absurd h (by omega)) (fun _ _ _ h=>absurd h (by omega))
end Go.Abs
end
section
set_option maxRecDepth 100000
namespace Go.Abs
open Go
noncomputable abbrev prog:Program:=Go.Proofs.Tryz.prog
theorem dv:prog.follows .mixedOrders=true:=by kernel_rfl
abbrev mh (n:Nat) (X Y:Nat->Int):DV:= .di n [fun i=> .val (.int .i64 (X i)),fun i=> .val (.int .i64 (Y i))]
abbrev dP (x y:Int):DV:= .val (.agg #[.int .i64 x,.int .i64 y])
def ix (n:Nat) (i:Int):Nat:=((i+(n:Int))%(n:Int)).toNat
def kM (n:Nat) (X:Nat->Int):Prop:= ∀k,k<n-> -1000000<=X k/\X k<=1000000
theorem jo {n:Nat} {i:Int} (hn:0<n):ix n i<n:=by
 have:=bm (i+n) (show (0:Int)<n by omega)
 have:=bf (i+n) (show (n:Int)≠0 by omega)
 unfold ix;omega
def ns (a b c d:Int):Int:=if b=d/\a<c then 0 else if a=c/\b<d then 1 else if b=d/\a>c then 2 else if a=c/\b>d then 3 else 0
def yr (a b c d:Int):Bool:=decide ((b=d/\a≠c)\/(a=c/\b≠d))
def dD (n:Nat) (X Y:Nat->Int) (i:Int):Int:=ns (X (ix n i)) (Y (ix n i)) (X (ix n (i+1))) (Y (ix n (i+1)))
def dO (n:Nat) (X Y:Nat->Int) (i:Int):Bool:=yr (X (ix n i)) (Y (ix n i)) (X (ix n (i+1))) (Y (ix n (i+1)))
theorem fH (n:Nat) (X Y:Nat->Int) (i:Int):0<=dD n X Y i/\dD n X Y i<=3:=by
 unfold dD ns;grind
def lo (n:Nat) (X:Nat->Int) (i:Int):Int:=min (X (ix n i)) (X (ix n (i+1)))
def hi (n:Nat) (X:Nat->Int) (i:Int):Int:=max (X (ix n i)) (X (ix n (i+1)))
abbrev aN (l:List DV):Nat:=lenOf (arg l 0)
abbrev aX (l:List DV):Nat->Int:=iQ 0 (arg l 0)
abbrev aY (l:List DV):Nat->Int:=iQ 1 (arg l 0)
abbrev aI (l:List DV) (j:Nat):Int:=eA (arg l j)
def Sh:fE:= .res fun l=>dP (aX l (ix (aN l) (aI l 1))) (aY l (ix (aN l) (aI l 1)))
def PE:fE:= .res fun l=> .fy [dP (lo (aN l) (aX l) (aI l 1)) (lo (aN l) (aY l) (aI l 1)),dP (hi (aN l) (aX l) (aI l 1)) (hi (aN l) (aY l) (aI l 1))]
def Yg:fE:= .res fun l=> .fy [dI (dD (aN l) (aX l) (aY l) (aI l 1)),dB (dO (aN l) (aX l) (aY l) (aI l 1))]
def JY:fE:= .res fun l=>dI (dD (aN l) (aX l) (aY l) (aI l 1))
def JZ:fE:= .res fun l=>dB (decide (dD (aN l) (aX l) (aY l) (aI l 1)=(dD (aN l) (aX l) (aY l) (aI l 1 - 1)+1)%4))
def Yc:fE:= .res fun l=>dB (decide (lo (aN l) (aX l) (aI l 1)<=hi (aN l) (aX l) (aI l 2)/\lo (aN l) (aX l) (aI l 2)<=hi (aN l) (aX l) (aI l 1)/\lo (aN l) (aY l) (aI l 1)<=hi (aN l) (aY l) (aI l 2)/\lo (aN l) (aY l) (aI l 2)<=hi (aN l) (aY l) (aI l 1)))
def ir (x:Int):Bool:=decide (-1000000<=x/\x<=1000000)
def yY:fE:= .res fun l=>dB (ir (aI l 0))
def rBad:fE:= .res fun l=>dB (!(ir (fI 0 (arg l 0))&&ir (fI 1 (arg l 0))))
def rAbs:fE:= .res fun l=>dI ((aI l 0).natAbs:Int)
noncomputable def Sc (n:Nat) (X Y:Nat->Int) (i:Int):eH:={ dq:=[(1,[(7,.pos)])],loops:=[],dw:=[] }
theorem Cq (n:Nat) (X Y:Nat->Int) (i:Int) (hn:0<n) (jH:n<=1000) (h1: -(n:Int)<=i) (h2:i<=1000):dm prog 109 [mh n X Y,dI i] (dP (X (ix n i)) (Y (ix n i))):=by
 refine db dv (Sc n X Y i) (V:=VT.da [cZ (i+(n:Int)),(0:Int)<=i+(n:Int)/\(0:Int)<(n:Int),(0:Int)<=(i+(n:Int))%(n:Int)/\(i+(n:Int))%(n:Int)<(n:Int)] (VT.done [X ((i+(n:Int))%(n:Int)).toNat=X (ix n i),Y ((i+(n:Int))%(n:Int)).toNat=Y (ix n i)])) (by kernel_rfl) ?_
 simp only [VT.holds,dt,cZ]
 have:=bm (i+n) (show (0:Int)<n by omega)
 have:=bf (i+n) (show (n:Int)≠0 by omega)
 refine ⟨⟨by omega,by omega,by omega⟩,rfl,rfl⟩
noncomputable def NX (x:Int):eH:={ dq:=[],loops:=[],dw:=[] }
theorem Mw (x:Int) (h: -9223372036854775807<=x/\x<=9223372036854775807):dm prog 77 [dI x] (dI (x.natAbs:Int)):=by
 refine db dv (NX x) (V:=VT.da [cZ (-x)] (VT.done [hP x [-x]=(↑(Int.natAbs x):Int)])) (by kernel_rfl) ?_
 simp only [VT.holds,dt,cZ,hP]
 exact ⟨by omega,by split<;>omega⟩
noncomputable def FT (x:Int):eH:={ dq:=[],loops:=[],dw:=[] }
theorem AB (x:Int) :dm prog 79 [dI x] (dB (ir x)):=by
 refine db dv (FT x) (V:=VT.da [decide (x>=(-1000000:Int))=true->decide (x>=(-1000000:Int))=true,decide (x>=(-1000000:Int))=true->decide (x>=(-1000000:Int))=true] (VT.done [(if decide (x>=(-1000000:Int))=true then decide (x<=1000000) else false)=ir x])) (by kernel_rfl) ?_
 simp only [VT.holds,dt,ir]
 grind
noncomputable def KU (n:Nat) (X Y:Nat->Int) (i:Int):eH:={ dq:=[(1,[(2,Sh),(6,Sh)])],loops:=[],dw:=[] }
namespace w3
noncomputable section
structure Z where
 n:Nat
 X:Nat->Int
 Y:Nat->Int
 i:Int
variable (z:Z) (a b:Int) (A:DV)
abbrev x0:=DV.val (Value.int IntKind.i64 a)
abbrev x1:=z.X (ix z.n (z.i+1))
abbrev x2:=z.Y (ix z.n (z.i+1))
abbrev x3:=DV.val (Value.agg (Array.mk [Value.int IntKind.i64 a,Value.int IntKind.i64 b]))
abbrev x4:=dm prog 109 [DV.di z.n [fun i0=>x0 (z.X i0),fun i0=>x0 (z.Y i0)],x0 a] A
abbrev xt:VT:=VT.da [x4 z z.i (x3 (z.X (ix z.n z.i)) (z.Y (ix z.n z.i))),cZ (z.i+1),x4 z (z.i+1) (x3 (x1 z) (x2 z))] (VT.done [iM (z.X (ix z.n z.i)) [x1 z]=lo z.n z.X z.i,iM (z.Y (ix z.n z.i)) [x2 z]=lo z.n z.Y z.i,hP (z.X (ix z.n z.i)) [x1 z]=hi z.n z.X z.i,hP (z.Y (ix z.n z.i)) [x2 z]=hi z.n z.Y z.i])
end
end w3
open w3 in
theorem JN (n:Nat) (X Y:Nat->Int) (i:Int) (hn:0<n) (jH:n<=1000) (h1: -(n:Int)<=i) (h2:i<=900):dm prog 150 [mh n X Y,dI i] (.fy [dP (lo n X i) (lo n Y i),dP (hi n X i) (hi n Y i)]):=by
 refine db dv (KU n X Y i) (V:=xt ⟨n,X,Y,i⟩) (by kernel_rfl) ?_
 simp only [xt,x0,x1,x2,x3,x4,Rf,VT.holds,dt,iM,hP]
 refine ⟨⟨Cq n X Y i hn jH h1 (by omega),by unfold cZ;omega,Cq n X Y (i+1) hn jH (by omega) (by omega)⟩,?_⟩
 simp only [lo,hi]
 refine ⟨?_,?_,?_,?_⟩<;>split<;>omega
noncomputable def NW (n:Nat) (X Y:Nat->Int) (i:Int):eH:={ dq:=[(1,[(2,Sh),(6,Sh)])],loops:=[],dw:=[] }
theorem RA (n:Nat) (X Y:Nat->Int) (i:Int) (hn:0<n) (jH:n<=1000) (h1: -(n:Int)<=i) (h2:i<=900):dm prog 110 [mh n X Y,dI i] (.fy [dI (dD n X Y i),dB (dO n X Y i)]):=by
 refine db dv (NW n X Y i) (V:=VT.da [dm prog 109 [DV.di n [fun (i:Nat)=>DV.val (Value.int IntKind.i64 (X i)),fun (i:Nat)=>DV.val (Value.int IntKind.i64 (Y i))],DV.val (Value.int IntKind.i64 i)] (DV.val (Value.agg { toList:=[Value.int IntKind.i64 (X (ix n i)),Value.int IntKind.i64 (Y (ix n i))] })),cZ (i+1),dm prog 109 [DV.di n [fun (i:Nat)=>DV.val (Value.int IntKind.i64 (X i)),fun (i:Nat)=>DV.val (Value.int IntKind.i64 (Y i))],DV.val (Value.int IntKind.i64 (i+1))] (DV.val (Value.agg { toList:=[Value.int IntKind.i64 (X (ix n (i+1))),Value.int IntKind.i64 (Y (ix n (i+1)))] }))] (VT.da [(Y (ix n i)==Y (ix n (i+1)))=true->(Y (ix n i)==Y (ix n (i+1)))=true,(Y (ix n i)==Y (ix n (i+1)))=true->(Y (ix n i)==Y (ix n (i+1)))=true,(Y (ix n i)==Y (ix n (i+1)))=true->(Y (ix n i)==Y (ix n (i+1)))=true,(Y (ix n i)==Y (ix n (i+1)))=true->(Y (ix n i)==Y (ix n (i+1)))=true,(Y (ix n i)==Y (ix n (i+1)))=true->(Y (ix n i)==Y (ix n (i+1)))=true] (VT.ite (if (Y (ix n i)==Y (ix n (i+1)))=true then decide (X (ix n i)<X (ix n (i+1))) else false) (VT.done [(0:Int)=dD n X Y i,true=dO n X Y i]) (VT.da [(X (ix n i)==X (ix n (i+1)))=true->(X (ix n i)==X (ix n (i+1)))=true,(X (ix n i)==X (ix n (i+1)))=true->(X (ix n i)==X (ix n (i+1)))=true,(X (ix n i)==X (ix n (i+1)))=true->(X (ix n i)==X (ix n (i+1)))=true,(X (ix n i)==X (ix n (i+1)))=true->(X (ix n i)==X (ix n (i+1)))=true,(X (ix n i)==X (ix n (i+1)))=true->(X (ix n i)==X (ix n (i+1)))=true] (VT.ite (if (X (ix n i)==X (ix n (i+1)))=true then decide (Y (ix n i)<Y (ix n (i+1))) else false) (VT.done [(1:Int)=dD n X Y i,true
  =dO n X Y i]) (VT.da [(Y (ix n i)==Y (ix n (i+1)))=true->(Y (ix n i)==Y (ix n (i+1)))=true,(Y (ix n i)==Y (ix n (i+1)))=true->(Y (ix n i)==Y (ix n (i+1)))=true,(Y (ix n i)==Y (ix n (i+1)))=true->(Y (ix n i)==Y (ix n (i+1)))=true,(Y (ix n i)==Y (ix n (i+1)))=true->(Y (ix n i)==Y (ix n (i+1)))=true,(Y (ix n i)==Y (ix n (i+1)))=true->(Y (ix n i)==Y (ix n (i+1)))=true] (VT.ite (if (Y (ix n i)==Y (ix n (i+1)))=true then decide (X (ix n i)>X (ix n (i+1))) else false) (VT.done [(2:Int)=dD n X Y i,true=dO n X Y i]) (VT.da [(X (ix n i)==X (ix n (i+1)))=true->(X (ix n i)==X (ix n (i+1)))=true,(X (ix n i)==X (ix n (i+1)))=true->(X (ix n i)==X (ix n (i+1)))=true,(X (ix n i)==X (ix n (i+1)))=true->(X (ix n i)==X (ix n (i+1)))=true,(X (ix n i)==X (ix n (i+1)))=true->(X (ix n i)==X (ix n (i+1)))=true,(X (ix n i)==X (ix n (i+1)))=true->(X (ix n i)==X (ix n (i+1)))=true] (VT.ite (if (X (ix n i)==X (ix n (i+1)))=true then decide (Y (ix n i)>Y (ix n (i+1))) else false) (VT.done [(3:Int)=dD n X Y i,true=dO n X Y i]) (VT.done [(0:Int)=dD n X Y i,false=dO n X Y i])))))))))) (by kernel_rfl) ?_
 simp only [VT.holds,dt]
 refine ⟨⟨Cq n X Y i hn jH h1 (by omega),by unfold cZ;omega,Cq n X Y (i+1) hn jH (by omega) (by omega)⟩,?_⟩
 unfold dD dO ns yr
 generalize X (ix n i)=a
 generalize Y (ix n i)=b
 generalize X (ix n (i+1))=c
 generalize Y (ix n (i+1))=d
 simp only [imp_self,cQ,Bool.if_false_right,av,beq_iff_eq,ai,Bool.and_eq_false_imp,an]
 refine ⟨fun h=> ?_,fun h1=>⟨fun h=> ?_,fun h2=>⟨fun h=> ?_,fun h3=>⟨fun h=> ?_,fun h4=> ?_⟩⟩⟩⟩
 all_goals grind
noncomputable def N3 (n:Nat) (X Y:Nat->Int) (i:Int):eH:={ dq:=[(1,[(2,Yg)])],loops:=[],dw:=[] }
theorem zv (n:Nat) (X Y:Nat->Int) (i:Int) (hn:0<n) (jH:n<=1000) (h1: -(n:Int)<=i) (h2:i<=900):dm prog 53 [mh n X Y,dI i] (dI (dD n X Y i)):=by
 refine db dv (N3 n X Y i) (V:=VT.da [dm prog 110 [DV.di n [fun (i:Nat)=>DV.val (Value.int IntKind.i64 (X i)),fun (i:Nat)=>DV.val (Value.int IntKind.i64 (Y i))],DV.val (Value.int IntKind.i64 i)] (DV.fy [DV.val (Value.int IntKind.i64 (dD n X Y i)),DV.val (Value.bool (dO n X Y i))])] (VT.done [dD n X Y i=dD n X Y i])) (by kernel_rfl) ?_
 simp only [VT.holds,dt]
 exact ⟨RA n X Y i hn jH h1 h2,trivial⟩
noncomputable def IL (n:Nat) (X Y:Nat->Int) (i:Int):eH:={ dq:=[(1,[(2,JY),(6,JY),(8,.pos)])],loops:=[],dw:=[] }
namespace w5
noncomputable section
structure Z where
 n:Nat
 X:Nat->Int
 Y:Nat->Int
 i:Int
variable (z:Z) (a b:Int)
abbrev x0:=DV.val (Value.int IntKind.i64 a)
abbrev x1:=dD z.n z.X z.Y (z.i - 1)+1
abbrev x2:=dD z.n z.X z.Y z.i
abbrev x3:=dm prog 53 [DV.di z.n [fun i0=>x0 (z.X i0),fun i0=>x0 (z.Y i0)],x0 a] (x0 b)
abbrev xt:VT:=VT.da [x3 z z.i (x2 z),cZ (z.i - 1),x3 z (z.i - 1) (dD z.n z.X z.Y (z.i - 1)),cZ (x1 z),0<=x1 z/\(0:Int)<(4:Int)] (VT.done [(x2 z==x1 z%4)=decide ((x2 z)=(x1 z%4))])
end
end w5
open w5 in
theorem uU (n:Nat) (X Y:Nat->Int) (i:Int) (hn:0<n) (jH:n<=1000) (h1: -(n:Int)<i) (h2:i<=900):dm prog 50 [mh n X Y,dI i] (dB (decide (dD n X Y i=(dD n X Y (i - 1)+1)%4))):=by
 refine db dv (IL n X Y i) (V:=xt ⟨n,X,Y,i⟩) (by kernel_rfl) ?_
 simp only [xt,x0,x1,x2,x3,Rf,VT.holds,dt,cZ]
 have:=fH n X Y (i - 1)
 refine ⟨⟨zv n X Y i hn jH (by omega) h2,by omega,zv n X Y (i - 1) hn jH (by omega) (by omega),by omega,by omega⟩,?_⟩
 grind
noncomputable def IF (n:Nat) (X Y:Nat->Int) (i k:Int):eH:={ dq:=[(1,[(2,PE)]),(2,[(2,PE)])],loops:=[],dw:=[] }
namespace w6
noncomputable section
structure Z where
 n:Nat
 X:Nat->Int
 Y:Nat->Int
 i:Int
 k:Int
variable (z:Z) (P:List Prop) (a b c d:Int) (g h:Bool) (A:DV) (U:VT)
abbrev x0:=decide ((lo z.n z.X a)<=(hi z.n z.X b))
abbrev x1:=Value.int IntKind.i64 a
abbrev x2:List Prop:=ri (g=true)::ri (h=true)::P
abbrev x3:=if (x0 z z.i z.k)=true then (x0 z z.k z.i) else false
abbrev x4:=if g=true then (decide ((lo z.n z.Y a)<=(hi z.n z.Y b))) else false
abbrev x5:=x4 z z.i z.k (x3 z)
abbrev x6:=x2 P (x0 z z.i z.k) (x0 z z.i z.k)
abbrev x7:=DV.fy [DV.val (Value.agg (Array.mk [x1 (lo z.n z.X a),x1 (lo z.n z.Y b)])),DV.val (Value.agg (Array.mk [x1 (hi z.n z.X c),x1 (hi z.n z.Y d)]))]
abbrev x8:=VT.da [dm prog 150 [DV.di z.n [fun i0=>DV.val (x1 (z.X i0)),fun i0=>DV.val (x1 (z.Y i0))],DV.val (x1 a)] A] U
abbrev xt:VT:=x8 z z.i (x7 z z.i z.i z.i z.i) (x8 z z.k (x7 z z.k z.k z.k z.k) (VT.da (x6 z (x6 z (x2 (x2 (x2 (x2 (x2 [ri (x5 z=true)] (x5 z) (x5 z)) (x5 z) (x5 z)) (x3 z) (x3 z)) (x3 z) (x3 z)) (x0 z z.i z.k) (x3 z)))) (VT.done [x4 z z.k z.i (x5 z)=decide ((lo z.n z.X z.i<=hi z.n z.X z.k)/\(lo z.n z.X z.k<=hi z.n z.X z.i/\lo z.n z.Y z.i<=hi z.n z.Y z.k/\lo z.n z.Y z.k<=hi z.n z.Y z.i))])))
end
end w6
open w6 in
theorem S7 (n:Nat) (X Y:Nat->Int) (i k:Int) (hn:0<n) (jH:n<=1000) (h1: -(n:Int)<=i) (h2:i<=900) (k1: -(n:Int)<=k) (k2:k<=900):dm prog 113 [mh n X Y,dI i,dI k] (dB (decide (lo n X i<=hi n X k/\lo n X k<=hi n X i/\lo n Y i<=hi n Y k/\lo n Y k<=hi n Y i))):=by
 refine db dv (IF n X Y i k) (V:=xt ⟨n,X,Y,i,k⟩) (by kernel_rfl) ?_
 simp only [xt,x0,x1,x2,x3,x4,x5,x6,x7,x8,Rf,VT.holds,dt]
 refine ⟨JN n X Y i hn jH h1 h2,JN n X Y k hn jH k1 k2,?_⟩
 simp only [imp_self,cQ,Bool.if_false_right]
 grind
noncomputable def NV (x y:Int):eH:={ dq:=[(1,[(2,yY),(7,yY)])],loops:=[],dw:=[] }
theorem R0 (x y:Int) :dm prog 112 [dP x y] (dB (!(ir x&&ir y))):=by
 refine db dv (NV x y) (V:=VT.da [dm prog 79 [DV.val (Value.int IntKind.i64 x)] (DV.val (Value.bool (ir x))),(!!ir x)=true->(!!ir x)=true,(!!ir x)=true->(!!ir x)=true,(!!ir x)=true->dm prog 79 [DV.val (Value.int IntKind.i64 y)] (DV.val (Value.bool (ir y))),(!!ir x)=true->(!!ir x)=true,(!ir x)=false->(!!ir x)=true] (VT.done [(if (!ir x)=true then true else !ir y)= !(ir x&&ir y)])) (by kernel_rfl) ?_
 simp only [VT.holds,dt]
 refine ⟨⟨AB x,?_⟩,?_⟩
 ·simp only [imp_self,cQ,cR]
  have:=AB y
  grind
 ·grind
end Go.Abs
end
section
set_option maxRecDepth 100000
namespace Go.Abs
open Go
def qE (n:Nat) (X Y:Nat->Int):Nat->Int
 |0=>0
 |k+1=>qE n X Y k+(X (ix n k)*Y (ix n (k+1)) - X (ix n (k+1))*Y (ix n k))
theorem Yq {a b:Int} {A B:Nat} (ha:a.natAbs<=A) (hb:b.natAbs<=B):(a*b).natAbs<=A*B:=by
 rw [Int.natAbs_mul];exact Nat.mul_le_mul ha hb
theorem si {n:Nat} {X:Nat->Int} (h:kM n X) {k:Nat} (hk:k<n):(X k).natAbs<=1000000:=by
 have:=h k hk;omega
theorem rW {n:Nat} {X Y:Nat->Int} (hn:0<n) (hX:kM n X) (hY:kM n Y) (i j:Int):(X (ix n i)*Y (ix n j)).natAbs<=1000000000000:=
 Yq (A:=1000000) (B:=1000000) (si hX (jo hn)) (si hY (jo hn))
theorem Ea {n:Nat} {X Y:Nat->Int} (hn:0<n) (hX:kM n X) (hY:kM n Y): ∀k,(qE n X Y k).natAbs<=2000000000000*k
 |0=>by simp [qE]
 |k+1=>by
  have:=Ea hn hX hY k
  have:=rW hn hX hY k (k+1)
  have:=rW hn hX hY (k+1) k
  simp only [qE]
  omega
theorem s5 (i:Nat):Int.toNat ((i:Int)+1)=i+1:=by omega
theorem JJ (i:Nat):Int.toNat ((i:Int)+2)=i+2:=by omega
theorem qF:Int.toNat (0:Int)=0:=rfl
def je (p:Nat->Bool) (n:Nat) (r:Int):Prop:=(r= -1/\ ∀j,j<n->p j=false)\/ ∃i:Nat,i<n/\r=i/\p i=true/\ ∀j,j<i->p j=false
theorem iC (p:Nat->Bool) (n:Nat): ∃r,je p n r:=by
 induction n with
 |zero=>exact ⟨-1,.inl ⟨rfl,fun j h=>by omega⟩⟩
 |succ n ih=>
  obtain ⟨r,⟨h1,h2⟩|⟨i,h1,h2,h3,h4⟩⟩:=ih
  ·cases hp:p n with
   |true=>exact ⟨n,.inr ⟨n,by omega,rfl,hp,h2⟩⟩
   |false=>
    refine ⟨-1,.inl ⟨rfl,fun j h=> ?_⟩⟩
    by_cases e:j=n
    ·rw [e];exact hp
    ·exact h2 j (by omega)
  ·exact ⟨r,.inr ⟨i,by omega,h2,h3,h4⟩⟩
def rS (X Y:Nat->Int) (k:Nat):Bool:= !(ir (X k)&&ir (Y k))
def kK (n:Nat) (X Y:Nat->Int):Bool:=decide (∀k,k<n->rS X Y k=false)
def rTw:fE:= .res fun l=>dI (qE (aN l) (aX l) (aY l) (aN l))
def uM:fE:= .res fun l=>dI (((aX l (ix (aN l) (aI l 1+1)) - aX l (ix (aN l) (aI l 1))).natAbs:Int)+((aY l (ix (aN l) (aI l 1+1)) - aY l (ix (aN l) (aI l 1))).natAbs:Int))
def Yi:fE:= .res fun l=>dB (!(kK (aN l) (aX l) (aY l)))
noncomputable def IN (n:Nat) (X Y:Nat->Int):eH:={ dq:=[(5,[(2,Sh),(6,Sh)])],loops:=[(0,{ ι:=Nat,keep:=[0,8],boxes:=[],ts:=fun _ i=>[(3,dI (qE n X Y i)),(9,dI (i:Int))],inv:=fun _ i=>i<=n,mu:=fun _ i=>n - i,rd:=fun _ σ=>(eA (σ.get 9)).toNat })],dw:=[] }
namespace w8
noncomputable section
structure Z where
 n:Nat
 X:Nat->Int
 Y:Nat->Int
variable (z:Z) (i0:Nat) (p:Prop) (P:List Prop) (a b c:Int) (k:Nat)
abbrev x0:=(i0:Int)+1
abbrev x1:=DV.val (Value.int IntKind.i64 a)
abbrev x2:=Int.toNat (x0 i0)
abbrev x3:=(z.X (ix z.n (i0:Int)))*(z.Y (ix z.n (x0 i0)))
abbrev x4:=(z.X (ix z.n (x0 i0)))*(z.Y (ix z.n (i0:Int)))
abbrev x5:=qE z.n z.X z.Y i0+(x3 z i0 - x4 z i0)
abbrev x6:List Prop:=p::(a=(k:Int))::rf z.n::(∀i0<z.n,rf (z.X i0))::(∀i0<z.n,rf (z.Y i0))::rf (z.n:Int)::P
abbrev x7:=dm prog 109 [DV.di z.n [fun i0=>x1 (z.X i0),fun i0=>x1 (z.Y i0)],x1 a] (DV.val (Value.agg (Array.mk [Value.int IntKind.i64 (z.X (ix z.n b)),Value.int IntKind.i64 (z.Y (ix z.n c))])))
abbrev xt:VT:=VT.loop Nat (fun i0=>i0<=z.n) (Int.toNat 0) (x6 z (rf (0:Int)) [] (0:Int) (Int.toNat 0)) (fun i0=>VT.ite (decide ((i0:Int)<(z.n:Int))) (VT.da [x7 z (i0:Int) (i0:Int) (i0:Int),cZ (x0 i0),x7 z (x0 i0) (x0 i0) (x0 i0)] (VT.da [cZ (x3 z i0),cZ (x4 z i0),cZ (x3 z i0 - x4 z i0),cZ (x5 z i0)] (VT.da [cZ (x0 i0)] (VT.done (x6 z (x5 z i0=qE z.n z.X z.Y (x2 i0)) [x2 i0<=z.n,z.n - x2 i0<z.n - i0] (x0 i0) (x2 i0)))))) (VT.done [qE z.n z.X z.Y i0=qE z.n z.X z.Y z.n]))
end
end w8
open w8 in
theorem Lc (n:Nat) (X Y:Nat->Int) (hn:0<n) (jH:n<=800) (hX:kM n X) (hY:kM n Y):dm prog 55 [mh n X Y] (dI (qE n X Y n)):=by
 refine db dv (IN n X Y) (V:=xt ⟨n,X,Y⟩) (by kernel_rfl) ?_
 simp only [xt,x0,x1,x2,x3,x4,x5,x6,x7,Rf,VT.holds,dt,cY,cR,cQ,s5,qF,ai,an]
 refine ⟨rfl,ao n,fun i hi=>⟨fun h=> ?_,fun h=> ?_⟩⟩
 ·have b1:=rW hn hX hY i (i+1)
  have b2:=rW hn hX hY (i+1) i
  have b3:=Ea hn hX hY i
  simp only [cZ]
  refine ⟨⟨Cq n X Y i hn (by omega) (by omega) (by omega),by omega,Cq n X Y (i+1) hn (by omega) (by omega) (by omega)⟩,⟨by omega,by omega,by omega,by omega⟩,by omega,rfl,rfl,by omega,by omega⟩
 ·have:i=n:=by omega
  rw [this]
noncomputable def FX (n:Nat) (X Y:Nat->Int) (i:Int):eH:={ dq:=[(1,[(2,Sh),(6,Sh)]),(2,[(5,rAbs),(11,rAbs)])],loops:=[],dw:=[] }
namespace w9
noncomputable section
structure Z where
 n:Nat
 X:Nat->Int
 Y:Nat->Int
 i:Int
variable (z:Z) (a b c:Int)
abbrev x0:=DV.val (Value.int IntKind.i64 a)
abbrev x1:=z.X (ix z.n z.i)
abbrev x2:=z.X (ix z.n (z.i+1))
abbrev x3:=z.Y (ix z.n z.i)
abbrev x4:=z.Y (ix z.n (z.i+1))
abbrev x5:Int:=(↑(Int.natAbs (x2 z - x1 z)):Int)
abbrev x6:Int:=(↑(Int.natAbs (x4 z - x3 z)):Int)
abbrev x7:=dm prog 109 [DV.di z.n [fun i0=>x0 (z.X i0),fun i0=>x0 (z.Y i0)],x0 a] (DV.val (Value.agg (Array.mk [Value.int IntKind.i64 b,Value.int IntKind.i64 c])))
abbrev xt:VT:=VT.da [x7 z z.i (x1 z) (x3 z),cZ (z.i+1),x7 z (z.i+1) (x2 z) (x4 z)] (VT.da [cZ (x2 z - x1 z),dm prog 77 [x0 (x2 z - x1 z)] (x0 (x5 z)),cZ (x4 z - x3 z),dm prog 77 [x0 (x4 z - x3 z)] (x0 (x6 z)),cZ (x5 z+x6 z)] (VT.done [rf (x5 z+x6 z)]))
end
end w9
open w9 in
theorem vj (n:Nat) (X Y:Nat->Int) (i:Int) (hn:0<n) (jH:n<=1000) (h1: -(n:Int)<=i) (h2:i<=900) (hX:kM n X) (hY:kM n Y):dm prog 49 [mh n X Y,dI i] (dI (((X (ix n (i+1)) - X (ix n i)).natAbs:Int)+((Y (ix n (i+1)) - Y (ix n i)).natAbs:Int))):=by
 refine db dv (FX n X Y i) (V:=xt ⟨n,X,Y,i⟩) (by kernel_rfl) ?_
 simp only [xt,x0,x1,x2,x3,x4,x5,x6,x7,Rf,VT.holds,dt,cZ]
 have a1:=si hX (jo (i:=i) hn)
 have a2:=si hX (jo (i:=i+1) hn)
 have a3:=si hY (jo (i:=i) hn)
 have a4:=si hY (jo (i:=i+1) hn)
 refine ⟨⟨Cq n X Y i hn jH h1 (by omega),by omega,Cq n X Y (i+1) hn jH (by omega) (by omega)⟩,⟨by omega,Mw _ (by omega),by omega,Mw _ (by omega),by omega⟩,trivial⟩
noncomputable def IB (n:Nat) (X Y:Nat->Int) (r:Int):eH:={ dq:=[(4,[(5,rBad)])],loops:=[(0,{ ι:=Nat,keep:=[0,1,7],boxes:=[],ts:=fun _ i=>[(8,dI (i:Int))],inv:=fun _ i=>i<=n/\ ∀j,j<i->rS X Y j=false,mu:=fun _ i=>n - i,rd:=fun _ σ=>(eA (σ.get 8)).toNat })],dw:=[] }
namespace wa
noncomputable section
structure Z where
 n:Nat
 X:Nat->Int
 Y:Nat->Int
 r:Int
variable (i0:Nat) (sE:Nat->Int) (vu:List Value)
abbrev x0:=Int.toNat ((i0:Int)+1)
abbrev x1:=ir (sE (Int.toNat (i0:Int)))
abbrev x2:List Value:=Value.int IntKind.i64 (sE (Int.toNat (i0:Int)))::vu
abbrev x3:=rf (Value.func (Fn.func (112:FuncId)) (Array.mk []) (Array.mk []))
abbrev xt (z:Z):VT:=VT.loop Nat (fun i0=>i0<=z.n/\(∀i1<i0,rS z.X z.Y i1=false)) (Int.toNat 0) [0=(↑(Int.toNat 0):Int),rf z.n,∀i0<z.n,rf (z.X i0),∀i0<z.n,rf (z.Y i0),x3,rf (z.n:Int)] (fun i0=>VT.ite (decide ((i0:Int)<(z.n:Int))) (VT.da [0<=(i0:Int)/\(i0:Int)<(z.n:Int),dm prog (112:FuncId) [DV.val (Value.agg (Array.mk (x2 i0 z.X (x2 i0 z.Y []))))] (DV.val (Value.bool (!((x1 i0 z.X)&&(x1 i0 z.Y)))))] (VT.ite (!((x1 i0 z.X)&&(x1 i0 z.Y))) (VT.done [(i0:Int)=z.r]) (VT.da [cZ ((i0:Int)+1)] (VT.done [(i0:Int)+1=(↑(x0 i0):Int),rf z.n,∀i0<z.n,rf (z.X i0),∀i0<z.n,rf (z.Y i0),x3,rf (z.n:Int),x0 i0<=z.n/\(∀i1<x0 i0,rS z.X z.Y i1=false),z.n - x0 i0<z.n - i0])))) (VT.done [(-(1:Int))=z.r]))
end
end wa
open wa in
theorem EX (n:Nat) (X Y:Nat->Int) (r:Int) (jH:n<=1000000) (h:je (rS X Y) n r):dm prog 149 [mh n X Y,.val (.func (.func 112) #[] #[])] (dI r):=by
 refine db dv (IB n X Y r) (V:=xt ⟨n,X,Y,r⟩) (by kernel_rfl) ?_
 simp only [xt,x0,x1,x2,x3,Rf,VT.holds,dt,cY,cR,cQ,s5,qF,ai,an,Int.toNat_natCast]
 refine ⟨rfl,⟨ao n,fun j hj=>by omega⟩,fun i ⟨hi,hb⟩=>⟨fun dK=>⟨⟨by omega,R0 _ _⟩,fun sH=> ?_,fun j7=>⟨by unfold cZ;omega,rfl,⟨by omega,fun j hj=> ?_⟩,by omega⟩⟩,fun iy=> ?_⟩⟩
 ·rcases h with ⟨h1,h2⟩|⟨k,h1,h2,h3,h4⟩
  ·have:=h2 i (by omega)
   rw [rS,sH] at this;cases this
  ·rcases cP i k with hk|hk|hk
   ·have:=h4 i hk
    rw [rS,sH] at this;cases this
   ·rw [h2,hk]
   ·have:=hb k hk
    rw [h3] at this;cases this
 ·by_cases e:j=i
  ·rw [e];exact j7
  ·exact hb j (by omega)
 ·rcases h with ⟨h1,h2⟩|⟨k,h1,h2,h3,h4⟩
  ·rw [h1]
  ·have:=hb k (by omega)
   rw [h3] at this;cases this
noncomputable def Bs (n:Nat) (X Y:Nat->Int) (r:Int):eH:={ dq:=[(1,[(2,.res fun _=>dI r)])],loops:=[],dw:=[] }
theorem pR (n:Nat) (X Y:Nat->Int) (r:Int) (jH:n<=1000000) (h:je (rS X Y) n r):dm prog 111 [mh n X Y,.val (.func (.func 112) #[] #[])] (dB (!(kK n X Y))):=by
 refine db dv (Bs n X Y r) (V:=VT.da [dm prog 149 [DV.di n [fun (i:Nat)=>DV.val (Value.int IntKind.i64 (X i)),fun (i:Nat)=>DV.val (Value.int IntKind.i64 (Y i))],DV.val (Value.func (Fn.func (112:FuncId)) { toList:=[] } { toList:=[] })] (DV.val (Value.int IntKind.i64 r))] (VT.done [decide (r>=0)= !kK n X Y])) (by kernel_rfl) ?_
 simp only [VT.holds,dt]
 refine ⟨EX n X Y r jH h,?_⟩
 unfold kK
 rcases h with ⟨h1,h2⟩|⟨i,h1,h2,h3,h4⟩
 ·rw [bk h2,h1];rfl
 ·have hf: ¬ ∀k,k<n->rS X Y k=false:=fun h=>by rw [h i h1] at h3;cases h3
  rw [bg hf,h2];simp
end Go.Abs
end
section
set_option maxRecDepth 100000
namespace Go.Abs
open Go
def gF (n:Nat) (X Y:Nat->Int) (i:Nat):Bool:=dO n X Y i&&dO n X Y ((i:Int) - 1)&&decide (dD n X Y i%2≠dD n X Y ((i:Int) - 1)%2)
def JG (n:Nat) (X Y:Nat->Int) (i k:Int):Bool:=decide (lo n X i<=hi n X k/\lo n X k<=hi n X i/\lo n Y i<=hi n Y k/\lo n Y k<=hi n Y i)
def kS (n:Nat) (X Y:Nat->Int) (i k:Nat):Bool:=decide (((k:Int)+1)%(n:Int)≠(i:Int))&&JG n X Y i k
def gz (n:Nat) (X Y:Nat->Int):Int:=
 if ¬(4<=n/\n<=40) then 11 else if kK n X Y=false then 2 else if ¬ ∀i,i<n->gF n X Y i=true then 3
 else if ¬ ∀i,i<n-> ∀k,k<n->i+2<=k->kS n X Y i k=false then 12 else if qE n X Y n<0 then 10 else 0
def zV:fE:= .res fun l=>dI (gz (aN l) (aX l) (aY l))
theorem sy {n:Nat} {X Y:Nat->Int} (h:kK n X Y=true):kM n X/\kM n Y:=by
 simp only [kK,ai] at h
 refine ⟨fun k hk=> ?_,fun k hk=> ?_⟩<;>
 ·have:=h k hk
  simp [rS,ir] at this
  omega
noncomputable def IK (n:Nat) (X Y:Nat->Int):eH:={ dq:=[(3,[(1,Yi)]),(8,[(2,Yg)]),(9,[(3,Yg)]),(10,[(8,.pos),(10,.pos)]),(19,[(4,.pos),(11,Yc)]),(22,[(1,rTw)])],loops:=[(0,{ ι:=Nat,keep:=[0,21],boxes:=[],ts:=fun _ i=>[(22,dI (i:Int))],inv:=fun _ i=>i<=n/\ ∀j,j<i->gF n X Y j=true,mu:=fun _ i=>n - i,rd:=fun _ σ=>(eA (σ.get 22)).toNat }),(2,{ ι:=Nat,keep:=[0,53],boxes:=[],ts:=fun _ i=>[(54,dI (i:Int))],inv:=fun _ i=>i<=n/\ ∀j,j<i-> ∀k,k<n->j+2<=k->kS n X Y j k=false,mu:=fun _ i=>n - i,rd:=fun _ σ=>(eA (σ.get 54)).toNat }),(4,{ ι:=Nat,keep:=[0,53,54,8],boxes:=[],ts:=fun _ k=>[(9,dI (k:Int))],inv:=fun σ k=>(eA (σ.get 8)).toNat+2<=k/\ ∀j,j<k->(eA (σ.get 8)).toNat+2<=j->j<n->kS n X Y (eA (σ.get 8)).toNat j=false,mu:=fun _ k=>n+2 - k,rd:=fun _ σ=>(eA (σ.get 9)).toNat })],dw:=[] }
namespace wc
noncomputable section
structure Z where
 n:Nat
 X:Nat->Int
 Y:Nat->Int
variable (z:Z) (i0 i1 i2:Nat) (p:Prop) (P:List Prop) (a b:Int) (k:Nat) (g h:Bool) (U:VT) (TX:Nat->Prop) (Nc:Nat->VT)
abbrev x0:Int:=(i0:Int)
abbrev x1:Int:=(z.n:Int)
abbrev x2:=DV.val (Value.int IntKind.i64 a)
abbrev x3:=(i1:Int)+1
abbrev x4:= !(dO z.n z.X z.Y (x0 i0))
abbrev x5:=if g=true then true else h
abbrev x6:=x5 (x4 z i0) (!(dO z.n z.X z.Y (x0 i0 - 1)))
abbrev x7:=Int.toNat (x0 i0+1)
abbrev x8:=VT.ite g (VT.done [a=gz z.n z.X z.Y]) U
abbrev x9:=(x3 i1%x1 z !=x0 i0)=true
abbrev dC:=decide ((x1 z)<(4:Int))
abbrev dA:=DV.di z.n [fun i0=>x2 (z.X i0),fun i0=>x2 (z.Y i0)]
abbrev dz:=DV.val (Value.bool g)
abbrev dG:=Int.toNat (x3 i1)
abbrev dL:List Prop:=p::rf z.n::(∀i0<z.n,rf (z.X i0))::(∀i0<z.n,rf (z.Y i0))::rf (x1 z)::P
abbrev dR:=dD z.n z.X z.Y (x0 i0)
abbrev dQ:=dD z.n z.X z.Y (x0 i0 - 1)
abbrev ep:=DV.fy [x2 a,dz (dO z.n z.X z.Y b)]
abbrev eu:List Prop:=((!(x6 z i0))=true->0<=a/\(0:Int)<(2:Int))::ri ((!(x6 z i0))=true)::P
abbrev eG:=VT.loop Nat TX (Int.toNat 0) [0=(↑(Int.toNat 0):Int),rf z.n,∀i0<z.n,rf (z.X i0),∀i0<z.n,rf (z.Y i0),rf (x1 z)] Nc
abbrev ez:=i2<k->Int.toNat (x0 i0)+2<=i2->i2<z.n->kS z.n z.X z.Y (Int.toNat (x0 i0)) i2=false
abbrev eF:= ∀i0<z.n,i1+2<=i0->kS z.n z.X z.Y i1 i0=false
abbrev eQ:=VT.da [cZ (x0 i0+1)] (VT.done (dL z (x0 i0+1=(↑(x7 i0):Int)) [x7 i0<=z.n/\p,z.n - x7 i0<z.n - i0]))
abbrev fC:=decide ((lo z.n z.X (x0 i0)<=hi z.n z.X (i1:Int))/\(lo z.n z.X (i1:Int)<=hi z.n z.X (x0 i0)/\lo z.n z.Y (x0 i0)<=hi z.n z.Y (i1:Int)/\lo z.n z.Y (i1:Int)<=hi z.n z.Y (x0 i0)))
abbrev xt:VT:=VT.da [ri ((!(dC z))=true),ri ((!(dC z))=true),dC z=false->(!(dC z))=true] (x8 z (11:Int) (x5 (dC z) (decide ((x1 z)>(40:Int)))) (VT.da [dm prog 111 [dA z,DV.val (Value.func (Fn.func 112) (Array.mk []) (Array.mk []))] (dz (!(kK z.n z.X z.Y)))] (x8 z (2:Int) (!(kK z.n z.X z.Y)) (eG z (fun i0=>i0<=z.n/\(∀i1<i0,gF z.n z.X z.Y i1=true)) (fun i0=>VT.ite (decide ((x0 i0)<(x1 z))) (VT.da [dm prog 110 [dA z,x2 (x0 i0)] (ep z (dR z i0) (x0 i0))] (VT.da [cZ (x0 i0 - 1),dm prog 110 [dA z,x2 (x0 i0 - 1)] (ep z (dQ z i0) (x0 i0 - 1))] (VT.da (ri ((!(x4 z i0))=true)::(x4 z i0=false->(!(x4 z i0))=true)::ri ((!(x6 z i0))=true)::eu z i0 (eu z i0 [ri ((!(x6 z i0))=true),x6 z i0=false->(!(x6 z i0))=true] (dQ z i0)) (dR z i0)) (x8 z (3:Int) (x5 (x6 z i0) (dR z i0%2==dQ z i0%2)) (eQ z i0 (∀i1<x7 i0,gF z.n z.X z.Y i1=true)))))) (eG z (fun i0=>i0<=z.n/\(∀i1<i0,eF z i1)) (fun i0=>VT.ite (decide ((x0 i0)<(x1 z))) (VT.da [cZ (x0 i0+2)] (VT.loop Nat (fun i1=>Int.toNat (x0 i0)+2<=i1/\(∀(i2:Nat),ez z i0 i2 i1)) (Int.toNat (x0 i0+2)) (dL z (x0 i0+2=(↑(Int.toNat (x0 i0+2)):Int)) [rf (x0 i0),rf (x0 i0)]) (fun i1=>VT.ite (decide ((i1:Int)<(x1 z))) (VT.da [cZ (x3 i1),0<=x3 i1/\0<x1 z,ri (x9 z i0 i1),ri (x9 z i0 i1),ri (x9 z i0 i1),x9 z i0 i1->dm prog 113 [dA z,x2 (x0 i0),x2 (i1:Int)] (dz (fC z i0 i1)),ri (x9 z i0 i1)] (x8 z (12:Int) (if (x3 i1%x1 z !=x0 i0)=true then (fC z i0 i1) else false) (VT.da [cZ (x3 i1)] (VT.done (dL z (x3 i1=(↑(dG i1):Int)) [rf (x0 i0),rf (x0 i0),Int.toNat (x0 i0)+2<=dG i1/\(∀(i2:Nat),ez z i0 i2 (dG i1)),z.n+2 - dG i1<z.n+2 - i1]))))) (eQ z i0 (∀i1<x7 i0,eF z i1))))) (VT.da [dm prog 55 [dA z] (x2 (qE z.n z.X z.Y z.n))] (x8 z (10:Int) (decide ((qE z.n z.X z.Y z.n)<(0:Int))) (VT.done [0=gz z.n z.X z.Y]))))))))))
end
end wc
open wc in
theorem Fp (n:Nat) (X Y:Nat->Int) (jH:n<=1000000):dm prog 54 [mh n X Y] (dI (gz n X Y)):=by
 refine db dv (IK n X Y) (V:=xt ⟨n,X,Y⟩) (by kernel_rfl) ?_
 simp only [xt,x0,x1,x2,x3,x4,x5,x6,x7,x8,x9,dC,dA,dz,dG,dL,dR,dQ,ep,eu,eG,ez,eF,eQ,fC,Rf,VT.holds,dt,Sq]
 refine ⟨fun h=> ?_,fun h=>⟨?_,fun h2=> ?_,fun h2=>⟨rfl,⟨ao n,fun j hj=>(by omega)⟩,fun i ⟨hi,hf⟩=>⟨fun dK=> ?_,fun iy=>⟨rfl,⟨ao n,fun j hj=>(by omega)⟩,fun i2 ⟨VU,hc⟩=>⟨fun xw=>⟨?_,rfl,⟨af _,fun j h1 h2=>(by omega)⟩,fun k ⟨hk,hck⟩=>⟨fun kL=>⟨?_,fun jg=> ?_,fun jg=> ?_⟩,fun kL=> ?_⟩⟩,fun No=>⟨?_,fun ht=> ?_,fun ht=> ?_⟩⟩⟩⟩⟩⟩⟩
 ·rw [gz,ah (by omega)]
 ·obtain ⟨r,hr⟩:=iC (rS X Y) n
  exact pR n X Y r jH hr
 ·rw [gz,ae (by omega),ah h2]
 ·have e3:gF n X Y i=false->3=gz n X Y:=fun hx=>by
   rw [gz,ae (by omega),ae (by rw [h2];simp),ah (fun fh=>by rw [fh i (by omega)] at hx;cases hx)]
  have:=fH n X Y i
  have:=fH n X Y ((i:Int) - 1)
  refine ⟨RA n X Y i (by omega) (by omega) (by omega) (by omega),⟨by unfold cZ;omega,RA n X Y (i - 1) (by omega) (by omega) (by omega) (by omega)⟩,⟨fun _=>by omega,fun _=>by omega⟩,fun sH=>e3 ?_,fun j7=>⟨by unfold cZ;omega,rfl,⟨by omega,fun j hj=> ?_⟩,by omega⟩⟩
  ·unfold gF
   rcases sH with (hb|hb)|hb<;>simp [hb]
  ·by_cases e:j=i
   ·subst e
    unfold gF
    obtain ⟨wJ,qz⟩:=j7
    simp only [not_or,Bool.not_eq_false] at wJ
    simp [wJ.1,wJ.2,qz]
   ·exact hf j (by omega)
 ·unfold cZ;omega
 ·refine ⟨by unfold cZ;omega,by omega,fun _=>S7 n X Y i2 k (by omega) (by omega) (by omega) (by omega) (by omega) (by omega)⟩
 ·have sU: ∀j,j<n->gF n X Y j=true:=fun j hj=>hf j (by omega)
  rw [gz,ae (by omega),ae (by rw [h2];simp),ae (fun hx=>hx sU),ah (fun fh=> ?_)]
  have:=fh i2 (by omega) k (by omega) hk
  unfold kS JG at this
  rw [bk jg.1,bk jg.2] at this
  cases this
 ·refine ⟨by unfold cZ;omega,rfl,⟨by omega,fun j h1 h2 h3=> ?_⟩,by omega⟩
  by_cases e:j=k
  ·subst e
   unfold kS JG
   rw [Bool.and_eq_false_imp,ai,an]
   exact jg
  ·exact hck j (by omega) h2 h3
 ·refine ⟨by unfold cZ;omega,rfl,⟨by omega,fun j h1 k' h2 h3=> ?_⟩,by omega⟩
  by_cases e:j=i2
  ·subst e;exact hck k' (by omega) h3 h2
  ·exact hc j (by omega) k' h2 h3
 ·obtain ⟨b1,b2⟩:=sy h2
  exact Lc n X Y (by omega) (by omega) b1 b2
 ·have sU: ∀j,j<n->gF n X Y j=true:=fun j hj=>hf j (by omega)
  have jg: ∀j,j<n-> ∀k,k<n->j+2<=k->kS n X Y j k=false:=fun j hj=>hc j (by omega)
  rw [gz,ae (by omega),ae (by rw [h2];simp),ae (fun hx=>hx sU),ae (fun hx=>hx jg),ah ht]
 ·have sU: ∀j,j<n->gF n X Y j=true:=fun j hj=>hf j (by omega)
  have jg: ∀j,j<n-> ∀k,k<n->j+2<=k->kS n X Y j k=false:=fun j hj=>hc j (by omega)
  rw [gz,ae (by omega),ae (by rw [h2];simp),ae (fun hx=>hx sU),ae (fun hx=>hx jg),ae ht]
noncomputable def ud (n:Nat) (X Y:Nat->Int):eH:={ dq:=[(1,[(1,zV)])],loops:=[],dw:=[] }
theorem iF (n:Nat) (X Y:Nat->Int) (jH:n<=1000000):dm prog 48 [mh n X Y] (dI (gz n X Y)):=by
 refine db dv (ud n X Y) (V:=VT.da [dm prog 54 [DV.di n [fun (i:Nat)=>DV.val (Value.int IntKind.i64 (X i)),fun (i:Nat)=>DV.val (Value.int IntKind.i64 (Y i))]] (DV.val (Value.int IntKind.i64 (gz n X Y)))] (VT.done [gz n X Y=gz n X Y])) (by kernel_rfl) ?_
 simp only [VT.holds,dt,Sq]
 exact Fp n X Y jH
end Go.Abs
end
section
set_option maxRecDepth 100000
namespace Go.Abs
open Go
theorem nc {n:Nat} {X Y:Nat->Int} (h:gz n X Y=0):(4<=n/\n<=40)/\kK n X Y=true/\(∀i,i<n->gF n X Y i=true)/\
 (∀i,i<n-> ∀k,k<n->i+2<=k->kS n X Y i k=false)/\0<=qE n X Y n:=by
 unfold gz at h
 split at h
 ·cases h
 ·rename_i h1
  split at h
  ·cases h
  ·rename_i h2
   split at h
   ·cases h
   ·rename_i h3
    split at h
    ·cases h
    ·rename_i h4
     split at h
     ·cases h
     ·rename_i h5
      exact ⟨ca.1 h1,by simpa using h2,ca.1 h3,ca.1 h4,by omega⟩
theorem eB {n:Nat} {X Y:Nat->Int} (h:gz n X Y=0):kM n X/\kM n Y:=sy (nc h).2.1
theorem fp {n:Nat} {X Y:Nat->Int} (h:gz n X Y=0):4<=n/\n<=40:=(nc h).1
def TF (n:Nat) (X Y:Nat->Int) (p q:Int) (i:Nat):Bool:=decide (lo n X i<=p/\p<=hi n X i/\lo n Y i<=q/\q<=hi n Y i)
def crB (n:Nat) (X Y:Nat->Int) (p q:Int) (i:Nat):Bool:=decide (lo n X i=hi n X i/\lo n X i>p/\lo n Y i<=q/\q<hi n Y i)
def UC (n:Nat) (X Y:Nat->Int) (p q:Int):Nat->Bool
 |0=>false
 |k+1=>if crB n X Y p q k=true then !(UC n X Y p q k) else UC n X Y p q k
def S5 (n:Nat) (X Y:Nat->Int) (p q:Int):Int:=if ¬ ∀i,i<n->TF n X Y p q i=false then 0 else if UC n X Y p q n=true then 1 else -1
def ap (p l h:Int):Int:=max (max (l - p) (p - h)) 0
def dst (n:Nat) (X Y:Nat->Int) (p q:Int) (i:Nat):Int:=ap p (lo n X i) (hi n X i)*ap p (lo n X i) (hi n X i)+ap q (lo n Y i) (hi n Y i)*ap q (lo n Y i) (hi n Y i)
def lM (n:Nat) (X Y:Nat->Int) (k:Nat):Int:=if dD n X Y k=(dD n X Y ((k:Int) - 1)+1)%4 then 1 else -1
def rWhF:fE:= .res fun l=>dI (S5 (aN l) (aX l) (aY l) (fI 0 (arg l 1)) (fI 1 (arg l 1)))
def Ot (n:Nat) (X Y:Nat->Int):Int:=if gz n X Y≠0 then 0 else qE n X Y n/2
def Mk (n:Nat) (X Y:Nat->Int):Nat:=if gz n X Y≠0 then 0 else n
theorem VG {n:Nat} {X:Nat->Int} (hn:0<n) (h:kM n X) (i:Int): -1000000<=lo n X i/\lo n X i<=1000000:=by
 have:=h _ (jo (i:=i) hn)
 have:=h _ (jo (i:=i+1) hn)
 unfold lo;omega
theorem hi_bd {n:Nat} {X:Nat->Int} (hn:0<n) (h:kM n X) (i:Int): -1000000<=hi n X i/\hi n X i<=1000000:=by
 have:=h _ (jo (i:=i) hn)
 have:=h _ (jo (i:=i+1) hn)
 unfold hi;omega
noncomputable def KZ (n:Nat) (X Y:Nat->Int):eH:={ dq:=[(1,[(1,zV)]),(4,[(1,rTw),(2,.pos)])],loops:=[],dw:=[] }
theorem R4 (n:Nat) (X Y:Nat->Int) (jH:n<=1000000):dm prog 14 [mh n X Y] (.fy [dI (Ot n X Y),dI (gz n X Y)]):=by
 refine db dv (KZ n X Y) (V:=VT.da [dm prog 48 [DV.di n [fun (i:Nat)=>DV.val (Value.int IntKind.i64 (X i)),fun (i:Nat)=>DV.val (Value.int IntKind.i64 (Y i))]] (DV.val (Value.int IntKind.i64 (gz n X Y)))] (VT.ite (gz n X Y !=0) (VT.done [(0:Int)=Ot n X Y,gz n X Y=gz n X Y]) (VT.da [dm prog 55 [DV.di n [fun (i:Nat)=>DV.val (Value.int IntKind.i64 (X i)),fun (i:Nat)=>DV.val (Value.int IntKind.i64 (Y i))]] (DV.val (Value.int IntKind.i64 (qE n X Y n))),(0:Int)<=qE n X Y n/\(0:Int)<2/\qE n X Y n<=9223372036854775807] (VT.done [qE n X Y n/(2:Int)=Ot n X Y,(0:Int)=gz n X Y])))) (by kernel_rfl) ?_
 simp only [VT.holds,dt,Sq]
 refine ⟨iF n X Y jH,fun h=>by rw [Ot,ah h],fun h=> ?_⟩
 have hn:=fp h
 obtain ⟨hX,hY⟩:=eB h
 have h5:=(nc h).2.2.2.2
 have:=Ea (by omega) hX hY n
 exact ⟨⟨Lc n X Y (by omega) (by omega) hX hY,h5,by omega,by omega⟩,by rw [Ot,ae (by rw [h];simp)],h.symm⟩
noncomputable def CK (n:Nat) (X Y:Nat->Int):eH:={ dq:=[(1,[(1,zV)]),(9,[(2,JZ)])],loops:=[(0,{ ι:=Nat,keep:=[0,14],boxes:=[],ts:=fun _ i=>[(15,dI (i:Int))],rw:=fun _ i=>[(5,1,i,[fun k=>dI (lM n X Y k)])],inv:=fun _ i=>i<=n,mu:=fun _ i=>n - i,rd:=fun _ σ=>(eA (σ.get 15)).toNat })],dw:=[] }
namespace wf
noncomputable section
structure Z where
 n:Nat
 X:Nat->Int
 Y:Nat->Int
variable (z:Z) (i0 i1:Nat) (p:Prop) (P:List Prop) (a:Int)
abbrev x0:=Int.toNat ((i0:Int)+1)
abbrev x1:=DV.val (Value.int IntKind.i64 a)
abbrev x2:=gz z.n z.X z.Y
abbrev x3:List Prop:=rf z.n::(∀i0<z.n,rf (z.X i0))::(∀i0<z.n,rf (z.Y i0))::P
abbrev x4:=DV.di z.n [fun i0=>x1 (z.X i0),fun i0=>x1 (z.Y i0)]
abbrev x5:=VT.da [i0<=i0,(i0+1)*((nat_lit 7)+1)<=140737488355328,(1:Nat)<=(1:Nat)] (VT.da [cZ ((i0:Int)+1)] (VT.done (((i0:Int)+1=(↑(x0 i0):Int))::rf (0:Nat)::(i0+1=x0 i0)::x3 z [rf (z.n:Int),i0+1=x0 i0,p,x0 i0<=z.n,z.n - x0 i0<z.n - i0])))
abbrev x6:=i1<x0 i0->(if (decide (i1<i0))=true then (lM z.n z.X z.Y i1) else a)=lM z.n z.X z.Y i1
abbrev x7:=decide ((dD z.n z.X z.Y (i0:Int))=((dD z.n z.X z.Y ((i0:Int) - 1)+1)%4))
abbrev xt:VT:=VT.da [dm prog 48 [x4 z] (x1 (x2 z))] (VT.ite (x2 z !=0) (VT.done [Mk z.n z.X z.Y=0,rf (x2 z)]) (VT.loop Nat (fun i0=>i0<=z.n) (Int.toNat 0) ((0=(↑(Int.toNat 0):Int))::rf (0:Nat)::(Int.toNat 0=0)::x3 z [rf (z.n:Int),Int.toNat 0=0]) (fun i0=>VT.ite (decide ((i0:Int)<(z.n:Int))) (VT.da [dm prog 50 [x4 z,x1 (i0:Int)] (DV.val (Value.bool (x7 z i0)))] (VT.ite (x7 z i0) (x5 z i0 (∀(i1:Nat),x6 z i0 i1 (1:Int))) (x5 z i0 (∀(i1:Nat),x6 z i0 i1 (-(1:Int)))))) (VT.done [i0<=i0,i0=Mk z.n z.X z.Y,∀i0<Mk z.n z.X z.Y,rf (lM z.n z.X z.Y i0),0=x2 z]))))
end
end wf
open wf in
theorem Nz (n:Nat) (X Y:Nat->Int) (jH:n<=1000000):dm prog 94 [mh n X Y] (.fy [.di (Mk n X Y) [fun k=>dI (lM n X Y k)],dI (gz n X Y)]):=by
 refine db dv (CK n X Y) (V:=xt ⟨n,X,Y⟩) (by kernel_rfl) ?_
 simp only [xt,x0,x1,x2,x3,x4,x5,x6,x7,Rf,VT.holds,dt,Sq]
 refine ⟨iF n X Y jH,fun h=>by rw [Mk,ah h],fun h=>⟨rfl,ao n,fun i sj=>⟨fun dK=> ?_,fun iy=>⟨af i,?_,h.symm⟩⟩⟩⟩
 ·have hn:=fp h
  have last: ∀s:Int,s=lM n X Y i-> ∀k,k<i+1->(if k<i then lM n X Y k else s)=lM n X Y k:=fun s hs k hk=>by
   by_cases e:k<i
   ·rw [ah e]
   ·have:k=i:=by omega
    subst this
    rw [ae e,hs]
  refine ⟨uU n X Y i (by omega) (by omega) (by omega) (by omega),fun ho=>⟨⟨af i,by omega,af 1⟩,by unfold cZ;omega,rfl,last 1 (by rw [lM,ah ho]),by omega,by omega⟩,fun ho=>⟨⟨af i,by omega,af 1⟩,by unfold cZ;omega,rfl,last (-1) (by rw [lM,ae ho]),by omega,by omega⟩⟩
 ·rw [Mk,ae (by rw [h];simp)]
  omega
end Go.Abs
end
section
set_option maxRecDepth 100000
namespace Go.Abs
open Go
theorem kE {n i:Nat} (h:i<n):ix n (i:Int)=i:=by
 unfold ix
 rw [bw,Int.emod_eq_of_lt (by omega) (by omega)]
 rfl
theorem TY {n:Nat} (i:Int):((i+1)%(n:Int)).toNat=ix n (i+1):=by
 unfold ix;rw [bw]
theorem EV {n:Nat} (i:Int):((i+(n:Int) - 1)%(n:Int)).toNat=ix n (i - 1):=by
 unfold ix;congr 2;omega
def uK:fE:= .res fun l=>dB (decide (aI l 1<=aI l 0/\aI l 0<=aI l 2))
def sK (a b c d:Int):Int:=if yr a b c d=true then ns a b c d else -1
def PI:fE:= .res fun l=>dI (sK (fI 0 (arg l 0)) (fI 1 (arg l 0)) (fI 0 (arg l 1)) (fI 1 (arg l 1)))
def Dh:fE:= .res fun l=>dP (aX l (ix (aN l) (aI l 1+1))) (aY l (ix (aN l) (aI l 1+1)))
def JF (a b c d e f g h:Int):Bool:=decide (min a c<=max e g/\min e g<=max a c/\min b d<=max f h/\min f h<=max b d)
def rTouR:fE:= .res fun l=>dB (JF (fI 0 (arg l 0)) (fI 1 (arg l 0)) (fI 0 (arg l 1)) (fI 1 (arg l 1)) (fI 0 (arg l 2)) (fI 1 (arg l 2)) (fI 0 (arg l 3)) (fI 1 (arg l 3)))
def GZ:fE:= .res fun l=>dB (decide (min (aI l 1) (aI l 2)<=aI l 0/\aI l 0<=max (aI l 1) (aI l 2)))
noncomputable def F5 (x l h:Int):eH:={ dq:=[],loops:=[],dw:=[] }
theorem iz (x l h:Int) :dm prog 82 [dI x,dI l,dI h] (dB (decide (l<=x/\x<=h))):=by
 refine db dv (F5 x l h) (V:=VT.da [ri (decide (x>=l)=true),ri (decide (x>=l)=true),ri (decide (x>=l)=true)] (VT.done [(if decide (x>=l)=true then decide (x<=h) else false)=decide (l<=x/\x<=h)])) (by kernel_rfl) ?_
 simp only [VT.holds,dt,Sq]
 grind
noncomputable def Sd (x:Int):eH:={ dq:=[(1,[(1,uK)])],loops:=[],dw:=[] }
theorem BX (x:Int) :dm prog 124 [dI x] (dB (ir x)):=by
 refine db dv (Sd x) (V:=VT.da [dm prog 82 [DV.val (Value.int IntKind.i64 x),DV.val (Value.int IntKind.i64 (-1000000:Int)),DV.val (Value.int IntKind.i64 (1000000:Int))] (DV.val (Value.bool (decide ((-1000000:Int)<=x/\x<=1000000))))] (VT.done [decide ((-1000000:Int)<=x/\x<=1000000)=ir x])) (by kernel_rfl) ?_
 simp only [VT.holds,dt,Sq]
 exact ⟨iz x _ _,rfl⟩
noncomputable def KT (a b c d:Int):eH:={ dq:=[],loops:=[],dw:=[] }
namespace wi
noncomputable section
structure Z where
 a:Int
 b:Int
 c:Int
 d:Int
variable (z:Z) (P:List Prop) (a b:Int) (g:Bool) (U:VT)
abbrev x0:List Prop:=ri ((z.b==z.d)=true)::P
abbrev x1:List Prop:=ri ((z.a==z.c)=true)::P
abbrev x2:=VT.done [a=sK z.a z.b z.c z.d]
abbrev x3:=if (a==b)=true then g else false
abbrev x4:=VT.da (x0 z (x0 z (x0 z (x0 z (x0 z []))))) (VT.ite (x3 z.b z.d g) (x2 z a) U)
abbrev x5:=VT.da (x1 z (x1 z (x1 z (x1 z (x1 z []))))) (VT.ite (x3 z.a z.c g) (x2 z a) U)
abbrev xt:VT:=x4 z (0:Int) (decide (z.c>z.a)) (x5 z (1:Int) (decide (z.d>z.b)) (x4 z (2:Int) (decide (z.c<z.a)) (x5 z (3:Int) (decide (z.d<z.b)) (x2 z (-(1:Int))))))
end
end wi
open wi in
theorem KB (a b c d:Int) :dm prog 125 [dP a b,dP c d] (dI (sK a b c d)):=by
 refine db dv (KT a b c d) (V:=xt ⟨a,b,c,d⟩) (by kernel_rfl) ?_
 simp only [xt,x0,x1,x2,x3,x4,x5,Rf,VT.holds,dt,Sq]
 unfold sK yr ns
 simp only [ai]
 refine ⟨fun h=> ?_,fun h1=>⟨fun h=> ?_,fun h2=>⟨fun h=> ?_,fun h3=>⟨fun h=> ?_,fun h4=> ?_⟩⟩⟩⟩
 all_goals grind
noncomputable def KR (n:Nat) (X Y:Nat->Int) (i:Int):eH:={ dq:=[(1,[(5,.pos)])],loops:=[],dw:=[] }
theorem xj (n:Nat) (X Y:Nat->Int) (i:Int) (hn:0<n) (jH:n<=1000000) (h1:0<=i) (h2:i<=1000000):dm prog 126 [mh n X Y,dI i] (dP (X (ix n (i+1))) (Y (ix n (i+1)))):=by
 refine db dv (KR n X Y i) (V:=VT.da [cZ (i+1),(0:Int)<=i+1/\(0:Int)<(n:Int),(0:Int)<=(i+1)%(n:Int)/\(i+1)%(n:Int)<(n:Int)] (VT.done [X ((i+1)%(n:Int)).toNat=X (ix n (i+1)),Y ((i+1)%(n:Int)).toNat=Y (ix n (i+1))])) (by kernel_rfl) ?_
 simp only [VT.holds,dt,Sq]
 have:=bm (i+1) (show (0:Int)<n by omega)
 have:=bf (i+1) (show (n:Int)≠0 by omega)
 rw [TY]
 exact ⟨⟨by unfold cZ;omega,by omega,by omega⟩,rfl,rfl⟩
noncomputable def FZ (a b c d e f g h:Int):eH:={ dq:=[],loops:=[],dw:=[] }
namespace wk
noncomputable section
structure Z where
 a:Int
 b:Int
 c:Int
 d:Int
 e:Int
 f:Int
 g:Int
 h:Int
variable (z:Z) (P:List Prop) (a b c d:Int) (g h:Bool)
abbrev x0:=decide ((iM a [b])<=(hP c [d]))
abbrev x1:=if g=true then h else false
abbrev x2:=x0 z.a z.c z.e z.g
abbrev x3:List Prop:=ri (g=true)::ri (h=true)::P
abbrev x4:=x1 (x2 z) (x0 z.e z.g z.a z.c)
abbrev x5:=x1 (x4 z) (x0 z.b z.d z.f z.h)
abbrev x6:=x3 P (x2 z) (x2 z)
abbrev x7:=x3 P (x4 z) (x4 z)
abbrev x8:=x3 P (x5 z) (x5 z)
abbrev xt:VT:=VT.da (x6 z (x6 z (x6 z (x6 z (x6 z (x3 (x7 z (x7 z (x7 z (x7 z (x7 z (x8 z (x8 z (x8 z (x8 z (x8 z [ri (x5 z=true)])))))))))) (x2 z) (x4 z))))))) (VT.done [x1 (x5 z) (x0 z.f z.h z.b z.d)=JF z.a z.b z.c z.d z.e z.f z.g z.h])
end
end wk
open wk in
theorem O9 (a b c d e f g h:Int) :dm prog 127 [dP a b,dP c d,dP e f,dP g h] (dB (JF a b c d e f g h)):=by
 refine db dv (FZ a b c d e f g h) (V:=xt ⟨a,b,c,d,e,f,g,h⟩) (by kernel_rfl) ?_
 simp only [xt,x0,x1,x2,x3,x4,x5,x6,x7,x8,Rf,VT.holds,dt,Sq,iM,hP]
 unfold JF
 grind
noncomputable def CC (x a b:Int):eH:={ dq:=[],loops:=[],dw:=[] }
namespace wl
noncomputable section
structure Z where
 x:Int
 a:Int
 b:Int
variable (z:Z)
abbrev x0:=decide (z.x>=(iM z.a [z.b]))
abbrev xt:VT:=VT.da [ri (x0 z=true),ri (x0 z=true),ri (x0 z=true),ri (x0 z=true),ri (x0 z=true)] (VT.done [(if (x0 z)=true then (decide (z.x<=(hP z.a [z.b]))) else false)=decide ((min z.a z.b<=z.x)/\(z.x<=max z.a z.b))])
end
end wl
open wl in
theorem DX (x a b:Int) :dm prog 178 [dI x,dI a,dI b] (dB (decide (min a b<=x/\x<=max a b))):=by
 refine db dv (CC x a b) (V:=xt ⟨x,a,b⟩) (by kernel_rfl) ?_
 simp only [xt,x0,Rf,VT.holds,dt,Sq,iM,hP]
 grind
end Go.Abs
end
