/- Contracts and what they stand on. -/
import Derived.Test.YtoinjphpfpklmaaGreatDoorK23
set_option linter.unusedVariables false
set_option linter.unusedSimpArgs false
section
set_option maxRecDepth 100000
namespace Go.Abs
open Go
def eV (n:Nat) (X Y:Nat->Int) (i:Int):Int:=if dD n X Y i=(dD n X Y (i - 1)+1)%4 then 1 else -1
def Dr (n:Nat) (X Y:Nat->Int) (d i:Int):Int:=ee n X Y i+d*eV n X Y i+d*eV n X Y (i+1)
def pA (n:Nat) (X Y:Nat->Int) (d:Int) (i:Nat):Int:=X i+d*jY ((dD n X Y i+3)%4)+d*jY ((dD n X Y ((i:Int) - 1)+3)%4)
def pz (n:Nat) (X Y:Nat->Int) (d:Int) (i:Nat):Int:=Y i+d*jX ((dD n X Y i+3)%4)+d*jX ((dD n X Y ((i:Int) - 1)+3)%4)
def EJ (n:Nat) (X Y:Nat->Int) (d:Int) (k:Nat):Bool:=decide (∀i,i<k->0<Dr n X Y d (i:Nat))
def kP (n:Nat) (X Y:Nat->Int) (d:Int):Int:=if EJ n X Y d n=false then 12 else if gz n (pA n X Y d) (pz n X Y d)=0 then 0 else if gz n (pA n X Y d) (pz n X Y d)=2 then 2 else 12
section
variable {n:Nat} {X Y:Nat->Int} {d:Int}
theorem o5 (i:Int):eV n X Y i=1\/eV n X Y i= -1:=by
 unfold eV
 split
 ·exact .inl rfl
 ·exact .inr rfl
theorem A6 (hn:0<n) {a b:Int} (h:(a - b)%n=0):dD n X Y a=dD n X Y b:=by
 have e: ∀c:Int,ix n (a+c)=ix n (b+c):=fun c=>by
  have h1:(a+c)%(n:Int)=(b+c)%n:=Int.emod_eq_emod_iff_emod_sub_eq_zero.2 (by rw [show a+c - (b+c)=a - b by omega];exact h)
  unfold ix
  rw [bw,bw,h1]
 have e0:=e 0
 rw [bI,bI] at e0
 unfold dD
 rw [e0,e 1]
theorem HX (hn:0<n) {a b:Int} (h:(a - b)%n=0):eV n X Y a=eV n X Y b:=by
 unfold eV
 rw [A6 hn h,A6 hn (a:=a - 1) (b:=b - 1) (by rw [show a - 1 - (b - 1)=a - b by omega];exact h)]
theorem lj (a:Int) (n:Nat):(a%(n:Int) - a)%n=0:=by
 rw [Int.sub_emod,Int.emod_emod,Int.sub_self,Int.zero_emod]
theorem A8 (hn:0<n) (a:Int):lM n X Y (a%(n:Int)).toNat=eV n X Y a:=by
 have h:=bf a (show (n:Int)≠0 by omega)
 have e:lM n X Y (a%(n:Int)).toNat=eV n X Y ((a%(n:Int)).toNat:Nat):=rfl
 rw [e,bH h]
 exact HX hn (lj a n)
theorem UB (hn:0<n) (a:Int):dD n X Y ((a%(n:Int)).toNat:Nat)=dD n X Y a:=by
 have h:=bf a (show (n:Int)≠0 by omega)
 rw [bH h]
 exact A6 hn (lj a n)
theorem iw (h:kP n X Y d=0):(∀i,i<n->0<Dr n X Y d (i:Nat))/\gz n (pA n X Y d) (pz n X Y d)=0:=by
 unfold kP at h
 split at h
 ·cases h
 ·rename_i h1
  split at h
  ·rename_i h2
   refine ⟨?_,h2⟩
   unfold EJ at h1
   simpa using h1
  ·split at h<;>cases h
theorem Mm (hn:4<=n/\n<=40):gz n X Y=2↔kK n X Y=false:=by
 unfold gz
 rw [ae (fun h=>h hn)]
 refine ⟨fun h=> ?_,fun h=>by rw [ah h]⟩
 split at h
 ·assumption
 ·split at h
  ·cases h
  ·split at h
   ·cases h
   ·split at h<;>cases h
theorem Tk {i:Int} (h:dO n X Y i=true):X (ix n (i+1))=X (ix n i)+ee n X Y i*jY (dD n X Y i)/\Y (ix n (i+1))=Y (ix n i)+ee n X Y i*jX (dD n X Y i)/\0<ee n X Y i:=by
 unfold dO yr at h
 rw [ai] at h
 unfold ee dD ns
 generalize X (ix n i)=a at*
 generalize Y (ix n i)=b at*
 generalize X (ix n (i+1))=c at*
 generalize Y (ix n (i+1))=e at*
 split
 ·simp only [show jY 0=1 from rfl,show jX 0=0 from rfl];omega
 ·split
  ·simp only [show jY 1=0 from rfl,show jX 1=1 from rfl];omega
  ·split
   ·simp only [show jY 2= -1 from rfl,show jX 2=0 from rfl];omega
   ·split
    ·simp only [show jY 3=0 from rfl,show jX 3= -1 from rfl];omega
    ·omega
end
def xd (g w c:Int) (has:Bool):Int:=if c>0 then (if has=true then g+w else g) else (if has=true then -g else -g - w)
def ft (n:Nat) (X Y:Nat->Int) (g w:Int) (i:Int) (a:Int):Int:=if eV n X Y i>0 then -g - a*w else g+(1 - a)*w
def gA (n:Nat) (X Y:Nat->Int) (g w:Int) (i:Int) (b:Int):Int:=if eV n X Y (i+1)>0 then ee n X Y i+g+(1 - b)*w else ee n X Y i - g - b*w
def jG (n:Nat) (X Y:Nat->Int) (g w:Int) (i:Int) (a b:Int):Int:=gA n X Y g w i b - ft n X Y g w i a
def qB (n:Nat) (X Y:Nat->Int) (i:Int) (al out:Int):Int:=X (ix n i)+al*jY (dD n X Y i)+out*jX (dD n X Y i)
def qA (n:Nat) (X Y:Nat->Int) (i:Int) (al out:Int):Int:=Y (ix n i)+al*jX (dD n X Y i) - out*jY (dD n X Y i)
def lC (n:Nat) (X Y:Nat->Int) (g w:Int) (i:Int) (a b:Int):Int:=min (qB n X Y i (ft n X Y g w i a) g) (qB n X Y i (gA n X Y g w i b) (g+w))
def lA (n:Nat) (X Y:Nat->Int) (g w:Int) (i:Int) (a b:Int):Int:=min (qA n X Y i (ft n X Y g w i a) g) (qA n X Y i (gA n X Y g w i b) (g+w))
def lB (n:Nat) (X Y:Nat->Int) (g w:Int) (i:Int) (a b:Int):Int:=max (qB n X Y i (ft n X Y g w i a) g) (qB n X Y i (gA n X Y g w i b) (g+w))
def lz (n:Nat) (X Y:Nat->Int) (g w:Int) (i:Int) (a b:Int):Int:=max (qA n X Y i (ft n X Y g w i a) g) (qA n X Y i (gA n X Y g w i b) (g+w))
def gq (dr L:Int):Int:=(dr/L+1)*L
section
variable {n:Nat} {X Y:Nat->Int} {g w:Int}
theorem zz (h:gz n X Y=0) {i:Nat} (hi:i<n):(eV n X Y i=1/\dD n X Y i=(dD n X Y ((i:Int) - 1)+1)%4)\/(eV n X Y i= -1/\dD n X Y ((i:Int) - 1)=(dD n X Y i+1)%4):=by
 have hf:=(nc h).2.2.1 i hi
 unfold gF at hf
 simp only [av,ai] at hf
 have h1:=fH n X Y i
 have h2:=fH n X Y ((i:Int) - 1)
 unfold eV
 split
 ·rename_i e;exact .inl ⟨rfl,e⟩
 ·exact .inr ⟨rfl,by omega⟩
theorem Lv (h1: ∀i,i<n->0<Dr n X Y g (i:Nat)) (h2: ∀i,i<n->0<Dr n X Y (g+w) (i:Nat)) (hg:0<=g) (hw:0<w) {i:Nat} (hi:i<n):0<jG n X Y g w i 1 0:=by
 have a:=h1 i hi
 have b:=h2 i hi
 unfold Dr at a b
 unfold jG gA ft
 rcases o5 (n:=n) (X:=X) (Y:=Y) (i:Int) with e1|e1<;>rcases o5 (n:=n) (X:=X) (Y:=Y) ((i:Int)+1) with e2|e2<;>
 ·rw [e1,e2] at a b
  rw [e1,e2]
  simp only [show (1:Int)>0 from by decide,show ¬(-1:Int)>0 from by decide,bn,cg]
  omega
end
def Gg (n:Nat) (X Y:Nat->Int) (d:Int) (i j:Nat):Int:=if j=0 then ee n X Y i else if j=1 then ee n X Y i+d*eV n X Y i else Dr n X Y d i
def rRi:fE:= .res fun l=>dI ((aI l 0+3)%4)
def rLnW:fE:= .res fun l=>dI (ee (aN l) (aX l) (aY l) (aI l 1))
def rWi:fE:= .res fun l=>dB (decide (aI l 1<=aI l 0/\aI l 0<=aI l 2))
theorem PY {n:Nat} {X Y:Nat->Int} {d:Int}:EJ n X Y d 0=true:=bk fun i hi=>absurd hi (aF i)
theorem PX {n:Nat} {X Y:Nat->Int} {d:Int} {i:Nat} (h:EJ n X Y d i=true) (h1: ¬Dr n X Y d i<=0):EJ n X Y d (i+1)=true:=by
 unfold EJ at h ⊢
 rw [ai] at h ⊢
 intro j hj
 by_cases e:j=i
 ·rw [e];omega
 ·exact h j (by omega)
theorem PZ {n:Nat} {X Y:Nat->Int} {d:Int} {i:Nat} (hi:i<n) (h1:Dr n X Y d i<=0):kP n X Y d=12:=by
 rw [kP,ah]
 unfold EJ
 rw [an]
 intro h
 have:=h i hi
 omega
theorem Vy {n:Nat} {X Y:Nat->Int} {d:Int} (h:EJ n X Y d n=true) (hc:gz n (pA n X Y d) (pz n X Y d)=0):kP n X Y d=0:=by
 rw [kP,ae (by rw [h];simp),ah hc]
theorem P1 {n:Nat} {X Y:Nat->Int} {d:Int} (h:EJ n X Y d n=true) (hc:gz n (pA n X Y d) (pz n X Y d)=2):kP n X Y d=2:=by
 rw [kP,ae (by rw [h];simp),ae (by rw [hc];decide),ah hc]
theorem P0 {n:Nat} {X Y:Nat->Int} {d:Int} (h:EJ n X Y d n=true) (hc: ¬gz n (pA n X Y d) (pz n X Y d)=0) (hc2: ¬gz n (pA n X Y d) (pz n X Y d)=2):kP n X Y d=12:=by
 rw [kP,ae (by rw [h];simp),ae hc,ae hc2]
theorem vr {n:Nat} {X Y:Nat->Int} (hn:0<n) (hX:kM n X) (hY:kM n Y) (i:Int):0<=ee n X Y i/\ee n X Y i<=4000000:=by
 unfold ee
 have a1:=hX _ (jo (n:=n) (i:=i) hn)
 have a2:=hX _ (jo (n:=n) (i:=i+1) hn)
 have a3:=hY _ (jo (n:=n) (i:=i) hn)
 have a4:=hY _ (jo (n:=n) (i:=i+1) hn)
 omega
theorem C7 {d:Int} (x:Int) (hd:0<=d/\d<=1000000): -1000000<=d*jY ((x+3)%4)/\d*jY ((x+3)%4)<=1000000/\ -1000000<=d*jX ((x+3)%4)/\d*jX ((x+3)%4)<=1000000/\ -1<=jY ((x+3)%4)/\jY ((x+3)%4)<=1/\ -1<=jX ((x+3)%4)/\jX ((x+3)%4)<=1:=by
 obtain ⟨e1,e2⟩|⟨e1,e2⟩|⟨e1,e2⟩|⟨e1,e2⟩:=Ph (d:=(x+3)%4) (by omega)
 all_goals
  rw [e1,e2]
  omega
abbrev TG (n:Nat) (X Y:Nat->Int) (d:Int):List (Nat->DV):=[fun k=>dI (pA n X Y d k),fun k=>dI (pz n X Y d k)]
noncomputable def Gd (d:Int):eH:={ dq:=[(1,[(2,.pos)])],loops:=[],dw:=[] }
theorem yX (d:Int) (h:0<=d/\d<4):dm prog 52 [dI d] (dI ((d+3)%4)):=by
 refine db dv (Gd d) (V:= .da [cZ (d+3),(0:Int)<=d+3/\(0:Int)<4] (.done [(d+3)%(4:Int)=(d+3)%(4:Int)])) (by kernel_rfl) ?_
 simp only [VT.holds,dt,Sq]
 unfold cZ
 omega
noncomputable def FQ (n:Nat) (X Y:Nat->Int) (d:Int):eH:={ dq:=[(1,[(1,zV)]),(11,[(2,rLnW)]),(15,[(2,JZ)]),(21,[(7,JY),(8,rRi),(12,rMo),(16,JY),(17,rRi),(21,rMo)]),(23,[(1,zV)])],loops:=[(0,{ ι:=Nat,keep:=[0,1,7,26],boxes:=[],ts:=fun _ i=>[(27,dI (i:Int))],rw:=fun _ i=>[(8,2,i,TG n X Y d)],inv:=fun _ i=>i<=n/\EJ n X Y d i=true,mu:=fun _ i=>n - i,rd:=fun _ σ=>(eA (σ.get 27)).toNat }),(2,{ ι:=Nat,keep:=[0,1,7,26,27,9,36],boxes:=[],ts:=fun σ j=>[(37,dI (j:Int)),(10,dI (Gg n X Y d (eA (σ.get 9)).toNat j))],rw:=fun σ _=>[(8,2,(eA (σ.get 27)).toNat,TG n X Y d)],inv:=fun _ j=>j<=2,mu:=fun _ j=>2 - j,rd:=fun _ σ=>(eA (σ.get 37)).toNat })],dw:=[] }
namespace w1o
noncomputable section
structure Z where
 n:Nat
 X:Nat->Int
 Y:Nat->Int
 d:Int
variable (z:Z) (i0 i1:Nat) (p:Prop) (P:List Prop) (a b:Int) (g:Bool) (U:VT) (oh:Nat->Int) (tA:List Int)
abbrev x0:Int:=(i0:Int)
abbrev x1:=Int.toNat (x0 i0)
abbrev x2:=dD z.n z.X z.Y a
abbrev x3:=List.getD tA (Int.toNat ((x2 z a+3)%4)) 0
abbrev x4:List Prop:=rf z.n::(∀i0<z.n,rf (z.X i0))::(∀i0<z.n,rf (z.Y i0))::rf a::P
abbrev x5:=Int.toNat (x0 i0+1)
abbrev x6:=Int.toNat ((i1:Int)+1)
abbrev x7:List Int:=[(0:Int),(1:Int),(0:Int),-(1:Int)]
abbrev x8:List Int:=[(1:Int),(0:Int),-(1:Int),(0:Int)]
abbrev x9:=(oh (x1 i0))+z.d*x3 z (x0 i0) tA
abbrev dC:=Int.toNat 0
abbrev dA:=DV.val (Value.agg (Array.mk [Value.int IntKind.i64 a,Value.int IntKind.i64 b]))
abbrev dz:List Prop:=p::rf (0:Nat)::P
abbrev dG:=Gg z.n z.X z.Y z.d (x1 i0) i1
abbrev dL:=pA z.n z.X z.Y z.d i1
abbrev dR:=pz z.n z.X z.Y z.d i1
abbrev dQ:=x4 z (x4 z P (z.n:Int)) z.d
abbrev ep:=DV.di z.n [fun i0=>dI (z.X i0),fun i0=>dI (z.Y i0)]
abbrev eu:=List.getD [x0 i0,x0 i0+1] (Int.toNat (i1:Int)) 0
abbrev eG:=VT.ite g (VT.done [a=kP z.n z.X z.Y z.d]) U
abbrev ez:=decide (z.d<(0:Int))
abbrev eF:=(x2 z (x0 i0)+3)%4
abbrev eQ:=(x2 z (x0 i0 - 1)+3)%4
abbrev fC:List Prop:=rf (x0 i0)::rf (x0 i0)::rf (x0 i0)::rf (x0 i0+1)::P
abbrev fM:=gz i0 (pA z.n z.X z.Y z.d) (pz z.n z.X z.Y z.d)
abbrev fR:=dA (x9 z i0 z.X x8) (x9 z i0 z.Y x7)
abbrev fj:=x9 z i0 z.X x8+z.d*x3 z (x0 i0 - 1) x8
abbrev gp:=x9 z i0 z.Y x7+z.d*x3 z (x0 i0 - 1) x7
abbrev iI:=decide ((x2 z (eu i0 i1))=((x2 z (eu i0 i1 - 1)+1)%4))
abbrev ji:=if (decide (i1<(x1 i0)))=true then a else b
abbrev iq:=VT.da [cZ a] (VT.da [cZ ((i1:Int)+1)] (VT.done (((i1:Int)+1=(↑(x6 i1):Int))::dz (b=Gg z.n z.X z.Y z.d (x1 i0) (x6 i1)) (rf (x1 i0)::dQ z (fC i0 [rf (x1 i0),∀i1<x1 i0,rf (dL z i1),∀i1<x1 i0,rf (dR z i1),x6 i1<=2,2 - x6 i1<2 - i1])))))
abbrev xt:VT:=VT.da [dm prog 48 [ep z] (dI (gz z.n z.X z.Y))] (eG z (gz z.n z.X z.Y) (gz z.n z.X z.Y !=0) (VT.da [ri ((!(ez z))=true),ez z=false->(!(ez z))=true] (eG z (2:Int) (if (ez z)=true then true else (decide (z.d>(1000000:Int)))) (VT.loop Nat (fun i0=>i0<=z.n/\EJ z.n z.X z.Y z.d i0=true) dC (dz (0=(dC:Int)) ((dC=0)::dQ z [dC=0])) (fun i0=>VT.ite (decide ((x0 i0)<(z.n:Int))) (VT.da [dm prog 49 [ep z,dI (x0 i0)] (dI (ee z.n z.X z.Y (x0 i0)))] (VT.da [cZ (x0 i0+1)] (VT.loop Nat (fun i0=>i0<=2) dC ((0=(dC:Int))::dz (ee z.n z.X z.Y (x0 i0)=Gg z.n z.X z.Y z.d (x1 i0) dC) ((i0=x1 i0)::dQ z (fC i0 [i0=x1 i0,∀i1<x1 i0,rf (dL z i1),∀i1<x1 i0,rf (dR z i1)]))) (fun i1=>VT.ite (decide ((i1:Int)<(2:Int))) (VT.da [0<=(i1:Int)/\(i1:Int)<(↑(2:Nat):Int)] (VT.da [dm prog 50 [ep z,dI (eu i0 i1)] (dB (iI z i0 i1))] (VT.ite (iI z i0 i1) (iq z i0 i1 (dG z i0 i1+z.d) (dG z i0 i1+z.d)) (iq z i0 i1 (dG z i0 i1 - z.d) (dG z i0 i1 - z.d))))) (eG z (12:Int) (decide ((dG z i0 i1)<=(0:Int))) (VT.da [0<=x0 i0/\x0 i0<(z.n:Int),dm prog 53 [ep z,dI (x0 i0)] (dI (x2 z (x0 i0))),dm prog 52 [dI (x2 z (x0 i0))] (dI (eF z i0)),0<=eF z i0/\eF z i0<(↑(4:Nat):Int),dm prog 51 [dA (z.X (x1 i0)) (z.Y (x1 i0)),dA (x3 z (x0 i0) x8) (x3 z (x0 i0) x7),dI z.d] (fR z i0),cZ (x0 i0 - 1),dm prog 53 [ep z,dI (x0 i0 - 1)] (dI (x2 z (x0 i0 - 1))),dm prog 52 [dI (x2 z (x0 i0 - 1))] (dI (eQ z i0)),0<=eQ z i0/\eQ z i0<(↑(4:Nat):Int),dm prog 51 [fR z i0,dA (x3 z (x0 i0 - 1) x8) (x3 z (x0 i0 - 1) x7),dI z.d] (dA (fj z i0) (gp z i0)),x1 i0<=x1 i0,(x1 i0+1)*((nat_lit 15)+1)<=140737488355328,(1:Nat)<=(1:Nat)] (VT.da [cZ (x0 i0+1)] (VT.done (dz (x0 i0+1=(↑(x5 i0):Int)) ((x1 i0+1=x5 i0)::dQ z [x1 i0+1=x5 i0,∀i1<x5 i0,ji i0 i1 (dL z i1) (fj z i0)=dL z i1,∀i1<x5 i0,ji i0 i1 (dR z i1) (gp z i0)=dR z i1,x5 i0<=z.n/\EJ z.n z.X z.Y z.d (x5 i0)=true,z.n - x5 i0<z.n - i0])))))))))) (VT.da [i0<=i0,dm prog 54 [DV.di i0 [fun i0=>dI (pA z.n z.X z.Y z.d i0),fun i0=>dI (pz z.n z.X z.Y z.d i0)]] (dI (fM z i0))] (VT.ite (fM z i0==0) (VT.done [i0<=i0,0=kP z.n z.X z.Y z.d]) (eG z (2:Int) (fM z i0==2) (VT.done [12=kP z.n z.X z.Y z.d])))))))))
end
end w1o
open w1o in
theorem G9 (n:Nat) (X Y:Nat->Int) (d:Int) (h:gz n X Y=0) (hd:0<=d/\d<=1000000):dm prog 13 [mh n X Y,dI d] (.fy [.any,dI (kP n X Y d)]):=by
 refine db dv (FQ n X Y d) (V:=xt ⟨n,X,Y,d⟩) (by kernel_rfl) ?_
 simp only [xt,x0,x1,x2,x3,x4,x5,x6,x7,x8,x9,dC,dA,dz,dG,dL,dR,dQ,ep,eu,eG,ez,eF,eQ,fC,fM,fR,fj,gp,iI,ji,iq,Rf,VT.holds,dt,Sq]
 have hn:=fp h
 obtain ⟨hX,hY⟩:=eB h
 have m4: ∀x:Int,0<=(x+3)%4/\(x+3)%4<4:=fun x=>by omega
 simp only [gX (m4 _),gY (m4 _)]
 refine ⟨iF n X Y (by omega),fun h1=>absurd h h1,fun _=>⟨fun h1=>by omega,fun _=>⟨rfl,⟨ao _,PY⟩,fun i ⟨hi,hS⟩=>⟨fun dK=> ?_,fun iy=> ?_⟩⟩⟩⟩
 ·have hl:=vr (n:=n) (by omega) hX hY (i:Int)
  refine ⟨vj n X Y i (by omega) (by omega) (by omega) (by omega) hX hY,by unfold cZ;omega,⟨rfl,rfl⟩,by omega,fun j hj=>⟨fun YU=> ?_,fun YU=> ?_⟩⟩
  ·obtain rfl|rfl:j=0\/j=1:=by omega
   ·have e:[(i:Int),(i:Int)+1].getD 0 0=i:=rfl
    have e0:Gg n X Y d i 0=ee n X Y i:=rfl
    have e1:Gg n X Y d i (0+1)=ee n X Y i+d*eV n X Y i:=rfl
    rw [e0,e1]
    refine ⟨by omega,uU n X Y i (by omega) (by omega) (by omega) (by omega),fun hc=> ?_,fun hc=> ?_⟩
    ·rw [show eV n X Y i=1 from ah hc]
     unfold cZ;omega
    ·rw [show eV n X Y i= -1 from ae hc]
     unfold cZ;omega
   ·have e:[(i:Int),(i:Int)+1].getD 1 0=(i:Int)+1:=rfl
    have e0:Gg n X Y d i 1=ee n X Y i+d*eV n X Y i:=rfl
    have e1:Gg n X Y d i (1+1)=ee n X Y i+d*eV n X Y i+d*eV n X Y ((i:Int)+1):=rfl
    rw [e0,e1]
    have hb: -1000000<=d*eV n X Y i/\d*eV n X Y i<=1000000:=by
     rcases o5 (n:=n) (X:=X) (Y:=Y) (i:Int) with e1|e1<;>rw [e1]<;>omega
    refine ⟨by omega,uU n X Y (i+1) (by omega) (by omega) (by omega) (by omega),fun hc=> ?_,fun hc=> ?_⟩
    ·rw [show eV n X Y ((i:Int)+1)=1 from ah hc]
     unfold cZ;omega
    ·rw [show eV n X Y ((i:Int)+1)= -1 from ae hc]
     unfold cZ;omega
  ·obtain rfl:j=2:=by omega
   have e2:Gg n X Y d i 2=Dr n X Y d i:=rfl
   rw [e2]
   refine ⟨fun h1=>(PZ (by omega) h1).symm,fun h1=> ?_⟩
   have b1:=C7 (dD n X Y i) hd
   have b2:=C7 (dD n X Y ((i:Int) - 1)) hd
   have r1:=fH n X Y i
   have r2:=fH n X Y ((i:Int) - 1)
   have x1:=hX i (by omega)
   have y1:=hY i (by omega)
   refine ⟨⟨by omega,zv n X Y i (by omega) (by omega) (by omega) (by omega),yX _ (by omega),by omega,y7 _ _ _ _ _ (by unfold m3;omega) (by unfold m3;omega) (by unfold m3;omega) (by omega) (by omega),by unfold cZ;omega,zv n X Y (i - 1) (by omega) (by omega) (by omega) (by omega),yX _ (by omega),by omega,y7 _ _ _ _ _ (by unfold m3;omega) (by unfold m3;omega) (by unfold m3;omega) (by omega) (by omega),af _,by omega,af _⟩,by unfold cZ;omega,rfl,fG (f:=pA n X Y d) rfl,fG (f:=pz n X Y d) rfl,⟨by omega,PX hS h1⟩,by omega⟩
 ·obtain rfl:i=n:=by omega
  exact ⟨⟨af _,Fp _ _ _ (by omega)⟩,fun h1=>⟨af _,(Vy hS h1).symm⟩,fun h1=>⟨fun h2=>(P1 hS h2).symm,fun h2=>(P0 hS h1 h2).symm⟩⟩
noncomputable def Cx (n:Nat) (X Y:Nat->Int) (d:Int):eH:={ dq:=[(1,[(1,rWi)]),(3,[(1,uL),(3,Vt)]),(8,[(17,.pos)]),(14,[(6,.pos),(11,.pos),(12,rSt)]),(15,[(6,.pos),(7,rSt)]),(20,[(5,yY),(13,yY)]),(22,[(1,zV)])],loops:=[(0,{ ι:=Nat,keep:=[0,1,6,7,8],boxes:=[],ts:=fun _ i=>[(9,dI (i:Int))],inv:=fun _ i=>i<=n/\EJ n X Y d i=true,mu:=fun _ i=>n - i,rd:=fun _ σ=>(eA (σ.get 9)).toNat }),(2,{ ι:=Nat,keep:=[0,1,6,7,8],boxes:=[],ts:=fun _ i=>[(11,dI (i:Int))],rw:=fun _ i=>[(10,2,i,TG n X Y d)],inv:=fun _ i=>i<=n,mu:=fun _ i=>n - i,rd:=fun _ σ=>(eA (σ.get 11)).toNat }),(4,{ ι:=Nat,keep:=[0,1,6,7,8],boxes:=[],ts:=fun _ i=>[(16,dI (i:Int))],rw:=fun _ _=>[(10,2,n,TG n X Y d)],inv:=fun _ i=>i<=n/\ ∀j,j<i->ir (pA n X Y d j)=true/\ir (pz n X Y d j)=true,mu:=fun _ i=>n - i,rd:=fun _ σ=>(eA (σ.get 16)).toNat })],dw:=[] }
namespace w1p
noncomputable section
structure Z where
 n:Nat
 X:Nat->Int
 Y:Nat->Int
 d:Int
variable (z:Z) (i0 i1:Nat) (p:Prop) (P:List Prop) (a b c:Int) (k:Nat) (g:Bool) (U V:VT) (sE:List (Nat->DV))
abbrev x0:=Int.toNat (i0:Int)
abbrev x1:=(i0:Int)+1
abbrev x2:=dD z.n z.X z.Y (k:Int)+3
abbrev x3:=pA z.n z.X z.Y z.d k
abbrev x4:=ng 0 (x0 i0)
abbrev x5:=(i0:Int)+(z.n:Int) - 1
abbrev x6:=Int.toNat (x1 i0)
abbrev x7:=lM z.n z.X z.Y k
abbrev x8:=Int.toNat (x5 z i0%(z.n:Int))
abbrev x9:= !(ir (x3 z (x4 i0)))
abbrev dC:List Prop:=p::rf z.n::(∀i0<z.n,rf (z.X i0))::(∀i0<z.n,rf (z.Y i0))::P
abbrev dA:=0<=a/\b<(z.n:Int)
abbrev dz:=pz z.n z.X z.Y z.d k
abbrev dG:=Int.toNat 0
abbrev dL:=dA z (i0:Int) (i0:Int)
abbrev dR:=rf (z.n:Int)
abbrev dQ:=ri ((!(x9 z i0))=true)
abbrev ep:=dC z p (dC z (rf z.d) ((∀i0<z.n,rf (z.X (ix z.n (x1 i0))))::(∀i0<z.n,rf (z.Y (ix z.n (x1 i0))))::(∀i0<z.n,rf (ee z.n z.X z.Y (i0:Int)))::(∀i0<z.n,rf (dD z.n z.X z.Y (i0:Int)))::rf z.n::(∀i0<z.n,rf (x7 z i0))::P))
abbrev eu:=VT.ite g (VT.done [a=kP z.n z.X z.Y z.d]) U
abbrev eG:=jY (x2 z (x8 z i0)%4)+jY (x2 z (x0 i0)%4)
abbrev ez:=jX (x2 z (x8 z i0)%4)+jX (x2 z (x0 i0)%4)
abbrev eF:=ee z.n z.X z.Y (↑(x0 i0):Int)+z.d*x7 z (x0 i0)
abbrev eQ:=VT.da [cZ (x1 i0)] (VT.done P)
abbrev fC:=VT.ite (decide ((i0:Int)<(z.n:Int))) U V
abbrev fM:=z.n - x6 i0<z.n - i0
abbrev fR:=0<=a/\(0:Int)<(4:Int)
abbrev fj:=eF z i0+z.d*x7 z (Int.toNat (x1 i0%(z.n:Int)))
abbrev gp:=dm prog 137 [dI a] (DV.fy [dI b,dI c])
abbrev iI:=i1<x6 i0->(if (decide (i1<i0))=true then a else b)=c
abbrev ji:=eQ i0 ((x1 i0=(↑(x6 i0):Int))::rf (0:Nat)::ep z p P)
abbrev iq:=decide ((0<=z.d)/\(z.d<=1000000))
abbrev jj:=ir (x3 z i1)=true/\ir (dz z i1)=true
abbrev jv:=dm prog k [DV.di z.n [fun i0=>dI (z.X i0),fun i0=>dI (z.Y i0)]] (DV.di z.n sE)
abbrev il:=gz z.n (pA z.n z.X z.Y z.d) (pz z.n z.X z.Y z.d)
abbrev xt:VT:=VT.da [dm prog 82 [dI z.d,dI 0,dI 1000000] (dB (iq z))] (eu z (2:Int) (!(iq z)) (VT.da [jv z (131:Nat) [fun i0=>dI (z.X i0),fun i0=>dI (z.Y i0),fun i0=>dI (z.X (ix z.n (x1 i0))),fun i0=>dI (z.Y (ix z.n (x1 i0))),fun i0=>dI (ee z.n z.X z.Y (i0:Int)),fun i0=>dI (dD z.n z.X z.Y (i0:Int))],jv z (136:Nat) [fun i0=>dI (x7 z i0)]] (VT.loop Nat (fun i0=>i0<=z.n/\EJ z.n z.X z.Y z.d i0=true) dG (ep z (0=(dG:Int)) [dR z]) (fun i0=>fC z i0 (VT.da [dL z i0,dL z i0,cZ (z.d*x7 z (x0 i0)),cZ (eF z i0),cZ (x1 i0),dA z (x1 i0) (0:Int),dA z (x1 i0%(z.n:Int)) (x1 i0%(z.n:Int)),cZ (z.d*x7 z (Int.toNat (x1 i0%(z.n:Int)))),cZ (fj z i0)] (eu z (12:Int) (decide ((fj z i0)<=(0:Int))) (eQ i0 (ep z (x1 i0=(↑(x6 i0):Int)) [dR z,x6 i0<=z.n/\EJ z.n z.X z.Y z.d (x6 i0)=true,fM z i0])))) (VT.loop Nat (fun i0=>i0<=z.n) dG ((0=(dG:Int))::rf (0:Nat)::ep z (dG=0) [dR z,dG=0]) (fun i0=>fC z i0 (VT.da [cZ ((i0:Int)+(z.n:Int)),cZ (x5 z i0),dA z (x5 z i0) (0:Int),dA z (x5 z i0%(z.n:Int)) (x5 z i0%(z.n:Int)),cZ (x2 z (x8 z i0)),fR (x2 z (x8 z i0)),gp (x2 z (x8 z i0)%4) (jY (x2 z (x8 z i0)%4)) (jX (x2 z (x8 z i0)%4))] (VT.da [dL z i0,cZ (x2 z (x0 i0)),fR (x2 z (x0 i0)),gp (x2 z (x0 i0)%4) (jY (x2 z (x0 i0)%4)) (jX (x2 z (x0 i0)%4))] (VT.da [dL z i0,cZ (eG z i0),cZ (z.d*eG z i0),cZ ((z.X (x0 i0))+z.d*eG z i0),dL z i0,cZ (ez z i0),cZ (z.d*ez z i0),cZ ((z.Y (x0 i0))+z.d*ez z i0),i0<=i0,(i0+1)*((nat_lit 15)+1)<=140737488355328,(1:Nat)<=(1:Nat)] (ji z i0 (i0+1=x6 i0) [dR z,i0+1=x6 i0,∀(i1:Nat),iI i0 i1 (x3 z i1) ((z.X (x0 i0))+z.d*eG z i0) (x3 z i1),∀(i1:Nat),iI i0 i1 (dz z i1) ((z.Y (x0 i0))+z.d*ez z i0) (dz z i1),x6 i0<=z.n,fM z i0])))) (VT.loop Nat (fun i0=>i0<=z.n/\(∀i1<i0,jj z i1)) dG ((0=(dG:Int))::rf (0:Nat)::ep z (i0=z.n) [dR z,i0=z.n,∀i0<z.n,rf (x3 z i0),∀i0<z.n,rf (dz z i0)]) (fun i0=>fC z i0 (VT.da [dL z i0,x4 i0<z.n,dm prog 124 [dI (x3 z (x4 i0))] (dB (ir (x3 z (x4 i0)))),dQ z i0,dQ z i0,(!(x9 z i0))=true->dL z i0,dQ z i0,dQ z i0,(!(x9 z i0))=true->x4 i0<z.n,dQ z i0,(!(x9 z i0))=true->dm prog 124 [dI (dz z (x4 i0))] (dB (ir (dz z (x4 i0)))),dQ z i0,x9 z i0=false->(!(x9 z i0))=true] (eu z (2:Int) (if (x9 z i0)=true then true else (!(ir (dz z (x4 i0))))) (ji z i0 (rf z.n) [dR z,rf z.n,∀i0<z.n,rf (x3 z i0),∀i0<z.n,rf (dz z i0),x6 i0<=z.n/\(∀i1<x6 i0,jj z i1),fM z i0]))) (VT.da [z.n<=z.n,dm prog 83 [DV.di z.n [fun i0=>dI (x3 z i0),fun i0=>dI (dz z i0)]] (dI (il z))] (eu z (12:Int) (il z !=0) (VT.done [z.n<=z.n,0=kP z.n z.X z.Y z.d])))))))))))
end
end w1p
open w1p in
theorem Dp (n:Nat) (X Y:Nat->Int) (d:Int) (h:gz n X Y=0) (hd:0<=d/\d<=1000000):dm prog 89 [mh n X Y,dI d] (.fy [.any,dI (kP n X Y d)]):=by
 refine db dv (Cx n X Y d) (V:=xt ⟨n,X,Y,d⟩) (by kernel_rfl) ?_
 simp only [xt,x0,x1,x2,x3,x4,x5,x6,x7,x8,x9,dC,dA,dz,dG,dL,dR,dQ,ep,eu,eG,ez,eF,eQ,fC,fM,fR,fj,gp,iI,ji,iq,jj,jv,il,Rf,VT.holds,dt,Sq]
 have hn:=fp h
 obtain ⟨hX,hY⟩:=eB h
 have cI: ∀i:Nat,lM n X Y i=eV n X Y i:=fun i=>rfl
 have cN: ∀i:Nat,lM n X Y (((i:Int)+1)%(n:Int)).toNat=eV n X Y ((i:Int)+1):=fun i=>A8 (by omega) _
 have dP: ∀i:Nat,dD n X Y (((((i:Int)+n - 1)%(n:Int)).toNat:Nat):Int)=dD n X Y ((i:Int) - 1):=fun i=>by
  rw [UB (by omega)]
  exact A6 (by omega) (by rw [show (i:Int)+n - 1 - (i - 1)=n by omega,Int.emod_self])
 have aZ: ∀i:Nat,ng 0 i=i:=fun i=>by simp [ng]
 simp only [cN,dP,aZ]
 have oL: ∀i:Nat,ee n X Y i+d*eV n X Y i+d*eV n X Y ((i:Int)+1)=Dr n X Y d i:=fun i=>rfl
 simp only [cI,oL]
 refine ⟨iz _ _ _,fun h1=>by omega,fun _=>⟨⟨qD n X Y h,A7 n X Y h⟩,rfl,⟨ao _,PY⟩,fun i ⟨hi,hS⟩=>⟨fun dK=> ?_,fun iy=> ?_⟩⟩⟩
 ·have hl:=vr (n:=n) (by omega) hX hY (i:Int)
  have hb: -1000000<=d*eV n X Y i/\d*eV n X Y i<=1000000:=by
   rcases o5 (n:=n) (X:=X) (Y:=Y) (i:Int) with e1|e1<;>rw [e1]<;>omega
  have hU: -1000000<=d*eV n X Y ((i:Int)+1)/\d*eV n X Y ((i:Int)+1)<=1000000:=by
   rcases o5 (n:=n) (X:=X) (Y:=Y) ((i:Int)+1) with e1|e1<;>rw [e1]<;>omega
  have he:=bf ((i:Int)+1) (show (n:Int)≠0 by omega)
  have he2:=bm ((i:Int)+1) (show (0:Int)<n by omega)
  exact ⟨⟨by omega,by omega,by unfold cZ;omega,by unfold cZ;omega,by unfold cZ;omega,by omega,⟨he,he2⟩,by unfold cZ;omega,by unfold cZ Dr;omega⟩,fun h1=>(PZ (by omega) h1).symm,fun h1=>⟨by unfold cZ;omega,rfl,⟨by omega,PX hS h1⟩,by omega⟩⟩
 ·obtain rfl:i=n:=by omega
  refine ⟨rfl,ao _,fun k hk=>⟨fun dK=> ?_,fun No=> ?_⟩⟩
  ·have b1:=C7 (dD i X Y k) hd
   have b2:=C7 (dD i X Y ((k:Int) - 1)) hd
   have r1:=fH i X Y k
   have r2:=fH i X Y ((k:Int) - 1)
   have x1:=hX k (by omega)
   have y1:=hY k (by omega)
   have he:=bf ((k:Int)+i - 1) (show (i:Int)≠0 by omega)
   have he2:=bm ((k:Int)+i - 1) (show (0:Int)<i by omega)
   have eX:X k+d*(jY ((dD i X Y ((k:Int) - 1)+3)%4)+jY ((dD i X Y k+3)%4))=pA i X Y d k:=by
    rw [Int.mul_add,pA];omega
   have eY:Y k+d*(jX ((dD i X Y ((k:Int) - 1)+3)%4)+jX ((dD i X Y k+3)%4))=pz i X Y d k:=by
    rw [Int.mul_add,pz];omega
   rw [eX,eY]
   refine ⟨⟨by unfold cZ;omega,by unfold cZ;omega,by omega,⟨he,he2⟩,by unfold cZ;omega,by omega,El _ (by omega)⟩,⟨by omega,by unfold cZ;omega,by omega,El _ (by omega)⟩,⟨by omega,by unfold cZ;omega,by rw [Int.mul_add];unfold cZ;omega,by unfold cZ pA;omega,by omega,by unfold cZ;omega,by rw [Int.mul_add];unfold cZ;omega,by unfold cZ pz;omega,af _,by omega,af _⟩,by unfold cZ;omega,rfl,fG (f:=pA i X Y d) rfl,fG (f:=pz i X Y d) rfl,by omega,by omega⟩
  ·obtain rfl:k=i:=by omega
   refine ⟨⟨rfl,rfl,rfl⟩,⟨ao _,fun j hj=>absurd hj (aF j)⟩,fun q ⟨hq,hb⟩=>⟨fun dK=> ?_,fun hge3=> ?_⟩⟩
   ·refine ⟨⟨by omega,by omega,BX _,fun _=>by omega,fun _=>by omega,fun _=>BX _⟩,fun h1=> ?_,fun h1=>⟨by unfold cZ;omega,rfl,⟨by omega,fun j hj=> ?_⟩,by omega⟩⟩
    ·refine (P1 hS ((Mm hn).2 ?_)).symm
     rw [<-Bool.not_eq_true]
     intro hx
     obtain ⟨a1,a2⟩:=sy hx
     have a3:=a1 q (by omega)
     have a4:=a2 q (by omega)
     unfold ir at h1
     rw [an,an] at h1
     omega
    ·by_cases e:j=q
     ·rw [e];exact ⟨by simpa using h1.1,h1.2⟩
     ·exact hb j (by omega)
   ·obtain rfl:q=k:=by omega
    refine ⟨⟨af _,Ia _ _ _ (by omega)⟩,fun h1=>(P0 hS h1 fun h2=> ?_).symm,fun h1=>⟨af _,(Vy hS h1).symm⟩⟩
    have h3:=(Mm hn).1 h2
    simp only [kK,an] at h3
    refine h3 fun j hj=> ?_
    have:=hb j hj
    simp [rS,this.1,this.2]
end Go.Abs
end
section
set_option maxRecDepth 100000
namespace Go.Abs.Lay
open Go Go.RowKit
attribute [local go_sem] Oper.semAt_some
abbrev nums (n:Nat) (A:Nat->Int):DV:= .di n [fun i=> .val (.int .i64 (A i))]
theorem Aw {w:World} {g:Nat} (h:jV w g):g<w.heap.size:=by obtain ⟨o,h,_⟩:=h;exact dY h
theorem oF {w w':World} {N0:Nat} (hb: ∀k,k<w.heap.size->w'.heap[k]? =w.heap[k]?) (a:Addr) (u:Value) (h:iJ w N0 a u):iJ w' N0 a u:=
 ⟨xe (hb a.block (gE h.1)) h.1,fun ⟨o,e,h3⟩=>h.2 ⟨o,by rw [<-hb a.block (gE h.1)];exact e,h3⟩⟩
theorem uJ {w:World} {N0:Nat} (a:Addr) (u:Value) (h:iJ w N0 a u):iJ w w.heap.size a u:=⟨h.1,Aw⟩
theorem lK {w:World} {N0 n:Nat} {A:Nat->Int} {v:Value} (h:du (iJ w N0) (.dN [nums n A]) v):
 ∃a s c,v= .pointer (some a)/\w.cell? a=some (.slice s n c)/\n<=c/\ ∀k,k<n-> ∃b,s=some b/\w.cell? (b.add k)=some (.int .i64 (A k)):=by
 cases h with
 |dN U ha jR h=>
  rename_i a
  have h0:=h 0 _ rfl
  have a0:=oE (ha 0 _ rfl).1 (jR 0 _ rfl)
  rw [Addr.add,ah rfl] at a0
  generalize e:U 0=u at h0 a0
  cases h0 with
  |di V hc hb hn ho hr=>
   rename_i s c
   refine ⟨a,s,c,rfl,a0,hc,fun k hk=> ?_⟩
   obtain ⟨b,qx,hU⟩:=hb k 0 _ hk rfl
   have hU:=oE hU.1 (ho k 0 _ hk rfl)
   refine ⟨b,qx,?_⟩
   have hv:=hr k 0 _ hk rfl
   generalize e2:V k 0=x at hU hv
   cases hv
   simpa using hU
set_option maxHeartbeats 2000000 in
theorem U4 (N0 n:Nat) (hn:n<=1000000) (A:Nat->Int) (m l:Nat) (lb:Array Value) (J Jx:List { x:Nat//x<n }->World->Prop) (W:World)
 (B4:lb.size=1) (hr: ∀(j:Nat) (d:DV) (v:Value),[DV.dN [nums n A]][j]? =some d->lb[j]? =some v->du (iJ W N0) d v)
 (hY: ∀pre x W1,J pre W1->pre.length<n->YieldAt Fence.wide (m - 1) prog l #[.int .i64 ((n:Int) - 1 - (x.1:Nat)),.int .i64 (A (n - 1 - x.1))] W1 fun e W'=>
   (e= .returned (.bool true)/\J (pre++[x]) W'/\ZS [.dN [nums n A]] lb N0 W1 W')\/(e= .returned (.bool false)/\Jx (pre++[x]) W'))
 (h0:J [] W):
 CallsIn Fence.wide m prog 177 (#[.func (.yield l) #[] #[]]++lb) W fun e W'=>(∃v,e= .returned v)/\((∃xs,xs.map (·.1)=List.range n/\J xs W')\/(∃pre,True/\Jx pre W')):=by
 obtain ⟨v0,rfl⟩: ∃v0,lb= #[v0]:=by
  match lb,B4 with
  |⟨[v0]⟩,_=>exact ⟨v0,rfl⟩
 obtain ⟨a,s0,c0,rfl,L8,Nn,ru⟩:=lK (hr 0 _ _ rfl rfl)
 refine callsIn_of_wp Go.Proofs.Tryz.func177 rfl trivial ?_ rfl
 simp only [Go.Proofs.Tryz.ntmps177,cc,aL,b7,Nat.reduceAdd,Nat.reduceSub,Array.replicate_succ,Array.replicate_zero,List.push_toArray,List.append_toArray,cT,bp]
 gi_wp2
 gi_loopw [3] (fun i wr=> ∃(k:Nat) (pre:List { x:Nat//x<n }),k<=n/\pre.map (·.1)=List.range k/\i= .int .i64 ((n:Int) - 1 - (k:Nat))/\J pre wr/\ZS [.dN [nums n A]] #[.pointer (some a)] N0 W wr)
  (fun i _=>(intOf i+1).toNat)
 case atStart=>exact ⟨0,[],ao _,rfl,by simp,h0,⟨fun j d v hj hv h=>h,fun h=>h⟩⟩
 case round=>
  obtain ⟨k,pre,hk,jq,rfl,hJ,hK⟩:=hrel
  by_cases dK:k<n
  ·have hlen:pre.length=k:=by
    have:=congrArg List.length jq
    simpa using this
   obtain ⟨a',s,c,ea,hc,hle,eZ⟩:=lK (hK.1 0 _ _ rfl rfl (hr 0 _ _ rfl rfl))
   cases ea
   obtain ⟨b,rfl,hb⟩:=eZ (n - 1 - k) (by omega)
   obtain ⟨fn,tmps,assign,body,hy,hR⟩:=hY pre ⟨k,dK⟩ wr hJ (by omega)
   dsimp only at hy hR
   rw [show (n:Int) - 1 - (k:Nat)=((n - 1 - k:Nat):Int) by omega] at hy ⊢
   generalize hq:n - 1 - k=q at hb hy ⊢
   gi_wp2
   refine ⟨fun h=>absurd h (by decide),hR.mono ?_⟩
   rintro e W3 (⟨rfl,hJ3,Gj⟩|⟨rfl,Zb⟩)
   ·gi_wp2
    go_roundw
    case rel=>exact ⟨k+1,pre++[⟨k,dK⟩],by omega,by simp [jq,List.range_succ],by first|(congr 1;omega)|(simp;done)|(simp;omega),hJ3,⟨fun j d v hj hv h=>Gj.1 j d v hj hv (hK.1 j d v hj hv h),fun h=>Gj.2 (hK.2 h)⟩⟩
    case measure=>simp [intOf]
   ·gi_wp2
    refine bodyPost_ret (results_none rfl _ _ _) rfl ?_
    exact ⟨⟨_,rfl⟩,.inr ⟨_,trivial,Zb⟩⟩
  ·obtain rfl:k=n:=by omega
   gi_wp2
   go_end0
   exact ⟨⟨_,rfl⟩,.inl ⟨pre,jq,hJ⟩⟩
theorem It (n:Nat) (A:Nat->Int) (hn:n<=1000000):FG prog 177 [.dN [nums n A]] n fun k=>[.int .i64 ((n:Int) - 1 - (k:Nat)),.int .i64 (A (n - 1 - k))]:=by
 refine ⟨?_,fun m lb w B4 hr hg l J Jx W hW hab _ hY h0=> ?_⟩
 ·exact ⟨_,Go.Proofs.Tryz.func177,rfl,by kernel_rfl⟩
 ·have hrW: ∀(j:Nat) (d:DV) (v:Value),[DV.dN [nums n A]][j]? =some d->lb[j]? =some v->du (iJ W w.heap.size) d v:=fun j d v hj hv=>
   (hr j d v hj hv).mono (oF fun k hk=>hW.block k hk) (fun _ h=>h) fun _ _ h=>h.elim
  exact U4 w.heap.size n hn A m l lb J Jx W B4 hrW hY h0
end Go.Abs.Lay
end
section
set_option maxRecDepth 100000
namespace Go.Abs.Lay
open Go
abbrev dP (x y:Int):DV:= .val (.agg #[.int .i64 x,.int .i64 y])
abbrev aN (l:List DV):Nat:=lenOf (arg l 0)
abbrev aX (l:List DV):Nat->Int:=iQ 0 (arg l 0)
abbrev aI (l:List DV) (j:Nat):Int:=eA (arg l j)
theorem s5 (i:Nat):Int.toNat ((i:Int)+1)=i+1:=by omega
theorem JJ (i:Nat):Int.toNat ((i:Int)+2)=i+2:=by omega
theorem qF:Int.toNat (0:Int)=0:=rfl
def je (p:Nat->Bool) (n:Nat) (r:Int):Prop:=(r= -1/\ ∀j,j<n->p j=false)\/ ∃i:Nat,i<n/\r=i/\p i=true/\ ∀j,j<i->p j=false
theorem iC (p:Nat->Bool) (n:Nat): ∃r,je p n r:=by
 induction n with
 |zero=>exact ⟨-1,.inl ⟨rfl,fun j h=>by omega⟩⟩
 |succ n ih=>
  obtain ⟨r,⟨h1,h2⟩|⟨i,h1,h2,h3,h4⟩⟩:=ih
  ·cases hp:p n with
   |true=>exact ⟨n,.inr ⟨n,by omega,rfl,hp,h2⟩⟩
   |false=>
    refine ⟨-1,.inl ⟨rfl,fun j h=> ?_⟩⟩
    by_cases e:j=n
    ·rw [e];exact hp
    ·exact h2 j (by omega)
  ·exact ⟨r,.inr ⟨i,by omega,h2,h3,h4⟩⟩
def fU (p:Nat->Bool) (n:Nat):Bool:= !decide (∀k,k<n->p k=false)
theorem xD {p:Nat->Bool} {n:Nat} {r:Int} (h:je p n r):decide (r>=0)=fU p n:=by
 unfold fU
 rcases h with ⟨h1,h2⟩|⟨i,h1,h2,h3,h4⟩
 ·rw [bk h2,h1];rfl
 ·have hf: ¬ ∀k,k<n->p k=false:=fun h=>by rw [h i h1] at h3;cases h3
  rw [bg hf,h2];simp
def ni (x lo hi:Int):Bool:=decide (lo<=x/\x<=hi)
def yY:fE:= .res fun l=>dB (ni (aI l 0) (aI l 1) (aI l 2))
def xP (x:Int):Bool:= !ni x 1 10000
theorem tO {p:Nat->Bool} {n i:Nat} {r:Int} (h:je p n r) (hi:i<n) (hb: ∀j,j<i->p j=false) (hp:p i=true):r=i:=by
 rcases h with ⟨h1,h2⟩|⟨k,h1,h2,h3,h4⟩
 ·rw [h2 i hi] at hp;cases hp
 ·rcases cP i k with hk|hk|hk
  ·rw [h4 i hk] at hp;cases hp
  ·rw [h2,hk]
  ·rw [hb k hk] at h3;cases h3
theorem tP {p:Nat->Bool} {n:Nat} {r:Int} (h:je p n r) (hb: ∀j,j<n->p j=false):r= -1:=by
 rcases h with ⟨h1,h2⟩|⟨k,h1,h2,h3,h4⟩
 ·exact h1
 ·rw [hb k h1] at h3;cases h3
noncomputable def CV (n lo hi:Int):eH:={ dq:=[],loops:=[],dw:=[] }
theorem iz (n lo hi:Int) :dm prog 101 [dI n,dI lo,dI hi] (dB (ni n lo hi)):=by
 refine db dv (CV n lo hi) (V:= .da [ri (decide (n>=lo)=true),ri (decide (n>=lo)=true),ri (decide (n>=lo)=true)] (.done [(if decide (n>=lo)=true then decide (n<=hi) else false)=ni n lo hi])) (by kernel_rfl) ?_
 simp only [VT.holds,dt,Sq]
 simp [ni]
noncomputable def Cy (n lo hi:Int):eH:={ dq:=[],loops:=[],dw:=[] }
theorem ow (n lo hi:Int) :dm prog 82 [dI n,dI lo,dI hi] (dB (ni n lo hi)):=by
 refine db dv (Cy n lo hi) (V:= .da [ri (decide (n>=lo)=true),ri (decide (n>=lo)=true),ri (decide (n>=lo)=true)] (.done [(if decide (n>=lo)=true then decide (n<=hi) else false)=ni n lo hi])) (by kernel_rfl) ?_
 simp only [VT.holds,dt,Sq]
 simp [ni]
noncomputable def K0 (n:Int):eH:={ dq:=[(1,[(1,yY)])],loops:=[],dw:=[] }
theorem R0 (n:Int) :dm prog 176 [dI n] (dB (xP n)):=by
 refine db dv (K0 n) (V:= .da [dm prog 101 [(dI n),(dI (1:Int)),(dI (10000:Int))] ((dB (ni n (1:Int) (10000:Int))))] (.done [(!ni n (1:Int) (10000:Int))=xP n])) (by kernel_rfl) ?_
 simp only [VT.holds,dt,Sq]
 exact ⟨iz _ _ _,rfl⟩
noncomputable def Gb (g:Nat) (p:Int->Bool) (n:Nat) (A:Nat->Int) (r:Int):eH:={ dq:=[(4,[(5,.res fun l=>dB (p (aI l 0)))])],loops:=[(0,{ ι:=Nat,keep:=[0,1,7],boxes:=[],ts:=fun _ i=>[(8,dI (i:Int))],inv:=fun _ i=>i<=n/\ ∀j,j<i->p (A j)=false,mu:=fun _ i=>n - i,rd:=fun _ σ=>(eA (σ.get 8)).toNat })],dw:=[] }
theorem EX (g:Nat) (p:Int->Bool) (n:Nat) (A:Nat->Int) (r:Int) (jH:n<=1000000) (hg: ∀x,dm prog g [dI x] (dB (p x))) (h:je (fun k=>p (A k)) n r):dm prog 143 [nums n A,.val (.func (.func g) #[] #[])] (dI r):=by
 refine db dv (Gb g p n A r) (V:= .loop Nat (fun a=>a<=n/\ ∀(j:Nat),j<a->p (A j)=false) (0:Int).toNat [(0:Int)=(↑(0:Int).toNat:Int),n=n,∀i<n,A i=A i,Value.func (Fn.func g) (Array.mk []) (Array.mk [])=Value.func (Fn.func g) (Array.mk []) (Array.mk []),(n:Int)=(n:Int)] fun i=> .ite (decide ((i:Int)<(n:Int))) (.da [(0:Int)<=(i:Int)/\(i:Int)<(n:Int),dm prog g [(dI (A (i:Int).toNat))] ((dB (p (A (i:Int).toNat))))] (.ite (p (A (i:Int).toNat)) (.done [(i:Int)=r]) (.da [cZ ((i:Int)+1)] (.done [(i:Int)+1=(↑((i:Int)+1).toNat:Int),n=n,∀i<n,A i=A i,Value.func (Fn.func g) (Array.mk []) (Array.mk [])=Value.func (Fn.func g) (Array.mk []) (Array.mk []),(n:Int)=(n:Int),Int.toNat ((i:Int)+1)<=n/\ ∀(j:Nat),j<((i:Int)+1).toNat->p (A j)=false,n - ((i:Int)+1).toNat<n - i])))) (.done [(-1:Int)=r])) (by kernel_rfl) ?_
 simp only [VT.holds,dt,Sq]
 refine ⟨rfl,⟨ao n,fun j hj=>by omega⟩,fun i ⟨hi,hb⟩=>⟨fun dK=>⟨⟨by omega,hg _⟩,fun sH=>(tO h (by omega) hb sH).symm,fun j7=>⟨by unfold cZ;omega,rfl,⟨by omega,fun j hj=> ?_⟩,by omega⟩⟩,fun iy=>(tP h fun j hj=>hb j (by omega)).symm⟩⟩
 by_cases e:j=i
 ·rw [e];exact j7
 ·exact hb j (by omega)
noncomputable def CP (p:Int->Bool) (n:Nat) (A:Nat->Int) (m:Nat) (O:Nat->Int) (r:Int):eH:={ dq:=[(4,[(5,.res fun l=>dB (p (aI l 0)))])],loops:=[(0,{ ι:=Nat,keep:=[0,1,7],boxes:=[],ts:=fun _ i=>[(8,dI (i:Int))],inv:=fun _ i=>i<=n/\ ∀j,j<i->p (A j)=false,mu:=fun _ i=>n - i,rd:=fun _ σ=>(eA (σ.get 8)).toNat })],dw:=[] }
theorem Qz (p:Int->Bool) (n:Nat) (A:Nat->Int) (m:Nat) (O:Nat->Int) (r:Int) (jH:n<=1000000) (hg: ∀x,dm prog 170 [dI x,.dN [nums m O]] (dB (p x))) (h:je (fun k=>p (A k)) n r):dm prog 143 [nums n A,.jL 170 [.dN [nums m O]]] (dI r):=by
 refine db dv (CP p n A m O r) (V:= .loop Nat (fun a=>a<=n/\ ∀(j:Nat),j<a->p (A j)=false) (0:Int).toNat [(0:Int)=(↑(0:Int).toNat:Int),n=n,∀i<n,A i=A i,m=m,∀i<m,O i=O i,(n:Int)=(n:Int)] fun i=> .ite (decide ((i:Int)<(n:Int))) (.da [(0:Int)<=(i:Int)/\(i:Int)<(n:Int),dm prog (170:FuncId) [(dI (A (i:Int).toNat)),.dN [.di m [fun i=>(dI (O i))]]] ((dB (p (A (i:Int).toNat))))] (.ite (p (A (i:Int).toNat)) (.done [(i:Int)=r]) (.da [cZ ((i:Int)+1)] (.done [(i:Int)+1=(↑((i:Int)+1).toNat:Int),n=n,∀i<n,A i=A i,m=m,∀i<m,O i=O i,(n:Int)=(n:Int),Int.toNat ((i:Int)+1)<=n/\ ∀(j:Nat),j<((i:Int)+1).toNat->p (A j)=false,n - ((i:Int)+1).toNat<n - i])))) (.done [(-1:Int)=r])) (by kernel_rfl) ?_
 simp only [VT.holds,dt,Sq]
 refine ⟨rfl,⟨ao n,fun j hj=>by omega⟩,fun i ⟨hi,hb⟩=>⟨fun dK=>⟨⟨by omega,hg _⟩,fun sH=>(tO h (by omega) hb sH).symm,fun j7=>⟨by unfold cZ;omega,rfl,⟨by omega,fun j hj=> ?_⟩,by omega⟩⟩,fun iy=>(tP h fun j hj=>hb j (by omega)).symm⟩⟩
 by_cases e:j=i
 ·rw [e];exact j7
 ·exact hb j (by omega)
noncomputable def Br (g:Nat) (p:Int->Bool) (n:Nat) (A:Nat->Int) (r:Int):eH:={ dq:=[(1,[(2,.res fun _=>dI r)])],loops:=[],dw:=[] }
theorem pR (g:Nat) (p:Int->Bool) (n:Nat) (A:Nat->Int) (r:Int) (jH:n<=1000000) (hg: ∀x,dm prog g [dI x] (dB (p x))) (h:je (fun k=>p (A k)) n r):dm prog 99 [nums n A,.val (.func (.func g) #[] #[])] (dB (fU (fun k=>p (A k)) n)):=by
 refine db dv (Br g p n A r) (V:= .da [dm prog 143 [.di n [fun i=>(dI (A i))],.val (Value.func (Fn.func g) (Array.mk []) (Array.mk []))] ((dI r))] (.done [decide (r>=0)=fU (fun k=>p (A k)) n])) (by kernel_rfl) ?_
 simp only [VT.holds,dt,Sq]
 exact ⟨EX g p n A r jH hg h,xD h⟩
noncomputable def yP (p:Int->Bool) (n:Nat) (A:Nat->Int) (m:Nat) (O:Nat->Int) (r:Int):eH:={ dq:=[(1,[(2,.res fun _=>dI r)])],loops:=[],dw:=[] }
theorem HZ (p:Int->Bool) (n:Nat) (A:Nat->Int) (m:Nat) (O:Nat->Int) (r:Int) (jH:n<=1000000) (hg: ∀x,dm prog 170 [dI x,.dN [nums m O]] (dB (p x))) (h:je (fun k=>p (A k)) n r):dm prog 99 [nums n A,.jL 170 [.dN [nums m O]]] (dB (fU (fun k=>p (A k)) n)):=by
 refine db dv (yP p n A m O r) (V:= .da [dm prog 143 [.di n [fun i=>(dI (A i))],.jL (170:FuncId) [.dN [.di m [fun i=>(dI (O i))]]]] ((dI r))] (.done [decide (r>=0)=fU (fun k=>p (A k)) n])) (by kernel_rfl) ?_
 simp only [VT.holds,dt,Sq]
 exact ⟨Qz p n A m O r jH hg h,xD h⟩
noncomputable def CN (n:Nat) (A:Nat->Int) (v:Int) (r:Int):eH:={ dq:=[],loops:=[(0,{ ι:=Nat,keep:=[0,1,7],boxes:=[],ts:=fun _ i=>[(8,dI (i:Int))],inv:=fun _ i=>i<=n/\ ∀j,j<i->(A j==v)=false,mu:=fun _ i=>n - i,rd:=fun _ σ=>(eA (σ.get 8)).toNat })],dw:=[] }
theorem Qy (n:Nat) (A:Nat->Int) (v:Int) (r:Int) (jH:n<=1000000) (h:je (fun k=>A k==v) n r):dm prog 184 [nums n A,dI v] (dI r):=by
 refine db dv (CN n A v r) (V:= .loop Nat (fun a=>a<=n/\ ∀(j:Nat),j<a->(A j==v)=false) (0:Int).toNat [(0:Int)=(↑(0:Int).toNat:Int),n=n,∀i<n,A i=A i,v=v,(n:Int)=(n:Int)] fun i=> .ite (decide ((i:Int)<(n:Int))) (.da [(0:Int)<=(i:Int)/\(i:Int)<(n:Int)] (.ite (v==A (i:Int).toNat) (.done [(i:Int)=r]) (.da [cZ ((i:Int)+1)] (.done [(i:Int)+1=(↑((i:Int)+1).toNat:Int),n=n,∀i<n,A i=A i,v=v,(n:Int)=(n:Int),Int.toNat ((i:Int)+1)<=n/\ ∀(j:Nat),j<((i:Int)+1).toNat->(A j==v)=false,n - ((i:Int)+1).toNat<n - i])))) (.done [(-1:Int)=r])) (by kernel_rfl) ?_
 simp only [VT.holds,dt,Sq]
 refine ⟨rfl,⟨ao n,fun j hj=>by omega⟩,fun i ⟨hi,hb⟩=>⟨fun dK=>⟨by omega,fun sH=>(tO h (by omega) (fun j hj=>by simpa using hb j hj) (by simp [sH])).symm,fun j7=>⟨by unfold cZ;omega,rfl,⟨by omega,fun j hj=> ?_⟩,by omega⟩⟩,fun iy=>(tP h fun j hj=>by simpa using hb j (by omega)).symm⟩⟩
 by_cases e:j=i
 ·rw [e];exact fun e=>j7 e.symm
 ·exact hb j (by omega)
noncomputable def xT (n:Nat) (A:Nat->Int) (v:Int) (r:Int):eH:={ dq:=[(1,[(2,.res fun _=>dI r)])],loops:=[],dw:=[] }
theorem HY (n:Nat) (A:Nat->Int) (v:Int) (r:Int) (jH:n<=1000000) (h:je (fun k=>A k==v) n r):dm prog 171 [nums n A,dI v] (dB (fU (fun k=>A k==v) n)):=by
 refine db dv (xT n A v r) (V:= .da [dm prog 184 [.di n [fun i=>(dI (A i))],(dI v)] ((dI r))] (.done [decide (r>=0)=fU (fun k=>A k==v) n])) (by kernel_rfl) ?_
 simp only [VT.holds,dt,Sq]
 exact ⟨Qy n A v r jH h,xD h⟩
noncomputable def Bz (x:Int) (m:Nat) (O:Nat->Int):eH:={ dq:=[(1,[(2,.res fun l=>dB (fU (fun k=>aX l k==aI l 1) (aN l)))])],loops:=[],dw:=[] }
theorem M6 (x:Int) (m:Nat) (O:Nat->Int) (hm:m<=1000000):dm prog 170 [dI x,.dN [nums m O]] (dB (!(fU (fun k=>O k==x) m))):=by
 refine db dv (Bz x m O) (V:= .da [dm prog 171 [.di m [fun i=>(dI (O i))],(dI x)] ((dB (fU (fun k=>O k==x) m)))] (.done [(!fU (fun k=>O k==x) m)= !fU (fun k=>O k==x) m])) (by kernel_rfl) ?_
 simp only [VT.holds,dt,Sq]
 obtain ⟨r,hr⟩:=iC (fun k=>O k==x) m
 exact HY m O x r hm hr
noncomputable def CO (n:Nat) (A:Nat->Int) (m:Nat) (O:Nat->Int):eH:={ dq:=[(1,[(2,.res fun l=>dB (fU (fun k=> !(fU (fun j=>O j==aX l k) m)) (aN l)))])],loops:=[],dw:=[] }
theorem G5 (n:Nat) (A:Nat->Int) (m:Nat) (O:Nat->Int) (hn:n<=1000000) (hm:m<=1000000):dm prog 169 [nums n A,nums m O] (dB (fU (fun k=> !(fU (fun j=>O j==A k) m)) n)):=by
 refine db dv (CO n A m O) (V:= .da [dm prog 99 [.di n [fun i=>(dI (A i))],.jL (170:Nat) [.dN [.di m [fun i=>(dI (O i))]]]] ((dB (fU (fun k=> !fU (fun j=>O j==A k) m) n)))] (.done [fU (fun k=> !fU (fun j=>O j==A k) m) n=fU (fun k=> !fU (fun j=>O j==A k) m) n])) (by kernel_rfl) ?_
 simp only [VT.holds,dt,Sq]
 obtain ⟨r,hr⟩:=iC (fun k=> !(fU (fun j=>O j==A k) m)) n
 exact HZ (fun x=> !(fU (fun j=>O j==x) m)) n A m O r hn (fun x=>M6 x m O hm) hr
noncomputable def I3 (a b:Int):eH:={ dq:=[],loops:=[],dw:=[] }
theorem Zg (a b:Int) (h1: -1000000000<=a/\a<=1000000000) (h2: -1000000000<=b/\b<=1000000000):dm prog 186 [dI a,dI b] (dI (b - a)):=by
 refine db dv (I3 a b) (V:= .da [cZ (b - a)] (.done [b - a=b - a])) (by kernel_rfl) ?_
 simp only [VT.holds,dt,Sq]
 unfold cZ;omega
end Go.Abs.Lay
end
section
set_option maxRecDepth 100000
namespace Go.Abs.Lay
open Go
abbrev lists (m:Nat) (N:Nat->Nat) (A:Nat->Nat->Int):DV:= .di m [fun i=> .di (N i) [fun k=> .val (.int .i64 (A i k))]]
abbrev sys (nB:Nat) (B:Nat->Int) (nO:Nat) (O:Nat->Int) (W G L:Int):DV:= .agg [nums nB B,nums nO O,dI W,dI G,dI L]
def iT (n:Nat) (A:Nat->Int):Bool:=decide (∀k,k<n->0<k->A (k - 1)<A k)
def iE (n:Nat) (A:Nat->Int):Bool:=decide (∀k,k<n->0<k->A k<=A (k - 1))
def gS (n:Nat) (A:Nat->Int):Bool:=fU (fun k=>xP (A k)) n
def BU (m:Nat) (N:Nat->Nat) (A:Nat->Nat->Int):Int:=if fU (fun i=>gS (N i) (A i)) m=true then 2 else if fU (fun i=> !(iT (N i) (A i))) m=true then 10 else 0
theorem km {p:Nat->Bool} {n:Nat}:fU p n=true↔ ∃k,k<n/\p k=true:=by
 unfold fU
 rw [bA,an]
 constructor
 ·intro h
  apply bQ
  intro h'
  apply h
  intro k hk
  cases hp:p k with
  |false=>rfl
  |true=>exact absurd ⟨k,hk,hp⟩ h'
 ·intro ⟨k,hk,hp⟩ h
  rw [h k hk] at hp;cases hp
theorem k9 {p:Nat->Bool} {n:Nat}:fU p n=false↔ ∀k,k<n->p k=false:=by
 unfold fU
 rw [bK,ai]
def rBads:fE:= .res fun l=>dB (fU (fun k=>xP (aX l k)) (aN l))
def fN (nB:Nat) (B:Nat->Int) (nO:Nat) (O:Nat->Int) (W G L:Int):Int:=
 if nB<1\/nB>8\/nO>8 then 11 else if gS nB B=true\/gS nO O=true then 2 else if iT nB B=false\/iT nO O=false then 10
 else if ni W 1 5000=false\/ni G 0 5000=false\/ni L 1 10000=false then 2 else 0
def rLens:fE:= .res fun l=>dI (BU (lenOf (arg l 0)) (fun i=>lenOf (NC 0 (arg l 0) i)) (fun i k=>iQ 0 (NC 0 (arg l 0) i) k))
theorem any2 (p:Nat->Bool):fU p 2=true↔p 0=true\/p 1=true:=by
 rw [km]
 constructor
 ·rintro ⟨k,hk,hp⟩
  match k,hk,hp with
  |0,_,hp=>exact .inl hp
  |1,_,hp=>exact .inr hp
 ·rintro (h|h)
  ·exact ⟨0,by omega,h⟩
  ·exact ⟨1,by omega,h⟩
theorem lenE2 (N:Nat->Nat) (A:Nat->Nat->Int):BU 2 N A=if gS (N 0) (A 0)=true\/gS (N 1) (A 1)=true then 2 else if iT (N 0) (A 0)=false\/iT (N 1) (A 1)=false then 10 else 0:=by
 unfold BU
 simp only [any2,bA]
noncomputable def BA (m:Nat) (N:Nat->Nat) (A:Nat->Nat->Int):eH:={ dq:=[(4,[(1,rBads)])],loops:=[(0,{ ι:=Nat,keep:=[0,8,9],boxes:=[],ts:=fun _ i=>[(10,dI (i:Int))],inv:=fun _ i=>i<=m/\ ∀j,j<i->gS (N j) (A j)=false,mu:=fun _ i=>m - i,rd:=fun _ σ=>(eA (σ.get 10)).toNat }),(2,{ ι:=Nat,keep:=[0,17,18],boxes:=[],ts:=fun _ i=>[(19,dI (i:Int))],inv:=fun _ i=>i<=m/\ ∀j,j<i->iT (N j) (A j)=true,mu:=fun _ i=>m - i,rd:=fun _ σ=>(eA (σ.get 19)).toNat }),(4,{ ι:=Nat,keep:=[0,6,17,18,19,23,24],boxes:=[],ts:=fun _ i=>[(25,dI (i:Int))],inv:=fun σ k=>k<=lenOf (σ.get 6)/\ ∀j,j<k->0<j->iQ 0 (σ.get 6) (j - 1)<iQ 0 (σ.get 6) j,mu:=fun σ i=>lenOf (σ.get 6) - i,rd:=fun _ σ=>(eA (σ.get 25)).toNat })],dw:=[] }
namespace w22
noncomputable section
structure Z where
 m:Nat
 N:Nat->Nat
 A:Nat->Nat->Int
variable (z:Z) (i0 i1 i2:Nat) (p:Prop) (P:List Prop) (a b:Int) (k:Nat) (U V:VT) (Oi:Nat->Prop) (Dz:Nat->VT)
abbrev x0:=Int.toNat (i0:Int)
abbrev x1:=decide ((i1:Int)>(0:Int))
abbrev x2:= ∀i0<z.m,rf (z.N i0)/\(∀i1<(z.N i0),rf (z.A i0 i1))
abbrev x3:=ri (x1 i1=true)
abbrev x4:=Int.toNat ((i0:Int)+1)
abbrev x5:=Int.toNat ((i1:Int)+1)
abbrev x6:=(i1:Int) - 1
abbrev x7:= ∀i1<(z.N (x0 i0)),rf (z.A (x0 i0) i1)
abbrev x8:List Prop:=(a=(k:Int))::rf z.m::x2 z::rf z.m::x2 z::rf (z.m:Int)::P
abbrev x9:=VT.done [a=Lay.BU z.m z.N z.A]
abbrev dC:=Lay.fU (fun i1=>Lay.xP (z.A (x0 i0) i1)) (z.N (x0 i0))
abbrev dA:List Prop:=x3 i1::x3 i1::(x1 i1=true->0<=a/\b<(↑(z.N (x0 i0)):Int))::x3 i1::P
abbrev dz:=VT.loop Nat Oi (Int.toNat 0) (x8 z [] (0:Int) (Int.toNat 0)) Dz
abbrev dG:=VT.da [cZ ((i0:Int)+1)] (VT.done (x8 z [x4 i0<=z.m/\p,z.m - x4 i0<z.m - i0] ((i0:Int)+1) (x4 i0)))
abbrev dL:=Lay.gS (z.N i1) (z.A i1)=false
abbrev dR:=i2<k->0<i2->(z.A (x0 i0) (i2 - 1))<(z.A (x0 i0) i2)
abbrev dQ:List Prop:=(a=(k:Int))::rf z.m::x2 z::rf (z.N (x0 i0))::x7 z i0::rf z.m::x2 z::rf (z.m:Int)::rf (i0:Int)::rf (z.N (x0 i0))::x7 z i0::rf (↑(z.N (x0 i0)):Int)::P
abbrev ep:=VT.ite (decide ((i0:Int)<(z.m:Int))) (VT.da [0<=(i0:Int)/\(i0:Int)<(z.m:Int)] U) V
abbrev xt:VT:=dz z (fun i0=>i0<=z.m/\(∀i1<i0,dL z i1)) (fun i0=>ep z i0 (VT.da [dm prog 99 [DV.di (z.N (x0 i0)) [fun i1=>dI (z.A (x0 i0) i1)],DV.val (Value.func (Fn.func 176) (Array.mk []) (Array.mk []))] (dB (dC z i0))] (VT.ite (dC z i0) (x9 z (2:Int)) (dG z i0 (∀i1<x4 i0,dL z i1)))) (dz z (fun i0=>i0<=z.m/\(∀i1<i0,Lay.iT (z.N i1) (z.A i1)=true)) (fun i0=>ep z i0 (VT.loop Nat (fun i1=>i1<=(z.N (x0 i0))/\(∀(i2:Nat),dR z i0 i2 i1)) (Int.toNat 0) (dQ z i0 [] (0:Int) (Int.toNat 0)) (fun i1=>VT.ite (decide ((i1:Int)<(↑(z.N (x0 i0)):Int))) (VT.da (x3 i1::(x1 i1=true->cZ (x6 i1))::dA z i0 i1 (dA z i0 i1 [x3 i1,x3 i1,x3 i1] (i1:Int) (i1:Int)) (x6 i1) (x6 i1)) (VT.ite (if (x1 i1)=true then (decide ((z.A (x0 i0) (Int.toNat (x6 i1)))>=(z.A (x0 i0) (Int.toNat (i1:Int))))) else false) (x9 z (10:Int)) (VT.da [cZ ((i1:Int)+1)] (VT.done (dQ z i0 [x5 i1<=(z.N (x0 i0))/\(∀(i2:Nat),dR z i0 i2 (x5 i1)),(z.N (x0 i0)) - x5 i1<(z.N (x0 i0)) - i1] ((i1:Int)+1) (x5 i1)))))) (dG z i0 (∀i1<x4 i0,Lay.iT (z.N i1) (z.A i1)=true)))) (x9 z (0:Int)))))
end
end w22
open w22 in
theorem Nb (m:Nat) (N:Nat->Nat) (A:Nat->Nat->Int) (hm:m<=1000) (hN: ∀i,i<m->N i<=1000000):dm prog 151 [lists m N A] (dI (BU m N A)):=by
 refine db dv (BA m N A) (V:=xt ⟨m,N,A⟩) (by kernel_rfl) ?_
 simp only [xt,x0,x1,x2,x3,x4,x5,x6,x7,x8,x9,dC,dA,dz,dG,dL,dR,dQ,ep,Rf,VT.holds,dt,Sq]
 refine ⟨rfl,⟨ao m,fun j hj=>by omega⟩,fun i ⟨hi,hb⟩=>⟨fun dK=>⟨by omega,?_,fun h=> ?_,fun h=>⟨by unfold cZ;omega,rfl,⟨by omega,fun j hj=> ?_⟩,by omega⟩⟩,fun iy=>⟨rfl,⟨ao m,fun j hj=>by omega⟩,fun i' ⟨pH,wK⟩=>⟨fun dK=>⟨by omega,rfl,⟨ao _,fun j hj=>by omega⟩,fun k ⟨hk,lg⟩=>⟨fun hkl=>⟨⟨fun _=> ?_,fun _=>by omega,fun _=>by omega⟩,fun h=> ?_,fun h=>⟨?_,rfl,⟨by omega,fun j hj h0=> ?_⟩,by omega⟩⟩,fun hkg=>⟨by unfold cZ;omega,rfl,⟨by omega,fun j hj=> ?_⟩,by omega⟩⟩⟩,fun hge'=> ?_⟩⟩⟩⟩
 ·obtain ⟨r,hr⟩:=iC (fun k=>xP (A i k)) (N i)
  exact pR 176 xP (N i) (A i) r (hN i (by omega)) R0 hr
 ·rw [BU,ah (km.2 ⟨i,by omega,h⟩)]
 ·by_cases e:j=i
  ·rw [e];exact h
  ·exact hb j (by omega)
 ·have:=hN i' (by omega);unfold cZ;omega
 ·have fh:fU (fun i=>gS (N i) (A i)) m=false:=k9.2 fun j hj=>hb j (by omega)
  rw [BU,fh,ae (by simp),ah (km.2 ⟨i',by omega,?_⟩)]
  rw [bA,iT,an]
  intro hx
  have:=hx k (by omega) (by omega)
  have e:((k:Int) - 1).toNat=k - 1:=by omega
  rw [e] at h
  omega
 ·have:=hN i' (by omega);unfold cZ;omega
 ·by_cases e:j=k
  ·subst e
   have:=h (by omega)
   have e:((j:Int) - 1).toNat=j - 1:=by omega
   rw [e] at this
   omega
  ·exact lg j (by omega) h0
 ·by_cases e:j=i'
  ·rw [e,iT,ai];exact fun k hk=>lg k (by omega)
  ·exact wK j (by omega)
 ·have fh:fU (fun i=>gS (N i) (A i)) m=false:=k9.2 fun j hj=>hb j (by omega)
  have hall2:fU (fun i=> !(iT (N i) (A i))) m=false:=k9.2 fun j hj=>by rw [wK j (by omega)];rfl
  rw [BU,fh,hall2];rfl
noncomputable def CT (nB:Nat) (B:Nat->Int) (nO:Nat) (O:Nat->Int) (W G L:Int):eH:={ dq:=[(1,[(3,yY)]),(3,[(5,rLens)]),(6,[(2,yY),(7,yY),(13,yY)])],loops:=[],dw:=[] }
noncomputable abbrev qk (nB:Nat):Bool:= !!ni (nB:Int) (1:Int) (8:Int)
noncomputable abbrev ql (W:Int) (G:Int):Bool:= !if (!ni W (1:Int) (5000:Int))=true then true else !ni G (0:Int) (5000:Int)
namespace w23
noncomputable section
structure Z where
 nB:Nat
 B:Nat->Int
 nO:Nat
 O:Nat->Int
 W:Int
 G:Int
 L:Int
variable (z:Z) (i0 i1:Nat) (P:List Prop) (a:Int) (g h:Bool) (E:List DV)
abbrev x0:= !(Lay.ni z.W 1 5000)
abbrev x1:=if g=true then true else h
abbrev x2:=x1 (x0 z) (!(Lay.ni z.G 0 5000))
abbrev x3:= !(Lay.ni (z.nB:Int) 1 8)
abbrev x4:=dm prog 101 E (dB g)
abbrev x5:=if (decide (i0=(0:Nat)))=true then z.nB else z.nO
abbrev x6:=if (decide (i0=(0:Nat)))=true then (z.B i1) else (z.O i1)
abbrev x7:=VT.done [a=Lay.fN z.nB z.B z.nO z.O z.W z.G z.L]
abbrev x8:List Prop:=ri ((!(x3 z))=true)::P
abbrev x9:=Lay.BU 2 (fun i0=>x5 z i0) (fun i0=>fun i1=>x6 z i0 i1)
abbrev xt:VT:=VT.da (x4 (Lay.ni (z.nB:Int) 1 8) [dI (z.nB:Int),dI 1,dI 8]::x8 z (x8 z (x8 z [x3 z=false->(!(x3 z))=true]))) (VT.ite (x1 (x3 z) (decide ((z.nO:Int)>(8:Int)))) (x7 z (11:Int)) (VT.da [(2:Nat)<=(2:Nat),dm prog 151 [DV.di 2 [fun i0=>DV.di (x5 z i0) [fun i1=>dI (x6 z i0 i1)]]] (dI (x9 z))] (VT.ite (x9 z !=0) (x7 z (x9 z)) (VT.da [x4 (Lay.ni z.W 1 5000) [dI z.W,dI 1,dI 5000],ri ((!(x0 z))=true),ri ((!(x0 z))=true),(!(x0 z))=true->x4 (Lay.ni z.G 0 5000) [dI z.G,dI 0,dI 5000],ri ((!(x0 z))=true),x0 z=false->(!(x0 z))=true,ri ((!(x2 z))=true),ri ((!(x2 z))=true),(!(x2 z))=true->x4 (Lay.ni z.L 1 10000) [dI z.L,dI 1,dI 10000],ri ((!(x2 z))=true),x2 z=false->(!(x2 z))=true] (VT.ite (x1 (x2 z) (!(Lay.ni z.L 1 10000))) (x7 z (2:Int)) (x7 z (0:Int)))))))
end
end w23
open w23 in
theorem Pf (nB:Nat) (B:Nat->Int) (nO:Nat) (O:Nat->Int) (W G L:Int) :dm prog 115 [sys nB B nO O W G L] (dI (fN nB B nO O W G L)):=by
 refine db dv (CT nB B nO O W G L) (V:=xt ⟨nB,B,nO,O,W,G,L⟩) (by kernel_rfl) ?_
 simp only [xt,x0,x1,x2,x3,x4,x5,x6,x7,x8,x9,Rf,VT.holds,dt,Sq]
 have hE:BU 2 (fun i=>if i=0 then nB else nO) (fun i k=>if i=0 then B k else O k)=if gS nB B=true\/gS nO O=true then 2 else if iT nB B=false\/iT nO O=false then 10 else 0:=lenE2 _ _
 have sj: ∀x lo hi:Int,ni x lo hi=false↔ ¬(lo<=x/\x<=hi):=fun x lo hi=>an
 refine ⟨iz _ _ _,fun h=> ?_,fun h=>⟨⟨by omega,?_⟩,fun nj=> ?_,fun he=>⟨⟨iz _ _ _,fun _=>iz _ _ _,fun _=>iz _ _ _⟩,fun h2=> ?_,fun h2=> ?_⟩⟩⟩
 ·rw [sj] at h
  rw [fN,ah (by omega)]
 ·exact Nb 2 (fun i=>if i=0 then nB else nO) (fun i k=>if i=0 then B k else O k) (by omega) fun i _=>by
   obtain ⟨h1,h2⟩:=h
   rw [sj] at h1
   show (if i=0 then nB else nO)<=1000000
   split<;>omega
 ·obtain ⟨h1,h2⟩:=h
  rw [sj] at h1
  rw [fN,ae (by omega)]
  rw [hE] at nj ⊢
  by_cases c1:gS nB B=true\/gS nO O=true
  ·rw [ah c1,ah c1]
  ·rw [ae c1] at nj
   rw [ae c1,ae c1]
   by_cases c2:iT nB B=false\/iT nO O=false
   ·rw [ah c2,ah c2]
   ·rw [ae c2] at nj;exact absurd rfl nj
 all_goals
  obtain ⟨h1,h3⟩:=h
  rw [sj] at h1
  rw [fN,ae (by omega)]
  rw [hE] at he
  by_cases c1:gS nB B=true\/gS nO O=true
  ·rw [ah c1] at he;cases he
  ·rw [ae c1] at he
   rw [ae c1]
   by_cases c2:iT nB B=false\/iT nO O=false
   ·rw [ah c2] at he;cases he
   ·rw [ae c2]
    first
    |rw [ah (by rcases h2 with (h|h)|h<;>simp [h])]
    |rw [ae (fun hx=>by
      obtain ⟨ha,hb⟩:=h2
      rcases hx with h|h|h
      ·exact ha (.inl h)
      ·exact ha (.inr h)
      ·rw [hb] at h;cases h)]
noncomputable def N1 (nB:Nat) (B:Nat->Int) (nO:Nat) (O:Nat->Int) (W G L:Int):eH:={ dq:=[],loops:=[],dw:=[] }
theorem few_c (nB:Nat) (B:Nat->Int) (nO:Nat) (O:Nat->Int) (W G L:Int) :dm prog 71 [sys nB B nO O W G L] (dB (decide (nB<=12/\nO<=12))):=by
 refine db dv (N1 nB B nO O W G L) (V:= .da [ri (decide ((nB:Int)<=12)=true),ri (decide ((nB:Int)<=12)=true),ri (decide ((nB:Int)<=12)=true),ri (decide ((nB:Int)<=12)=true)] (.done [(if decide ((nB:Int)<=12)=true then decide ((nO:Int)<=12) else false)=decide (nB<=12/\nO<=12)])) (by kernel_rfl) ?_
 simp only [VT.holds,dt,Sq]
 rw [Bool.decide_and]
 congr 1<;>simp<;>omega
noncomputable def Gc (n:Nat) (A:Nat->Int):eH:={ dq:=[],loops:=[],dw:=[] }
theorem UE (n:Nat) (A:Nat->Int) (hn:n<=1000000):ZU prog 134 [nums n A] n [fun i=> .val (.int .i64 (A i))]:=by
 refine Sa dv (Gc n A) (V:= .da [(0:Nat)<=0,((0:Nat)+n)*(nat_lit 7+1)<=140737488355328] (.done [(0:Nat)+n=n/\(0:Nat)+n<=0+n,∀i<n,(if decide (i<0)=true then (0:Int) else A (i - 0))=A i])) (by kernel_rfl) ?_
 simp only [VT.holds,dt,Sq]
 exact ⟨⟨by omega,by omega⟩,⟨by omega,by omega⟩,fun i _=>by rw [ae (by omega)]<;>rfl⟩
noncomputable def CM (n:Nat) (A:Nat->Int):eH:={ dq:=[(4,[(10,.res fun l=>dI (aI l 1 - aI l 0))])],loops:=[(0,{ ι:=Int,keep:=[0,1],boxes:=[],ts:=fun _ i=>[(5,dI i)],inv:=fun _ i=> -1<=i/\i<=(n:Int) - 1/\ ∀k:Nat,i<(k:Int)->k<n->0<k->A k<=A (k - 1),mu:=fun _ i=>(i+1).toNat,rd:=fun _ σ=>eA (σ.get 5) })],dw:=[] }
namespace w26
noncomputable section
structure Z where
 n:Nat
 A:Nat->Int
variable (z:Z) (i1:Nat) (a:Int)
abbrev x0:=(z.n:Int) - 1
abbrev x1 (i0:Int):=(z.A (Int.toNat (i0 - 1))) - (z.A (Int.toNat i0))
abbrev x2:=a<(i1:Int)->i1<z.n->0<i1->(z.A i1)<=(z.A (i1 - 1))
abbrev x3:=rf (Value.func (Fn.func (186:FuncId)) (Array.mk []) (Array.mk []))
abbrev xt:VT:=VT.da [cZ (x0 z)] (VT.loop Int (fun (i0:Int)=>(-(1:Int))<=i0/\i0<=x0 z/\(∀(i1:Nat),x2 z i1 i0)) (x0 z) [rf (x0 z),rf z.n,∀i0<z.n,rf (z.A i0),x3] (fun (i0:Int)=>VT.ite (decide (i0>(0:Int))) (VT.da [0<=i0/\i0<(z.n:Int),cZ (i0 - 1),0<=i0 - 1/\i0 - 1<(z.n:Int),dm prog (186:FuncId) [dI (z.A (Int.toNat i0)),dI (z.A (Int.toNat (i0 - 1)))] (dI (x1 z i0))] (VT.ite (decide ((x1 z i0)<(0:Int))) (VT.done [false=Lay.iE z.n z.A]) (VT.da [cZ (i0 - 1)] (VT.done [rf (i0 - 1),rf z.n,∀i0<z.n,rf (z.A i0),x3,(-(1:Int))<=i0 - 1/\i0 - 1<=x0 z/\(∀(i1:Nat),x2 z i1 (i0 - 1)),Int.toNat (i0 - 1+1)<Int.toNat (i0+1)])))) (VT.done [true=Lay.iE z.n z.A])))
end
end w26
open w26 in
theorem zG (n:Nat) (A:Nat->Int) (hn:n<=1000000) (hA: ∀k,k<n->1<=A k/\A k<=10000):dm prog 185 [nums n A,.val (.func (.func 186) #[] #[])] (dB (iE n A)):=by
 refine db dv (CM n A) (V:=xt ⟨n,A⟩) (by kernel_rfl) ?_
 simp only [xt,x0,x1,x2,x3,Rf,VT.holds,dt,Sq]
 refine ⟨by unfold cZ;omega,⟨by omega,by omega,fun k _ _ _=>by omega⟩,fun i ⟨h1,h2,h3⟩=>⟨fun hp=>⟨⟨by omega,by unfold cZ;omega,by omega,?_⟩,fun h=> ?_,fun h=>⟨by unfold cZ;omega,⟨by omega,by omega,fun k hk kL h0=> ?_⟩,by omega⟩⟩,fun hp=> ?_⟩⟩
 ·have a1:=hA i.toNat (by omega)
  have a2:=hA (i - 1).toNat (by omega)
  exact Zg _ _ (by omega) (by omega)
 ·rw [iE,bW,an]
  intro hx
  have:=hx i.toNat (by omega) (by omega)
  rw [show i.toNat - 1=(i - 1).toNat by omega] at this
  omega
 ·by_cases e:i<(k:Int)
  ·exact h3 k e kL h0
  ·have:k=i.toNat:=by omega
   subst this
   rw [show i.toNat - 1=(i - 1).toNat by omega]
   omega
 ·rw [iE,bW,ai]
  exact fun k hk h0=>h3 k (by omega) hk h0
noncomputable def By (n:Nat) (A:Nat->Int):eH:={ dq:=[(1,[(1,.res fun l=>dB (iE (aN l) (aX l)))])],loops:=[],dw:=[] }
theorem DL (n:Nat) (A:Nat->Int) (hn:n<=1000000) (hA: ∀k,k<n->1<=A k/\A k<=10000):dm prog 172 [nums n A] (dB (iE n A)):=by
 refine db dv (By n A) (V:= .da [dm prog 185 [.di n [fun i=>(dI (A i))],.val (Value.func (Fn.func 186) (Array.mk []) (Array.mk []))] ((dB (iE n A)))] (.done [iE n A=iE n A])) (by kernel_rfl) ?_
 simp only [VT.holds,dt,Sq]
 exact zG n A hn hA
noncomputable def K2 (n:Nat) (A:Nat->Int):eH:={ dq:=[],loops:=[(0,{ ι:=Nat,keep:=[0],boxes:=[],ts:=fun _ i=>[(4,dI (i:Int)),(3,dI (A (i - 1)))],inv:=fun _ i=>1<=i/\i<=n,mu:=fun _ i=>n - i,rd:=fun _ σ=>(eA (σ.get 4)).toNat })],dw:=[] }
namespace w28
noncomputable section
structure Z where
 n:Nat
 A:Nat->Int
variable (z:Z) (i0:Nat)
abbrev x0:=Int.toNat ((i0:Int)+1)
abbrev x1:=VT.da [(0:Int)<=(0:Int)/\0<(z.n:Int)] (VT.loop Nat (fun i0=>1<=i0/\i0<=z.n) (Int.toNat 1) [1=(↑(Int.toNat 1):Int),(z.A (Int.toNat 0))=(z.A (Int.toNat 1 - 1)),rf z.n,∀i0<z.n,rf (z.A i0)] (fun i0=>VT.ite (decide ((i0:Int)<(z.n:Int))) (VT.da [0<=(i0:Int)/\(i0:Int)<(z.n:Int)] (VT.da [cZ ((i0:Int)+1)] (VT.done [(i0:Int)+1=(↑(x0 i0):Int),hP (z.A (i0 - 1)) [z.A (Int.toNat (i0:Int))]=(z.A (x0 i0 - 1)),rf z.n,∀i0<z.n,rf (z.A i0),1<=x0 i0/\x0 i0<=z.n,z.n - x0 i0<z.n - i0]))) (VT.done [(z.A (i0 - 1))=(z.A (z.n - 1))])))
abbrev xt:VT:=VT.ite (decide ((z.n:Int)<(1:Int))) (VT.da [False,False] (x1 z)) (x1 z)
end
end w28
open w28 in
theorem max_c (n:Nat) (A:Nat->Int) (h1:1<=n) (hn:n<=1000000) (hr:iT n A=true):dm prog 154 [nums n A] (dI (A (n - 1))):=by
 refine db dv (K2 n A) (V:=xt ⟨n,A⟩) (by kernel_rfl) ?_
 simp only [xt,x0,x1,Rf,VT.holds,dt,Sq]
 have hs: ∀k,k<n->0<k->A (k - 1)<A k:=by rw [iT,ai] at hr;exact hr
 refine ⟨fun h=>absurd h (by omega),fun _=>⟨by omega,⟨rfl,rfl⟩,⟨by omega,by omega⟩,fun i ⟨h2,h3⟩=>⟨fun dK=>⟨by omega,by unfold cZ;omega,rfl,?_,⟨by omega,by omega⟩,by omega⟩,fun iy=>by rw [show i=n by omega]⟩⟩⟩
 have:=hs i (by omega) (by omega)
 simp only [hP,Nat.add_sub_cancel]
 rw [ah (by omega)]
end Go.Abs.Lay
end
