/- Contracts and what they stand on. -/
import Derived.Test.YtoinjphpfpklmaaGreatDoorK23
set_option linter.unusedVariables false
set_option linter.unusedSimpArgs false
section
set_option maxRecDepth 100000
namespace Go.Abs
open Go
def gH (n:Nat) (X Y:Nat->Int) (i:Int):Int:=if dD n X Y i=(dD n X Y (i - 1)+1)%4 then 1 else -1
def L6 (n:Nat) (X Y:Nat->Int) (d i:Int):Int:=fb n X Y i+d*gH n X Y i+d*gH n X Y (i+1)
def zo (n:Nat) (X Y:Nat->Int) (d:Int) (i:Nat):Int:=X i+d*kX ((dD n X Y i+3)%4)+d*kX ((dD n X Y ((i:Int) - 1)+3)%4)
def zn (n:Nat) (X Y:Nat->Int) (d:Int) (i:Nat):Int:=Y i+d*kW ((dD n X Y i+3)%4)+d*kW ((dD n X Y ((i:Int) - 1)+3)%4)
def Hd (n:Nat) (X Y:Nat->Int) (d:Int) (k:Nat):Bool:=decide (∀i,i<k->0<L6 n X Y d (i:Nat))
def lE (n:Nat) (X Y:Nat->Int) (d:Int):Int:=if Hd n X Y d n=false then 12 else if gI n (zo n X Y d) (zn n X Y d)=0 then 0 else if gI n (zo n X Y d) (zn n X Y d)=2 then 2 else 12
section
variable {n:Nat} {X Y:Nat->Int} {d:Int}
theorem sb (i:Int):gH n X Y i=1\/gH n X Y i= -1:=by
 unfold gH
 split
 ·exact .inl rfl
 ·exact .inr rfl
theorem Bv (hn:0<n) {a b:Int} (h:(a - b)%n=0):dD n X Y a=dD n X Y b:=by
 have e: ∀c:Int,ix n (a+c)=ix n (b+c):=fun c=>by
  have h1:(a+c)%(n:Int)=(b+c)%n:=Int.emod_eq_emod_iff_emod_sub_eq_zero.2 (by rw [show a+c - (b+c)=a - b by omega];exact h)
  unfold ix
  rw [bM,bM,h1]
 have e0:=e 0
 rw [Int.add_zero,Int.add_zero] at e0
 unfold dD
 rw [e0,e 1]
theorem H2 (hn:0<n) {a b:Int} (h:(a - b)%n=0):gH n X Y a=gH n X Y b:=by
 unfold gH
 rw [Bv hn h,Bv hn (a:=a - 1) (b:=b - 1) (by rw [show a - 1 - (b - 1)=a - b by omega];exact h)]
theorem lJ (a:Int) (n:Nat):(a%(n:Int) - a)%n=0:=by
 rw [Int.sub_emod,Int.emod_emod,Int.sub_self,Int.zero_emod]
theorem Bx (hn:0<n) (a:Int):ov n X Y (a%(n:Int)).toNat=gH n X Y a:=by
 have h:=bm a (show (n:Int)≠0 by omega)
 have e:ov n X Y (a%(n:Int)).toNat=gH n X Y ((a%(n:Int)).toNat:Nat):=rfl
 rw [e,bG h]
 exact H2 hn (lJ a n)
theorem U4 (hn:0<n) (a:Int):dD n X Y ((a%(n:Int)).toNat:Nat)=dD n X Y a:=by
 have h:=bm a (show (n:Int)≠0 by omega)
 rw [bG h]
 exact Bv hn (lJ a n)
theorem vt (h:lE n X Y d=0):(∀i,i<n->0<L6 n X Y d (i:Nat))/\gI n (zo n X Y d) (zn n X Y d)=0:=by
 unfold lE at h
 split at h
 ·cases h
 ·rename_i h1
  split at h
  ·rename_i h2
   refine ⟨?_,h2⟩
   unfold Hd at h1
   simpa using h1
  ·split at h<;>cases h
theorem MI (hn:4<=n/\n<=40):gI n X Y=2↔jK n X Y=false:=by
 unfold gI
 rw [ab (fun h=>h hn)]
 refine ⟨fun h=> ?_,fun h=>by rw [ag h]⟩
 split at h
 ·assumption
 ·split at h
  ·cases h
  ·split at h
   ·cases h
   ·split at h<;>cases h
theorem TO {i:Int} (h:dO n X Y i=true):X (ix n (i+1))=X (ix n i)+fb n X Y i*kX (dD n X Y i)/\Y (ix n (i+1))=Y (ix n i)+fb n X Y i*kW (dD n X Y i)/\0<fb n X Y i:=by
 unfold dO vZ at h
 rw [ah] at h
 unfold fb dD HX
 generalize X (ix n i)=a at*
 generalize Y (ix n i)=b at*
 generalize X (ix n (i+1))=c at*
 generalize Y (ix n (i+1))=e at*
 split
 ·simp only [show kX 0=1 from rfl,show kW 0=0 from rfl];omega
 ·split
  ·simp only [show kX 1=0 from rfl,show kW 1=1 from rfl];omega
  ·split
   ·simp only [show kX 2= -1 from rfl,show kW 2=0 from rfl];omega
   ·split
    ·simp only [show kX 3=0 from rfl,show kW 3= -1 from rfl];omega
    ·omega
end
def xk (g w c:Int) (has:Bool):Int:=if c>0 then (if has=true then g+w else g) else (if has=true then -g else -g - w)
def gv (n:Nat) (X Y:Nat->Int) (g w:Int) (i:Int) (a:Int):Int:=if gH n X Y i>0 then -g - a*w else g+(1 - a)*w
def iL (n:Nat) (X Y:Nat->Int) (g w:Int) (i:Int) (b:Int):Int:=if gH n X Y (i+1)>0 then fb n X Y i+g+(1 - b)*w else fb n X Y i - g - b*w
def ko (n:Nat) (X Y:Nat->Int) (g w:Int) (i:Int) (a b:Int):Int:=iL n X Y g w i b - gv n X Y g w i a
def xa (n:Nat) (X Y:Nat->Int) (i:Int) (al out:Int):Int:=X (ix n i)+al*kX (dD n X Y i)+out*kW (dD n X Y i)
def wZ (n:Nat) (X Y:Nat->Int) (i:Int) (al out:Int):Int:=Y (ix n i)+al*kW (dD n X Y i) - out*kX (dD n X Y i)
def oZ (n:Nat) (X Y:Nat->Int) (g w:Int) (i:Int) (a b:Int):Int:=min (xa n X Y i (gv n X Y g w i a) g) (xa n X Y i (iL n X Y g w i b) (g+w))
def oX (n:Nat) (X Y:Nat->Int) (g w:Int) (i:Int) (a b:Int):Int:=min (wZ n X Y i (gv n X Y g w i a) g) (wZ n X Y i (iL n X Y g w i b) (g+w))
def oY (n:Nat) (X Y:Nat->Int) (g w:Int) (i:Int) (a b:Int):Int:=max (xa n X Y i (gv n X Y g w i a) g) (xa n X Y i (iL n X Y g w i b) (g+w))
def oW (n:Nat) (X Y:Nat->Int) (g w:Int) (i:Int) (a b:Int):Int:=max (wZ n X Y i (gv n X Y g w i a) g) (wZ n X Y i (iL n X Y g w i b) (g+w))
def kG (dE L:Int):Int:=(dE/L+1)*L
section
variable {n:Nat} {X Y:Nat->Int} {g w:Int}
theorem zS (h:gI n X Y=0) {i:Nat} (hi:i<n):(gH n X Y i=1/\dD n X Y i=(dD n X Y ((i:Int) - 1)+1)%4)\/(gH n X Y i= -1/\dD n X Y ((i:Int) - 1)=(dD n X Y i+1)%4):=by
 have hf:=(wA h).2.2.1 i hi
 unfold iJ at hf
 simp only [an,ah] at hf
 have h1:=eP n X Y i
 have h2:=eP n X Y ((i:Int) - 1)
 unfold gH
 split
 ·rename_i e;exact .inl ⟨rfl,e⟩
 ·exact .inr ⟨rfl,by omega⟩
theorem LJ (h1: ∀i,i<n->0<L6 n X Y g (i:Nat)) (h2: ∀i,i<n->0<L6 n X Y (g+w) (i:Nat)) (hg:0<=g) (hw:0<w) {i:Nat} (hi:i<n):0<ko n X Y g w i 1 0:=by
 have a:=h1 i hi
 have b:=h2 i hi
 unfold L6 at a b
 unfold ko iL gv
 rcases sb (n:=n) (X:=X) (Y:=Y) (i:Int) with e1|e1<;>rcases sb (n:=n) (X:=X) (Y:=Y) ((i:Int)+1) with e2|e2<;>
 ·rw [e1,e2] at a b
  rw [e1,e2]
  simp only [show (1:Int)>0 from by decide,show ¬(-1:Int)>0 from by decide,ba,cE]
  omega
end
def Ua (n:Nat) (X Y:Nat->Int) (d:Int) (i j:Nat):Int:=if j=0 then fb n X Y i else if j=1 then fb n X Y i+d*gH n X Y i else L6 n X Y d i
def rRi:fx:= .res fun l=>dI ((aI l 0+3)%4)
def rLnW:fx:= .res fun l=>dI (fb (aN l) (aX l) (aY l) (aI l 1))
def rWi:fx:= .res fun l=>dB (decide (aI l 1<=aI l 0/\aI l 0<=aI l 2))
theorem VW {n:Nat} {X Y:Nat->Int} {d:Int}:Hd n X Y d 0=true:=bz fun i hi=>absurd hi (aG i)
theorem VV {n:Nat} {X Y:Nat->Int} {d:Int} {i:Nat} (h:Hd n X Y d i=true) (h1: ¬L6 n X Y d i<=0):Hd n X Y d (i+1)=true:=by
 unfold Hd at h ⊢
 rw [ah] at h ⊢
 intro j hj
 by_cases e:j=i
 ·rw [e];omega
 ·exact h j (by omega)
theorem VX {n:Nat} {X Y:Nat->Int} {d:Int} {i:Nat} (hi:i<n) (h1:L6 n X Y d i<=0):lE n X Y d=12:=by
 rw [lE,ag]
 unfold Hd
 rw [aj]
 intro h
 have:=h i hi
 omega
theorem Qs {n:Nat} {X Y:Nat->Int} {d:Int} (h:Hd n X Y d n=true) (hc:gI n (zo n X Y d) (zn n X Y d)=0):lE n X Y d=0:=by
 rw [lE,ab (by rw [h];simp),ag hc]
theorem VZ {n:Nat} {X Y:Nat->Int} {d:Int} (h:Hd n X Y d n=true) (hc:gI n (zo n X Y d) (zn n X Y d)=2):lE n X Y d=2:=by
 rw [lE,ab (by rw [h];simp),ab (by rw [hc];decide),ag hc]
theorem VY {n:Nat} {X Y:Nat->Int} {d:Int} (h:Hd n X Y d n=true) (hc: ¬gI n (zo n X Y d) (zn n X Y d)=0) (hc2: ¬gI n (zo n X Y d) (zn n X Y d)=2):lE n X Y d=12:=by
 rw [lE,ab (by rw [h];simp),ab hc,ab hc2]
theorem zw {n:Nat} {X Y:Nat->Int} (hn:0<n) (hX:kd n X) (hY:kd n Y) (i:Int):0<=fb n X Y i/\fb n X Y i<=4000000:=by
 unfold fb
 have a1:=hX _ (iV (n:=n) (i:=i) hn)
 have a2:=hX _ (iV (n:=n) (i:=i+1) hn)
 have a3:=hY _ (iV (n:=n) (i:=i) hn)
 have a4:=hY _ (iV (n:=n) (i:=i+1) hn)
 omega
theorem LA {d:Int} (x:Int) (hd:0<=d/\d<=1000000): -1000000<=d*kX ((x+3)%4)/\d*kX ((x+3)%4)<=1000000/\ -1000000<=d*kW ((x+3)%4)/\d*kW ((x+3)%4)<=1000000/\ -1<=kX ((x+3)%4)/\kX ((x+3)%4)<=1/\ -1<=kW ((x+3)%4)/\kW ((x+3)%4)<=1:=by
 obtain ⟨e1,e2⟩|⟨e1,e2⟩|⟨e1,e2⟩|⟨e1,e2⟩:=P1 (d:=(x+3)%4) (by omega)
 all_goals
  rw [e1,e2]
  omega
abbrev ofC (n:Nat) (X Y:Nat->Int) (d:Int):List (Nat->DV):=[fun k=>dI (zo n X Y d k),fun k=>dI (zn n X Y d k)]
noncomputable def Gi (d:Int):eA:={ dz:=[(1,[(2,.pos)])],loops:=[],dK:=[] }
theorem LL (d:Int) (h:0<=d/\d<4):dv prog 52 [dI d] (dI ((d+3)%4)):=by
 refine dm dJ (Gi d) (V:= .dk [dh (d+3),(0:Int)<=d+3/\(0:Int)<4] (.done [(d+3)%(4:Int)=(d+3)%(4:Int)])) (by kernel_rfl) ?_
 simp only [VT.holds,dC,Sq]
 unfold dh
 omega
noncomputable def FY (n:Nat) (X Y:Nat->Int) (d:Int):eA:={ dz:=[(1,[(1,G3)]),(11,[(2,rLnW)]),(15,[(2,Qf)]),(21,[(7,Qd),(8,rRi),(12,rMo),(16,Qd),(17,rRi),(21,rMo)]),(23,[(1,G3)])],loops:=[(0,{ ι:=Nat,keep:=[0,1,7,26],boxes:=[],ts:=fun _ i=>[(27,dI (i:Int))],rw:=fun _ i=>[(8,2,i,ofC n X Y d)],inv:=fun _ i=>i<=n/\Hd n X Y d i=true,mu:=fun _ i=>n - i,rd:=fun _ σ=>(ez (σ.get 27)).toNat }),(2,{ ι:=Nat,keep:=[0,1,7,26,27,9,36],boxes:=[],ts:=fun σ j=>[(37,dI (j:Int)),(10,dI (Ua n X Y d (ez (σ.get 9)).toNat j))],rw:=fun σ _=>[(8,2,(ez (σ.get 27)).toNat,ofC n X Y d)],inv:=fun _ j=>j<=2,mu:=fun _ j=>2 - j,rd:=fun _ σ=>(ez (σ.get 37)).toNat })],dK:=[] }
namespace w1k
noncomputable section
structure Z where
 n:Nat
 X:Nat->Int
 Y:Nat->Int
 d:Int
variable (z:Z) (i0 i1:Nat) (p:Prop) (P:List Prop) (a b:Int) (g:Bool) (U:VT) (kY:Nat->Int) (yR:List Int)
abbrev x0:Int:=(i0:Int)
abbrev x1:=Int.toNat (x0 i0)
abbrev x2:=dD z.n z.X z.Y a
abbrev x3:=List.getD yR (Int.toNat ((x2 z a+3)%4)) 0
abbrev x4:List Prop:=rf z.n::(∀i0<z.n,rf (z.X i0))::(∀i0<z.n,rf (z.Y i0))::rf a::P
abbrev x5:=Int.toNat (x0 i0+1)
abbrev x6:=Int.toNat ((i1:Int)+1)
abbrev x7:List Int:=[(0:Int),(1:Int),(0:Int),-(1:Int)]
abbrev x8:List Int:=[(1:Int),(0:Int),-(1:Int),(0:Int)]
abbrev x9:=(kY (x1 i0))+z.d*x3 z (x0 i0) yR
abbrev dM:=Int.toNat 0
abbrev dQ:=DV.val (Value.agg (Array.mk [Value.int IntKind.i64 a,Value.int IntKind.i64 b]))
abbrev dS:List Prop:=p::rf (0:Nat)::P
abbrev dT:=Ua z.n z.X z.Y z.d (x1 i0) i1
abbrev dU:=zo z.n z.X z.Y z.d i1
abbrev dY:=zn z.n z.X z.Y z.d i1
abbrev eb:=x4 z (x4 z P (z.n:Int)) z.d
abbrev eE:=DV.dt z.n [fun i0=>dI (z.X i0),fun i0=>dI (z.Y i0)]
abbrev eH:=List.getD [x0 i0,x0 i0+1] (Int.toNat (i1:Int)) 0
abbrev eT:=VT.ite g (VT.done [a=lE z.n z.X z.Y z.d]) U
abbrev eG:=decide (z.d<(0:Int))
abbrev eZ:=(x2 z (x0 i0)+3)%4
abbrev fi:=(x2 z (x0 i0 - 1)+3)%4
abbrev fR:List Prop:=rf (x0 i0)::rf (x0 i0)::rf (x0 i0)::rf (x0 i0+1)::P
abbrev fU:=gI i0 (zo z.n z.X z.Y z.d) (zn z.n z.X z.Y z.d)
abbrev fS:=dQ (x9 z i0 z.X x8) (x9 z i0 z.Y x7)
abbrev fz:=x9 z i0 z.X x8+z.d*x3 z (x0 i0 - 1) x8
abbrev gi:=x9 z i0 z.Y x7+z.d*x3 z (x0 i0 - 1) x7
abbrev iA:=decide ((x2 z (eH i0 i1))=((x2 z (eH i0 i1 - 1)+1)%4))
abbrev jw:=if (decide (i1<(x1 i0)))=true then a else b
abbrev iw:=VT.dk [dh a] (VT.dk [dh ((i1:Int)+1)] (VT.done (((i1:Int)+1=(↑(x6 i1):Int))::dS (b=Ua z.n z.X z.Y z.d (x1 i0) (x6 i1)) (rf (x1 i0)::eb z (fR i0 [rf (x1 i0),∀i1<x1 i0,rf (dU z i1),∀i1<x1 i0,rf (dY z i1),x6 i1<=2,2 - x6 i1<2 - i1])))))
abbrev xt:VT:=VT.dk [dv prog 48 [eE z] (dI (gI z.n z.X z.Y))] (eT z (gI z.n z.X z.Y) (gI z.n z.X z.Y !=0) (VT.dk [ri ((!(eG z))=true),eG z=false->(!(eG z))=true] (eT z (2:Int) (if (eG z)=true then true else (decide (z.d>(1000000:Int)))) (VT.loop Nat (fun i0=>i0<=z.n/\Hd z.n z.X z.Y z.d i0=true) dM (dS (0=(dM:Int)) ((dM=0)::eb z [dM=0])) (fun i0=>VT.ite (decide ((x0 i0)<(z.n:Int))) (VT.dk [dv prog 49 [eE z,dI (x0 i0)] (dI (fb z.n z.X z.Y (x0 i0)))] (VT.dk [dh (x0 i0+1)] (VT.loop Nat (fun i0=>i0<=2) dM ((0=(dM:Int))::dS (fb z.n z.X z.Y (x0 i0)=Ua z.n z.X z.Y z.d (x1 i0) dM) ((i0=x1 i0)::eb z (fR i0 [i0=x1 i0,∀i1<x1 i0,rf (dU z i1),∀i1<x1 i0,rf (dY z i1)]))) (fun i1=>VT.ite (decide ((i1:Int)<(2:Int))) (VT.dk [0<=(i1:Int)/\(i1:Int)<(↑(2:Nat):Int)] (VT.dk [dv prog 50 [eE z,dI (eH i0 i1)] (dB (iA z i0 i1))] (VT.ite (iA z i0 i1) (iw z i0 i1 (dT z i0 i1+z.d) (dT z i0 i1+z.d)) (iw z i0 i1 (dT z i0 i1 - z.d) (dT z i0 i1 - z.d))))) (eT z (12:Int) (decide ((dT z i0 i1)<=(0:Int))) (VT.dk [0<=x0 i0/\x0 i0<(z.n:Int),dv prog 53 [eE z,dI (x0 i0)] (dI (x2 z (x0 i0))),dv prog 52 [dI (x2 z (x0 i0))] (dI (eZ z i0)),0<=eZ z i0/\eZ z i0<(↑(4:Nat):Int),dv prog 51 [dQ (z.X (x1 i0)) (z.Y (x1 i0)),dQ (x3 z (x0 i0) x8) (x3 z (x0 i0) x7),dI z.d] (fS z i0),dh (x0 i0 - 1),dv prog 53 [eE z,dI (x0 i0 - 1)] (dI (x2 z (x0 i0 - 1))),dv prog 52 [dI (x2 z (x0 i0 - 1))] (dI (fi z i0)),0<=fi z i0/\fi z i0<(↑(4:Nat):Int),dv prog 51 [fS z i0,dQ (x3 z (x0 i0 - 1) x8) (x3 z (x0 i0 - 1) x7),dI z.d] (dQ (fz z i0) (gi z i0)),x1 i0<=x1 i0,(x1 i0+1)*((nat_lit 15)+1)<=140737488355328,(1:Nat)<=(1:Nat)] (VT.dk [dh (x0 i0+1)] (VT.done (dS (x0 i0+1=(↑(x5 i0):Int)) ((x1 i0+1=x5 i0)::eb z [x1 i0+1=x5 i0,∀i1<x5 i0,jw i0 i1 (dU z i1) (fz z i0)=dU z i1,∀i1<x5 i0,jw i0 i1 (dY z i1) (gi z i0)=dY z i1,x5 i0<=z.n/\Hd z.n z.X z.Y z.d (x5 i0)=true,z.n - x5 i0<z.n - i0])))))))))) (VT.dk [i0<=i0,dv prog 54 [DV.dt i0 [fun i0=>dI (zo z.n z.X z.Y z.d i0),fun i0=>dI (zn z.n z.X z.Y z.d i0)]] (dI (fU z i0))] (VT.ite (fU z i0==0) (VT.done [i0<=i0,0=lE z.n z.X z.Y z.d]) (eT z (2:Int) (fU z i0==2) (VT.done [12=lE z.n z.X z.Y z.d])))))))))
end
end w1k
open w1k in
theorem Hc (n:Nat) (X Y:Nat->Int) (d:Int) (h:gI n X Y=0) (hd:0<=d/\d<=1000000):dv prog 13 [my n X Y,dI d] (.fC [.any,dI (lE n X Y d)]):=by
 refine dm dJ (FY n X Y d) (V:=xt ⟨n,X,Y,d⟩) (by kernel_rfl) ?_
 simp only [xt,x0,x1,x2,x3,x4,x5,x6,x7,x8,x9,dM,dQ,dS,dT,dU,dY,eb,eE,eH,eT,eG,eZ,fi,fR,fU,fS,fz,gi,iA,jw,iw,Rf,VT.holds,dC,Sq]
 have hn:=fO h
 obtain ⟨hX,hY⟩:=eS h
 have m4: ∀x:Int,0<=(x+3)%4/\(x+3)%4<4:=fun x=>by omega
 simp only [gX (m4 _),gY (m4 _)]
 refine ⟨kU n X Y (by omega),fun h1=>absurd h h1,fun _=>⟨fun h1=>by omega,fun _=>⟨rfl,⟨aq _,VW⟩,fun i ⟨hi,hS⟩=>⟨fun dR=> ?_,fun iG=> ?_⟩⟩⟩⟩
 ·have hl:=zw (n:=n) (by omega) hX hY (i:Int)
  refine ⟨AT n X Y i (by omega) (by omega) (by omega) (by omega) hX hY,by unfold dh;omega,⟨rfl,rfl⟩,by omega,fun j hj=>⟨fun O8=> ?_,fun O8=> ?_⟩⟩
  ·obtain rfl|rfl:j=0\/j=1:=by omega
   ·have e:[(i:Int),(i:Int)+1].getD 0 0=i:=rfl
    have e0:Ua n X Y d i 0=fb n X Y i:=rfl
    have e1:Ua n X Y d i (0+1)=fb n X Y i+d*gH n X Y i:=rfl
    rw [e0,e1]
    refine ⟨by omega,ES n X Y i (by omega) (by omega) (by omega) (by omega),fun hc=> ?_,fun hc=> ?_⟩
    ·rw [show gH n X Y i=1 from ag hc]
     unfold dh;omega
    ·rw [show gH n X Y i= -1 from ab hc]
     unfold dh;omega
   ·have e:[(i:Int),(i:Int)+1].getD 1 0=(i:Int)+1:=rfl
    have e0:Ua n X Y d i 1=fb n X Y i+d*gH n X Y i:=rfl
    have e1:Ua n X Y d i (1+1)=fb n X Y i+d*gH n X Y i+d*gH n X Y ((i:Int)+1):=rfl
    rw [e0,e1]
    have hb: -1000000<=d*gH n X Y i/\d*gH n X Y i<=1000000:=by
     rcases sb (n:=n) (X:=X) (Y:=Y) (i:Int) with e1|e1<;>rw [e1]<;>omega
    refine ⟨by omega,ES n X Y (i+1) (by omega) (by omega) (by omega) (by omega),fun hc=> ?_,fun hc=> ?_⟩
    ·rw [show gH n X Y ((i:Int)+1)=1 from ag hc]
     unfold dh;omega
    ·rw [show gH n X Y ((i:Int)+1)= -1 from ab hc]
     unfold dh;omega
  ·obtain rfl:j=2:=by omega
   have e2:Ua n X Y d i 2=L6 n X Y d i:=rfl
   rw [e2]
   refine ⟨fun h1=>(VX (by omega) h1).symm,fun h1=> ?_⟩
   have b1:=LA (dD n X Y i) hd
   have b2:=LA (dD n X Y ((i:Int) - 1)) hd
   have r1:=eP n X Y i
   have r2:=eP n X Y ((i:Int) - 1)
   have x1:=hX i (by omega)
   have y1:=hY i (by omega)
   refine ⟨⟨by omega,Gy n X Y i (by omega) (by omega) (by omega) (by omega),LL _ (by omega),by omega,Ma _ _ _ _ _ (by unfold m3;omega) (by unfold m3;omega) (by unfold m3;omega) (by omega) (by omega),by unfold dh;omega,Gy n X Y (i - 1) (by omega) (by omega) (by omega) (by omega),LL _ (by omega),by omega,Ma _ _ _ _ _ (by unfold m3;omega) (by unfold m3;omega) (by unfold m3;omega) (by omega) (by omega),ae _,by omega,ae _⟩,by unfold dh;omega,rfl,eh (f:=zo n X Y d) rfl,eh (f:=zn n X Y d) rfl,⟨by omega,VV hS h1⟩,by omega⟩
 ·obtain rfl:i=n:=by omega
  exact ⟨⟨ae _,MK _ _ _ (by omega)⟩,fun h1=>⟨ae _,(Qs hS h1).symm⟩,fun h1=>⟨fun h2=>(VZ hS h2).symm,fun h2=>(VY hS h1 h2).symm⟩⟩
noncomputable def CT (n:Nat) (X Y:Nat->Int) (d:Int):eA:={ dz:=[(1,[(1,rWi)]),(3,[(1,vg),(3,VP)]),(8,[(17,.pos)]),(14,[(6,.pos),(11,.pos),(12,rSt)]),(15,[(6,.pos),(7,rSt)]),(20,[(5,yq),(13,yq)]),(22,[(1,G3)])],loops:=[(0,{ ι:=Nat,keep:=[0,1,6,7,8],boxes:=[],ts:=fun _ i=>[(9,dI (i:Int))],inv:=fun _ i=>i<=n/\Hd n X Y d i=true,mu:=fun _ i=>n - i,rd:=fun _ σ=>(ez (σ.get 9)).toNat }),(2,{ ι:=Nat,keep:=[0,1,6,7,8],boxes:=[],ts:=fun _ i=>[(11,dI (i:Int))],rw:=fun _ i=>[(10,2,i,ofC n X Y d)],inv:=fun _ i=>i<=n,mu:=fun _ i=>n - i,rd:=fun _ σ=>(ez (σ.get 11)).toNat }),(4,{ ι:=Nat,keep:=[0,1,6,7,8],boxes:=[],ts:=fun _ i=>[(16,dI (i:Int))],rw:=fun _ _=>[(10,2,n,ofC n X Y d)],inv:=fun _ i=>i<=n/\ ∀j,j<i->gN (zo n X Y d j)=true/\gN (zn n X Y d j)=true,mu:=fun _ i=>n - i,rd:=fun _ σ=>(ez (σ.get 16)).toNat })],dK:=[] }
namespace w1l
noncomputable section
structure Z where
 n:Nat
 X:Nat->Int
 Y:Nat->Int
 d:Int
variable (z:Z) (i0 i1:Nat) (p:Prop) (P:List Prop) (a b c:Int) (k:Nat) (g:Bool) (U V:VT) (pj:List (Nat->DV))
abbrev x0:=Int.toNat (i0:Int)
abbrev x1:=(i0:Int)+1
abbrev x2:=dD z.n z.X z.Y (k:Int)+3
abbrev x3:=zo z.n z.X z.Y z.d k
abbrev x4:=ml 0 (x0 i0)
abbrev x5:=(i0:Int)+(z.n:Int) - 1
abbrev x6:=Int.toNat (x1 i0)
abbrev x7:=ov z.n z.X z.Y k
abbrev x8:=Int.toNat (x5 z i0%(z.n:Int))
abbrev x9:= !(gN (x3 z (x4 i0)))
abbrev dM:List Prop:=p::rf z.n::(∀i0<z.n,rf (z.X i0))::(∀i0<z.n,rf (z.Y i0))::P
abbrev dQ:=0<=a/\b<(z.n:Int)
abbrev dS:=zn z.n z.X z.Y z.d k
abbrev dT:=Int.toNat 0
abbrev dU:=dQ z (i0:Int) (i0:Int)
abbrev dY:=rf (z.n:Int)
abbrev eb:=ri ((!(x9 z i0))=true)
abbrev eE:=dM z p (dM z (rf z.d) ((∀i0<z.n,rf (z.X (ix z.n (x1 i0))))::(∀i0<z.n,rf (z.Y (ix z.n (x1 i0))))::(∀i0<z.n,rf (fb z.n z.X z.Y (i0:Int)))::(∀i0<z.n,rf (dD z.n z.X z.Y (i0:Int)))::rf z.n::(∀i0<z.n,rf (x7 z i0))::P))
abbrev eH:=VT.ite g (VT.done [a=lE z.n z.X z.Y z.d]) U
abbrev eT:=kX (x2 z (x8 z i0)%4)+kX (x2 z (x0 i0)%4)
abbrev eG:=kW (x2 z (x8 z i0)%4)+kW (x2 z (x0 i0)%4)
abbrev eZ:=fb z.n z.X z.Y (↑(x0 i0):Int)+z.d*x7 z (x0 i0)
abbrev fi:=VT.dk [dh (x1 i0)] (VT.done P)
abbrev fR:=VT.ite (decide ((i0:Int)<(z.n:Int))) U V
abbrev fU:=z.n - x6 i0<z.n - i0
abbrev fS:=0<=a/\(0:Int)<(4:Int)
abbrev fz:=eZ z i0+z.d*x7 z (Int.toNat (x1 i0%(z.n:Int)))
abbrev gi:=dv prog 137 [dI a] (DV.fC [dI b,dI c])
abbrev iA:=i1<x6 i0->(if (decide (i1<i0))=true then a else b)=c
abbrev jw:=fi i0 ((x1 i0=(↑(x6 i0):Int))::rf (0:Nat)::eE z p P)
abbrev iw:=decide ((0<=z.d)/\(z.d<=1000000))
abbrev jk:=gN (x3 z i1)=true/\gN (dS z i1)=true
abbrev jj:=dv prog k [DV.dt z.n [fun i0=>dI (z.X i0),fun i0=>dI (z.Y i0)]] (DV.dt z.n pj)
abbrev gQ:=gI z.n (zo z.n z.X z.Y z.d) (zn z.n z.X z.Y z.d)
abbrev xt:VT:=VT.dk [dv prog 82 [dI z.d,dI 0,dI 1000000] (dB (iw z))] (eH z (2:Int) (!(iw z)) (VT.dk [jj z (131:Nat) [fun i0=>dI (z.X i0),fun i0=>dI (z.Y i0),fun i0=>dI (z.X (ix z.n (x1 i0))),fun i0=>dI (z.Y (ix z.n (x1 i0))),fun i0=>dI (fb z.n z.X z.Y (i0:Int)),fun i0=>dI (dD z.n z.X z.Y (i0:Int))],jj z (136:Nat) [fun i0=>dI (x7 z i0)]] (VT.loop Nat (fun i0=>i0<=z.n/\Hd z.n z.X z.Y z.d i0=true) dT (eE z (0=(dT:Int)) [dY z]) (fun i0=>fR z i0 (VT.dk [dU z i0,dU z i0,dh (z.d*x7 z (x0 i0)),dh (eZ z i0),dh (x1 i0),dQ z (x1 i0) (0:Int),dQ z (x1 i0%(z.n:Int)) (x1 i0%(z.n:Int)),dh (z.d*x7 z (Int.toNat (x1 i0%(z.n:Int)))),dh (fz z i0)] (eH z (12:Int) (decide ((fz z i0)<=(0:Int))) (fi i0 (eE z (x1 i0=(↑(x6 i0):Int)) [dY z,x6 i0<=z.n/\Hd z.n z.X z.Y z.d (x6 i0)=true,fU z i0])))) (VT.loop Nat (fun i0=>i0<=z.n) dT ((0=(dT:Int))::rf (0:Nat)::eE z (dT=0) [dY z,dT=0]) (fun i0=>fR z i0 (VT.dk [dh ((i0:Int)+(z.n:Int)),dh (x5 z i0),dQ z (x5 z i0) (0:Int),dQ z (x5 z i0%(z.n:Int)) (x5 z i0%(z.n:Int)),dh (x2 z (x8 z i0)),fS (x2 z (x8 z i0)),gi (x2 z (x8 z i0)%4) (kX (x2 z (x8 z i0)%4)) (kW (x2 z (x8 z i0)%4))] (VT.dk [dU z i0,dh (x2 z (x0 i0)),fS (x2 z (x0 i0)),gi (x2 z (x0 i0)%4) (kX (x2 z (x0 i0)%4)) (kW (x2 z (x0 i0)%4))] (VT.dk [dU z i0,dh (eT z i0),dh (z.d*eT z i0),dh ((z.X (x0 i0))+z.d*eT z i0),dU z i0,dh (eG z i0),dh (z.d*eG z i0),dh ((z.Y (x0 i0))+z.d*eG z i0),i0<=i0,(i0+1)*((nat_lit 15)+1)<=140737488355328,(1:Nat)<=(1:Nat)] (jw z i0 (i0+1=x6 i0) [dY z,i0+1=x6 i0,∀(i1:Nat),iA i0 i1 (x3 z i1) ((z.X (x0 i0))+z.d*eT z i0) (x3 z i1),∀(i1:Nat),iA i0 i1 (dS z i1) ((z.Y (x0 i0))+z.d*eG z i0) (dS z i1),x6 i0<=z.n,fU z i0])))) (VT.loop Nat (fun i0=>i0<=z.n/\(∀i1<i0,jk z i1)) dT ((0=(dT:Int))::rf (0:Nat)::eE z (i0=z.n) [dY z,i0=z.n,∀i0<z.n,rf (x3 z i0),∀i0<z.n,rf (dS z i0)]) (fun i0=>fR z i0 (VT.dk [dU z i0,x4 i0<z.n,dv prog 124 [dI (x3 z (x4 i0))] (dB (gN (x3 z (x4 i0)))),eb z i0,eb z i0,(!(x9 z i0))=true->dU z i0,eb z i0,eb z i0,(!(x9 z i0))=true->x4 i0<z.n,eb z i0,(!(x9 z i0))=true->dv prog 124 [dI (dS z (x4 i0))] (dB (gN (dS z (x4 i0)))),eb z i0,x9 z i0=false->(!(x9 z i0))=true] (eH z (2:Int) (if (x9 z i0)=true then true else (!(gN (dS z (x4 i0))))) (jw z i0 (rf z.n) [dY z,rf z.n,∀i0<z.n,rf (x3 z i0),∀i0<z.n,rf (dS z i0),x6 i0<=z.n/\(∀i1<x6 i0,jk z i1),fU z i0]))) (VT.dk [z.n<=z.n,dv prog 83 [DV.dt z.n [fun i0=>dI (x3 z i0),fun i0=>dI (dS z i0)]] (dI (gQ z))] (eH z (12:Int) (gQ z !=0) (VT.done [z.n<=z.n,0=lE z.n z.X z.Y z.d])))))))))))
end
end w1l
open w1l in
theorem DP (n:Nat) (X Y:Nat->Int) (d:Int) (h:gI n X Y=0) (hd:0<=d/\d<=1000000):dv prog 89 [my n X Y,dI d] (.fC [.any,dI (lE n X Y d)]):=by
 refine dm dJ (CT n X Y d) (V:=xt ⟨n,X,Y,d⟩) (by kernel_rfl) ?_
 simp only [xt,x0,x1,x2,x3,x4,x5,x6,x7,x8,x9,dM,dQ,dS,dT,dU,dY,eb,eE,eH,eT,eG,eZ,fi,fR,fU,fS,fz,gi,iA,jw,iw,jk,jj,gQ,Rf,VT.holds,dC,Sq]
 have hn:=fO h
 obtain ⟨hX,hY⟩:=eS h
 have cI: ∀i:Nat,ov n X Y i=gH n X Y i:=fun i=>rfl
 have cN: ∀i:Nat,ov n X Y (((i:Int)+1)%(n:Int)).toNat=gH n X Y ((i:Int)+1):=fun i=>Bx (by omega) _
 have dP: ∀i:Nat,dD n X Y (((((i:Int)+n - 1)%(n:Int)).toNat:Nat):Int)=dD n X Y ((i:Int) - 1):=fun i=>by
  rw [U4 (by omega)]
  exact Bv (by omega) (by rw [show (i:Int)+n - 1 - (i - 1)=n by omega,Int.emod_self])
 have aZ: ∀i:Nat,ml 0 i=i:=fun i=>by simp [ml]
 simp only [cN,dP,aZ]
 have oL: ∀i:Nat,fb n X Y i+d*gH n X Y i+d*gH n X Y ((i:Int)+1)=L6 n X Y d i:=fun i=>rfl
 simp only [cI,oL]
 refine ⟨iB _ _ _,fun h1=>by omega,fun _=>⟨⟨q8 n X Y h,Bw n X Y h⟩,rfl,⟨aq _,VW⟩,fun i ⟨hi,hS⟩=>⟨fun dR=> ?_,fun iG=> ?_⟩⟩⟩
 ·have hl:=zw (n:=n) (by omega) hX hY (i:Int)
  have hb: -1000000<=d*gH n X Y i/\d*gH n X Y i<=1000000:=by
   rcases sb (n:=n) (X:=X) (Y:=Y) (i:Int) with e1|e1<;>rw [e1]<;>omega
  have gJ: -1000000<=d*gH n X Y ((i:Int)+1)/\d*gH n X Y ((i:Int)+1)<=1000000:=by
   rcases sb (n:=n) (X:=X) (Y:=Y) ((i:Int)+1) with e1|e1<;>rw [e1]<;>omega
  have he:=bm ((i:Int)+1) (show (n:Int)≠0 by omega)
  have he2:=br ((i:Int)+1) (show (0:Int)<n by omega)
  exact ⟨⟨by omega,by omega,by unfold dh;omega,by unfold dh;omega,by unfold dh;omega,by omega,⟨he,he2⟩,by unfold dh;omega,by unfold dh L6;omega⟩,fun h1=>(VX (by omega) h1).symm,fun h1=>⟨by unfold dh;omega,rfl,⟨by omega,VV hS h1⟩,by omega⟩⟩
 ·obtain rfl:i=n:=by omega
  refine ⟨rfl,aq _,fun k hk=>⟨fun dR=> ?_,fun NX=> ?_⟩⟩
  ·have b1:=LA (dD i X Y k) hd
   have b2:=LA (dD i X Y ((k:Int) - 1)) hd
   have r1:=eP i X Y k
   have r2:=eP i X Y ((k:Int) - 1)
   have x1:=hX k (by omega)
   have y1:=hY k (by omega)
   have he:=bm ((k:Int)+i - 1) (show (i:Int)≠0 by omega)
   have he2:=br ((k:Int)+i - 1) (show (0:Int)<i by omega)
   have eX:X k+d*(kX ((dD i X Y ((k:Int) - 1)+3)%4)+kX ((dD i X Y k+3)%4))=zo i X Y d k:=by
    rw [Int.mul_add,zo];omega
   have eY:Y k+d*(kW ((dD i X Y ((k:Int) - 1)+3)%4)+kW ((dD i X Y k+3)%4))=zn i X Y d k:=by
    rw [Int.mul_add,zn];omega
   rw [eX,eY]
   refine ⟨⟨by unfold dh;omega,by unfold dh;omega,by omega,⟨he,he2⟩,by unfold dh;omega,by omega,ED _ (by omega)⟩,⟨by omega,by unfold dh;omega,by omega,ED _ (by omega)⟩,⟨by omega,by unfold dh;omega,by rw [Int.mul_add];unfold dh;omega,by unfold dh zo;omega,by omega,by unfold dh;omega,by rw [Int.mul_add];unfold dh;omega,by unfold dh zn;omega,ae _,by omega,ae _⟩,by unfold dh;omega,rfl,eh (f:=zo i X Y d) rfl,eh (f:=zn i X Y d) rfl,by omega,by omega⟩
  ·obtain rfl:k=i:=by omega
   refine ⟨⟨rfl,rfl,rfl⟩,⟨aq _,fun j hj=>absurd hj (aG j)⟩,fun q ⟨hq,hb⟩=>⟨fun dR=> ?_,fun hge3=> ?_⟩⟩
   ·refine ⟨⟨by omega,by omega,Cn _,fun _=>by omega,fun _=>by omega,fun _=>Cn _⟩,fun h1=> ?_,fun h1=>⟨by unfold dh;omega,rfl,⟨by omega,fun j hj=> ?_⟩,by omega⟩⟩
    ·refine (VZ hS ((MI hn).2 ?_)).symm
     rw [<-Bool.not_eq_true]
     intro hx
     obtain ⟨a1,a2⟩:=sR hx
     have a3:=a1 q (by omega)
     have a4:=a2 q (by omega)
     unfold gN at h1
     rw [aj,aj] at h1
     omega
    ·by_cases e:j=q
     ·rw [e];exact ⟨by simpa using h1.1,h1.2⟩
     ·exact hb j (by omega)
   ·obtain rfl:q=k:=by omega
    refine ⟨⟨ae _,Ib _ _ _ (by omega)⟩,fun h1=>(VY hS h1 fun h2=> ?_).symm,fun h1=>⟨ae _,(Qs hS h1).symm⟩⟩
    have h3:=(MI hn).1 h2
    simp only [jK,aj] at h3
    refine h3 fun j hj=> ?_
    have:=hb j hj
    simp [pF,this.1,this.2]
end Go.Abs
end
section
set_option maxRecDepth 100000
namespace Go.Abs.Lay
open Go Go.RowKit
attribute [local go_sem] Oper.semAt_some
abbrev nums (n:Nat) (A:Nat->Int):DV:= .dt n [fun i=> .val (.int .i64 (A i))]
theorem A2 {w:World} {g:Nat} (h:jZ w g):g<w.heap.size:=by obtain ⟨o,h,_⟩:=h;exact ef h
theorem o7 {w w':World} {N0:Nat} (hb: ∀k,k<w.heap.size->w'.heap[k]? =w.heap[k]?) (a:Addr) (u:Value) (h:iN w N0 a u):iN w' N0 a u:=
 ⟨tN (hb a.block (gD h.1)) h.1,fun ⟨o,e,h3⟩=>h.2 ⟨o,by rw [<-hb a.block (gD h.1)];exact e,h3⟩⟩
theorem ve {w:World} {N0:Nat} (a:Addr) (u:Value) (h:iN w N0 a u):iN w w.heap.size a u:=⟨h.1,A2⟩
theorem lZ {w:World} {N0 n:Nat} {A:Nat->Int} {v:Value} (h:dA (iN w N0) (.dV [nums n A]) v):
 ∃a s c,v= .pointer (some a)/\w.cell? a=some (.slice s n c)/\n<=c/\ ∀k,k<n-> ∃b,s=some b/\w.cell? (b.add k)=some (.int .i64 (A k)):=by
 cases h with
 |dV U ha jh h=>
  rename_i a
  have h0:=h 0 _ rfl
  have a0:=o6 (ha 0 _ rfl).1 (jh 0 _ rfl)
  rw [Addr.add,ag rfl] at a0
  generalize e:U 0=u at h0 a0
  cases h0 with
  |dt V hc hb hn ho hr=>
   rename_i s c
   refine ⟨a,s,c,rfl,a0,hc,fun k hk=> ?_⟩
   obtain ⟨b,pw,gJ⟩:=hb k 0 _ hk rfl
   have gJ:=o6 gJ.1 (ho k 0 _ hk rfl)
   refine ⟨b,pw,?_⟩
   have hv:=hr k 0 _ hk rfl
   generalize e2:V k 0=x at gJ hv
   cases hv
   simpa using gJ
set_option maxHeartbeats 2000000 in
theorem Vr (N0 n:Nat) (hn:n<=1000000) (A:Nat->Int) (m l:Nat) (lb:Array Value) (J Jx:List { x:Nat//x<n }->World->Prop) (W:World)
 (wX:lb.size=1) (hr: ∀(j:Nat) (d:DV) (v:Value),[DV.dV [nums n A]][j]? =some d->lb[j]? =some v->dA (iN W N0) d v)
 (hY: ∀pre x W1,J pre W1->pre.length<n->YieldAt Fence.wide (m - 1) prog l #[.int .i64 ((n:Int) - 1 - (x.1:Nat)),.int .i64 (A (n - 1 - x.1))] W1 fun e W'=>
   (e= .returned (.bool true)/\J (pre++[x]) W'/\KpC [.dV [nums n A]] lb N0 W1 W')\/(e= .returned (.bool false)/\Jx (pre++[x]) W'))
 (h0:J [] W):
 CallsIn Fence.wide m prog 177 (#[.func (.yield l) #[] #[]]++lb) W fun e W'=>(∃v,e= .returned v)/\((∃xs,xs.map (·.1)=List.range n/\J xs W')\/(∃pre,True/\Jx pre W')):=by
 obtain ⟨v0,rfl⟩: ∃v0,lb= #[v0]:=by
  match lb,wX with
  |⟨[v0]⟩,_=>exact ⟨v0,rfl⟩
 obtain ⟨a,s0,c0,rfl,Ff,NV,rU⟩:=lZ (hr 0 _ _ rfl rfl)
 refine callsIn_of_wp Go.Proofs.Tryz.func177 rfl trivial ?_ rfl
 simp only [Go.Proofs.Tryz.ntmps177,bZ,aH,b7,Nat.reduceAdd,Nat.reduceSub,Array.replicate_succ,Array.replicate_zero,List.push_toArray,List.append_toArray,cO,aT]
 gi_wp2
 gi_loopw [3] (fun i wr=> ∃(k:Nat) (pre:List { x:Nat//x<n }),k<=n/\pre.map (·.1)=List.range k/\i= .int .i64 ((n:Int) - 1 - (k:Nat))/\J pre wr/\KpC [.dV [nums n A]] #[.pointer (some a)] N0 W wr)
  (fun i _=>(intOf i+1).toNat)
 case atStart=>exact ⟨0,[],aq _,rfl,by simp,h0,⟨fun j d v hj hv h=>h,fun h=>h⟩⟩
 case round=>
  obtain ⟨k,pre,hk,jq,rfl,hJ,hK⟩:=hrel
  by_cases dR:k<n
  ·have hlen:pre.length=k:=by
    have:=de List.length jq
    simpa using this
   obtain ⟨a',s,c,ea,hc,hle,fe⟩:=lZ (hK.1 0 _ _ rfl rfl (hr 0 _ _ rfl rfl))
   cases ea
   obtain ⟨b,rfl,hb⟩:=fe (n - 1 - k) (by omega)
   obtain ⟨fn,tmps,assign,body,hy,hR⟩:=hY pre ⟨k,dR⟩ wr hJ (by omega)
   dsimp only at hy hR
   rw [show (n:Int) - 1 - (k:Nat)=((n - 1 - k:Nat):Int) by omega] at hy ⊢
   generalize hq:n - 1 - k=q at hb hy ⊢
   gi_wp2
   refine ⟨fun h=>absurd h (by decide),hR.mono ?_⟩
   rintro e W3 (⟨rfl,hJ3,Gm⟩|⟨rfl,ZM⟩)
   ·gi_wp2
    go_roundw
    case rel=>exact ⟨k+1,pre++[⟨k,dR⟩],by omega,by simp [jq,List.range_succ],by first|(congr 1;omega)|(simp;done)|(simp;omega),hJ3,⟨fun j d v hj hv h=>Gm.1 j d v hj hv (hK.1 j d v hj hv h),fun h=>Gm.2 (hK.2 h)⟩⟩
    case measure=>simp [intOf]
   ·gi_wp2
    refine bodyPost_ret (results_none rfl _ _ _) rfl ?_
    exact ⟨⟨_,rfl⟩,.inr ⟨_,trivial,ZM⟩⟩
  ·obtain rfl:k=n:=by omega
   gi_wp2
   go_end0
   exact ⟨⟨_,rfl⟩,.inl ⟨pre,jq,hJ⟩⟩
theorem Iv (n:Nat) (A:Nat->Int) (hn:n<=1000000):FN prog 177 [.dV [nums n A]] n fun k=>[.int .i64 ((n:Int) - 1 - (k:Nat)),.int .i64 (A (n - 1 - k))]:=by
 refine ⟨?_,fun m lb w wX hr hg l J Jx W hW hab _ hY h0=> ?_⟩
 ·exact ⟨_,Go.Proofs.Tryz.func177,rfl,by kernel_rfl⟩
 ·have hrW: ∀(j:Nat) (d:DV) (v:Value),[DV.dV [nums n A]][j]? =some d->lb[j]? =some v->dA (iN W w.heap.size) d v:=fun j d v hj hv=>
   (hr j d v hj hv).mono (o7 fun k hk=>hW.block k hk) (fun _ h=>h) fun _ _ h=>h.elim
  exact Vr w.heap.size n hn A m l lb J Jx W wX hrW hY h0
end Go.Abs.Lay
end
section
set_option maxRecDepth 100000
namespace Go.Abs.Lay
open Go
abbrev dP (x y:Int):DV:= .val (.agg #[.int .i64 x,.int .i64 y])
abbrev aN (l:List DV):Nat:=lenOf (arg l 0)
abbrev aX (l:List DV):Nat->Int:=ic 0 (arg l 0)
abbrev aI (l:List DV) (j:Nat):Int:=ez (arg l j)
theorem gj (i:Nat):Int.toNat ((i:Int)+1)=i+1:=by omega
theorem il (i:Nat):Int.toNat ((i:Int)+2)=i+2:=by omega
theorem fN:Int.toNat (0:Int)=0:=rfl
def jf (p:Nat->Bool) (n:Nat) (r:Int):Prop:=(r= -1/\ ∀j,j<n->p j=false)\/ ∃i:Nat,i<n/\r=i/\p i=true/\ ∀j,j<i->p j=false
theorem iF (p:Nat->Bool) (n:Nat): ∃r,jf p n r:=by
 induction n with
 |zero=>exact ⟨-1,.inl ⟨rfl,fun j h=>by omega⟩⟩
 |succ n ih=>
  obtain ⟨r,⟨h1,h2⟩|⟨i,h1,h2,h3,h4⟩⟩:=ih
  ·cases hp:p n with
   |true=>exact ⟨n,.inr ⟨n,by omega,rfl,hp,h2⟩⟩
   |false=>
    refine ⟨-1,.inl ⟨rfl,fun j h=> ?_⟩⟩
    by_cases e:j=n
    ·rw [e];exact hp
    ·exact h2 j (by omega)
  ·exact ⟨r,.inr ⟨i,by omega,h2,h3,h4⟩⟩
def gw (p:Nat->Bool) (n:Nat):Bool:= !decide (∀k,k<n->p k=false)
theorem xJ {p:Nat->Bool} {n:Nat} {r:Int} (h:jf p n r):decide (r>=0)=gw p n:=by
 unfold gw
 rcases h with ⟨h1,h2⟩|⟨i,h1,h2,h3,h4⟩
 ·rw [bz h2,h1];rfl
 ·have hf: ¬ ∀k,k<n->p k=false:=fun h=>by rw [h i h1] at h3;cases h3
  rw [bI hf,h2];simp
def nI (x lo hi:Int):Bool:=decide (lo<=x/\x<=hi)
def yq:fx:= .res fun l=>dB (nI (aI l 0) (aI l 1) (aI l 2))
def xT (x:Int):Bool:= !nI x 1 10000
theorem uo {p:Nat->Bool} {n i:Nat} {r:Int} (h:jf p n r) (hi:i<n) (hb: ∀j,j<i->p j=false) (hp:p i=true):r=i:=by
 rcases h with ⟨h1,h2⟩|⟨k,h1,h2,h3,h4⟩
 ·rw [h2 i hi] at hp;cases hp
 ·rcases Nat.lt_trichotomy i k with hk|hk|hk
  ·rw [h4 i hk] at hp;cases hp
  ·rw [h2,hk]
  ·rw [hb k hk] at h3;cases h3
theorem uq {p:Nat->Bool} {n:Nat} {r:Int} (h:jf p n r) (hb: ∀j,j<n->p j=false):r= -1:=by
 rcases h with ⟨h1,h2⟩|⟨k,h1,h2,h3,h4⟩
 ·exact h1
 ·rw [hb k h1] at h3;cases h3
noncomputable def Dm (n lo hi:Int):eA:={ dz:=[],loops:=[],dK:=[] }
theorem iB (n lo hi:Int) :dv prog 101 [dI n,dI lo,dI hi] (dB (nI n lo hi)):=by
 refine dm dJ (Dm n lo hi) (V:= .dk [ri (decide (n>=lo)=true),ri (decide (n>=lo)=true),ri (decide (n>=lo)=true)] (.done [(if decide (n>=lo)=true then decide (n<=hi) else false)=nI n lo hi])) (by kernel_rfl) ?_
 simp only [VT.holds,dC,Sq]
 simp [nI]
noncomputable def CU (n lo hi:Int):eA:={ dz:=[],loops:=[],dK:=[] }
theorem oS (n lo hi:Int) :dv prog 82 [dI n,dI lo,dI hi] (dB (nI n lo hi)):=by
 refine dm dJ (CU n lo hi) (V:= .dk [ri (decide (n>=lo)=true),ri (decide (n>=lo)=true),ri (decide (n>=lo)=true)] (.done [(if decide (n>=lo)=true then decide (n<=hi) else false)=nI n lo hi])) (by kernel_rfl) ?_
 simp only [VT.holds,dC,Sq]
 simp [nI]
noncomputable def Lb (n:Int):eA:={ dz:=[(1,[(1,yq)])],loops:=[],dK:=[] }
theorem Sp (n:Int) :dv prog 176 [dI n] (dB (xT n)):=by
 refine dm dJ (Lb n) (V:= .dk [dv prog 101 [(dI n),(dI (1:Int)),(dI (10000:Int))] ((dB (nI n (1:Int) (10000:Int))))] (.done [(!nI n (1:Int) (10000:Int))=xT n])) (by kernel_rfl) ?_
 simp only [VT.holds,dC,Sq]
 exact ⟨iB _ _ _,rfl⟩
noncomputable def Gg (g:Nat) (p:Int->Bool) (n:Nat) (A:Nat->Int) (r:Int):eA:={ dz:=[(4,[(5,.res fun l=>dB (p (aI l 0)))])],loops:=[(0,{ ι:=Nat,keep:=[0,1,7],boxes:=[],ts:=fun _ i=>[(8,dI (i:Int))],inv:=fun _ i=>i<=n/\ ∀j,j<i->p (A j)=false,mu:=fun _ i=>n - i,rd:=fun _ σ=>(ez (σ.get 8)).toNat })],dK:=[] }
theorem E9 (g:Nat) (p:Int->Bool) (n:Nat) (A:Nat->Int) (r:Int) (jO:n<=1000000) (hg: ∀x,dv prog g [dI x] (dB (p x))) (h:jf (fun k=>p (A k)) n r):dv prog 143 [nums n A,.val (.func (.func g) #[] #[])] (dI r):=by
 refine dm dJ (Gg g p n A r) (V:= .loop Nat (fun a=>a<=n/\ ∀(j:Nat),j<a->p (A j)=false) (0:Int).toNat [(0:Int)=(↑(0:Int).toNat:Int),n=n,∀i<n,A i=A i,Value.func (Fn.func g) (Array.mk []) (Array.mk [])=Value.func (Fn.func g) (Array.mk []) (Array.mk []),(n:Int)=(n:Int)] fun i=> .ite (decide ((i:Int)<(n:Int))) (.dk [(0:Int)<=(i:Int)/\(i:Int)<(n:Int),dv prog g [(dI (A (i:Int).toNat))] ((dB (p (A (i:Int).toNat))))] (.ite (p (A (i:Int).toNat)) (.done [(i:Int)=r]) (.dk [dh ((i:Int)+1)] (.done [(i:Int)+1=(↑((i:Int)+1).toNat:Int),n=n,∀i<n,A i=A i,Value.func (Fn.func g) (Array.mk []) (Array.mk [])=Value.func (Fn.func g) (Array.mk []) (Array.mk []),(n:Int)=(n:Int),Int.toNat ((i:Int)+1)<=n/\ ∀(j:Nat),j<((i:Int)+1).toNat->p (A j)=false,n - ((i:Int)+1).toNat<n - i])))) (.done [(-1:Int)=r])) (by kernel_rfl) ?_
 simp only [VT.holds,dC,Sq]
 refine ⟨rfl,⟨aq n,fun j hj=>by omega⟩,fun i ⟨hi,hb⟩=>⟨fun dR=>⟨⟨by omega,hg _⟩,fun s5=>(uo h (by omega) hb s5).symm,fun ke=>⟨by unfold dh;omega,rfl,⟨by omega,fun j hj=> ?_⟩,by omega⟩⟩,fun iG=>(uq h fun j hj=>hb j (by omega)).symm⟩⟩
 by_cases e:j=i
 ·rw [e];exact ke
 ·exact hb j (by omega)
noncomputable def Dg (p:Int->Bool) (n:Nat) (A:Nat->Int) (m:Nat) (O:Nat->Int) (r:Int):eA:={ dz:=[(4,[(5,.res fun l=>dB (p (aI l 0)))])],loops:=[(0,{ ι:=Nat,keep:=[0,1,7],boxes:=[],ts:=fun _ i=>[(8,dI (i:Int))],inv:=fun _ i=>i<=n/\ ∀j,j<i->p (A j)=false,mu:=fun _ i=>n - i,rd:=fun _ σ=>(ez (σ.get 8)).toNat })],dK:=[] }
theorem QY (p:Int->Bool) (n:Nat) (A:Nat->Int) (m:Nat) (O:Nat->Int) (r:Int) (jO:n<=1000000) (hg: ∀x,dv prog 170 [dI x,.dV [nums m O]] (dB (p x))) (h:jf (fun k=>p (A k)) n r):dv prog 143 [nums n A,.jt 170 [.dV [nums m O]]] (dI r):=by
 refine dm dJ (Dg p n A m O r) (V:= .loop Nat (fun a=>a<=n/\ ∀(j:Nat),j<a->p (A j)=false) (0:Int).toNat [(0:Int)=(↑(0:Int).toNat:Int),n=n,∀i<n,A i=A i,m=m,∀i<m,O i=O i,(n:Int)=(n:Int)] fun i=> .ite (decide ((i:Int)<(n:Int))) (.dk [(0:Int)<=(i:Int)/\(i:Int)<(n:Int),dv prog (170:FuncId) [(dI (A (i:Int).toNat)),.dV [.dt m [fun i=>(dI (O i))]]] ((dB (p (A (i:Int).toNat))))] (.ite (p (A (i:Int).toNat)) (.done [(i:Int)=r]) (.dk [dh ((i:Int)+1)] (.done [(i:Int)+1=(↑((i:Int)+1).toNat:Int),n=n,∀i<n,A i=A i,m=m,∀i<m,O i=O i,(n:Int)=(n:Int),Int.toNat ((i:Int)+1)<=n/\ ∀(j:Nat),j<((i:Int)+1).toNat->p (A j)=false,n - ((i:Int)+1).toNat<n - i])))) (.done [(-1:Int)=r])) (by kernel_rfl) ?_
 simp only [VT.holds,dC,Sq]
 refine ⟨rfl,⟨aq n,fun j hj=>by omega⟩,fun i ⟨hi,hb⟩=>⟨fun dR=>⟨⟨by omega,hg _⟩,fun s5=>(uo h (by omega) hb s5).symm,fun ke=>⟨by unfold dh;omega,rfl,⟨by omega,fun j hj=> ?_⟩,by omega⟩⟩,fun iG=>(uq h fun j hj=>hb j (by omega)).symm⟩⟩
 by_cases e:j=i
 ·rw [e];exact ke
 ·exact hb j (by omega)
noncomputable def BP (g:Nat) (p:Int->Bool) (n:Nat) (A:Nat->Int) (r:Int):eA:={ dz:=[(1,[(2,.res fun _=>dI r)])],loops:=[],dK:=[] }
theorem qE (g:Nat) (p:Int->Bool) (n:Nat) (A:Nat->Int) (r:Int) (jO:n<=1000000) (hg: ∀x,dv prog g [dI x] (dB (p x))) (h:jf (fun k=>p (A k)) n r):dv prog 99 [nums n A,.val (.func (.func g) #[] #[])] (dB (gw (fun k=>p (A k)) n)):=by
 refine dm dJ (BP g p n A r) (V:= .dk [dv prog 143 [.dt n [fun i=>(dI (A i))],.val (Value.func (Fn.func g) (Array.mk []) (Array.mk []))] ((dI r))] (.done [decide (r>=0)=gw (fun k=>p (A k)) n])) (by kernel_rfl) ?_
 simp only [VT.holds,dC,Sq]
 exact ⟨E9 g p n A r jO hg h,xJ h⟩
noncomputable def za (p:Int->Bool) (n:Nat) (A:Nat->Int) (m:Nat) (O:Nat->Int) (r:Int):eA:={ dz:=[(1,[(2,.res fun _=>dI r)])],loops:=[],dK:=[] }
theorem H4 (p:Int->Bool) (n:Nat) (A:Nat->Int) (m:Nat) (O:Nat->Int) (r:Int) (jO:n<=1000000) (hg: ∀x,dv prog 170 [dI x,.dV [nums m O]] (dB (p x))) (h:jf (fun k=>p (A k)) n r):dv prog 99 [nums n A,.jt 170 [.dV [nums m O]]] (dB (gw (fun k=>p (A k)) n)):=by
 refine dm dJ (za p n A m O r) (V:= .dk [dv prog 143 [.dt n [fun i=>(dI (A i))],.jt (170:FuncId) [.dV [.dt m [fun i=>(dI (O i))]]]] ((dI r))] (.done [decide (r>=0)=gw (fun k=>p (A k)) n])) (by kernel_rfl) ?_
 simp only [VT.holds,dC,Sq]
 exact ⟨QY p n A m O r jO hg h,xJ h⟩
noncomputable def De (n:Nat) (A:Nat->Int) (v:Int) (r:Int):eA:={ dz:=[],loops:=[(0,{ ι:=Nat,keep:=[0,1,7],boxes:=[],ts:=fun _ i=>[(8,dI (i:Int))],inv:=fun _ i=>i<=n/\ ∀j,j<i->(A j==v)=false,mu:=fun _ i=>n - i,rd:=fun _ σ=>(ez (σ.get 8)).toNat })],dK:=[] }
theorem QX (n:Nat) (A:Nat->Int) (v:Int) (r:Int) (jO:n<=1000000) (h:jf (fun k=>A k==v) n r):dv prog 184 [nums n A,dI v] (dI r):=by
 refine dm dJ (De n A v r) (V:= .loop Nat (fun a=>a<=n/\ ∀(j:Nat),j<a->(A j==v)=false) (0:Int).toNat [(0:Int)=(↑(0:Int).toNat:Int),n=n,∀i<n,A i=A i,v=v,(n:Int)=(n:Int)] fun i=> .ite (decide ((i:Int)<(n:Int))) (.dk [(0:Int)<=(i:Int)/\(i:Int)<(n:Int)] (.ite (v==A (i:Int).toNat) (.done [(i:Int)=r]) (.dk [dh ((i:Int)+1)] (.done [(i:Int)+1=(↑((i:Int)+1).toNat:Int),n=n,∀i<n,A i=A i,v=v,(n:Int)=(n:Int),Int.toNat ((i:Int)+1)<=n/\ ∀(j:Nat),j<((i:Int)+1).toNat->(A j==v)=false,n - ((i:Int)+1).toNat<n - i])))) (.done [(-1:Int)=r])) (by kernel_rfl) ?_
 simp only [VT.holds,dC,Sq]
 refine ⟨rfl,⟨aq n,fun j hj=>by omega⟩,fun i ⟨hi,hb⟩=>⟨fun dR=>⟨by omega,fun s5=>(uo h (by omega) (fun j hj=>by simpa using hb j hj) (by simp [s5])).symm,fun ke=>⟨by unfold dh;omega,rfl,⟨by omega,fun j hj=> ?_⟩,by omega⟩⟩,fun iG=>(uq h fun j hj=>by simpa using hb j (by omega)).symm⟩⟩
 by_cases e:j=i
 ·rw [e];exact fun e=>ke e.symm
 ·exact hb j (by omega)
noncomputable def xZ (n:Nat) (A:Nat->Int) (v:Int) (r:Int):eA:={ dz:=[(1,[(2,.res fun _=>dI r)])],loops:=[],dK:=[] }
theorem H3 (n:Nat) (A:Nat->Int) (v:Int) (r:Int) (jO:n<=1000000) (h:jf (fun k=>A k==v) n r):dv prog 171 [nums n A,dI v] (dB (gw (fun k=>A k==v) n)):=by
 refine dm dJ (xZ n A v r) (V:= .dk [dv prog 184 [.dt n [fun i=>(dI (A i))],(dI v)] ((dI r))] (.done [decide (r>=0)=gw (fun k=>A k==v) n])) (by kernel_rfl) ?_
 simp only [VT.holds,dC,Sq]
 exact ⟨QX n A v r jO h,xJ h⟩
noncomputable def B2 (x:Int) (m:Nat) (O:Nat->Int):eA:={ dz:=[(1,[(2,.res fun l=>dB (gw (fun k=>aX l k==aI l 1) (aN l)))])],loops:=[],dK:=[] }
theorem NA (x:Int) (m:Nat) (O:Nat->Int) (hm:m<=1000000):dv prog 170 [dI x,.dV [nums m O]] (dB (!(gw (fun k=>O k==x) m))):=by
 refine dm dJ (B2 x m O) (V:= .dk [dv prog 171 [.dt m [fun i=>(dI (O i))],(dI x)] ((dB (gw (fun k=>O k==x) m)))] (.done [(!gw (fun k=>O k==x) m)= !gw (fun k=>O k==x) m])) (by kernel_rfl) ?_
 simp only [VT.holds,dC,Sq]
 obtain ⟨r,hr⟩:=iF (fun k=>O k==x) m
 exact H3 m O x r hm hr
noncomputable def Df (n:Nat) (A:Nat->Int) (m:Nat) (O:Nat->Int):eA:={ dz:=[(1,[(2,.res fun l=>dB (gw (fun k=> !(gw (fun j=>O j==aX l k) m)) (aN l)))])],loops:=[],dK:=[] }
theorem G8 (n:Nat) (A:Nat->Int) (m:Nat) (O:Nat->Int) (hn:n<=1000000) (hm:m<=1000000):dv prog 169 [nums n A,nums m O] (dB (gw (fun k=> !(gw (fun j=>O j==A k) m)) n)):=by
 refine dm dJ (Df n A m O) (V:= .dk [dv prog 99 [.dt n [fun i=>(dI (A i))],.jt (170:Nat) [.dV [.dt m [fun i=>(dI (O i))]]]] ((dB (gw (fun k=> !gw (fun j=>O j==A k) m) n)))] (.done [gw (fun k=> !gw (fun j=>O j==A k) m) n=gw (fun k=> !gw (fun j=>O j==A k) m) n])) (by kernel_rfl) ?_
 simp only [VT.holds,dC,Sq]
 obtain ⟨r,hr⟩:=iF (fun k=> !(gw (fun j=>O j==A k) m)) n
 exact H4 (fun x=> !(gw (fun j=>O j==x) m)) n A m O r hn (fun x=>NA x m O hm) hr
noncomputable def Jc (a b:Int):eA:={ dz:=[],loops:=[],dK:=[] }
theorem ZR (a b:Int) (h1: -1000000000<=a/\a<=1000000000) (h2: -1000000000<=b/\b<=1000000000):dv prog 186 [dI a,dI b] (dI (b - a)):=by
 refine dm dJ (Jc a b) (V:= .dk [dh (b - a)] (.done [b - a=b - a])) (by kernel_rfl) ?_
 simp only [VT.holds,dC,Sq]
 unfold dh;omega
end Go.Abs.Lay
end
section
set_option maxRecDepth 100000
namespace Go.Abs.Lay
open Go
abbrev lists (m:Nat) (N:Nat->Nat) (A:Nat->Nat->Int):DV:= .dt m [fun i=> .dt (N i) [fun k=> .val (.int .i64 (A i k))]]
abbrev sys (nB:Nat) (B:Nat->Int) (nO:Nat) (O:Nat->Int) (W G L:Int):DV:= .agg [nums nB B,nums nO O,dI W,dI G,dI L]
def iS (n:Nat) (A:Nat->Int):Bool:=decide (∀k,k<n->0<k->A (k - 1)<A k)
def iK (n:Nat) (A:Nat->Int):Bool:=decide (∀k,k<n->0<k->A k<=A (k - 1))
def gR (n:Nat) (A:Nat->Int):Bool:=gw (fun k=>xT (A k)) n
def Cj (m:Nat) (N:Nat->Nat) (A:Nat->Nat->Int):Int:=if gw (fun i=>gR (N i) (A i)) m=true then 2 else if gw (fun i=> !(iS (N i) (A i))) m=true then 10 else 0
theorem kA {p:Nat->Bool} {n:Nat}:gw p n=true↔ ∃k,k<n/\p k=true:=by
 unfold gw
 rw [aM,aj]
 constructor
 ·intro h
  apply cQ
  intro h'
  apply h
  intro k hk
  cases hp:p k with
  |false=>rfl
  |true=>exact absurd ⟨k,hk,hp⟩ h'
 ·intro ⟨k,hk,hp⟩ h
  rw [h k hk] at hp;cases hp
theorem lA {p:Nat->Bool} {n:Nat}:gw p n=false↔ ∀k,k<n->p k=false:=by
 unfold gw
 rw [bj,ah]
def rBads:fx:= .res fun l=>dB (gw (fun k=>xT (aX l k)) (aN l))
def fm (nB:Nat) (B:Nat->Int) (nO:Nat) (O:Nat->Int) (W G L:Int):Int:=
 if nB<1\/nB>8\/nO>8 then 11 else if gR nB B=true\/gR nO O=true then 2 else if iS nB B=false\/iS nO O=false then 10
 else if nI W 1 5000=false\/nI G 0 5000=false\/nI L 1 10000=false then 2 else 0
def rLens:fx:= .res fun l=>dI (Cj (lenOf (arg l 0)) (fun i=>lenOf (Oj 0 (arg l 0) i)) (fun i k=>ic 0 (Oj 0 (arg l 0) i) k))
theorem any2 (p:Nat->Bool):gw p 2=true↔p 0=true\/p 1=true:=by
 rw [kA]
 constructor
 ·rintro ⟨k,hk,hp⟩
  match k,hk,hp with
  |0,_,hp=>exact .inl hp
  |1,_,hp=>exact .inr hp
 ·rintro (h|h)
  ·exact ⟨0,by omega,h⟩
  ·exact ⟨1,by omega,h⟩
theorem lenE2 (N:Nat->Nat) (A:Nat->Nat->Int):Cj 2 N A=if gR (N 0) (A 0)=true\/gR (N 1) (A 1)=true then 2 else if iS (N 0) (A 0)=false\/iS (N 1) (A 1)=false then 10 else 0:=by
 unfold Cj
 simp only [any2,aM]
noncomputable def B3 (m:Nat) (N:Nat->Nat) (A:Nat->Nat->Int):eA:={ dz:=[(4,[(1,rBads)])],loops:=[(0,{ ι:=Nat,keep:=[0,8,9],boxes:=[],ts:=fun _ i=>[(10,dI (i:Int))],inv:=fun _ i=>i<=m/\ ∀j,j<i->gR (N j) (A j)=false,mu:=fun _ i=>m - i,rd:=fun _ σ=>(ez (σ.get 10)).toNat }),(2,{ ι:=Nat,keep:=[0,17,18],boxes:=[],ts:=fun _ i=>[(19,dI (i:Int))],inv:=fun _ i=>i<=m/\ ∀j,j<i->iS (N j) (A j)=true,mu:=fun _ i=>m - i,rd:=fun _ σ=>(ez (σ.get 19)).toNat }),(4,{ ι:=Nat,keep:=[0,6,17,18,19,23,24],boxes:=[],ts:=fun _ i=>[(25,dI (i:Int))],inv:=fun σ k=>k<=lenOf (σ.get 6)/\ ∀j,j<k->0<j->ic 0 (σ.get 6) (j - 1)<ic 0 (σ.get 6) j,mu:=fun σ i=>lenOf (σ.get 6) - i,rd:=fun _ σ=>(ez (σ.get 25)).toNat })],dK:=[] }
namespace w1y
noncomputable section
structure Z where
 m:Nat
 N:Nat->Nat
 A:Nat->Nat->Int
variable (z:Z) (i0 i1 i2:Nat) (p:Prop) (P:List Prop) (a b:Int) (k:Nat) (U V:VT) (O4:Nat->Prop) (DY:Nat->VT)
abbrev x0:=Int.toNat (i0:Int)
abbrev x1:=decide ((i1:Int)>(0:Int))
abbrev x2:= ∀i0<z.m,rf (z.N i0)/\(∀i1<(z.N i0),rf (z.A i0 i1))
abbrev x3:=ri (x1 i1=true)
abbrev x4:=Int.toNat ((i0:Int)+1)
abbrev x5:=Int.toNat ((i1:Int)+1)
abbrev x6:=(i1:Int) - 1
abbrev x7:= ∀i1<(z.N (x0 i0)),rf (z.A (x0 i0) i1)
abbrev x8:List Prop:=(a=(k:Int))::rf z.m::x2 z::rf z.m::x2 z::rf (z.m:Int)::P
abbrev x9:=VT.done [a=Lay.Cj z.m z.N z.A]
abbrev dM:=Lay.gw (fun i1=>Lay.xT (z.A (x0 i0) i1)) (z.N (x0 i0))
abbrev dQ:List Prop:=x3 i1::x3 i1::(x1 i1=true->0<=a/\b<(↑(z.N (x0 i0)):Int))::x3 i1::P
abbrev dS:=VT.loop Nat O4 (Int.toNat 0) (x8 z [] (0:Int) (Int.toNat 0)) DY
abbrev dT:=VT.dk [dh ((i0:Int)+1)] (VT.done (x8 z [x4 i0<=z.m/\p,z.m - x4 i0<z.m - i0] ((i0:Int)+1) (x4 i0)))
abbrev dU:=Lay.gR (z.N i1) (z.A i1)=false
abbrev dY:=i2<k->0<i2->(z.A (x0 i0) (i2 - 1))<(z.A (x0 i0) i2)
abbrev eb:List Prop:=(a=(k:Int))::rf z.m::x2 z::rf (z.N (x0 i0))::x7 z i0::rf z.m::x2 z::rf (z.m:Int)::rf (i0:Int)::rf (z.N (x0 i0))::x7 z i0::rf (↑(z.N (x0 i0)):Int)::P
abbrev eE:=VT.ite (decide ((i0:Int)<(z.m:Int))) (VT.dk [0<=(i0:Int)/\(i0:Int)<(z.m:Int)] U) V
abbrev xt:VT:=dS z (fun i0=>i0<=z.m/\(∀i1<i0,dU z i1)) (fun i0=>eE z i0 (VT.dk [dv prog 99 [DV.dt (z.N (x0 i0)) [fun i1=>dI (z.A (x0 i0) i1)],DV.val (Value.func (Fn.func 176) (Array.mk []) (Array.mk []))] (dB (dM z i0))] (VT.ite (dM z i0) (x9 z (2:Int)) (dT z i0 (∀i1<x4 i0,dU z i1)))) (dS z (fun i0=>i0<=z.m/\(∀i1<i0,Lay.iS (z.N i1) (z.A i1)=true)) (fun i0=>eE z i0 (VT.loop Nat (fun i1=>i1<=(z.N (x0 i0))/\(∀(i2:Nat),dY z i0 i2 i1)) (Int.toNat 0) (eb z i0 [] (0:Int) (Int.toNat 0)) (fun i1=>VT.ite (decide ((i1:Int)<(↑(z.N (x0 i0)):Int))) (VT.dk (x3 i1::(x1 i1=true->dh (x6 i1))::dQ z i0 i1 (dQ z i0 i1 [x3 i1,x3 i1,x3 i1] (i1:Int) (i1:Int)) (x6 i1) (x6 i1)) (VT.ite (if (x1 i1)=true then (decide ((z.A (x0 i0) (Int.toNat (x6 i1)))>=(z.A (x0 i0) (Int.toNat (i1:Int))))) else false) (x9 z (10:Int)) (VT.dk [dh ((i1:Int)+1)] (VT.done (eb z i0 [x5 i1<=(z.N (x0 i0))/\(∀(i2:Nat),dY z i0 i2 (x5 i1)),(z.N (x0 i0)) - x5 i1<(z.N (x0 i0)) - i1] ((i1:Int)+1) (x5 i1)))))) (dT z i0 (∀i1<x4 i0,Lay.iS (z.N i1) (z.A i1)=true)))) (x9 z (0:Int)))))
end
end w1y
open w1y in
theorem NI (m:Nat) (N:Nat->Nat) (A:Nat->Nat->Int) (hm:m<=1000) (hN: ∀i,i<m->N i<=1000000):dv prog 151 [lists m N A] (dI (Cj m N A)):=by
 refine dm dJ (B3 m N A) (V:=xt ⟨m,N,A⟩) (by kernel_rfl) ?_
 simp only [xt,x0,x1,x2,x3,x4,x5,x6,x7,x8,x9,dM,dQ,dS,dT,dU,dY,eb,eE,Rf,VT.holds,dC,Sq]
 refine ⟨rfl,⟨aq m,fun j hj=>by omega⟩,fun i ⟨hi,hb⟩=>⟨fun dR=>⟨by omega,?_,fun h=> ?_,fun h=>⟨by unfold dh;omega,rfl,⟨by omega,fun j hj=> ?_⟩,by omega⟩⟩,fun iG=>⟨rfl,⟨aq m,fun j hj=>by omega⟩,fun i' ⟨lV,yA⟩=>⟨fun dR=>⟨by omega,rfl,⟨aq _,fun j hj=>by omega⟩,fun k ⟨hk,lH⟩=>⟨fun pq=>⟨⟨fun _=> ?_,fun _=>by omega,fun _=>by omega⟩,fun h=> ?_,fun h=>⟨?_,rfl,⟨by omega,fun j hj h0=> ?_⟩,by omega⟩⟩,fun UI=>⟨by unfold dh;omega,rfl,⟨by omega,fun j hj=> ?_⟩,by omega⟩⟩⟩,fun hge'=> ?_⟩⟩⟩⟩
 ·obtain ⟨r,hr⟩:=iF (fun k=>xT (A i k)) (N i)
  exact qE 176 xT (N i) (A i) r (hN i (by omega)) Sp hr
 ·rw [Cj,ag (kA.2 ⟨i,by omega,h⟩)]
 ·by_cases e:j=i
  ·rw [e];exact h
  ·exact hb j (by omega)
 ·have:=hN i' (by omega);unfold dh;omega
 ·have fp:gw (fun i=>gR (N i) (A i)) m=false:=lA.2 fun j hj=>hb j (by omega)
  rw [Cj,fp,ab (by simp),ag (kA.2 ⟨i',by omega,?_⟩)]
  rw [aM,iS,aj]
  intro hx
  have:=hx k (by omega) (by omega)
  have e:((k:Int) - 1).toNat=k - 1:=by omega
  rw [e] at h
  omega
 ·have:=hN i' (by omega);unfold dh;omega
 ·by_cases e:j=k
  ·subst e
   have:=h (by omega)
   have e:((j:Int) - 1).toNat=j - 1:=by omega
   rw [e] at this
   omega
  ·exact lH j (by omega) h0
 ·by_cases e:j=i'
  ·rw [e,iS,ah];exact fun k hk=>lH k (by omega)
  ·exact yA j (by omega)
 ·have fp:gw (fun i=>gR (N i) (A i)) m=false:=lA.2 fun j hj=>hb j (by omega)
  have hall2:gw (fun i=> !(iS (N i) (A i))) m=false:=lA.2 fun j hj=>by rw [yA j (by omega)];rfl
  rw [Cj,fp,hall2];rfl
noncomputable def Dk (nB:Nat) (B:Nat->Int) (nO:Nat) (O:Nat->Int) (W G L:Int):eA:={ dz:=[(1,[(3,yq)]),(3,[(5,rLens)]),(6,[(2,yq),(7,yq),(13,yq)])],loops:=[],dK:=[] }
noncomputable abbrev qk (nB:Nat):Bool:= !!nI (nB:Int) (1:Int) (8:Int)
noncomputable abbrev qc (W:Int) (G:Int):Bool:= !if (!nI W (1:Int) (5000:Int))=true then true else !nI G (0:Int) (5000:Int)
namespace w1z
noncomputable section
structure Z where
 nB:Nat
 B:Nat->Int
 nO:Nat
 O:Nat->Int
 W:Int
 G:Int
 L:Int
variable (z:Z) (i0 i1:Nat) (P:List Prop) (a:Int) (g h:Bool) (E:List DV)
abbrev x0:= !(Lay.nI z.W 1 5000)
abbrev x1:=if g=true then true else h
abbrev x2:=x1 (x0 z) (!(Lay.nI z.G 0 5000))
abbrev x3:= !(Lay.nI (z.nB:Int) 1 8)
abbrev x4:=dv prog 101 E (dB g)
abbrev x5:=if (decide (i0=(0:Nat)))=true then z.nB else z.nO
abbrev x6:=if (decide (i0=(0:Nat)))=true then (z.B i1) else (z.O i1)
abbrev x7:=VT.done [a=Lay.fm z.nB z.B z.nO z.O z.W z.G z.L]
abbrev x8:List Prop:=ri ((!(x3 z))=true)::P
abbrev x9:=Lay.Cj 2 (fun i0=>x5 z i0) (fun i0=>fun i1=>x6 z i0 i1)
abbrev xt:VT:=VT.dk (x4 (Lay.nI (z.nB:Int) 1 8) [dI (z.nB:Int),dI 1,dI 8]::x8 z (x8 z (x8 z [x3 z=false->(!(x3 z))=true]))) (VT.ite (x1 (x3 z) (decide ((z.nO:Int)>(8:Int)))) (x7 z (11:Int)) (VT.dk [(2:Nat)<=(2:Nat),dv prog 151 [DV.dt 2 [fun i0=>DV.dt (x5 z i0) [fun i1=>dI (x6 z i0 i1)]]] (dI (x9 z))] (VT.ite (x9 z !=0) (x7 z (x9 z)) (VT.dk [x4 (Lay.nI z.W 1 5000) [dI z.W,dI 1,dI 5000],ri ((!(x0 z))=true),ri ((!(x0 z))=true),(!(x0 z))=true->x4 (Lay.nI z.G 0 5000) [dI z.G,dI 0,dI 5000],ri ((!(x0 z))=true),x0 z=false->(!(x0 z))=true,ri ((!(x2 z))=true),ri ((!(x2 z))=true),(!(x2 z))=true->x4 (Lay.nI z.L 1 10000) [dI z.L,dI 1,dI 10000],ri ((!(x2 z))=true),x2 z=false->(!(x2 z))=true] (VT.ite (x1 (x2 z) (!(Lay.nI z.L 1 10000))) (x7 z (2:Int)) (x7 z (0:Int)))))))
end
end w1z
open w1z in
theorem GJ (nB:Nat) (B:Nat->Int) (nO:Nat) (O:Nat->Int) (W G L:Int) :dv prog 115 [sys nB B nO O W G L] (dI (fm nB B nO O W G L)):=by
 refine dm dJ (Dk nB B nO O W G L) (V:=xt ⟨nB,B,nO,O,W,G,L⟩) (by kernel_rfl) ?_
 simp only [xt,x0,x1,x2,x3,x4,x5,x6,x7,x8,x9,Rf,VT.holds,dC,Sq]
 have hE:Cj 2 (fun i=>if i=0 then nB else nO) (fun i k=>if i=0 then B k else O k)=if gR nB B=true\/gR nO O=true then 2 else if iS nB B=false\/iS nO O=false then 10 else 0:=lenE2 _ _
 have nU: ∀x lo hi:Int,nI x lo hi=false↔ ¬(lo<=x/\x<=hi):=fun x lo hi=>aj
 refine ⟨iB _ _ _,fun h=> ?_,fun h=>⟨⟨by omega,?_⟩,fun ji=> ?_,fun he=>⟨⟨iB _ _ _,fun _=>iB _ _ _,fun _=>iB _ _ _⟩,fun h2=> ?_,fun h2=> ?_⟩⟩⟩
 ·rw [nU] at h
  rw [fm,ag (by omega)]
 ·exact NI 2 (fun i=>if i=0 then nB else nO) (fun i k=>if i=0 then B k else O k) (by omega) fun i _=>by
   obtain ⟨h1,h2⟩:=h
   rw [nU] at h1
   show (if i=0 then nB else nO)<=1000000
   split<;>omega
 ·obtain ⟨h1,h2⟩:=h
  rw [nU] at h1
  rw [fm,ab (by omega)]
  rw [hE] at ji ⊢
  by_cases c1:gR nB B=true\/gR nO O=true
  ·rw [ag c1,ag c1]
  ·rw [ab c1] at ji
   rw [ab c1,ab c1]
   by_cases c2:iS nB B=false\/iS nO O=false
   ·rw [ag c2,ag c2]
   ·rw [ab c2] at ji;exact absurd rfl ji
 all_goals
  obtain ⟨h1,h3⟩:=h
  rw [nU] at h1
  rw [fm,ab (by omega)]
  rw [hE] at he
  by_cases c1:gR nB B=true\/gR nO O=true
  ·rw [ag c1] at he;cases he
  ·rw [ab c1] at he
   rw [ab c1]
   by_cases c2:iS nB B=false\/iS nO O=false
   ·rw [ag c2] at he;cases he
   ·rw [ab c2]
    first
    |rw [ag (by rcases h2 with (h|h)|h<;>simp [h])]
    |rw [ab (fun hx=>by
      obtain ⟨ha,hb⟩:=h2
      rcases hx with h|h|h
      ·exact ha (.inl h)
      ·exact ha (.inr h)
      ·rw [hb] at h;cases h)]
noncomputable def OJ (nB:Nat) (B:Nat->Int) (nO:Nat) (O:Nat->Int) (W G L:Int):eA:={ dz:=[],loops:=[],dK:=[] }
theorem few_c (nB:Nat) (B:Nat->Int) (nO:Nat) (O:Nat->Int) (W G L:Int) :dv prog 71 [sys nB B nO O W G L] (dB (decide (nB<=12/\nO<=12))):=by
 refine dm dJ (OJ nB B nO O W G L) (V:= .dk [ri (decide ((nB:Int)<=12)=true),ri (decide ((nB:Int)<=12)=true),ri (decide ((nB:Int)<=12)=true),ri (decide ((nB:Int)<=12)=true)] (.done [(if decide ((nB:Int)<=12)=true then decide ((nO:Int)<=12) else false)=decide (nB<=12/\nO<=12)])) (by kernel_rfl) ?_
 simp only [VT.holds,dC,Sq]
 rw [Bool.decide_and]
 congr 1<;>simp<;>omega
noncomputable def Gh (n:Nat) (A:Nat->Int):eA:={ dz:=[],loops:=[],dK:=[] }
theorem U7 (n:Nat) (A:Nat->Int) (hn:n<=1000000):Vz prog 134 [nums n A] n [fun i=> .val (.int .i64 (A i))]:=by
 refine IE dJ (Gh n A) (V:= .dk [(0:Nat)<=0,((0:Nat)+n)*(nat_lit 7+1)<=140737488355328] (.done [(0:Nat)+n=n/\(0:Nat)+n<=0+n,∀i<n,(if decide (i<0)=true then (0:Int) else A (i - 0))=A i])) (by kernel_rfl) ?_
 simp only [VT.holds,dC,Sq]
 exact ⟨⟨by omega,by omega⟩,⟨by omega,by omega⟩,fun i _=>by rw [ab (by omega)]<;>rfl⟩
noncomputable def IS :eA:={ dz:=[],loops:=[],dK:=[] }
namespace w22
noncomputable section
abbrev xt:VT:=VT.done [(2:Nat)<=(2:Nat),(1:Nat)<=(1:Nat),rf (2:Nat),∀i0<((2:Nat)),rf (List.getD [(1000:Int),(2500:Int)] i0 0),rf (1:Nat),∀i0<((1:Nat)),rf (500:Int),rf (700:Int),rf (300:Int),rf (2000:Int)]
end
end w22
open w22 in
theorem T6 :dv prog 66 [] (sys 2 (fun i=>[1000,2500].getD i 0) 1 (fun _=>500) 700 300 2000):=by
 refine dm dJ (IS ) (V:=xt) (by kernel_rfl) ?_
 simp only [xt,Rf,VT.holds,dC,Sq]
 omega
noncomputable def Dd (n:Nat) (A:Nat->Int):eA:={ dz:=[(4,[(10,.res fun l=>dI (aI l 1 - aI l 0))])],loops:=[(0,{ ι:=Int,keep:=[0,1],boxes:=[],ts:=fun _ i=>[(5,dI i)],inv:=fun _ i=> -1<=i/\i<=(n:Int) - 1/\ ∀k:Nat,i<(k:Int)->k<n->0<k->A k<=A (k - 1),mu:=fun _ i=>(i+1).toNat,rd:=fun _ σ=>ez (σ.get 5) })],dK:=[] }
namespace w23
noncomputable section
structure Z where
 n:Nat
 A:Nat->Int
variable (z:Z) (i1:Nat) (a:Int)
abbrev x0:=(z.n:Int) - 1
abbrev x1 (i0:Int):=(z.A (Int.toNat (i0 - 1))) - (z.A (Int.toNat i0))
abbrev x2:=a<(i1:Int)->i1<z.n->0<i1->(z.A i1)<=(z.A (i1 - 1))
abbrev x3:=rf (Value.func (Fn.func (186:FuncId)) (Array.mk []) (Array.mk []))
abbrev xt:VT:=VT.dk [dh (x0 z)] (VT.loop Int (fun (i0:Int)=>(-(1:Int))<=i0/\i0<=x0 z/\(∀(i1:Nat),x2 z i1 i0)) (x0 z) [rf (x0 z),rf z.n,∀i0<z.n,rf (z.A i0),x3] (fun (i0:Int)=>VT.ite (decide (i0>(0:Int))) (VT.dk [0<=i0/\i0<(z.n:Int),dh (i0 - 1),0<=i0 - 1/\i0 - 1<(z.n:Int),dv prog (186:FuncId) [dI (z.A (Int.toNat i0)),dI (z.A (Int.toNat (i0 - 1)))] (dI (x1 z i0))] (VT.ite (decide ((x1 z i0)<(0:Int))) (VT.done [false=Lay.iK z.n z.A]) (VT.dk [dh (i0 - 1)] (VT.done [rf (i0 - 1),rf z.n,∀i0<z.n,rf (z.A i0),x3,(-(1:Int))<=i0 - 1/\i0 - 1<=x0 z/\(∀(i1:Nat),x2 z i1 (i0 - 1)),Int.toNat (i0 - 1+1)<Int.toNat (i0+1)])))) (VT.done [true=Lay.iK z.n z.A])))
end
end w23
open w23 in
theorem Aa (n:Nat) (A:Nat->Int) (hn:n<=1000000) (hA: ∀k,k<n->1<=A k/\A k<=10000):dv prog 185 [nums n A,.val (.func (.func 186) #[] #[])] (dB (iK n A)):=by
 refine dm dJ (Dd n A) (V:=xt ⟨n,A⟩) (by kernel_rfl) ?_
 simp only [xt,x0,x1,x2,x3,Rf,VT.holds,dC,Sq]
 refine ⟨by unfold dh;omega,⟨by omega,by omega,fun k _ _ _=>by omega⟩,fun i ⟨h1,h2,h3⟩=>⟨fun hp=>⟨⟨by omega,by unfold dh;omega,by omega,?_⟩,fun h=> ?_,fun h=>⟨by unfold dh;omega,⟨by omega,by omega,fun k hk kr h0=> ?_⟩,by omega⟩⟩,fun hp=> ?_⟩⟩
 ·have a1:=hA i.toNat (by omega)
  have a2:=hA (i - 1).toNat (by omega)
  exact ZR _ _ (by omega) (by omega)
 ·rw [iK,bX,aj]
  intro hx
  have:=hx i.toNat (by omega) (by omega)
  rw [show i.toNat - 1=(i - 1).toNat by omega] at this
  omega
 ·by_cases e:i<(k:Int)
  ·exact h3 k e kr h0
  ·have:k=i.toNat:=by omega
   subst this
   rw [show i.toNat - 1=(i - 1).toNat by omega]
   omega
 ·rw [iK,bX,ah]
  exact fun k hk h0=>h3 k (by omega) hk h0
noncomputable def BZ (n:Nat) (A:Nat->Int):eA:={ dz:=[(1,[(1,.res fun l=>dB (iK (aN l) (aX l)))])],loops:=[],dK:=[] }
theorem Eb (n:Nat) (A:Nat->Int) (hn:n<=1000000) (hA: ∀k,k<n->1<=A k/\A k<=10000):dv prog 172 [nums n A] (dB (iK n A)):=by
 refine dm dJ (BZ n A) (V:= .dk [dv prog 185 [.dt n [fun i=>(dI (A i))],.val (Value.func (Fn.func 186) (Array.mk []) (Array.mk []))] ((dB (iK n A)))] (.done [iK n A=iK n A])) (by kernel_rfl) ?_
 simp only [VT.holds,dC,Sq]
 exact Aa n A hn hA
noncomputable def Ld (n:Nat) (A:Nat->Int):eA:={ dz:=[],loops:=[(0,{ ι:=Nat,keep:=[0],boxes:=[],ts:=fun _ i=>[(4,dI (i:Int)),(3,dI (A (i - 1)))],inv:=fun _ i=>1<=i/\i<=n,mu:=fun _ i=>n - i,rd:=fun _ σ=>(ez (σ.get 4)).toNat })],dK:=[] }
namespace w25
noncomputable section
structure Z where
 n:Nat
 A:Nat->Int
variable (z:Z) (i0:Nat)
abbrev x0:=Int.toNat ((i0:Int)+1)
abbrev x1:=VT.dk [(0:Int)<=(0:Int)/\0<(z.n:Int)] (VT.loop Nat (fun i0=>1<=i0/\i0<=z.n) (Int.toNat 1) [1=(↑(Int.toNat 1):Int),(z.A (Int.toNat 0))=(z.A (Int.toNat 1 - 1)),rf z.n,∀i0<z.n,rf (z.A i0)] (fun i0=>VT.ite (decide ((i0:Int)<(z.n:Int))) (VT.dk [0<=(i0:Int)/\(i0:Int)<(z.n:Int)] (VT.dk [dh ((i0:Int)+1)] (VT.done [(i0:Int)+1=(↑(x0 i0):Int),hP (z.A (i0 - 1)) [z.A (Int.toNat (i0:Int))]=(z.A (x0 i0 - 1)),rf z.n,∀i0<z.n,rf (z.A i0),1<=x0 i0/\x0 i0<=z.n,z.n - x0 i0<z.n - i0]))) (VT.done [(z.A (i0 - 1))=(z.A (z.n - 1))])))
abbrev xt:VT:=VT.ite (decide ((z.n:Int)<(1:Int))) (VT.dk [False,False] (x1 z)) (x1 z)
end
end w25
open w25 in
theorem max_c (n:Nat) (A:Nat->Int) (h1:1<=n) (hn:n<=1000000) (hr:iS n A=true):dv prog 154 [nums n A] (dI (A (n - 1))):=by
 refine dm dJ (Ld n A) (V:=xt ⟨n,A⟩) (by kernel_rfl) ?_
 simp only [xt,x0,x1,Rf,VT.holds,dC,Sq]
 have hs: ∀k,k<n->0<k->A (k - 1)<A k:=by rw [iS,ah] at hr;exact hr
 refine ⟨fun h=>absurd h (by omega),fun _=>⟨by omega,⟨rfl,rfl⟩,⟨by omega,by omega⟩,fun i ⟨h2,h3⟩=>⟨fun dR=>⟨by omega,by unfold dh;omega,rfl,?_,⟨by omega,by omega⟩,by omega⟩,fun iG=>by rw [show i=n by omega]⟩⟩⟩
 have:=hs i (by omega) (by omega)
 simp only [hP,Nat.add_sub_cancel]
 rw [ag (by omega)]
end Go.Abs.Lay
end
