/- Contracts and what they stand on. -/
import Derived.Test.YtoinjphpfpklmaaGreatDoorL21
set_option linter.unusedVariables false
set_option linter.unusedSimpArgs false
section
set_option maxRecDepth 100000
namespace Go.Abs.Lay
open Go
section
def oB:List Int->Int
 |[]=>0
 |x::l=>x+oB l
def qt (v:Int):List Int->Int
 |[]=>0
 |x::l=>(if x=v then 0 else 1)+qt v l
theorem zE (l m:List Int):oB (l++m)=oB l+oB m:=by
 induction l with
 |nil=>simp [oB]
 |cons x l ih=>simp only [bp,oB,ih];omega
theorem Ha (v:Int) (l m:List Int):qt v (l++m)=qt v l+qt v m:=by
 induction l with
 |nil=>simp [qt]
 |cons x l ih=>simp only [bp,qt,ih];omega
theorem C4 {l m:List Int} (h:l.Perm m):oB l=oB m:=by
 induction h with
 |nil=>rfl
 |cons x _ ih=>simp only [oB,ih]
 |swap x y l=>simp only [oB];omega
 |trans _ _ h1 h2=>exact h1.trans h2
theorem M3 {v:Int} {l m:List Int} (h:l.Perm m):qt v l=qt v m:=by
 induction h with
 |nil=>rfl
 |cons x _ ih=>simp only [qt,ih]
 |swap x y l=>simp only [qt];omega
 |trans _ _ h1 h2=>exact h1.trans h2
theorem Lk (f:Nat->Int): ∀n,jw f n=oB ((List.range n).map f)
 |0=>rfl
 |n+1=>by rw [mK,zE,jw,Lk f n];simp [oB]
theorem Ml (f:Nat->Int) (v:Int): ∀n,rO f v n=qt v ((List.range n).map f)
 |0=>rfl
 |n+1=>by rw [mK,Ha,rO,Ml f v n];simp [qt]
theorem C5 (l:List Int):jw (fun i=>l.getD i 0) l.length=oB l:=by rw [Lk,lQ]
theorem ND (l:List Int) (v:Int):rO (fun i=>l.getD i 0) v l.length=qt v l:=by rw [Ml,lQ]
theorem zH (l:List Int):iE (mJ l).length (fun i=>(mJ l).getD i 0)=true:=by
 have hp:(mJ l).Pairwise fun x y=>decide (y<=x)=true:=by
  apply List.pairwise_mergeSort
  ·intro a b c h1 h2;rw [ai] at*;omega
  ·intro a b;rw [cC,ai,ai];omega
 rw [iE,ai]
 intro k hk h0
 have:=List.pairwise_iff_getElem.1 hp (k - 1) k (by omega) hk (by omega)
 rw [ai] at this
 rw [bc,bc,ak hk,ak (show k - 1<(mJ l).length by omega)]
 exact this
section
variable {u n:Nat} {X C T:Nat->Int} {b:Nat->Bool} {K:Nat}
theorem Gy (h:Iy u n X C T) (hK:0<=T K) (hd: ∀i,i<n->X i=(eh u (X i):Int)*u): ∀j,oB (dU u n X C T b false K j)+oB (dU u n X C T b true K j)+(lH u n X C T K j:Int)*u=(K:Int)*u
 |0=>by simp [dU,oB,lH]
 |j+1=>by
  have ih:=Gy h hK hd j
  by_cases h0:lH u n X C T K j=0
  ·rw [mq h0 (j+1) (by omega),mq h0 (j+1) (by omega),rl h0 (j+1) (by omega)]
   rw [h0] at ih;exact ih
  ·obtain ⟨p1,p2,_⟩:=kX h (by omega) (tz h hK j)
   obtain ⟨k1,_⟩:=Qp h hK h0
   have hx:=hd _ p1
   have e:(lH u n X C T K j:Int)*u=(lH u n X C T K (j+1):Int)*u+(eh u (X (lZ u n X C T (lH u n X C T K j))):Int)*u:=by
    rw [<-Int.add_mul];congr 1;omega
   rw [dU,dU]
   cases hb:b (lZ u n X C T (lH u n X C T K j)) with
   |false=>
    rw [ah ⟨h0,rfl⟩,ae (fun hx=>by cases hx.2),zE]
    simp only [oB]
    omega
   |true=>
    rw [ae (fun hx=>by cases hx.2),ah ⟨h0,rfl⟩,zE]
    simp only [oB]
    omega
theorem CZ (h:Iy u n X C T) (hK:0<=T K) {M:Int} (h1: ∀i,i<n->b i=false->C i=1+10000*(if X i=M then 0 else 1)) (h2: ∀i,i<n->b i=true->C i=10000):
 ∀j,((dU u n X C T b false K j).length:Int)+10000*(qt M (dU u n X C T b false K j)+(dU u n X C T b true K j).length)+T (lH u n X C T K j)=T K
 |0=>by simp [dU,qt,lH]
 |j+1=>by
  have ih:=CZ h hK h1 h2 j
  by_cases h0:lH u n X C T K j=0
  ·rw [mq h0 (j+1) (by omega),mq h0 (j+1) (by omega),rl h0 (j+1) (by omega)]
   rw [h0] at ih;exact ih
  ·obtain ⟨p1,p2,_⟩:=kX h (by omega) (tz h hK j)
   have p3:=(sc.1 p2).2.2
   rw [dU,dU]
   have hk:lH u n X C T K (j+1)=lH u n X C T K j - eh u (X (lZ u n X C T (lH u n X C T K j))):=rfl
   rw [hk]
   cases hb:b (lZ u n X C T (lH u n X C T K j)) with
   |false=>
    have hc:=h1 _ p1 hb
    rw [ah ⟨h0,rfl⟩,ae (fun hx=>by cases hx.2),Ha,aO,cB]
    simp only [qt]
    omega
   |true=>
    have hc:=h2 _ p1 hb
    rw [ae (fun hx=>by cases hx.2),ah ⟨h0,rfl⟩,aO,cB]
    omega
end
end
section
def iY (nB:Nat) (B:Nat->Int) (nO:Nat) (O:Nat->Int) (W G L len:Int) (s:Bool):List Int:=
 if vb nB B nO O W G L len=0 then vV (fB nB B nO O (nB+nO)) (nB+nO) (fa nB B nO O) (ed nB) (qH nB B nO O) (fun i=>decide (nB<=i)) s len else []
theorem Lg {nB:Nat} {B:Nat->Int} {nO:Nat} {O:Nat->Int} (sB: ∀k,k<nB->1<=B k/\B k<=10000) (sO: ∀k,k<nO->1<=O k/\O k<=10000):Iy (fB nB B nO O (nB+nO)) (nB+nO) (fa nB B nO O) (ed nB) (qH nB B nO O):=
 ⟨rfl,fun i hi=>zw sB sO hi,fun i _=>G4 nB i⟩
end
section
theorem MF {u:Nat} {x:Int} (hu:1<=u) (hd:(u:Int)∣x) (hx:0<=x):x=(eh u x:Int)*u:=by
 have h0:=bZ (a:=x) (b:=(u:Int)) hx (by omega)
 unfold eh
 rw [bH h0,Int.ediv_mul_cancel hd]
theorem tX {nB:Nat} {B:Nat->Int} {nO:Nat} {O:Nat->Int} {W G L len:Int} (h:vb nB B nO O W G L len=0) (j7:j5 (fB nB B nO O (nB+nO)) (qH nB B nO O) len=true):
 (iY nB B nO O W G L len false).length<=4000/\(iY nB B nO O W G L len true).length<=4000/\
 (∀x,x∈iY nB B nO O W G L len false-> ∃j,j<nB/\B j=x)/\(∀x,x∈iY nB B nO O W G L len true-> ∃j,j<nO/\O j=x)/\
 iE (iY nB B nO O W G L len false).length (fun i=>(iY nB B nO O W G L len false).getD i 0)=true/\iE (iY nB B nO O W G L len true).length (fun i=>(iY nB B nO O W G L len true).getD i 0)=true/\
 oB (iY nB B nO O W G L len false)+oB (iY nB B nO O W G L len true)=len/\
 ((iY nB B nO O W G L len false).length:Int)+10000*(qt (B (nB - 1)) (iY nB B nO O W G L len false)+(iY nB B nO O W G L len true).length)=qH nB B nO O (len/(fB nB B nO O (nB+nO):Int)).toNat:=by
 obtain ⟨h1,h2,h3⟩:=TL h
 obtain ⟨s1,s2,s3,sB,sO,sr,_⟩:=n5 h1
 have hu:=zy s1 sB sO
 obtain ⟨q0,q1⟩:=PL hu.1 h2 h3
 have ht:=Lg sB sO
 have hok':=j7
 rw [j5,ai] at hok'
 obtain ⟨hr,hK⟩:=hok'
 have hdv: ∀i,i<nB+nO->fa nB B nO O i=(eh (fB nB B nO O (nB+nO)) (fa nB B nO O i):Int)*(fB nB B nO O (nB+nO):Nat):=fun i hi=>
  MF hu.1 (HJ (og hi)) (by have:=sa sB sO hi;omega)
 have hlen:len=((len/(fB nB B nO O (nB+nO):Int)).toNat:Int)*(fB nB B nO O (nB+nO):Nat):=by
  rw [bH q0,Int.ediv_mul_cancel (Int.dvd_of_emod_eq_zero hr)]
 have e: ∀s,iY nB B nO O W G L len s=mJ (dU (fB nB B nO O (nB+nO)) (nB+nO) (fa nB B nO O) (ed nB) (qH nB B nO O) (fun i=>decide (nB<=i)) s (len/(fB nB B nO O (nB+nO):Int)).toNat (len/(fB nB B nO O (nB+nO):Int)).toNat):=fun s=>by
  rw [iY,ah h,vV,j7,ah rfl]
 have VP: ∀k,k<nB->0<k->B (k - 1)<B k:=by rw [iT,ai] at sr;exact sr
 have hless: ∀i,i<nB - 1->B i<B (nB - 1):=by
  intro i hi
  have: ∀d,i+d+1<nB->B i<B (i+d+1):=by
   intro d
   induction d with
   |zero=>intro hd;exact VP (i+1) hd (by omega)
   |succ d ih=>
    intro hd
    have h5:=ih (by omega)
    have h6:=VP (i+(d+1)+1) hd (by omega)
    rw [show i+(d+1)+1 - 1=i+d+1 by omega] at h6
    omega
  have h7:=this (nB - 2 - i) (by omega)
  rw [show i+(nB - 2 - i)+1=nB - 1 by omega] at h7
  exact h7
 have hu1:=hu.1
 have hKb:(len/(fB nB B nO O (nB+nO):Int)).toNat<=4000:=by omega
 generalize fB nB B nO O (nB+nO)=u at*
 generalize (len/(u:Int)).toNat=K at*
 have hend:=LW ht hK
 have T4:=Gy (b:=fun i=>decide (nB<=i)) ht hK hdv K
 have V0:=CZ (b:=fun i=>decide (nB<=i)) (M:=B (nB - 1)) ht hK (fun i hi hb=>by
  have wK:i<nB:=by rw [an] at hb;omega
  rw [ed,ah wK,fa,ah wK]
  by_cases h0:i=0
  ·rw [ah h0,h0,bM,ah rfl];rfl
  ·have:=hless (nB - 1 - i) (by omega)
   rw [ae h0,ae (by omega)];rfl) (fun i hi hb=>by
  rw [ai] at hb
  rw [ed,ae (by omega)]) K
 have hle: ∀i,i<=K->(∀j,j<i->lH u (nB+nO) (fa nB B nO O) (ed nB) (qH nB B nO O) K j≠0)\/ ∃j,j<i/\lH u (nB+nO) (fa nB B nO O) (ed nB) (qH nB B nO O) K j=0:=fun i _=>by
  by_cases hx: ∃j,j<i/\lH u (nB+nO) (fa nB B nO O) (ed nB) (qH nB B nO O) K j=0
  ·exact .inr hx
  ·exact .inl fun j hj h0=>hx ⟨j,hj,h0⟩
 have hlens: ∀m,(dU u (nB+nO) (fa nB B nO O) (ed nB) (qH nB B nO O) (fun i=>decide (nB<=i)) false K m).length+(dU u (nB+nO) (fa nB B nO O) (ed nB) (qH nB B nO O) (fun i=>decide (nB<=i)) true K m).length<=m:=by
  intro m
  induction m with
  |zero=>simp [dU]
  |succ m ih=>
   simp only [dU]
   split<;>split<;>(try simp only [aO,cB])<;>rename_i a b
   ·rw [a.2] at b;cases b.2
   all_goals omega
 have hl:=hlens K
 simp only [e]
 rw [rZ,rZ,C4 (kU _),C4 (kU _),M3 (kU _)]
 have f1:=zH (dU u (nB+nO) (fa nB B nO O) (ed nB) (qH nB B nO O) (fun i=>decide (nB<=i)) false K K)
 have f2:=zH (dU u (nB+nO) (fa nB B nO O) (ed nB) (qH nB B nO O) (fun i=>decide (nB<=i)) true K K)
 rw [rZ] at f1 f2
 rw [hend] at T4 V0
 rw [ht.zero] at V0
 refine ⟨by omega,by omega,fun x hx=> ?_,fun x hx=> ?_,f1,f2,?_,?_⟩
 ·obtain ⟨i,hi,rfl,hb⟩:=qG ht hK ((kU _).mem_iff.1 hx)
  have wK:i<nB:=by rw [an] at hb;omega
  exact ⟨nB - 1 - i,by omega,by rw [fa,ah wK]⟩
 ·obtain ⟨i,hi,rfl,hb⟩:=qG ht hK ((kU _).mem_iff.1 hx)
  have wK:nB<=i:=by rwa [ai] at hb
  exact ⟨nO - 1 - (i - nB),by omega,by rw [fa,ae (by omega)]⟩
 ·rw [hlen];simpa using T4
 ·omega
theorem Lh (nB:Nat) (B:Nat->Int) (nO:Nat) (O:Nat->Int):qH nB B nO O=xY nB B nO O:=by
 funext k
 unfold qH xY
 rw [Gz,unit_eq];rfl
theorem AK {l:List Int} {k:Nat} (h:k<l.length):l.getD k 0∈l:=by
 rw [bc,ak h];exact List.getElem_mem h
theorem UG {nB:Nat} {B:Nat->Int} {nO:Nat} {O:Nat->Int} {W G L len:Int} (h:vb nB B nO O W G L len=0) (j7:j5 (fB nB B nO O (nB+nO)) (qH nB B nO O) len=true):
 DR nB B nO O (iY nB B nO O W G L len false).length (fun i=>(iY nB B nO O W G L len false).getD i 0) (iY nB B nO O W G L len true).length (fun i=>(iY nB B nO O W G L len true).getD i 0)=0:=by
 obtain ⟨c1,c2,c3,c4,c5,c6,c7,c8⟩:=tX h j7
 have g: ∀{l:List Int} {m:Nat} {V:Nat->Int},(∀x,x∈l-> ∃j,j<m/\V j=x)->gi l.length (fun i=>l.getD i 0) m V=false:=fun h=>k9.2 fun k hk=>by
  obtain ⟨j,hj,e⟩:=h _ (AK hk)
  rw [bK]
  exact km.2 ⟨j,hj,by simpa using e⟩
 rw [DR,ae (by omega),ae (by rw [g c3,g c4];simp),ae (by rw [c5,c6];simp)]
theorem H5 {nB:Nat} {B:Nat->Int} {nO:Nat} {O:Nat->Int} {W G L len:Int} (h:vb nB B nO O W G L len=0) (j7:j5 (fB nB B nO O (nB+nO)) (qH nB B nO O) len=true):
 jd nB B nO O (iY nB B nO O W G L len false).length (fun i=>(iY nB B nO O W G L len false).getD i 0) (iY nB B nO O W G L len true).length (fun i=>(iY nB B nO O W G L len true).getD i 0) len=0:=by
 obtain ⟨c1,c2,c3,c4,c5,c6,c7,c8⟩:=tX h j7
 rw [jd,ah (UG h j7),C5,C5,ah c7]
end
section
section
variable {l:List (Nat×Int)} (hc: ∀p∈l,0<=p.2/\p.2<=10001)
include hc
end
inductive Rep (l:List Nat):Nat->Prop
 |zero:Rep l 0
 |add {m k:Nat} (hm:m∈l) (h1:1<=m) (h2:m<=k) (h:Rep l (k - m)):Rep l k
theorem Rep.mono {l l':List Nat} (h: ∀m,m∈l->m∈l') {k:Nat} (r:Rep l k):Rep l' k:=by
 induction r with
 |zero=>exact .zero
 |add hm h1 h2 _ ih=>exact .add (h _ hm) h1 h2 ih
end
end Go.Abs.Lay
end
section
set_option maxRecDepth 100000
namespace Go.Abs
open Go
def dF (b:dJ) (nB:Nat) (B:Nat->Int) (nO:Nat) (O:Nat->Int) (W G:Int) (f i e:Nat):Int:=dpF (kR b nB B nO O W G) f i e
def dW (b:dJ) (nB:Nat) (B:Nat->Int) (nO:Nat) (O:Nat->Int) (W G:Int) (f i c e:Nat):Int:=KA (kR b nB B nO O W G i) (dX b nB B nO O W G f i 0) (dX b nB B nO O W G f i 1) c e
def kx (b:dJ) (nB:Nat) (B:Nat->Int) (nO:Nat) (O:Nat->Int) (W G:Int) (f:Nat):Nat->Int
 |0=>(f:Int)
 |k+1=>[dF b nB B nO O W G f (b.N 0 - k) 0,dF b nB B nO O W G f (b.N 0 - k) 1].getD (kx b nB B nO O W G f k).toNat 0
def UQ (x y:Int):Int:=if 0<=x then (if 0<=y/\y<x then 1 else 0) else if 0<=y then 1 else -1
def gd (b:dJ) (nB:Nat) (B:Nat->Int) (nO:Nat) (O:Nat->Int) (W G:Int):Int:=UQ (dX b nB B nO O W G 0 (b.N 0) 0) (dX b nB B nO O W G 1 (b.N 0) 1)
def Vd (b:dJ) (nB:Nat) (B:Nat->Int) (nO:Nat) (O:Nat->Int) (W G L:Int):Nat:=TH (iN (b.N 0) (b.X 0) (b.Y 0) G W (4*b.N 0)) (Fz nB B nO O W G L)
abbrev XV (b:dJ) (nB:Nat) (B:Nat->Int) (nO:Nat) (O:Nat->Int) (W G L:Int):DV:= .di (Vd b nB B nO O W G L) [fun k=>dI (qI nB B nO O W G L k)]
abbrev Yp:DV:= .val (.slice none 0 0)
def bx9 (T:DV) (n nx i:Nat):Nat->List DV
 |0=>[T,.row 2 (nx+50) 0 (i+1),Yp]
 |_+1=>[T,.row 2 (nx+50) 0 (n+1),.row 2 (nx+51) 0 (i+1)]
def UO (n nx i:Nat):Nat->List DV
 |0=>[.row 2 (nx+51) 0 (i+1),Yp]
 |_+1=>[.row 2 (nx+52) 0 (n+1),.row 2 (nx+53) 0 (i+1)]
abbrev cX (b:dJ) (nB:Nat) (B:Nat->Int) (nO:Nat) (O:Nat->Int) (W G:Int) (f:Nat):List (Nat->DV):=[fun j=>dI (dX b nB B nO O W G f j 0),fun j=>dI (dX b nB B nO O W G f j 1)]
abbrev cF (b:dJ) (nB:Nat) (B:Nat->Int) (nO:Nat) (O:Nat->Int) (W G:Int) (f:Nat):List (Nat->DV):=[fun j=>dI (dF b nB B nO O W G f j 0),fun j=>dI (dF b nB B nO O W G f j 1)]
def rbB (b:dJ) (nB:Nat) (B:Nat->Int) (nO:Nat) (O:Nat->Int) (W G:Int) (i:Nat):Nat->List (Nat×Nat×Nat×Nat×List (Nat->DV))
 |0=>[(9,1,2,i+1,cX b nB B nO O W G 0),(10,0,2,i+1,cF b nB B nO O W G 0)]
 |_+1=>[(9,1,2,b.N 0+1,cX b nB B nO O W G 0),(9,2,2,i+1,cX b nB B nO O W G 1),(10,0,2,b.N 0+1,cF b nB B nO O W G 0),(10,1,2,i+1,cF b nB B nO O W G 1)]
def bC (b:dJ) (nB:Nat) (B:Nat->Int) (nO:Nat) (O:Nat->Int) (W G:Int) (f j:Nat):Int:=kx b nB B nO O W G f (b.N 0 - j)
def bL (b:dJ) (nB:Nat) (B:Nat->Int) (nO:Nat) (O:Nat->Int) (W G:Int) (f j:Nat):Int:=ko b G W j (bC b nB B nO O W G f j) (bC b nB B nO O W G f (((j:Int)+1)%(b.N 0:Int)).toNat)
def cl (nB:Nat) (B:Nat->Int) (nO:Nat) (O:Nat->Int) (W G L len:Int) (s:Bool):List Int:=Lay.vV (Lay.fZ nB B nO O W G L) (Lay.iv nB B nO O W G L) (Lay.fa nB B nO O) (Lay.ed nB) (qI nB B nO O W G L) (fun i=>decide (nB<=i)) s len
def okL (nB:Nat) (B:Nat->Int) (nO:Nat) (O:Nat->Int) (W G L len:Int):Bool:=Lay.j5 (Lay.fZ nB B nO O W G L) (qI nB B nO O W G L) len
abbrev runB (b:dJ) (nB:Nat) (B:Nat->Int) (nO:Nat) (O:Nat->Int) (W G L:Int) (f:Nat):List (Nat->DV):=[fun j=>dI (j:Int),fun j=>dI (Ly b G W j (bC b nB B nO O W G f j)),fun j=>dI (Lx b G W j (bC b nB B nO O W G f j)),fun j=>dI (bL b nB B nO O W G f j),fun j=>Lay.Hh (cl nB B nO O W G L (bL b nB B nO O W G f j) false),fun j=>Lay.Hh (cl nB B nO O W G L (bL b nB B nO O W G f j) true)]
def bE (b:dJ) (nB:Nat) (B:Nat->Int) (nO:Nat) (O:Nat->Int) (W G:Int):Int:=if gd b nB B nO O W G<0 then 13 else 0
def bN (b:dJ) (nB:Nat) (B:Nat->Int) (nO:Nat) (O:Nat->Int) (W G:Int):Nat:=if gd b nB B nO O W G<0 then 0 else b.N 0
def FA (b:dJ) (nB:Nat) (B:Nat->Int) (nO:Nat) (O:Nat->Int) (W G L:Int) (f:Nat):fX:=⟨bN b nB B nO O W G,bC b nB B nO O W G f,bN b nB B nO O W G,fun j=>j,fun j=>Ly b G W j (bC b nB B nO O W G f j),fun j=>Lx b G W j (bC b nB B nO O W G f j),bL b nB B nO O W G f,fun j=>(cl nB B nO O W G L (bL b nB B nO O W G f j) false).length,fun j k=>(cl nB B nO O W G L (bL b nB B nO O W G f j) false).getD k 0,fun j=>(cl nB B nO O W G L (bL b nB B nO O W G f j) true).length,fun j k=>(cl nB B nO O W G L (bL b nB B nO O W G f j) true).getD k 0⟩
def bPr (b:dJ) (nB:Nat) (B:Nat->Int) (nO:Nat) (O:Nat->Int) (W G L:Int):ua:=⟨if gd b nB B nO O W G<0 then 0 else Vd b nB B nO O W G L,qI nB B nO O W G L,if gd b nB B nO O W G<0 then 0 else b.N 0+1,fun j=>dX b nB B nO O W G 0 j 0,fun j=>dX b nB B nO O W G 0 j 1,if gd b nB B nO O W G<0 then 0 else b.N 0+1,fun j=>dX b nB B nO O W G 1 j 0,fun j=>dX b nB B nO O W G 1 j 1⟩
section
variable {b:dJ} {nB:Nat} {B:Nat->Int} {nO:Nat} {O:Nat->Int} {W G L:Int} {f i c e:Nat} {x k:Int}
theorem me (h:c%2≠e):dW b nB B nO O W G f i c e=dW b nB B nO O W G f i (c+1) e:=by
 unfold dW
 rw [KA,ae]
 rw [Ry,ai]
 exact fun hx=>h hx.1
theorem xW (hx:pr (dX b nB B nO O W G f i 0) (dX b nB B nO O W G f i 1) (c/2)=x) (hk:kR b nB B nO O W G i c=k) (h1:c%2=e) (h2:(x>=0/\k>=0)/\(dZ b nB B nO O W G f i c e<0\/x+k<dZ b nB B nO O W G f i c e)):((c/2:Nat):Int)=dW b nB B nO O W G f i (c+1) e:=by
 unfold dZ at h2
 unfold dW
 rw [KA,ah]
 rw [Ry,ai,hx,hk]
 exact ⟨h1,h2.1.1,h2.1.2,h2.2⟩
theorem lX (hx:pr (dX b nB B nO O W G f i 0) (dX b nB B nO O W G f i 1) (c/2)=x) (hk:kR b nB B nO O W G i c=k) (h2:x>=0/\k>=0-> ¬dZ b nB B nO O W G f i c e<0/\ ¬x+k<dZ b nB B nO O W G f i c e):dW b nB B nO O W G f i c e=dW b nB B nO O W G f i (c+1) e:=by
 unfold dZ at h2
 unfold dW
 rw [KA,ae]
 rw [Ry,ai,hx,hk]
 exact fun h=>by
  have:=h2 ⟨h.2.1,h.2.2.1⟩
  have:=h.2.2.2
  omega
theorem zW (hf:f<=1) (hx:0<=dX b nB B nO O W G f (b.N 0) f): ∀k,k<=b.N 0->(kx b nB B nO O W G f k=0\/kx b nB B nO O W G f k=1)/\0<=dX b nB B nO O W G f (b.N 0 - k) (kx b nB B nO O W G f k).toNat/\
 (k<b.N 0->(kx b nB B nO O W G f (k+1)=0\/kx b nB B nO O W G f (k+1)=1)/\0<=kR b nB B nO O W G (b.N 0 - k - 1) (2*(kx b nB B nO O W G f (k+1)).toNat+(kx b nB B nO O W G f k).toNat)/\dX b nB B nO O W G f (b.N 0 - k) (kx b nB B nO O W G f k).toNat=dX b nB B nO O W G f (b.N 0 - k - 1) (kx b nB B nO O W G f (k+1)).toNat+kR b nB B nO O W G (b.N 0 - k - 1) (2*(kx b nB B nO O W G f (k+1)).toNat+(kx b nB B nO O W G f k).toNat)/\0<=dX b nB B nO O W G f (b.N 0 - k - 1) (kx b nB B nO O W G f (k+1)).toNat):=by
 have step: ∀k,k<b.N 0->(kx b nB B nO O W G f k=0\/kx b nB B nO O W G f k=1)->0<=dX b nB B nO O W G f (b.N 0 - k) (kx b nB B nO O W G f k).toNat->(kx b nB B nO O W G f (k+1)=0\/kx b nB B nO O W G f (k+1)=1)/\0<=kR b nB B nO O W G (b.N 0 - k - 1) (2*(kx b nB B nO O W G f (k+1)).toNat+(kx b nB B nO O W G f k).toNat)/\dX b nB B nO O W G f (b.N 0 - k) (kx b nB B nO O W G f k).toNat=dX b nB B nO O W G f (b.N 0 - k - 1) (kx b nB B nO O W G f (k+1)).toNat+kR b nB B nO O W G (b.N 0 - k - 1) (2*(kx b nB B nO O W G f (k+1)).toNat+(kx b nB B nO O W G f k).toNat)/\0<=dX b nB B nO O W G f (b.N 0 - k - 1) (kx b nB B nO O W G f (k+1)).toNat:=fun k hk hc hd=>by
  obtain ⟨m,hm⟩: ∃m,b.N 0 - k=m+1:=⟨b.N 0 - k - 1,by omega⟩
  rw [hm] at hd ⊢
  rw [show m+1 - 1=m by omega]
  have hp:kx b nB B nO O W G f (k+1)=dF b nB B nO O W G f (m+1) (kx b nB B nO O W G f k).toNat:=by
   rw [kx,hm]
   rcases hc with h|h<;>rw [h]<;>rfl
  rw [hp]
  have rq:0<=Gk (kR b nB B nO O W G m) (dX b nB B nO O W G f m 0) (dX b nB B nO O W G f m 1) 4 (kx b nB B nO O W G f k).toNat:=hd
  obtain ⟨i1,i2,i3,i4⟩:=Rw 4 _ (by omega) (af _) rq
  have e1:dF b nB B nO O W G f (m+1) (kx b nB B nO O W G f k).toNat=KA (kR b nB B nO O W G m) (dX b nB B nO O W G f m 0) (dX b nB B nO O W G f m 1) 4 (kx b nB B nO O W G f k).toNat:=rfl
  rw [e1]
  generalize KA (kR b nB B nO O W G m) (dX b nB B nO O W G f m 0) (dX b nB B nO O W G f m 1) 4 (kx b nB B nO O W G f k).toNat=q at*
  have e2:pr (dX b nB B nO O W G f m 0) (dX b nB B nO O W G f m 1) q.toNat=dX b nB B nO O W G f m q.toNat:=by rcases i1 with h|h<;>rw [h]<;>rfl
  rw [e2] at i2 i4
  exact ⟨i1,i3,i4,i2⟩
 intro k
 induction k with
 |zero=>
  intro _
  have e0:kx b nB B nO O W G f 0=(f:Int):=rfl
  have h0:(kx b nB B nO O W G f 0=0\/kx b nB B nO O W G f 0=1):=by rw [e0];omega
  have h1:0<=dX b nB B nO O W G f (b.N 0 - 0) (kx b nB B nO O W G f 0).toNat:=by rw [e0];exact hx
  exact ⟨h0,h1,fun hk=>step 0 hk h0 h1⟩
 |succ k ih=>
  intro hk
  obtain ⟨h0,h1,h2⟩:=ih (by omega)
  obtain ⟨j1,j2,j3,j4⟩:=h2 (by omega)
  have j4':0<=dX b nB B nO O W G f (b.N 0 - (k+1)) (kx b nB B nO O W G f (k+1)).toNat:=by rw [show b.N 0 - (k+1)=b.N 0 - k - 1 by omega];exact j4
  exact ⟨j1,j4',fun qz=>step (k+1) qz j1 j4'⟩
end
end Go.Abs
end
