/- Contracts and what they stand on. -/
import Derived.Test.YtoinjphpfpklmaaGreatDoorG15
set_option linter.unusedVariables false
set_option linter.unusedSimpArgs false
section
namespace Go.Abs.Geo
open Go.Abs
section
variable {n:Nat} {X Y:Nat->Int} {g w:Int} {C:Nat->Int}
theorem PU {d:Int} (h:gz n X Y=0) (hE:kP n X Y d=0) (i:Nat):(-1000000<=eO n (dh n X) (dh n Y) d i/\eO n (dh n X) (dh n Y) d i<=1000000)/\ -1000000<=fz n (dh n X) (dh n Y) d i/\fz n (dh n X) (dh n Y) d i<=1000000:=by
 have P:=iZ h
 have hn:0<n:=by have:=P.wL;omega
 obtain ⟨e1,e2⟩:=ze P d
 obtain ⟨b1,b2⟩:=eB (iw hE).2
 rw [<-e1,<-e2]
 exact ⟨b1 _ (bj i hn),b2 _ (bj i hn)⟩
theorem X9 (P:Poly n (dh n X) (dh n Y)) (hn:0<n) (hC: ∀i,i<n->C i=0\/C i=1) (i:Nat):
 ((∃k,Ev (dh n X) (dh n Y) g w (tF n X Y C) i=eO n (dh n X) (dh n Y) g k)\/ ∃k,Ev (dh n X) (dh n Y) g w (tF n X Y C) i=eO n (dh n X) (dh n Y) (g+w) k)/\
 ((∃k,Eu (dh n X) (dh n Y) g w (tF n X Y C) i=fz n (dh n X) (dh n Y) g k)\/ ∃k,Eu (dh n X) (dh n Y) g w (tF n X Y C) i=fz n (dh n X) (dh n Y) (g+w) k)/\
 ((∃k,EA (dh n X) (dh n Y) g w (tF n X Y C) i=eO n (dh n X) (dh n Y) g k)\/ ∃k,EA (dh n X) (dh n Y) g w (tF n X Y C) i=eO n (dh n X) (dh n Y) (g+w) k)/\
 ((∃k,Ez (dh n X) (dh n Y) g w (tF n X Y C) i=fz n (dh n X) (dh n Y) g k)\/ ∃k,Ez (dh n X) (dh n Y) g w (tF n X Y C) i=fz n (dh n X) (dh n Y) (g+w) k):=by
 have t0:=C3 (X:=X) (Y:=Y) hn hC (i+1)
 have t1:=C3 (X:=X) (Y:=Y) hn hC (i+2)
 obtain ⟨o1,o2⟩:=iV P (g+w) i
 obtain ⟨o3,o4⟩:=iV P (g+w) (i+1)
 obtain ⟨n1,n2⟩:=iV P g i
 obtain ⟨n3,n4⟩:=iV P g (i+1)
 have q1:i+1+1=i+2:=rfl
 have q2:i+1+2=i+3:=rfl
 rw [q1,q2] at o3 o4 n3 n4
 have h1:=P.hv (i+1)
 have h0:=P.hv i
 rw [q1,q2] at h1
 have e0: ∀(Z:Nat->Int) k,Z k=Z (k+1)->ux Z k=0:=fun Z k h=>by unfold ux sg;(repeat' split)<;>omega
 have u0:ux (dh n X) i=sg (dh n X (i+1) - dh n X i):=rfl
 have u1:ux (dh n X) (i+1)=sg (dh n X (i+2) - dh n X (i+1)):=rfl
 have u2:ux (dh n X) (i+2)=sg (dh n X (i+3) - dh n X (i+2)):=rfl
 have v0:ux (dh n Y) i=sg (dh n Y (i+1) - dh n Y i):=rfl
 have v1:ux (dh n Y) (i+1)=sg (dh n Y (i+2) - dh n Y (i+1)):=rfl
 have v2:ux (dh n Y) (i+2)=sg (dh n Y (i+3) - dh n Y (i+2)):=rfl
 rw [<-v0,<-v1] at o1 n1
 rw [<-u0,<-u1] at o2 n2
 rw [<-v1,<-v2] at o3 n3
 rw [<-u1,<-u2] at o4 n4
 unfold Ev Eu EA Ez
 rcases h1 with ⟨a1,a2,a3,a4⟩|⟨a1,a2,a3,a4⟩
 ·have b1:dh n X i=dh n X (i+1):=by omega
  have z1:=e0 _ i b1
  have z2:=e0 _ (i+1) a2
  have z3:=e0 _ (i+2) a3
  simp only [z1,z2,z3,ct,bI,bY,Int.zero_add] at*
  refine ⟨?_,.inl ⟨i+1,n2.symm⟩,?_,.inr ⟨i+2,o4.symm⟩⟩
  ·rcases t0 with e|e<;>rw [e]<;>simp only [cL,cp,bI]
   ·exact .inl ⟨i+1,n1.symm⟩
   ·exact .inr ⟨i+1,o1.symm⟩
  ·rcases t1 with e|e<;>rw [e]<;>simp only [cL,cp,bI,bY,Int.sub_self]
   ·exact .inr ⟨i+2,o3.symm⟩
   ·exact .inl ⟨i+2,n3.symm⟩
 ·have b1:dh n Y i=dh n Y (i+1):=by omega
  have z1:=e0 _ i b1
  have z2:=e0 _ (i+1) a1
  have z3:=e0 _ (i+2) a4
  simp only [z1,z2,z3,ct,bI,bY,Int.zero_add] at*
  refine ⟨.inl ⟨i+1,n1.symm⟩,?_,.inr ⟨i+2,o3.symm⟩,?_⟩
  ·rcases t0 with e|e<;>rw [e]<;>simp only [cL,cp,bI]
   ·exact .inl ⟨i+1,n2.symm⟩
   ·exact .inr ⟨i+1,o2.symm⟩
  ·rcases t1 with e|e<;>rw [e]<;>simp only [cL,cp,bI,bY,Int.sub_self]
   ·exact .inr ⟨i+2,o4.symm⟩
   ·exact .inl ⟨i+2,n4.symm⟩
theorem Ya (h:gz n X Y=0) (hg:kP n X Y g=0) (hO:kP n X Y (g+w)=0) (hC: ∀i,i<n->C i=0\/C i=1) {j:Nat} (hj:j<n):
 (-1000000<=nf n X Y g w C j/\nw n X Y g w C j<=1000000)/\ -1000000<=nd n X Y g w C j/\nv n X Y g w C j<=1000000:=by
 have P:=iZ h
 have hn:0<n:=by have:=P.wL;omega
 obtain ⟨k1,k2⟩:=zl hn hj
 have hb:=Bh (g:=g) (w:=w) (C:=C) P ((j+n - 1)%n)
 rw [k2] at hb
 obtain ⟨r1,r2,r3,r4⟩:=X9 (g:=g) (w:=w) P hn hC ((j+n - 1)%n)
 have m1:=fun k=>PU h hg k
 have m2:=fun k=>PU h hO k
 obtain ⟨b1,b2,b3,b4⟩:=hb
 have g1: -1000000<=Ev (dh n X) (dh n Y) g w (tF n X Y C) ((j+n - 1)%n)/\Ev (dh n X) (dh n Y) g w (tF n X Y C) ((j+n - 1)%n)<=1000000:=by
  rcases r1 with ⟨k,e⟩|⟨k,e⟩<;>rw [e]
  ·exact (m1 k).1
  ·exact (m2 k).1
 have g2: -1000000<=Eu (dh n X) (dh n Y) g w (tF n X Y C) ((j+n - 1)%n)/\Eu (dh n X) (dh n Y) g w (tF n X Y C) ((j+n - 1)%n)<=1000000:=by
  rcases r2 with ⟨k,e⟩|⟨k,e⟩<;>rw [e]
  ·exact (m1 k).2
  ·exact (m2 k).2
 have g3: -1000000<=EA (dh n X) (dh n Y) g w (tF n X Y C) ((j+n - 1)%n)/\EA (dh n X) (dh n Y) g w (tF n X Y C) ((j+n - 1)%n)<=1000000:=by
  rcases r3 with ⟨k,e⟩|⟨k,e⟩<;>rw [e]
  ·exact (m1 k).1
  ·exact (m2 k).1
 have g4: -1000000<=Ez (dh n X) (dh n Y) g w (tF n X Y C) ((j+n - 1)%n)/\Ez (dh n X) (dh n Y) g w (tF n X Y C) ((j+n - 1)%n)<=1000000:=by
  rcases r4 with ⟨k,e⟩|⟨k,e⟩<;>rw [e]
  ·exact (m1 k).2
  ·exact (m2 k).2
 rw [b1,b2,b3,b4]
 clear b1 b2 b3 b4 r1 r2 r3 r4 m1 m2
 omega
theorem Lm (n:Nat) (X Y:Nat->Int) (i:Int):(jY (dD n X Y i)=1/\jX (dD n X Y i)=0)\/(jY (dD n X Y i)=0/\jX (dD n X Y i)=1)\/(jY (dD n X Y i)= -1/\jX (dD n X Y i)=0)\/(jY (dD n X Y i)=0/\jX (dD n X Y i)= -1):=by
 unfold dD ns
 (repeat' split)<;>decide
theorem Lw (hw:0<w) (j:Nat) (hL:0<=Oq n X Y g w C j):(0<Oq n X Y g w C j->nf n X Y g w C j<nw n X Y g w C j/\nd n X Y g w C j<nv n X Y g w C j)/\(Oq n X Y g w C j=0->(nw n X Y g w C j - nf n X Y g w C j)*(nv n X Y g w C j - nd n X Y g w C j)=0):=by
 unfold Oq nf nw nd nv jG lC lB lA lz qB qA at*
 generalize ft n X Y g w j (C j)=p at*
 generalize gA n X Y g w j (C ((j+1)%n))=q at*
 rcases Lm n X Y j with ⟨e1,e2⟩|⟨e1,e2⟩|⟨e1,e2⟩|⟨e1,e2⟩<;>rw [e1,e2]<;>simp only [ct,Int.mul_one,cW,bI,bY]
 ·exact ⟨fun h=>by omega,fun h=>by rw [show q=p by omega];rw [show max (X (ix n j)+p) (X (ix n j)+p) - min (X (ix n j)+p) (X (ix n j)+p)=0 by omega,cL]⟩
 ·exact ⟨fun h=>by omega,fun h=>by rw [show q=p by omega];rw [show max (Y (ix n j)+p) (Y (ix n j)+p) - min (Y (ix n j)+p) (Y (ix n j)+p)=0 by omega,ct]⟩
 ·exact ⟨fun h=>by omega,fun h=>by rw [show q=p by omega];rw [show max (X (ix n j)+ -p) (X (ix n j)+ -p) - min (X (ix n j)+ -p) (X (ix n j)+ -p)=0 by omega,cL]⟩
 ·exact ⟨fun h=>by omega,fun h=>by rw [show q=p by omega];rw [show max (Y (ix n j)+ -p) (Y (ix n j)+ -p) - min (Y (ix n j)+ -p) (Y (ix n j)+ -p)=0 by omega,ct]⟩
theorem Tq (hw:0<=w) (j:Nat) {a e:Int} (ha:a=0\/a=1) (he:e=0\/e=1) (hL:0<=jG n X Y g w (j:Nat) a e):
 (lC n X Y g w (j:Nat) 1 0<=lC n X Y g w (j:Nat) a e/\lB n X Y g w (j:Nat) a e<=lB n X Y g w (j:Nat) 1 0)/\lA n X Y g w (j:Nat) 1 0<=lA n X Y g w (j:Nat) a e/\lz n X Y g w (j:Nat) a e<=lz n X Y g w (j:Nat) 1 0:=by
 have k1:ft n X Y g w (j:Nat) 1<=ft n X Y g w (j:Nat) a:=by
  unfold ft
  rcases ha with rfl|rfl<;>split<;>simp only [cp,cL,Int.sub_self,bY]<;>omega
 have k2:gA n X Y g w (j:Nat) e<=gA n X Y g w (j:Nat) 0:=by
  unfold gA
  rcases he with rfl|rfl<;>split<;>simp only [cp,cL,Int.sub_self,bY]<;>omega
 unfold jG at hL
 unfold lC lB lA lz qB qA
 generalize ft n X Y g w (j:Nat) 1=p at*
 generalize gA n X Y g w (j:Nat) 0=q at*
 generalize ft n X Y g w (j:Nat) a=p' at*
 generalize gA n X Y g w (j:Nat) e=q' at*
 rcases Lm n X Y j with ⟨e1,e2⟩|⟨e1,e2⟩|⟨e1,e2⟩|⟨e1,e2⟩<;>rw [e1,e2]<;>simp only [ct,Int.mul_one,cW,bI,bY]<;>omega
end
end Go.Abs.Geo
end
section
namespace Go.Abs.Geo
open Go.Abs
theorem E4 {n:Nat} {X:Nat->Int} {m:Nat} {X':Nat->Int} {i:Nat} (hi:i+1<(gr n X m X').length):(gr n X m X').getD i 0<(gr n X m X').getD (i+1) 0/\(∀k,k<n->X k<=(gr n X m X').getD i 0\/(gr n X m X').getD (i+1) 0<=X k)/\(∀k,k<m->X' k<=(gr n X m X').getD i 0\/(gr n X m X').getD (i+1) 0<=X' k):=by
 obtain ⟨h1,h2⟩:=iO (ff (N2 n m) (X2 X X') 2)
 have dK:=pV h1 (show i<i+1 by omega) hi
 have key: ∀x,x∈ff (N2 n m) (X2 X X') 2->x<=(gr n X m X').getD i 0\/(gr n X m X').getD (i+1) 0<=x:=fun x hx=>FC h1 hi ((h2 x).2 hx)
 exact ⟨dK,fun k hk=>key _ (o6 (i:=0) (k:=k) (by omega) hk),fun k hk=>key _ (o6 (i:=1) (k:=k) (by omega) hk)⟩
section
variable {n:Nat} {X Y:Nat->Int} {d:Int}
end
end Go.Abs.Geo
end
section
set_option maxRecDepth 100000
namespace Go.Abs
open Go
open Geo
theorem Iu {l:List Int} {a:Int} (h1: ∃x∈l,x<=a) (h2: ∃y∈l,a<y) (h:Ou l): ∃p,p+1<l.length/\l.getD p 0<=a/\a<l.getD (p+1) 0:=by
 obtain ⟨x,hx,hxa⟩:=h1
 obtain ⟨y,hy,hya⟩:=h2
 obtain ⟨i,hi,ei⟩:=bX.1 hx
 obtain ⟨k,hk,ek⟩:=bX.1 hy
 have e1:l.getD i 0=x:=by simpa [hi] using ei
 have e2:l.getD k 0=y:=by simpa [hk] using ek
 have Uf:i<k:=by
  rcases aU i k with h3|h3
  ·exact h3
  ·exfalso
   rcases Nat.eq_or_lt_of_le h3 with h4|h4
   ·subst h4;omega
   ·have:=pV h h4 hi;omega
 have key: ∀m,i+m<l.length->a<l.getD (i+m) 0-> ∃p,p+1<l.length/\l.getD p 0<=a/\a<l.getD (p+1) 0:=fun m=>by
  induction m with
  |zero=>intro _ h3;rw [bU] at h3;omega
  |succ m ih=>
   intro h3 h4
   rcases Int.lt_or_le a (l.getD (i+m) 0) with h5|h5
   ·exact ih (by omega) h5
   ·exact ⟨i+m,h3,h5,h4⟩
 exact key (k - i) (by omega) (by rw [show i+(k - i)=k by omega];omega)
section
variable {n:Nat} {X Y:Nat->Int}
theorem S3 {a b:Int} (hn:0<n) (h:gz n X Y=0) (h1:wp n (dh n X) (dh n Y) a b≠0):((∃k,k<n/\X k<=a)/\ ∃k,k<n/\a<X k)/\(∃k,k<n/\Y k<=b)/\ ∃k,k<n/\b<Y k:=by
 have P:=iZ h
 have h5: ∃i,i<n/\sv (dh n X) (dh n Y) a b i≠0:=by
  refine bQ fun hn=> ?_
  unfold wp at h1
  rw [fV (g:=fun _=>0) fun i hi=>bQ fun h=>hn ⟨i,hi,h⟩,gM] at h1
  exact h1 rfl
 have h6: ∃i,i<n/\sh (dh n X) (dh n Y) a b i≠0:=by
  rw [K7 P.px P.py P.MU] at h1
  refine bQ fun hn=> ?_
  unfold wh at h1
  rw [fV (g:=fun _=>0) fun i hi=>bQ fun h=>hn ⟨i,hi,h⟩,gM] at h1
  exact h1 rfl
 obtain ⟨i,_,h7⟩:=h5
 obtain ⟨k,_,h8⟩:=h6
 have l1:=bj i hn
 have l2:=bj (i+1) hn
 have l3:=bj k hn
 have l4:=bj (k+1) hn
 unfold sv dh at h7
 unfold sh dh at h8
 refine ⟨⟨?_,⟨i%n,l1,?_⟩⟩,?_,?_⟩
 ·by_cases e:X (k%n)<=a
  ·exact ⟨_,l3,e⟩
  ·refine ⟨_,l4,?_⟩
   (repeat' split at h8)<;>omega
 ·(repeat' split at h7)<;>omega
 ·by_cases e:Y (i%n)<=b
  ·exact ⟨_,l1,e⟩
  ·refine ⟨_,l2,?_⟩
   (repeat' split at h7)<;>omega
 ·by_cases e:b<Y (i%n)
  ·exact ⟨_,l1,e⟩
  ·refine ⟨_,l2,?_⟩
   (repeat' split at h7)<;>omega
theorem Zv {m:Nat} {X' Y':Nat->Int} (h:gz n X Y=0) (h':gz m X' Y'=0) (hc:nu n X Y m X' Y'=true) {a b:Int} (hw:wp m (dh m X') (dh m Y') a b=1):wp n (dh n X) (dh n Y) a b=1:=by
 have hn:=fp h
 have hm:=fp h'
 have P:=iZ h
 have Q:=iZ h'
 obtain ⟨⟨⟨k1,l1,g1⟩,k2,l2,g2⟩,⟨k3,l3,g3⟩,k4,l4,g4⟩:=S3 (by omega) h' (show wp m (dh m X') (dh m Y') a b≠0 by omega)
 have mx: ∀k,k<m->X' k∈gr n X m X':=fun k hk=>Q4.2 (.inr ⟨k,hk,rfl⟩)
 have my: ∀k,k<m->Y' k∈gr n Y m Y':=fun k hk=>Q4.2 (.inr ⟨k,hk,rfl⟩)
 obtain ⟨p,hp,p1,p2⟩:=Iu ⟨_,mx k1 l1,g1⟩ ⟨_,mx k2 l2,g2⟩ (Q5 n X m X')
 obtain ⟨q,hq,q1,q2⟩:=Iu ⟨_,my k3 l3,g3⟩ ⟨_,my k4 l4,g4⟩ (Q5 n Y m Y')
 have eZ:=(RG n X Y m X' Y').1 hc p q hp hq
 obtain ⟨x0,x1,x2⟩:=E4 hp
 obtain ⟨y0,y1,y2⟩:=E4 hq
 generalize (gr n X m X').getD p 0=u at*
 generalize (gr n X m X').getD (p+1) 0=u' at*
 generalize (gr n Y m Y').getD q 0=v at*
 generalize (gr n Y m Y').getD (q+1) 0=v' at*
 have L1:=Kk P (a:=a) (b:=b) (x:=u+u') (y:=v+v') (fun i=>by
  have:=x1 _ (bj i (show 0<n by omega))
  unfold dh;omega) (fun i=>by
  have:=y1 _ (bj i (show 0<n by omega))
  unfold dh;omega)
 have L2:=Kk Q (a:=a) (b:=b) (x:=u+u') (y:=v+v') (fun i=>by
  have:=x2 _ (bj i (show 0<m by omega))
  unfold dh;omega) (fun i=>by
  have:=y2 _ (bj i (show 0<m by omega))
  unfold dh;omega)
 have c1:=L2.2 (by omega)
 dsimp only at eZ
 rw [c1,Bool.true_and,bK] at eZ
 have c2:=L1.1 eZ
 have:=(vW h).2 a b
 omega
theorem TI {x1 x2 y1 y2:Int} (h:gz n X Y=0) (hx:x1<x2) (hy:y1<y2) (ho: ∀a b,x1<=a->a<x2->y1<=b->b<y2->wp n (dh n X) (dh n Y) a b=0):ti n X Y x1 x2 y1 y2=false:=by
 have hn:=fp h
 have P:=iZ h
 unfold ti
 rw [Qc]
 intro p q hp hq
 obtain ⟨a0,a1,a2⟩:=E4 hp
 obtain ⟨b0,b1,b2⟩:=E4 hq
 dsimp only
 rw [QX _ _ _ _ _ _ hx hy]
 have s0:=a2 0 (by omega)
 have s1:=a2 1 (by omega)
 have t0:=b2 0 (by omega)
 have t2:=b2 2 (by omega)
 change x1<=_\/_<=x1 at s0
 change x2<=_\/_<=x2 at s1
 change y1<=_\/_<=y1 at t0
 change y2<=_\/_<=y2 at t2
 generalize (gr n X 4 (BL x1 x2)).getD p 0=u at*
 generalize (gr n X 4 (BL x1 x2)).getD (p+1) 0=u' at*
 generalize (gr n Y 4 (BK y1 y2)).getD q 0=v at*
 generalize (gr n Y 4 (BK y1 y2)).getD (q+1) 0=v' at*
 rw [Bool.and_eq_false_imp,ai]
 intro hs
 have L1:=Kk P (a:=u) (b:=v) (x:=u+u') (y:=v+v') (fun i=>by
  have:=a1 _ (bj i (show 0<n by omega))
  unfold dh;omega) (fun i=>by
  have:=b1 _ (bj i (show 0<n by omega))
  unfold dh;omega)
 have:=ho u v (by omega) (by omega) (by omega) (by omega)
 rw [this] at L1
 rw [<-Bool.not_eq_true]
 exact fun h9=>absurd (L1.1 h9) (by decide)
end
section
variable {b:dJ}
theorem Qg (hc:fA b=0) {x y:Int}: ∀i,i<b.nS->wp (b.N i) (dh (b.N i) (b.X i)) (dh (b.N i) (b.Y i)) x y=1->wp (b.N 0) (dh (b.N 0) (b.X 0)) (dh (b.N 0) (b.Y 0)) x y=1
 |0,_,h=>h
 |i+1,hi,h=>by
  obtain ⟨c1,c2,c3,c4,c5,c6⟩:=mD hc
  obtain ⟨f1,f2,f3⟩:=mA c2 c3 c4
  have h1:=c3 (i+1) hi
  have h2:nu (b.N i) (b.X i) (b.Y i) (b.N (i+1)) (b.X (i+1)) (b.Y (i+1))=true:=by
   unfold pg at h1
   rw [ae (fun h3=>h3 (f1 (i+1) hi))] at h1
   split at h1
   ·cases h1
   ·split at h1
    ·cases h1
    ·rename_i h3
     rw [Nat.add_sub_cancel] at h3
     cases h4:nu (b.N i) (b.X i) (b.Y i) (b.N (i+1)) (b.X (i+1)) (b.Y (i+1)) with
     |true=>rfl
     |false=>exact absurd ⟨by omega,h4⟩ h3
  exact Qg hc i (by omega) (Zv (f1 i (by omega)) (f1 (i+1) hi) h2 h)
theorem US (hc:fA b=0) {x1 y1 z1 x2 y2 z2:Int} (hx:x1<x2) (hy:y1<y2) (ho: ∀a c,x1<=a->a<x2->y1<=c->c<y2->wp (b.N 0) (dh (b.N 0) (b.X 0)) (dh (b.N 0) (b.Y 0)) a c=0):jh b x1 y1 z1 x2 y2 z2=false:=by
 obtain ⟨c1,c2,c3,c4,c5,c6⟩:=mD hc
 obtain ⟨f1,f2,f3⟩:=mA c2 c3 c4
 unfold jh
 rw [bK,ai]
 intro i hi
 unfold sX
 rw [TI (f1 i hi) hx hy (fun a c h1 h2 h3 h4=>by
  have h5:=ho a c h1 h2 h3 h4
  have h6:=(vW (f1 i hi)).2 a c
  rcases h6 with h6|h6
  ·exact h6
  ·have:=Qg hc i hi h6;omega),Bool.and_false]
end
end Go.Abs
end
section
set_option maxRecDepth 100000
namespace Go.Abs
open Go
open Geo
def Sz (b:dJ) (G W:Int) (l:fX) (q:List Nat) (k:Nat):Int:=(Go.Abs.nw b G W l q k - Go.Abs.nf b G W l q k)*(Go.Abs.nv b G W l q k - Go.Abs.nd b G W l q k)
def KF (b:dJ) (G W:Int) (l:fX) (q:List Nat):Nat->Int
 |0=>0
 |k+1=>KF b G W l q k+Sz b G W l q k
theorem P4 (n i:Nat):(((i:Int)+1)%(n:Int)).toNat=(i+1)%n:=by
 rw [show ((i:Int)+1)=((i+1:Nat):Int) by omega,<-Int.natCast_emod,Int.toNat_natCast]
theorem rP (b:dJ) (G W:Int) (l:fX) (q:List Nat) (k:Nat):Go.Abs.nf b G W l q k=Geo.nf (b.N 0) (b.X 0) (b.Y 0) G W l.C (q.getD k 0)/\Go.Abs.nw b G W l q k=Geo.nw (b.N 0) (b.X 0) (b.Y 0) G W l.C (q.getD k 0)/\Go.Abs.nd b G W l q k=Geo.nd (b.N 0) (b.X 0) (b.Y 0) G W l.C (q.getD k 0)/\Go.Abs.nv b G W l q k=Geo.nv (b.N 0) (b.X 0) (b.Y 0) G W l.C (q.getD k 0):=by
 unfold Go.Abs.nf Go.Abs.nw Go.Abs.nd Go.Abs.nv Geo.nf Geo.nw Geo.nd Geo.nv LQ
 rw [P4]
 exact ⟨rfl,rfl,rfl,rfl⟩
theorem zZ (l:fX): ∀n,(dn l n).Pairwise (·<·)
 |0=> .nil
 |n+1=>by
  rw [dn]
  split
  ·refine List.pairwise_append.2 ⟨zZ l n,List.pairwise_singleton _ _,fun x hx y hy=> ?_⟩
   rw [au.1 hy]
   exact (yZ l n x hx).1
  ·exact zZ l n
theorem G0 {l:fX} {n k:Nat} (hk:k<(dn l n).length):(dn l n).getD k 0<n/\0<l.Ln ((dn l n).getD k 0):=by
 have e:(dn l n).getD k 0∈dn l n:=by
  rw [bc,ak hk]
  exact List.getElem_mem hk
 exact yZ l n _ e
theorem q_lt {l:fX} {n i k:Nat} (Uf:i<k) (hk:k<(dn l n).length):(dn l n).getD i 0<(dn l n).getD k 0:=by
 have:=List.pairwise_iff_getElem.1 (zZ l n) i k (by omega) hk Uf
 simpa [hk,show i<(dn l n).length by omega] using this
theorem Mo (b:dJ) (G W:Int) (l:fX) {f:Nat->Int}: ∀n,(∀j,j<n->f j=(Geo.nw (b.N 0) (b.X 0) (b.Y 0) G W l.C j - Geo.nf (b.N 0) (b.X 0) (b.Y 0) G W l.C j)*(Geo.nv (b.N 0) (b.X 0) (b.Y 0) G W l.C j - Geo.nd (b.N 0) (b.X 0) (b.Y 0) G W l.C j))->(∀j,j<n-> ¬l.Ln j>0->f j=0)->KF b G W l (dn l n) (dn l n).length=sm f n
 |0,_,_=>rfl
 |n+1,h,h0=>by
  have ih:=Mo b G W l n (fun j hj=>h j (by omega)) (fun j hj=>h0 j (by omega))
  have pre: ∀(q:List Nat) (x:Nat) k,k<=q.length->KF b G W l (q++[x]) k=KF b G W l q k:=fun q x k=>by
   induction k with
   |zero=>intro _;rfl
   |succ k ihk=>
    intro hk
    have e:(q++[x]).getD k 0=q.getD k 0:=by
     rw [bc,bc,aM (by omega)]
    have t:Sz b G W l (q++[x]) k=Sz b G W l q k:=by
     unfold Sz
     obtain ⟨e1,e2,e3,e4⟩:=rP b G W l (q++[x]) k
     obtain ⟨f1,f2,f3,f4⟩:=rP b G W l q k
     rw [e1,e2,e3,e4,f1,f2,f3,f4,e]
    rw [KF,KF,ihk (by omega),t]
  rw [sm]
  by_cases hp:l.Ln n>0
  ·rw [G3 hp,aO,cB,KF,pre _ _ _ (af _),ih]
   have e:(dn l n++[n]).getD (dn l n).length 0=n:=by
    rw [bc,a7 (af _),cM]
    rfl
   unfold Sz
   obtain ⟨e1,e2,e3,e4⟩:=rP b G W l (dn l n++[n]) (dn l n).length
   rw [e1,e2,e3,e4,e,h n (by omega)]
  ·rw [LM hp,ih,h0 n (by omega) hp,bI]
section
variable {b:dJ} {nB:Nat} {B:Nat->Int} {nO:Nat} {O:Nat->Int} {W G L:Int}
theorem iA (hE:Ii b nB B nO O W G L=0) {i:Nat} (hi:i<b.N 0):((dM b nB B nO O W G L).C i=0\/(dM b nB B nO O W G L).C i=1)/\0<=Geo.Oq (b.N 0) (b.X 0) (b.Y 0) G W (dM b nB B nO O W G L).C i/\(dM b nB B nO O W G L).Ln i=Geo.Oq (b.N 0) (b.X 0) (b.Y 0) G W (dM b nB B nO O W G L).C i:=by
 obtain ⟨h0,hl,ht,hly,e,hf,hx,hb⟩:=sW hE
 obtain ⟨p0,p1,p2,_⟩:=we hf hx hi
 obtain ⟨c1,_⟩:=Ie p2
 have e2:bL b nB B nO O W G (gd b nB B nO O W G).toNat i=Geo.Oq (b.N 0) (b.X 0) (b.Y 0) G W (bC b nB B nO O W G (gd b nB B nO O W G).toNat) i:=by
  unfold bL Geo.Oq ko
  rw [P4]
 rw [e]
 exact ⟨p0,by show 0<=Geo.Oq (b.N 0) (b.X 0) (b.Y 0) G W (bC b nB B nO O W G (gd b nB B nO O W G).toNat) i;rw [<-e2];exact c1,e2⟩
theorem S9 (h0:ja b nB B nO O W G L=0):0<gq b.dr L/\gq b.dr L<=1000000:=by
 obtain ⟨hc,hs,h3,h4,h5,h6,h7⟩:=fu h0
 obtain ⟨_,l1,l2⟩:=fP hs
 obtain ⟨b1,b2,b3,b4,b5⟩:=js hc
 have d0:0<=b.dr/L:=bZ b3 (by omega)
 unfold gq
 generalize b.dr/L=d at*
 have m1:1*1<=(d+1)*L:=Int.mul_le_mul (by omega) (by omega) (by omega) (by omega)
 have m2:(d+1)*L<=41*10000:=Int.mul_le_mul (by omega) (by omega) (by omega) (by omega)
 omega
section
variable (hE:Ii b nB B nO O W G L=0)
include hE
theorem zj {k:Nat} (hk:k<(dn (dM b nB B nO O W G L) (b.N 0)).length):
 ((-1000000<=Go.Abs.nf b G W (dM b nB B nO O W G L) (dn (dM b nB B nO O W G L) (b.N 0)) k/\Go.Abs.nw b G W (dM b nB B nO O W G L) (dn (dM b nB B nO O W G L) (b.N 0)) k<=1000000)/\ -1000000<=Go.Abs.nd b G W (dM b nB B nO O W G L) (dn (dM b nB B nO O W G L) (b.N 0)) k/\Go.Abs.nv b G W (dM b nB B nO O W G L) (dn (dM b nB B nO O W G L) (b.N 0)) k<=1000000)/\
 Go.Abs.nf b G W (dM b nB B nO O W G L) (dn (dM b nB B nO O W G L) (b.N 0)) k<Go.Abs.nw b G W (dM b nB B nO O W G L) (dn (dM b nB B nO O W G L) (b.N 0)) k/\Go.Abs.nd b G W (dM b nB B nO O W G L) (dn (dM b nB B nO O W G L) (b.N 0)) k<Go.Abs.nv b G W (dM b nB B nO O W G L) (dn (dM b nB B nO O W G L) (b.N 0)) k:=by
 have h0:=(sW hE).1
 obtain ⟨hc,hs,h3,h4,h5,h6,h7⟩:=fu h0
 obtain ⟨b1,b2,_⟩:=js hc
 have g1:=(fP hs).1
 unfold j8 at g1
 obtain ⟨m1,m2⟩:=G0 hk
 obtain ⟨e1,e2,e3,e4⟩:=rP b G W (dM b nB B nO O W G L) (dn (dM b nB B nO O W G L) (b.N 0)) k
 rw [e1,e2,e3,e4]
 have r:=iA hE m1
 have hw:0<W:=by omega
 exact ⟨Ya b2 h5 h6 (fun i hi=>(iA hE hi).1) m1,(Lw hw _ r.2.1).1 (by rw [<-r.2.2];exact m2)⟩
theorem RZ {k:Nat} (hk:k<(dn (dM b nB B nO O W G L) (b.N 0)).length):mb (Go.Abs.nf b G W (dM b nB B nO O W G L) (dn (dM b nB B nO O W G L) (b.N 0)) k) (Go.Abs.nd b G W (dM b nB B nO O W G L) (dn (dM b nB B nO O W G L) (b.N 0)) k) 0 (Go.Abs.nw b G W (dM b nB B nO O W G L) (dn (dM b nB B nO O W G L) (b.N 0)) k) (Go.Abs.nv b G W (dM b nB B nO O W G L) (dn (dM b nB B nO O W G L) (b.N 0)) k) (gq b.dr L)=0:=by
 obtain ⟨⟨⟨d1,d2⟩,d3,d4⟩,d5,d6⟩:=zj hE hk
 obtain ⟨t1,t2⟩:=S9 (sW hE).1
 unfold mb
 rw [ae,ae (by omega)]
 unfold ir
 simp only [ai]
 omega
theorem UR {k:Nat} (hk:k<(dn (dM b nB B nO O W G L) (b.N 0)).length) (z1 z2:Int):jh b (Go.Abs.nf b G W (dM b nB B nO O W G L) (dn (dM b nB B nO O W G L) (b.N 0)) k) (Go.Abs.nd b G W (dM b nB B nO O W G L) (dn (dM b nB B nO O W G L) (b.N 0)) k) z1 (Go.Abs.nw b G W (dM b nB B nO O W G L) (dn (dM b nB B nO O W G L) (b.N 0)) k) (Go.Abs.nv b G W (dM b nB B nO O W G L) (dn (dM b nB B nO O W G L) (b.N 0)) k) z2=false:=by
 have h0:=(sW hE).1
 obtain ⟨hc,hs,h3,h4,h5,h6,h7⟩:=fu h0
 obtain ⟨b1,b2,_⟩:=js hc
 have g1:=(fP hs).1
 unfold j8 at g1
 obtain ⟨_,d5,d6⟩:=zj hE hk
 obtain ⟨m1,m2⟩:=G0 hk
 obtain ⟨e1,e2,e3,e4⟩:=rP b G W (dM b nB B nO O W G L) (dn (dM b nB B nO O W G L) (b.N 0)) k
 rw [e1,e2,e3,e4] at*
 exact US hc d5 d6 fun a c q1 q2 q3 q4=>Ts b2 (by omega) (by omega) h5 h6 (fun i hi=>(iA hE hi).1) (fun i hi=>(iA hE hi).2.1) m1 ⟨q1,q2⟩ ⟨q3,q4⟩
theorem RY {k:Nat} (hk:k<(dn (dM b nB B nO O W G L) (b.N 0)).length) {j:Nat} (hj:j<b.nB):Dn b (Go.Abs.nf b G W (dM b nB B nO O W G L) (dn (dM b nB B nO O W G L) (b.N 0)) k) (Go.Abs.nd b G W (dM b nB B nO O W G L) (dn (dM b nB B nO O W G L) (b.N 0)) k) 0 (Go.Abs.nw b G W (dM b nB B nO O W G L) (dn (dM b nB B nO O W G L) (b.N 0)) k) (Go.Abs.nv b G W (dM b nB B nO O W G L) (dn (dM b nB B nO O W G L) (b.N 0)) k) (gq b.dr L) j=false:=by
 have h0:=(sW hE).1
 obtain ⟨hc,hs,h3,h4,h5,h6,h7⟩:=fu h0
 obtain ⟨b1,b2,_⟩:=js hc
 have g1:=(fP hs).1
 unfold j8 at g1
 obtain ⟨m1,m2⟩:=G0 hk
 obtain ⟨e1,e2,e3,e4⟩:=rP b G W (dM b nB B nO O W G L) (dn (dM b nB B nO O W G L) (b.N 0)) k
 rw [e1,e2,e3,e4]
 have r1:=iA hE m1
 have r2:=iA hE (show ((dn (dM b nB B nO O W G L) (b.N 0)).getD k 0+1)%b.N 0<b.N 0 from bj _ (by omega))
 have Oj:=Tq (n:=b.N 0) (X:=b.X 0) (Y:=b.Y 0) (g:=G) (w:=W) (by omega) ((dn (dM b nB B nO O W G L) (b.N 0)).getD k 0) r1.1 r2.1 r1.2.1
 unfold oa at h7
 rw [ai] at h7
 have h8:=h7 _ m1 j hj
 unfold jU Dn j5 at h8
 unfold Dn j5 Geo.nf Geo.nw Geo.nd Geo.nv
 rw [an] at h8 ⊢
 omega
theorem NM {i k:Nat} (Uf:k<i) (hi:i<(dn (dM b nB B nO O W G L) (b.N 0)).length) (z1 z2 z3 z4:Int):j5 (Go.Abs.nf b G W (dM b nB B nO O W G L) (dn (dM b nB B nO O W G L) (b.N 0)) i) (Go.Abs.nd b G W (dM b nB B nO O W G L) (dn (dM b nB B nO O W G L) (b.N 0)) i) z1 (Go.Abs.nw b G W (dM b nB B nO O W G L) (dn (dM b nB B nO O W G L) (b.N 0)) i) (Go.Abs.nv b G W (dM b nB B nO O W G L) (dn (dM b nB B nO O W G L) (b.N 0)) i) z2
 (Go.Abs.nf b G W (dM b nB B nO O W G L) (dn (dM b nB B nO O W G L) (b.N 0)) k) (Go.Abs.nd b G W (dM b nB B nO O W G L) (dn (dM b nB B nO O W G L) (b.N 0)) k) z3 (Go.Abs.nw b G W (dM b nB B nO O W G L) (dn (dM b nB B nO O W G L) (b.N 0)) k) (Go.Abs.nv b G W (dM b nB B nO O W G L) (dn (dM b nB B nO O W G L) (b.N 0)) k) z4=false:=by
 have h0:=(sW hE).1
 obtain ⟨hc,hs,h3,h4,h5,h6,h7⟩:=fu h0
 obtain ⟨b1,b2,_⟩:=js hc
 have g1:=(fP hs).1
 unfold j8 at g1
 have hl:=q_lt Uf hi
 obtain ⟨m1,_⟩:=G0 hi
 obtain ⟨m3,_⟩:=G0 (l:=dM b nB B nO O W G L) (n:=b.N 0) (k:=k) (by omega)
 obtain ⟨e1,e2,e3,e4⟩:=rP b G W (dM b nB B nO O W G L) (dn (dM b nB B nO O W G L) (b.N 0)) i
 obtain ⟨f1,f2,f3,f4⟩:=rP b G W (dM b nB B nO O W G L) (dn (dM b nB B nO O W G L) (b.N 0)) k
 rw [e1,e2,e3,e4,f1,f2,f3,f4]
 unfold j5
 rw [an]
 intro ⟨hx,hy,_⟩
 exact MQ b2 (by omega) (by omega) h5 h6 (fun i hi=>(iA hE hi).1) (fun i hi=>(iA hE hi).2.1) m1 m3 (by omega) (a:=max (Geo.nf (b.N 0) (b.X 0) (b.Y 0) G W (dM b nB B nO O W G L).C ((dn (dM b nB B nO O W G L) (b.N 0)).getD i 0)) (Geo.nf (b.N 0) (b.X 0) (b.Y 0) G W (dM b nB B nO O W G L).C ((dn (dM b nB B nO O W G L) (b.N 0)).getD k 0)))
  (b:=max (Geo.nd (b.N 0) (b.X 0) (b.Y 0) G W (dM b nB B nO O W G L).C ((dn (dM b nB B nO O W G L) (b.N 0)).getD i 0)) (Geo.nd (b.N 0) (b.X 0) (b.Y 0) G W (dM b nB B nO O W G L).C ((dn (dM b nB B nO O W G L) (b.N 0)).getD k 0))) (by omega) (by omega) (by omega) (by omega)
theorem RU {k:Nat} (hk:k<(dn (dM b nB B nO O W G L) (b.N 0)).length):0<=Sz b G W (dM b nB B nO O W G L) (dn (dM b nB B nO O W G L) (b.N 0)) k/\Sz b G W (dM b nB B nO O W G L) (dn (dM b nB B nO O W G L) (b.N 0)) k<=4000000000000:=by
 obtain ⟨⟨⟨d1,d2⟩,d3,d4⟩,d5,d6⟩:=zj hE hk
 unfold Sz
 refine ⟨Int.mul_nonneg (by omega) (by omega),?_⟩
 exact Int.le_trans (Int.mul_le_mul (c:=2000000) (d:=2000000) (by omega) (by omega) (by omega) (by omega)) (by decide)
theorem Fv: ∀k,k<=(dn (dM b nB B nO O W G L) (b.N 0)).length->0<=KF b G W (dM b nB B nO O W G L) (dn (dM b nB B nO O W G L) (b.N 0)) k/\KF b G W (dM b nB B nO O W G L) (dn (dM b nB B nO O W G L) (b.N 0)) k<=4000000000000*k
 |0,_=>⟨cO _,cO _⟩
 |k+1,h=>by
  have h1:=Fv k (by omega)
  have h2:=RU hE (k:=k) (by omega)
  rw [KF]
  omega
theorem ZA:KF b G W (dM b nB B nO O W G L) (dn (dM b nB B nO O W G L) (b.N 0)) (dn (dM b nB B nO O W G L) (b.N 0)).length=Ot (b.N 0) (pA (b.N 0) (b.X 0) (b.Y 0) (G+W)) (pz (b.N 0) (b.X 0) (b.Y 0) (G+W)) - Ot (b.N 0) (pA (b.N 0) (b.X 0) (b.Y 0) G) (pz (b.N 0) (b.X 0) (b.Y 0) G):=by
 have h0:=(sW hE).1
 obtain ⟨hc,hs,h3,h4,h5,h6,h7⟩:=fu h0
 obtain ⟨b1,b2,_⟩:=js hc
 have g1:=(fP hs).1
 unfold j8 at g1
 have k1:=(iw h5).2
 have k2:=(iw h6).2
 rw [Ot,Ot,ae (by rw [k2];simp),ae (by rw [k1];simp)]
 rw [<-Px b2 (by omega) (by omega) h5 h6 (fun i hi=>(iA hE hi).1) (fun i hi=>(iA hE hi).2.1)]
 refine Mo b G W _ (b.N 0) (fun j _=>rfl) fun j hj hp=> ?_
 have r:=iA hE hj
 have hw:0<W:=by omega
 exact (Lw hw _ r.2.1).2 (by rw [r.2.2] at hp;omega)
end
end
end Go.Abs
end
section
set_option maxRecDepth 100000
namespace Go.Abs
open Go
def lL:dJ:=⟨⟨#[115,113,117,97,114,101]⟩,1,fun _=>0,fun _=>4,fun _ k=>[0,4000,4000,0].getD k 0,fun _ k=>[0,0,4000,4000].getD k 0,4500,0,fun _ _=>0,0,fun _ _=>0⟩
def Je (i:Nat):Int:=[1000,3000].getD i 0
def Lp (_:Nat):Int:=500
abbrev gK:fX:=dM lL 2 Je 1 Lp 1000 500 2000
def Tg:Nat->Int
 |0=>0
 |k+1=>Tg k+(nw lL 500 1000 gK (dn gK 4) k - nf lL 500 1000 gK (dn gK 4) k)*(nv lL 500 1000 gK (dn gK 4) k - nd lL 500 1000 gK (dn gK 4) k)
set_option maxRecDepth 100000 in
theorem uz:Ii lL 2 Je 1 Lp 1000 500 2000=0/\dn gK 4=[0,1,2,3]/\dX lL 2 Je 1 Lp 1000 500 (gd lL 2 Je 1 Lp 1000 500).toNat 4 (gd lL 2 Je 1 Lp 1000 500).toNat=8:=by decide+kernel
set_option maxRecDepth 100000 in
theorem X4: ∀k,k<4->(nf lL 500 1000 gK [0,1,2,3] k=[-500,4500,-1500,-1500].getD k 0/\nw lL 500 1000 gK [0,1,2,3] k=[5500,5500,4500,-500].getD k 0)/\nd lL 500 1000 gK [0,1,2,3] k=[-1500,-500,4500,-1500].getD k 0/\nv lL 500 1000 gK [0,1,2,3] k=[-500,5500,5500,4500].getD k 0:=by decide+kernel
theorem X1:XR lL 2 Je 1 Lp 1000 500 2000 gK=0/\XS lL 2 Je 1 Lp 1000 500 2000 gK=8/\rk lL 2 Je 1 Lp 1000 500 2000 gK=0:=by
 obtain ⟨h0,hl,ht,hly,e,hf,hx,hb⟩:=sW uz.1
 have h3:=(RV h0 hl hf hx hb).2.2
 rw [<-e] at h3
 have h4:rk lL 2 Je 1 Lp 1000 500 2000 gK=0:=by rw [rk,ae (by rw [h0];simp),hly]
 obtain ⟨_,_,k1,k2⟩:=Yj (nB:=2) (B:=Je) (l:=gK) ht
 rw [pvK] at h3
 have h5:10000*lv 2 Je gK gK.nR+mf gK gK.nR=8:=h3.trans uz.2.2
 clear h3
 rw [XR,XS,ah h4,ah h4]
 refine ⟨?_,?_,h4⟩<;>omega
theorem X3 {k:Nat} (h:k<4):nw lL 500 1000 gK (dn gK 4) k - nf lL 500 1000 gK (dn gK 4) k=[6000,1000,6000,1000].getD k 0/\nv lL 500 1000 gK (dn gK 4) k - nd lL 500 1000 gK (dn gK 4) k=[1000,6000,1000,6000].getD k 0:=by
 rw [uz.2.1]
 obtain ⟨⟨e1,e2⟩,e3,e4⟩:=X4 k h
 rw [e1,e2,e3,e4]
 clear e1 e2 e3 e4
 match k,h with
 |0,_=>decide
 |1,_=>decide
 |2,_=>decide
 |3,_=>decide
theorem sq_p {k:Nat} (h:k<4):(nw lL 500 1000 gK (dn gK 4) k - nf lL 500 1000 gK (dn gK 4) k)*(nv lL 500 1000 gK (dn gK 4) k - nd lL 500 1000 gK (dn gK 4) k)=6000000:=by
 rw [(X3 h).1,(X3 h).2]
 match k,h with
 |0,_=>decide
 |1,_=>decide
 |2,_=>decide
 |3,_=>decide
theorem Em: ∀{k:Nat},k<=4->Tg k=6000000*k
 |0,_=>rfl
 |k+1,h=>by rw [Tg,Em (k:=k) (by omega),sq_p (by omega)];omega
def WkD (d' d:DV):Prop:= ∀rd kn c9 v,Rel rd kn c9 d' v->Rel rd kn c9 d v
theorem O2 (de:List (Nat->DV)):WkD (.val (.slice none 0 0)) (.di 0 de):=fun _ _ _ _ h=>by
 cases h
 exact .di (fun _ _=> .bool false) (af _) (fun _ _ _ h=>absurd h (by omega)) (fun h=>absurd h (by omega)) (fun _ _ _ h=>absurd h (by omega)) (fun _ _ _ h=>absurd h (by omega))
theorem XO {ds' ds:List DV} (hl:ds'.length=ds.length) (hw: ∀(j:Nat) (d' d:DV),ds'[j]? =some d'->ds[j]? =some d->WkD d' d):WkD (.agg ds') (.agg ds):=fun rd kn c9 v h=>by
 cases h with
 |agg hs hh=>
  refine .agg (hs.trans hl) fun j d u hd hu=> ?_
  have hj:j<ds'.length:=by rw [hl];exact (aj.1 hd).1
  exact hw j _ d (ak hj) hd rd kn c9 u (hh j _ u (ak hj) hu)
theorem Ze {P:Program} {f:FuncId} {args Mr:List DV} {res:DV} (h:dm P f args res) (hl:Mr.length=args.length) (hw: ∀(j:Nat) (d' d:DV),Mr[j]? =some d'->args[j]? =some d->WkD d' d):dm P f Mr res:=
 ⟨h.1,fun S w vs hs hv hg=>h.2 S w vs (hs.trans hl) (fun j d v hd jf=>by
   have hj:j<Mr.length:=by rw [hl];exact (aj.1 hd).1
   exact hw j _ d (ak hj) hd _ _ _ v (hv j _ v (ak hj) jf)) hg⟩
abbrev sqD:DV:= .agg [.val (.string ⟨#[115,113,117,97,114,101]⟩),.di 1 [fun _=>dI 0,fun _=> .di 4 [fun i=>dI ([0,4000,4000,0].getD i 0),fun i=>dI ([0,0,4000,4000].getD i 0)]],dI 4500,.val (.slice none 0 0),.val (.slice none 0 0)]
theorem wk_sq:WkD sqD (jI lL):=XO rfl fun j d' d h1 h2=>by
 match j,h1,h2 with
 |0,h1,h2=>cases h1;cases h2;exact fun _ _ _ _ h=>h
 |1,h1,h2=>cases h1;cases h2;exact fun _ _ _ _ h=>h
 |2,h1,h2=>cases h1;cases h2;exact fun _ _ _ _ h=>h
 |3,h1,h2=>cases h1;cases h2;exact O2 _
 |4,h1,h2=>cases h1;cases h2;exact O2 _
theorem Pm {f:FuncId} {r:List DV} {res:DV} (h:dm prog f (jI lL::r) res):dm prog f (sqD::r) res:=Ze h rfl fun j d' d h1 h2=>by
 cases j with
 |zero=>cases h1;cases h2;exact wk_sq
 |succ j=>rw [aK] at h1 h2;rw [h1] at h2;cases h2;exact fun _ _ _ _ h=>h
end Go.Abs
end
section
set_option maxRecDepth 100000
namespace Go.Abs
open Go
noncomputable def FV :eH:={ dq:=[(1,[(6,.frp)]),(3,[(2,.res fun _=> .fy [Hg gK,Z3 (UP lL 2 Je 1 Lp 1000 500 2000),dI 0])]),(4,[(3,.res fun _=> .fy [dP 0 8,dI 0])]),(5,[(3,.res fun _=> .fy [.di (dn gK 4).length (bxC lL 500 1000 2000 gK (dn gK 4)),dI 0])])],loops:=[(0,{ ι:=Nat,keep:=[8,5,7,9,6],boxes:=[6],ts:=fun _ i=>[(11,dI (i:Int)),(10,dI (Tg i))],inv:=fun _ i=>i<=(dn gK 4).length,mu:=fun _ i=>(dn gK 4).length - i,rd:=fun _ σ=>(eA (σ.get 11)).toNat })],dw:=[],AL:=[(3,[(1,1),(2,0),(2,1)])] }
noncomputable abbrev qe:Bool:=if ((0:Int)==(0:Int))=true then (0:Int)==(0:Int) else false
noncomputable abbrev qd:Bool:=if (qe)=true then (0:Int)==(0:Int)&&((8:Int)==(8:Int)&&true) else false
noncomputable abbrev qm:Bool:=if (qd)=true then (0:Int)==(0:Int) else false
noncomputable abbrev Vj:DV:= .agg [.val (.string (ByteArray.mk #[(115:UInt8),(113:UInt8),(117:UInt8),(97:UInt8),(114:UInt8),(101:UInt8)])),.di (1:Nat) [fun i=>(dI (0:Int)),fun i=> .di (4:Nat) [fun i=>(dI (List.getD [(0:Int),(4000:Int),(4000:Int),(0:Int)] i (0:Int))),fun i=>(dI (List.getD [(0:Int),(0:Int),(4000:Int),(4000:Int)] i (0:Int)))]],(dI (4500:Int)),.val (Value.slice none (0:Nat) (0:Nat)),.val (Value.slice none (0:Nat) (0:Nat))]
noncomputable abbrev Vi:DV:= .agg [.di gK.1 [fun i=>(dI (gK.2 i))],.di gK.3 [fun i=>(dI (gK.4 i)),fun i=>(dI (gK.5 i)),fun i=>(dI (gK.6 i)),fun i=>(dI (gK.7 i)),fun i=> .di (gK.8 i) [fun dS=>(dI (gK.9 i dS))],fun i=> .di (gK.10 i) [fun dS=>(dI (gK.11 i dS))]]]
noncomputable abbrev Vh:DV:= .agg [.di (2:Nat) [fun i=>(dI (List.getD [(1000:Int),(3000:Int)] i (0:Int)))],.di (1:Nat) [fun i=>(dI (500:Int))],(dI (1000:Int)),(dI (500:Int)),(dI (2000:Int))]
noncomputable abbrev Vg (r:List Prop):List Prop:=(nat_lit 4=nat_lit 4)::(∀(i:Nat),i<nat_lit 4->nf lL (500:Int) (1000:Int) gK (dn gK (4:Nat)) i=nf lL (500:Int) (1000:Int) gK (dn gK (4:Nat)) i)::(∀(i:Nat),i<nat_lit 4->nd lL (500:Int) (1000:Int) gK (dn gK (4:Nat)) i=nd lL (500:Int) (1000:Int) gK (dn gK (4:Nat)) i)::(∀(i:Nat),i<nat_lit 4->(0:Int)=(0:Int))::(∀(i:Nat),i<nat_lit 4->nw lL (500:Int) (1000:Int) gK (dn gK (4:Nat)) i=nw lL (500:Int) (1000:Int) gK (dn gK (4:Nat)) i)::(∀(i:Nat),i<nat_lit 4->nv lL (500:Int) (1000:Int) gK (dn gK (4:Nat)) i=nv lL (500:Int) (1000:Int) gK (dn gK (4:Nat)) i)::(∀(i:Nat),i<nat_lit 4->gq lL.7 (2000:Int)=gq lL.7 (2000:Int))::((0:Int)=(0:Int))::((0:Int)=(0:Int))::((0:Int)=(0:Int))::((0:Int)=(0:Int))::((8:Int)=(8:Int))::r
namespace w3q
noncomputable section
variable (i0:Nat) (p q:Prop) (P:List Prop) (a b:Int) (k:Nat) (g h:Bool) (A:DV) (E:List DV) (U:VT) (tA:List (Nat->DV)) (vu:Nat->DV)
abbrev x0:=DV.di k (vu::tA)
abbrev x1:=(0:Int)==(0:Int)
abbrev x2:=if g=true then h else false
abbrev x3:=Int.toNat (i0:Int)
abbrev x4:=i0<(nat_lit 4)->rf a
abbrev x5:=UP lL 2 Je 1 Lp 1000 500 2000
abbrev x6:=DV.agg (x0 k [] vu::A::E)
abbrev x7:=nf lL 500 1000 gK (dn gK 4) k
abbrev x8:=nd lL 500 1000 gK (dn gK 4) k
abbrev x9:=nw lL 500 1000 gK (dn gK 4) k
abbrev dC:=nv lL 500 1000 gK (dn gK 4) k
abbrev dA:=dI (List.getD [(0:Int),a,(4000:Int),b] i0 0)
abbrev dz:=DV.val (Value.slice none 0 0)
abbrev dG:=x2 (x2 x1 x1) (x1&&(((8:Int)==(8:Int))&&true))
abbrev dL:=Int.toNat ((i0:Int)+1)
abbrev dR:List Prop:=ri (g=true)::ri (h=true)::P
abbrev dQ:=0<=(i0:Int)/\(i0:Int)<(↑(nat_lit 4):Int)
abbrev ep:=(x9 (x3 i0) - x7 (x3 i0))*(dC (x3 i0) - x8 (x3 i0))
abbrev eu:=x6 (2:Nat) (x0 (1:Nat) [] (fun i0=>dI 500)) [dI 1000,dI 500,dI 2000] (fun i0=>dI (List.getD [(1000:Int),(3000:Int)] i0 0))
abbrev eG:=DV.agg [DV.val (Value.string (ByteArray.mk (List.toArray [(115:UInt8),(113:UInt8),(117:UInt8),(97:UInt8),(114:UInt8),(101:UInt8)]))),x0 (1:Nat) [fun i0=>x0 (4:Nat) [fun i0=>dA i0 (0:Int) (4000:Int)] (fun i0=>dA i0 (4000:Int) (0:Int))] (fun i0=>dI 0),dI 4500,dz,dz]
abbrev ez:=x6 gK.nC (x0 gK.nR [fun i0=>dI (gK.SX i0),fun i0=>dI (gK.SY i0),fun i0=>dI (gK.Ln i0),fun i0=>x0 (gK.nP i0) [] (fun i1=>dI (gK.P i0 i1)),fun i0=>x0 (gK.nQ i0) [] (fun i1=>dI (gK.Q i0 i1))] (fun i0=>dI (gK.F i0))) [] (fun i0=>dI (gK.C i0))
abbrev eF:=VT.da [dm prog k [eG,eu,ez] (DV.fy [A,dI 0])] U
abbrev eQ:List Prop:=p::q::rf (nat_lit 4)::(∀(i0:Nat),x4 i0 (x7 i0))::(∀(i0:Nat),x4 i0 (x8 i0))::(∀(i0:Nat),x4 i0 (0:Int))::(∀(i0:Nat),x4 i0 (x9 i0))::(∀(i0:Nat),x4 i0 (dC i0))::(∀(i0:Nat),x4 i0 (gq lL.dr 2000))::rf (0:Int)::rf (0:Int)::rf (0:Int)::rf (0:Int)::rf (8:Int)::P
abbrev xt:VT:=VT.da [(4:Nat)<=(4:Nat)] (VT.da [(1:Nat)<=(1:Nat),(2:Nat)<=(2:Nat),(1:Nat)<=(1:Nat)] (VT.da [dm prog 8 [eG,eu] (DV.fy [ez,x6 x5.nT (x0 x5.n0 [fun i0=>dI (x5.A1 i0)] (fun i0=>dI (x5.A0 i0))) [x0 x5.n1 [fun i0=>dI (x5.B1 i0)] (fun i0=>dI (x5.B0 i0))] (fun i0=>dI (x5.T i0)),dI 0])] (eF (18:Nat) (DV.val (Value.agg (Array.mk [Value.int IntKind.i64 0,Value.int IntKind.i64 8]))) (eF (9:Nat) (x0 (nat_lit 4) [fun i0=>dI (x8 i0),fun i0=>dI 0,fun i0=>dI (x9 i0),fun i0=>dI (dC i0),fun i0=>dI (gq lL.dr 2000)] (fun i0=>dI (x7 i0))) (VT.loop Nat (fun i0=>i0<=(nat_lit 4)) (Int.toNat 0) (eQ (0=(↑(Int.toNat 0):Int)) (0=Tg (Int.toNat 0)) []) (fun i0=>VT.ite (decide ((i0:Int)<(↑(nat_lit 4):Int))) (VT.da [dQ i0,dQ i0,cZ (x9 (x3 i0) - x7 (x3 i0)),dQ i0,dQ i0,cZ (dC (x3 i0) - x8 (x3 i0)),cZ (ep i0),cZ (Tg i0+ep i0)] (VT.da [cZ ((i0:Int)+1)] (VT.done (eQ ((i0:Int)+1=(↑(dL i0):Int)) (Tg i0+ep i0=Tg (dL i0)) [dL i0<=(nat_lit 4),(nat_lit 4) - dL i0<(nat_lit 4) - i0])))) (VT.da (dR (dR (dR (dR [ri (x2 dG x1=true)] dG (x2 dG x1)) (x2 x1 x1) dG) (x2 x1 x1) (x2 x1 x1)) x1 x1) (VT.done [x2 (x2 dG x1) (Tg i0==24000000)=true]))))))))
end
end w3q
open w3q in
theorem MM :dm prog 6 [] (dB true):=by
 refine db dv (FV ) (V:=xt) (by kernel_rfl) ?_
 simp only [xt,x0,x1,x2,x3,x4,x5,x6,x7,x8,x9,dC,dA,dz,dG,dL,dR,dQ,ep,eu,eG,ez,eF,eQ,Rf,VT.holds,dt,Sq]
 have hN: ∀i,i<lL.nS->lL.N i<=1000:=fun i _=>by show 4<=1000;omega
 obtain ⟨f1,f5,_⟩:=uz
 obtain ⟨f2,f3,f4⟩:=X1
 have ht:=(sW f1).2.2.1
 have c1:=Mq lL 2 Je 1 Lp 1000 500 2000 hN
 have c2:=JH lL 2 Je 1 Lp 1000 500 2000 gK hN ht
 have c3:=Ij lL 2 Je 1 Lp 1000 500 2000 gK hN ht
 rw [f1] at c1
 rw [f2,f3,f4] at c2
 rw [bxN,ah f4,f4] at c3
 refine ⟨by omega,⟨by omega,by omega,by omega⟩,Pm c1,Pm c2,?_,⟨rfl,rfl⟩,by omega,fun i hi=>⟨fun dK=> ?_,fun iy=> ?_⟩⟩
 ·have e4:(dn gK (lL.N 0)).length=4:=by show (dn gK 4).length=4;rw [f5];rfl
  rw [e4] at c3
  exact Pm c3
 ·have k1:=X3 (k:=i) (by omega)
  have k2:=sq_p (k:=i) (by omega)
  have k3:=Em (k:=i) hi
  have k4:=Em (k:=i+1) (by omega)
  rw [k2,k3,k4,k1.1,k1.2]
  have b: ∀k,k<4->(0<=[6000,1000,6000,1000].getD k (0:Int)/\[6000,1000,6000,1000].getD k (0:Int)<=6000)/\0<=[1000,6000,1000,6000].getD k (0:Int)/\[1000,6000,1000,6000].getD k (0:Int)<=6000:=by decide
  obtain ⟨b1,b2⟩:=b i (by omega)
  refine ⟨⟨by omega,by omega,by unfold cZ;omega,by omega,by omega,by unfold cZ;omega,by unfold cZ;omega,by unfold cZ;omega⟩,by unfold cZ;omega,by omega,by omega,by omega,by omega⟩
 ·obtain rfl:i=4:=by omega
  rw [Em (af _)];rfl
end Go.Abs
end
section
set_option maxRecDepth 100000
namespace Go.Abs
open Go
noncomputable def xS (b:dJ) (nB:Nat) (B:Nat->Int) (nO:Nat) (O:Nat->Int) (W G L:Int):eH:={ dq:=[(1,[(0,.res fun _=>dB true)]),(3,[(1,.res fun _=>dB (ZY b nB B nO O W G L))]),(5,[(4,.res fun _=> .fy [Hg (dM b nB B nO O W G L),Z3 (UP b nB B nO O W G L),dI (Ii b nB B nO O W G L)])]),(8,[(5,.res fun _=> .fy [.di (dn (dM b nB B nO O W G L) (b.N 0)).length (bxC b G W L (dM b nB B nO O W G L) (dn (dM b nB B nO O W G L) (b.N 0))),dI 0])]),(15,[(6,.res fun _=> .fy [dB false,dI 0])]),(16,[(6,.res fun _=> .fy [dI (-1),dI 0])]),(22,[(8,.res fun _=> .fy [dB false,dI 0])]),(27,[(4,.res fun _=> .fy [.di (b.N 0) (TG (b.N 0) (b.X 0) (b.Y 0) G),dI 0])]),(28,[(8,.res fun _=> .fy [.di (b.N 0) (TG (b.N 0) (b.X 0) (b.Y 0) (G+W)),dI 0])]),(29,[(1,.res fun _=> .fy [dI (Ot (b.N 0) (pA (b.N 0) (b.X 0) (b.Y 0) G) (pz (b.N 0) (b.X 0) (b.Y 0) G)),dI 0])]),(30,[(1,.res fun _=> .fy [dI (Ot (b.N 0) (pA (b.N 0) (b.X 0) (b.Y 0) (G+W)) (pz (b.N 0) (b.X 0) (b.Y 0) (G+W))),dI 0])])],loops:=[(0,{ ι:=Nat,keep:=[1,6],boxes:=[1],ts:=fun _ i=>[(9,dI (i:Int)),(8,dI (KF b G W (dM b nB B nO O W G L) (dn (dM b nB B nO O W G L) (b.N 0)) i))],inv:=fun _ i=>i<=(dn (dM b nB B nO O W G L) (b.N 0)).length,mu:=fun _ i=>(dn (dM b nB B nO O W G L) (b.N 0)).length - i,rd:=fun _ σ=>(eA (σ.get 9)).toNat }),(2,{ ι:=Nat,keep:=[1,6,8,9],boxes:=[1],ts:=fun _ j=>[(14,dI (j:Int))],inv:=fun σ j=>j<=(eA (σ.get 9)).toNat,mu:=fun σ j=>(eA (σ.get 9)).toNat - j,rd:=fun _ σ=>(eA (σ.get 14)).toNat })],dw:=[] }
noncomputable abbrev uP:Bool:=if ((0:Int) !=(0:Int))=true then true else false
noncomputable abbrev LK:Bool:= !if ((0:Int) !=(0:Int))=true then true else false
noncomputable abbrev LJ:Bool:= !if (uP)=true then true else (0:Int) !=(0:Int)
noncomputable abbrev uO:Bool:=if ((0:Int)==(0:Int))=true then (0:Int)==(0:Int) else false
noncomputable abbrev uN:Bool:=if (uO)=true then (0:Int)==(0:Int) else false
noncomputable abbrev LI:Bool:=if (uN)=true then (0:Int)==(0:Int) else false
noncomputable abbrev Og (b:dJ) (nB:Nat) (B:Nat->Int) (nO:Nat) (O:Nat->Int) (W:Int) (G:Int) (L:Int) (i:Nat):DV:= .val (.agg (Array.mk [.int .i64 (nf b G W (dM b nB B nO O W G L) (dn (dM b nB B nO O W G L) (b.N 0)) (Int.toNat (i:Int))),.int .i64 (nd b G W (dM b nB B nO O W G L) (dn (dM b nB B nO O W G L) (b.N 0)) (Int.toNat (i:Int))),.int .i64 (0:Int),.int .i64 (nw b G W (dM b nB B nO O W G L) (dn (dM b nB B nO O W G L) (b.N 0)) (Int.toNat (i:Int))),.int .i64 (nv b G W (dM b nB B nO O W G L) (dn (dM b nB B nO O W G L) (b.N 0)) (Int.toNat (i:Int))),.int .i64 (gq b.dr L)]))
noncomputable abbrev Of (b:dJ) (nB:Nat) (B:Nat->Int) (nO:Nat) (O:Nat->Int) (W:Int) (G:Int) (L:Int):DV:= .agg [.di (dM b nB B nO O W G L).nC [fun i=>(dI ((dM b nB B nO O W G L).C i))],.di (dM b nB B nO O W G L).nR [fun i=>(dI ((dM b nB B nO O W G L).F i)),fun i=>(dI ((dM b nB B nO O W G L).SX i)),fun i=>(dI ((dM b nB B nO O W G L).SY i)),fun i=>(dI ((dM b nB B nO O W G L).Ln i)),fun i=> .di ((dM b nB B nO O W G L).nP i) [fun dS=>(dI ((dM b nB B nO O W G L).P i dS))],fun i=> .di ((dM b nB B nO O W G L).nQ i) [fun dS=>(dI ((dM b nB B nO O W G L).Q i dS))]]]
noncomputable abbrev Oe (b:dJ) (nB:Nat) (B:Nat->Int) (nO:Nat) (O:Nat->Int) (W:Int) (G:Int) (L:Int) (r:List Prop):List Prop:=(List.length (dn (dM b nB B nO O W G L) (b.N 0))=List.length (dn (dM b nB B nO O W G L) (b.N 0)))::(∀(i:Nat),i<List.length (dn (dM b nB B nO O W G L) (b.N 0))->nf b G W (dM b nB B nO O W G L) (dn (dM b nB B nO O W G L) (b.N 0)) i=nf b G W (dM b nB B nO O W G L) (dn (dM b nB B nO O W G L) (b.N 0)) i)::(∀(i:Nat),i<List.length (dn (dM b nB B nO O W G L) (b.N 0))->nd b G W (dM b nB B nO O W G L) (dn (dM b nB B nO O W G L) (b.N 0)) i=nd b G W (dM b nB B nO O W G L) (dn (dM b nB B nO O W G L) (b.N 0)) i)::(∀(i:Nat),i<List.length (dn (dM b nB B nO O W G L) (b.N 0))->(0:Int)=(0:Int))::(∀(i:Nat),i<List.length (dn (dM b nB B nO O W G L) (b.N 0))->nw b G W (dM b nB B nO O W G L) (dn (dM b nB B nO O W G L) (b.N 0)) i=nw b G W (dM b nB B nO O W G L) (dn (dM b nB B nO O W G L) (b.N 0)) i)::(∀(i:Nat),i<List.length (dn (dM b nB B nO O W G L) (b.N 0))->nv b G W (dM b nB B nO O W G L) (dn (dM b nB B nO O W G L) (b.N 0)) i=nv b G W (dM b nB B nO O W G L) (dn (dM b nB B nO O W G L) (b.N 0)) i)::(∀(i:Nat),i<List.length (dn (dM b nB B nO O W G L) (b.N 0))->gq b.dr L=gq b.dr L)::r
noncomputable abbrev Od (b:dJ) (nB:Nat) (B:Nat->Int) (nO:Nat) (O:Nat->Int) (r:List Prop):List Prop:=(b.dr=b.dr)::(b.nO=b.nO)::(∀(i:Nat),i<b.nO->b.O i (0:Nat)=b.O i (0:Nat))::(∀(i:Nat),i<b.nO->b.O i (1:Nat)=b.O i (1:Nat))::(∀(i:Nat),i<b.nO->b.O i (2:Nat)=b.O i (2:Nat))::(∀(i:Nat),i<b.nO->b.O i (3:Nat)=b.O i (3:Nat))::(∀(i:Nat),i<b.nO->b.O i (4:Nat)=b.O i (4:Nat))::(∀(i:Nat),i<b.nO->b.O i (5:Nat)=b.O i (5:Nat))::(b.nB=b.nB)::(∀(i:Nat),i<b.nB->b.B i (0:Nat)=b.B i (0:Nat))::(∀(i:Nat),i<b.nB->b.B i (1:Nat)=b.B i (1:Nat))::(∀(i:Nat),i<b.nB->b.B i (2:Nat)=b.B i (2:Nat))::(∀(i:Nat),i<b.nB->b.B i (3:Nat)=b.B i (3:Nat))::(∀(i:Nat),i<b.nB->b.B i (4:Nat)=b.B i (4:Nat))::(∀(i:Nat),i<b.nB->b.B i (5:Nat)=b.B i (5:Nat))::(nB=nB)::(∀(i:Nat),i<nB->B i=B i)::(nO=nO)::(∀(i:Nat),i<nO->O i=O i)::r
namespace w3r
noncomputable section
structure Z where
 b:dJ
 nB:Nat
 B:Nat->Int
 nO:Nat
 O:Nat->Int
 W:Int
 G:Int
 L:Int
variable (z:Z) (i0 i1:Nat) (p:Prop) (P:List Prop) (a b:Int) (k:Nat) (g h:Bool) (A:DV) (E:List DV) (U:VT) (mR yA:Nat->DV) (Ht:List Value)
abbrev x0:=dM z.b z.nB z.B z.nO z.O z.W z.G z.L
abbrev x1:=dn (x0 z) (z.b.N 0)
abbrev x2:Int:=(i0:Int)
abbrev x3:=List.length (x1 z)
abbrev x4:=(0:Int)==(0:Int)
abbrev x5:=if g=true then h else false
abbrev x6:=Int.toNat (x2 i0)
abbrev x7:List Value:=Value.int IntKind.i64 a::Ht
abbrev x8:=i0<x3 z->rf a
abbrev x9:=i0<z.b.nO->rf (z.b.O i0 k)
abbrev dC:=i0<z.b.nB->rf (z.b.B i0 k)
abbrev dA:=(0:Int) !=(0:Int)
abbrev dz:List Prop:=ri (g=true)::P
abbrev dG:=DV.di k [mR]
abbrev dL:=nf z.b z.G z.W (x0 z) (x1 z) k
abbrev dR:=nd z.b z.G z.W (x0 z) (x1 z) k
abbrev dQ:=nw z.b z.G z.W (x0 z) (x1 z) k
abbrev ep:=nv z.b z.G z.W (x0 z) (x1 z) k
abbrev eu:=VT.da [p] U
abbrev eG:=Int.toNat 0
abbrev ez:=gq z.b.dr z.L
abbrev eF:=dm prog k E (DV.fy [A,dI 0])
abbrev eQ:=x5 dA true
abbrev fC:=UP z.b z.nB z.B z.nO z.O z.W z.G z.L
abbrev fM:=x5 (x5 (x5 x4 x4) x4) x4
abbrev fR:=0<=x2 i0/\x2 i0<(↑(x3 z):Int)
abbrev fj:=KF z.b z.G z.W (x0 z) (x1 z) k
abbrev gp:=if g=true then true else h
abbrev iI:=Ot (z.b.N 0) (pA (z.b.N 0) (z.b.X 0) (z.b.Y 0) a) (pz (z.b.N 0) (z.b.X 0) (z.b.Y 0) b)
abbrev ji:=g=false->h=true
abbrev iq:=Int.toNat (i1:Int)
abbrev jj:=Int.toNat (x2 i0+1)
abbrev jv:=VT.ite g (VT.done [false=true]) U
abbrev il:=DV.val (Value.agg (Array.mk (x7 a Ht)))
abbrev iH:=DV.di (z.b.N 0) [mR,yA]
abbrev lu:=dI (pA (z.b.N 0) (z.b.X 0) (z.b.Y 0) a i0)
abbrev lq:=dI (pz (z.b.N 0) (z.b.X 0) (z.b.Y 0) a i0)
abbrev ku:List Prop:=p::rf (x3 z)::(∀(i0:Nat),x8 z i0 (dL z i0))::(∀(i0:Nat),x8 z i0 (dR z i0))::(∀(i0:Nat),x8 z i0 (0:Int))::(∀(i0:Nat),x8 z i0 (dQ z i0))::(∀(i0:Nat),x8 z i0 (ep z i0))::(∀(i0:Nat),x8 z i0 (ez z))::P
abbrev qq:List Prop:=rf z.b.name::rf z.b.nS::(∀i0<z.b.nS,rf (z.b.fl i0))::(∀i0<z.b.nS,rf (z.b.N i0)/\(∀i1<z.b.N i0,rf (z.b.X i0 i1))/\(∀i1<z.b.N i0,rf (z.b.Y i0 i1)))::rf z.b.dr::rf z.b.nO::(∀(i0:Nat),x9 z i0 (0:Nat))::(∀(i0:Nat),x9 z i0 (1:Nat))::(∀(i0:Nat),x9 z i0 (2:Nat))::(∀(i0:Nat),x9 z i0 (3:Nat))::(∀(i0:Nat),x9 z i0 (4:Nat))::(∀(i0:Nat),x9 z i0 (5:Nat))::rf z.b.nB::(∀(i0:Nat),dC z i0 (0:Nat))::(∀(i0:Nat),dC z i0 (1:Nat))::(∀(i0:Nat),dC z i0 (2:Nat))::(∀(i0:Nat),dC z i0 (3:Nat))::(∀(i0:Nat),dC z i0 (4:Nat))::(∀(i0:Nat),dC z i0 (5:Nat))::rf z.nB::(∀i0<z.nB,rf (z.B i0))::rf z.nO::(∀i0<z.nO,rf (z.O i0))::rf z.W::rf z.G::P
abbrev nm:=Int.toNat ((i1:Int)+1)
abbrev nA:=(dQ z (x6 i0) - dL z (x6 i0))*(ep z (x6 i0) - dR z (x6 i0))
abbrev uh:=dG z.nB (fun i0=>dI (z.B i0))
abbrev BB:=iI z (z.G+z.W) (z.G+z.W)
abbrev BF:=ji dA (!dA)
abbrev ou:List DV:=[dG z.nO (fun i0=>dI (z.O i0)),dI z.W,dI z.G,dI z.L]
abbrev ug:=il (dL z (x6 i0)) (x7 (dR z (x6 i0)) (x7 (0:Int) (x7 (dQ z (x6 i0)) (x7 (ep z (x6 i0)) (x7 (ez z) [])))))
abbrev BE:=Ii z.b z.nB z.B z.nO z.O z.W z.G z.L
abbrev sA:=dz P (x5 (x5 x4 x4) x4)
abbrev sL:=ku z p (rf (fj z i0)::rf (x2 i0)::qq z P)
abbrev lN:=eF (13:Nat) A [DV.di (z.b.N eG) [fun i0=>dI (z.b.X eG i0),fun i0=>dI (z.b.Y eG i0)],dI a]
abbrev rV:=DV.agg [dG (fX.nC (x0 z)) (fun i0=>dI (fX.C (x0 z) i0)),DV.di (fX.nR (x0 z)) [fun i0=>dI (fX.F (x0 z) i0),fun i0=>dI (fX.SX (x0 z) i0),fun i0=>dI (fX.SY (x0 z) i0),fun i0=>dI (fX.Ln (x0 z) i0),fun i0=>dG (fX.nP (x0 z) i0) (fun i1=>dI (fX.P (x0 z) i0 i1)),fun i0=>dG (fX.nQ (x0 z) i0) (fun i1=>dI (fX.Q (x0 z) i0 i1))]]
abbrev uf:=ZY z.b z.nB z.B z.nO z.O z.W z.G z.L
abbrev xt:VT:=eu (dm prog 6 [] (dB true)) (jv (!true) (eu (dm prog 7 [DV.agg (DV.val (Value.string z.b.name)::DV.di z.b.nS [fun i0=>dI (z.b.fl i0),fun i0=>DV.di (z.b.N i0) [fun i1=>dI (z.b.X i0 i1),fun i1=>dI (z.b.Y i0 i1)]]::dI z.b.dr::DV.di z.b.nO [fun i0=>dI (z.b.O i0 0),fun i0=>dI (z.b.O i0 1),fun i0=>dI (z.b.O i0 2),fun i0=>dI (z.b.O i0 3),fun i0=>dI (z.b.O i0 4),fun i0=>dI (z.b.O i0 5)]::DV.di z.b.nB [fun i0=>dI (z.b.B i0 0),fun i0=>dI (z.b.B i0 1),fun i0=>dI (z.b.B i0 2),fun i0=>dI (z.b.B i0 3),fun i0=>dI (z.b.B i0 4),fun i0=>dI (z.b.B i0 5)]::uh z::ou z)] (dB (uf z))) (VT.ite (!(uf z)) (VT.done [rf true]) (eu (dm prog 8 [jI z.b,DV.agg (uh z::ou z)] (DV.fy [rV z,DV.agg [dG (ua.nT (fC z)) (fun i0=>dI (ua.T (fC z) i0)),DV.di (ua.n0 (fC z)) [fun i0=>dI (ua.A0 (fC z) i0),fun i0=>dI (ua.A1 (fC z) i0)],DV.di (ua.n1 (fC z)) [fun i0=>dI (ua.B0 (fC z) i0),fun i0=>dI (ua.B1 (fC z) i0)]],dI (BE z)])) (VT.ite (BE z !=0) (VT.done [(BE z==13)=true]) (eu (eF (9:Nat) (DV.di (x3 z) [fun i0=>dI (dL z i0),fun i0=>dI (dR z i0),fun i0=>dI 0,fun i0=>dI (dQ z i0),fun i0=>dI (ep z i0),fun i0=>dI (ez z)]) [jI z.b,DV.agg (uh z::ou z),rV z]) (VT.da (dz (dz [BF] (!dA)) (!dA)) (jv (gp dA (decide ((↑(x3 z):Int)>(14:Int)))) (VT.loop Nat (fun i0=>i0<=x3 z) eG ((0=(eG:Int))::ku z (0=fj z eG) (qq z [rf z.L])) (fun i0=>VT.ite (decide ((x2 i0)<(↑(x3 z):Int))) (VT.da [fR z i0,eF (10:Nat) (dB false) [jI z.b,ug z i0]] (VT.da [fR z i0,eF (11:Nat) (dI (-(1:Int))) [jI z.b,ug z i0]] (VT.da (BF::dz (ji eQ (!eQ)::dz [ji (gp eQ dA) (!(gp eQ dA))] (!(gp eQ dA))) (!eQ)) (jv (gp (gp eQ dA) ((-(1:Int)) !=(-(1:Int)))) (VT.loop Nat (fun i1=>i1<=x6 i0) eG (sL z i0 (0=(eG:Int)) [rf z.L]) (fun i1=>VT.ite (decide ((i1:Int)<(x2 i0))) (VT.da [fR z i0,0<=(i1:Int)/\(i1:Int)<(↑(x3 z):Int),eF (12:Nat) (dB false) [ug z i0,il (dL z (iq i1)) (x7 (dR z (iq i1)) (x7 (0:Int) (x7 (dQ z (iq i1)) (x7 (ep z (iq i1)) (x7 (ez z) [])))))]] (eu BF (jv eQ (eu (cZ ((i1:Int)+1)) (VT.done (sL z i0 ((i1:Int)+1=(↑(nm i1):Int)) [rf z.L,nm i1<=x6 i0,x6 i0 - nm i1<x6 i0 - i1])))))) (VT.da [fR z i0,fR z i0,cZ (dQ z (x6 i0) - dL z (x6 i0)),fR z i0,fR z i0,cZ (ep z (x6 i0) - dR z (x6 i0)),cZ (nA z i0),cZ (fj z i0+nA z i0)] (eu (cZ (x2 i0+1)) (VT.done ((x2 i0+1=(↑(jj i0):Int))::ku z (fj z i0+nA z i0=fj z (jj i0)) (qq z [rf z.L,jj i0<=x3 z,x3 z - jj i0<x3 z - i0]))))))))))) (eu ((0:Int)<=(0:Int)/\0<(z.b.nS:Int)) (eu (lN z z.G (iH z (fun i0=>lu z i0 z.G) (fun i0=>lq z i0 z.G))) (VT.da [cZ (z.G+z.W),lN z (z.G+z.W) (iH z (fun i0=>lu z i0 (z.G+z.W)) (fun i0=>lq z i0 (z.G+z.W)))] (eu (eF (14:Nat) (dI (iI z z.G z.G)) [iH z (fun i0=>lu z i0 z.G) (fun i0=>lq z i0 z.G)]) (eu (eF (14:Nat) (dI (BB z)) [iH z (fun i0=>lu z i0 (z.G+z.W)) (fun i0=>lq z i0 (z.G+z.W))]) (VT.da (dz (dz (dz (dz (sA (sA (dz (dz ((fM=true->cZ (BB z - iI z z.G z.G))::dz (dz [ri (fM=true)] fM) fM) fM) fM))) (x5 x4 x4)) (x5 x4 x4)) x4) x4) (VT.done [x5 fM (fj z i0==BB z - iI z z.G z.G)=true])))))))))))))))))
end
end w3r
open w3r in
theorem BM (b:dJ) (nB:Nat) (B:Nat->Int) (nO:Nat) (O:Nat->Int) (W G L:Int) :dm prog 3 [Qq b nB B nO O W G L] (dB true):=by
 refine db dv (xS b nB B nO O W G L) (V:=xt ⟨b,nB,B,nO,O,W,G,L⟩) (by kernel_rfl) ?_
 simp only [xt,x0,x1,x2,x3,x4,x5,x6,x7,x8,x9,dC,dA,dz,dG,dL,dR,dQ,ep,eu,eG,ez,eF,eQ,fC,fM,fR,fj,gp,iI,ji,iq,jj,jv,il,iH,lu,lq,ku,qq,nm,nA,uh,BB,BF,ou,ug,BE,sA,sL,lN,rV,uf,Rf,VT.holds,dt,Sq]
 refine ⟨MM,fun h=>(by cases h),fun _=>⟨Jz b nB B nO O W G L,fun hwk=> ?_⟩⟩
 have hw1:qv b nB nO=true/\ja b nB B nO O W G L=0/\Jf b G W (jK nB B nO O)=false/\BS b G W (jK nB B nO O)=true:=by
  unfold ZY at hwk
  simpa using hwk
 obtain ⟨hj,h0,HB,hlit⟩:=hw1
 obtain ⟨⟨_,_,_,j4⟩,_⟩:=LX hj
 have hN: ∀i,i<b.nS->b.N i<=1000:=fun i hi=>by have:=j4 i hi;omega
 obtain ⟨hc,hs,_,_,h5,h6,_⟩:=fu h0
 obtain ⟨b1,b2,_⟩:=js hc
 have hn:=fp b2
 have g1:=(fP hs).1
 unfold j8 at g1
 have hn14:b.N 0<=14:=by
  unfold qv jk yk at hj
  rw [av,ai] at hj
  have:=hj.1.2 0 b1
  simp only [an] at this
  omega
 refine ⟨Mq b nB B nO O W G L hN,fun hE=> ?_,fun hE=> ?_⟩
 ·have hm:=((GS h0).1 HB).1
  rw [Ii,ae (by rw [h0];simp),ae (by rw [hm];simp),bE] at hE ⊢
  split at hE
  ·rename_i hx;rw [ah hx]
  ·exact absurd rfl hE
 obtain ⟨_,_,ht,hly,_⟩:=sW hE
 have hla:rk b nB B nO O W G L (dM b nB B nO O W G L)=0:=by rw [rk,ae (by rw [h0];simp),hly]
 have c3:=Ij b nB B nO O W G L (dM b nB B nO O W G L) hN ht
 rw [bxN,ah hla,hla] at c3
 have hq:=zY (dM b nB B nO O W G L) (b.N 0)
 refine ⟨c3,fun hx=> ?_,fun _=>⟨⟨rfl,rfl⟩,ao _,fun i hi=>⟨fun dK=> ?_,fun iy=> ?_⟩⟩⟩
 ·exfalso
  rcases hx with hx|hx
  ·exact hx trivial
  ·omega
 ·have QJ:i<(dn (dM b nB B nO O W G L) (b.N 0)).length:=by omega
  have ck:=RZ hE QJ
  have e1:Io b (nf b G W (dM b nB B nO O W G L) (dn (dM b nB B nO O W G L) (b.N 0)) i) (nd b G W (dM b nB B nO O W G L) (dn (dM b nB B nO O W G L) (b.N 0)) i) 0 (nw b G W (dM b nB B nO O W G L) (dn (dM b nB B nO O W G L) (b.N 0)) i) (nv b G W (dM b nB B nO O W G L) (dn (dM b nB B nO O W G L) (b.N 0)) i) (gq b.dr L)=0:=by rw [Io,ae (by rw [hc];simp),ck]
  have p1:=Il b (nf b G W (dM b nB B nO O W G L) (dn (dM b nB B nO O W G L) (b.N 0)) i) (nd b G W (dM b nB B nO O W G L) (dn (dM b nB B nO O W G L) (b.N 0)) i) 0 (nw b G W (dM b nB B nO O W G L) (dn (dM b nB B nO O W G L) (b.N 0)) i) (nv b G W (dM b nB B nO O W G L) (dn (dM b nB B nO O W G L) (b.N 0)) i) (gq b.dr L) hN
  rw [UY,e1,UR hE QJ,Bool.and_false] at p1
  have p2:=Nw b (nf b G W (dM b nB B nO O W G L) (dn (dM b nB B nO O W G L) (b.N 0)) i) (nd b G W (dM b nB B nO O W G L) (dn (dM b nB B nO O W G L) (b.N 0)) i) 0 (nw b G W (dM b nB B nO O W G L) (dn (dM b nB B nO O W G L) (b.N 0)) i) (nv b G W (dM b nB B nO O W G L) (dn (dM b nB B nO O W G L) (b.N 0)) i) (gq b.dr L) hN
  rw [Uw,e1,ae (by simp),kg (fun j hj=>RY hE QJ hj)] at p2
  refine ⟨⟨by omega,p1⟩,⟨by omega,p2⟩,fun h=>by simp at h,fun _=>⟨rfl,ao _,fun k hk=>⟨fun hkl=> ?_,fun hkg=> ?_⟩⟩⟩
  ·have p3:=xg (nf b G W (dM b nB B nO O W G L) (dn (dM b nB B nO O W G L) (b.N 0)) i) (nd b G W (dM b nB B nO O W G L) (dn (dM b nB B nO O W G L) (b.N 0)) i) 0 (nw b G W (dM b nB B nO O W G L) (dn (dM b nB B nO O W G L) (b.N 0)) i) (nv b G W (dM b nB B nO O W G L) (dn (dM b nB B nO O W G L) (b.N 0)) i) (gq b.dr L) (nf b G W (dM b nB B nO O W G L) (dn (dM b nB B nO O W G L) (b.N 0)) k) (nd b G W (dM b nB B nO O W G L) (dn (dM b nB B nO O W G L) (b.N 0)) k) 0 (nw b G W (dM b nB B nO O W G L) (dn (dM b nB B nO O W G L) (b.N 0)) k) (nv b G W (dM b nB B nO O W G L) (dn (dM b nB B nO O W G L) (b.N 0)) k) (gq b.dr L)
   have e3:Rr (nf b G W (dM b nB B nO O W G L) (dn (dM b nB B nO O W G L) (b.N 0)) i) (nd b G W (dM b nB B nO O W G L) (dn (dM b nB B nO O W G L) (b.N 0)) i) 0 (nw b G W (dM b nB B nO O W G L) (dn (dM b nB B nO O W G L) (b.N 0)) i) (nv b G W (dM b nB B nO O W G L) (dn (dM b nB B nO O W G L) (b.N 0)) i) (gq b.dr L) (nf b G W (dM b nB B nO O W G L) (dn (dM b nB B nO O W G L) (b.N 0)) k) (nd b G W (dM b nB B nO O W G L) (dn (dM b nB B nO O W G L) (b.N 0)) k) 0 (nw b G W (dM b nB B nO O W G L) (dn (dM b nB B nO O W G L) (b.N 0)) k) (nv b G W (dM b nB B nO O W G L) (dn (dM b nB B nO O W G L) (b.N 0)) k) (gq b.dr L)=0:=by rw [Rr,ae (by rw [ck];simp),RZ hE (k:=k) (by omega)]
   rw [Si,e3,NM hE (i:=i) (k:=k) (by omega) QJ,Bool.and_false] at p3
   exact ⟨⟨by omega,by omega,p3⟩,fun h=>absurd trivial h,fun _=>⟨by unfold cZ;omega,by omega,by omega,by omega⟩⟩
  ·obtain ⟨⟨⟨d1,d2⟩,d3,d4⟩,d5,d6⟩:=zj hE QJ
   have t:=RU hE QJ
   have a1:=Fv hE i hi
   have a2:=Fv hE (i+1) (by omega)
   have ea:KF b G W (dM b nB B nO O W G L) (dn (dM b nB B nO O W G L) (b.N 0)) (i+1)=KF b G W (dM b nB B nO O W G L) (dn (dM b nB B nO O W G L) (b.N 0)) i+Sz b G W (dM b nB B nO O W G L) (dn (dM b nB B nO O W G L) (b.N 0)) i:=rfl
   unfold Sz at t ea
   refine ⟨⟨by omega,by omega,by unfold cZ;omega,by omega,by omega,by unfold cZ;omega,by unfold cZ;omega,by rw [<-ea];unfold cZ;omega⟩,by unfold cZ;omega,by omega,ea.symm,by omega,by omega⟩
 ·obtain rfl:i=(dn (dM b nB B nO O W G L) (b.N 0)).length:=by omega
  have k1:=(iw h5).2
  have k2:=(iw h6).2
  have a1:=R4 (b.N 0) (pA (b.N 0) (b.X 0) (b.Y 0) G) (pz (b.N 0) (b.X 0) (b.Y 0) G) (by omega)
  have a2:=R4 (b.N 0) (pA (b.N 0) (b.X 0) (b.Y 0) (G+W)) (pz (b.N 0) (b.X 0) (b.Y 0) (G+W)) (by omega)
  rw [k1] at a1
  rw [k2] at a2
  have e:=ZA hE
  have a3:=Fv hE _ (af _)
  rw [e] at a3
  exact ⟨by omega,Dq _ _ _ G b2 (by omega) h5,⟨by unfold cZ;omega,Dq _ _ _ (G+W) b2 (by omega) h6⟩,a1,a2,fun _=>by unfold cZ;omega,e⟩
end Go.Abs
end
