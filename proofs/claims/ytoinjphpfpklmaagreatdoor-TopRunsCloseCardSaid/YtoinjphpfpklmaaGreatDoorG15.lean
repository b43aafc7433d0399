/- Contracts and what they stand on. -/
import Derived.Test.YtoinjphpfpklmaaGreatDoorG3
set_option linter.unusedVariables false
set_option linter.unusedSimpArgs false
section
namespace Go.Abs.Geo
def sv (X Y:Nat->Int) (a b:Int) (i:Nat):Int:=
 if X (i+1)=X i/\a<X i then (if Y i<=b/\b<Y (i+1) then 1 else if Y (i+1)<=b/\b<Y i then -1 else 0) else 0
def sh (X Y:Nat->Int) (a b:Int) (i:Nat):Int:=
 if Y (i+1)=Y i/\Y i<=b then (if X i<=a/\a<X (i+1) then 1 else if X (i+1)<=a/\a<X i then -1 else 0) else 0
def wp (n:Nat) (X Y:Nat->Int) (a b:Int):Int:=sm (sv X Y a b) n
def wh (n:Nat) (X Y:Nat->Int) (a b:Int):Int:=sm (sh X Y a b) n
def ar (n:Nat) (X Y:Nat->Int):Int:=sm (fun i=>X i*(Y (i+1) - Y i)) n
def NT (X Y:Nat->Int):Prop:= ∀i,X i=X (i+1)\/Y i=Y (i+1)
theorem Ep {f:Nat->Int} {n:Nat} (h: ∀i,f (i+n)=f i): ∀k,sm (fun i=>f (i+k)) n=sm f n
 |0=>rfl
 |k+1=>by
  rw [<-Ep h k]
  have h1: ∀g:Nat->Int,∀m,g 0+sm (fun i=>g (i+1)) m=sm g (m+1):=fun g m=>by
   induction m with
   |zero=>show g 0+0=0+g 0;omega
   |succ m ih=>rw [sm,<-Int.add_assoc,ih];rfl
  have h2:=h1 (fun i=>f (i+k)) n
  have h3:sm (fun i=>f (i+k)) (n+1)=sm (fun i=>f (i+k)) n+f (n+k):=rfl
  have h4:f (n+k)=f (0+k):=by rw [Nat.add_comm n k,h,Nat.zero_add]
  have h5:(fun i=>f (i+(k+1)))=fun i=>f (i+1+k):=funext fun i=>by rw [show i+(k+1)=i+1+k by omega]
  rw [h5]
  show sm (fun i=>f (i+1+k)) n=_
  have h6:f (0+k)+sm (fun i=>f (i+1+k)) n=sm (fun i=>f (i+k)) (n+1):=h2
  omega
section
variable {n:Nat} {X Y:Nat->Int}
theorem K7 (hp: ∀i,X (i+n)=X i) (hq: ∀i,Y (i+n)=Y i) (hr:NT X Y) (a b:Int):wp n X Y a b=wh n X Y a b:=by
 have h:=wU (fun i=>if a<X i/\Y i<=b then (1:Int) else 0) n
 have e1:=hp 0
 have e2:=hq 0
 rw [Nat.zero_add] at e1 e2
 simp only [e1,e2,Int.sub_self] at h
 have k:sm (fun i=>sh X Y a b i - sv X Y a b i) n=0:=by
  rw [<-h]
  refine fV fun i _=> ?_
  have:=hr i
  unfold sh sv
  (repeat' split)<;>omega
 rw [n9] at k
 unfold wp wh
 omega
theorem Poly.MU (P:Poly n X Y):NT X Y:=fun i=>by have:=P.hv i;omega
theorem PN (P:Poly n X Y) (a b:Int) (i:Nat): ∀r,r<=ln X Y i->sm (fun r=>wv (gx X Y) (gy X Y) a b (kz (ln X Y) i+r)) r=
 if X (i+1)=X i/\a<X i then (if Y i<=b/\b<jJ Y i r then 1 else if jJ Y i r<=b/\b<Y i then -1 else 0) else 0
 |0,_=>by
  show (0:Int)=_
  unfold jJ
  (repeat' split)<;>omega
 |r+1,h=>by
  rw [sm,PN P a b i r (by omega)]
  obtain ⟨e1,e2⟩:=DE P (show r<=ln X Y i by omega)
  obtain ⟨e3,e4⟩:=DE P (show r+1<=ln X Y i by omega)
  have hv:=P.hv i
  unfold wv
  rw [Nat.add_assoc,e1,e2,e3,e4]
  clear e1 e2 e3 e4 h
  rcases hv with ⟨h1,h2,_,_⟩|⟨h1,h2,_,_⟩
  ·have z: ∀r:Nat,jJ X i (r+1)≠jJ X i r:=fun r=>by unfold jJ;(repeat' split)<;>omega
   rw [if_neg (fun h=>h1 h.1.symm),if_neg (fun h=>z r h.1),if_neg (fun h=>h1 h.1.symm)];rfl
  ·have z: ∀r:Nat,jJ X i r=X i:=fun r=>by unfold jJ;(repeat' split)<;>omega
   rw [z r,z (r+1)]
   have z2:(Y i<Y (i+1)/\jJ Y i r=Y i+r/\jJ Y i (r+1)=Y i+r+1)\/(Y (i+1)<Y i/\jJ Y i r=Y i - r/\jJ Y i (r+1)=Y i - r - 1):=by
    unfold jJ;(repeat' split)<;>omega
   generalize jJ Y i r=u at*
   generalize jJ Y i (r+1)=u' at*
   by_cases g:a<X i
   ·rw [if_pos (show X (i+1)=X i/\a<X i from ⟨h1.symm,g⟩),if_pos (show X i=X i/\a<X i from ⟨rfl,g⟩),if_pos (show X (i+1)=X i/\a<X i from ⟨h1.symm,g⟩)]
    (repeat' split)<;>omega
   ·rw [if_neg (fun h=>g h.2),if_neg (fun h=>g h.2),if_neg (fun h=>g h.2)];rfl
theorem wn_wp (P:Poly n X Y) (a b:Int):wn (kz (ln X Y) n) (gx X Y) (gy X Y) a b=wp n X Y a b:=by
 have key: ∀i,sm (wv (gx X Y) (gy X Y) a b) (kz (ln X Y) i)=sm (sv X Y a b) i:=fun i=>by
  induction i with
  |zero=>rfl
  |succ i ih=>
   rw [kz,wW,ih,PN P a b i _ (Nat.le_refl _),sm]
   have:jJ Y i (ln X Y i)=Y (i+1):=by
    have:=P.hv i
    unfold jJ ln
    (repeat' split)<;>omega
   rw [this];rfl
 exact key n
theorem Poly.shift (P:Poly n X Y) (k:Nat):Poly n (fun i=>X (i+k)) (fun i=>Y (i+k)) where
 wL:=P.wL
 px i:=by show X (i+n+k)=_;rw [show i+n+k=i+k+n by omega,P.px]
 py i:=by show Y (i+n+k)=_;rw [show i+n+k=i+k+n by omega,P.py]
 hv i:=by
  have:=P.hv (i+k)
  rw [show i+k+1=i+1+k by omega,show i+k+2=i+2+k by omega] at this
  exact this
 far i j h1 h2:=by
  have:=P.far (i+k) (j+k) (by omega) (by omega)
  rw [show i+k+1=i+1+k by omega,show j+k+1=j+1+k by omega] at this
  exact this
theorem OZ (P:Poly n X Y) (k:Nat) (a b:Int):wp n (fun i=>X (i+k)) (fun i=>Y (i+k)) a b=wp n X Y a b:=by
 unfold wp
 rw [<-Ep (f:=sv X Y a b) (n:=n) (fun i=>by unfold sv;rw [show i+n+1=i+1+n by omega,P.px,P.px,P.py,P.py]) k]
 refine fV fun i _=> ?_
 unfold sv
 simp only [show i+1+k=i+k+1 by omega]
theorem RE (P:Poly n X Y) (k:Nat):sm (cr (fun i=>X (i+k)) (fun i=>Y (i+k))) n=sm (cr X Y) n:=by
 rw [<-Ep (f:=cr X Y) (n:=n) (fun i=>by unfold cr;rw [show i+n+1=i+1+n by omega,show i+n+2=i+2+n by omega,P.px,P.px,P.px,P.py,P.py,P.py]) k]
 refine fV fun i _=> ?_
 unfold cr
 simp only [show i+1+k=i+k+1 by omega,show i+2+k=i+k+2 by omega]
theorem Qh (X Y:Nat->Int): ∀n,0<n-> ∃k,k<n/\ ∀i,i<n->Y k<Y i\/(Y i=Y k/\X k<=X i)
 |0,h=>absurd h (Nat.lt_irrefl 0)
 |1,_=>⟨0,by decide,fun i hi=>by obtain rfl:i=0:=by omega
                                 exact Or.inr ⟨rfl,Int.le_refl _⟩⟩
 |n+2,_=>by
  obtain ⟨k,hk,h⟩:=Qh X Y (n+1) (by omega)
  by_cases c:Y k<Y (n+1)\/(Y (n+1)=Y k/\X k<=X (n+1))
  ·refine ⟨k,by omega,fun i hi=> ?_⟩
   by_cases e:i=n+1
   ·subst e;exact c
   ·exact h i (by omega)
  ·refine ⟨n+1,by omega,fun i hi=> ?_⟩
   by_cases e:i=n+1
   ·subst e;exact Or.inr ⟨rfl,Int.le_refl _⟩
   ·have:=h i (by omega);omega
theorem jc {f:Nat->Int} {n:Nat} (h: ∀i,f (i+n)=f i) (i:Nat):f i=f (i%n):=by
 have key: ∀k j,f (j+n*k)=f j:=fun k=>by
  induction k with
  |zero=>intro j;rfl
  |succ k ih=>intro j;rw [Nat.mul_succ,<-Nat.add_assoc,h,ih]
 have e:=Nat.mod_add_div i n
 rw [<-key (i/n) (i%n),e]
theorem Poly.once (P:Poly n X Y):
 (sm (cr X Y) n=8/\ ∀a b,wp n X Y a b=0\/wp n X Y a b=1)\/
 (sm (cr X Y) n= -8/\(∀a b,wp n X Y a b=0\/wp n X Y a b= -1)/\ ∃a b,wp n X Y a b= -1):=by
 have hb:=P.wL
 obtain ⟨k,hk,hl⟩:=Qh X Y n (by omega)
 have Q:=P.shift k
 have all: ∀i,Y k<Y i\/(Y i=Y k/\X k<=X i):=fun i=>by
  rw [jc (f:=Y) P.py i,jc (f:=X) P.px i]
  exact hl _ (Nat.mod_lt _ (by omega))
 have L:=Q.loop
 have g0:gx (fun i=>X (i+k)) (fun i=>Y (i+k)) 0=X k/\gy (fun i=>X (i+k)) (fun i=>Y (i+k)) 0=Y k:=by
  have:=DE Q (i:=0) (r:=0) (Nat.zero_le _)
  rw [show kz (ln (fun i=>X (i+k)) (fun i=>Y (i+k))) 0+0=0 from rfl] at this
  rw [this.1,this.2]
  unfold jJ
  simp only [Nat.zero_add]
  constructor<;>(repeat' split)<;>omega
 have low:Low (kz (ln (fun i=>X (i+k)) (fun i=>Y (i+k))) n) (gx (fun i=>X (i+k)) (fun i=>Y (i+k))) (gy (fun i=>X (i+k)) (fun i=>Y (i+k))):=fun t _=>by
  obtain ⟨i,r,rfl,hr⟩:=rY Q t
  obtain ⟨e1,e2⟩:=DE Q (Nat.le_of_lt hr)
  have hv:=Q.hv i
  have a1:=all (i+k)
  have a2:=all (i+1+k)
  rw [e1,e2,g0.1,g0.2]
  have b:=FB Q (Nat.le_of_lt hr)
  generalize jJ (fun i=>X (i+k)) i r=u at*
  generalize jJ (fun i=>Y (i+k)) i r=v at*
  omega
 have ht:=Le Q n
 have hc:=RE P k
 have hw: ∀a b,wn (kz (ln (fun i=>X (i+k)) (fun i=>Y (i+k))) n) (gx (fun i=>X (i+k)) (fun i=>Y (i+k))) (gy (fun i=>X (i+k)) (fun i=>Y (i+k))) a b=wp n X Y a b:=fun a b=>by
  rw [wn_wp Q,OZ P]
 rcases L.once low with ⟨h1,h2⟩|⟨h1,h2,a,b,h3⟩
 ·refine Or.inl ⟨by omega,fun a b=> ?_⟩
  rw [<-hw];exact h2 a b
 ·refine Or.inr ⟨by omega,fun a b=> ?_,⟨a,b,?_⟩⟩
  ·rw [<-hw];exact h2 a b
  ·rw [<-hw];exact h3
end
end Go.Abs.Geo
end
section
namespace Go.Abs.Geo
theorem uA (f:Nat->Nat->Int) (n:Nat): ∀K,sm (fun b=>sm (fun i=>f b i) n) K=sm (fun i=>sm (fun b=>f b i) K) n
 |0=>(gM n).symm
 |K+1=>by
  rw [sm,uA f n K,<-JQ];rfl
theorem wV (c:Int) (f:Nat->Int): ∀n,sm (fun i=>c*f i) n=c*sm f n
 |0=>(Int.mul_zero c).symm
 |n+1=>by rw [sm,sm,wV c f n,Int.mul_add]
theorem Db {f g:Nat->Int}: ∀{n:Nat},(∀i,i<n->f i<=g i)->sm f n<=sm g n
 |0,_=>Int.le_refl _
 |n+1,h=>by
  have:=Db (n:=n) fun i hi=>h i (by omega)
  have:=h n (by omega)
  rw [sm,sm];omega
theorem Pp {f:Nat->Int}: ∀{n:Nat},(∀i,i<n->f i<=0)-> ∀{k:Nat},k<n->f k<0->sm f n<0
 |0,_,k,hk,_=>absurd hk (Nat.not_lt_zero k)
 |n+1,h,k,hk,h0=>by
  rw [sm]
  by_cases e:k=n
  ·subst e
   have:=Db (f:=f) (g:=fun _=>0) (n:=k) fun i hi=>h i (by omega)
   rw [gM] at this
   omega
  ·have:=Pp (n:=n) (fun i hi=>h i (by omega)) (k:=k) (by omega) h0
   have:=h n (by omega)
   omega
theorem RI (m x:Int): ∀K:Nat,sm (fun k=>if m+k<x then 1 else 0) K=min (max (x - m) 0) K
 |0=>by show (0:Int)=_;omega
 |K+1=>by
  rw [sm,RI m x K]
  split<;>omega
theorem KC (m y y':Int): ∀K:Nat,sm (fun k=>if y<=m+k/\m+k<y' then 1 else if y'<=m+k/\m+k<y then -1 else 0) K=min (max (y' - m) 0) K - min (max (y - m) 0) K
 |0=>by show (0:Int)=_;omega
 |K+1=>by
  rw [sm,KC m y y' K]
  (repeat' split)<;>omega
section
variable {n:Nat} {X Y:Nat->Int}
theorem XZ (X Y:Nat->Int) (a b:Int) (i:Nat):sv X Y a b i=(if X (i+1)=X i then (if Y i<=b/\b<Y (i+1) then 1 else if Y (i+1)<=b/\b<Y i then -1 else 0) else 0)*(if a<X i then 1 else 0):=by
 unfold sv
 by_cases h1:X (i+1)=X i
 ·by_cases h2:a<X i
  ·rw [if_pos ⟨h1,h2⟩,if_pos h1,if_pos h2,Int.mul_one]
  ·rw [if_neg (fun h=>h2 h.2),if_neg h2,Int.mul_zero]
 ·rw [if_neg (fun h=>h1 h.1),if_neg h1,Int.zero_mul]
theorem Bl (hq: ∀i,Y (i+n)=Y i) (hr:NT X Y) {m m':Int} {K K':Nat} (hx: ∀i,m<=X i/\X i<=m+K) (hy: ∀i,m'<=Y i/\Y i<=m'+K'):
 sm (fun kb:Nat=>sm (fun ka:Nat=>wp n X Y (m+ka) (m'+kb)) K) K'=ar n X Y:=by
 have e0:=hq 0
 rw [Nat.zero_add] at e0
 have h1: ∀kb:Nat,sm (fun ka:Nat=>wp n X Y (m+ka) (m'+kb)) K=sm (fun i=>(if X (i+1)=X i then (if Y i<=m'+kb/\m'+kb<Y (i+1) then 1 else if Y (i+1)<=m'+kb/\m'+kb<Y i then -1 else 0) else 0)*(X i - m)) n:=fun kb=>by
  unfold wp
  rw [uA (fun (ka:Nat) i=>sv X Y (m+ka) (m'+kb) i)]
  refine fV fun i _=> ?_
  rw [fV (fun ka _=>XZ X Y (m+ka) (m'+kb) i),wV,RI]
  have:=hx i
  rw [show min (max (X i - m) 0) (K:Int)=X i - m by omega]
 rw [fV fun kb _=>h1 kb,uA (fun (kb:Nat) i=>(if X (i+1)=X i then (if Y i<=m'+kb/\m'+kb<Y (i+1) then 1 else if Y (i+1)<=m'+kb/\m'+kb<Y i then -1 else 0) else 0)*(X i - m))]
 have h2: ∀i,sm (fun kb:Nat=>(if X (i+1)=X i then (if Y i<=m'+kb/\m'+kb<Y (i+1) then 1 else if Y (i+1)<=m'+kb/\m'+kb<Y i then -1 else 0) else 0)*(X i - m)) K'=X i*(Y (i+1) - Y i) - m*(Y (i+1) - Y i):=fun i=>by
  rw [fV (g:=fun kb:Nat=>(X i - m)*(if X (i+1)=X i then (if Y i<=m'+kb/\m'+kb<Y (i+1) then 1 else if Y (i+1)<=m'+kb/\m'+kb<Y i then -1 else 0) else 0)) (fun kb _=>Int.mul_comm _ _),wV,<-Int.sub_mul]
  congr 1
  by_cases h:X (i+1)=X i
  ·simp only [if_pos h]
   rw [KC]
   have:=hy i
   have:=hy (i+1)
   omega
  ·simp only [if_neg h]
   rw [gM]
   have:=hr i
   omega
 rw [fV fun i _=>h2 i,n9,wV,wU,e0,Int.sub_self,Int.mul_zero,Int.sub_zero]
 rfl
theorem bounds (hp: ∀i,X (i+n)=X i) (hn:0<n): ∃(m:Int) (K:Nat),∀i,m<=X i/\X i<=m+K:=by
 obtain ⟨M,hM⟩:=bound X n
 obtain ⟨m,hm⟩:=bound (fun i=> - X i) n
 refine ⟨-m,(M+m).toNat,fun i=> ?_⟩
 rw [jc hp i]
 have h1:=hM _ (Nat.mod_lt i hn)
 have h2:=hm _ (Nat.mod_lt i hn)
 omega
theorem Poly.good (P:Poly n X Y) (h:0<=ar n X Y):sm (cr X Y) n=8/\ ∀a b,wp n X Y a b=0\/wp n X Y a b=1:=by
 rcases P.once with h1|⟨_,h2,a,b,h3⟩
 ·exact h1
 exfalso
 have hb:=P.wL
 obtain ⟨m,K,hx⟩:=bounds P.px (by omega)
 obtain ⟨m',K',hy⟩:=bounds P.py (by omega)
 have e:=Bl P.py P.MU hx hy
 have ha:m<=a/\a<m+K:=by
  have h4:=K7 P.px P.py P.MU a b
  rw [h3] at h4
  have h5: ∃i,i<n/\sh X Y a b i≠0:=by
   refine Classical.byContradiction fun hn=> ?_
   unfold wh at h4
   rw [fV (g:=fun _=>0) fun i hi=>Classical.byContradiction fun h=>hn ⟨i,hi,h⟩,gM] at h4
   omega
  obtain ⟨i,_,h6⟩:=h5
  have:=hx i
  have:=hx (i+1)
  unfold sh at h6
  (repeat' split at h6)<;>omega
 have B6:m'<=b/\b<m'+K':=by
  have h5: ∃i,i<n/\sv X Y a b i≠0:=by
   refine Classical.byContradiction fun hn=> ?_
   unfold wp at h3
   rw [fV (g:=fun _=>0) fun i hi=>Classical.byContradiction fun h=>hn ⟨i,hi,h⟩,gM] at h3
   omega
  obtain ⟨i,_,h6⟩:=h5
  have:=hy i
  have:=hy (i+1)
  unfold sv at h6
  (repeat' split at h6)<;>omega
 have inner: ∀kb:Nat,sm (fun ka:Nat=>wp n X Y (m+ka) (m'+kb)) K<=0:=fun kb=>by
  have:=Db (f:=fun ka:Nat=>wp n X Y (m+ka) (m'+kb)) (g:=fun _=>0) (n:=K) fun ka _=>by have:=h2 (m+ka) (m'+kb);omega
  rwa [gM] at this
 have one:sm (fun ka:Nat=>wp n X Y (m+ka) (m'+(b - m').toNat)) K<0:=by
  refine Pp (fun ka _=>by have:=h2 (m+ka) (m'+(b - m').toNat);omega) (k:=(a - m).toNat) (by omega) ?_
  rw [show m+((a - m).toNat:Int)=a by omega,show m'+((b - m').toNat:Int)=b by omega,h3]
  decide
 have:=Pp (f:=fun kb:Nat=>sm (fun ka:Nat=>wp n X Y (m+ka) (m'+kb)) K) (n:=K') (fun kb _=>inner kb) (k:=(b - m').toNat) (by omega) one
 omega
def eO (n:Nat) (X Y:Nat->Int) (d:Int) (i:Nat):Int:=X i+d*(sg (Y (i+(n - 1)+1) - Y (i+(n - 1)))+sg (Y (i+1) - Y i))
def fz (n:Nat) (X Y:Nat->Int) (d:Int) (i:Nat):Int:=Y i - d*(sg (X (i+(n - 1)+1) - X (i+(n - 1)))+sg (X (i+1) - X i))
theorem iV (P:Poly n X Y) (d:Int) (i:Nat):eO n X Y d (i+1)=X (i+1)+d*(sg (Y (i+1) - Y i)+sg (Y (i+2) - Y (i+1)))/\fz n X Y d (i+1)=Y (i+1) - d*(sg (X (i+1) - X i)+sg (X (i+2) - X (i+1))):=by
 have hb:=P.wL
 unfold eO fz
 rw [show i+1+(n - 1)+1=i+1+n by omega,show i+1+(n - 1)=i+n by omega,P.px,P.px,P.py,P.py]
 exact ⟨rfl,rfl⟩
theorem gw (P:Poly n X Y) (d:Int) (i:Nat):eO n X Y d (i+n)=eO n X Y d i:=by
 unfold eO
 rw [show i+n+(n - 1)+1=i+(n - 1)+1+n by omega,show i+n+(n - 1)=i+(n - 1)+n by omega,show i+n+1=i+1+n by omega,P.px,P.py,P.py,P.py,P.py]
theorem iB (P:Poly n X Y) (d:Int) (i:Nat):fz n X Y d (i+n)=fz n X Y d i:=by
 unfold fz
 rw [show i+n+(n - 1)+1=i+(n - 1)+1+n by omega,show i+n+(n - 1)=i+(n - 1)+n by omega,show i+n+1=i+1+n by omega,P.py,P.px,P.px,P.px,P.px]
theorem gP (z:Int):(0<z/\sg z=1)\/(z=0/\sg z=0)\/(z<0/\sg z= -1):=by
 unfold sg
 (repeat' split)<;>omega
def Same (n:Nat) (X Y:Nat->Int) (d:Int):Prop:= ∀i,sg (eO n X Y d (i+1) - eO n X Y d i)=sg (X (i+1) - X i)/\sg (fz n X Y d (i+1) - fz n X Y d i)=sg (Y (i+1) - Y i)
theorem kV {f:Nat->Int} {n:Nat} (h: ∀i,f (i+n)=f i):sm f n=sm (fun i=>f (i+1)) n:=(Ep h 1).symm
theorem Ek {n:Nat} {X Y:Nat->Int} (hp: ∀i,X (i+n)=X i) (hq: ∀i,Y (i+n)=Y i) (a b:Int) (i:Nat):sv X Y a b (i+n)=sv X Y a b i:=by
 unfold sv
 rw [show i+n+1=i+1+n by omega,hp,hp,hq,hq]
theorem Ps {n:Nat} {X Y:Nat->Int} (hp: ∀i,X (i+n)=X i) (hq: ∀i,Y (i+n)=Y i) (a b:Int) (i:Nat):sh X Y a b (i+n)=sh X Y a b i:=by
 unfold sh
 rw [show i+n+1=i+1+n by omega,hp,hp,hq,hq]
theorem sd (P:Poly n X Y) (d:Int) (i:Nat):
 (X (i+1)=X (i+2)/\Y (i+1)<Y (i+2)/\eO n X Y d (i+1)=X (i+1)+d/\eO n X Y d (i+2)=X (i+1)+d)\/
 (X (i+1)=X (i+2)/\Y (i+2)<Y (i+1)/\eO n X Y d (i+1)=X (i+1) - d/\eO n X Y d (i+2)=X (i+1) - d)\/
 (Y (i+1)=Y (i+2)/\X (i+1)<X (i+2)/\fz n X Y d (i+1)=Y (i+1) - d/\fz n X Y d (i+2)=Y (i+1) - d)\/
 (Y (i+1)=Y (i+2)/\X (i+2)<X (i+1)/\fz n X Y d (i+1)=Y (i+1)+d/\fz n X Y d (i+2)=Y (i+1)+d):=by
 obtain ⟨e1,e2⟩:=iV P d i
 obtain ⟨e3,e4⟩:=iV P d (i+1)
 have q1:i+1+1=i+2:=rfl
 have q2:i+1+2=i+3:=rfl
 rw [q1,q2] at e3 e4
 have h0:=P.hv i
 have h1:=P.hv (i+1)
 rw [q1,q2] at h1
 have s0: ∀z:Int,z=0->sg z=0:=fun z h=>by unfold sg;(repeat' split)<;>omega
 have s1: ∀z:Int,0<z->sg z=1:=fun z h=>by unfold sg;(repeat' split)<;>omega
 have s2: ∀z:Int,z<0->sg z= -1:=fun z h=>by unfold sg;(repeat' split)<;>omega
 rcases h1 with ⟨a1,a2,a3,a4⟩|⟨a1,a2,a3,a4⟩
 ·have b1:X i=X (i+1):=by omega
  rcases Int.lt_trichotomy (X (i+1)) (X (i+2)) with h|h|h
  ·refine Or.inr (Or.inr (Or.inl ⟨a2,h,?_,?_⟩))
   ·rw [e2,s0 (X (i+1) - X i) (by omega),s1 (X (i+2) - X (i+1)) (by omega)];omega
   ·rw [e4,s1 (X (i+2) - X (i+1)) (by omega),s0 (X (i+3) - X (i+2)) (by omega)];omega
  ·exact absurd h a1
  ·refine Or.inr (Or.inr (Or.inr ⟨a2,h,?_,?_⟩))
   ·rw [e2,s0 (X (i+1) - X i) (by omega),s2 (X (i+2) - X (i+1)) (by omega)];omega
   ·rw [e4,s2 (X (i+2) - X (i+1)) (by omega),s0 (X (i+3) - X (i+2)) (by omega)];omega
 ·have b1:Y i=Y (i+1):=by omega
  rcases Int.lt_trichotomy (Y (i+1)) (Y (i+2)) with h|h|h
  ·refine Or.inl ⟨a1,h,?_,?_⟩
   ·rw [e1,s0 (Y (i+1) - Y i) (by omega),s1 (Y (i+2) - Y (i+1)) (by omega)];omega
   ·rw [e3,s1 (Y (i+2) - Y (i+1)) (by omega),s0 (Y (i+3) - Y (i+2)) (by omega)];omega
  ·exact absurd h a2
  ·refine Or.inr (Or.inl ⟨a1,h,?_,?_⟩)
   ·rw [e1,s0 (Y (i+1) - Y i) (by omega),s2 (Y (i+2) - Y (i+1)) (by omega)];omega
   ·rw [e3,s2 (Y (i+2) - Y (i+1)) (by omega),s0 (Y (i+3) - Y (i+2)) (by omega)];omega
theorem ge1 {n:Nat} {P:Nat->Prop} (hn:0<n) (hp: ∀i,P (i+n)->P i) (h: ∀i,P (i+1)) (i:Nat):P i:=by
 obtain ⟨m,rfl⟩: ∃m,n=m+1:=⟨n - 1,by omega⟩
 exact hp i (h (i+m))
theorem Qa (P:Poly n X Y) (d:Int):NT (eO n X Y d) Y:=by
 refine ge1 (n:=n) (P:=fun i=>eO n X Y d i=eO n X Y d (i+1)\/Y i=Y (i+1)) (by have:=P.wL;omega) (fun i h=> ?_) fun i=> ?_
 ·show eO n X Y d i=eO n X Y d (i+1)\/Y i=Y (i+1)
  rw [gw P,show i+n+1=i+1+n by omega,gw P,P.py,P.py] at h
  exact h
 ·have:=sd P d i
  show eO n X Y d (i+1)=eO n X Y d (i+2)\/Y (i+1)=Y (i+2)
  omega
theorem qZ (P:Poly n X Y) (d:Int):NT (eO n X Y d) (fz n X Y d):=by
 refine ge1 (n:=n) (P:=fun i=>eO n X Y d i=eO n X Y d (i+1)\/fz n X Y d i=fz n X Y d (i+1)) (by have:=P.wL;omega) (fun i h=> ?_) fun i=> ?_
 ·show eO n X Y d i=eO n X Y d (i+1)\/fz n X Y d i=fz n X Y d (i+1)
  rw [gw P,iB P,show i+n+1=i+1+n by omega,gw P,iB P] at h
  exact h
 ·have:=sd P d i
  show eO n X Y d (i+1)=eO n X Y d (i+2)\/fz n X Y d (i+1)=fz n X Y d (i+2)
  omega
theorem Yk (P:Poly n X Y) {d:Int} (hd:0<=d) (hs:Same n X Y d) (a b:Int):wp n X Y a b<=wp n (eO n X Y d) (fz n X Y d) a b:=by
 have h1:wp n X Y a b<=wp n (eO n X Y d) Y a b:=by
  unfold wp
  rw [kV (Ek P.px P.py a b),kV (Ek (gw P d) P.py a b)]
  refine Db fun i _=> ?_
  have hf:=sd P d i
  have q1:i+1+1=i+2:=rfl
  unfold sv
  rw [q1]
  rcases hf with ⟨f1,f2,f3,f4⟩|⟨f1,f2,f3,f4⟩|⟨f1,f2,f3,f4⟩|⟨f1,f2,f3,f4⟩
  ·rw [f3,f4];(repeat' split)<;>omega
  ·rw [f3,f4];(repeat' split)<;>omega
  ·(repeat' split)<;>omega
  ·(repeat' split)<;>omega
 have h2:wh n (eO n X Y d) Y a b<=wh n (eO n X Y d) (fz n X Y d) a b:=by
  unfold wh
  rw [kV (Ps (gw P d) P.py a b),kV (Ps (gw P d) (iB P d) a b)]
  refine Db fun i _=> ?_
  have hf:=sd P d i
  have hg:=(hs (i+1)).1
  have q1:i+1+1=i+2:=rfl
  unfold sh
  rw [q1] at hg ⊢
  have sx:=gP (eO n X Y d (i+2) - eO n X Y d (i+1))
  have sx':=gP (X (i+2) - X (i+1))
  rcases hf with ⟨f1,f2,f3,f4⟩|⟨f1,f2,f3,f4⟩|⟨f1,f2,f3,f4⟩|⟨f1,f2,f3,f4⟩
  ·rw [f3,f4];(repeat' split)<;>omega
  ·rw [f3,f4];(repeat' split)<;>omega
  ·rw [f3,f4];(repeat' split)<;>omega
  ·rw [f3,f4];(repeat' split)<;>omega
 rw [K7 (gw P d) P.py (Qa P d)] at h1
 rw [<-K7 (gw P d) (iB P d) (qZ P d)] at h2
 exact Int.le_trans h1 h2
end
end Go.Abs.Geo
end
section
namespace Go.Abs.Geo
section
variable {n:Nat} {X Y:Nat->Int}
end
end Go.Abs.Geo
end
section
namespace Go.Abs.Geo
open Go.Abs
def dh (n:Nat) (X:Nat->Int) (i:Nat):Int:=X (i%n)
theorem lk (n:Nat) (X:Nat->Int) (i:Nat):dh n X (i+n)=dh n X i:=by unfold dh;rw [Nat.add_mod_right]
theorem kE (n i:Nat):ix n (i:Int)=i%n:=by
 unfold ix
 rw [bw]
 omega
theorem TZ (n i:Nat):ix n ((i:Int)+1)=(i+1)%n:=kE n (i+1)
theorem RD {n:Nat} {X:Nat->Int} {i:Nat} (h:i<n):dh n X i=X i:=by unfold dh;rw [cG h]
theorem fW (n:Nat) (X:Nat->Int) (i:Nat):X (ix n (i:Int))=dh n X i/\X (ix n ((i:Int)+1))=dh n X (i+1):=by
 rw [kE,TZ];exact ⟨rfl,rfl⟩
theorem EV {n:Nat} (X:Nat->Int) (i:Nat):X (ix n (i:Int))=dh n X i/\X (ix n (((i+1:Nat):Int) - 1))=dh n X i/\X (ix n (((i+1:Nat):Int) - 1+1))=dh n X (i+1):=by
 rw [show ((i+1:Nat):Int) - 1=(i:Int) by omega]
 exact ⟨(fW n X i).1,(fW n X i).1,(fW n X i).2⟩
section
variable {n:Nat} {X Y:Nat->Int}
theorem rJ (n:Nat) (X Y:Nat->Int) (i:Nat):dD n X Y i=ns (dh n X i) (dh n Y i) (dh n X (i+1)) (dh n Y (i+1)):=by
 unfold dD
 rw [(fW n X i).1,(fW n X i).2,(fW n Y i).1,(fW n Y i).2]
theorem RC (n:Nat) (X Y:Nat->Int) (i:Nat):dO n X Y i=yr (dh n X i) (dh n Y i) (dh n X (i+1)) (dh n Y (i+1)):=by
 unfold dO
 rw [(fW n X i).1,(fW n X i).2,(fW n Y i).1,(fW n Y i).2]
theorem rp (n:Nat) (a:Int):ix n (a+n)=ix n a:=by unfold ix;rw [bw]
theorem rI (n:Nat) (X Y:Nat->Int) (a:Int):dD n X Y (a+n)=dD n X Y a:=by
 unfold dD
 rw [show a+(n:Int)+1=a+1+n by omega,rp,rp]
theorem RB (n:Nat) (X Y:Nat->Int) (a:Int):dO n X Y (a+n)=dO n X Y a:=by
 unfold dO
 rw [show a+(n:Int)+1=a+1+n by omega,rp,rp]
theorem Rb (h: ∀i,i<n->gF n X Y i=true) (hn:0<n) (i:Nat):gF n X Y i=true:=by
 have key: ∀k j:Nat,gF n X Y (j+n*k)=gF n X Y j:=fun k=>by
  induction k with
  |zero=>intro j;rfl
  |succ k ih=>
   intro j
   rw [Nat.mul_succ,<-bT,<-ih j]
   unfold gF
   rw [show ((j+n*k+n:Nat):Int)=((j+n*k:Nat):Int)+n by omega,show ((j+n*k:Nat):Int)+(n:Int) - 1=((j+n*k:Nat):Int) - 1+n by omega,RB,RB,rI,rI]
 have e:=Nat.mod_add_div i n
 rw [<-e,key]
 exact h _ (bj _ hn)
theorem Ra {i:Nat} (h:gF n X Y (i+1)=true) (_:0<n):
 (dh n X i≠dh n X (i+1)/\dh n Y i=dh n Y (i+1)/\dh n X (i+1)=dh n X (i+2)/\dh n Y (i+1)≠dh n Y (i+2))\/(dh n X i=dh n X (i+1)/\dh n Y i≠dh n Y (i+1)/\dh n X (i+1)≠dh n X (i+2)/\dh n Y (i+1)=dh n Y (i+2)):=by
 unfold gF at h
 rw [show ((i+1:Nat):Int) - 1=(i:Int) by omega,RC,RC,rJ,rJ] at h
 rw [show i+1+1=i+2 from rfl] at h
 simp only [av,ai,yr] at h
 obtain ⟨⟨h1,h2⟩,h3⟩:=h
 unfold ns at h3
 generalize dh n X i=a at*
 generalize dh n X (i+1)=b at*
 generalize dh n X (i+2)=c at*
 generalize dh n Y i=a' at*
 generalize dh n Y (i+1)=b' at*
 generalize dh n Y (i+2)=c' at*
 rcases h1 with ⟨p1,p2⟩|⟨p1,p2⟩<;>rcases h2 with ⟨q1,q2⟩|⟨q1,q2⟩
 ·exfalso;(repeat' split at h3)<;>omega
 ·exact Or.inr ⟨q1,q2,p2,p1⟩
 ·exact Or.inl ⟨q2,q1,p1,p2⟩
 ·exfalso;(repeat' split at h3)<;>omega
def Clear (n:Nat) (X Y:Nat->Int) (i j:Nat):Prop:= ¬(min (dh n X i) (dh n X (i+1))<=max (dh n X j) (dh n X (j+1))/\min (dh n X j) (dh n X (j+1))<=max (dh n X i) (dh n X (i+1))/\min (dh n Y i) (dh n Y (i+1))<=max (dh n Y j) (dh n Y (j+1))/\min (dh n Y j) (dh n Y (j+1))<=max (dh n Y i) (dh n Y (i+1)))
theorem NG {i j:Nat} (h:Clear n X Y i j):Clear n X Y j i:=fun h'=>h ⟨h'.2.1,h'.1,h'.2.2.2,h'.2.2.1⟩
theorem H6 {i j:Nat} (h:kS n X Y i j=false) (h1:((j:Int)+1)%(n:Int)≠(i:Int)):Clear n X Y i j:=by
 unfold kS at h
 rw [bk h1,Bool.true_and] at h
 unfold JG at h
 rw [an] at h
 unfold lo hi at h
 rw [(fW n X i).1,(fW n X i).2,(fW n Y i).1,(fW n Y i).2,(fW n X j).1,(fW n X j).2,(fW n Y j).1,(fW n Y j).2] at h
 exact h
theorem DQ (i j:Nat):(Clear n X Y (i+n) j↔Clear n X Y i j)/\(Clear n X Y i (j+n)↔Clear n X Y i j):=by
 unfold Clear
 rw [show i+n+1=i+1+n by omega,show j+n+1=j+1+n by omega]
 simp only [lk,and_self]
theorem NH (i j:Nat):Clear n X Y i j↔Clear n X Y (i%n) (j%n):=by
 have k1: ∀k a b:Nat,Clear n X Y (a+n*k) b↔Clear n X Y a b:=fun k=>by
  induction k with
  |zero=>exact fun a b=>Iff.rfl
  |succ k ih=>intro a b;rw [Nat.mul_succ,<-bT,(DQ _ _).1,ih]
 have k2: ∀k a b:Nat,Clear n X Y a (b+n*k)↔Clear n X Y a b:=fun k=>by
  induction k with
  |zero=>exact fun a b=>Iff.rfl
  |succ k ih=>intro a b;rw [Nat.mul_succ,<-bT,(DQ _ _).2,ih]
 have e:Clear n X Y (i%n+n*(i/n)) (j%n+n*(j/n))↔Clear n X Y (i%n) (j%n):=by rw [k1,k2]
 rwa [Nat.mod_add_div,Nat.mod_add_div] at e
theorem M5 {n i j:Nat} (hn:2<n) (h1:i+1<j) (h2:j+1<i+n):(i%n+2<=j%n/\(j%n+1)%n≠i%n)\/(j%n+2<=i%n/\(i%n+1)%n≠j%n):=by
 have a:=Nat.mod_add_div i n
 have b:=Nat.mod_add_div j n
 have c:=bj i (show 0<n by omega)
 have d:=bj j (show 0<n by omega)
 generalize hi:i%n=r at*
 generalize hj:j%n=s at*
 generalize i/n=p at*
 generalize j/n=q at*
 -- q = p or q = p + 1
 have hpq:q=p\/q=p+1:=by
  rcases cP q p with h|h|h
  ·have:=Nat.mul_le_mul_left n (show q+1<=p from h)
   rw [Nat.mul_succ] at this
   omega
  ·exact Or.inl h
  ·right
   refine Nat.le_antisymm ?_ h
   refine Nat.le_of_not_lt fun h'=> ?_
   have:=Nat.mul_le_mul_left n (show p+2<=q from h')
   rw [show n*(p+2)=n*p+n+n by rw [Nat.mul_add];omega] at this
   omega
 rcases hpq with rfl|rfl
 ·left
  refine ⟨by omega,?_⟩
  by_cases e:s+1=n
  ·rw [e,Nat.mod_self];omega
  ·rw [cG (by omega)];omega
 ·right
  rw [show n*(p+1)=n*p+n from Nat.mul_succ n p] at b
  refine ⟨by omega,?_⟩
  by_cases e:r+1=n
  ·rw [e,Nat.mod_self];omega
  ·rw [cG (by omega)];omega
theorem iZ (h:gz n X Y=0):Poly n (dh n X) (dh n Y):=by
 obtain ⟨hn,_,hf,hc,_⟩:=nc h
 have hf:=Rb hf (by omega)
 refine ⟨hn.1,lk n X,lk n Y,fun i=>Ra (hf (i+1)) (by omega),fun i j h1 h2=> ?_⟩
 show Clear n X Y i j
 rw [NH]
 have c:=bj i (show 0<n by omega)
 have d:=bj j (show 0<n by omega)
 rcases M5 (by omega) h1 h2 with ⟨h3,h4⟩|⟨h3,h4⟩
 ·exact H6 (hc _ c _ d h3) (by exact_mod_cast h4)
 ·exact NG (H6 (hc _ d _ c h3) (by exact_mod_cast h4))
theorem JE (hq:NT (dh n X) (dh n Y)):qE n X Y n=2*ar n (dh n X) (dh n Y):=by
 have h1: ∀k,qE n X Y k=sm (fun i=>dh n X i*dh n Y (i+1) - dh n X (i+1)*dh n Y i) k:=fun k=>by
  induction k with
  |zero=>rfl
  |succ k ih=>rw [qE,ih,(fW n X k).1,(fW n X k).2,(fW n Y k).1,(fW n Y k).2];rfl
 have h2: ∀i,dh n X i*dh n Y (i+1) - dh n X (i+1)*dh n Y i=2*(dh n X i*(dh n Y (i+1) - dh n Y i)) - (dh n X (i+1)*dh n Y (i+1) - dh n X i*dh n Y i):=fun i=>by
  have:=hq i
  generalize dh n X i=a at*
  generalize dh n X (i+1)=b at*
  generalize dh n Y i=c at*
  generalize dh n Y (i+1)=e at*
  rcases this with rfl|rfl<;>grind
 have e0:dh n X n*dh n Y n=dh n X 0*dh n Y 0:=by
  have a1:=lk n X 0
  have a2:=lk n Y 0
  rw [aE] at a1 a2
  rw [a1,a2]
 rw [h1,fV fun i _=>h2 i,n9,wV,wU (fun i=>dh n X i*dh n Y i),e0,Int.sub_self,bY]
 rfl
theorem vW (h:gz n X Y=0):sm (cr (dh n X) (dh n Y)) n=8/\ ∀a b,wp n (dh n X) (dh n Y) a b=0\/wp n (dh n X) (dh n Y) a b=1:=by
 have P:=iZ h
 have h1:=(nc h).2.2.2.2
 rw [JE P.MU] at h1
 exact P.good (by omega)
end
end Go.Abs.Geo
end
section
namespace Go.Abs.Geo
open Go.Abs
section
variable {n:Nat} {X Y:Nat->Int}
theorem P2 {f:Nat->Int} {g:Nat->Bool} (h: ∀k,(f k=0/\g k=false)\/((f k=1\/f k= -1)/\g k=true)) {c:Nat->Bool} (c0:c 0=false)
 (cs: ∀k,c (k+1)=if g k=true then !(c k) else c k): ∀k,c k=true↔sm f k%2=1
 |0=>by rw [c0,sm];decide
 |k+1=>by
  have ih:=P2 h c0 cs k
  rw [cs,sm]
  rcases h k with ⟨h1,h2⟩|⟨h1,h2⟩
  ·rw [h1,h2,ae (by decide),bI];exact ih
  ·rw [h2,ah rfl]
   cases hc:c k with
   |true=>
    have:=ih.1 hc
    exact ⟨fun h=>(by cases h),fun h=>(by omega)⟩
   |false=>
    have: ¬sm f k%2=1:=fun h=>by have:=ih.2 h;rw [hc] at this;cases this
    exact ⟨fun _=>by omega,fun _=>rfl⟩
theorem Kk (P:Poly n (dh n X) (dh n Y)) {a b x y:Int} (hx: ∀i,a<dh n X i↔x<2*dh n X i) (hy: ∀i,(dh n Y i<=b↔2*dh n Y i<y)/\(b<dh n Y i↔y<2*dh n Y i)):
 kr n X Y x y n=true↔wp n (dh n X) (dh n Y) a b%2=1:=by
 refine P2 (f:=sv (dh n X) (dh n Y) a b) (g:=hasB n X Y x y) (fun k=> ?_) rfl (fun k=>rfl) n
 have hv:=P.hv k
 have x1:=hx k
 have x2:=hx (k+1)
 have y1:=hy k
 have y2:=hy (k+1)
 unfold hasB sv lo hi
 rw [(fW n X k).1,(fW n X k).2,(fW n Y k).1,(fW n Y k).2]
 generalize dh n X k=p at*
 generalize dh n X (k+1)=p' at*
 generalize dh n Y k=q at*
 generalize dh n Y (k+1)=q' at*
 rcases hv with ⟨h1,h2,_,_⟩|⟨h1,h2,_,_⟩
 ·refine Or.inl ⟨ae (by omega),bg (by omega)⟩
 ·subst h1
  by_cases g1:a<p
  ·rw [ah ⟨rfl,g1⟩]
   by_cases g2:q<=b/\b<q'
   ·rw [ah g2];exact Or.inr ⟨Or.inl rfl,bk (by omega)⟩
   ·rw [ae g2]
    by_cases g3:q'<=b/\b<q
    ·rw [ah g3];exact Or.inr ⟨Or.inr rfl,bk (by omega)⟩
    ·rw [ae g3];exact Or.inl ⟨rfl,bg (by omega)⟩
  ·exact Or.inl ⟨ae (by omega),bg (by omega)⟩
theorem Ve {a b c d:Int} (h:(a≠c/\b=d)\/(a=c/\b≠d)):jY ((ns a b c d+3)%4)=sg (d - b)/\jX ((ns a b c d+3)%4)= - sg (c - a):=by
 have h1:=gP (d - b)
 have h2:=gP (c - a)
 unfold ns
 split
 ·rw [show jY ((0+3)%4)=0 from rfl,show jX ((0+3)%4)= -1 from rfl];omega
 ·split
  ·rw [show jY ((1+3)%4)=1 from rfl,show jX ((1+3)%4)=0 from rfl];omega
  ·split
   ·rw [show jY ((2+3)%4)=0 from rfl,show jX ((2+3)%4)=1 from rfl];omega
   ·split
    ·rw [show jY ((3+3)%4)= -1 from rfl,show jX ((3+3)%4)=0 from rfl];omega
    ·omega
theorem PW (P:Poly n (dh n X) (dh n Y)) (d:Int) {i:Nat} (hi:i<n):pA n X Y d i=eO n (dh n X) (dh n Y) d i/\pz n X Y d i=fz n (dh n X) (dh n Y) d i:=by
 have hb:=P.wL
 have e1:dD n X Y ((i:Int) - 1)=ns (dh n X (i+(n - 1))) (dh n Y (i+(n - 1))) (dh n X (i+(n - 1)+1)) (dh n Y (i+(n - 1)+1)):=by
  rw [<-rJ,<-rI n X Y ((i:Int) - 1),show (i:Int) - 1+n=((i+(n - 1):Nat):Int) by omega]
 have h1:=P.hv i
 have h2:=P.hv (i+(n - 1))
 obtain ⟨a1,a2⟩:=Ve (a:=dh n X i) (b:=dh n Y i) (c:=dh n X (i+1)) (d:=dh n Y (i+1)) (by omega)
 obtain ⟨a3,a4⟩:=Ve (a:=dh n X (i+(n - 1))) (b:=dh n Y (i+(n - 1))) (c:=dh n X (i+(n - 1)+1)) (d:=dh n Y (i+(n - 1)+1)) (by omega)
 unfold pA pz eO fz
 rw [e1,rJ,a1,a2,a3,a4,RD hi,RD hi]
 constructor
 ·rw [Int.mul_add];omega
 ·rw [Int.mul_add,cW,cW];omega
theorem ze (P:Poly n (dh n X) (dh n Y)) (d:Int):dh n (pA n X Y d)=eO n (dh n X) (dh n Y) d/\dh n (pz n X Y d)=fz n (dh n X) (dh n Y) d:=by
 have hb:=P.wL
 constructor
 ·funext i
  unfold dh
  rw [(PW P d (bj i (by omega))).1]
  exact (jc (gw P d) i).symm
 ·funext i
  unfold dh
  rw [(PW P d (bj i (by omega))).2]
  exact (jc (iB P d) i).symm
theorem Fi {a b c d:Int}:(sg (c - a)=1->sg (d - b)=0->ns a b c d=0)/\(sg (c - a)=0->sg (d - b)=1->ns a b c d=1)/\(sg (c - a)= -1->sg (d - b)=0->ns a b c d=2)/\(sg (c - a)=0->sg (d - b)= -1->ns a b c d=3):=by
 have h1:=gP (c - a)
 have h2:=gP (d - b)
 generalize sg (c - a)=u at*
 generalize sg (d - b)=v at*
 unfold ns
 refine ⟨fun e1 e2=> ?_,fun e1 e2=> ?_,fun e1 e2=> ?_,fun e1 e2=> ?_⟩
 ·rw [ah (by omega)]
 ·rw [ae (by omega),ah (by omega)]
 ·rw [ae (by omega),ae (by omega),ah (by omega)]
 ·rw [ae (by omega),ae (by omega),ae (by omega),ah (by omega)]
theorem zf (P:Poly n (dh n X) (dh n Y)) (i:Nat):eV n X Y ((i+1:Nat):Int)=sg (dh n X (i+1) - dh n X i)*sg (dh n Y (i+2) - dh n Y (i+1)) - sg (dh n Y (i+1) - dh n Y i)*sg (dh n X (i+2) - dh n X (i+1)):=by
 have h:=P.hv i
 unfold eV
 rw [show ((i+1:Nat):Int) - 1=(i:Int) by omega,rJ,rJ,show i+1+1=i+2 from rfl]
 have h1:=gP (dh n X (i+1) - dh n X i)
 have h2:=gP (dh n Y (i+1) - dh n Y i)
 have h3:=gP (dh n X (i+2) - dh n X (i+1))
 have h4:=gP (dh n Y (i+2) - dh n Y (i+1))
 obtain ⟨d0,d1,d2,d3⟩:=Fi (a:=dh n X i) (b:=dh n Y i) (c:=dh n X (i+1)) (d:=dh n Y (i+1))
 obtain ⟨f0,f1,f2,f3⟩:=Fi (a:=dh n X (i+1)) (b:=dh n Y (i+1)) (c:=dh n X (i+2)) (d:=dh n Y (i+2))
 generalize ns (dh n X i) (dh n Y i) (dh n X (i+1)) (dh n Y (i+1))=D at*
 generalize ns (dh n X (i+1)) (dh n Y (i+1)) (dh n X (i+2)) (dh n Y (i+2))=E at*
 generalize sg (dh n X (i+1) - dh n X i)=u at*
 generalize sg (dh n Y (i+1) - dh n Y i)=v at*
 generalize sg (dh n X (i+2) - dh n X (i+1))=u' at*
 generalize sg (dh n Y (i+2) - dh n Y (i+1))=v' at*
 have hc:(u=0/\v'=0/\(v=1\/v= -1)/\(u'=1\/u'= -1))\/(v=0/\u'=0/\(u=1\/u= -1)/\(v'=1\/v'= -1)):=by
  clear d0 d1 d2 d3 f0 f1 f2 f3
  omega
 clear h h1 h2 h3 h4
 rcases hc with ⟨rfl,rfl,rfl|rfl,rfl|rfl⟩|⟨rfl,rfl,rfl|rfl,rfl|rfl⟩
 ·rw [d1 rfl rfl,f0 rfl rfl];decide
 ·rw [d1 rfl rfl,f2 rfl rfl];decide
 ·rw [d3 rfl rfl,f0 rfl rfl];decide
 ·rw [d3 rfl rfl,f2 rfl rfl];decide
 ·rw [d0 rfl rfl,f1 rfl rfl];decide
 ·rw [d0 rfl rfl,f3 rfl rfl];decide
 ·rw [d2 rfl rfl,f1 rfl rfl];decide
 ·rw [d2 rfl rfl,f3 rfl rfl];decide
theorem Ho (i:Nat):ee n X Y (i:Int)=(ln (dh n X) (dh n Y) i:Int):=by
 unfold ee ln
 rw [(fW n X i).1,(fW n X i).2,(fW n Y i).1,(fW n Y i).2]
 omega
theorem Uu {d x0 x1 x2 x3 y0 y1 y2 y3:Int} (h1:(x0≠x1/\y0=y1/\x1=x2/\y1≠y2)\/(x0=x1/\y0≠y1/\x1≠x2/\y1=y2)) (h2:(x1≠x2/\y1=y2/\x2=x3/\y2≠y3)\/(x1=x2/\y1≠y2/\x2≠x3/\y2=y3))
 (h:0<((x2 - x1).natAbs+(y2 - y1).natAbs:Nat)+d*(sg (x1 - x0)*sg (y2 - y1) - sg (y1 - y0)*sg (x2 - x1))+d*(sg (x2 - x1)*sg (y3 - y2) - sg (y2 - y1)*sg (x3 - x2))):
 sg (x2+d*(sg (y2 - y1)+sg (y3 - y2)) - (x1+d*(sg (y1 - y0)+sg (y2 - y1))))=sg (x2 - x1)/\sg (y2 - d*(sg (x2 - x1)+sg (x3 - x2)) - (y1 - d*(sg (x1 - x0)+sg (x2 - x1))))=sg (y2 - y1):=by
 have s0: ∀z:Int,z=0->sg z=0:=fun z h=>by have:=gP z;omega
 have sgv: ∀z s:Int,((0<z/\s=1)\/(z=0/\s=0)\/(z<0/\s= -1))->sg z=s:=fun z s hz=>by have:=gP z;omega
 rcases h1 with ⟨p1,p2,p3,p4⟩|⟨p1,p2,p3,p4⟩
 ·have q1:x2≠x3:=by omega
  have q2:y2=y3:=by omega
  clear h2
  subst p2 p3 q2
  rw [s0 (y0 - y0) (by omega),s0 (x1 - x1) (by omega),s0 (y2 - y2) (by omega)] at h ⊢
  rcases gP (x1 - x0) with ⟨a,ea⟩|⟨a,ea⟩|⟨a,ea⟩<;>rcases gP (y2 - y0) with ⟨b,eb⟩|⟨b,eb⟩|⟨b,eb⟩<;>rcases gP (x3 - x1) with ⟨c,ec⟩|⟨c,ec⟩|⟨c,ec⟩<;>rw [ea,eb,ec] at h ⊢<;>first|(exfalso;clear h;omega)|exact ⟨sgv _ _ (by omega),sgv _ _ (by omega)⟩
 ·have q1:x2=x3:=by omega
  have q2:y2≠y3:=by omega
  clear h2
  subst p1 p4 q1
  rw [s0 (x0 - x0) (by omega),s0 (y1 - y1) (by omega),s0 (x2 - x2) (by omega)] at h ⊢
  rcases gP (y1 - y0) with ⟨a,ea⟩|⟨a,ea⟩|⟨a,ea⟩<;>rcases gP (x2 - x0) with ⟨b,eb⟩|⟨b,eb⟩|⟨b,eb⟩<;>rcases gP (y3 - y1) with ⟨c,ec⟩|⟨c,ec⟩|⟨c,ec⟩<;>rw [ea,eb,ec] at h ⊢<;>first|(exfalso;clear h;omega)|exact ⟨sgv _ _ (by omega),sgv _ _ (by omega)⟩
theorem Tp (P:Poly n (dh n X) (dh n Y)) {d:Int} (h: ∀i,i<n->0<Dr n X Y d (i:Nat)):Same n (dh n X) (dh n Y) d:=by
 have hb:=P.wL
 have Zu: ∀a:Int,eV n X Y (a+n)=eV n X Y a:=fun a=>by
  unfold eV
  rw [show a+(n:Int) - 1=a - 1+n by omega,rI,rI]
 have J8: ∀a:Int,ee n X Y (a+n)=ee n X Y a:=fun a=>by
  unfold ee
  rw [show a+(n:Int)+1=a+1+n by omega,rp,rp]
 have oper: ∀a:Int,Dr n X Y d (a+n)=Dr n X Y d a:=fun a=>by
  unfold Dr
  rw [show a+(n:Int)+1=a+1+n by omega,Zu,Zu,J8]
 have all: ∀i:Nat,0<Dr n X Y d (i:Nat):=fun i=>by
  have:=jc (f:=fun i:Nat=>Dr n X Y d (i:Int)) (n:=n) (fun i=>by show Dr n X Y d ((i+n:Nat):Int)=_;rw [Int.natCast_add,oper]) i
  rw [this]
  exact h _ (bj i (by omega))
 refine ge1 (n:=n) (P:=fun i=>sg (eO n (dh n X) (dh n Y) d (i+1) - eO n (dh n X) (dh n Y) d i)=sg (dh n X (i+1) - dh n X i)/\sg (fz n (dh n X) (dh n Y) d (i+1) - fz n (dh n X) (dh n Y) d i)=sg (dh n Y (i+1) - dh n Y i)) (by omega) (fun i h=> ?_) fun i=> ?_
 ·show sg (eO n (dh n X) (dh n Y) d (i+1) - eO n (dh n X) (dh n Y) d i)=sg (dh n X (i+1) - dh n X i)/\sg (fz n (dh n X) (dh n Y) d (i+1) - fz n (dh n X) (dh n Y) d i)=sg (dh n Y (i+1) - dh n Y i)
  rw [show i+n+1=i+1+n by omega,gw P,gw P,iB P,iB P,lk,lk,lk,lk] at h
  exact h
 ·have hl:=all (i+1)
  have hv:=P.hv i
  have EZ:=P.hv (i+1)
  obtain ⟨e1,e2⟩:=iV P d i
  obtain ⟨e3,e4⟩:=iV P d (i+1)
  unfold Dr at hl
  rw [Ho,zf P i,show ((i+1:Nat):Int)+1=((i+1+1:Nat):Int) by omega,zf P (i+1)] at hl
  unfold ln at hl
  have q1:i+1+1=i+2:=rfl
  have q2:i+1+2=i+3:=rfl
  rw [q1,q2] at*
  show sg (eO n (dh n X) (dh n Y) d (i+2) - eO n (dh n X) (dh n Y) d (i+1))=sg (dh n X (i+2) - dh n X (i+1))/\sg (fz n (dh n X) (dh n Y) d (i+2) - fz n (dh n X) (dh n Y) d (i+1))=sg (dh n Y (i+2) - dh n Y (i+1))
  rw [e1,e2,e3,e4]
  clear e1 e2 e3 e4 all h oper J8 Zu
  exact Uu hv EZ (by omega)
end
end Go.Abs.Geo
end
section
namespace Go.Abs.Geo
open Go.Abs
def Fq (a b x y:Int):Int:=if a<x/\b<y then 1 else 0
def Sy (a b x0 y0 x1 y1:Int):Int:=Fq a b x1 y1 - Fq a b x0 y1 - Fq a b x1 y0+Fq a b x0 y0
def VB (a b x0 y0 x1 y1:Int):Int:=Sy a b (min x0 x1) (min y0 y1) (max x0 x1) (max y0 y1)
theorem UN {a b x0 y0 x1 y1:Int} (hx:x0<=x1) (hy:y0<=y1):Sy a b x0 y0 x1 y1=if (x0<=a/\a<x1)/\(y0<=b/\b<y1) then 1 else 0:=by
 unfold Sy Fq
 by_cases h1:a<x0<;>by_cases h2:a<x1<;>by_cases h3:b<y0<;>by_cases h4:b<y1<;>simp only [h1,h2,h3,h4,cR,and_false,false_and,bn,cg]<;>((repeat' split)<;>omega)
theorem EM {a b x0 y0 x1 y1:Int}:VB a b x0 y0 x1 y1=if (min x0 x1<=a/\a<max x0 x1)/\(min y0 y1<=b/\b<max y0 y1) then 1 else 0:=UN (by omega) (by omega)
theorem P6 {a b x0 y0 x1 y1:Int} (h:(x0<=x1/\y0<=y1)\/(x1<=x0/\y1<=y0)):VB a b x0 y0 x1 y1=Sy a b x0 y0 x1 y1:=by
 unfold VB
 rcases h with h|h
 ·rw [show min x0 x1=x0 by omega,show min y0 y1=y0 by omega,show max x0 x1=x1 by omega,show max y0 y1=y1 by omega]
 ·rw [show min x0 x1=x1 by omega,show min y0 y1=y1 by omega,show max x0 x1=x0 by omega,show max y0 y1=y0 by omega]
  unfold Sy;omega
theorem P7 {a b x0 y0 x1 y1:Int} (h:(x0<=x1/\y1<=y0)\/(x1<=x0/\y0<=y1)):VB a b x0 y0 x1 y1= -Sy a b x0 y0 x1 y1:=by
 unfold VB
 rcases h with h|h
 ·rw [show min x0 x1=x0 by omega,show min y0 y1=y1 by omega,show max x0 x1=x1 by omega,show max y0 y1=y0 by omega]
  unfold Sy;omega
 ·rw [show min x0 x1=x1 by omega,show min y0 y1=y0 by omega,show max x0 x1=x0 by omega,show max y0 y1=y1 by omega]
  unfold Sy;omega
theorem sv_F {X Y:Nat->Int} {a b:Int} {i:Nat} (h:X i=X (i+1)\/Y i=Y (i+1)):sv X Y a b i=Fq a b (X (i+1)) (Y (i+1)) - Fq a b (X (i+1)) (Y i):=by
 unfold sv Fq
 by_cases h1:a<X (i+1)<;>by_cases h2:b<Y (i+1)<;>by_cases h3:b<Y i<;>simp only [h1,h2,h3,cR,and_false,bn,cg]<;>(repeat' split)<;>omega
def ux (X:Nat->Int) (i:Nat):Int:=sg (X (i+1) - X i)
section
variable (n:Nat) (X Y:Nat->Int) (g w:Int) (t:Nat->Int)
def Ev (i:Nat):Int:=X (i+1)+(g+t (i+1)*w)*ux Y i+g*ux Y (i+1)
def Eu (i:Nat):Int:=Y (i+1) - (g+t (i+1)*w)*ux X i - g*ux X (i+1)
def EA (i:Nat):Int:=X (i+2)+(g+(1 - t (i+2))*w)*ux Y (i+2)+(g+w)*ux Y (i+1)
def Ez (i:Nat):Int:=Y (i+2) - (g+(1 - t (i+2))*w)*ux X (i+2) - (g+w)*ux X (i+1)
def Oc (a b:Int) (i:Nat):Int:=VB a b (Ev X Y g w t i) (Eu X Y g w t i) (EA X Y g w t i) (Ez X Y g w t i)
def NJ (a b:Int) (i:Nat):Int:=
 Fq a b (X (i+1)+(g+w)*(ux Y i+ux Y (i+1))) (Y (i+1) - (g+t (i+1)*w)*ux X i - (g+(1 - t (i+1))*w)*ux X (i+1))
 - Fq a b (X (i+1)+(g+w)*(ux Y i+ux Y (i+1))) (Y (i+1) - (g+w)*(ux X i+ux X (i+1)))
 - Fq a b (X (i+1)+g*(ux Y i+ux Y (i+1))) (Y (i+1) - (g+t (i+1)*w)*ux X i - (g+(1 - t (i+1))*w)*ux X (i+1))
 +Fq a b (X (i+1)+g*(ux Y i+ux Y (i+1))) (Y (i+1) - g*(ux X i+ux X (i+1)))
end
section
variable {n:Nat} {X Y:Nat->Int} {g w:Int} {t:Nat->Int}
def fwd (X Y:Nat->Int) (g w:Int) (t:Nat->Int) (i:Nat):Prop:=0<=(EA X Y g w t i - Ev X Y g w t i)*ux X (i+1)+(Ez X Y g w t i - Eu X Y g w t i)*ux Y (i+1)
theorem Tl (P:Poly n X Y) (hw:0<=w) (ht: ∀i,t i=0\/t i=1) {i:Nat} (hf:fwd X Y g w t i) (a b:Int):
 sv (eO n X Y (g+w)) (fz n X Y (g+w)) a b (i+1) - sv (eO n X Y g) (fz n X Y g) a b (i+1) - Oc X Y g w t a b i=NJ X Y g w t a b i - NJ X Y g w t a b (i+1):=by
 have r1:eO n X Y (g+w) (i+1)=eO n X Y (g+w) (i+1+1)\/fz n X Y (g+w) (i+1)=fz n X Y (g+w) (i+1+1):=qZ P (g+w) (i+1)
 have r2:eO n X Y g (i+1)=eO n X Y g (i+1+1)\/fz n X Y g (i+1)=fz n X Y g (i+1+1):=qZ P g (i+1)
 rw [sv_F r1,sv_F r2]
 clear r1 r2
 obtain ⟨o1,o2⟩:=iV P (g+w) i
 obtain ⟨o3,o4⟩:=iV P (g+w) (i+1)
 obtain ⟨n1,n2⟩:=iV P g i
 obtain ⟨n3,n4⟩:=iV P g (i+1)
 have q1:i+1+1=i+2:=rfl
 have q2:i+1+2=i+3:=rfl
 rw [q1,q2] at o3 o4 n3 n4
 rw [q1,o2,o3,o4,n2,n3,n4]
 clear o1 o2 o3 o4 n1 n2 n3 n4
 have h0:=P.hv i
 have h1:=P.hv (i+1)
 rw [q1,q2] at h1
 have e0: ∀(Z:Nat->Int) k,Z k=Z (k+1)->ux Z k=0:=fun Z k h=>by unfold ux sg;(repeat' split)<;>omega
 have eX: ∀k,sg (X (k+1) - X k)=ux X k:=fun k=>rfl
 have eX1:sg (X (i+2) - X (i+1))=ux X (i+1):=rfl
 have eX2:sg (X (i+3) - X (i+2))=ux X (i+2):=rfl
 have eY1:sg (Y (i+2) - Y (i+1))=ux Y (i+1):=rfl
 have eY2:sg (Y (i+3) - Y (i+2))=ux Y (i+2):=rfl
 rw [eX1,eX2,eY1,eY2,eX]
 have t0:=ht (i+1)
 have t1:=ht (i+2)
 unfold Oc NJ fwd at*
 rw [q1]
 rcases h1 with ⟨a1,a2,a3,a4⟩|⟨a1,a2,a3,a4⟩
 ·-- level
  have b1:X i=X (i+1):=by omega
  have z1:=e0 X i b1
  have z2:=e0 Y (i+1) a2
  have z3:=e0 X (i+2) a3
  have s1:(0<X (i+2) - X (i+1)/\ux X (i+1)=1)\/(X (i+2) - X (i+1)=0/\ux X (i+1)=0)\/(X (i+2) - X (i+1)<0/\ux X (i+1)= -1):=gP _
  unfold Ev Eu EA Ez at*
  simp only [z1,z2,z3] at hf ⊢
  rw [a2]
  generalize ux Y i=q at*
  generalize ux Y (i+2)=q' at*
  rw [P7 (by rcases s1 with ⟨s,e⟩|⟨s,e⟩|⟨s,e⟩<;>rw [e] at hf ⊢<;>simp only [ct,Int.mul_one,bI,bY,cW] at hf ⊢<;>omega)]
  unfold Sy
  rcases t0 with e|e<;>rcases t1 with e'|e'<;>rw [e,e']<;>simp only [ct,bI,bY,cL,cp,Int.zero_add,Int.sub_self]<;>omega
 ·have b1:Y i=Y (i+1):=by omega
  have z1:=e0 Y i b1
  have z2:=e0 X (i+1) a1
  have z3:=e0 Y (i+2) a4
  have s1:(0<Y (i+2) - Y (i+1)/\ux Y (i+1)=1)\/(Y (i+2) - Y (i+1)=0/\ux Y (i+1)=0)\/(Y (i+2) - Y (i+1)<0/\ux Y (i+1)= -1):=gP _
  unfold Ev Eu EA Ez at*
  simp only [z1,z2,z3] at hf ⊢
  rw [a1]
  generalize ux X i=q at*
  generalize ux X (i+2)=q' at*
  rw [P6 (by rcases s1 with ⟨s,e⟩|⟨s,e⟩|⟨s,e⟩<;>rw [e] at hf ⊢<;>simp only [ct,Int.mul_one,bI,bY,cW] at hf ⊢<;>omega)]
  unfold Sy
  simp only [ct,bI,bY,Int.zero_add]
  omega
theorem D9 (P:Poly n X Y) (i:Nat):ux X (i+n)=ux X i/\ux Y (i+n)=ux Y i:=by
 unfold ux
 rw [show i+n+1=i+1+n by omega,P.px,P.px,P.py,P.py]
 exact ⟨rfl,rfl⟩
theorem UM (P:Poly n X Y) (BY: ∀i,t (i+n)=t i) (a b:Int) (i:Nat):NJ X Y g w t a b (i+n)=NJ X Y g w t a b i:=by
 unfold NJ
 rw [show i+n+1=i+1+n by omega,P.px,P.py,BY,(D9 P i).1,(D9 P i).2,(D9 P (i+1)).1,(D9 P (i+1)).2]
theorem s6 (P:Poly n X Y) (hw:0<=w) (ht: ∀i,t i=0\/t i=1) (BY: ∀i,t (i+n)=t i) (hf: ∀i,i<n->fwd X Y g w t i) (a b:Int):
 sm (Oc X Y g w t a b) n=wp n (eO n X Y (g+w)) (fz n X Y (g+w)) a b - wp n (eO n X Y g) (fz n X Y g) a b:=by
 unfold wp
 rw [kV (Ek (gw P (g+w)) (iB P (g+w)) a b),kV (Ek (gw P g) (iB P g) a b),<-n9]
 have h1:sm (fun i=>sv (eO n X Y (g+w)) (fz n X Y (g+w)) a b (i+1) - sv (eO n X Y g) (fz n X Y g) a b (i+1)) n=sm (fun i=>Oc X Y g w t a b i+(NJ X Y g w t a b i - NJ X Y g w t a b (i+1))) n:=
  fV fun i hi=>by have:=Tl P hw ht (hf i hi) a b;omega
 have h2:=wU (fun i=> -NJ X Y g w t a b i) n
 have h3:=UM (g:=g) (w:=w) P BY a b 0
 rw [aE] at h3
 rw [h1,JQ,fV (f:=fun i=>NJ X Y g w t a b i - NJ X Y g w t a b (i+1)) (g:=fun i=> -NJ X Y g w t a b (i+1) - -NJ X Y g w t a b i) fun i _=>by omega,h2,h3]
 omega
theorem Pq {f:Nat->Int}: ∀{n:Nat},(∀i,i<n->0<=f i)-> ∀{i:Nat},i<n->f i<=sm f n
 |0,_,_,hi=>absurd hi (aF _)
 |n+1,h,i,hi=>by
  rw [sm]
  have h0:0<=sm f n:=by
   have:=Db (f:=fun _=>0) (g:=f) (n:=n) fun i hi=>h i (by omega)
   rwa [gM] at this
  have h2:=h n (by omega)
  rcases aU i n with h1|h1
  ·have:=Pq (f:=f) (n:=n) (fun i hi=>h i (by omega)) h1
   omega
  ·obtain rfl:i=n:=by omega
   omega
theorem Po {f:Nat->Int}: ∀{n:Nat},(∀i,i<n->0<=f i)-> ∀{i k:Nat},i<k->k<n->f i+f k<=sm f n
 |0,_,_,_,_,hi=>absurd hi (aF _)
 |n+1,h,i,k,Uf,hk=>by
  rw [sm]
  have h2:=h n (by omega)
  rcases aU k n with h1|h1
  ·have:=Po (f:=f) (n:=n) (fun i hi=>h i (by omega)) Uf h1
   omega
  ·obtain rfl:k=n:=by omega
   have:=Pq (f:=f) (n:=k) (fun i hi=>h i (by omega)) Uf
   omega
def T3 (X Y:Nat->Int) (g w:Int) (t:Nat->Int) (i:Nat) (a b:Int):Prop:=(min (Ev X Y g w t i) (EA X Y g w t i)<=a/\a<max (Ev X Y g w t i) (EA X Y g w t i))/\(min (Eu X Y g w t i) (Ez X Y g w t i)<=b/\b<max (Eu X Y g w t i) (Ez X Y g w t i))
theorem uv (i:Nat) (a b:Int):0<=Oc X Y g w t a b i/\(T3 X Y g w t i a b->Oc X Y g w t a b i=1):=by
 unfold Oc
 rw [EM]
 constructor
 ·split<;>omega
 ·intro h
  exact ah h
theorem Pg (P:Poly n X Y) (hw:0<=w) (ht: ∀i,t i=0\/t i=1) (BY: ∀i,t (i+n)=t i) (hf: ∀i,i<n->fwd X Y g w t i) {a b:Int} {i:Nat} (hi:i<n) (h:T3 X Y g w t i a b):
 1<=wp n (eO n X Y (g+w)) (fz n X Y (g+w)) a b - wp n (eO n X Y g) (fz n X Y g) a b:=by
 rw [<-s6 P hw ht BY hf]
 have h1:=Pq (f:=Oc X Y g w t a b) (n:=n) (fun i _=>(uv i a b).1) hi
 rw [(uv i a b).2 h] at h1
 exact h1
theorem C6 (P:Poly n X Y) (hw:0<=w) (ht: ∀i,t i=0\/t i=1) (BY: ∀i,t (i+n)=t i) (hf: ∀i,i<n->fwd X Y g w t i) {a b:Int} {i k:Nat} (Uf:i<k) (hk:k<n) (h:T3 X Y g w t i a b) (h':T3 X Y g w t k a b):
 2<=wp n (eO n X Y (g+w)) (fz n X Y (g+w)) a b - wp n (eO n X Y g) (fz n X Y g) a b:=by
 rw [<-s6 P hw ht BY hf]
 have h1:=Po (f:=Oc X Y g w t a b) (n:=n) (fun i _=>(uv i a b).1) Uf hk
 rw [(uv i a b).2 h,(uv k a b).2 h'] at h1
 exact h1
theorem RH {m lo hi:Int} {K:Nat} (h1:m<=lo) (h2:lo<=hi) (h3:hi<=m+K):sm (fun k:Nat=>if lo<=m+k/\m+k<hi then 1 else 0) K=hi - lo:=by
 have h:=KC m lo hi K
 rw [fV (g:=fun k:Nat=>if lo<=m+k/\m+k<hi then (1:Int) else 0) fun k _=> ?_] at h
 ·rw [h];omega
 ·split
  ·rfl
  ·rw [ae (by omega)]
theorem M4 {m m':Int} {K K':Nat} {x0 y0 x1 y1:Int} (hx:m<=min x0 x1/\max x0 x1<=m+K) (hy:m'<=min y0 y1/\max y0 y1<=m'+K'):
 sm (fun kb:Nat=>sm (fun ka:Nat=>VB (m+ka) (m'+kb) x0 y0 x1 y1) K) K'=(max x0 x1 - min x0 x1)*(max y0 y1 - min y0 y1):=by
 have h1: ∀kb:Nat,sm (fun ka:Nat=>VB (m+ka) (m'+kb) x0 y0 x1 y1) K=(max x0 x1 - min x0 x1)*(if min y0 y1<=m'+kb/\m'+kb<max y0 y1 then 1 else 0):=fun kb=>by
  by_cases h:min y0 y1<=m'+kb/\m'+kb<max y0 y1
  ·rw [ah h,Int.mul_one,<-RH hx.1 (show min x0 x1<=max x0 x1 by omega) hx.2]
   refine fV fun ka _=> ?_
   rw [EM]
   by_cases h2:min x0 x1<=m+ka/\m+ka<max x0 x1
   ·rw [ah ⟨h2,h⟩,ah h2]
   ·rw [ae (fun h3=>h2 h3.1),ae h2]
  ·rw [ae h,ct,fV (g:=fun _=>0) fun ka _=> ?_,gM]
   rw [EM,ae (fun h3=>h h3.2)]
 rw [fV fun kb _=>h1 kb,wV,RH hy.1 (by omega) hy.2]
theorem JA (f:Nat->Nat->Int) (n:Nat): ∀q,∃(m:Int) (K:Nat),∀j,j<q-> ∀i,i<n->m<=f j i/\f j i<=m+K
 |0=>⟨0,0,fun j hj=>absurd hj (aF j)⟩
 |q+1=>by
  obtain ⟨m,K,h⟩:=JA f n q
  obtain ⟨M,hM⟩:=bound (f q) n
  obtain ⟨M',hM'⟩:=bound (fun i=> -f q i) n
  refine ⟨min m (-M'),(max (m+K) M - min m (-M')).toNat,fun j hj i hi=> ?_⟩
  rcases aU j q with h1|h1
  ·have:=h j h1 i hi
   omega
  ·obtain rfl:j=q:=by omega
   have:=hM i hi
   have:=hM' i hi
   omega
theorem GD (P:Poly n X Y) (hw:0<=w) (ht: ∀i,t i=0\/t i=1) (BY: ∀i,t (i+n)=t i) (hf: ∀i,i<n->fwd X Y g w t i):
 sm (fun i=>(max (Ev X Y g w t i) (EA X Y g w t i) - min (Ev X Y g w t i) (EA X Y g w t i))*(max (Eu X Y g w t i) (Ez X Y g w t i) - min (Eu X Y g w t i) (Ez X Y g w t i))) n=
  ar n (eO n X Y (g+w)) (fz n X Y (g+w)) - ar n (eO n X Y g) (fz n X Y g):=by
 have hn:0<n:=by have:=P.wL;omega
 obtain ⟨m,K,hx⟩:=JA (fun j i=>if j=0 then Ev X Y g w t i else if j=1 then EA X Y g w t i else if j=2 then eO n X Y (g+w) i else eO n X Y g i) n 4
 obtain ⟨m',K',hy⟩:=JA (fun j i=>if j=0 then Eu X Y g w t i else if j=1 then Ez X Y g w t i else if j=2 then fz n X Y (g+w) i else fz n X Y g i) n 4
 have gO: ∀i,(m<=eO n X Y (g+w) i/\eO n X Y (g+w) i<=m+K)/\(m'<=fz n X Y (g+w) i/\fz n X Y (g+w) i<=m'+K'):=fun i=>by
  rw [jc (gw P (g+w)) i,jc (iB P (g+w)) i]
  exact ⟨hx 2 (by omega) _ (bj i hn),hy 2 (by omega) _ (bj i hn)⟩
 have gI: ∀i,(m<=eO n X Y g i/\eO n X Y g i<=m+K)/\(m'<=fz n X Y g i/\fz n X Y g i<=m'+K'):=fun i=>by
  rw [jc (gw P g) i,jc (iB P g) i]
  exact ⟨hx 3 (by omega) _ (bj i hn),hy 3 (by omega) _ (bj i hn)⟩
 rw [<-Bl (iB P (g+w)) (qZ P (g+w)) (fun i=>(gO i).1) (fun i=>(gO i).2),<-Bl (iB P g) (qZ P g) (fun i=>(gI i).1) (fun i=>(gI i).2),<-n9]
 have e: ∀kb:Nat,sm (fun ka:Nat=>wp n (eO n X Y (g+w)) (fz n X Y (g+w)) (m+ka) (m'+kb)) K - sm (fun ka:Nat=>wp n (eO n X Y g) (fz n X Y g) (m+ka) (m'+kb)) K=sm (fun i=>sm (fun ka:Nat=>Oc X Y g w t (m+ka) (m'+kb) i) K) n:=fun kb=>by
  rw [<-n9,fV fun ka _=>(s6 P hw ht BY hf (m+ka) (m'+kb)).symm]
  exact uA (fun (ka:Nat) i=>Oc X Y g w t (m+ka) (m'+kb) i) n K
 rw [fV fun kb _=>e kb,uA (fun (kb:Nat) i=>sm (fun ka:Nat=>Oc X Y g w t (m+ka) (m'+kb) i) K)]
 refine fV fun i hi=> ?_
 have x0:=hx 0 (by omega) i hi
 have x1:=hx 1 (by omega) i hi
 have y0:=hy 0 (by omega) i hi
 have y1:=hy 1 (by omega) i hi
 change m<=Ev X Y g w t i/\_ at x0
 change m<=EA X Y g w t i/\_ at x1
 change m'<=Eu X Y g w t i/\_ at y0
 change m'<=Ez X Y g w t i/\_ at y1
 exact (M4 (by omega) (by omega)).symm
end
end Go.Abs.Geo
end
section
namespace Go.Abs.Geo
open Go.Abs
section
variable {n:Nat} {X Y:Nat->Int} {g w:Int} {C:Nat->Int}
theorem Pj {a b c d:Int} (h:(a≠c/\b=d)\/(a=c/\b≠d)):jY (ns a b c d)=sg (c - a)/\jX (ns a b c d)=sg (d - b):=by
 have h1:=gP (c - a)
 have h2:=gP (d - b)
 obtain ⟨d0,d1,d2,d3⟩:=Fi (a:=a) (b:=b) (c:=c) (d:=d)
 generalize sg (c - a)=u at*
 generalize sg (d - b)=v at*
 have hc:(u=1/\v=0)\/(u=0/\v=1)\/(u= -1/\v=0)\/(u=0/\v= -1):=by clear d0 d1 d2 d3;omega
 rcases hc with ⟨rfl,rfl⟩|⟨rfl,rfl⟩|⟨rfl,rfl⟩|⟨rfl,rfl⟩
 ·rw [d0 rfl rfl];decide
 ·rw [d1 rfl rfl];decide
 ·rw [d2 rfl rfl];decide
 ·rw [d3 rfl rfl];decide
theorem DU {d:Int} (h:gz n X Y=0) (hO:gz n (pA n X Y d) (pz n X Y d)=0):Poly n (eO n (dh n X) (dh n Y) d) (fz n (dh n X) (dh n Y) d)/\(sm (cr (eO n (dh n X) (dh n Y) d) (fz n (dh n X) (dh n Y) d)) n=8/\ ∀a b,wp n (eO n (dh n X) (dh n Y) d) (fz n (dh n X) (dh n Y) d) a b=0\/wp n (eO n (dh n X) (dh n Y) d) (fz n (dh n X) (dh n Y) d) a b=1):=by
 have P:=iZ h
 have Q:=iZ hO
 have G:=vW hO
 obtain ⟨e1,e2⟩:=ze P d
 rw [e1,e2] at Q G
 exact ⟨Q,G⟩
def tF (n:Nat) (X Y C:Nat->Int) (k:Nat):Int:=if eV n X Y k>0 then dh n C k else 1 - dh n C k
theorem A9 (n:Nat) (X Y:Nat->Int) (a:Int):eV n X Y (a+n)=eV n X Y a:=by
 unfold eV
 rw [show a+(n:Int) - 1=a - 1+n by omega,rI,rI]
theorem Ej (k:Nat):tF n X Y C (k+n)=tF n X Y C k:=by
 unfold tF
 rw [lk,Int.natCast_add,A9]
theorem C3 (hn:0<n) (hC: ∀i,i<n->C i=0\/C i=1) (k:Nat):tF n X Y C k=0\/tF n X Y C k=1:=by
 have:=hC _ (bj k hn)
 unfold tF dh
 split<;>omega
theorem Pw (P:Poly n (dh n X) (dh n Y)) (i:Nat):
 qB n X Y ((i+1:Nat):Int) (ft n X Y g w ((i+1:Nat):Int) (dh n C (i+1))) g=Ev (dh n X) (dh n Y) g w (tF n X Y C) i/\
 qA n X Y ((i+1:Nat):Int) (ft n X Y g w ((i+1:Nat):Int) (dh n C (i+1))) g=Eu (dh n X) (dh n Y) g w (tF n X Y C) i/\
 qB n X Y ((i+1:Nat):Int) (gA n X Y g w ((i+1:Nat):Int) (dh n C (i+2))) (g+w)=EA (dh n X) (dh n Y) g w (tF n X Y C) i/\
 qA n X Y ((i+1:Nat):Int) (gA n X Y g w ((i+1:Nat):Int) (dh n C (i+2))) (g+w)=Ez (dh n X) (dh n Y) g w (tF n X Y C) i:=by
 have h0:=P.hv i
 have h1:=P.hv (i+1)
 have q1:i+1+1=i+2:=rfl
 have q2:i+1+2=i+3:=rfl
 rw [q1,q2] at h1
 have c1:=zf P i
 have c2:=zf P (i+1)
 rw [q1,q2] at c2
 have e2:((i+1:Nat):Int)+1=((i+2:Nat):Int):=by omega
 obtain ⟨d1,d2⟩:=Pj (a:=dh n X (i+1)) (b:=dh n Y (i+1)) (c:=dh n X (i+2)) (d:=dh n Y (i+2)) (by omega)
 have hl:ee n X Y ((i+1:Nat):Int)=((dh n X (i+2) - dh n X (i+1)).natAbs+(dh n Y (i+2) - dh n Y (i+1)).natAbs:Nat):=Ho (i+1)
 unfold qB qA ft gA Ev Eu EA Ez tF
 rw [rJ,q1,d1,d2,kE,hl,e2,c1,c2]
 have eX:X ((i+1)%n)=dh n X (i+1):=rfl
 have eY:Y ((i+1)%n)=dh n Y (i+1):=rfl
 rw [eX,eY]
 have u0:ux (dh n X) i=sg (dh n X (i+1) - dh n X i):=rfl
 have u1:ux (dh n X) (i+1)=sg (dh n X (i+2) - dh n X (i+1)):=rfl
 have u2:ux (dh n X) (i+2)=sg (dh n X (i+3) - dh n X (i+2)):=rfl
 have v0:ux (dh n Y) i=sg (dh n Y (i+1) - dh n Y i):=rfl
 have v1:ux (dh n Y) (i+1)=sg (dh n Y (i+2) - dh n Y (i+1)):=rfl
 have v2:ux (dh n Y) (i+2)=sg (dh n Y (i+3) - dh n Y (i+2)):=rfl
 rw [u0,u1,u2,v0,v1,v2]
 generalize dh n C (i+1)=c at*
 generalize dh n C (i+2)=c' at*
 generalize hcw:c*w=cw at*
 generalize Uh:c'*w=cw' at*
 have hm:(1 - c)*w=w - cw:=by rw [Int.sub_mul,cp,hcw]
 have Sp:(1 - c')*w=w - cw':=by rw [Int.sub_mul,cp,Uh]
 have Nl:(1 - (1 - c))*w=cw:=by rw [show 1 - (1 - c)=c by omega,hcw]
 have Hz:(1 - (1 - c'))*w=cw':=by rw [show 1 - (1 - c')=c' by omega,Uh]
 clear u0 u1 u2 v0 v1 v2 eX eY hl d1 d2 e2 c1 c2 q1 q2
 have k0:=gP (dh n X (i+1) - dh n X i)
 have k1:=gP (dh n X (i+2) - dh n X (i+1))
 have k2:=gP (dh n X (i+3) - dh n X (i+2))
 have l0:=gP (dh n Y (i+1) - dh n Y i)
 have l1:=gP (dh n Y (i+2) - dh n Y (i+1))
 have l2:=gP (dh n Y (i+3) - dh n Y (i+2))
 generalize sg (dh n X (i+1) - dh n X i)=a0 at*
 generalize sg (dh n X (i+2) - dh n X (i+1))=a1 at*
 generalize sg (dh n X (i+3) - dh n X (i+2))=a2 at*
 generalize sg (dh n Y (i+1) - dh n Y i)=b0 at*
 generalize sg (dh n Y (i+2) - dh n Y (i+1))=b1 at*
 generalize sg (dh n Y (i+3) - dh n Y (i+2))=b2 at*
 rcases h1 with ⟨p1,p2,p3,p4⟩|⟨p1,p2,p3,p4⟩
 ·have f0:a0=0:=by omega
  have f1:b1=0:=by omega
  have f2:a2=0:=by omega
  have f3:b0=1\/b0= -1:=by omega
  have f4:(a1=1/\dh n X (i+1)<dh n X (i+2))\/(a1= -1/\dh n X (i+2)<dh n X (i+1)):=by omega
  have f5:b2=1\/b2= -1:=by omega
  clear k0 k1 k2 l0 l1 l2 h0
  subst f0 f1 f2
  rcases f3 with rfl|rfl<;>rcases f4 with ⟨rfl,f4⟩|⟨rfl,f4⟩<;>rcases f5 with rfl|rfl<;>simp only [ct,cL,Int.mul_one,cp,cW,Int.neg_mul,bY,Int.zero_sub,bI,Int.neg_neg,show (1:Int)>0 from by decide,show ¬(-1:Int)>0 from by decide,bn,cg,hm,Sp,Nl,Hz,hcw,Uh]<;>refine ⟨?_,?_,?_,?_⟩<;>first|trivial|omega
 ·have f0:b0=0:=by omega
  have f1:a1=0:=by omega
  have f2:b2=0:=by omega
  have f3:a0=1\/a0= -1:=by omega
  have f4:(b1=1/\dh n Y (i+1)<dh n Y (i+2))\/(b1= -1/\dh n Y (i+2)<dh n Y (i+1)):=by omega
  have f5:a2=1\/a2= -1:=by omega
  clear k0 k1 k2 l0 l1 l2 h0
  subst f0 f1 f2
  rcases f3 with rfl|rfl<;>rcases f4 with ⟨rfl,f4⟩|⟨rfl,f4⟩<;>rcases f5 with rfl|rfl<;>simp only [ct,cL,Int.mul_one,cp,cW,Int.neg_mul,bY,Int.zero_sub,bI,Int.neg_neg,show (1:Int)>0 from by decide,show ¬(-1:Int)>0 from by decide,bn,cg,hm,Sp,Nl,Hz,hcw,Uh]<;>refine ⟨?_,?_,?_,?_⟩<;>first|trivial|omega
def nf (n:Nat) (X Y:Nat->Int) (g w:Int) (C:Nat->Int) (j:Nat):Int:=lC n X Y g w (j:Nat) (C j) (C ((j+1)%n))
def nw (n:Nat) (X Y:Nat->Int) (g w:Int) (C:Nat->Int) (j:Nat):Int:=lB n X Y g w (j:Nat) (C j) (C ((j+1)%n))
def nd (n:Nat) (X Y:Nat->Int) (g w:Int) (C:Nat->Int) (j:Nat):Int:=lA n X Y g w (j:Nat) (C j) (C ((j+1)%n))
def nv (n:Nat) (X Y:Nat->Int) (g w:Int) (C:Nat->Int) (j:Nat):Int:=lz n X Y g w (j:Nat) (C j) (C ((j+1)%n))
def Oq (n:Nat) (X Y:Nat->Int) (g w:Int) (C:Nat->Int) (j:Nat):Int:=jG n X Y g w (j:Nat) (C j) (C ((j+1)%n))
theorem zm (hn:0<n) (k:Nat) (al out:Int):qB n X Y (k:Nat) al out=qB n X Y ((k%n:Nat):Int) al out/\qA n X Y (k:Nat) al out=qA n X Y ((k%n:Nat):Int) al out:=by
 have e1:ix n (k:Int)=ix n ((k%n:Nat):Int):=by rw [kE,kE,Nat.mod_mod]
 have e2:dD n X Y (k:Int)=dD n X Y ((k%n:Nat):Int):=by
  have:=jc (f:=fun k:Nat=>dD n X Y (k:Int)) (n:=n) (fun i=>by show dD n X Y ((i+n:Nat):Int)=_;rw [Int.natCast_add,rI]) k
  exact this
 unfold qB qA
 rw [e1,e2]
 exact ⟨rfl,rfl⟩
theorem mE (k:Nat) (a:Int):ft n X Y g w (k:Nat) a=ft n X Y g w ((k%n:Nat):Int) a/\gA n X Y g w (k:Nat) a=gA n X Y g w ((k%n:Nat):Int) a:=by
 have e1:eV n X Y (k:Int)=eV n X Y ((k%n:Nat):Int):=jc (f:=fun k:Nat=>eV n X Y (k:Int)) (n:=n) (fun i=>by show eV n X Y ((i+n:Nat):Int)=_;rw [Int.natCast_add,A9]) k
 have e2:eV n X Y ((k:Int)+1)=eV n X Y (((k%n:Nat):Int)+1):=jc (f:=fun k:Nat=>eV n X Y ((k:Int)+1)) (n:=n) (fun i=>by show eV n X Y (((i+n:Nat):Int)+1)=_;rw [Int.natCast_add,show (i:Int)+n+1=i+1+n by omega,A9]) k
 have e3:ee n X Y (k:Int)=ee n X Y ((k%n:Nat):Int):=jc (f:=fun k:Nat=>ee n X Y (k:Int)) (n:=n) (fun i=>by
  show ee n X Y ((i+n:Nat):Int)=_
  unfold ee
  rw [Int.natCast_add,show (i:Int)+n+1=i+1+n by omega,rp,rp]) k
 unfold ft gA
 rw [e1,e2,e3]
 exact ⟨rfl,rfl⟩
theorem Bh (P:Poly n (dh n X) (dh n Y)) (i:Nat):
 nf n X Y g w C ((i+1)%n)=min (Ev (dh n X) (dh n Y) g w (tF n X Y C) i) (EA (dh n X) (dh n Y) g w (tF n X Y C) i)/\
 nw n X Y g w C ((i+1)%n)=max (Ev (dh n X) (dh n Y) g w (tF n X Y C) i) (EA (dh n X) (dh n Y) g w (tF n X Y C) i)/\
 nd n X Y g w C ((i+1)%n)=min (Eu (dh n X) (dh n Y) g w (tF n X Y C) i) (Ez (dh n X) (dh n Y) g w (tF n X Y C) i)/\
 nv n X Y g w C ((i+1)%n)=max (Eu (dh n X) (dh n Y) g w (tF n X Y C) i) (Ez (dh n X) (dh n Y) g w (tF n X Y C) i):=by
 have hn:0<n:=by have:=P.wL;omega
 obtain ⟨e1,e2,e3,e4⟩:=Pw (g:=g) (w:=w) (C:=C) P i
 have eC:C (((i+1)%n+1)%n)=dh n C (i+2):=by unfold dh;rw [Nat.mod_add_mod]
 rw [(mE (i+1) _).1,(zm hn (i+1) _ _).1] at e1
 rw [(mE (i+1) _).1,(zm hn (i+1) _ _).2] at e2
 rw [(mE (i+1) _).2,(zm hn (i+1) _ _).1] at e3
 rw [(mE (i+1) _).2,(zm hn (i+1) _ _).2] at e4
 unfold nf nw nd nv lC lB lA lz
 rw [eC,<-e1,<-e2,<-e3,<-e4]
 exact ⟨rfl,rfl,rfl,rfl⟩
theorem ET (P:Poly n (dh n X) (dh n Y)) (i:Nat) (h:0<=Oq n X Y g w C ((i+1)%n)):fwd (dh n X) (dh n Y) g w (tF n X Y C) i:=by
 have hn:0<n:=by have:=P.wL;omega
 obtain ⟨e1,e2,e3,e4⟩:=Pw (g:=g) (w:=w) (C:=C) P i
 have eC:C (((i+1)%n+1)%n)=dh n C (i+2):=by unfold dh;rw [Nat.mod_add_mod]
 unfold Oq jG at h
 rw [eC,<-(mE (i+1) _).1,<-(mE (i+1) _).2] at h
 have eD:C ((i+1)%n)=dh n C (i+1):=rfl
 rw [eD] at h
 unfold fwd
 rw [<-e1,<-e2,<-e3,<-e4]
 generalize ft n X Y g w ((i+1:Nat):Int) (dh n C (i+1))=p at*
 generalize gA n X Y g w ((i+1:Nat):Int) (dh n C (i+2))=q at*
 have h1:=P.hv (i+1)
 obtain ⟨d1,d2⟩:=Pj (a:=dh n X (i+1)) (b:=dh n Y (i+1)) (c:=dh n X (i+1+1)) (d:=dh n Y (i+1+1)) (by omega)
 unfold qB qA
 rw [rJ,d1,d2]
 have u1:ux (dh n X) (i+1)=sg (dh n X (i+1+1) - dh n X (i+1)):=rfl
 have v1:ux (dh n Y) (i+1)=sg (dh n Y (i+1+1) - dh n Y (i+1)):=rfl
 rw [u1,v1]
 have k1:=gP (dh n X (i+1+1) - dh n X (i+1))
 have l1:=gP (dh n Y (i+1+1) - dh n Y (i+1))
 generalize sg (dh n X (i+1+1) - dh n X (i+1))=u at*
 generalize sg (dh n Y (i+1+1) - dh n Y (i+1))=v at*
 have hc:(u=1/\v=0)\/(u=0/\v=1)\/(u= -1/\v=0)\/(u=0/\v= -1):=by clear e1 e2 e3 e4 d1 d2 u1 v1;omega
 rcases hc with ⟨rfl,rfl⟩|⟨rfl,rfl⟩|⟨rfl,rfl⟩|⟨rfl,rfl⟩<;>simp only [ct,Int.mul_one,cW,bI,bY,Int.zero_add]<;>omega
theorem zl (hn:0<n) {j:Nat} (hj:j<n):(j+n - 1)%n<n/\((j+n - 1)%n+1)%n=j:=by
 refine ⟨bj _ hn,?_⟩
 rw [Nat.mod_add_mod,show j+n - 1+1=j+n by omega,Nat.add_mod_right,cG hj]
theorem Ti {f:Nat->Int} (hn:0<n):sm (fun i=>f ((i+1)%n)) n=sm f n:=by
 have h:=kV (f:=fun i=>f (i%n)) (n:=n) fun i=>by rw [Nat.add_mod_right]
 rw [<-h]
 exact fV fun i hi=>by rw [cG hi]
section
variable (h:gz n X Y=0) (h0:0<=g) (hw:0<=w) (hg:kP n X Y g=0) (hO:kP n X Y (g+w)=0) (hC: ∀i,i<n->C i=0\/C i=1) (hL: ∀i,i<n->0<=Oq n X Y g w C i)
include h h0 hw hg hO hC hL
theorem Ts {j:Nat} (hj:j<n) {a b:Int} (hx:nf n X Y g w C j<=a/\a<nw n X Y g w C j) (hy:nd n X Y g w C j<=b/\b<nv n X Y g w C j):wp n (dh n X) (dh n Y) a b=0:=by
 have P:=iZ h
 have hn:0<n:=by have:=P.wL;omega
 obtain ⟨k1,k2⟩:=zl hn hj
 have hb:=Bh (g:=g) (w:=w) (C:=C) P ((j+n - 1)%n)
 rw [k2] at hb
 have:=Pg P hw (C3 hn hC) Ej (fun i hi=>ET P i (hL _ (bj _ hn))) (a:=a) (b:=b) k1 (by
  unfold T3
  rw [<-hb.1,<-hb.2.1,<-hb.2.2.1,<-hb.2.2.2]
  exact ⟨hx,hy⟩)
 have w1:=(DU h (iw hO).2).2.2 a b
 have w2:=(DU h (iw hg).2).2.2 a b
 have w3:=Yk P h0 (Tp P (iw hg).1) a b
 have w4:=(vW h).2 a b
 omega
theorem MQ {j k:Nat} (hj:j<n) (hk:k<n) (hjk:j≠k) {a b:Int} (hx:nf n X Y g w C j<=a/\a<nw n X Y g w C j) (hy:nd n X Y g w C j<=b/\b<nv n X Y g w C j) (hx':nf n X Y g w C k<=a/\a<nw n X Y g w C k) (hy':nd n X Y g w C k<=b/\b<nv n X Y g w C k):False:=by
 have _:=h0
 have P:=iZ h
 have hn:0<n:=by have:=P.wL;omega
 obtain ⟨k1,k2⟩:=zl hn hj
 obtain ⟨k3,k4⟩:=zl hn hk
 have hb:=Bh (g:=g) (w:=w) (C:=C) P ((j+n - 1)%n)
 have wK:=Bh (g:=g) (w:=w) (C:=C) P ((k+n - 1)%n)
 rw [k2] at hb
 rw [k4] at wK
 have i1:T3 (dh n X) (dh n Y) g w (tF n X Y C) ((j+n - 1)%n) a b:=by
  unfold T3
  rw [<-hb.1,<-hb.2.1,<-hb.2.2.1,<-hb.2.2.2]
  exact ⟨hx,hy⟩
 have i2:T3 (dh n X) (dh n Y) g w (tF n X Y C) ((k+n - 1)%n) a b:=by
  unfold T3
  rw [<-wK.1,<-wK.2.1,<-wK.2.2.1,<-wK.2.2.2]
  exact ⟨hx',hy'⟩
 have w1:=(DU h (iw hO).2).2.2 a b
 have w2:=(DU h (iw hg).2).2.2 a b
 rcases cP ((j+n - 1)%n) ((k+n - 1)%n) with e|e|e
 ·have:=C6 P hw (C3 hn hC) Ej (fun i hi=>ET P i (hL _ (bj _ hn))) (a:=a) (b:=b) e k3 i1 i2
  omega
 ·rw [e] at k2
  exact hjk (k2.symm.trans k4)
 ·have:=C6 P hw (C3 hn hC) Ej (fun i hi=>ET P i (hL _ (bj _ hn))) (a:=a) (b:=b) e k1 i2 i1
  omega
theorem Px:sm (fun j=>(nw n X Y g w C j - nf n X Y g w C j)*(nv n X Y g w C j - nd n X Y g w C j)) n=qE n (pA n X Y (g+w)) (pz n X Y (g+w)) n/2 - qE n (pA n X Y g) (pz n X Y g) n/2:=by
 have _:=h0
 have P:=iZ h
 have hn:0<n:=by have:=P.wL;omega
 have e:=GD P hw (C3 hn hC) Ej (fun i hi=>ET P i (hL _ (bj _ hn)))
 obtain ⟨e1,e2⟩:=ze P g
 obtain ⟨e3,e4⟩:=ze P (g+w)
 have Q1:=(DU h (iw hg).2).1
 have Q2:=(DU h (iw hO).2).1
 rw [<-e1,<-e2] at Q1
 rw [<-e3,<-e4] at Q2
 rw [JE Q1.MU,JE Q2.MU,e1,e2,e3,e4,<-Ti hn,Int.mul_ediv_cancel_left _ (by decide),Int.mul_ediv_cancel_left _ (by decide),<-e]
 refine fV fun i _=> ?_
 obtain ⟨b1,b2,b3,b4⟩:=Bh (g:=g) (w:=w) (C:=C) P i
 rw [b1,b2,b3,b4]
end
end
end Go.Abs.Geo
end
