/- Contracts and what they stand on. -/
import Derived.Test.YtoinjphpfpklmaaGreatDoorL2
set_option linter.unusedVariables false
set_option linter.unusedSimpArgs false
section
set_option maxRecDepth 100000
namespace Go.Abs.Lay
open Go
def rO (A:Nat->Int) (v:Int):Nat->Int
 |0=>0
 |k+1=>rO A v k+(if A k=v then 0 else 1)
theorem zg (A:Nat->Int) (v:Int): ∀k,0<=rO A v k/\rO A v k<=k
 |0=>by simp [rO]
 |k+1=>by
  have:=zg A v k
  simp only [rO]
  split<;>omega
def gi (n:Nat) (A:Nat->Int) (m:Nat) (O:Nat->Int):Bool:=fU (fun k=> !(fU (fun j=>O j==A k) m)) n
def DR (nB:Nat) (B:Nat->Int) (nO:Nat) (O:Nat->Int) (nC:Nat) (C:Nat->Int) (nD:Nat) (D:Nat->Int):Int:=
 if nC>4000\/nD>4000 then 8 else if gi nC C nB B=true\/gi nD D nO O=true then 6 else if iE nC C=false\/iE nD D=false then 10 else 0
abbrev clg (nC:Nat) (C:Nat->Int) (nD:Nat) (D:Nat->Int):DV:= .agg [nums nC C,nums nD D]
def rMax:fE:= .res fun l=>dI (aX l (aN l - 1))
abbrev gB (l:List DV):Nat:=lenOf (fD 0 (arg l 0))
abbrev gBf (l:List DV):Nat->Int:=iQ 0 (fD 0 (arg l 0))
abbrev gO (l:List DV):Nat:=lenOf (fD 1 (arg l 0))
abbrev gOf (l:List DV):Nat->Int:=iQ 0 (fD 1 (arg l 0))
abbrev gW (l:List DV):Int:=fI 2 (arg l 0)
abbrev gG (l:List DV):Int:=fI 3 (arg l 0)
abbrev gL (l:List DV):Int:=fI 4 (arg l 0)
abbrev hC (l:List DV):Nat:=lenOf (fD 0 (arg l 1))
abbrev hCf (l:List DV):Nat->Int:=iQ 0 (fD 0 (arg l 1))
abbrev hD (l:List DV):Nat:=lenOf (fD 1 (arg l 1))
abbrev hDf (l:List DV):Nat->Int:=iQ 0 (fD 1 (arg l 1))
def LH:fE:= .res fun l=>dB (gi (aN l) (aX l) (lenOf (arg l 1)) (iQ 0 (arg l 1)))
def Vs:fE:= .res fun l=>dB (iE (aN l) (aX l))
def rSys:fE:= .res fun l=>dI (fN (gB l) (gBf l) (gO l) (gOf l) (gW l) (gG l) (gL l))
def rCk:fE:= .res fun l=>dI (DR (gB l) (gBf l) (gO l) (gOf l) (hC l) (hCf l) (hD l) (hDf l))
theorem n5 {nB:Nat} {B:Nat->Int} {nO:Nat} {O:Nat->Int} {W G L:Int} (h:fN nB B nO O W G L=0):1<=nB/\nB<=8/\nO<=8/\(∀k,k<nB->1<=B k/\B k<=10000)/\(∀k,k<nO->1<=O k/\O k<=10000)/\iT nB B=true/\iT nO O=true:=by
 unfold fN at h
 split at h
 ·cases h
 ·split at h
  ·cases h
  ·rename_i h1 h2
   split at h
   ·cases h
   ·rename_i h3
    have hb: ∀{n:Nat} {A:Nat->Int},gS n A≠true-> ∀k,k<n->1<=A k/\A k<=10000:=by
     intro n A hx k hk
     have:=k9.1 (Bool.eq_false_iff.2 hx) k hk
     rw [xP,bK,ni,ai] at this
     exact this
    exact ⟨by omega,by omega,by omega,hb fun hx=>h2 (.inl hx),hb fun hx=>h2 (.inr hx),by cases hx:iT nB B with|true=>rfl|false=>exact absurd (.inl hx) h3,by cases hx:iT nO O with|true=>rfl|false=>exact absurd (.inr hx) h3⟩
theorem xi {n:Nat} {A:Nat->Int} {m:Nat} {O:Nat->Int} (h:gi n A m O=false) {k:Nat} (hk:k<n): ∃j,j<m/\O j=A k:=by
 have:=k9.1 h k hk
 rw [bK,km] at this
 obtain ⟨j,hj,e⟩:=this
 exact ⟨j,hj,by simpa using e⟩
theorem HI (a b:Int):Int.gcd b (a%b)=Int.gcd a b:=by
 rw [Int.gcd_comm a b,Int.emod_def,Int.gcd_sub_mul_left_right]
noncomputable def CS (nB:Nat) (B:Nat->Int) (nO:Nat) (O:Nat->Int) (W G L:Int) (nC:Nat) (C:Nat->Int) (nD:Nat) (D:Nat->Int):eH:={ dq:=[(5,[(3,rMax)])],loops:=[(0,{ ι:=Nat,keep:=[2,4,5,16,17],boxes:=[2,4],ts:=fun _ i=>[(18,dI (i:Int))],bx:=fun _ i=>[(5,[dI ((nD:Int)+rO C (B (nB - 1)) i),dI (nC:Int)])],inv:=fun _ i=>i<=nC,mu:=fun _ i=>nC - i,rd:=fun _ σ=>(eA (σ.get 18)).toNat })],dw:=[] }
namespace w29
noncomputable section
structure Z where
 nB:Nat
 B:Nat->Int
 nO:Nat
 O:Nat->Int
 W:Int
 G:Int
 L:Int
 nC:Nat
 C:Nat->Int
 nD:Nat
 D:Nat->Int
variable (z:Z) (i0:Nat) (P:List Prop) (a:Int) (k:Nat)
abbrev x0:=Int.toNat ((i0:Int)+1)
abbrev x1:=(z.nD:Int)+Lay.rO z.C (z.B (z.nB - 1)) k
abbrev x2:List Prop:=(∀i0<z.nC,rf (z.C i0))::rf (z.nC:Int)::(a=x1 z k)::rf (z.nC:Int)::rf z.nB::(∀i0<z.nB,rf (z.B i0))::rf z.nO::(∀i0<z.nO,rf (z.O i0))::rf z.W::rf z.G::rf z.L::rf (0:Int)::P
abbrev x3:=VT.da [cZ ((i0:Int)+1)] (VT.done (((i0:Int)+1=(↑(x0 i0):Int))::rf z.nC::x2 z [rf (0:Int),x0 i0<=z.nC,z.nC - x0 i0<z.nC - i0] a (x0 i0)))
abbrev xt:VT:=VT.loop Nat (fun i0=>i0<=z.nC) (Int.toNat 0) ((0=(↑(Int.toNat 0):Int))::rf z.nC::x2 z [rf (0:Int)] (z.nD:Int) (Int.toNat 0)) (fun i0=>VT.ite (decide ((i0:Int)<(z.nC:Int))) (VT.da [0<=(i0:Int)/\(i0:Int)<(z.nC:Int)] (VT.da [dm prog 154 [DV.di z.nB [fun i0=>dI (z.B i0)]] (dI (z.B (z.nB - 1)))] (VT.ite ((z.C (Int.toNat (i0:Int))) !=(z.B (z.nB - 1))) (VT.da [cZ (x1 z i0+1)] (x3 z i0 (x1 z i0+1))) (x3 z i0 (x1 z i0))))) (VT.done [x1 z i0=x1 z z.nC,rf (z.nC:Int)]))
end
end w29
open w29 in
theorem RJ (nB:Nat) (B:Nat->Int) (nO:Nat) (O:Nat->Int) (W G L:Int) (nC:Nat) (C:Nat->Int) (nD:Nat) (D:Nat->Int) (h1:1<=nB) (h2:nB<=1000) (hr:iT nB B=true) (hc:nC<=1000000) (hd:nD<=1000000):dm prog 117 [sys nB B nO O W G L,clg nC C nD D] (dP ((nD:Int)+rO C (B (nB - 1)) nC) nC):=by
 refine db dv (CS nB B nO O W G L nC C nD D) (V:=xt ⟨nB,B,nO,O,W,G,L,nC,C,nD,D⟩) (by kernel_rfl) ?_
 simp only [xt,x0,x1,x2,x3,Rf,VT.holds,dt,Sq]
 refine ⟨⟨rfl,by simp [rO]⟩,ao _,fun i hi=>⟨fun dK=>⟨by omega,max_c nB B h1 (by omega) hr,fun nj=> ?_,fun he=> ?_⟩,fun iy=> ?_⟩⟩
 ·have:=zg C (B (nB - 1)) i
  exact ⟨by unfold cZ;omega,by unfold cZ;omega,rfl,by simp only [rO];rw [ae nj];omega,by omega,by omega⟩
 ·have:=zg C (B (nB - 1)) i
  exact ⟨by unfold cZ;omega,rfl,by simp only [rO];rw [ah he];omega,by omega,by omega⟩
 ·rw [show i=nC by omega]
noncomputable def N4 (nB:Nat) (B:Nat->Int) (nO:Nat) (O:Nat->Int) (W G L:Int) (nC:Nat) (C:Nat->Int) (nD:Nat) (D:Nat->Int):eH:={ dq:=[(4,[(5,LH),(12,LH)]),(6,[(2,Vs),(7,Vs)])],loops:=[],dw:=[] }
noncomputable abbrev qb (nC:Nat):Bool:=decide ((nC:Int)>(4000:Int))
theorem ck_c (nB:Nat) (B:Nat->Int) (nO:Nat) (O:Nat->Int) (W G L:Int) (nC:Nat) (C:Nat->Int) (nD:Nat) (D:Nat->Int) (hs:fN nB B nO O W G L=0) (hc:nC<=1000000) (hd:nD<=1000000):dm prog 144 [sys nB B nO O W G L,clg nC C nD D] (dI (DR nB B nO O nC C nD D)):=by
 refine db dv (N4 nB B nO O W G L nC C nD D) (V:= .da [ri ((!(qb nC))=true),ri ((!(qb nC))=true),ri ((!(qb nC))=true),(qb nC)=false->(!(qb nC))=true] (.ite (if (qb nC)=true then true else decide ((nD:Int)>4000)) (.done [(8:Int)=DR nB B nO O nC C nD D]) (.da [dm prog 169 [.di nC [fun i=>(dI (C i))],.di nB [fun i=>(dI (B i))]] ((dB (gi nC C nB B))),ri ((!gi nC C nB B)=true),ri ((!gi nC C nB B)=true),ri ((!gi nC C nB B)=true),ri ((!gi nC C nB B)=true),ri ((!gi nC C nB B)=true),(!gi nC C nB B)=true->dm prog 169 [.di nD [fun i=>(dI (D i))],.di nO [fun i=>(dI (O i))]] ((dB (gi nD D nO O))),gi nC C nB B=false->(!gi nC C nB B)=true] (.ite (if gi nC C nB B=true then true else gi nD D nO O) (.done [(6:Int)=DR nB B nO O nC C nD D]) (.da [dm prog 172 [.di nC [fun i=>(dI (C i))]] ((dB (iE nC C))),ri ((!!iE nC C)=true),ri ((!!iE nC C)=true),(!!iE nC C)=true->dm prog 172 [.di nD [fun i=>(dI (D i))]] ((dB (iE nD D))),ri ((!!iE nC C)=true),(!iE nC C)=false->(!!iE nC C)=true] (.ite (if (!iE nC C)=true then true else !iE nD D) (.done [(10:Int)=DR nB B nO O nC C nD D]) (.done [(0:Int)=DR nB B nO O nC C nD D]))))))) (by kernel_rfl) ?_
 simp only [qb,VT.holds,dt,Sq]
 obtain ⟨s1,s2,s3,sB,sO,_,_⟩:=n5 hs
 have bd: ∀{n m:Nat} {A V:Nat->Int},gi n A m V=false->(∀k,k<m->1<=V k/\V k<=10000)-> ∀k,k<n->1<=A k/\A k<=10000:=fun h hV k hk=>by
  obtain ⟨j,hj,e⟩:=xi h hk
  rw [<-e];exact hV j hj
 refine ⟨fun h=> ?_,fun h=>⟨⟨G5 nC C nB B hc (by omega),fun _=>G5 nD D nO O hd (by omega)⟩,fun h2=> ?_,fun h2=>⟨⟨DL nC C hc (bd h2.1 sB),fun _=>DL nD D hd (bd h2.2 sO)⟩,fun h3=> ?_,fun h3=> ?_⟩⟩⟩
 ·rw [DR,ah (by omega)]
 ·rw [DR,ae (by omega),ah h2]
 ·rw [DR,ae (by omega),ae (fun hx=>by rw [h2.1,h2.2] at hx;simp at hx),ah h3]
 ·rw [DR,ae (by omega),ae (fun hx=>by rw [h2.1,h2.2] at hx;simp at hx),ae (fun hx=>hx.elim (fun e=>h3.1 e) fun e=>by rw [h3.2] at e;cases e)]
noncomputable def K3 (a b:Int):eH:={ dq:=[(2,[(3,.pos)])],loops:=[(0,{ ι:=Int×Int,keep:=[],boxes:=[],ts:=fun _ i=>[(0,dI i.1),(1,dI i.2)],inv:=fun _ i=>0<=i.1/\0<=i.2/\Int.gcd i.1 i.2=Int.gcd a b,mu:=fun _ i=>i.2.toNat,rd:=fun _ σ=>(eA (σ.get 0),eA (σ.get 1)) })],dw:=[] }
theorem gcd_c (a b:Int) (h1:0<=a) (h2:0<=b):dm prog 153 [dI a,dI b] (dI (Int.gcd a b)):=by
 refine db dv (K3 a b) (V:= .loop (Int×Int) (fun (U5:Int×Int)=>(0:Int)<=U5.fst/\(0:Int)<=U5.snd/\Int.gcd U5.fst U5.snd=Int.gcd a b) (a,b) [a=a,b=b] fun (i:Int×Int)=> .ite (i.snd !=0) (.da [(0:Int)<=i.fst/\(0:Int)<i.snd] (.done [i.snd=i.snd,i.fst%i.snd=i.fst%i.snd,(0:Int)<=i.snd/\(0:Int)<=i.fst%i.snd/\Int.gcd i.snd (i.fst%i.snd)=Int.gcd a b,Int.toNat (i.fst%i.snd)<Int.toNat i.snd])) (.done [i.fst=(↑(Int.gcd a b):Int)])) (by kernel_rfl) ?_
 simp only [VT.holds,dt,Sq]
 refine ⟨⟨h1,h2⟩,fun i ⟨h1,h2,h3⟩=>⟨fun nj=>⟨⟨h1,by omega⟩,⟨h2,bf _ nj,?_⟩,?_⟩,fun he=> ?_⟩⟩
 ·rw [<-h3,HI]
 ·have:=bm i.1 (show 0<i.2 by omega)
  have:=bf i.1 nj
  omega
 ·rw [<-h3,he,Int.gcd_zero_right]
  omega
end Go.Abs.Lay
end
section
namespace Go.Abs.Lay
def xC (l:List Int):Nat:=l.foldl (fun g x=>Int.gcd g x) 0
theorem DG (l:List Int) (x:Int):xC (l++[x])=Int.gcd (xC l) x:=by simp [xC]
theorem Nt {l l':List Int} (h:l.Perm l'):xC l=xC l':=by
 refine h.foldl_eq' (fun x _ y _ z=> ?_) _
 simp only [Int.gcd,Int.natAbs_natCast,Nat.gcd_assoc,Nat.gcd_comm x.natAbs]
theorem Q7 (l:List Int) (g:Nat):((l.foldl (fun (g:Nat) x=>Int.gcd g x) g:Nat)∣g)/\ ∀x∈l,((l.foldl (fun (g:Nat) x=>Int.gcd g x) g:Nat):Int)∣x:=by
 induction l generalizing g with
 |nil=>exact ⟨Nat.dvd_refl _,fun x h=>by cases h⟩
 |cons y l ih=>
  obtain ⟨h1,h2⟩:=ih (Int.gcd g y)
  refine ⟨Nat.dvd_trans h1 ?_,fun x hx=> ?_⟩
  ·have:=Int.gcd_dvd_left (a:=(g:Int)) (b:=y)
   exact Int.natCast_dvd_natCast.1 this
  ·rcases List.mem_cons.1 hx with rfl|hx
   ·exact Int.dvd_trans (Int.natCast_dvd_natCast.2 h1) (Int.gcd_dvd_right (g:Int) _)
   ·exact h2 x hx
theorem HJ {l:List Int} {x:Int} (h:x∈l):(xC l:Int)∣x:=(Q7 l 0).2 x h
theorem Mc {l:List Int} {x:Int} (h:x∈l) (hx:1<=x):1<=xC l/\(xC l:Int)<=x:=by
 have hd:=HJ h
 refine ⟨?_,Int.le_of_dvd (by omega) hd⟩
 rcases Nat.eq_zero_or_pos (xC l) with e|e
 ·rw [e] at hd
  have:=Int.zero_dvd.1 hd
  omega
 ·exact e
def eh (u:Nat) (x:Int):Nat:=(x/(u:Int)).toNat
theorem Gx {l:List Int} {x:Int} (h:x∈l) (hx:1<=x):1<=eh (xC l) x:=by
 obtain ⟨h1,h2⟩:=Mc h hx
 have:=Int.ediv_le_ediv (c:=(xC l:Int)) (by omega) h2
 rw [Int.ediv_self (by omega)] at this
 unfold eh
 omega
def kq (a b:Int):Int:=if b<0 then a else if a<0\/b<a then b else a
theorem M8 (z a b:Int):kq (kq z a) b=kq (kq z b) a:=by unfold kq;grind
def ga (T:Nat->Int) (k:Nat) (p:Nat×Int):Int:=if 1<=p.1/\p.1<=k/\0<=T (k - p.1) then T (k - p.1)+p.2 else -1
def kJ (l:List (Nat×Int)) (T:Nat->Int) (k:Nat):Int:=l.foldl (fun b p=>kq b (ga T k p)) (-1)
theorem KI (l:List (Nat×Int)) (p:Nat×Int) (T:Nat->Int) (k:Nat):kJ (l++[p]) T k=kq (kJ l T k) (ga T k p):=by simp [kJ]
theorem KJ {l l':List (Nat×Int)} (h:l.Perm l') (T:Nat->Int) (k:Nat):kJ l T k=kJ l' T k:=
 h.foldl_eq' (fun x _ y _ z=>M8 _ _ _) _
theorem Ig {T T':Nat->Int} {k:Nat} (h: ∀j,j<k->T j=T' j) (p:Nat×Int):ga T k p=ga T' k p:=by
 unfold ga
 by_cases h1:1<=p.1/\p.1<=k
 ·rw [h (k - p.1) (by omega)]
 ·rw [if_neg (fun x=>h1 ⟨x.1,x.2.1⟩),if_neg (fun x=>h1 ⟨x.1,x.2.1⟩)]
theorem Ir {T T':Nat->Int} {k:Nat} (h: ∀j,j<k->T j=T' j) (l:List (Nat×Int)):kJ l T k=kJ l T' k:=by
 unfold kJ
 have e:(fun b p=>kq b (ga T k p))=fun b p=>kq b (ga T' k p):=by
  funext b p;rw [Ig h]
 rw [e]
def BJ (l:List (Nat×Int)):Nat->Nat->Int
 |0=>fun _=>0
 |n+1=>fun k=>if k<n then BJ l n k else if k=0 then 0 else kJ l (BJ l n) k
theorem Ei (l:List (Nat×Int)) (n k:Nat):BJ l (n+1) k=if k<n then BJ l n k else if k=0 then 0 else kJ l (BJ l n) k:=rfl
def kB (l:List (Nat×Int)) (k:Nat):Int:=BJ l (k+1) k
theorem Li (l:List (Nat×Int)): ∀(n k:Nat),k<n->BJ l n k=kB l k
 |0,k,h=>by omega
 |n+1,k,h=>by
  by_cases e:k<n
  ·rw [Ei,if_pos e,Li l n k e]
  ·rw [show k=n by omega,kB]
theorem wT (l:List (Nat×Int)):kB l 0=0:=by simp [kB,BJ]
theorem Eg (l:List (Nat×Int)) {k:Nat} (h:0<k):kB l k=kJ l (kB l) k:=by
 rw [kB,Ei,if_neg (by omega),if_neg (by omega)]
 exact Ir (fun j hj=>Li l k j hj) l
theorem MJ {l l':List (Nat×Int)} (h:l.Perm l') (n:Nat):BJ l n=BJ l' n:=by
 induction n with
 |zero=>rfl
 |succ n ih=>funext k;rw [Ei,Ei,ih,KJ h]
theorem MI {l l':List (Nat×Int)} (h:l.Perm l') (k:Nat):kB l k=kB l' k:=by rw [kB,MJ h,kB]
theorem Rg (l:List (Nat×Int)) (T:Nat->Int) (k:Nat) (b:Int) (hb: -1<=b) (hc: ∀p∈l,0<=p.2): -1<=l.foldl (fun b p=>kq b (ga T k p)) b:=by
 induction l generalizing b with
 |nil=>exact hb
 |cons p l ih=>
  refine ih _ ?_ fun q hq=>hc q (List.mem_cons_of_mem _ hq)
  show -1<=kq b (ga T k p)
  unfold kq
  split
  ·exact hb
  ·split
   ·omega
   ·exact hb
theorem Re (l:List (Nat×Int)) (T:Nat->Int) (k:Nat) (b B:Int) (hb:b<=B) (hc: ∀p∈l,ga T k p<=B):l.foldl (fun b p=>kq b (ga T k p)) b<=B:=by
 induction l generalizing b with
 |nil=>exact hb
 |cons p l ih=>
  refine ih _ ?_ fun q hq=>hc q (List.mem_cons_of_mem _ hq)
  have:=hc p (List.mem_cons_self ..)
  show kq b (ga T k p)<=B
  unfold kq
  split
  ·exact hb
  ·split<;>omega
theorem Eh {l:List (Nat×Int)} (hc: ∀p∈l,0<=p.2/\p.2<=10001) (k:Nat): -1<=kB l k/\kB l k<=10001*k:=by
 induction k using Nat.strongRecOn with
 |ind k ih=>
  by_cases h:k=0
  ·rw [h,wT];omega
  ·rw [Eg l (by omega)]
   refine ⟨Rg l _ k _ (by omega) fun p hp=>(hc p hp).1,Re l _ k _ _ (by omega) fun p hp=> ?_⟩
   unfold ga
   split
   ·have:=(ih (k - p.1) (by omega)).2
    have:=hc p hp
    omega
   ·omega
def fa (nB:Nat) (B:Nat->Int) (nO:Nat) (O:Nat->Int) (i:Nat):Int:=if i<nB then B (nB - 1 - i) else O (nO - 1 - (i - nB))
def ed (nB:Nat) (i:Nat):Int:=if i<nB then (if i=0 then 1 else 10001) else 10000
def uM (nB:Nat) (B:Nat->Int) (O:Nat->Int) (i:Nat):Int:=if i<nB then B i else O (i - nB)
def qT (nB:Nat) (i:Nat):Int:=if i<nB then (if i=nB - 1 then 1 else 10001) else 10000
def sig (nB nO i:Nat):Nat:=if i<nB then nB - 1 - i else nB+(nO - 1 - (i - nB))
theorem Df (n:Nat):(List.range n).map (fun i=>n - 1 - i)=(List.range n).reverse:=by
 apply List.ext_getElem
 ·simp
 ·intro i h1 h2
  simp
theorem Pr (nB nO:Nat):((List.range (nB+nO)).map (sig nB nO)).Perm (List.range (nB+nO)):=by
 have e:(List.range (nB+nO)).map (sig nB nO)=(List.range nB).reverse++((List.range nO).reverse.map (nB+·)):=by
  rw [List.range_add,List.map_append,List.map_map,<-Df,<-Df,List.map_map]
  congr 1
  ·apply List.map_congr_left
   intro i hi
   rw [List.mem_range] at hi
   simp [sig,hi]
  ·apply List.map_congr_left
   intro i hi
   simp only [sig,Function.comp]
   rw [if_neg (by omega)]
   omega
 rw [e,List.range_add]
 exact (List.reverse_perm _).append ((List.reverse_perm _).map _)
theorem Tj {nB nO:Nat} (B O:Nat->Int) {i:Nat} (h:i<nB+nO):fa nB B nO O i=uM nB B O (sig nB nO i)/\ed nB i=qT nB (sig nB nO i):=by
 unfold fa uM ed qT
 by_cases h1:i<nB
 ·have e:sig nB nO i=nB - 1 - i:=by rw [sig,if_pos h1]
  rw [e,if_pos h1,if_pos h1,if_pos (show nB - 1 - i<nB by omega),if_pos (show nB - 1 - i<nB by omega)]
  refine ⟨rfl,?_⟩
  by_cases h2:i=0
  ·rw [if_pos h2,if_pos (show nB - 1 - i=nB - 1 by omega)]
  ·rw [if_neg h2,if_neg (show ¬nB - 1 - i=nB - 1 by omega)]
 ·have e:sig nB nO i=nB+(nO - 1 - (i - nB)):=by rw [sig,if_neg h1]
  have h3: ¬nB+(nO - 1 - (i - nB))<nB:=by omega
  rw [e,if_neg h1,if_neg h1,if_neg h3,if_neg h3]
  exact ⟨by congr 1;omega,rfl⟩
theorem Aa {α:Type} (f:Int->Int->α) (nB:Nat) (B:Nat->Int) (nO:Nat) (O:Nat->Int):
 ((List.range (nB+nO)).map fun i=>f (fa nB B nO O i) (ed nB i)).Perm ((List.range (nB+nO)).map fun i=>f (uM nB B O i) (qT nB i)):=by
 have e:((List.range (nB+nO)).map fun i=>f (fa nB B nO O i) (ed nB i))=((List.range (nB+nO)).map (sig nB nO)).map fun i=>f (uM nB B O i) (qT nB i):=by
  rw [List.map_map]
  apply List.map_congr_left
  intro i hi
  obtain ⟨h1,h2⟩:=Tj (nO:=nO) B O (List.mem_range.1 hi)
  simp [h1,h2]
 rw [e]
 exact (Pr nB nO).map _
theorem mK {α:Type} (f:Nat->α) (n:Nat):(List.range (n+1)).map f=(List.range n).map f++[f n]:=by
 rw [List.range_succ,List.map_append];rfl
def fB (nB:Nat) (B:Nat->Int) (nO:Nat) (O:Nat->Int) (i:Nat):Nat:=xC ((List.range i).map (fa nB B nO O))
def mG (nB:Nat) (B:Nat->Int) (O:Nat->Int) (i:Nat):Nat:=xC ((List.range i).map (uM nB B O))
theorem unit_eq (nB:Nat) (B:Nat->Int) (nO:Nat) (O:Nat->Int):fB nB B nO O (nB+nO)=mG nB B O (nB+nO):=
 Nt (Aa (fun x _=>x) nB B nO O)
def Qi (u:Nat) (nB:Nat) (B:Nat->Int) (nO:Nat) (O:Nat->Int) (i:Nat):List (Nat×Int):=(List.range i).map fun i=>(eh u (fa nB B nO O i),ed nB i)
def VH (u:Nat) (nB:Nat) (B:Nat->Int) (O:Nat->Int) (i:Nat):List (Nat×Int):=(List.range i).map fun i=>(eh u (uM nB B O i),qT nB i)
theorem Na (u:Nat) (nB:Nat) (B:Nat->Int) (nO:Nat) (O:Nat->Int):(Qi u nB B nO O (nB+nO)).Perm (VH u nB B O (nB+nO)):=
 Aa (fun x c=>(eh u x,c)) nB B nO O
theorem Gz (u:Nat) (nB:Nat) (B:Nat->Int) (nO:Nat) (O:Nat->Int) (k:Nat):kB (Qi u nB B nO O (nB+nO)) k=kB (VH u nB B O (nB+nO)) k:=
 MI (Na u nB B nO O) k
theorem sa {nB:Nat} {B:Nat->Int} {nO:Nat} {O:Nat->Int} (hB: ∀k,k<nB->1<=B k/\B k<=10000) (hO: ∀k,k<nO->1<=O k/\O k<=10000) {i:Nat} (h:i<nB+nO):1<=fa nB B nO O i/\fa nB B nO O i<=10000:=by
 unfold fa
 split
 ·exact hB _ (by omega)
 ·exact hO _ (by omega)
theorem G4 (nB i:Nat):0<=ed nB i/\ed nB i<=10001:=by
 unfold ed;split
 ·split<;>omega
 ·omega
theorem og {α:Type} {f:Nat->α} {n i:Nat} (h:i<n):f i∈(List.range n).map f:=List.mem_map.2 ⟨i,List.mem_range.2 h,rfl⟩
theorem zy {nB:Nat} {B:Nat->Int} {nO:Nat} {O:Nat->Int} (h1:1<=nB) (hB: ∀k,k<nB->1<=B k/\B k<=10000) (hO: ∀k,k<nO->1<=O k/\O k<=10000):1<=fB nB B nO O (nB+nO)/\fB nB B nO O (nB+nO)<=10000:=by
 have b:=sa hB hO (show 0<nB+nO by omega)
 have:=Mc (og (f:=fa nB B nO O) (show 0<nB+nO by omega)) b.1
 unfold fB
 omega
theorem zw {nB:Nat} {B:Nat->Int} {nO:Nat} {O:Nat->Int} (hB: ∀k,k<nB->1<=B k/\B k<=10000) (hO: ∀k,k<nO->1<=O k/\O k<=10000) {i:Nat} (h:i<nB+nO):1<=eh (fB nB B nO O (nB+nO)) (fa nB B nO O i):=
 Gx (og h) (sa hB hO h).1
end Go.Abs.Lay
end
section
set_option maxRecDepth 100000
namespace Go.Abs.Lay
open Go
abbrev Af (X C:Nat->Int) (b:Nat->Bool):List (Nat->DV):=[fun i=> .val (.int .i64 (X i)),fun i=> .val (.int .i64 (C i)),fun i=> .val (.bool (b i))]
def Yf:fE:= .res fun l=>dI (Int.gcd (aI l 0) (aI l 1))
abbrev UK (u:Int) (n:Nat) (X C:Nat->Int) (b:Nat->Bool):DV:= .agg [dI u,.di n (Af X C b)]
abbrev catS (nB:Nat) (B:Nat->Int) (nO:Nat) (O:Nat->Int):DV:=UK (fB nB B nO O (nB+nO)) (nB+nO) (fa nB B nO O) (ed nB) (fun i=>decide (nB<=i))
theorem td {n i:Nat} (h:i<n):(List.range n).getD i 0=i:=by simp [h]
theorem r5 {l:List Nat} {x i:Nat} (h:i<(l++[x]).length):(l++[x]).getD i 0=if i<l.length then l.getD i 0 else x:=by
 simp only [aO,aL,b7] at h
 split
 ·rename_i h1
  simp [aM h1]
 ·rw [show i=l.length by omega];simp
theorem JD (nB:Nat) (B:Nat->Int) (nO:Nat) (O:Nat->Int) (i:Nat):Int.gcd (fa nB B nO O i) (fB nB B nO O i)=fB nB B nO O (i+1):=by
 rw [fB,fB,mK,DG,Int.gcd_comm]
theorem la (i:Nat):ng 0 i=i:=by simp [ng]
def Vu:fE:= .res fun l=> .jL 177 [.dN [nums (aN l) (aX l)]]
noncomputable def I8 (n:Nat) (A:Nat->Int):eH:={ dq:=[],loops:=[],dw:=[] }
theorem R1 (n:Nat) (A:Nat->Int) :dm prog 152 [nums n A] (.jL 177 [.dN [nums n A]]):=by
 refine db dv (I8 n A) (V:= .done [n=n,∀i<n,A i=A i]) (by kernel_rfl) ?_
 simp only [VT.holds,dt,Sq]
noncomputable def Ja (nB:Nat) (B:Nat->Int) (nO:Nat) (O:Nat->Int) (W G L:Int):eH:={ dq:=[(2,[(2,Vu)]),(9,[(2,Vu)]),(15,[(4,Yf)])],loops:=[(4,{ ι:=Nat,keep:=[2,3,48],boxes:=[2],ts:=fun _ i=>[(49,dI (i:Int))],rw:=fun _ _=>[(47,3,nB+nO,Af (fa nB B nO O) (ed nB) (fun i=>decide (nB<=i)))],bx:=fun σ i=>[(3,[dI (fB nB B nO O i),.row 3 σ.nx 0 (nB+nO)])],inv:=fun _ i=>i<=nB+nO,mu:=fun _ i=>nB+nO - i,rd:=fun _ σ=>(eA (σ.get 49)).toNat })],dw:=[],Tu:=[(0,{ N:=nB,enc:=fun k=>[.int .i64 ((nB:Int) - 1 - (k:Nat)),.int .i64 (B (nB - 1 - k))],keep:=[1,2,3,13],boxes:=[1,2],bx:=fun σ pre=>[(3,[dI 0,.row 3 (σ.nx+50) 0 pre.length])],rb:=fun _ pre=>[(3,1,3,pre.length,Af (fun i=>B (nB - 1 - pre.getD i 0)) (fun i=>if pre.getD i 0=0 then 1 else 10001) (fun _=>false))],inv:=fun _ pre=>pre.length<=nB }),(2,{ N:=nO,enc:=fun k=>[.int .i64 ((nO:Int) - 1 - (k:Nat)),.int .i64 (O (nO - 1 - k))],keep:=[1,2,3,36],boxes:=[1,2],bx:=fun σ pre=>[(3,[dI 0,.row 3 (σ.nx+50) 0 (nB+pre.length)])],rb:=fun _ pre=>[(3,1,3,nB+pre.length,Af (fun i=>if i<nB then B (nB - 1 - i) else O (nO - 1 - pre.getD (i - nB) 0)) (fun i=>ed nB i) (fun i=>decide (nB<=i)))],inv:=fun _ pre=>pre.length<=nO })] }
noncomputable abbrev qn (i:Nat) (nB:Nat) (q:List Nat×Nat):Bool:=decide (i<nB+List.length q.fst)
noncomputable abbrev read_cr0 (nB:Nat) (B:Nat->Int) (nO:Nat) (O:Nat->Int) (W:Int) (G:Int) (L:Int) (r:List Prop):List Prop:=(nB=nB)::(∀(i:Nat),i<nB->B i=B i)::(nO=nO)::(∀(i:Nat),i<nO->O i=O i)::(W=W)::(G=G)::(L=L)::((0:Int)=(0:Int))::(Value.slice none (0:Nat) (0:Nat)=Value.slice none (0:Nat) (0:Nat))::r
namespace w2d
noncomputable section
structure Z where
 nB:Nat
 B:Nat->Int
 nO:Nat
 O:Nat->Int
 W:Int
 G:Int
 L:Int
variable (z:Z) (i0 i1:Nat) (p q:Prop) (P:List Prop) (a b:Int) (k l m:Nat) (E F:List DV) (Yw:List Nat) (j22a:Unit->Prop) (j23a:Unit->VT)
abbrev x0 (i0:List Nat×Nat):=List.length (Prod.fst i0)
abbrev x1:=z.nB+z.nO
abbrev x2 (i0:List Nat×Nat):=(Prod.fst i0)++[Prod.snd i0]
abbrev x3 (i0:List Nat×Nat):=List.length (x2 i0)
abbrev x4:=z.B (z.nB - 1 - k)
abbrev x5:List Prop:=rf z.nB::(∀i0<z.nB,rf (z.B i0))::P
abbrev x6:=List.length (List.range z.nO)
abbrev x7:=rf (Value.slice none 0 0)
abbrev x8:Int:=(↑(Lay.fB z.nB z.B z.nO z.O k):Int)
abbrev x9:List Prop:=p::rf (0:Int)::P
abbrev dC:=if k=(0:Nat) then (1:Int) else (10001:Int)
abbrev dA:List Prop:=rf (0:Nat)::p::x5 z [rf z.nO,∀i0<z.nO,rf (z.O i0),rf z.W,rf z.G,rf z.L,rf (0:Int),x7,q]
abbrev dz:=Int.toNat ((i0:Int)+1)
abbrev dG:=(z.nB:Int) - 1
abbrev dL:=ng 0 (Int.toNat (i0:Int))
abbrev dR:=if k<z.nB then (x4 z l) else (z.O (z.nO - 1 - m))
abbrev dQ:=List.length (List.range z.nB)
abbrev ep:=Lay.fa z.nB z.B z.nO z.O (dL i0)
abbrev eu:= ∀i0<x1 z,rf (Lay.ed z.nB i0)
abbrev eG:= ∀i0<x1 z,rf (decide (z.nB<=i0))
abbrev ez:List Prop:=[p,(k+1)*((nat_lit 23)+1)<=140737488355328,(1:Nat)<=(1:Nat)]
abbrev eF:List Prop:=p::rf (0:Nat)::(z.nB+x6 z=x1 z)::P
abbrev eQ:= ∀i0<x1 z,rf (Lay.fa z.nB z.B z.nO z.O i0)
abbrev fC:List Value:=[Value.int IntKind.i64 a,Value.int IntKind.i64 b]
abbrev fM:=VT.cut Unit j22a (VT.done []) j23a
abbrev fR:List DV:=[DV.dN [DV.di z.nB [fun i0=>dI (z.B i0)]]]
abbrev fj:List DV:=[DV.dN [DV.di z.nO [fun i0=>dI (z.O i0)]]]
abbrev gp:=dm prog 152 E (DV.jL (177:FuncId) F)
abbrev iI:Int:=(↑(Int.gcd (ep z i0) (x8 z i0)):Int)
abbrev ji (i0:List Nat×Nat):=i1<x3 i0->(if (decide (i1<(x0 i0)))=true then (dC (List.getD (Prod.fst i0) i1 0)) else a)=dC (List.getD (x2 i0) i1 0)
abbrev iq:=dR z i1 i1 (List.getD Yw (i1 - z.nB) 0)
abbrev jj (i0:List Nat×Nat):=VT.da (ez (x0 i0<=x0 i0) (x0 i0)) (VT.done (x5 z ((x0 i0+1=x3 i0)::(∀i1<x3 i0,(if (decide (i1<(x0 i0)))=true then (x4 z (List.getD (Prod.fst i0) i1 0)) else (x4 z (Prod.snd i0)))=x4 z (List.getD (x2 i0) i1 0))::p::x9 (∀i1<x3 i0,(if (decide (i1<(x0 i0)))=true then false else false)=false) (dA z (x0 i0+1=x3 i0) (x3 i0<=z.nB)))))
abbrev xt:VT:=VT.da [gp [DV.di z.nB [fun i0=>dI (z.B i0)]] (fR z)] (VT.da (FG prog (177:FuncId) (fR z) z.nB (fun i0=>fC (dG z - (i0:Int)) (x4 z i0))::(∀i0<z.nB,rf (2:Nat))::x5 z (x9 ((nat_lit 0)=0) (dA z ((nat_lit 0)=0) ((nat_lit 0)<=z.nB)))) (VT.cut (List Nat×Nat) (fun (i0:List Nat×Nat)=>x0 i0<=z.nB/\Prod.snd i0<z.nB/\x0 i0<z.nB/\(∀(i1:Nat),(i1∈(Prod.fst i0))->i1<z.nB)) (fM (fun (i0:Unit)=>dQ z<=z.nB) (fun (i0:Unit)=>VT.da [gp [DV.di z.nO [fun i0=>dI (z.O i0)]] (fj z)] (VT.da (FG prog (177:FuncId) (fj z) z.nO (fun i0=>fC ((z.nO:Int) - 1 - (i0:Int)) (z.O (z.nO - 1 - i0)))::(∀i0<z.nO,rf (2:Nat))::rf z.nO::(∀i0<z.nO,rf (z.O i0))::(dQ z=z.nB+(nat_lit 0))::(∀i0<z.nB+(nat_lit 0),x4 z (List.getD (List.range z.nB) i0 0)=dR z i0 i0 (nat_lit 0))::(∀i0<z.nB+(nat_lit 0),dC (List.getD (List.range z.nB) i0 0)=Lay.ed z.nB i0)::x9 (∀i0<z.nB+(nat_lit 0),false=decide (z.nB<=i0)) (dA z (dQ z=z.nB+(nat_lit 0)) ((nat_lit 0)<=z.nO))) (VT.cut (List Nat×Nat) (fun (i0:List Nat×Nat)=>x0 i0<=z.nO/\Prod.snd i0<z.nO/\x0 i0<z.nO/\(∀(i1:Nat),(i1∈(Prod.fst i0))->i1<z.nO)) (fM (fun (i0:Unit)=>x6 z<=z.nO) (fun (i0:Unit)=>VT.loop Nat (fun i0=>i0<=x1 z) (Int.toNat 0) (eF z (0=(↑(Int.toNat 0):Int)) (rf (↑(z.nB+x6 z):Int)::(z.nB+x6 z=x1 z)::(∀i0<x1 z,dR z i0 i0 (List.getD (List.range z.nO) (i0 - z.nB) 0)=Lay.fa z.nB z.B z.nO z.O i0)::eu z::eG z::eF z (0=x8 z (Int.toNat 0)) [rf (0:Int),x7])) (fun i0=>VT.ite (decide ((i0:Int)<(↑(z.nB+x6 z):Int))) (VT.da [0<=(i0:Int)/\(i0:Int)<(↑(x1 z):Int),dL i0<x1 z] (VT.da [dm prog 153 [dI (ep z i0),dI (x8 z i0)] (dI (iI z i0))] (VT.da [cZ ((i0:Int)+1)] (VT.done [(i0:Int)+1=(↑(dz i0):Int),rf (0:Nat),rf (x1 z),rf (↑(z.nB+x6 z):Int),rf (x1 z),eQ z,eu z,eG z,iI z i0=x8 z (dz i0),rf (0:Nat),rf (x1 z),rf (0:Int),x7,dz i0<=x1 z,x1 z - dz i0<x1 z - i0])))) (VT.done [x1 z<=x1 z,x8 z i0=x8 z (x1 z),rf (x1 z),eQ z,eu z,eG z])))) (fun (i0:List Nat×Nat)=>VT.da (ez (z.nB+x0 i0<=z.nB+x0 i0) (z.nB+x0 i0)) (VT.done (rf z.nO::(∀i0<z.nO,rf (z.O i0))::(z.nB+x0 i0+1=z.nB+x3 i0)::(∀i1<z.nB+x3 i0,(if (decide (i1<(z.nB+x0 i0)))=true then (iq z i1 (Prod.fst i0)) else (z.O (z.nO - 1 - Prod.snd i0)))=iq z i1 (x2 i0))::(∀i1<z.nB+x3 i0,(if (decide (i1<(z.nB+x0 i0)))=true then (Lay.ed z.nB i1) else (10000:Int))=Lay.ed z.nB i1)::x9 (∀i1<z.nB+x3 i0,(if (decide (i1<(z.nB+x0 i0)))=true then (decide (z.nB<=i1)) else true)=decide (z.nB<=i1)) (dA z (z.nB+x0 i0+1=z.nB+x3 i0) (x3 i0<=z.nO))))))))) (fun (i0:List Nat×Nat)=>VT.da [cZ (dG z)] (VT.ite (decide ((dG z - (↑(Prod.snd i0):Int))<(dG z))) (VT.da [cZ 10001] (jj z (∀(i1:Nat),ji i1 (10001:Int) i0) i0)) (jj z (∀(i1:Nat),ji i1 (1:Int) i0) i0)))))
end
end w2d
open w2d in
theorem Yb (nB:Nat) (B:Nat->Int) (nO:Nat) (O:Nat->Int) (W G L:Int) (h1:1<=nB) (h2:nB<=8) (h3:nO<=8) (hB: ∀k,k<nB->1<=B k/\B k<=10000) (hO: ∀k,k<nO->1<=O k/\O k<=10000):dm prog 116 [sys nB B nO O W G L] (catS nB B nO O):=by
 refine db dv (Ja nB B nO O W G L) (V:=xt ⟨nB,B,nO,O,W,G,L⟩) (by kernel_rfl) ?_
 simp only [xt,x0,x1,x2,x3,x4,x5,x6,x7,x8,x9,dC,dA,dz,dG,dL,dR,dQ,ep,eu,eG,ez,eF,eQ,fC,fM,fR,fj,gp,iI,ji,iq,jj,Rf,VT.holds,dt,Sq,List.length_range,bU,la]
 refine ⟨R1 nB B,⟨It nB B (by omega),ao _⟩,⟨fun _ _=>⟨R1 nO O,⟨It nO O (by omega),?_,?_,?_,ao _⟩,⟨fun _ _=>⟨⟨rfl,?_,rfl⟩,ao _,fun i hi=>⟨fun dK=>⟨⟨⟨by omega,by omega⟩,by omega⟩,gcd_c _ _ ?_ ?_,by unfold cZ;omega,rfl,?_,by omega,by omega⟩,fun iy=>⟨af _,?_⟩⟩⟩,fun q ⟨q1,q2,q3,q4⟩=> ?_⟩⟩,fun q ⟨q1,q2,q3,q4⟩=> ?_⟩⟩
 ·intro i hi
  rw [td hi,ah hi]
 ·intro i hi
  rw [td hi,ed,ah hi]
 ·intro i hi
  rw [bg (by omega)]
 ·intro i hi
  unfold fa
  by_cases h:i<nB
  ·rw [ah h,ah h]
  ·rw [ae h,ae h,td (by omega)]
 ·have:=sa hB hO (show i<nB+nO by omega)
  omega
 ·omega
 ·rw [JD]
 ·rw [show i=nB+nO by omega]
 ·refine ⟨⟨af _,by omega,af _⟩,by simp only [aO,aL,b7];omega,fun i hi=> ?_,fun i hi=> ?_,fun i hi=> ?_,by simp only [aO,aL,b7];omega,by simp only [aO,aL,b7];omega⟩
  all_goals simp only [aO,aL,b7] at hi
  ·by_cases h:i<nB
   ·rw [ah (by omega),ah h,ah h]
   ·rw [ae h,r5 (by simp only [aO,aL,b7];omega)]
    by_cases h5:i<nB+q.1.length
    ·rw [ah h5,ae h,ah (by omega)]
    ·rw [ae h5,ae (show ¬i - nB<q.1.length by omega),ae h]
  ·by_cases h5:i<nB+q.1.length
   ·rw [ah h5]
   ·rw [ae h5,ed,ae (by omega)]
  ·by_cases h5:i<nB+q.1.length
   ·rw [ah h5]
   ·rw [ae h5,bk (by omega)]
 ·have hl:(q.1++[q.2]).length=q.1.length+1:=by simp
  have e1: ∀i,i<(q.1++[q.2]).length->(if i<q.1.length then B (nB - 1 - q.1.getD i 0) else B (nB - 1 - q.2))=B (nB - 1 - (q.1++[q.2]).getD i 0):=fun i hi=>by
   rw [r5 hi]
   split<;>rfl
  refine ⟨by unfold cZ;omega,fun h=>⟨by unfold cZ;omega,⟨af _,by omega,af _⟩,hl.symm,e1,fun i hi=> ?_,hl.symm,by omega⟩,fun h=>⟨⟨af _,by omega,af _⟩,hl.symm,e1,fun i hi=> ?_,hl.symm,by omega⟩⟩
  ·rw [r5 hi]
   by_cases h5:i<q.1.length
   ·rw [ah h5,ah h5]
   ·rw [ae h5,ae h5,ae (by omega)]<;>rfl
  ·rw [r5 hi]
   by_cases h5:i<q.1.length
   ·rw [ah h5,ah h5]
   ·rw [ae h5,ae h5,ah (by omega)]
end Go.Abs.Lay
end
section
set_option maxRecDepth 100000
namespace Go.Abs.Lay
open Go
def iv (nB:Nat) (B:Nat->Int) (nO:Nat) (O:Nat->Int) (W G L:Int):Nat:=if fN nB B nO O W G L=0 then nB+nO else 0
def fZ (nB:Nat) (B:Nat->Int) (nO:Nat) (O:Nat->Int) (W G L:Int):Nat:=if fN nB B nO O W G L=0 then fB nB B nO O (nB+nO) else 0
abbrev Zz (nB:Nat) (B:Nat->Int) (nO:Nat) (O:Nat->Int) (W G L:Int):DV:=UK (fZ nB B nO O W G L) (iv nB B nO O W G L) (fa nB B nO O) (ed nB) (fun i=>decide (nB<=i))
def vb (nB:Nat) (B:Nat->Int) (nO:Nat) (O:Nat->Int) (W G L:Int) (len:Int):Int:=if fN nB B nO O W G L=0 then (if len<0 then 2 else if len>4000*(fB nB B nO O (nB+nO):Int) then 8 else 0) else fN nB B nO O W G L
def rRead:fE:= .res fun l=>catS (gB l) (gBf l) (gO l) (gOf l)
def yf (u:Nat) (X C:Nat->Int) (i:Nat):List (Nat×Int):=(List.range i).map fun i=>(eh u (X i),C i)
noncomputable def F1 (nB:Nat) (B:Nat->Int) (nO:Nat) (O:Nat->Int) (W G L:Int):eH:={ dq:=[(1,[(1,rSys)]),(4,[(1,rRead)])],loops:=[],dw:=[] }
theorem G6 (nB:Nat) (B:Nat->Int) (nO:Nat) (O:Nat->Int) (W G L:Int) :dm prog 57 [sys nB B nO O W G L] (.fy [Zz nB B nO O W G L,dI (fN nB B nO O W G L)]):=by
 refine db dv (F1 nB B nO O W G L) (V:= .da [dm prog 115 [.agg [.di nB [fun i=>(dI (B i))],.di nO [fun i=>(dI (O i))],(dI W),(dI G),(dI L)]] ((dI (fN nB B nO O W G L)))] (.ite (fN nB B nO O W G L !=0) (.done [(0:Int)=(↑(fZ nB B nO O W G L):Int),iv nB B nO O W G L=0,fN nB B nO O W G L=fN nB B nO O W G L]) (.da [dm prog 116 [.agg [.di nB [fun i=>(dI (B i))],.di nO [fun i=>(dI (O i))],(dI W),(dI G),(dI L)]] (.agg [(dI (↑(fB nB B nO O (nB+nO)):Int)),.di (nB+nO) [fun i=>(dI (fa nB B nO O i)),fun i=>(dI (ed nB i)),fun i=>(dB (decide (nB<=i)))]])] (.done [(↑(fB nB B nO O (nB+nO)):Int)=(↑(fZ nB B nO O W G L):Int),nB+nO=iv nB B nO O W G L,∀i<iv nB B nO O W G L,fa nB B nO O i=fa nB B nO O i,∀i<iv nB B nO O W G L,ed nB i=ed nB i,∀i<iv nB B nO O W G L,decide (nB<=i)=decide (nB<=i),(0:Int)=fN nB B nO O W G L])))) (by kernel_rfl) ?_
 simp only [VT.holds,dt,Sq]
 refine ⟨Pf nB B nO O W G L,fun h=>by rw [fZ,iv,ae h,ae h];exact ⟨rfl,rfl⟩,fun h=> ?_⟩
 obtain ⟨s1,s2,s3,sB,sO,_,_⟩:=n5 h
 rw [fZ,iv,ah h,ah h]
 exact ⟨Yb nB B nO O W G L s1 s2 s3 sB sO,rfl,rfl,h.symm⟩
noncomputable def IS (u n:Nat) (X C:Nat->Int) (b:Nat->Bool) (N:Int):eH:={ dq:=[(9,[(4,.pos)])],loops:=[(0,{ ι:=Nat,keep:=[1,2],boxes:=[2],ts:=fun _ k=>[(6,dI (k:Int))],rw:=fun _ k=>[(5,1,(N+1).toNat,[fun q=> .val (.int .i64 (if q<k then kB (yf u X C n) q else 0))])],inv:=fun _ k=>1<=k/\(k:Int)<=N+1,mu:=fun _ k=>(N+1 - (k:Int)).toNat,rd:=fun _ σ=>(eA (σ.get 6)).toNat }),(2,{ ι:=Nat,keep:=[1,2,6,23,24],boxes:=[2],ts:=fun _ i=>[(25,dI (i:Int))],rw:=fun σ i=>[(5,1,(N+1).toNat,[fun q=> .val (.int .i64 (if q<(eA (σ.get 6)).toNat then kB (yf u X C n) q else if q=(eA (σ.get 6)).toNat then kJ (yf u X C i) (kB (yf u X C n)) (eA (σ.get 6)).toNat else 0))])],inv:=fun _ i=>i<=n,mu:=fun _ i=>n - i,rd:=fun _ σ=>(eA (σ.get 25)).toNat })],dw:=[] }
noncomputable abbrev qp (X:Nat->Int) (dS:Nat) (u:Nat) (i:Nat):Bool:=decide (X (Int.toNat (dS:Int))/(u:Int)>(i:Int))
noncomputable abbrev qi (i:Nat) (u:Nat) (X:Nat->Int) (C:Nat->Int) (n:Nat) (dS:Nat):Bool:=decide ((if ng (0:Nat) (Int.toNat (i:Int))<Int.toNat (i:Int) then kB (yf u X C n) (ng (0:Nat) (Int.toNat (i:Int))) else if ng (0:Nat) (Int.toNat (i:Int))=Int.toNat (i:Int) then kJ (yf u X C dS) (kB (yf u X C n)) (Int.toNat (i:Int)) else (0:Int))<(0:Int))
noncomputable abbrev Z1 (n:Nat) (X:Nat->Int) (C:Nat->Int) (b:Nat->Bool) (N:Int) (i:Nat) (r:List Prop):List Prop:=((0:Nat)=(0:Nat))::(Int.toNat (N+(1:Int))=Int.toNat (N+(1:Int)))::(N=N)::((i:Int)=(i:Int))::(n=n)::(∀(i:Nat),i<n->X i=X i)::(∀(i:Nat),i<n->C i=C i)::(∀(i:Nat),i<n->b i=b i)::((n:Int)=(n:Int))::(Int.toNat (N+(1:Int))=Int.toNat (N+(1:Int)))::r
noncomputable abbrev Z0 (u:Nat) (n:Nat) (X:Nat->Int) (C:Nat->Int) (b:Nat->Bool) (r:List Prop):List Prop:=((u:Int)=(u:Int))::(n=n)::(∀(i:Nat),i<n->X i=X i)::(∀(i:Nat),i<n->C i=C i)::(∀(i:Nat),i<n->b i=b i)::r
namespace w2f
noncomputable section
structure Z where
 u:Nat
 n:Nat
 X:Nat->Int
 C:Nat->Int
 b:Nat->Bool
 N:Int
variable (z:Z) (i0 i1:Nat) (p q:Prop) (P:List Prop) (a b:Int) (k l m n:Nat) (g:Bool) (U V:VT)
abbrev x0:Int:=(i0:Int)
abbrev x1:=Int.toNat (x0 i0)
abbrev x2:=Int.toNat (a+1)
abbrev x3:=ng 0 (x1 i0)
abbrev x4:=z.X (Int.toNat (i1:Int))
abbrev x5:=Lay.kB (Lay.yf z.u z.X z.C z.n) k
abbrev x6:=if k<(x1 i0) then (x5 z l) else (if m=(x1 i0) then (Lay.kJ (Lay.yf z.u z.X z.C n) (Lay.kB (Lay.yf z.u z.X z.C z.n)) (x1 i0)) else (0:Int))
abbrev x7:=x0 i0 - x4 z i1/(z.u:Int)
abbrev x8:=ng 0 (Int.toNat (x7 z i0 i1))
abbrev x9:=x2 (i1:Int)
abbrev dC:=decide ((x4 z i1/(z.u:Int))>(x0 i0))
abbrev dA:List Prop:=rf (x2 z.N)::p::rf a::rf z.n::(∀i0<z.n,rf (z.X i0))::(∀i0<z.n,rf (z.C i0))::P
abbrev dz:=decide ((x6 z i0 (x3 i0) (x3 i0) (x3 i0) i1)<(0:Int))
abbrev dG:=dA z p ((∀i0<z.n,rf (z.b i0))::q::P) a
abbrev dL:=VT.da (p::q::P) U
abbrev dR:=ri ((!(dC z i0 i1))=true)
abbrev dQ:List Prop:=(a=(k:Int))::rf (0:Nat)::P
abbrev ep:=ri ((!(dz z i0 i1))=true)
abbrev eu:=if k<l then (x5 z m) else (0:Int)
abbrev eG:=0<=x0 i0/\x0 i0<(↑(x2 z.N):Int)
abbrev ez:=dG z (rf z.N) (rf (z.n:Int)) P (x0 i0)
abbrev eF:=VT.da [cZ ((i1:Int)+1)] (VT.done (dQ (ez z i0 (dG z p (x9 i1<=z.n) [z.n - x9 i1<z.n - i1] (z.u:Int))) ((i1:Int)+1) (x9 i1)))
abbrev eQ:=x6 z i0 (x8 z i0 i1) (x8 z i0 i1) (x8 z i0 i1) i1+(z.C (Int.toNat (i1:Int)))
abbrev fC:=eF z i0 i1 (∀i2<x2 z.N,x6 z i0 i2 i2 i2 i1=x6 z i0 i2 i2 i2 (x9 i1))
abbrev fM:=VT.ite g (dL (eG z i0) (x3 i0<x2 z.N) [] U) V
abbrev fR:=if (decide (k=(x3 i0)))=true then a else b
abbrev fj:=dA z p [∀i0<z.n,rf (z.b i0)] (z.u:Int)
abbrev gp:=0<=x7 z i0 i1/\x7 z i0 i1<(↑(x2 z.N):Int)
abbrev xt:VT:=dL (cZ (z.N+1)) (0<=z.N+1/\rf (z.N+1)/\z.N+1<=140737488355328/\TypeInfo.bytes ((Tables.types (Program.toTables prog))[(3:Nat)])*x2 z.N<=281474976710656) [] (VT.loop Nat (fun i0=>1<=i0/\x0 i0<=z.N+1) (Int.toNat 1) (dQ (rf (x2 z.N)::rf z.N::fj z (∀i0<x2 z.N,0=eu z i0 (Int.toNat 1) i0)) (1:Int) (Int.toNat 1)) (fun i0=>fM z i0 (decide ((x0 i0)<=z.N)) (VT.loop Nat (fun i0=>i0<=z.n) (Int.toNat 0) (dQ (ez z i0 (fj z (∀i1<x2 z.N,fR i0 (-(1:Int)) (eu z i1 i0 i1) i1=x6 z i0 i1 i1 i1 (Int.toNat 0)))) (0:Int) (Int.toNat 0)) (fun i1=>VT.ite (decide ((i1:Int)<(z.n:Int))) (VT.da [0<=(i1:Int)/\(i1:Int)<(z.n:Int)] (VT.da [0<=x4 z i1/\0<(z.u:Int)/\x4 z i1<=9223372036854775807] (dL (dR z i0 i1) (dR z i0 i1) [(!(dC z i0 i1))=true->cZ (x7 z i0 i1),dR z i0 i1,dR z i0 i1,(!(dC z i0 i1))=true->gp z i0 i1,dR z i0 i1,(!(dC z i0 i1))=true->x8 z i0 i1<x2 z.N,dR z i0 i1,dC z i0 i1=false->(!(dC z i0 i1))=true] (VT.ite (if (dC z i0 i1)=true then true else (decide ((x6 z i0 (x8 z i0 i1) (x8 z i0 i1) (x8 z i0 i1) i1)<(0:Int)))) (fC z i0 i1) (dL (cZ (x7 z i0 i1)) (gp z i0 i1) [x8 z i0 i1<x2 z.N,cZ (eQ z i0 i1)] (dL (eG z i0) (x3 i0<x2 z.N) [ep z i0 i1,ep z i0 i1,(!(dz z i0 i1))=true->eG z i0,ep z i0 i1,(!(dz z i0 i1))=true->x3 i0<x2 z.N,ep z i0 i1,ep z i0 i1,dz z i0 i1=false->(!(dz z i0 i1))=true] (fM z i0 (if (dz z i0 i1)=true then true else (decide ((eQ z i0 i1)<(x6 z i0 (x3 i0) (x3 i0) (x3 i0) i1)))) (eF z i0 i1 (∀i2<x2 z.N,fR i0 (eQ z i0 i1) (x6 z i0 i2 i2 i2 i1) i2=x6 z i0 i2 i2 i2 (x9 i1))) (fC z i0 i1)))))))) (VT.da [cZ (x0 i0+1)] (VT.done (dQ (rf (x2 z.N)::rf z.N::dG z (∀i2<x2 z.N,x6 z i0 i2 i2 i2 i1=eu z i2 (x2 (x0 i0)) i2) (1<=x2 (x0 i0)/\(↑(x2 (x0 i0)):Int)<=z.N+1) [Int.toNat (z.N+1 - (↑(x2 (x0 i0)):Int))<Int.toNat (z.N+1 - x0 i0)] (z.u:Int)) (x0 i0+1) (x2 (x0 i0))))))) (VT.done [x2 z.N<=x2 z.N,rf (x2 z.N),∀i1<x2 z.N,eu z i1 i0 i1=x5 z i1])))
end
end w2f
open w2f in
theorem Td (u n:Nat) (X C:Nat->Int) (b:Nat->Bool) (N:Int) (hu:1<=u) (hn:n<=16) (hX: ∀i,i<n->1<=X i/\X i<=10000) (hm: ∀i,i<n->1<=eh u (X i)) (hC: ∀i,i<n->0<=C i/\C i<=10001) (hN:0<=N) (Uk:N<=4000):dm prog 59 [UK u n X C b,dI N] (.di (N+1).toNat [fun k=> .val (.int .i64 (kB (yf u X C n) k))]):=by
 refine db dv (IS u n X C b N) (V:=xt ⟨u,n,X,C,b,N⟩) (by kernel_rfl) ?_
 simp only [xt,x0,x1,x2,x3,x4,x5,x6,x7,x8,x9,dC,dA,dz,dG,dL,dR,dQ,ep,eu,eG,ez,eF,eQ,fC,fM,fR,fj,gp,Rf,VT.holds,dt,Sq]
 have hbd: ∀p∈yf u X C n,0<=p.2/\p.2<=10001:=fun p hp=>by
  obtain ⟨i,hi,rfl⟩:=br.1 hp
  exact hC i (a8.1 hi)
 have hT:=Eh hbd
 have hT0:=wT (yf u X C n)
 have hTe:=fun {k}=>Eg (yf u X C n) (k:=k)
 generalize hTT:kB (yf u X C n)=T at*
 have On:prog.types[3].bytes=8:=by kernel_rfl
 rw [On]
 refine ⟨⟨by unfold cZ;omega,by omega,by omega,by omega⟩,⟨rfl,fun i hi=> ?_⟩,⟨by omega,by omega⟩,fun k ⟨k1,k2⟩=>⟨fun hk=>⟨⟨⟨by omega,by omega⟩,by rw [la];omega⟩,⟨rfl,fun q hq=> ?_⟩,ao _,fun i hi=>⟨fun dK=> ?_,fun iy=> ?_⟩⟩,fun hk=>⟨af _,fun q hq=>by rw [ah (by omega)]⟩⟩⟩
 ·by_cases e:i<Int.toNat 1
  ·rw [ah e,show i=0 by omega,hT0]
  ·rw [ae e]
 ·rw [la]
  by_cases e:q=k
  ·rw [ah e,ae (by omega),ah e];rfl
  ·rw [ae e,ae e]
 ·have pH:i<n:=by omega
  have hx:=hX i pH
  have e:X i/(u:Int)=(eh u (X i):Int):=by
   unfold eh
   have:=bZ (a:=X i) (b:=(u:Int)) (by omega) (by omega)
   omega
  have m1:=hm i pH
  have hc:=hC i pH
  have hs:kJ (yf u X C (i+1)) T k=kq (kJ (yf u X C i) T k) (ga T k (eh u (X i),C i)):=by
   rw [yf,mK,KI];rfl
  simp only [e,Int.toNat_sub,la,hs]
  generalize eh u (X i)=m at*
  have lt:k - m<k:=by omega
  simp only [ah lt,Nat.lt_irrefl,cg,bn]
  have t1:=hT (k - m)
  generalize kJ (yf u X C i) T k=b at*
  refine ⟨⟨by omega,by omega⟩,⟨by omega,by omega,by omega⟩,⟨fun _=>by unfold cZ;omega,fun _=>by omega,fun _=>by omega⟩,fun h=> ?_,fun ⟨h,h'⟩=> ?_⟩
  ·have hcd:ga T k (m,C i)= -1:=by
    unfold ga
    rw [ae]
    intro ⟨_,h2,h3⟩
    dsimp only at h2 h3
    omega
   rw [hcd]
   exact ⟨by unfold cZ;omega,rfl,fun q hq=>rfl,by omega,by omega⟩
  ·have hcd:ga T k (m,C i)=T (k - m)+C i:=by
    unfold ga
    rw [ah (show 1<=m/\m<=k/\0<=T (k - m) from ⟨m1,by omega,by omega⟩)]
   rw [hcd]
   refine ⟨⟨by unfold cZ;omega,⟨by omega,by omega⟩,by omega,by unfold cZ;omega⟩,⟨⟨by omega,by omega⟩,by omega,fun _=>by omega,fun _=>by omega⟩,fun h2=>⟨⟨⟨by omega,by omega⟩,by omega⟩,by unfold cZ;omega,rfl,fun q hq=> ?_,by omega,by omega⟩,fun h2=>⟨by unfold cZ;omega,rfl,fun q hq=> ?_,by omega,by omega⟩⟩
   ·by_cases e2:q=k
    ·rw [ah e2,ae (by omega),ah e2,kq,ae (by omega),ah h2]
    ·rw [ae e2,ae e2,ae e2]
   ·by_cases e2:q=k
    ·rw [ae (by omega),ah e2,ae (by omega),ah e2,kq,ae (by omega),ae (by omega)]
    ·rw [ae e2,ae e2]
 ·rw [show i=n by omega]
  refine ⟨by unfold cZ;omega,rfl,fun q hq=> ?_,⟨by omega,by omega⟩,by omega⟩
  by_cases e:q<k
  ·rw [ah e,ah (by omega)]
  ·by_cases e2:q=k
   ·rw [ae e,ah e2,ah (by omega),e2,hTe (by omega)]
   ·rw [ae e,ae e2,ae (by omega)]
end Go.Abs.Lay
end
section
set_option maxRecDepth 100000
namespace Go.Abs.Lay
open Go
def cX (l:List DV):Nat->Int:=iQ 0 (fD 1 (arg l 0))
abbrev cN (l:List DV):Nat:=lenOf (fD 1 (arg l 0))
theorem TL {nB:Nat} {B:Nat->Int} {nO:Nat} {O:Nat->Int} {W G L len:Int} (h:vb nB B nO O W G L len=0):fN nB B nO O W G L=0/\0<=len/\len<=4000*(fB nB B nO O (nB+nO):Int):=by
 unfold vb at h
 split at h
 ·rename_i h1
  split at h
  ·cases h
  ·split at h
   ·cases h
   ·exact ⟨h1,by omega,by omega⟩
 ·exact absurd h ‹_›
def qH (nB:Nat) (B:Nat->Int) (nO:Nat) (O:Nat->Int):Nat->Int:=kB (Qi (fB nB B nO O (nB+nO)) nB B nO O (nB+nO))
theorem PL {u:Nat} {len:Int} (hu:1<=u) (h0:0<=len) (h1:len<=4000*(u:Int)):0<=len/(u:Int)/\len/(u:Int)<=4000:=by
 have a:=bZ (a:=len) (b:=(u:Int)) h0 (by omega)
 have b:=Int.ediv_le_ediv (c:=(u:Int)) (by omega) h1
 rw [Int.mul_ediv_cancel _ (by omega)] at b
 exact ⟨a,b⟩
end Go.Abs.Lay
end
section
set_option maxRecDepth 100000
namespace Go.Abs.Lay
open Go
def KM (nB:Nat) (B O:Nat->Int) (i:Nat):Int:=if i<nB then B i else O (i - nB)
def Vq:fE:= .res fun l=>dB (iT (aN l) (aX l))
theorem zx (nB:Nat) (B:Nat->Int) (O:Nat->Int) (i:Nat):Int.gcd (mG nB B O i) (uM nB B O i)=mG nB B O (i+1):=by
 rw [mG,mG,mK,DG]
theorem O7 {nB:Nat} {B:Nat->Int} {nO:Nat} {O:Nat->Int} (h1:1<=nB) (hB: ∀k,k<nB->1<=B k/\B k<=10000) (hO: ∀k,k<nO->1<=O k/\O k<=10000):1<=mG nB B O (nB+nO)/\mG nB B O (nB+nO)<=10000:=by
 rw [<-unit_eq];exact zy h1 hB hO
def xY (nB:Nat) (B:Nat->Int) (nO:Nat) (O:Nat->Int):Nat->Int:=kB (yf (mG nB B O (nB+nO)) (uM nB B O) (qT nB) (nB+nO))
theorem Bm (nB:Nat) (B:Nat->Int) (nO:Nat) (O:Nat->Int):gS (nB+nO) (KM nB B O)=true↔gS nB B=true\/gS nO O=true:=by
 unfold gS
 simp only [km]
 constructor
 ·rintro ⟨k,hk,h⟩
  unfold KM at h
  split at h
  ·exact .inl ⟨k,by omega,h⟩
  ·exact .inr ⟨k - nB,by omega,h⟩
 ·rintro (⟨k,hk,h⟩|⟨k,hk,h⟩)
  ·refine ⟨k,by omega,?_⟩
   unfold KM;rw [ah hk];exact h
  ·refine ⟨nB+k,by omega,?_⟩
   unfold KM;rw [ae (by omega),Nat.add_sub_cancel_left];exact h
noncomputable def K1 (n:Int):eH:={ dq:=[],loops:=[],dw:=[] }
theorem Mw (n:Int) (hn:0<=n):dm prog 155 [dI n] (dI n):=by
 refine db dv (K1 n) (V:= .ite (decide (n<0)) (.da [cZ (-n)] (.done [-n=n])) (.done [n=n])) (by kernel_rfl) ?_
 simp only [VT.holds,dt,Sq]
 exact fun h=>absurd h (by omega)
noncomputable def I9 (a b:Int):eH:={ dq:=[(2,[(3,.pos)]),(3,[(1,.res fun l=>dI (aI l 0))])],loops:=[(0,{ ι:=Int×Int,keep:=[],boxes:=[],ts:=fun _ i=>[(0,dI i.1),(1,dI i.2)],inv:=fun _ i=>0<=i.1/\0<=i.2/\Int.gcd i.1 i.2=Int.gcd a b,mu:=fun _ i=>i.2.toNat,rd:=fun _ σ=>(eA (σ.get 0),eA (σ.get 1)) })],dw:=[] }
theorem Q6 (a b:Int) (h1:0<=a) (h2:0<=b):dm prog 121 [dI a,dI b] (dI (Int.gcd a b)):=by
 refine db dv (I9 a b) (V:= .loop (Int×Int) (fun (U5:Int×Int)=>(0:Int)<=U5.fst/\(0:Int)<=U5.snd/\Int.gcd U5.fst U5.snd=Int.gcd a b) (a,b) [a=a,b=b] fun (i:Int×Int)=> .ite (i.snd !=0) (.da [(0:Int)<=i.fst/\(0:Int)<i.snd] (.done [i.snd=i.snd,i.fst%i.snd=i.fst%i.snd,(0:Int)<=i.snd/\(0:Int)<=i.fst%i.snd/\Int.gcd i.snd (i.fst%i.snd)=Int.gcd a b,Int.toNat (i.fst%i.snd)<Int.toNat i.snd])) (.da [dm prog 155 [(dI i.fst)] ((dI i.fst))] (.done [i.fst=(↑(Int.gcd a b):Int)]))) (by kernel_rfl) ?_
 simp only [VT.holds,dt,Sq]
 refine ⟨⟨h1,h2⟩,fun i ⟨h1,h2,h3⟩=>⟨fun nj=>⟨⟨h1,by omega⟩,⟨h2,bf _ nj,?_⟩,?_⟩,fun he=>⟨Mw _ h1,?_⟩⟩⟩
 ·rw [<-h3,HI]
 ·have:=bm i.1 (show 0<i.2 by omega)
  have:=bf i.1 nj
  omega
 ·rw [<-h3,he,Int.gcd_zero_right]
  omega
noncomputable def IJ (nB:Nat) (B:Nat->Int) (nO:Nat) (O:Nat->Int) (W G L:Int):eH:={ dq:=[(5,[(6,Yf)]),(9,[(6,Yf)])],loops:=[(0,{ ι:=Nat,keep:=[1],boxes:=[1],ts:=fun _ i=>[(3,dI (mG nB B O i)),(4,dI (i:Int))],inv:=fun _ i=>i<=nB,mu:=fun _ i=>nB - i,rd:=fun _ σ=>(eA (σ.get 4)).toNat }),(2,{ ι:=Nat,keep:=[1],boxes:=[1],ts:=fun _ i=>[(3,dI (mG nB B O (nB+i))),(5,dI (i:Int))],inv:=fun _ i=>i<=nO,mu:=fun _ i=>nO - i,rd:=fun _ σ=>(eA (σ.get 5)).toNat })],dw:=[] }
namespace w2i
noncomputable section
structure Z where
 nB:Nat
 B:Nat->Int
 nO:Nat
 O:Nat->Int
 W:Int
 G:Int
 L:Int
variable (z:Z) (i0:Nat) (p:Prop) (P:List Prop) (a b:Int) (k:Nat) (U:VT) (Oi:Nat->Prop) (Dz:Nat->VT) (sE j10b:Nat->Int)
abbrev x0:Int:=(↑(Lay.mG z.nB z.B z.O k):Int)
abbrev x1:=Int.toNat ((i0:Int)+1)
abbrev x2:=x0 z (z.nB+k)
abbrev x3:=Int.toNat 0
abbrev x4:Int:=(↑(Int.gcd a (sE (Int.toNat (i0:Int)))):Int)
abbrev x5:List Prop:=(a=b)::p::rf z.nB::(∀i0<z.nB,rf (z.B i0))::rf z.nO::(∀i0<z.nO,rf (z.O i0))::rf z.W::rf z.G::P
abbrev x6:=VT.loop Nat Oi x3 (x5 z (0=(x3:Int)) [rf z.L] a b) Dz
abbrev x7:=dm prog 121 [dI a,dI (sE (Int.toNat (i0:Int)))] (dI (x4 i0 b j10b))
abbrev x8:=VT.da [0<=(i0:Int)/\(i0:Int)<a,p] U
abbrev x9:=VT.da [cZ ((i0:Int)+1)] (VT.done (x5 z ((i0:Int)+1=(↑(x1 i0):Int)) P (x4 i0 a sE) b))
abbrev xt:VT:=x6 z (0:Int) (x0 z x3) (fun i0=>i0<=z.nB) (fun i0=>VT.ite (decide ((i0:Int)<(z.nB:Int))) (x8 i0 (x7 i0 (x0 z i0) (x0 z i0) z.B z.B) (z.nB:Int) (x9 z i0 [rf z.L,x1 i0<=z.nB,z.nB - x1 i0<z.nB - i0] (x0 z i0) (x0 z (x1 i0)) z.B)) (x6 z (x0 z i0) (x2 z x3) (fun i0=>i0<=z.nO) (fun i0=>VT.ite (decide ((i0:Int)<(z.nO:Int))) (x8 i0 (x7 i0 (x2 z i0) (x2 z i0) z.O z.O) (z.nO:Int) (x9 z i0 [rf z.L,x1 i0<=z.nO,z.nO - x1 i0<z.nO - i0] (x2 z i0) (x2 z (x1 i0)) z.O)) (VT.done [x2 z i0=x2 z z.nO]))))
end
end w2i
open w2i in
theorem Lb (nB:Nat) (B:Nat->Int) (nO:Nat) (O:Nat->Int) (W G L:Int) (h2:nB<=8) (h3:nO<=8) (hB: ∀k,k<nB->1<=B k/\B k<=10000) (hO: ∀k,k<nO->1<=O k/\O k<=10000):dm prog 72 [sys nB B nO O W G L] (dI (mG nB B O (nB+nO))):=by
 refine db dv (IJ nB B nO O W G L) (V:=xt ⟨nB,B,nO,O,W,G,L⟩) (by kernel_rfl) ?_
 simp only [xt,x0,x1,x2,x3,x4,x5,x6,x7,x8,x9,Rf,VT.holds,dt,Sq]
 refine ⟨⟨rfl,rfl⟩,ao _,fun i hi=>⟨fun dK=>⟨⟨⟨by omega,by omega⟩,Q6 _ _ (by omega) (by have:=hB i (by omega);omega)⟩,by unfold cZ;omega,?_,rfl,by omega,by omega⟩,fun iy=>⟨⟨by rw [show i=nB+0 by omega],rfl⟩,ao _,fun i hi=>⟨fun dK=>⟨⟨⟨by omega,by omega⟩,Q6 _ _ (by omega) (by have:=hO i (by omega);omega)⟩,by unfold cZ;omega,?_,rfl,by omega,by omega⟩,fun iy=>by rw [show i=nO by omega]⟩⟩⟩⟩
 ·rw [<-zx,uM,ah (by omega)]
 ·rw [show nB+(i+1)=nB+i+1 by omega,<-zx,uM,ae (by omega),Nat.add_sub_cancel_left]
noncomputable def CR (n:Nat) (A:Nat->Int):eH:={ dq:=[],loops:=[(0,{ ι:=Nat,keep:=[0],boxes:=[],ts:=fun _ i=>[(3,dI (i:Int))],inv:=fun _ i=>1<=i/\ ∀k,k<i->k<n->0<k->A (k - 1)<A k,mu:=fun _ i=>n - i,rd:=fun _ σ=>(eA (σ.get 3)).toNat })],dw:=[] }
theorem GR (n:Nat) (A:Nat->Int) (hn:n<=1000000):dm prog 135 [nums n A] (dB (iT n A)):=by
 refine db dv (CR n A) (V:= .loop Nat (fun a=>(1:Nat)<=a/\ ∀(k:Nat),k<a->k<n->(0:Nat)<k->A (k - 1)<A k) (1:Int).toNat [(1:Int)=(↑(1:Int).toNat:Int),n=n,∀i<n,A i=A i] fun i=> .ite (decide ((i:Int)<(n:Int))) (.da [(0:Int)<=(i:Int)/\(i:Int)<(n:Int),cZ ((i:Int) - 1),(0:Int)<=(i:Int) - 1/\(i:Int) - 1<(n:Int)] (.ite (decide (A (i:Int).toNat<=A ((i:Int) - 1).toNat)) (.done [false=iT n A]) (.da [cZ ((i:Int)+1)] (.done [(i:Int)+1=(↑((i:Int)+1).toNat:Int),n=n,∀i<n,A i=A i,(1:Nat)<=((i:Int)+1).toNat/\ ∀(k:Nat),k<((i:Int)+1).toNat->k<n->(0:Nat)<k->A (k - 1)<A k,n - ((i:Int)+1).toNat<n - i])))) (.done [true=iT n A])) (by kernel_rfl) ?_
 simp only [VT.holds,dt,Sq]
 refine ⟨rfl,⟨af _,fun k hk _ h0=>absurd hk (show ¬k<1 by omega)⟩,fun i ⟨hi,hb⟩=>⟨fun dK=>⟨⟨⟨by omega,by omega⟩,by unfold cZ;omega,by omega,by omega⟩,fun h=> ?_,fun h=>⟨by unfold cZ;omega,rfl,⟨by omega,fun k hk hn h0=> ?_⟩,by omega⟩⟩,fun iy=> ?_⟩⟩
 ·rw [iT,bW,an]
  intro hx
  have:=hx i (by omega) (by omega)
  rw [show i - 1=((i:Int) - 1).toNat by omega] at this
  omega
 ·by_cases e:k=i
  ·rw [show ((i:Int) - 1).toNat=i - 1 by omega] at h
   rw [e];omega
  ·exact hb k (by omega) hn h0
 ·rw [iT,bW,ai]
  exact fun k hk h0=>hb k (by omega) hk h0
noncomputable def Cu (nB:Nat) (B:Nat->Int) (nO:Nat) (O:Nat->Int) (W G L:Int):eH:={ dq:=[(1,[(3,yY)]),(3,[(2,.row fun l=>(aN l,[fun i=> .val (.int .i64 (aX l i))]))]),(7,[(4,yY)]),(9,[(2,Vq),(7,Vq)]),(11,[(2,yY),(7,yY),(13,yY)])],loops:=[(0,{ ι:=Nat,keep:=[1],boxes:=[1],ts:=fun _ i=>[(4,dI (i:Int))],rw:=fun _ _=>[(3,1,nB+nO,[fun i=> .val (.int .i64 (KM nB B O i))])],inv:=fun _ i=>i<=nB+nO/\ ∀j,j<i->xP (KM nB B O j)=false,mu:=fun _ i=>nB+nO - i,rd:=fun _ σ=>(eA (σ.get 4)).toNat })],dw:=[] }
noncomputable abbrev qj (nB:Nat):Bool:= !!ni (nB:Int) (1:Int) (8:Int)
noncomputable abbrev qh (W:Int) (G:Int):Bool:= !if (!ni W (1:Int) (5000:Int))=true then true else !ni G (0:Int) (5000:Int)
namespace w2k
noncomputable section
structure Z where
 nB:Nat
 B:Nat->Int
 nO:Nat
 O:Nat->Int
 W:Int
 G:Int
 L:Int
variable (z:Z) (i0:Nat) (p:Prop) (P:List Prop) (a b c d:Int) (k:Nat) (g h:Bool) (U:VT)
abbrev x0:=z.nB+z.nO
abbrev x1:= !(Lay.ni z.W 1 5000)
abbrev x2:=ri ((!g)=true)
abbrev x3:=Lay.iT z.nB z.B
abbrev x4:=Lay.KM z.nB z.B z.O k
abbrev x5:=if (x1 z)=true then true else (!(Lay.ni z.G 0 5000))
abbrev x6:= !(Lay.ni (z.nB:Int) 1 8)
abbrev x7:=VT.done [a=Lay.fN z.nB z.B z.nO z.O z.W z.G z.L]
abbrev x8:=Int.toNat ((i0:Int)+1)
abbrev x9:=ng 0 (Int.toNat (i0:Int))
abbrev dC:=dm prog 82 [dI a,dI 1,dI b] (dB (Lay.ni c 1 d))
abbrev dA:=VT.da (p::x2 g::P) U
abbrev dz:=VT.ite (if g=true then true else h) (x7 z a) U
abbrev dG:=dC a (10000:Int) b (10000:Int)
abbrev dL:List Prop:=(a=(k:Int))::rf (0:Nat)::rf (x0 z)::rf (x0 z)::p::rf z.nB::(∀i0<z.nB,rf (z.B i0))::rf z.nO::(∀i0<z.nO,rf (z.O i0))::rf z.W::rf z.G::rf z.L::P
abbrev xt:VT:=dA (dC (z.nB:Int) (8:Int) (z.nB:Int) (8:Int)) [x2 (x6 z),x2 (x6 z),x6 z=false->(!(x6 z))=true] (x6 z) (dz z (11:Int) (x6 z) (decide ((z.nO:Int)>(8:Int))) (VT.da [ZU prog 134 [DV.di z.nB [fun i0=>dI (z.B i0)]] z.nB [fun i0=>dI (z.B i0)],z.nB<=z.nB,x0 z*((nat_lit 7)+1)<=140737488355328] (VT.loop Nat (fun i0=>i0<=x0 z/\(∀i1<i0,Lay.xP (x4 z i1)=false)) (Int.toNat 0) (dL z (∀i0<x0 z,(if (decide (i0<z.nB))=true then (z.B i0) else (z.O (i0 - z.nB)))=x4 z i0) [] (0:Int) (Int.toNat 0)) (fun i0=>VT.ite (decide ((i0:Int)<(↑(x0 z):Int))) (VT.da [0<=(i0:Int)/\(i0:Int)<(↑(x0 z):Int),x9 i0<x0 z,dG (x4 z (x9 i0)) (x4 z (x9 i0))] (VT.ite (!(Lay.ni (x4 z (x9 i0)) 1 10000)) (x7 z (2:Int)) (VT.da [cZ ((i0:Int)+1)] (VT.done (dL z (∀i0<x0 z,rf (x4 z i0)) [x8 i0<=x0 z/\(∀i1<x8 i0,Lay.xP (x4 z i1)=false),x0 z - x8 i0<x0 z - i0] ((i0:Int)+1) (x8 i0)))))) (dA (dm prog 135 [DV.di z.nB [fun i0=>dI (z.B i0)]] (dB (x3 z))) [x2 (!(x3 z)),(!(!(x3 z)))=true->dm prog 135 [DV.di z.nO [fun i0=>dI (z.O i0)]] (dB (Lay.iT z.nO z.O)),x2 (!(x3 z)),(!(x3 z))=false->(!(!(x3 z)))=true] (!(x3 z)) (dz z (10:Int) (!(x3 z)) (!(Lay.iT z.nO z.O)) (dA (dC z.W (5000:Int) z.W (5000:Int)) [x2 (x1 z),(!(x1 z))=true->dm prog 82 [dI z.G,dI 0,dI 5000] (dB (Lay.ni z.G 0 5000)),x2 (x1 z),x1 z=false->(!(x1 z))=true,x2 (x5 z),x2 (x5 z),(!(x5 z))=true->dG z.L z.L,x2 (x5 z),x5 z=false->(!(x5 z))=true] (x1 z) (dz z (2:Int) (x5 z) (!(Lay.ni z.L 1 10000)) (x7 z (0:Int))))))))))
end
end w2k
open w2k in
theorem MK (nB:Nat) (B:Nat->Int) (nO:Nat) (O:Nat->Int) (W G L:Int) :dm prog 88 [sys nB B nO O W G L] (dI (fN nB B nO O W G L)):=by
 refine db dv (Cu nB B nO O W G L) (V:=xt ⟨nB,B,nO,O,W,G,L⟩) (by kernel_rfl) ?_
 simp only [xt,x0,x1,x2,x3,x4,x5,x6,x7,x8,x9,dC,dA,dz,dG,dL,Rf,VT.holds,dt,Sq]
 have rg: ∀x lo hi,ni x lo hi=true↔lo<=x/\x<=hi:=fun x lo hi=>by rw [ni,ai]
 have rf: ∀x lo hi,ni x lo hi=false↔ ¬(lo<=x/\x<=hi):=fun x lo hi=>by rw [ni,an]
 refine ⟨ow _ _ _,fun h=> ?_,fun ⟨h,h'⟩=> ?_⟩
 ·rw [rf] at h
  rw [fN,ah (by omega)]
 ·rw [rf] at h
  have hs: ¬(nB<1\/nB>8\/nO>8):=by omega
  refine ⟨⟨UE nB B (by omega),af _,by omega⟩,⟨rfl,fun i hi=>rfl⟩,⟨ao _,fun j hj=>by omega⟩,fun i ⟨hi,hb⟩=>⟨fun dK=> ?_,fun iy=> ?_⟩⟩
  ·simp only [la]
   refine ⟨⟨⟨by omega,by omega⟩,by omega,ow _ _ _⟩,fun h2=> ?_,fun h2=>⟨by unfold cZ;omega,rfl,⟨by omega,fun j hj=> ?_⟩,by omega⟩⟩
   ·rw [fN,ae hs,ah]
    rw [<-Bm]
    exact km.2 ⟨i,by omega,by rw [xP,h2];rfl⟩
   ·by_cases e:j=i
    ·rw [e,xP,h2];rfl
    ·exact hb j (by omega)
  ·have hA: ¬(gS nB B=true\/gS nO O=true):=by
    rw [<-Bm]
    intro hx
    obtain ⟨k,hk,h3⟩:=km.1 hx
    rw [hb k (by omega)] at h3;cases h3
   refine ⟨⟨GR nB B (by omega),fun _=>GR nO O (by omega)⟩,fun h2=> ?_,fun h2=>⟨⟨ow _ _ _,fun _=>ow _ _ _,fun _=>ow _ _ _⟩,fun h3=> ?_,fun h3=> ?_⟩⟩
   ·rw [fN,ae hs,ae hA,ah h2]
   ·have h4: ¬(iT nB B=false\/iT nO O=false):=fun hx=>hx.elim h2.1 fun e=>by rw [h2.2] at e;cases e
    rw [fN,ae hs,ae hA,ae h4,ah]
    rcases h3 with (h3|h3)|h3
    ·exact .inl h3
    ·exact .inr (.inl h3)
    ·exact .inr (.inr h3)
   ·have h4: ¬(iT nB B=false\/iT nO O=false):=fun hx=>hx.elim h2.1 fun e=>by rw [h2.2] at e;cases e
    rw [fN,ae hs,ae hA,ae h4,ae]
    rintro (h5|h5|h5)
    ·exact h3.1 (.inl h5)
    ·exact h3.1 (.inr h5)
    ·rw [h3.2] at h5;cases h5
end Go.Abs.Lay
end
