/- Contracts and what they stand on. -/
import Derived.Test.YtoinjphpfpklmaaGreatDoorL2
set_option linter.unusedVariables false
set_option linter.unusedSimpArgs false
section
set_option maxRecDepth 100000
namespace Go.Abs.Lay
open Go
def pD (A:Nat->Int) (v:Int):Nat->Int
 |0=>0
 |k+1=>pD A v k+(if A k=v then 0 else 1)
theorem zD (A:Nat->Int) (v:Int): ∀k,0<=pD A v k/\pD A v k<=k
 |0=>by simp [pD]
 |k+1=>by
  have:=zD A v k
  simp only [pD]
  split<;>omega
def gd (n:Nat) (A:Nat->Int) (m:Nat) (O:Nat->Int):Bool:=gw (fun k=> !(gw (fun j=>O j==A k) m)) n
def B4 (nB:Nat) (B:Nat->Int) (nO:Nat) (O:Nat->Int) (nC:Nat) (C:Nat->Int) (nD:Nat) (D:Nat->Int):Int:=
 if nC>4000\/nD>4000 then 8 else if gd nC C nB B=true\/gd nD D nO O=true then 6 else if iK nC C=false\/iK nD D=false then 10 else 0
abbrev clg (nC:Nat) (C:Nat->Int) (nD:Nat) (D:Nat->Int):DV:= .agg [nums nC C,nums nD D]
def rMax:fx:= .res fun l=>dI (aX l (aN l - 1))
abbrev gB (l:List DV):Nat:=lenOf (fD 0 (arg l 0))
abbrev UR (l:List DV):Nat->Int:=ic 0 (fD 0 (arg l 0))
abbrev gO (l:List DV):Nat:=lenOf (fD 1 (arg l 0))
abbrev Ww (l:List DV):Nat->Int:=ic 0 (fD 1 (arg l 0))
abbrev gW (l:List DV):Int:=fI 2 (arg l 0)
abbrev gG (l:List DV):Int:=fI 3 (arg l 0)
abbrev gL (l:List DV):Int:=fI 4 (arg l 0)
abbrev hC (l:List DV):Nat:=lenOf (fD 0 (arg l 1))
abbrev hCf (l:List DV):Nat->Int:=ic 0 (fD 0 (arg l 1))
abbrev hD (l:List DV):Nat:=lenOf (fD 1 (arg l 1))
abbrev hDf (l:List DV):Nat->Int:=ic 0 (fD 1 (arg l 1))
def LU:fx:= .res fun l=>dB (gd (aN l) (aX l) (lenOf (arg l 1)) (ic 0 (arg l 1)))
def VO:fx:= .res fun l=>dB (iK (aN l) (aX l))
def rSys:fx:= .res fun l=>dI (fm (gB l) (UR l) (gO l) (Ww l) (gW l) (gG l) (gL l))
def rCk:fx:= .res fun l=>dI (B4 (gB l) (UR l) (gO l) (Ww l) (hC l) (hCf l) (hD l) (hDf l))
def qP (nB:Nat) (B:Nat->Int) (nO:Nat) (O:Nat->Int) (W G L:Int) (nC:Nat) (C:Nat->Int) (nD:Nat) (D:Nat->Int):Int:=
 if fm nB B nO O W G L=0 then B4 nB B nO O nC C nD D else fm nB B nO O W G L
def rBoth:fx:= .res fun l=>dI (qP (gB l) (UR l) (gO l) (Ww l) (gW l) (gG l) (gL l) (hC l) (hCf l) (hD l) (hDf l))
theorem k7 {nB:Nat} {B:Nat->Int} {nO:Nat} {O:Nat->Int} {W G L:Int} (h:fm nB B nO O W G L=0):1<=nB/\nB<=8/\nO<=8/\(∀k,k<nB->1<=B k/\B k<=10000)/\(∀k,k<nO->1<=O k/\O k<=10000)/\iS nB B=true/\iS nO O=true:=by
 unfold fm at h
 split at h
 ·cases h
 ·split at h
  ·cases h
  ·rename_i h1 h2
   split at h
   ·cases h
   ·rename_i h3
    have hb: ∀{n:Nat} {A:Nat->Int},gR n A≠true-> ∀k,k<n->1<=A k/\A k<=10000:=by
     intro n A hx k hk
     have:=lA.1 (Bool.eq_false_iff.2 hx) k hk
     rw [xT,bj,nI,ah] at this
     exact this
    exact ⟨by omega,by omega,by omega,hb fun hx=>h2 (.inl hx),hb fun hx=>h2 (.inr hx),by cases hx:iS nB B with|true=>rfl|false=>exact absurd (.inl hx) h3,by cases hx:iS nO O with|true=>rfl|false=>exact absurd (.inr hx) h3⟩
theorem xn {n:Nat} {A:Nat->Int} {m:Nat} {O:Nat->Int} (h:gd n A m O=false) {k:Nat} (hk:k<n): ∃j,j<m/\O j=A k:=by
 have:=lA.1 h k hk
 rw [bj,kA] at this
 obtain ⟨j,hj,e⟩:=this
 exact ⟨j,hj,by simpa using e⟩
theorem HJ (a b:Int):Int.gcd b (a%b)=Int.gcd a b:=by
 rw [Int.gcd_comm a b,Int.emod_def,Int.gcd_sub_mul_left_right]
noncomputable def Dj (nB:Nat) (B:Nat->Int) (nO:Nat) (O:Nat->Int) (W G L:Int) (nC:Nat) (C:Nat->Int) (nD:Nat) (D:Nat->Int):eA:={ dz:=[(5,[(3,rMax)])],loops:=[(0,{ ι:=Nat,keep:=[2,4,5,16,17],boxes:=[2,4],ts:=fun _ i=>[(18,dI (i:Int))],bx:=fun _ i=>[(5,[dI ((nD:Int)+pD C (B (nB - 1)) i),dI (nC:Int)])],inv:=fun _ i=>i<=nC,mu:=fun _ i=>nC - i,rd:=fun _ σ=>(ez (σ.get 18)).toNat })],dK:=[] }
namespace w26
noncomputable section
structure Z where
 nB:Nat
 B:Nat->Int
 nO:Nat
 O:Nat->Int
 W:Int
 G:Int
 L:Int
 nC:Nat
 C:Nat->Int
 nD:Nat
 D:Nat->Int
variable (z:Z) (i0:Nat) (P:List Prop) (a:Int) (k:Nat)
abbrev x0:=Int.toNat ((i0:Int)+1)
abbrev x1:=(z.nD:Int)+Lay.pD z.C (z.B (z.nB - 1)) k
abbrev x2:List Prop:=(∀i0<z.nC,rf (z.C i0))::rf (z.nC:Int)::(a=x1 z k)::rf (z.nC:Int)::rf z.nB::(∀i0<z.nB,rf (z.B i0))::rf z.nO::(∀i0<z.nO,rf (z.O i0))::rf z.W::rf z.G::rf z.L::rf (0:Int)::P
abbrev x3:=VT.dk [dh ((i0:Int)+1)] (VT.done (((i0:Int)+1=(↑(x0 i0):Int))::rf z.nC::x2 z [rf (0:Int),x0 i0<=z.nC,z.nC - x0 i0<z.nC - i0] a (x0 i0)))
abbrev xt:VT:=VT.loop Nat (fun i0=>i0<=z.nC) (Int.toNat 0) ((0=(↑(Int.toNat 0):Int))::rf z.nC::x2 z [rf (0:Int)] (z.nD:Int) (Int.toNat 0)) (fun i0=>VT.ite (decide ((i0:Int)<(z.nC:Int))) (VT.dk [0<=(i0:Int)/\(i0:Int)<(z.nC:Int)] (VT.dk [dv prog 154 [DV.dt z.nB [fun i0=>dI (z.B i0)]] (dI (z.B (z.nB - 1)))] (VT.ite ((z.C (Int.toNat (i0:Int))) !=(z.B (z.nB - 1))) (VT.dk [dh (x1 z i0+1)] (x3 z i0 (x1 z i0+1))) (x3 z i0 (x1 z i0))))) (VT.done [x1 z i0=x1 z z.nC,rf (z.nC:Int)]))
end
end w26
open w26 in
theorem HZ (nB:Nat) (B:Nat->Int) (nO:Nat) (O:Nat->Int) (W G L:Int) (nC:Nat) (C:Nat->Int) (nD:Nat) (D:Nat->Int) (h1:1<=nB) (h2:nB<=1000) (hr:iS nB B=true) (hc:nC<=1000000) (hd:nD<=1000000):dv prog 117 [sys nB B nO O W G L,clg nC C nD D] (dP ((nD:Int)+pD C (B (nB - 1)) nC) nC):=by
 refine dm dJ (Dj nB B nO O W G L nC C nD D) (V:=xt ⟨nB,B,nO,O,W,G,L,nC,C,nD,D⟩) (by kernel_rfl) ?_
 simp only [xt,x0,x1,x2,x3,Rf,VT.holds,dC,Sq]
 refine ⟨⟨rfl,by simp [pD]⟩,aq _,fun i hi=>⟨fun dR=>⟨by omega,max_c nB B h1 (by omega) hr,fun ji=> ?_,fun he=> ?_⟩,fun iG=> ?_⟩⟩
 ·have:=zD C (B (nB - 1)) i
  exact ⟨by unfold dh;omega,by unfold dh;omega,rfl,by simp only [pD];rw [ab ji];omega,by omega,by omega⟩
 ·have:=zD C (B (nB - 1)) i
  exact ⟨by unfold dh;omega,rfl,by simp only [pD];rw [ag he];omega,by omega,by omega⟩
 ·rw [show i=nC by omega]
noncomputable def OM (nB:Nat) (B:Nat->Int) (nO:Nat) (O:Nat->Int) (W G L:Int) (nC:Nat) (C:Nat->Int) (nD:Nat) (D:Nat->Int):eA:={ dz:=[(4,[(5,LU),(12,LU)]),(6,[(2,VO),(7,VO)])],loops:=[],dK:=[] }
noncomputable abbrev qa (nC:Nat):Bool:=decide ((nC:Int)>(4000:Int))
theorem ck_c (nB:Nat) (B:Nat->Int) (nO:Nat) (O:Nat->Int) (W G L:Int) (nC:Nat) (C:Nat->Int) (nD:Nat) (D:Nat->Int) (hs:fm nB B nO O W G L=0) (hc:nC<=1000000) (hd:nD<=1000000):dv prog 144 [sys nB B nO O W G L,clg nC C nD D] (dI (B4 nB B nO O nC C nD D)):=by
 refine dm dJ (OM nB B nO O W G L nC C nD D) (V:= .dk [ri ((!(qa nC))=true),ri ((!(qa nC))=true),ri ((!(qa nC))=true),(qa nC)=false->(!(qa nC))=true] (.ite (if (qa nC)=true then true else decide ((nD:Int)>4000)) (.done [(8:Int)=B4 nB B nO O nC C nD D]) (.dk [dv prog 169 [.dt nC [fun i=>(dI (C i))],.dt nB [fun i=>(dI (B i))]] ((dB (gd nC C nB B))),ri ((!gd nC C nB B)=true),ri ((!gd nC C nB B)=true),ri ((!gd nC C nB B)=true),ri ((!gd nC C nB B)=true),ri ((!gd nC C nB B)=true),(!gd nC C nB B)=true->dv prog 169 [.dt nD [fun i=>(dI (D i))],.dt nO [fun i=>(dI (O i))]] ((dB (gd nD D nO O))),gd nC C nB B=false->(!gd nC C nB B)=true] (.ite (if gd nC C nB B=true then true else gd nD D nO O) (.done [(6:Int)=B4 nB B nO O nC C nD D]) (.dk [dv prog 172 [.dt nC [fun i=>(dI (C i))]] ((dB (iK nC C))),ri ((!!iK nC C)=true),ri ((!!iK nC C)=true),(!!iK nC C)=true->dv prog 172 [.dt nD [fun i=>(dI (D i))]] ((dB (iK nD D))),ri ((!!iK nC C)=true),(!iK nC C)=false->(!!iK nC C)=true] (.ite (if (!iK nC C)=true then true else !iK nD D) (.done [(10:Int)=B4 nB B nO O nC C nD D]) (.done [(0:Int)=B4 nB B nO O nC C nD D]))))))) (by kernel_rfl) ?_
 simp only [qa,VT.holds,dC,Sq]
 obtain ⟨s1,s2,s3,sB,sO,_,_⟩:=k7 hs
 have bd: ∀{n m:Nat} {A V:Nat->Int},gd n A m V=false->(∀k,k<m->1<=V k/\V k<=10000)-> ∀k,k<n->1<=A k/\A k<=10000:=fun h hV k hk=>by
  obtain ⟨j,hj,e⟩:=xn h hk
  rw [<-e];exact hV j hj
 refine ⟨fun h=> ?_,fun h=>⟨⟨G8 nC C nB B hc (by omega),fun _=>G8 nD D nO O hd (by omega)⟩,fun h2=> ?_,fun h2=>⟨⟨Eb nC C hc (bd h2.1 sB),fun _=>Eb nD D hd (bd h2.2 sO)⟩,fun h3=> ?_,fun h3=> ?_⟩⟩⟩
 ·rw [B4,ag (by omega)]
 ·rw [B4,ab (by omega),ag h2]
 ·rw [B4,ab (by omega),ab (fun hx=>by rw [h2.1,h2.2] at hx;simp at hx),ag h3]
 ·rw [B4,ab (by omega),ab (fun hx=>by rw [h2.1,h2.2] at hx;simp at hx),ab (fun hx=>hx.elim (fun e=>h3.1 e) fun e=>by rw [h3.2] at e;cases e)]
noncomputable def Jj (nB:Nat) (B:Nat->Int) (nO:Nat) (O:Nat->Int) (W G L:Int) (nC:Nat) (C:Nat->Int) (nD:Nat) (D:Nat->Int):eA:={ dz:=[(1,[(1,rSys)]),(4,[(2,rCk)])],loops:=[],dK:=[] }
theorem aad (nB:Nat) (B:Nat->Int) (nO:Nat) (O:Nat->Int) (W G L:Int) (nC:Nat) (C:Nat->Int) (nD:Nat) (D:Nat->Int) (hc:nC<=1000000) (hd:nD<=1000000):dv prog 120 [sys nB B nO O W G L,clg nC C nD D] (dI (qP nB B nO O W G L nC C nD D)):=by
 refine dm dJ (Jj nB B nO O W G L nC C nD D) (V:= .dk [dv prog 115 [.agg [.dt nB [fun i=>(dI (B i))],.dt nO [fun i=>(dI (O i))],(dI W),(dI G),(dI L)]] ((dI (fm nB B nO O W G L)))] (.ite (fm nB B nO O W G L !=0) (.done [fm nB B nO O W G L=qP nB B nO O W G L nC C nD D]) (.dk [dv prog 144 [.agg [.dt nB [fun i=>(dI (B i))],.dt nO [fun i=>(dI (O i))],(dI W),(dI G),(dI L)],.agg [.dt nC [fun i=>(dI (C i))],.dt nD [fun i=>(dI (D i))]]] ((dI (B4 nB B nO O nC C nD D)))] (.done [B4 nB B nO O nC C nD D=qP nB B nO O W G L nC C nD D])))) (by kernel_rfl) ?_
 simp only [VT.holds,dC,Sq]
 refine ⟨GJ nB B nO O W G L,fun h=>by rw [qP,ab h],fun h=>⟨ck_c nB B nO O W G L nC C nD D h hc hd,by rw [qP,ag h]⟩⟩
noncomputable def CW (nB:Nat) (B:Nat->Int) (nO:Nat) (O:Nat->Int) (W G L:Int) (nC:Nat) (C:Nat->Int) (nD:Nat) (D:Nat->Int):eA:={ dz:=[(1,[(2,rBoth)]),(4,[(2,.res fun l=>dP ((hD l:Int)+pD (hCf l) (UR l (gB l - 1)) (hC l)) (hC l))])],loops:=[],dK:=[] }
namespace w29
noncomputable section
structure Z where
 nB:Nat
 B:Nat->Int
 nO:Nat
 O:Nat->Int
 W:Int
 G:Int
 L:Int
 nC:Nat
 C:Nat->Int
 nD:Nat
 D:Nat->Int
variable (z:Z) (a b:Int) (k:Nat) (A:DV)
abbrev x0:=Lay.qP z.nB z.B z.nO z.O z.W z.G z.L z.nC z.C z.nD z.D
abbrev x1:=a=(if (x0 z)=(0:Int) then b else (0:Int))
abbrev x2:=(z.nD:Int)+Lay.pD z.C (z.B (z.nB - 1)) z.nC
abbrev x3:=dv prog k [DV.agg [DV.dt z.nB [fun i0=>dI (z.B i0)],DV.dt z.nO [fun i0=>dI (z.O i0)],dI z.W,dI z.G,dI z.L],DV.agg [DV.dt z.nC [fun i0=>dI (z.C i0)],DV.dt z.nD [fun i0=>dI (z.D i0)]]] A
abbrev xt:VT:=VT.dk [x3 z (120:Nat) (dI (x0 z))] (VT.ite (x0 z !=0) (VT.done [x1 z (0:Int) (x2 z),x1 z (0:Int) (z.nC:Int),rf (x0 z)]) (VT.dk [x3 z (117:Nat) (DV.val (Value.agg (Array.mk [Value.int IntKind.i64 (x2 z),Value.int IntKind.i64 (z.nC:Int)])))] (VT.done [x1 z (x2 z) (x2 z),x1 z (z.nC:Int) (z.nC:Int),0=x0 z])))
end
end w29
open w29 in
theorem Of (nB:Nat) (B:Nat->Int) (nO:Nat) (O:Nat->Int) (W G L:Int) (nC:Nat) (C:Nat->Int) (nD:Nat) (D:Nat->Int) (hc:nC<=1000000) (hd:nD<=1000000):dv prog 68 [sys nB B nO O W G L,clg nC C nD D] (.fC [dP (if qP nB B nO O W G L nC C nD D=0 then (nD:Int)+pD C (B (nB - 1)) nC else 0) (if qP nB B nO O W G L nC C nD D=0 then nC else 0),dI (qP nB B nO O W G L nC C nD D)]):=by
 refine dm dJ (CW nB B nO O W G L nC C nD D) (V:=xt ⟨nB,B,nO,O,W,G,L,nC,C,nD,D⟩) (by kernel_rfl) ?_
 simp only [xt,x0,x1,x2,x3,Rf,VT.holds,dC,Sq]
 refine ⟨aad nB B nO O W G L nC C nD D hc hd,fun h=>by rw [ab h,ab h];exact ⟨rfl,rfl⟩,fun h=> ?_⟩
 have hs:fm nB B nO O W G L=0:=by
  unfold qP at h
  split at h
  ·assumption
  ·exact h
 obtain ⟨s1,s2,s3,sB,sO,sr,_⟩:=k7 hs
 rw [ag h,ag h]
 exact ⟨HZ nB B nO O W G L nC C nD D s1 (by omega) sr hc hd,rfl,rfl,h.symm⟩
noncomputable def Le (a b:Int):eA:={ dz:=[(2,[(3,.pos)])],loops:=[(0,{ ι:=Int×Int,keep:=[],boxes:=[],ts:=fun _ i=>[(0,dI i.1),(1,dI i.2)],inv:=fun _ i=>0<=i.1/\0<=i.2/\Int.gcd i.1 i.2=Int.gcd a b,mu:=fun _ i=>i.2.toNat,rd:=fun _ σ=>(ez (σ.get 0),ez (σ.get 1)) })],dK:=[] }
theorem gcd_c (a b:Int) (h1:0<=a) (h2:0<=b):dv prog 153 [dI a,dI b] (dI (Int.gcd a b)):=by
 refine dm dJ (Le a b) (V:= .loop (Int×Int) (fun (Vw:Int×Int)=>(0:Int)<=Vw.fst/\(0:Int)<=Vw.snd/\Int.gcd Vw.fst Vw.snd=Int.gcd a b) (a,b) [a=a,b=b] fun (i:Int×Int)=> .ite (i.snd !=0) (.dk [(0:Int)<=i.fst/\(0:Int)<i.snd] (.done [i.snd=i.snd,i.fst%i.snd=i.fst%i.snd,(0:Int)<=i.snd/\(0:Int)<=i.fst%i.snd/\Int.gcd i.snd (i.fst%i.snd)=Int.gcd a b,Int.toNat (i.fst%i.snd)<Int.toNat i.snd])) (.done [i.fst=(↑(Int.gcd a b):Int)])) (by kernel_rfl) ?_
 simp only [VT.holds,dC,Sq]
 refine ⟨⟨h1,h2⟩,fun i ⟨h1,h2,h3⟩=>⟨fun ji=>⟨⟨h1,by omega⟩,⟨h2,bm _ ji,?_⟩,?_⟩,fun he=> ?_⟩⟩
 ·rw [<-h3,HJ]
 ·have:=br i.1 (show 0<i.2 by omega)
  have:=bm i.1 ji
  omega
 ·rw [<-h3,he,Int.gcd_zero_right]
  omega
end Go.Abs.Lay
end
section
namespace Go.Abs.Lay
def n4 (m:Nat) (W:Nat->Nat) (k:Nat):Nat:=
 if h:1<=m/\m<=k then min (W k+n4 m W (k - m)) 1000001 else W k
 termination_by k
 decreasing_by omega
theorem P0 {m:Nat} {W:Nat->Nat} {k:Nat} (h1:1<=m) (h2:m<=k):n4 m W k=min (W k+n4 m W (k - m)) 1000001:=by
 rw [n4,dif_pos ⟨h1,h2⟩]
theorem PZ {m:Nat} {W:Nat->Nat} {k:Nat} (h: ¬(1<=m/\m<=k)):n4 m W k=W k:=by
 rw [n4,dif_neg h]
def Dr (l:List Nat):Nat->Nat:=l.foldl (fun W m=>n4 m W) (fun k=>if k=0 then 1 else 0)
theorem JL (l:List Nat) (m:Nat):Dr (l++[m])=n4 m (Dr l):=by
 simp [Dr]
theorem GL {m:Nat} {W:Nat->Nat} (h: ∀k,W k<=1000001) (k:Nat):n4 m W k<=1000001:=by
 rw [n4]
 split
 ·omega
 ·exact h k
theorem Oa (l:List Nat) (W:Nat->Nat) (h: ∀k,W k<=1000001): ∀k,(l.foldl (fun W m=>n4 m W) W) k<=1000001:=by
 induction l generalizing W with
 |nil=>exact h
 |cons m l ih=>exact ih _ fun k=>GL h k
theorem PM (l:List Nat) (k:Nat):Dr l k<=1000001:=Oa l _ (fun k=>by split<;>omega) k
def xI (l:List Int):Nat:=l.foldl (fun g x=>Int.gcd g x) 0
theorem D5 (l:List Int) (x:Int):xI (l++[x])=Int.gcd (xI l) x:=by simp [xI]
theorem N7 {l l':List Int} (h:l.Perm l'):xI l=xI l':=by
 refine h.foldl_eq' (fun x _ y _ z=> ?_) _
 simp only [Int.gcd,Int.natAbs_natCast,Nat.gcd_assoc,Nat.gcd_comm x.natAbs]
theorem RE (l:List Int) (g:Nat):((l.foldl (fun (g:Nat) x=>Int.gcd g x) g:Nat)∣g)/\ ∀x∈l,((l.foldl (fun (g:Nat) x=>Int.gcd g x) g:Nat):Int)∣x:=by
 induction l generalizing g with
 |nil=>exact ⟨Nat.dvd_refl _,fun x h=>by cases h⟩
 |cons y l ih=>
  obtain ⟨h1,h2⟩:=ih (Int.gcd g y)
  refine ⟨Nat.dvd_trans h1 ?_,fun x hx=> ?_⟩
  ·have:=Int.gcd_dvd_left (a:=(g:Int)) (b:=y)
   exact Int.natCast_dvd_natCast.1 this
  ·rcases List.mem_cons.1 hx with rfl|hx
   ·exact Int.dvd_trans (Int.natCast_dvd_natCast.2 h1) (Int.gcd_dvd_right (g:Int) _)
   ·exact h2 x hx
theorem HK {l:List Int} {x:Int} (h:x∈l):(xI l:Int)∣x:=(RE l 0).2 x h
theorem Mx {l:List Int} {x:Int} (h:x∈l) (hx:1<=x):1<=xI l/\(xI l:Int)<=x:=by
 have hd:=HK h
 refine ⟨?_,Int.le_of_dvd (by omega) hd⟩
 rcases Nat.eq_zero_or_pos (xI l) with e|e
 ·rw [e] at hd
  have:=Int.zero_dvd.1 hd
  omega
 ·exact e
def ec (u:Nat) (x:Int):Nat:=(x/(u:Int)).toNat
theorem GD {l:List Int} {x:Int} (h:x∈l) (hx:1<=x):1<=ec (xI l) x:=by
 obtain ⟨h1,h2⟩:=Mx h hx
 have:=Int.ediv_le_ediv (c:=(xI l:Int)) (by omega) h2
 rw [Int.ediv_self (by omega)] at this
 unfold ec
 omega
def kC (a b:Int):Int:=if b<0 then a else if a<0\/b<a then b else a
theorem NC (z a b:Int):kC (kC z a) b=kC (kC z b) a:=by unfold kC;grind
def fY (T:Nat->Int) (k:Nat) (p:Nat×Int):Int:=if 1<=p.1/\p.1<=k/\0<=T (k - p.1) then T (k - p.1)+p.2 else -1
def kV (l:List (Nat×Int)) (T:Nat->Int) (k:Nat):Int:=l.foldl (fun b p=>kC b (fY T k p)) (-1)
theorem KR (l:List (Nat×Int)) (p:Nat×Int) (T:Nat->Int) (k:Nat):kV (l++[p]) T k=kC (kV l T k) (fY T k p):=by simp [kV]
theorem KT {l l':List (Nat×Int)} (h:l.Perm l') (T:Nat->Int) (k:Nat):kV l T k=kV l' T k:=
 h.foldl_eq' (fun x _ y _ z=>NC _ _ _) _
theorem Ii {T T':Nat->Int} {k:Nat} (h: ∀j,j<k->T j=T' j) (p:Nat×Int):fY T k p=fY T' k p:=by
 unfold fY
 by_cases h1:1<=p.1/\p.1<=k
 ·rw [h (k - p.1) (by omega)]
 ·rw [if_neg (fun x=>h1 ⟨x.1,x.2.1⟩),if_neg (fun x=>h1 ⟨x.1,x.2.1⟩)]
theorem Iq {T T':Nat->Int} {k:Nat} (h: ∀j,j<k->T j=T' j) (l:List (Nat×Int)):kV l T k=kV l T' k:=by
 unfold kV
 have e:(fun b p=>kC b (fY T k p))=fun b p=>kC b (fY T' k p):=by
  funext b p;rw [Ii h]
 rw [e]
def Cc (l:List (Nat×Int)):Nat->Nat->Int
 |0=>fun _=>0
 |n+1=>fun k=>if k<n then Cc l n k else if k=0 then 0 else kV l (Cc l n) k
theorem EC (l:List (Nat×Int)) (n k:Nat):Cc l (n+1) k=if k<n then Cc l n k else if k=0 then 0 else kV l (Cc l n) k:=rfl
def j9 (l:List (Nat×Int)) (k:Nat):Int:=Cc l (k+1) k
theorem Lv (l:List (Nat×Int)): ∀(n k:Nat),k<n->Cc l n k=j9 l k
 |0,k,h=>by omega
 |n+1,k,h=>by
  by_cases e:k<n
  ·rw [EC,if_pos e,Lv l n k e]
  ·rw [show k=n by omega,j9]
theorem xg (l:List (Nat×Int)):j9 l 0=0:=by simp [j9,Cc]
theorem EA (l:List (Nat×Int)) {k:Nat} (h:0<k):j9 l k=kV l (j9 l) k:=by
 rw [j9,EC,if_neg (by omega),if_neg (by omega)]
 exact Iq (fun j hj=>Lv l k j hj) l
theorem Nf {l l':List (Nat×Int)} (h:l.Perm l') (n:Nat):Cc l n=Cc l' n:=by
 induction n with
 |zero=>rfl
 |succ n ih=>funext k;rw [EC,EC,ih,KT h]
theorem Nd {l l':List (Nat×Int)} (h:l.Perm l') (k:Nat):j9 l k=j9 l' k:=by rw [j9,Nf h,j9]
theorem RJ (l:List (Nat×Int)) (T:Nat->Int) (k:Nat) (b:Int) (hb: -1<=b) (hc: ∀p∈l,0<=p.2): -1<=l.foldl (fun b p=>kC b (fY T k p)) b:=by
 induction l generalizing b with
 |nil=>exact hb
 |cons p l ih=>
  refine ih _ ?_ fun q hq=>hc q (List.mem_cons_of_mem _ hq)
  show -1<=kC b (fY T k p)
  unfold kC
  split
  ·exact hb
  ·split
   ·omega
   ·exact hb
theorem RI (l:List (Nat×Int)) (T:Nat->Int) (k:Nat) (b B:Int) (hb:b<=B) (hc: ∀p∈l,fY T k p<=B):l.foldl (fun b p=>kC b (fY T k p)) b<=B:=by
 induction l generalizing b with
 |nil=>exact hb
 |cons p l ih=>
  refine ih _ ?_ fun q hq=>hc q (List.mem_cons_of_mem _ hq)
  have:=hc p (List.mem_cons_self ..)
  show kC b (fY T k p)<=B
  unfold kC
  split
  ·exact hb
  ·split<;>omega
theorem EB {l:List (Nat×Int)} (hc: ∀p∈l,0<=p.2/\p.2<=10001) (k:Nat): -1<=j9 l k/\j9 l k<=10001*k:=by
 induction k using Nat.strongRecOn with
 |ind k ih=>
  by_cases h:k=0
  ·rw [h,xg];omega
  ·rw [EA l (by omega)]
   refine ⟨RJ l _ k _ (by omega) fun p hp=>(hc p hp).1,RI l _ k _ _ (by omega) fun p hp=> ?_⟩
   unfold fY
   split
   ·have:=(ih (k - p.1) (by omega)).2
    have:=hc p hp
    omega
   ·omega
def eI (nB:Nat) (B:Nat->Int) (nO:Nat) (O:Nat->Int) (i:Nat):Int:=if i<nB then B (nB - 1 - i) else O (nO - 1 - (i - nB))
def ew (nB:Nat) (i:Nat):Int:=if i<nB then (if i=0 then 1 else 10001) else 10000
def vh (nB:Nat) (B:Nat->Int) (O:Nat->Int) (i:Nat):Int:=if i<nB then B i else O (i - nB)
def rA (nB:Nat) (i:Nat):Int:=if i<nB then (if i=nB - 1 then 1 else 10001) else 10000
def sig (nB nO i:Nat):Nat:=if i<nB then nB - 1 - i else nB+(nO - 1 - (i - nB))
theorem DH (n:Nat):(List.range n).map (fun i=>n - 1 - i)=(List.range n).reverse:=by
 apply List.ext_getElem
 ·simp
 ·intro i h1 h2
  simp
theorem P4 (nB nO:Nat):((List.range (nB+nO)).map (sig nB nO)).Perm (List.range (nB+nO)):=by
 have e:(List.range (nB+nO)).map (sig nB nO)=(List.range nB).reverse++((List.range nO).reverse.map (nB+·)):=by
  rw [List.range_add,List.map_append,List.map_map,<-DH,<-DH,List.map_map]
  congr 1
  ·apply List.map_congr_left
   intro i hi
   rw [List.mem_range] at hi
   simp [sig,hi]
  ·apply List.map_congr_left
   intro i hi
   simp only [sig,Function.comp]
   rw [if_neg (by omega)]
   omega
 rw [e,List.range_add]
 exact (List.reverse_perm _).append ((List.reverse_perm _).map _)
theorem TN {nB nO:Nat} (B O:Nat->Int) {i:Nat} (h:i<nB+nO):eI nB B nO O i=vh nB B O (sig nB nO i)/\ew nB i=rA nB (sig nB nO i):=by
 unfold eI vh ew rA
 by_cases h1:i<nB
 ·have e:sig nB nO i=nB - 1 - i:=by rw [sig,if_pos h1]
  rw [e,if_pos h1,if_pos h1,if_pos (show nB - 1 - i<nB by omega),if_pos (show nB - 1 - i<nB by omega)]
  refine ⟨rfl,?_⟩
  by_cases h2:i=0
  ·rw [if_pos h2,if_pos (show nB - 1 - i=nB - 1 by omega)]
  ·rw [if_neg h2,if_neg (show ¬nB - 1 - i=nB - 1 by omega)]
 ·have e:sig nB nO i=nB+(nO - 1 - (i - nB)):=by rw [sig,if_neg h1]
  have h3: ¬nB+(nO - 1 - (i - nB))<nB:=by omega
  rw [e,if_neg h1,if_neg h1,if_neg h3,if_neg h3]
  exact ⟨by congr 1;omega,rfl⟩
theorem Aw {α:Type} (f:Int->Int->α) (nB:Nat) (B:Nat->Int) (nO:Nat) (O:Nat->Int):
 ((List.range (nB+nO)).map fun i=>f (eI nB B nO O i) (ew nB i)).Perm ((List.range (nB+nO)).map fun i=>f (vh nB B O i) (rA nB i)):=by
 have e:((List.range (nB+nO)).map fun i=>f (eI nB B nO O i) (ew nB i))=((List.range (nB+nO)).map (sig nB nO)).map fun i=>f (vh nB B O i) (rA nB i):=by
  rw [List.map_map]
  apply List.map_congr_left
  intro i hi
  obtain ⟨h1,h2⟩:=TN (nO:=nO) B O (List.mem_range.1 hi)
  simp [h1,h2]
 rw [e]
 exact (P4 nB nO).map _
theorem la {α:Type} (f:Nat->α) (n:Nat):(List.range (n+1)).map f=(List.range n).map f++[f n]:=by
 rw [List.range_succ,List.map_append];rfl
def eO (nB:Nat) (B:Nat->Int) (nO:Nat) (O:Nat->Int) (i:Nat):Nat:=xI ((List.range i).map (eI nB B nO O))
def mV (nB:Nat) (B:Nat->Int) (O:Nat->Int) (i:Nat):Nat:=xI ((List.range i).map (vh nB B O))
theorem unit_eq (nB:Nat) (B:Nat->Int) (nO:Nat) (O:Nat->Int):eO nB B nO O (nB+nO)=mV nB B O (nB+nO):=
 N7 (Aw (fun x _=>x) nB B nO O)
def waysP (u:Nat) (nB:Nat) (B:Nat->Int) (nO:Nat) (O:Nat->Int) (i:Nat):Nat->Nat:=Dr ((List.range i).map fun i=>ec u (eI nB B nO O i))
def QD (u:Nat) (nB:Nat) (B:Nat->Int) (nO:Nat) (O:Nat->Int) (i:Nat):List (Nat×Int):=(List.range i).map fun i=>(ec u (eI nB B nO O i),ew nB i)
def V5 (u:Nat) (nB:Nat) (B:Nat->Int) (O:Nat->Int) (i:Nat):List (Nat×Int):=(List.range i).map fun i=>(ec u (vh nB B O i),rA nB i)
theorem NH (u:Nat) (nB:Nat) (B:Nat->Int) (nO:Nat) (O:Nat->Int):(QD u nB B nO O (nB+nO)).Perm (V5 u nB B O (nB+nO)):=
 Aw (fun x c=>(ec u x,c)) nB B nO O
theorem GH (u:Nat) (nB:Nat) (B:Nat->Int) (nO:Nat) (O:Nat->Int) (k:Nat):j9 (QD u nB B nO O (nB+nO)) k=j9 (V5 u nB B O (nB+nO)) k:=
 Nd (NH u nB B nO O) k
theorem od {nB:Nat} {B:Nat->Int} {nO:Nat} {O:Nat->Int} (hB: ∀k,k<nB->1<=B k/\B k<=10000) (hO: ∀k,k<nO->1<=O k/\O k<=10000) {i:Nat} (h:i<nB+nO):1<=eI nB B nO O i/\eI nB B nO O i<=10000:=by
 unfold eI
 split
 ·exact hB _ (by omega)
 ·exact hO _ (by omega)
theorem AD (nB i:Nat):0<=ew nB i/\ew nB i<=10001:=by
 unfold ew;split
 ·split<;>omega
 ·omega
theorem oG {α:Type} {f:Nat->α} {n i:Nat} (h:i<n):f i∈(List.range n).map f:=List.mem_map.2 ⟨i,List.mem_range.2 h,rfl⟩
theorem oT {nB:Nat} {B:Nat->Int} {nO:Nat} {O:Nat->Int} (h1:1<=nB) (hB: ∀k,k<nB->1<=B k/\B k<=10000) (hO: ∀k,k<nO->1<=O k/\O k<=10000):1<=eO nB B nO O (nB+nO)/\eO nB B nO O (nB+nO)<=10000:=by
 have b:=od hB hO (show 0<nB+nO by omega)
 have:=Mx (oG (f:=eI nB B nO O) (show 0<nB+nO by omega)) b.1
 unfold eO
 omega
theorem pM {nB:Nat} {B:Nat->Int} {nO:Nat} {O:Nat->Int} (hB: ∀k,k<nB->1<=B k/\B k<=10000) (hO: ∀k,k<nO->1<=O k/\O k<=10000) {i:Nat} (h:i<nB+nO):1<=ec (eO nB B nO O (nB+nO)) (eI nB B nO O i):=
 GD (oG h) (od hB hO h).1
end Go.Abs.Lay
end
section
set_option maxRecDepth 100000
namespace Go.Abs.Lay
open Go
abbrev AB (X C:Nat->Int) (b:Nat->Bool):List (Nat->DV):=[fun i=> .val (.int .i64 (X i)),fun i=> .val (.int .i64 (C i)),fun i=> .val (.bool (b i))]
def YI:fx:= .res fun l=>dI (Int.gcd (aI l 0) (aI l 1))
abbrev Vg (u:Int) (n:Nat) (X C:Nat->Int) (b:Nat->Bool):DV:= .agg [dI u,.dt n (AB X C b)]
abbrev catS (nB:Nat) (B:Nat->Int) (nO:Nat) (O:Nat->Int):DV:=Vg (eO nB B nO O (nB+nO)) (nB+nO) (eI nB B nO O) (ew nB) (fun i=>decide (nB<=i))
theorem tP {n i:Nat} (h:i<n):(List.range n).getD i 0=i:=by simp [h]
theorem sw {l:List Nat} {x i:Nat} (h:i<(l++[x]).length):(l++[x]).getD i 0=if i<l.length then l.getD i 0 else x:=by
 simp only [aS,aH,b7] at h
 split
 ·rename_i h1
  simp [aW h1]
 ·rw [show i=l.length by omega];simp
theorem JO (nB:Nat) (B:Nat->Int) (nO:Nat) (O:Nat->Int) (i:Nat):Int.gcd (eI nB B nO O i) (eO nB B nO O i)=eO nB B nO O (i+1):=by
 rw [eO,eO,la,D5,Int.gcd_comm]
theorem iY (i:Nat):ml 0 i=i:=by simp [ml]
def VQ:fx:= .res fun l=> .jt 177 [.dV [nums (aN l) (aX l)]]
noncomputable def Jh (n:Nat) (A:Nat->Int):eA:={ dz:=[],loops:=[],dK:=[] }
theorem Sr (n:Nat) (A:Nat->Int) :dv prog 152 [nums n A] (.jt 177 [.dV [nums n A]]):=by
 refine dm dJ (Jh n A) (V:= .done [n=n,∀i<n,A i=A i]) (by kernel_rfl) ?_
 simp only [VT.holds,dC,Sq]
noncomputable def Jk (nB:Nat) (B:Nat->Int) (nO:Nat) (O:Nat->Int) (W G L:Int):eA:={ dz:=[(2,[(2,VQ)]),(9,[(2,VQ)]),(15,[(4,YI)])],loops:=[(4,{ ι:=Nat,keep:=[2,3,48],boxes:=[2],ts:=fun _ i=>[(49,dI (i:Int))],rw:=fun _ _=>[(47,3,nB+nO,AB (eI nB B nO O) (ew nB) (fun i=>decide (nB<=i)))],bx:=fun σ i=>[(3,[dI (eO nB B nO O i),.row 3 σ.nx 0 (nB+nO)])],inv:=fun _ i=>i<=nB+nO,mu:=fun _ i=>nB+nO - i,rd:=fun _ σ=>(ez (σ.get 49)).toNat })],dK:=[],TV:=[(0,{ N:=nB,enc:=fun k=>[.int .i64 ((nB:Int) - 1 - (k:Nat)),.int .i64 (B (nB - 1 - k))],keep:=[1,2,3,13],boxes:=[1,2],bx:=fun σ pre=>[(3,[dI 0,.row 3 (σ.nx+50) 0 pre.length])],rb:=fun _ pre=>[(3,1,3,pre.length,AB (fun i=>B (nB - 1 - pre.getD i 0)) (fun i=>if pre.getD i 0=0 then 1 else 10001) (fun _=>false))],inv:=fun _ pre=>pre.length<=nB }),(2,{ N:=nO,enc:=fun k=>[.int .i64 ((nO:Int) - 1 - (k:Nat)),.int .i64 (O (nO - 1 - k))],keep:=[1,2,3,36],boxes:=[1,2],bx:=fun σ pre=>[(3,[dI 0,.row 3 (σ.nx+50) 0 (nB+pre.length)])],rb:=fun _ pre=>[(3,1,3,nB+pre.length,AB (fun i=>if i<nB then B (nB - 1 - i) else O (nO - 1 - pre.getD (i - nB) 0)) (fun i=>ew nB i) (fun i=>decide (nB<=i)))],inv:=fun _ pre=>pre.length<=nO })] }
noncomputable abbrev qm (i:Nat) (nB:Nat) (q:List Nat×Nat):Bool:=decide (i<nB+List.length q.fst)
noncomputable abbrev read_cr0 (nB:Nat) (B:Nat->Int) (nO:Nat) (O:Nat->Int) (W:Int) (G:Int) (L:Int) (r:List Prop):List Prop:=(nB=nB)::(∀(i:Nat),i<nB->B i=B i)::(nO=nO)::(∀(i:Nat),i<nO->O i=O i)::(W=W)::(G=G)::(L=L)::((0:Int)=(0:Int))::(Value.slice none (0:Nat) (0:Nat)=Value.slice none (0:Nat) (0:Nat))::r
namespace w2c
noncomputable section
structure Z where
 nB:Nat
 B:Nat->Int
 nO:Nat
 O:Nat->Int
 W:Int
 G:Int
 L:Int
variable (z:Z) (i0 i1:Nat) (p q:Prop) (P:List Prop) (a b:Int) (k l m:Nat) (E F:List DV) (Y4:List Nat) (j22a:Unit->Prop) (QO:Unit->VT)
abbrev x0 (i0:List Nat×Nat):=List.length (Prod.fst i0)
abbrev x1:=z.nB+z.nO
abbrev x2 (i0:List Nat×Nat):=(Prod.fst i0)++[Prod.snd i0]
abbrev x3 (i0:List Nat×Nat):=List.length (x2 i0)
abbrev x4:=z.B (z.nB - 1 - k)
abbrev x5:List Prop:=rf z.nB::(∀i0<z.nB,rf (z.B i0))::P
abbrev x6:=List.length (List.range z.nO)
abbrev x7:=rf (Value.slice none 0 0)
abbrev x8:Int:=(↑(Lay.eO z.nB z.B z.nO z.O k):Int)
abbrev x9:List Prop:=p::rf (0:Int)::P
abbrev dM:=if k=(0:Nat) then (1:Int) else (10001:Int)
abbrev dQ:List Prop:=rf (0:Nat)::p::x5 z [rf z.nO,∀i0<z.nO,rf (z.O i0),rf z.W,rf z.G,rf z.L,rf (0:Int),x7,q]
abbrev dS:=Int.toNat ((i0:Int)+1)
abbrev dT:=(z.nB:Int) - 1
abbrev dU:=ml 0 (Int.toNat (i0:Int))
abbrev dY:=if k<z.nB then (x4 z l) else (z.O (z.nO - 1 - m))
abbrev eb:=List.length (List.range z.nB)
abbrev eE:=Lay.eI z.nB z.B z.nO z.O (dU i0)
abbrev eH:= ∀i0<x1 z,rf (Lay.ew z.nB i0)
abbrev eT:= ∀i0<x1 z,rf (decide (z.nB<=i0))
abbrev eG:List Prop:=[p,(k+1)*((nat_lit 23)+1)<=140737488355328,(1:Nat)<=(1:Nat)]
abbrev eZ:List Prop:=p::rf (0:Nat)::(z.nB+x6 z=x1 z)::P
abbrev fi:= ∀i0<x1 z,rf (Lay.eI z.nB z.B z.nO z.O i0)
abbrev fR:List Value:=[Value.int IntKind.i64 a,Value.int IntKind.i64 b]
abbrev fU:=VT.cut Unit j22a (VT.done []) QO
abbrev fS:List DV:=[DV.dV [DV.dt z.nB [fun i0=>dI (z.B i0)]]]
abbrev fz:List DV:=[DV.dV [DV.dt z.nO [fun i0=>dI (z.O i0)]]]
abbrev gi:=dv prog 152 E (DV.jt (177:FuncId) F)
abbrev iA:Int:=(↑(Int.gcd (eE z i0) (x8 z i0)):Int)
abbrev jw (i0:List Nat×Nat):=i1<x3 i0->(if (decide (i1<(x0 i0)))=true then (dM (List.getD (Prod.fst i0) i1 0)) else a)=dM (List.getD (x2 i0) i1 0)
abbrev iw:=dY z i1 i1 (List.getD Y4 (i1 - z.nB) 0)
abbrev jk (i0:List Nat×Nat):=VT.dk (eG (x0 i0<=x0 i0) (x0 i0)) (VT.done (x5 z ((x0 i0+1=x3 i0)::(∀i1<x3 i0,(if (decide (i1<(x0 i0)))=true then (x4 z (List.getD (Prod.fst i0) i1 0)) else (x4 z (Prod.snd i0)))=x4 z (List.getD (x2 i0) i1 0))::p::x9 (∀i1<x3 i0,(if (decide (i1<(x0 i0)))=true then false else false)=false) (dQ z (x0 i0+1=x3 i0) (x3 i0<=z.nB)))))
abbrev xt:VT:=VT.dk [gi [DV.dt z.nB [fun i0=>dI (z.B i0)]] (fS z)] (VT.dk (FN prog (177:FuncId) (fS z) z.nB (fun i0=>fR (dT z - (i0:Int)) (x4 z i0))::(∀i0<z.nB,rf (2:Nat))::x5 z (x9 ((nat_lit 0)=0) (dQ z ((nat_lit 0)=0) ((nat_lit 0)<=z.nB)))) (VT.cut (List Nat×Nat) (fun (i0:List Nat×Nat)=>x0 i0<=z.nB/\Prod.snd i0<z.nB/\x0 i0<z.nB/\(∀(i1:Nat),(i1∈(Prod.fst i0))->i1<z.nB)) (fU (fun (i0:Unit)=>eb z<=z.nB) (fun (i0:Unit)=>VT.dk [gi [DV.dt z.nO [fun i0=>dI (z.O i0)]] (fz z)] (VT.dk (FN prog (177:FuncId) (fz z) z.nO (fun i0=>fR ((z.nO:Int) - 1 - (i0:Int)) (z.O (z.nO - 1 - i0)))::(∀i0<z.nO,rf (2:Nat))::rf z.nO::(∀i0<z.nO,rf (z.O i0))::(eb z=z.nB+(nat_lit 0))::(∀i0<z.nB+(nat_lit 0),x4 z (List.getD (List.range z.nB) i0 0)=dY z i0 i0 (nat_lit 0))::(∀i0<z.nB+(nat_lit 0),dM (List.getD (List.range z.nB) i0 0)=Lay.ew z.nB i0)::x9 (∀i0<z.nB+(nat_lit 0),false=decide (z.nB<=i0)) (dQ z (eb z=z.nB+(nat_lit 0)) ((nat_lit 0)<=z.nO))) (VT.cut (List Nat×Nat) (fun (i0:List Nat×Nat)=>x0 i0<=z.nO/\Prod.snd i0<z.nO/\x0 i0<z.nO/\(∀(i1:Nat),(i1∈(Prod.fst i0))->i1<z.nO)) (fU (fun (i0:Unit)=>x6 z<=z.nO) (fun (i0:Unit)=>VT.loop Nat (fun i0=>i0<=x1 z) (Int.toNat 0) (eZ z (0=(↑(Int.toNat 0):Int)) (rf (↑(z.nB+x6 z):Int)::(z.nB+x6 z=x1 z)::(∀i0<x1 z,dY z i0 i0 (List.getD (List.range z.nO) (i0 - z.nB) 0)=Lay.eI z.nB z.B z.nO z.O i0)::eH z::eT z::eZ z (0=x8 z (Int.toNat 0)) [rf (0:Int),x7])) (fun i0=>VT.ite (decide ((i0:Int)<(↑(z.nB+x6 z):Int))) (VT.dk [0<=(i0:Int)/\(i0:Int)<(↑(x1 z):Int),dU i0<x1 z] (VT.dk [dv prog 153 [dI (eE z i0),dI (x8 z i0)] (dI (iA z i0))] (VT.dk [dh ((i0:Int)+1)] (VT.done [(i0:Int)+1=(↑(dS i0):Int),rf (0:Nat),rf (x1 z),rf (↑(z.nB+x6 z):Int),rf (x1 z),fi z,eH z,eT z,iA z i0=x8 z (dS i0),rf (0:Nat),rf (x1 z),rf (0:Int),x7,dS i0<=x1 z,x1 z - dS i0<x1 z - i0])))) (VT.done [x1 z<=x1 z,x8 z i0=x8 z (x1 z),rf (x1 z),fi z,eH z,eT z])))) (fun (i0:List Nat×Nat)=>VT.dk (eG (z.nB+x0 i0<=z.nB+x0 i0) (z.nB+x0 i0)) (VT.done (rf z.nO::(∀i0<z.nO,rf (z.O i0))::(z.nB+x0 i0+1=z.nB+x3 i0)::(∀i1<z.nB+x3 i0,(if (decide (i1<(z.nB+x0 i0)))=true then (iw z i1 (Prod.fst i0)) else (z.O (z.nO - 1 - Prod.snd i0)))=iw z i1 (x2 i0))::(∀i1<z.nB+x3 i0,(if (decide (i1<(z.nB+x0 i0)))=true then (Lay.ew z.nB i1) else (10000:Int))=Lay.ew z.nB i1)::x9 (∀i1<z.nB+x3 i0,(if (decide (i1<(z.nB+x0 i0)))=true then (decide (z.nB<=i1)) else true)=decide (z.nB<=i1)) (dQ z (z.nB+x0 i0+1=z.nB+x3 i0) (x3 i0<=z.nO))))))))) (fun (i0:List Nat×Nat)=>VT.dk [dh (dT z)] (VT.ite (decide ((dT z - (↑(Prod.snd i0):Int))<(dT z))) (VT.dk [dh 10001] (jk z (∀(i1:Nat),jw i1 (10001:Int) i0) i0)) (jk z (∀(i1:Nat),jw i1 (1:Int) i0) i0)))))
end
end w2c
open w2c in
theorem YE (nB:Nat) (B:Nat->Int) (nO:Nat) (O:Nat->Int) (W G L:Int) (h1:1<=nB) (h2:nB<=8) (h3:nO<=8) (hB: ∀k,k<nB->1<=B k/\B k<=10000) (hO: ∀k,k<nO->1<=O k/\O k<=10000):dv prog 116 [sys nB B nO O W G L] (catS nB B nO O):=by
 refine dm dJ (Jk nB B nO O W G L) (V:=xt ⟨nB,B,nO,O,W,G,L⟩) (by kernel_rfl) ?_
 simp only [xt,x0,x1,x2,x3,x4,x5,x6,x7,x8,x9,dM,dQ,dS,dT,dU,dY,eb,eE,eH,eT,eG,eZ,fi,fR,fU,fS,fz,gi,iA,jw,iw,jk,Rf,VT.holds,dC,Sq,List.length_range,bV,iY]
 refine ⟨Sr nB B,⟨Iv nB B (by omega),aq _⟩,⟨fun _ _=>⟨Sr nO O,⟨Iv nO O (by omega),?_,?_,?_,aq _⟩,⟨fun _ _=>⟨⟨rfl,?_,rfl⟩,aq _,fun i hi=>⟨fun dR=>⟨⟨⟨by omega,by omega⟩,by omega⟩,gcd_c _ _ ?_ ?_,by unfold dh;omega,rfl,?_,by omega,by omega⟩,fun iG=>⟨ae _,?_⟩⟩⟩,fun q ⟨q1,q2,q3,q4⟩=> ?_⟩⟩,fun q ⟨q1,q2,q3,q4⟩=> ?_⟩⟩
 ·intro i hi
  rw [tP hi,ag hi]
 ·intro i hi
  rw [tP hi,ew,ag hi]
 ·intro i hi
  rw [bI (by omega)]
 ·intro i hi
  unfold eI
  by_cases h:i<nB
  ·rw [ag h,ag h]
  ·rw [ab h,ab h,tP (by omega)]
 ·have:=od hB hO (show i<nB+nO by omega)
  omega
 ·omega
 ·rw [JO]
 ·rw [show i=nB+nO by omega]
 ·refine ⟨⟨ae _,by omega,ae _⟩,by simp only [aS,aH,b7];omega,fun i hi=> ?_,fun i hi=> ?_,fun i hi=> ?_,by simp only [aS,aH,b7];omega,by simp only [aS,aH,b7];omega⟩
  all_goals simp only [aS,aH,b7] at hi
  ·by_cases h:i<nB
   ·rw [ag (by omega),ag h,ag h]
   ·rw [ab h,sw (by simp only [aS,aH,b7];omega)]
    by_cases h5:i<nB+q.1.length
    ·rw [ag h5,ab h,ag (by omega)]
    ·rw [ab h5,ab (show ¬i - nB<q.1.length by omega),ab h]
  ·by_cases h5:i<nB+q.1.length
   ·rw [ag h5]
   ·rw [ab h5,ew,ab (by omega)]
  ·by_cases h5:i<nB+q.1.length
   ·rw [ag h5]
   ·rw [ab h5,bz (by omega)]
 ·have hl:(q.1++[q.2]).length=q.1.length+1:=by simp
  have e1: ∀i,i<(q.1++[q.2]).length->(if i<q.1.length then B (nB - 1 - q.1.getD i 0) else B (nB - 1 - q.2))=B (nB - 1 - (q.1++[q.2]).getD i 0):=fun i hi=>by
   rw [sw hi]
   split<;>rfl
  refine ⟨by unfold dh;omega,fun h=>⟨by unfold dh;omega,⟨ae _,by omega,ae _⟩,hl.symm,e1,fun i hi=> ?_,hl.symm,by omega⟩,fun h=>⟨⟨ae _,by omega,ae _⟩,hl.symm,e1,fun i hi=> ?_,hl.symm,by omega⟩⟩
  ·rw [sw hi]
   by_cases h5:i<q.1.length
   ·rw [ag h5,ag h5]
   ·rw [ab h5,ab h5,ab (by omega)]<;>rfl
  ·rw [sw hi]
   by_cases h5:i<q.1.length
   ·rw [ag h5,ag h5]
   ·rw [ab h5,ab h5,ag (by omega)]
end Go.Abs.Lay
end
section
set_option maxRecDepth 100000
namespace Go.Abs.Lay
open Go
def ir (nB:Nat) (B:Nat->Int) (nO:Nat) (O:Nat->Int) (W G L:Int):Nat:=if fm nB B nO O W G L=0 then nB+nO else 0
def fQ (nB:Nat) (B:Nat->Int) (nO:Nat) (O:Nat->Int) (W G L:Int):Nat:=if fm nB B nO O W G L=0 then eO nB B nO O (nB+nO) else 0
abbrev Ot (nB:Nat) (B:Nat->Int) (nO:Nat) (O:Nat->Int) (W G L:Int):DV:=Vg (fQ nB B nO O W G L) (ir nB B nO O W G L) (eI nB B nO O) (ew nB) (fun i=>decide (nB<=i))
def iE (nB:Nat) (B:Nat->Int) (nO:Nat) (O:Nat->Int) (W G L:Int) (len:Int):Int:=if fm nB B nO O W G L=0 then (if len<0 then 2 else if len>4000*(eO nB B nO O (nB+nO):Int) then 8 else 0) else fm nB B nO O W G L
def rRead:fx:= .res fun l=>catS (gB l) (UR l) (gO l) (Ww l)
def T0:fx:= .res fun l=> .fC [Ot (gB l) (UR l) (gO l) (Ww l) (gW l) (gG l) (gL l),dI (fm (gB l) (UR l) (gO l) (Ww l) (gW l) (gG l) (gL l))]
def VN:fx:= .res fun l=> .fC [Ot (gB l) (UR l) (gO l) (Ww l) (gW l) (gG l) (gL l),dI (iE (gB l) (UR l) (gO l) (Ww l) (gW l) (gG l) (gL l) (aI l 1))]
def wU (u:Nat) (X C:Nat->Int) (i:Nat):List (Nat×Int):=(List.range i).map fun i=>(ec u (X i),C i)
noncomputable def F6 (nB:Nat) (B:Nat->Int) (nO:Nat) (O:Nat->Int) (W G L:Int):eA:={ dz:=[(1,[(1,rSys)]),(4,[(1,rRead)])],loops:=[],dK:=[] }
theorem AE (nB:Nat) (B:Nat->Int) (nO:Nat) (O:Nat->Int) (W G L:Int) :dv prog 57 [sys nB B nO O W G L] (.fC [Ot nB B nO O W G L,dI (fm nB B nO O W G L)]):=by
 refine dm dJ (F6 nB B nO O W G L) (V:= .dk [dv prog 115 [.agg [.dt nB [fun i=>(dI (B i))],.dt nO [fun i=>(dI (O i))],(dI W),(dI G),(dI L)]] ((dI (fm nB B nO O W G L)))] (.ite (fm nB B nO O W G L !=0) (.done [(0:Int)=(↑(fQ nB B nO O W G L):Int),ir nB B nO O W G L=0,fm nB B nO O W G L=fm nB B nO O W G L]) (.dk [dv prog 116 [.agg [.dt nB [fun i=>(dI (B i))],.dt nO [fun i=>(dI (O i))],(dI W),(dI G),(dI L)]] (.agg [(dI (↑(eO nB B nO O (nB+nO)):Int)),.dt (nB+nO) [fun i=>(dI (eI nB B nO O i)),fun i=>(dI (ew nB i)),fun i=>(dB (decide (nB<=i)))]])] (.done [(↑(eO nB B nO O (nB+nO)):Int)=(↑(fQ nB B nO O W G L):Int),nB+nO=ir nB B nO O W G L,∀i<ir nB B nO O W G L,eI nB B nO O i=eI nB B nO O i,∀i<ir nB B nO O W G L,ew nB i=ew nB i,∀i<ir nB B nO O W G L,decide (nB<=i)=decide (nB<=i),(0:Int)=fm nB B nO O W G L])))) (by kernel_rfl) ?_
 simp only [VT.holds,dC,Sq]
 refine ⟨GJ nB B nO O W G L,fun h=>by rw [fQ,ir,ab h,ab h];exact ⟨rfl,rfl⟩,fun h=> ?_⟩
 obtain ⟨s1,s2,s3,sB,sO,_,_⟩:=k7 h
 rw [fQ,ir,ag h,ag h]
 exact ⟨YE nB B nO O W G L s1 s2 s3 sB sO,rfl,rfl,h.symm⟩
noncomputable def BS (nB:Nat) (B:Nat->Int) (nO:Nat) (O:Nat->Int) (W G L:Int) (len:Int):eA:={ dz:=[(1,[(1,T0)])],loops:=[],dK:=[] }
noncomputable abbrev kL (nB:Nat) (B:Nat->Int) (nO:Nat) (O:Nat->Int) (W:Int) (G:Int) (L:Int) (r:List Prop):List Prop:=((↑(fQ nB B nO O W G L):Int)=(↑(fQ nB B nO O W G L):Int))::(ir nB B nO O W G L=ir nB B nO O W G L)::(∀(i:Nat),i<ir nB B nO O W G L->eI nB B nO O i=eI nB B nO O i)::(∀(i:Nat),i<ir nB B nO O W G L->ew nB i=ew nB i)::(∀(i:Nat),i<ir nB B nO O W G L->decide (nB<=i)=decide (nB<=i))::r
theorem AP (nB:Nat) (B:Nat->Int) (nO:Nat) (O:Nat->Int) (W G L:Int) (len:Int) :dv prog 58 [sys nB B nO O W G L,dI len] (.fC [Ot nB B nO O W G L,dI (iE nB B nO O W G L len)]):=by
 refine dm dJ (BS nB B nO O W G L len) (V:= .dk [dv prog 57 [.agg [.dt nB [fun i=>(dI (B i))],.dt nO [fun i=>(dI (O i))],(dI W),(dI G),(dI L)]] (.fC [.agg [(dI (↑(fQ nB B nO O W G L):Int)),.dt (ir nB B nO O W G L) [fun i=>(dI (eI nB B nO O i)),fun i=>(dI (ew nB i)),fun i=>(dB (decide (nB<=i)))]],(dI (fm nB B nO O W G L))])] (.ite (fm nB B nO O W G L !=0) (.done (kL nB B nO O W G L [fm nB B nO O W G L=iE nB B nO O W G L len])) (.ite (decide (len<0)) (.done (kL nB B nO O W G L [(2:Int)=iE nB B nO O W G L len])) (.dk [dh ((4000:Int)*(↑(fQ nB B nO O W G L):Int))] (.ite (decide (len>4000*(↑(fQ nB B nO O W G L):Int))) (.done (kL nB B nO O W G L [(8:Int)=iE nB B nO O W G L len])) (.done (kL nB B nO O W G L [(0:Int)=iE nB B nO O W G L len]))))))) (by kernel_rfl) ?_
 simp only [VT.holds,dC,kL,Sq]
 refine ⟨AE nB B nO O W G L,fun h=>by rw [iE,ab h],fun h=>⟨fun h1=>by rw [iE,ag h,ag h1],fun h1=> ?_⟩⟩
 obtain ⟨s1,s2,s3,sB,sO,_,_⟩:=k7 h
 have hu:=oT s1 sB sO
 rw [fQ,ag h,iE,ag h,ab h1]
 exact ⟨by unfold dh;omega,fun h2=>by rw [ag h2],fun h2=>by rw [ab h2]⟩
noncomputable def IY (u n:Nat) (X C:Nat->Int) (b:Nat->Bool) (N:Int):eA:={ dz:=[(9,[(4,.pos)])],loops:=[(0,{ ι:=Nat,keep:=[1,2],boxes:=[2],ts:=fun _ k=>[(6,dI (k:Int))],rw:=fun _ k=>[(5,1,(N+1).toNat,[fun q=> .val (.int .i64 (if q<k then j9 (wU u X C n) q else 0))])],inv:=fun _ k=>1<=k/\(k:Int)<=N+1,mu:=fun _ k=>(N+1 - (k:Int)).toNat,rd:=fun _ σ=>(ez (σ.get 6)).toNat }),(2,{ ι:=Nat,keep:=[1,2,6,23,24],boxes:=[2],ts:=fun _ i=>[(25,dI (i:Int))],rw:=fun σ i=>[(5,1,(N+1).toNat,[fun q=> .val (.int .i64 (if q<(ez (σ.get 6)).toNat then j9 (wU u X C n) q else if q=(ez (σ.get 6)).toNat then kV (wU u X C i) (j9 (wU u X C n)) (ez (σ.get 6)).toNat else 0))])],inv:=fun _ i=>i<=n,mu:=fun _ i=>n - i,rd:=fun _ σ=>(ez (σ.get 25)).toNat })],dK:=[] }
noncomputable abbrev qh (X:Nat->Int) (ed:Nat) (u:Nat) (i:Nat):Bool:=decide (X (Int.toNat (ed:Int))/(u:Int)>(i:Int))
noncomputable abbrev qe (i:Nat) (u:Nat) (X:Nat->Int) (C:Nat->Int) (n:Nat) (ed:Nat):Bool:=decide ((if ml (0:Nat) (Int.toNat (i:Int))<Int.toNat (i:Int) then j9 (wU u X C n) (ml (0:Nat) (Int.toNat (i:Int))) else if ml (0:Nat) (Int.toNat (i:Int))=Int.toNat (i:Int) then kV (wU u X C ed) (j9 (wU u X C n)) (Int.toNat (i:Int)) else (0:Int))<(0:Int))
noncomputable abbrev table_cr0 (n:Nat) (X:Nat->Int) (C:Nat->Int) (b:Nat->Bool) (N:Int) (i:Nat) (r:List Prop):List Prop:=((0:Nat)=(0:Nat))::(Int.toNat (N+(1:Int))=Int.toNat (N+(1:Int)))::(N=N)::((i:Int)=(i:Int))::(n=n)::(∀(i:Nat),i<n->X i=X i)::(∀(i:Nat),i<n->C i=C i)::(∀(i:Nat),i<n->b i=b i)::((n:Int)=(n:Int))::(Int.toNat (N+(1:Int))=Int.toNat (N+(1:Int)))::r
noncomputable abbrev table_cr1 (u:Nat) (n:Nat) (X:Nat->Int) (C:Nat->Int) (b:Nat->Bool) (r:List Prop):List Prop:=((u:Int)=(u:Int))::(n=n)::(∀(i:Nat),i<n->X i=X i)::(∀(i:Nat),i<n->C i=C i)::(∀(i:Nat),i<n->b i=b i)::r
namespace w2f
noncomputable section
structure Z where
 u:Nat
 n:Nat
 X:Nat->Int
 C:Nat->Int
 b:Nat->Bool
 N:Int
variable (z:Z) (i0 i1:Nat) (p q:Prop) (P:List Prop) (a b:Int) (k l m n:Nat) (g:Bool) (U V:VT)
abbrev x0:Int:=(i0:Int)
abbrev x1:=Int.toNat (x0 i0)
abbrev x2:=Int.toNat (a+1)
abbrev x3:=ml 0 (x1 i0)
abbrev x4:=z.X (Int.toNat (i1:Int))
abbrev x5:=Lay.j9 (Lay.wU z.u z.X z.C z.n) k
abbrev x6:=if k<(x1 i0) then (x5 z l) else (if m=(x1 i0) then (Lay.kV (Lay.wU z.u z.X z.C n) (Lay.j9 (Lay.wU z.u z.X z.C z.n)) (x1 i0)) else (0:Int))
abbrev x7:=x0 i0 - x4 z i1/(z.u:Int)
abbrev x8:=ml 0 (Int.toNat (x7 z i0 i1))
abbrev x9:=x2 (i1:Int)
abbrev dM:=decide ((x4 z i1/(z.u:Int))>(x0 i0))
abbrev dQ:List Prop:=rf (x2 z.N)::p::rf a::rf z.n::(∀i0<z.n,rf (z.X i0))::(∀i0<z.n,rf (z.C i0))::P
abbrev dS:=decide ((x6 z i0 (x3 i0) (x3 i0) (x3 i0) i1)<(0:Int))
abbrev dT:=dQ z p ((∀i0<z.n,rf (z.b i0))::q::P) a
abbrev dU:=VT.dk (p::q::P) U
abbrev dY:=ri ((!(dM z i0 i1))=true)
abbrev eb:List Prop:=(a=(k:Int))::rf (0:Nat)::P
abbrev eE:=ri ((!(dS z i0 i1))=true)
abbrev eH:=if k<l then (x5 z m) else (0:Int)
abbrev eT:=0<=x0 i0/\x0 i0<(↑(x2 z.N):Int)
abbrev eG:=dT z (rf z.N) (rf (z.n:Int)) P (x0 i0)
abbrev eZ:=VT.dk [dh ((i1:Int)+1)] (VT.done (eb (eG z i0 (dT z p (x9 i1<=z.n) [z.n - x9 i1<z.n - i1] (z.u:Int))) ((i1:Int)+1) (x9 i1)))
abbrev fi:=x6 z i0 (x8 z i0 i1) (x8 z i0 i1) (x8 z i0 i1) i1+(z.C (Int.toNat (i1:Int)))
abbrev fR:=eZ z i0 i1 (∀i2<x2 z.N,x6 z i0 i2 i2 i2 i1=x6 z i0 i2 i2 i2 (x9 i1))
abbrev fU:=VT.ite g (dU (eT z i0) (x3 i0<x2 z.N) [] U) V
abbrev fS:=if (decide (k=(x3 i0)))=true then a else b
abbrev fz:=dQ z p [∀i0<z.n,rf (z.b i0)] (z.u:Int)
abbrev gi:=0<=x7 z i0 i1/\x7 z i0 i1<(↑(x2 z.N):Int)
abbrev xt:VT:=dU (dh (z.N+1)) (0<=z.N+1/\rf (z.N+1)/\z.N+1<=140737488355328/\TypeInfo.bytes ((Tables.types (Program.toTables prog))[(3:Nat)])*x2 z.N<=281474976710656) [] (VT.loop Nat (fun i0=>1<=i0/\x0 i0<=z.N+1) (Int.toNat 1) (eb (rf (x2 z.N)::rf z.N::fz z (∀i0<x2 z.N,0=eH z i0 (Int.toNat 1) i0)) (1:Int) (Int.toNat 1)) (fun i0=>fU z i0 (decide ((x0 i0)<=z.N)) (VT.loop Nat (fun i0=>i0<=z.n) (Int.toNat 0) (eb (eG z i0 (fz z (∀i1<x2 z.N,fS i0 (-(1:Int)) (eH z i1 i0 i1) i1=x6 z i0 i1 i1 i1 (Int.toNat 0)))) (0:Int) (Int.toNat 0)) (fun i1=>VT.ite (decide ((i1:Int)<(z.n:Int))) (VT.dk [0<=(i1:Int)/\(i1:Int)<(z.n:Int)] (VT.dk [0<=x4 z i1/\0<(z.u:Int)/\x4 z i1<=9223372036854775807] (dU (dY z i0 i1) (dY z i0 i1) [(!(dM z i0 i1))=true->dh (x7 z i0 i1),dY z i0 i1,dY z i0 i1,(!(dM z i0 i1))=true->gi z i0 i1,dY z i0 i1,(!(dM z i0 i1))=true->x8 z i0 i1<x2 z.N,dY z i0 i1,dM z i0 i1=false->(!(dM z i0 i1))=true] (VT.ite (if (dM z i0 i1)=true then true else (decide ((x6 z i0 (x8 z i0 i1) (x8 z i0 i1) (x8 z i0 i1) i1)<(0:Int)))) (fR z i0 i1) (dU (dh (x7 z i0 i1)) (gi z i0 i1) [x8 z i0 i1<x2 z.N,dh (fi z i0 i1)] (dU (eT z i0) (x3 i0<x2 z.N) [eE z i0 i1,eE z i0 i1,(!(dS z i0 i1))=true->eT z i0,eE z i0 i1,(!(dS z i0 i1))=true->x3 i0<x2 z.N,eE z i0 i1,eE z i0 i1,dS z i0 i1=false->(!(dS z i0 i1))=true] (fU z i0 (if (dS z i0 i1)=true then true else (decide ((fi z i0 i1)<(x6 z i0 (x3 i0) (x3 i0) (x3 i0) i1)))) (eZ z i0 i1 (∀i2<x2 z.N,fS i0 (fi z i0 i1) (x6 z i0 i2 i2 i2 i1) i2=x6 z i0 i2 i2 i2 (x9 i1))) (fR z i0 i1)))))))) (VT.dk [dh (x0 i0+1)] (VT.done (eb (rf (x2 z.N)::rf z.N::dT z (∀i2<x2 z.N,x6 z i0 i2 i2 i2 i1=eH z i2 (x2 (x0 i0)) i2) (1<=x2 (x0 i0)/\(↑(x2 (x0 i0)):Int)<=z.N+1) [Int.toNat (z.N+1 - (↑(x2 (x0 i0)):Int))<Int.toNat (z.N+1 - x0 i0)] (z.u:Int)) (x0 i0+1) (x2 (x0 i0))))))) (VT.done [x2 z.N<=x2 z.N,rf (x2 z.N),∀i1<x2 z.N,eH z i1 i0 i1=x5 z i1])))
end
end w2f
open w2f in
theorem Ls (u n:Nat) (X C:Nat->Int) (b:Nat->Bool) (N:Int) (hu:1<=u) (hn:n<=16) (hX: ∀i,i<n->1<=X i/\X i<=10000) (hm: ∀i,i<n->1<=ec u (X i)) (hC: ∀i,i<n->0<=C i/\C i<=10001) (hN:0<=N) (ZK:N<=4000):dv prog 59 [Vg u n X C b,dI N] (.dt (N+1).toNat [fun k=> .val (.int .i64 (j9 (wU u X C n) k))]):=by
 refine dm dJ (IY u n X C b N) (V:=xt ⟨u,n,X,C,b,N⟩) (by kernel_rfl) ?_
 simp only [xt,x0,x1,x2,x3,x4,x5,x6,x7,x8,x9,dM,dQ,dS,dT,dU,dY,eb,eE,eH,eT,eG,eZ,fi,fR,fU,fS,fz,gi,Rf,VT.holds,dC,Sq]
 have hbd: ∀p∈wU u X C n,0<=p.2/\p.2<=10001:=fun p hp=>by
  obtain ⟨i,hi,rfl⟩:=bf.1 hp
  exact hC i (bg.1 hi)
 have hT:=EB hbd
 have hT0:=xg (wU u X C n)
 have hTe:=fun {k}=>EA (wU u X C n) (k:=k)
 generalize hTT:j9 (wU u X C n)=T at*
 have Mt:prog.types[3].bytes=8:=by kernel_rfl
 rw [Mt]
 refine ⟨⟨by unfold dh;omega,by omega,by omega,by omega⟩,⟨rfl,fun i hi=> ?_⟩,⟨by omega,by omega⟩,fun k ⟨k1,k2⟩=>⟨fun hk=>⟨⟨⟨by omega,by omega⟩,by rw [iY];omega⟩,⟨rfl,fun q hq=> ?_⟩,aq _,fun i hi=>⟨fun dR=> ?_,fun iG=> ?_⟩⟩,fun hk=>⟨ae _,fun q hq=>by rw [ag (by omega)]⟩⟩⟩
 ·by_cases e:i<Int.toNat 1
  ·rw [ag e,show i=0 by omega,hT0]
  ·rw [ab e]
 ·rw [iY]
  by_cases e:q=k
  ·rw [ag e,ab (by omega),ag e];rfl
  ·rw [ab e,ab e]
 ·have lV:i<n:=by omega
  have hx:=hX i lV
  have e:X i/(u:Int)=(ec u (X i):Int):=by
   unfold ec
   have:=cq (a:=X i) (b:=(u:Int)) (by omega) (by omega)
   omega
  have m1:=hm i lV
  have hc:=hC i lV
  have hs:kV (wU u X C (i+1)) T k=kC (kV (wU u X C i) T k) (fY T k (ec u (X i),C i)):=by
   rw [wU,la,KR];rfl
  simp only [e,Int.toNat_sub,iY,hs]
  generalize ec u (X i)=m at*
  have lt:k - m<k:=by omega
  simp only [ag lt,Nat.lt_irrefl,cE,ba]
  have t1:=hT (k - m)
  generalize kV (wU u X C i) T k=b at*
  refine ⟨⟨by omega,by omega⟩,⟨by omega,by omega,by omega⟩,⟨fun _=>by unfold dh;omega,fun _=>by omega,fun _=>by omega⟩,fun h=> ?_,fun ⟨h,h'⟩=> ?_⟩
  ·have hcd:fY T k (m,C i)= -1:=by
    unfold fY
    rw [ab]
    intro ⟨_,h2,h3⟩
    dsimp only at h2 h3
    omega
   rw [hcd]
   exact ⟨by unfold dh;omega,rfl,fun q hq=>rfl,by omega,by omega⟩
  ·have hcd:fY T k (m,C i)=T (k - m)+C i:=by
    unfold fY
    rw [ag (show 1<=m/\m<=k/\0<=T (k - m) from ⟨m1,by omega,by omega⟩)]
   rw [hcd]
   refine ⟨⟨by unfold dh;omega,⟨by omega,by omega⟩,by omega,by unfold dh;omega⟩,⟨⟨by omega,by omega⟩,by omega,fun _=>by omega,fun _=>by omega⟩,fun h2=>⟨⟨⟨by omega,by omega⟩,by omega⟩,by unfold dh;omega,rfl,fun q hq=> ?_,by omega,by omega⟩,fun h2=>⟨by unfold dh;omega,rfl,fun q hq=> ?_,by omega,by omega⟩⟩
   ·by_cases e2:q=k
    ·rw [ag e2,ab (by omega),ag e2,kC,ab (by omega),ag h2]
    ·rw [ab e2,ab e2,ab e2]
   ·by_cases e2:q=k
    ·rw [ab (by omega),ag e2,ab (by omega),ag e2,kC,ab (by omega),ab (by omega)]
    ·rw [ab e2,ab e2]
 ·rw [show i=n by omega]
  refine ⟨by unfold dh;omega,rfl,fun q hq=> ?_,⟨by omega,by omega⟩,by omega⟩
  by_cases e:q<k
  ·rw [ag e,ag (by omega)]
  ·by_cases e2:q=k
   ·rw [ab e,ag e2,ag (by omega),e2,hTe (by omega)]
   ·rw [ab e,ab e2,ab (by omega)]
end Go.Abs.Lay
end
section
set_option maxRecDepth 100000
namespace Go.Abs.Lay
open Go
def PI (u:Nat) (X:Nat->Int) (i:Nat):Nat->Nat:=Dr ((List.range i).map fun i=>ec u (X i))
def cX (l:List DV):Nat->Int:=ic 0 (fD 1 (arg l 0))
abbrev cU (l:List DV):Nat:=(fI 0 (arg l 0)).toNat
abbrev cN (l:List DV):Nat:=lenOf (fD 1 (arg l 0))
def YG:fx:= .res fun l=> .dt (aI l 1+1).toNat [fun k=> .val (.int .i64 (j9 (wU (cU l) (ic 0 (fD 1 (arg l 0))) (ic 1 (fD 1 (arg l 0))) (cN l)) k))]
theorem E3 {nB:Nat} {B:Nat->Int} {nO:Nat} {O:Nat->Int} {W G L len:Int} (h:iE nB B nO O W G L len=0):fm nB B nO O W G L=0/\0<=len/\len<=4000*(eO nB B nO O (nB+nO):Int):=by
 unfold iE at h
 split at h
 ·rename_i h1
  split at h
  ·cases h
  ·split at h
   ·cases h
   ·exact ⟨h1,by omega,by omega⟩
 ·exact absurd h ‹_›
def mE (nB:Nat) (B:Nat->Int) (nO:Nat) (O:Nat->Int):Nat->Int:=j9 (QD (eO nB B nO O (nB+nO)) nB B nO O (nB+nO))
def Nc (nB:Nat) (B:Nat->Int) (nO:Nat) (O:Nat->Int) (W G L len:Int):Nat:=if iE nB B nO O W G L len=0 then (len/(eO nB B nO O (nB+nO):Int)+1).toNat else 0
def Gx (nB:Nat) (B:Nat->Int) (nO:Nat) (O:Nat->Int) (len:Int):Nat:=waysP (eO nB B nO O (nB+nO)) nB B nO O (nB+nO) (len/(eO nB B nO O (nB+nO):Int)).toNat
def Dq (nB:Nat) (B:Nat->Int) (nO:Nat) (O:Nat->Int) (W G L len:Int):Int:=
 if iE nB B nO O W G L len=0 then (if len%(eO nB B nO O (nB+nO):Int)=0 then (if (Gx nB B nO O len:Int)<=1000000 then (Gx nB B nO O len:Int) else 0) else 0) else 0
def Ds (nB:Nat) (B:Nat->Int) (nO:Nat) (O:Nat->Int) (W G L len:Int):Int:=
 if iE nB B nO O W G L len=0 then (if len%(eO nB B nO O (nB+nO):Int)=0 then (if (Gx nB B nO O len:Int)<=1000000 then 0 else 8) else 0) else iE nB B nO O W G L len
theorem EN {u:Nat} {len:Int} (hu:1<=u) (h0:0<=len) (h1:len<=4000*(u:Int)):0<=len/(u:Int)/\len/(u:Int)<=4000:=by
 have a:=cq (a:=len) (b:=(u:Int)) h0 (by omega)
 have b:=Int.ediv_le_ediv (c:=(u:Int)) (by omega) h1
 rw [Int.mul_ediv_cancel _ (by omega)] at b
 exact ⟨a,b⟩
noncomputable def BY (nB:Nat) (B:Nat->Int) (nO:Nat) (O:Nat->Int) (W G L:Int) (len:Int):eA:={ dz:=[(1,[(2,VN)]),(4,[(4,.pos),(5,YG)])],loops:=[],dK:=[] }
namespace w2g
noncomputable section
structure Z where
 nB:Nat
 B:Nat->Int
 nO:Nat
 O:Nat->Int
 W:Int
 G:Int
 L:Int
 len:Int
variable (z:Z) (i0:Nat) (a:Int)
abbrev x0:Int:=(↑(Lay.fQ z.nB z.B z.nO z.O z.W z.G z.L):Int)
abbrev x1:=Lay.ir z.nB z.B z.nO z.O z.W z.G z.L
abbrev x2:=Lay.iE z.nB z.B z.nO z.O z.W z.G z.L z.len
abbrev x3:=Lay.Nc z.nB z.B z.nO z.O z.W z.G z.L z.len
abbrev x4:=Int.toNat (z.len/x0 z+1)
abbrev x5:List DV:=[DV.agg [dI (x0 z),DV.dt (x1 z) [fun i0=>dI (Lay.eI z.nB z.B z.nO z.O i0),fun i0=>dI (Lay.ew z.nB i0),fun i0=>dB (decide (z.nB<=i0))]],dI a]
abbrev x6:=Lay.j9 (Lay.wU (Int.toNat (x0 z)) (Lay.eI z.nB z.B z.nO z.O) (Lay.ew z.nB) (x1 z)) i0
abbrev xt:VT:=VT.dk [dv prog 58 [DV.agg [DV.dt z.nB [fun i0=>dI (z.B i0)],DV.dt z.nO [fun i0=>dI (z.O i0)],dI z.W,dI z.G,dI z.L],dI z.len] (DV.fC (x5 z (x2 z)))] (VT.ite (x2 z !=0) (VT.done [x3 z=0,rf (x2 z)]) (VT.dk [0<=z.len/\0<x0 z/\z.len<=9223372036854775807,dv prog 59 (x5 z (z.len/x0 z)) (DV.dt (x4 z) [fun i0=>dI (x6 z i0)])] (VT.done [x4 z=x3 z,∀i0<x3 z,x6 z i0=Lay.mE z.nB z.B z.nO z.O i0,0=x2 z])))
end
end w2g
open w2g in
theorem JS (nB:Nat) (B:Nat->Int) (nO:Nat) (O:Nat->Int) (W G L:Int) (len:Int) :dv prog 17 [sys nB B nO O W G L,dI len] (.fC [.dt (Nc nB B nO O W G L len) [fun k=> .val (.int .i64 (mE nB B nO O k))],dI (iE nB B nO O W G L len)]):=by
 refine dm dJ (BY nB B nO O W G L len) (V:=xt ⟨nB,B,nO,O,W,G,L,len⟩) (by kernel_rfl) ?_
 simp only [xt,x0,x1,x2,x3,x4,x5,x6,Rf,VT.holds,dC,Sq]
 refine ⟨AP nB B nO O W G L len,fun h=>by rw [Nc,ab h],fun h=> ?_⟩
 obtain ⟨h1,h2,h3⟩:=E3 h
 obtain ⟨s1,s2,s3,sB,sO,_,_⟩:=k7 h1
 have hu:=oT s1 sB sO
 obtain ⟨q0,q1⟩:=EN hu.1 h2 h3
 simp only [fQ,ir,ag h1,Nc,ag h]
 exact ⟨⟨⟨h2,by omega,by omega⟩,Ls _ _ _ _ _ _ hu.1 (by omega) (fun i hi=>od sB sO hi) (fun i hi=>pM sB sO hi) (fun i _=>AD nB i) q0 q1⟩,trivial,fun i hi=>rfl,h.symm⟩
noncomputable def CX (nB:Nat) (B:Nat->Int) (nO:Nat) (O:Nat->Int) (W G L:Int) (len:Int):eA:={ dz:=[(1,[(2,VN)]),(4,[(3,.pos)]),(6,[(3,.pos)]),(11,[(4,.pos)])],loops:=[(0,{ ι:=Nat,keep:=[6,37,38],boxes:=[6],ts:=fun _ i=>[(39,dI (i:Int))],rw:=fun σ i=>[(8,1,Uc (σ.get 8),[fun q=> .val (.int .i64 (PI (ez (cellOf σ 0 (σ.get 6))).toNat (ic 0 (σ.get 37)) i q:Nat))])],inv:=fun σ i=>i<=lenOf (σ.get 37),mu:=fun σ i=>lenOf (σ.get 37) - i,rd:=fun _ σ=>(ez (σ.get 39)).toNat }),(2,{ ι:=Nat,keep:=[6,37,38,39,11],boxes:=[6],ts:=fun _ k=>[(12,dI (k:Int))],rw:=fun σ k=>[(8,1,Uc (σ.get 8),[fun q=> .val (.int .i64 ((if q<k then n4 (ez (σ.get 11)).toNat (PI (ez (cellOf σ 0 (σ.get 6))).toNat (ic 0 (σ.get 37)) (ez (σ.get 39)).toNat) q else PI (ez (cellOf σ 0 (σ.get 6))).toNat (ic 0 (σ.get 37)) (ez (σ.get 39)).toNat q:Nat)))])],inv:=fun σ k=>(ez (σ.get 11)).toNat<=k,mu:=fun σ k=>Uc (σ.get 8) - k,rd:=fun _ σ=>(ez (σ.get 12)).toNat })],dK:=[] }
noncomputable abbrev VC (nB:Nat) (B:Nat->Int) (nO:Nat) (O:Nat->Int) (W:Int) (G:Int) (L:Int) (r:List Prop):List Prop:=(ir nB B nO O W G L=ir nB B nO O W G L)::(∀(i:Nat),i<ir nB B nO O W G L->eI nB B nO O i=eI nB B nO O i)::(∀(i:Nat),i<ir nB B nO O W G L->ew nB i=ew nB i)::(∀(i:Nat),i<ir nB B nO O W G L->decide (nB<=i)=decide (nB<=i))::r
noncomputable abbrev VB (nB:Nat) (B:Nat->Int) (nO:Nat) (O:Nat->Int) (W:Int) (G:Int) (L:Int) (len:Int) (r:List Prop):List Prop:=(Int.toNat (len/(↑(fQ nB B nO O W G L):Int)+(1:Int))=Int.toNat (len/(↑(fQ nB B nO O W G L):Int)+(1:Int)))::r
namespace w2h
noncomputable section
structure Z where
 nB:Nat
 B:Nat->Int
 nO:Nat
 O:Nat->Int
 W:Int
 G:Int
 L:Int
 len:Int
variable (z:Z) (i0 i1:Nat) (p q:Prop) (P:List Prop) (a b:Int) (k l m n:Nat) (U:VT)
abbrev x0:Int:=(↑(Lay.fQ z.nB z.B z.nO z.O z.W z.G z.L):Int)
abbrev x1:=Int.toNat (i0:Int)
abbrev x2:=Lay.ir z.nB z.B z.nO z.O z.W z.G z.L
abbrev x3:=Int.toNat (a+1)
abbrev x4:=x3 (z.len/x0 z)
abbrev x5:Int:=(i1:Int)
abbrev x6:=Lay.eI z.nB z.B z.nO z.O (x1 i0)
abbrev x7:=ml 0 (Int.toNat a)
abbrev x8:=Int.toNat (x6 z i0/x0 z)
abbrev x9:=Lay.PI (Int.toNat (x0 z)) (Lay.eI z.nB z.B z.nO z.O) k l
abbrev dM:=x5 i1 - x6 z i0/x0 z
abbrev dQ:= ∀i0<x2 z,rf (decide (z.nB<=i0))
abbrev dS:List Prop:=p::rf (x2 z)::(∀i0<x2 z,rf (Lay.eI z.nB z.B z.nO z.O i0))::(∀i0<x2 z,rf (Lay.ew z.nB i0))::P
abbrev dT:Int:=(↑(if k<l then (Lay.n4 (x8 z i0) (Lay.PI (Int.toNat (x0 z)) (Lay.eI z.nB z.B z.nO z.O) (x1 i0)) m) else (x9 z (x1 i0) n)):Int)
abbrev dU:=(↑(x4 z):Int) - 1
abbrev dY:=0<=a/\b<(↑(x4 z):Int)
abbrev eb:=z.len/x0 z+1
abbrev eE:=x3 (i0:Int)
abbrev eH:List Prop:=p::rf (0:Nat)::dS z (rf (x4 z)) (dQ z::rf (↑(x2 z):Int)::P)
abbrev eT:=Lay.Dq z.nB z.B z.nO z.O z.W z.G z.L z.len
abbrev eG:=Lay.Ds z.nB z.B z.nO z.O z.W z.G z.L z.len
abbrev eZ:=Lay.iE z.nB z.B z.nO z.O z.W z.G z.L z.len
abbrev fi:List Prop:=rf (x4 z)::p::dS z (rf (x0 z)) (dQ z::q::P)
abbrev fR:=if (decide (k=l))=true then a else b
abbrev fU:=VT.dk [dh (a+1)] (VT.done (eH z (b+1=(k:Int)) P))
abbrev fS:List Prop:=rf (x4 z)::p::dS z (rf (x0 z)) [dQ z]
abbrev fz:=VT.ite (a !=0) (VT.done [0=eT z,p]) U
abbrev gi:=0<=a/\0<x0 z/\b<=9223372036854775807
abbrev iA:=dT z i0 (x7 (x5 i1)) i1 (x7 (x5 i1)) (x7 (x5 i1))+dT z i0 (x7 (dM z i0 i1)) i1 (x7 (dM z i0 i1)) (x7 (dM z i0 i1))
abbrev xt:VT:=VT.dk [dv prog 58 [DV.agg [DV.dt z.nB [fun i0=>dI (z.B i0)],DV.dt z.nO [fun i0=>dI (z.O i0)],dI z.W,dI z.G,dI z.L],dI z.len] (DV.fC [DV.agg [dI (x0 z),DV.dt (x2 z) [fun i0=>dI (Lay.eI z.nB z.B z.nO z.O i0),fun i0=>dI (Lay.ew z.nB i0),fun i0=>dB (decide (z.nB<=i0))]],dI (eZ z)])] (fz z (eZ z=eG z) (eZ z) (VT.dk [0<=z.len/\0<x0 z] (fz z (0=eG z) (z.len%x0 z) (VT.dk [gi z z.len z.len,dh (eb z),0<=eb z/\rf (eb z)/\eb z<=140737488355328/\TypeInfo.bytes ((Tables.types (Program.toTables prog))[(3:Nat)])*x4 z<=281474976710656] (VT.dk [dY z (0:Int) (0:Int),x7 (0:Int)<x4 z] (VT.loop Nat (fun i0=>i0<=x2 z) (Int.toNat 0) (eH z (0=(↑(Int.toNat 0):Int)) (fS z (∀i0<x4 z,fR (1:Int) (0:Int) i0 (x7 (0:Int))=(↑(x9 z (Int.toNat 0) i0):Int)))) (fun i0=>VT.ite (decide ((i0:Int)<(↑(x2 z):Int))) (VT.dk [0<=(i0:Int)/\(i0:Int)<(↑(x2 z):Int)] (VT.dk [gi z (x6 z i0) (x6 z i0)] (VT.loop Nat (fun i1=>x8 z i0<=i1) (x8 z i0) (eH z (x6 z i0/x0 z=(↑(x8 z i0):Int)) (rf (i0:Int)::rf (x6 z i0/x0 z)::fS z (∀i1<x4 z,(↑(x9 z i0 i1):Int)=dT z i0 i1 (x8 z i0) i1 i1))) (fun i1=>VT.ite (decide ((x5 i1)<(↑(x4 z):Int))) (VT.dk [dY z (x5 i1) (x5 i1),x7 (x5 i1)<x4 z,dh (dM z i0 i1),dY z (dM z i0 i1) (dM z i0 i1),x7 (dM z i0 i1)<x4 z,dh (iA z i0 i1),dY z (x5 i1) (x5 i1),x7 (x5 i1)<x4 z] (fU z (rf (i0:Int)::rf (x6 z i0/x0 z)::fi z (∀i2<x4 z,fR (iD (iA z i0 i1) [(1000001:Int)]) (dT z i0 i2 i1 i2 i2) i2 (x7 (x5 i1))=dT z i0 i2 (x3 (x5 i1)) i2 i2) (x8 z i0<=x3 (x5 i1)) [x4 z - x3 (x5 i1)<x4 z - i1]) (x5 i1) (x5 i1) (x3 (x5 i1)))) (fU z (fi z (∀i2<x4 z,dT z i0 i2 i1 i2 i2=(↑(x9 z (eE i0) i2):Int)) (eE i0<=x2 z) [x2 z - eE i0<x2 z - i0]) (i0:Int) (i0:Int) (eE i0)))))) (VT.dk [dh (dU z),dY z (dU z) (dU z),x7 (dU z)<x4 z] (VT.ite (decide ((↑(x9 z i0 (x7 (dU z))):Int)<=(1000000:Int))) (VT.done [(↑(x9 z i0 (x7 (dU z))):Int)=eT z,0=eG z]) (VT.done [0=eT z,8=eG z]))))))))))
end
end w2h
open w2h in
theorem M9 (nB:Nat) (B:Nat->Int) (nO:Nat) (O:Nat->Int) (W G L:Int) (len:Int) :dv prog 67 [sys nB B nO O W G L,dI len] (.fC [dI (Dq nB B nO O W G L len),dI (Ds nB B nO O W G L len)]):=by
 refine dm dJ (CX nB B nO O W G L len) (V:=xt ⟨nB,B,nO,O,W,G,L,len⟩) (by kernel_rfl) ?_
 simp only [xt,x0,x1,x2,x3,x4,x5,x6,x7,x8,x9,dM,dQ,dS,dT,dU,dY,eb,eE,eH,eT,eG,eZ,fi,fR,fU,fS,fz,gi,iA,Rf,VT.holds,dC,Sq]
 refine ⟨AP nB B nO O W G L len,fun h=>by rw [Dq,Ds,ab h,ab h];exact ⟨rfl,rfl⟩,fun h=> ?_⟩
 obtain ⟨h1,h2,h3⟩:=E3 h
 obtain ⟨s1,s2,s3,sB,sO,_,_⟩:=k7 h1
 have hu:=oT s1 sB sO
 obtain ⟨q0,q1⟩:=EN hu.1 h2 h3
 simp only [fQ,ir,ag h1,Dq,Ds,ag h]
 have Mt:prog.types[3].bytes=8:=by kernel_rfl
 rw [Mt]
 have hS:Gx nB B nO O len=PI (eO nB B nO O (nB+nO)) (eI nB B nO O) (nB+nO) (len/(eO nB B nO O (nB+nO):Int)).toNat:=rfl
 simp only [hS]
 have hmp:=fun {i} (hi:i<nB+nO)=>pM sB sO hi
 have hle: ∀i q,PI (eO nB B nO O (nB+nO)) (eI nB B nO O) i q<=1000001:=fun i q=>PM _ _
 generalize eO nB B nO O (nB+nO)=u at*
 generalize hQ:len/(u:Int)=Q at*
 refine ⟨⟨h2,by omega⟩,fun hr=>by rw [ab hr,ab hr];exact ⟨rfl,rfl⟩,fun hr=> ?_⟩
 rw [ag hr,ag hr]
 refine ⟨⟨⟨h2,by omega,by omega⟩,by unfold dh;omega,by omega,by omega,by omega⟩,⟨⟨by omega,by omega⟩,by simp [ml];omega⟩,⟨rfl,fun q hq=> ?_⟩,aq _,fun i hi=>⟨fun dR=> ?_,fun iG=> ?_⟩⟩
 ·rw [iY]
  show _=(((if q=0 then 1 else 0:Nat):Nat):Int)
  split<;>rfl
 ·have lV:i<nB+nO:=by omega
  have hx:=od sB sO lV
  have m1:=hmp lV
  have e:eI nB B nO O i/(u:Int)=(ec u (eI nB B nO O i):Int):=by
   unfold ec
   have:=cq (a:=eI nB B nO O i) (b:=(u:Int)) (by omega) (by omega)
   omega
  have hs:PI u (eI nB B nO O) (i+1)=n4 (ec u (eI nB B nO O i)) (PI u (eI nB B nO O) i):=by
   rw [PI,la,JL];rfl
  simp only [e,Int.toNat_sub,iY,hs,bU]
  have hW:=hle i
  generalize ec u (eI nB B nO O i)=m at*
  generalize PI u (eI nB B nO O) i=V at*
  have hSl:=GL (m:=m) hW
  refine ⟨⟨by omega,by omega⟩,⟨by omega,by omega,by omega⟩,⟨trivial,fun q hq=> ?_⟩,ae _,fun k hk=>⟨fun oo=> ?_,fun oo=> ?_⟩⟩
  ·split
   ·rw [PZ (by omega)]
   ·rfl
  ·have lt:k - m<k:=by omega
   simp only [ag lt,Nat.lt_irrefl,cE,ba]
   have a1:=hW k
   have a2:=hSl (k - m)
   refine ⟨⟨⟨by omega,by omega⟩,by omega,by unfold dh;omega,⟨by omega,by omega⟩,by omega,by unfold dh;omega,⟨by omega,by omega⟩,by omega⟩,by unfold dh;omega,rfl,fun q hq=> ?_,by omega,by omega⟩
   by_cases e2:q=k
   ·rw [ag e2,ag (by omega),e2,P0 m1 hk]
    simp only [iD]
    split<;>omega
   ·rw [ab e2]
    by_cases e3:q<k
    ·rw [ag e3,ag (by omega)]
    ·rw [ab e3,ab (by omega)]
  ·refine ⟨by unfold dh;omega,rfl,fun q hq=> ?_,by omega,by omega⟩
   rw [ag (by omega)]
 ·rw [show i=nB+nO by omega]
  have e:((Q+1).toNat:Int) - 1=Q:=by omega
  rw [e,iY]
  refine ⟨⟨by unfold dh;omega,⟨by omega,by omega⟩,by omega⟩,fun hw=> ?_,fun hw=> ?_⟩
  ·rw [ag hw,ag hw];exact ⟨rfl,rfl⟩
  ·rw [ab hw,ab hw];exact ⟨rfl,rfl⟩
end Go.Abs.Lay
end
