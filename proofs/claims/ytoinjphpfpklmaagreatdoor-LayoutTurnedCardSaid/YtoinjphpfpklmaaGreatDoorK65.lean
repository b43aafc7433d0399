/- Contracts and what they stand on. -/
import Derived.Test.YtoinjphpfpklmaaGreatDoorLs
set_option linter.unusedVariables false
set_option linter.unusedSimpArgs false
section
set_option maxRecDepth 100000
namespace Go.Abs.Lay
open Go
def OW (u:Nat) (X C T:Nat->Int) (k i:Nat):Bool:=decide (ec u (X i)<=k/\0<=T (k - ec u (X i))/\T (k - ec u (X i))+C i=T k)
def mz (u n:Nat) (X C T:Nat->Int) (k:Nat):Nat:=((List.range n).find? (OW u X C T k)).getD 0
def lT (u n:Nat) (X C T:Nat->Int) (K:Nat):Nat->Nat
 |0=>K
 |j+1=>lT u n X C T K j - ec u (X (mz u n X C T (lT u n X C T K j)))
def er (u n:Nat) (X C T:Nat->Int) (b:Nat->Bool) (s:Bool) (K:Nat):Nat->List Int
 |0=>[]
 |j+1=>if lT u n X C T K j≠0/\b (mz u n X C T (lT u n X C T K j))=s then er u n X C T b s K j++[X (mz u n X C T (lT u n X C T K j))] else er u n X C T b s K j
abbrev Hl (l:List Int):DV:=nums l.length (fun i=>l.getD i 0)
def lD (u:Nat) (T:Nat->Int) (len:Int):Bool:=decide (len%(u:Int)=0/\0<=T (len/(u:Int)).toNat)
def wo (u n:Nat) (X C T:Nat->Int) (b:Nat->Bool) (s:Bool) (len:Int):List Int:=if lD u T len=true then mY (er u n X C T b s (len/(u:Int)).toNat (len/(u:Int)).toNat) else []
def rSort:fx:= .GF fun l i=>(mY ((List.range (lenOf (arg l 0))).map (ic 0 (arg l 0)))).getD i 0
theorem Ox {l:List (Nat×Int)} {T:Nat->Int} {k:Nat} (hc: ∀p∈l,0<=p.2): ∀(b:Int),0<=l.foldl (fun b p=>kC b (fY T k p)) b->l.foldl (fun b p=>kC b (fY T k p)) b=b\/ ∃p∈l,0<=fY T k p/\fY T k p=l.foldl (fun b p=>kC b (fY T k p)) b:=by
 induction l with
 |nil=>intro b _;exact .inl rfl
 |cons q l ih=>
  intro b h
  have h':0<=l.foldl (fun b p=>kC b (fY T k p)) (kC b (fY T k q)):=h
  show l.foldl (fun b p=>kC b (fY T k p)) (kC b (fY T k q))=b\/ ∃p∈q::l,0<=fY T k p/\fY T k p=l.foldl (fun b p=>kC b (fY T k p)) (kC b (fY T k q))
  rcases ih (fun p hp=>hc p (ay _ hp)) _ h' with e|⟨p,hp,h1,h2⟩
  ·rw [e] at h' ⊢
   by_cases hq:fY T k q<0
   ·left;rw [kC,ag hq]
   ·by_cases hb:b<0\/fY T k q<b
    ·right
     exact ⟨q,ax,by omega,by rw [kC,ab hq,ag hb]⟩
    ·left;rw [kC,ab hq,ab hb]
  ·exact .inr ⟨p,ay _ hp,h1,h2⟩
structure IC (u n:Nat) (X C T:Nat->Int):Prop where
 tab:T=j9 (wU u X C n)
 m1: ∀i,i<n->1<=ec u (X i)
 c0: ∀i,i<n->0<=C i/\C i<=10001
theorem IC.bd {u n:Nat} {X C T:Nat->Int} (h:IC u n X C T): ∀p∈wU u X C n,0<=p.2/\p.2<=10001:=fun p hp=>by
 obtain ⟨i,hi,rfl⟩:=bf.1 hp
 exact h.c0 i (bg.1 hi)
theorem IC.zero {u n:Nat} {X C T:Nat->Int} (h:IC u n X C T):T 0=0:=by rw [h.tab,xg]
theorem sE {u:Nat} {X C T:Nat->Int} {k i:Nat}:OW u X C T k i=true↔ec u (X i)<=k/\0<=T (k - ec u (X i))/\T (k - ec u (X i))+C i=T k:=by rw [OW,ah]
theorem Ny {u n:Nat} {X C T:Nat->Int} (h:IC u n X C T) {k:Nat} (hk:0<k) (hT:0<=T k): ∃i,i<n/\OW u X C T k i=true:=by
 have e:T k=kV (wU u X C n) T k:=by rw [h.tab];exact EA _ hk
 rw [e] at hT
 rcases Ox (fun p hp=>(h.bd p hp).1) _ hT with h1|⟨p,hp,h1,h2⟩
 ·unfold kV at hT;rw [h1] at hT;omega
 ·obtain ⟨i,hi,rfl⟩:=bf.1 hp
  refine ⟨i,bg.1 hi,sE.2 ?_⟩
  have h3:fY T k (ec u (X i),C i)=T k:=by rw [h2,e];rfl
  unfold fY at h1 h3
  by_cases hc:1<=ec u (X i)/\ec u (X i)<=k/\0<=T (k - ec u (X i))
  ·rw [ag hc] at h3
   exact ⟨hc.2.1,hc.2.2,h3⟩
  ·rw [ab hc] at h1;omega
theorem lf {u n:Nat} {X C T:Nat->Int} (h:IC u n X C T) {k:Nat} (hk:0<k) (hT:0<=T k):mz u n X C T k<n/\OW u X C T k (mz u n X C T k)=true/\ ∀j,j<mz u n X C T k->OW u X C T k j=false:=by
 unfold mz
 cases hf:(List.range n).find? (OW u X C T k) with
 |none=>
  obtain ⟨i,hi,ho⟩:=Ny h hk hT
  exact absurd ho (List.find?_eq_none.1 hf i (bg.2 hi))
 |some i=>
  have:=List.find?_range_eq_some.1 hf
  refine ⟨bg.1 this.2.1,this.1,fun j hj=> ?_⟩
  have:=this.2.2 j hj
  simpa using this
theorem T8 {u n:Nat} {X C T:Nat->Int} (h:IC u n X C T) {k i:Nat} (hk:0<k) (hT:0<=T k) (ho:OW u X C T k i=true) (hb: ∀j,j<i->OW u X C T k j=false):mz u n X C T k=i:=by
 obtain ⟨h1,h2,h3⟩:=lf h hk hT
 rcases Nat.lt_trichotomy (mz u n X C T k) i with hl|hl|hl
 ·rw [hb _ hl] at h2;cases h2
 ·exact hl
 ·rw [h3 _ hl] at ho;cases ho
section
variable {u n:Nat} {X C T:Nat->Int} {b:Nat->Bool} {K:Nat}
theorem ub (h:IC u n X C T) (hK:0<=T K): ∀j,0<=T (lT u n X C T K j)
 |0=>hK
 |j+1=>by
  have ih:=ub h hK j
  by_cases h0:lT u n X C T K j=0
  ·rw [lT,h0,Nat.zero_sub,h.zero];omega
  ·exact (sE.1 (lf h (by omega) ih).2.1).2.1
theorem QM (h:IC u n X C T) (hK:0<=T K) {j:Nat} (h0:lT u n X C T K j≠0):lT u n X C T K (j+1)+ec u (X (mz u n X C T (lT u n X C T K j)))=lT u n X C T K j/\1<=ec u (X (mz u n X C T (lT u n X C T K j))):=by
 obtain ⟨h1,h2,_⟩:=lf h (by omega) (ub h hK j)
 have h3:=(sE.1 h2).1
 have h4:=h.m1 _ h1
 rw [lT];omega
theorem rM {j:Nat} (h0:lT u n X C T K j=0): ∀i,j<=i->lT u n X C T K i=0
 |0,hi=>by rw [show j=0 by omega] at h0;exact h0
 |i+1,hi=>by
  by_cases e:j=i+1
  ·rw [<-e];exact h0
  ·rw [lT,rM h0 i (by omega),Nat.zero_sub]
theorem E7 (h:IC u n X C T) (hK:0<=T K): ∀{j:Nat},(∀i,i<j->lT u n X C T K i≠0)->lT u n X C T K j+j<=K
 |0,_=>ae _
 |j+1,hj=>by
  have:=E7 h hK (j:=j) fun i hi=>hj i (by omega)
  have:=QM h hK (hj j (by omega))
  omega
theorem Mg (h:IC u n X C T) (hK:0<=T K):lT u n X C T K K=0:=by
 apply cQ
 intro h0
 have: ∀i,i<K+1->lT u n X C T K i≠0:=fun i hi h1=>h0 (rM h1 K (by omega))
 have:=E7 h hK this
 omega
theorem mN {s:Bool} {j:Nat} (h0:lT u n X C T K j=0): ∀i,j<=i->er u n X C T b s K i=er u n X C T b s K j
 |0,hi=>by rw [show j=0 by omega]
 |i+1,hi=>by
  by_cases e:j=i+1
  ·rw [e]
  ·rw [er,ab (fun hx=>hx.1 (rM h0 i (by omega))),mN h0 i (by omega)]
theorem zX: ∀{j:Nat},(∀i,i<j->lT u n X C T K i≠0)->(er u n X C T b false K j).length+(er u n X C T b true K j).length=j
 |0,_=>rfl
 |j+1,hj=>by
  have ih:=zX (j:=j) fun i hi=>hj i (by omega)
  have h0:=hj j (by omega)
  simp only [er]
  cases hb:b (mz u n X C T (lT u n X C T K j)) with
  |false=>
   rw [ag ⟨h0,rfl⟩,ab (fun hx=>by cases hx.2),aS,cR];omega
  |true=>
   rw [ab (fun hx=>by cases hx.2),ag ⟨h0,rfl⟩,aS,cR];omega
theorem re (h:IC u n X C T) (hK:0<=T K) {s:Bool}: ∀{j:Nat} {x:Int},x∈er u n X C T b s K j-> ∃i,i<n/\x=X i/\b i=s
 |0,x,hx=>by cases hx
 |j+1,x,hx=>by
  rw [er] at hx
  split at hx
  ·rename_i hc
   rcases aO.1 hx with hx|hx
   ·exact re h hK hx
   ·exact ⟨_,(lf h (by omega) (ub h hK j)).1,by simpa using hx,hc.2⟩
  ·exact re h hK hx
end
theorem mg (l:List Int):(List.range l.length).map (fun i=>l.getD i 0)=l:=by
 apply List.ext_getElem
 ·simp
 ·intro i h1 h2;simp [h2]
theorem k8 (l:List Int):(mY l).Perm l:=List.mergeSort_perm _ _
theorem sv (l:List Int):(mY l).length=l.length:=(k8 l).length_eq
theorem Ad {l:List Int} {x:Int} {i:Nat} (h:i<(l++[x]).length):(l++[x]).getD i 0=if i<l.length then l.getD i 0 else x:=by
 simp only [aS,aH,b7] at h
 split
 ·rename_i h1
  simp [aW h1]
 ·rw [show i=l.length by omega];simp
noncomputable def I9 (u n:Nat) (X C:Nat->Int) (b:Nat->Bool) (T:Nat->Int) (tn:Nat) (len:Int):eA:={ dz:=[(2,[(6,.pos),(14,.pos)]),(4,[(3,.pos)]),(9,[(4,.pos)]),(19,[(1,rSort)])],loops:=[(0,{ ι:=Nat,keep:=[1,2,3,6,8],boxes:=[3,6],ts:=fun _ j=>[(9,dI (lT u n X C T (len/(u:Int)).toNat j:Nat))],bx:=fun σ j=>[(8,[.row 1 (σ.nx+50) 0 (er u n X C T b false (len/(u:Int)).toNat j).length,.row 1 (σ.nx+51) 0 (er u n X C T b true (len/(u:Int)).toNat j).length])],rb:=fun _ j=>[(8,0,1,(er u n X C T b false (len/(u:Int)).toNat j).length,[fun i=> .val (.int .i64 ((er u n X C T b false (len/(u:Int)).toNat j).getD i 0))]),(8,1,1,(er u n X C T b true (len/(u:Int)).toNat j).length,[fun i=> .val (.int .i64 ((er u n X C T b true (len/(u:Int)).toNat j).getD i 0))])],inv:=fun _ j=> ∀i,i<j->lT u n X C T (len/(u:Int)).toNat i≠0,mu:=fun _ j=>lT u n X C T (len/(u:Int)).toNat j,rd:=fun _ σ=>Uc (cellOf σ 0 (σ.get 8))+Uc (cellOf σ 1 (σ.get 8)) }),(2,{ ι:=Nat,keep:=[1,2,3,6,8,9,42,43],boxes:=[3,6],ts:=fun _ i=>[(44,dI (i:Int))],bx:=fun σ _=>[(8,[.row 1 (σ.nx+50) 0 (Uc (cellOf σ 0 (σ.get 8))),.row 1 (σ.nx+51) 0 (Uc (cellOf σ 1 (σ.get 8)))])],rb:=fun σ _=>[(8,0,1,Uc (cellOf σ 0 (σ.get 8)),[cOf σ 0 (cellOf σ 0 (σ.get 8))]),(8,1,1,Uc (cellOf σ 1 (σ.get 8)),[cOf σ 0 (cellOf σ 1 (σ.get 8))])],inv:=fun σ i=>i<=n/\ ∀k,k<i->OW u X C T (ez (σ.get 9)).toNat k=false,mu:=fun _ i=>n - i,rd:=fun _ σ=>(ez (σ.get 44)).toNat })],dK:=[],JN:=[(4,3)] }
namespace w3s
noncomputable section
structure Z where
 u:Nat
 n:Nat
 X:Nat->Int
 C:Nat->Int
 b:Nat->Bool
 T:Nat->Int
 tn:Nat
 len:Int
variable (z:Z) (i0 i1 i2:Nat) (p q:Prop) (P:List Prop) (a b:Int) (k l:Nat) (g h:Bool) (U:VT) (O4 j8b:Nat->Int) (DY j9b:List Int)
abbrev x0:=z.len/(z.u:Int)
abbrev x1:=Int.toNat (x0 z)
abbrev x2:=Lay.er z.u z.n z.X z.C z.T z.b g (x1 z) k
abbrev x3:=Lay.lT z.u z.n z.X z.C z.T (x1 z) k
abbrev x4:Int:=(↑(x3 z i0):Int)
abbrev x5:=z.X (Int.toNat (i1:Int))
abbrev x6:=List.length (x2 z i0 false)
abbrev x7:=List.length (x2 z i0 true)
abbrev x8:=x4 z i0 - x5 z i1/(z.u:Int)
abbrev x9:=decide ((x5 z i1/(z.u:Int))>(x4 z i0))
abbrev dM:=if g=true then true else (decide (a<(0:Int)))
abbrev dQ:=dM (z.T (Int.toNat (x8 z i0 i1))) (x9 z i0 i1)
abbrev dS:=Lay.wo z.u z.n z.X z.C z.T z.b g z.len
abbrev dT:=decide (z.len<(0:Int))
abbrev dU:List Prop:=(k=List.length DY)::p::P
abbrev dY:=rf (Value.slice none 0 0)
abbrev eb:=if (dT z)=true then true else (z.len%(z.u:Int) !=0)
abbrev eE:=x6 z i0+1+x7 z i0
abbrev eH:=List.getD (x2 z i0 true) i1 0
abbrev eT:=List.getD (x2 z i0 false) i1 0
abbrev eG:=i1<List.length DY->a=List.getD j9b i1 0
abbrev eZ:=(0:Int)+(1:Int)
abbrev fi:List Prop:=ri ((!g)=true)::ri ((!h)=true)::P
abbrev fR:= ∀i0<z.n,rf (z.b i0)
abbrev fU:List Prop:=rf a::rf z.n::(∀i0<z.n,rf (z.X i0))::(∀i0<z.n,rf (z.C i0))::P
abbrev fS:List Prop:=rf (0:Nat)::(k=List.length DY)::P
abbrev fz:List Prop:=(a=b)::rf z.tn::(∀i0<z.tn,rf (z.T i0))::rf z.len::P
abbrev gi:List Prop:=ri ((!g)=true)::((!h)=true->p)::P
abbrev iA:=List.getD (Lay.mY (List.map O4 (List.range k))) i1 0
abbrev jw:=VT.dk P (VT.dk [dh a] U)
abbrev iw:=Int.toNat ((i1:Int)+1)
abbrev jk:=x2 z (eE z i0) true
abbrev jj:=x2 z (eE z i0) false
abbrev gQ:=x2 z (x6 z i0+x7 z i0) true
abbrev iz:=x2 z (x6 z i0+(x7 z i0+1)) true
abbrev mc:=x2 z (x6 z i0+x7 z i0) false
abbrev kB:=x2 z (x6 z i0+(x7 z i0+1)) false
abbrev j8:=0<=a/\b<(z.tn:Int)
abbrev oO:=(nat_lit 0)=0
abbrev mq:List Prop:=((!g)=true->p)::ri ((!h)=true)::P
abbrev nH:=g=false->(!h)=true
abbrev sS:=DV.val (Value.int IntKind.i64 a)
abbrev yb:=i1<k->((x3 z i1)≠(0:Nat))
abbrev wR:=fU z [fR z,dY,dY,p,k<l] (z.u:Int)
abbrev mU:=x6 z i0+(x7 z i0+1)
abbrev so:=VT.dk [0<=a/\b<(↑(2:Nat):Int)] U
abbrev xb:=iA i1 (x6 z i0) (fun i1=>eT z i0 i1)
abbrev qJ:=0<=a/\0<(z.u:Int)/\b<=9223372036854775807
abbrev sn:=VT.ite (decide (a<(2:Int))) U (VT.done ((x6 z i0<=x6 z i0)::(x7 z i0<=x7 z i0)::dU p (dU q [true=Lay.lD z.u z.T z.len] (x7 z i0) (dS z true)) (x6 z i0) (dS z false)))
abbrev mb:=fS (wR z p (x3 z k) (x3 z i0)) (x7 z i0) DY
abbrev qZ:=sn z i0 (∀(i1:Nat),eG i1 (xb z i0 i1) (dS z false) (dS z false)) p a U
abbrev tH:=(nat_lit 0)+(nat_lit 0)
abbrev zf:=(z.T (Int.toNat (x8 z i0 i1)))+(z.C (Int.toNat (i1:Int)))
abbrev Gj:=iA i1 (x7 z i0) (fun i1=>eH z i0 i1)
abbrev ze:= ∀(i1:Nat),eG i1 (eH z i0 i1) (dS z true) (dS z true)
abbrev tG:=fU z [fR z,dY,dY] (z.u:Int)
abbrev B7:=jw [p,k*((nat_lit 7)+1)<=140737488355328,(1:Nat)<=(1:Nat)] (x8 z i0 i1) (VT.done (fz z P (x8 z i0 i1) (↑(x3 z l):Int)))
abbrev M6:=gi p (fi (mq q (fi P (dQ z i0 i1) (dQ z i0 i1)) (dQ z i0 i1) (dQ z i0 i1)) (dQ z i0 i1) (dQ z i0 i1)) (dQ z i0 i1) (dQ z i0 i1)
abbrev yL:=i2<List.length DY->(if (decide (i2<k))=true then (List.getD (x2 z i0 g) i2 0) else (x5 z i1))=List.getD j9b i2 0
abbrev tf:List Prop:=[FnT prog 97 k O4 j8b [DV.val (Value.func (Fn.func 98) (Array.mk []) (Array.mk []))]]
abbrev Jn:=fU z (fR z::rf (z.n:Int)::rf (x6 z i0)::(∀i1<x6 z i0,rf (eT z i0 i1))::rf (x7 z i0)::(∀i1<x7 z i0,rf (eH z i0 i1))::rf (0:Nat)::rf (x6 z i0)::rf (0:Nat)::rf (x7 z i0)::P) (x4 z i0)
abbrev tF:=i2<k->Lay.OW z.u z.X z.C z.T (Int.toNat (x4 z i0)) i2=false
abbrev xt:VT:=VT.dk (fi (gi (0<=z.len/\0<(z.u:Int)) (ri ((!(dT z))=true)::nH (dT z) (dT z)::fi (gi (qJ z z.len z.len) (fi (mq (j8 z (x0 z) (x0 z)) [ri ((!(eb z))=true),nH (eb z) (eb z)] (eb z) (eb z)) (eb z) (eb z)) (eb z) (eb z)) (eb z) (eb z)) (dT z) (dT z)) (dT z) (dT z)) (VT.ite (dM (z.T (x1 z)) (eb z)) (VT.done [List.length (dS z false)=0,List.length (dS z true)=0,false=Lay.lD z.u z.T z.len]) (VT.dk [qJ z z.len z.len] (VT.loop Nat (fun i0=> ∀(i1:Nat),yb z i1 i0) tH (fz z (oO::oO::rf (0:Nat)::oO::rf (0:Nat)::oO::tG z) (x0 z) (↑(x3 z tH):Int)) (fun i0=>VT.ite (decide ((x4 z i0)>(0:Int))) (VT.loop Nat (fun i1=>i1<=z.n/\(∀(i2:Nat),tF z i0 i2 i1)) (Int.toNat 0) (fz z (Jn z i0 (tG z)) (0:Int) (↑(Int.toNat 0):Int)) (fun i1=>VT.ite (decide ((i1:Int)<(z.n:Int))) (VT.dk [0<=(i1:Int)/\(i1:Int)<(z.n:Int)] (VT.dk [qJ z (x5 z i1) (x5 z i1)] (VT.dk (fi (mq (dh (x8 z i0 i1)) (gi (j8 z (x8 z i0 i1) (x8 z i0 i1)) (fi (nH (x9 z i0 i1) (x9 z i0 i1)::ri ((!(dQ z i0 i1))=true)::M6 z i0 i1 (dh (x8 z i0 i1)) (j8 z (x8 z i0 i1) (x8 z i0 i1)) (M6 z i0 i1 (dh (zf z i0 i1)) (j8 z (x4 z i0) (x4 z i0)) [nH (dQ z i0 i1) (dQ z i0 i1)])) (x9 z i0 i1) (x9 z i0 i1)) (x9 z i0 i1) (x9 z i0 i1)) (x9 z i0 i1) (x9 z i0 i1)) (x9 z i0 i1) (x9 z i0 i1)) (VT.ite (if (dQ z i0 i1)=true then true else (zf z i0 i1 !=(z.T (Int.toNat (x4 z i0))))) (VT.dk [dh ((i1:Int)+1)] (VT.done (fz z (Jn z i0 (wR z (iw i1<=z.n/\(∀(i2:Nat),tF z i0 i2 (iw i1))) (z.n - iw i1) (z.n - i1))) ((i1:Int)+1) (↑(iw i1):Int)))) (VT.ite (z.b (Int.toNat (i1:Int))) (B7 z i0 i1 (x7 z i0<=x7 z i0) (dU (∀(i1:Nat),eG i1 (eT z i0 i1) (kB z i0) (kB z i0)) (dU (∀(i2:Nat),yL z i0 i1 i2 (x7 z i0) true (iz z i0) (iz z i0)) (fS (fS (wR z (∀(i1:Nat),yb z i1 (mU z i0)) (x3 z (mU z i0)) (x3 z i0)) (x7 z i0+1) (iz z i0)) (x6 z i0) (kB z i0)) (x7 z i0+1) (iz z i0)) (x6 z i0) (kB z i0)) (x7 z i0+1) (mU z i0)) (B7 z i0 i1 (x6 z i0<=x6 z i0) (dU (∀(i2:Nat),yL z i0 i1 i2 (x6 z i0) false (jj z i0) (jj z i0)) (dU (∀(i1:Nat),eG i1 (eH z i0 i1) (jk z i0) (jk z i0)) (fS (mb z i0 (∀(i1:Nat),yb z i1 (eE z i0)) (eE z i0) (jk z i0)) (x6 z i0+1) (jj z i0)) (x7 z i0) (jk z i0)) (x6 z i0+1) (jj z i0)) (x6 z i0+1) (eE z i0))))))) (VT.done (fz z (dU (∀(i1:Nat),eG i1 (eT z i0 i1) (mc z i0) (mc z i0)) (dU (∀(i1:Nat),eG i1 (eH z i0 i1) (gQ z i0) (gQ z i0)) (fS (mb z i0 (∀(i1:Nat),yb z i1 (x6 z i0+x7 z i0)) (x6 z i0+x7 z i0) (gQ z i0)) (x6 z i0) (mc z i0)) (x7 z i0) (gQ z i0)) (x6 z i0) (mc z i0)) (x4 z i0) (↑(x3 z (x6 z i0+x7 z i0)):Int))))) (sn z i0 (∀(i1:Nat),eG i1 (eT z i0 i1) (dS z false) (dS z false)) (ze z i0) (0:Int) (so (0:Int) (0:Int) (jw (rf (x6 z i0)::kM (fun i1=>sS (eT z i0 i1))::tf (x6 z i0) (fun i1=>vI (sS (eT z i0 i1))) (fun i1=>xb z i0 i1)) eZ (qZ z i0 (ze z i0) eZ (so eZ eZ (jw (rf (x7 z i0)::kM (fun i1=>sS (eH z i0 i1))::tf (x7 z i0) (fun i1=>vI (sS (eH z i0 i1))) (fun i1=>Gj z i0 i1)) (eZ+1) (qZ z i0 (∀(i1:Nat),eG i1 (Gj z i0 i1) (dS z true) (dS z true)) (eZ+1) (so (eZ+1) (eZ+1) (VT.dk [False] (VT.dk [dh (eZ+1+1)] (VT.done [False])))))))))))))))
end
end w3s
open w3s in
theorem U8 (u n:Nat) (X C:Nat->Int) (b:Nat->Bool) (T:Nat->Int) (tn:Nat) (len:Int) (hu:1<=u) (hu2:u<=10000) (hn:n<=16) (yV:IC u n X C T) (hX: ∀i,i<n->1<=X i/\X i<=10000) (h0:0<=len) (h1:len<=4000*(u:Int)) (htn:(len/(u:Int)).toNat+1<=tn) (htn2:tn<=100000):dv prog 38 [Vg u n X C b,nums tn T,dI len] (.fC [.agg [Hl (wo u n X C T b false len),Hl (wo u n X C T b true len)],dB (lD u T len)]):=by
 refine dm dJ (I9 u n X C b T tn len) (V:=xt ⟨u,n,X,C,b,T,tn,len⟩) (by kernel_rfl) ?_
 simp only [xt,x0,x1,x2,x3,x4,x5,x6,x7,x8,x9,dM,dQ,dS,dT,dU,dY,eb,eE,eH,eT,eG,eZ,fi,fR,fU,fS,fz,gi,iA,jw,iw,jk,jj,gQ,iz,mc,kB,j8,oO,mq,nH,sS,yb,wR,mU,so,xb,qJ,sn,mb,qZ,tH,zf,Gj,ze,tG,B7,M6,yL,tf,Jn,tF,Rf,VT.holds,dC,Sq]
 obtain ⟨q0,q1⟩:=EN hu h0 h1
 have hbd:=EB yV.bd
 rw [<-yV.tab] at hbd
 refine ⟨⟨fun _=>⟨h0,by omega⟩,fun _=>⟨h0,by omega,by omega⟩,fun _=>⟨q0,by omega⟩⟩,fun h=> ?_,fun ⟨h,hT⟩=> ?_⟩
 ·have e:lD u T len=false:=by
   rw [lD,aj]
   rintro ⟨e1,e2⟩
   rcases h with (h|h)|h
   ·omega
   ·exact h e1
   ·omega
  rw [wo,wo,e]
  exact ⟨rfl,rfl,rfl⟩
 have hr:len%(u:Int)=0:=by
  apply cQ
  intro e;exact h (.inr e)
 have ke:lD u T len=true:=by rw [lD,ah];exact ⟨hr,by omega⟩
 have hK:0<=T (len/(u:Int)).toNat:=by omega
 simp only [wo,ke,ba]
 have hQ:len/(u:Int)=((len/(u:Int)).toNat:Int):=by omega
 generalize hKK:(len/(u:Int)).toNat=K at*
 rw [hQ]
 have htn':K+1<=tn:=by omega
 have hK4:K<=4000:=by omega
 have hend:=Mg yV hK
 have qt: ∀s j x,x∈er u n X C T b s K j->1<=x/\x<=10000:=fun s j x hx=>by
  obtain ⟨i,hi,rfl,_⟩:=re yV hK hx
  exact hX i hi
 refine ⟨⟨h0,by omega,by omega⟩,rfl,(fun i hi=>absurd hi (aG i)),fun j hj=>⟨fun hk=>⟨rfl,⟨aq _,fun k hk=>absurd hk (aG k)⟩,fun i ⟨hi,hb⟩=>⟨fun dR=> ?_,fun iG=> ?_⟩⟩,fun hk=> ?_⟩⟩
 ·have lV:i<n:=by omega
  have hx:=hX i lV
  have hc:=yV.c0 i lV
  have e:X i/(u:Int)=(ec u (X i):Int):=by
   unfold ec
   have:=cq (a:=X i) (b:=(u:Int)) (by omega) (by omega)
   omega
  have m1:=yV.m1 i lV
  have hle:=E7 yV hK hj
  have hTk:=ub yV hK j
  have hlen:=zX (b:=b) hj
  have e1:(er u n X C T b false K j).length+((er u n X C T b true K j).length+1)=j+1:=by omega
  have e2:(er u n X C T b false K j).length+1+(er u n X C T b true K j).length=j+1:=by omega
  simp only [e,Int.toNat_sub,e1,e2]
  have t1:=hbd (lT u n X C T K j - ec u (X i))
  refine ⟨⟨by omega,by omega⟩,⟨by omega,by omega,by omega⟩,⟨fun _=>by unfold dh;omega,fun _=>⟨by omega,by omega⟩,fun _=>by unfold dh;omega,fun _=>⟨by omega,by omega⟩,fun _=>by unfold dh;omega,fun _=>⟨by omega,by omega⟩⟩,fun h2=>⟨by unfold dh;omega,rfl,⟨by omega,fun k oo=> ?_⟩,by omega⟩,fun ⟨h2,h3⟩=> ?_⟩
  ·by_cases ek:k=i
   ·rw [ek,Bool.eq_false_iff]
    intro ho
    obtain ⟨o1,o2,o3⟩:=sE.1 ho
    rcases h2 with (h2|h2)|h2
    ·omega
    ·omega
    ·exact h2 o3
   ·exact hb k (by omega)
  ·have ho:OW u X C T (lT u n X C T K j) i=true:=sE.2 ⟨by omega,by omega,h3⟩
   have hp:=T8 yV (by omega) hTk ho hb
   have ji:lT u n X C T K j≠0:=by omega
   have Ml:lT u n X C T K (j+1)=lT u n X C T K j - ec u (X i):=by rw [lT,hp]
   have O8: ∀i2,i2<j+1-> ¬lT u n X C T K i2=0:=fun i2 Wm=>by
    by_cases e4:i2=j
    ·rw [e4];exact ji
    ·exact hj i2 (by omega)
   refine ⟨fun Wr=> ?_,fun ZI=> ?_⟩
   ·have f1:er u n X C T b false K (j+1)=er u n X C T b false K j:=by rw [er,hp,ab (fun hx=>by rw [Wr] at hx;cases hx.2)]
    have f2:er u n X C T b true K (j+1)=er u n X C T b true K j++[X i]:=by rw [er,hp,ag ⟨ji,Wr⟩]
    have f3:(er u n X C T b true K (j+1)).length=(er u n X C T b true K j).length+1:=by rw [f2];simp
    refine ⟨⟨ae _,by omega,ae _⟩,by unfold dh;omega,by rw [Ml];omega,by rw [f1],fun i2 _=>by rw [f1],f3.symm,fun i2 Wm=> ?_,by rw [f1],f3.symm,O8,by rw [Ml];omega⟩
    rw [f2] at Wm ⊢
    rw [Ad Wm]
   ·have f1:er u n X C T b true K (j+1)=er u n X C T b true K j:=by rw [er,hp,ab (fun hx=>by rw [ZI] at hx;cases hx.2)]
    have f2:er u n X C T b false K (j+1)=er u n X C T b false K j++[X i]:=by rw [er,hp,ag ⟨ji,ZI⟩]
    have f3:(er u n X C T b false K (j+1)).length=(er u n X C T b false K j).length+1:=by rw [f2];simp
    refine ⟨⟨ae _,by omega,ae _⟩,by unfold dh;omega,by rw [Ml];omega,f3.symm,fun i2 Wm=> ?_,by rw [f1],fun i2 _=>by rw [f1],f3.symm,by rw [f1],O8,by rw [Ml];omega⟩
    rw [f2] at Wm ⊢
    rw [Ad Wm]
 ·exfalso
  obtain ⟨p1,p2,_⟩:=lf yV (by omega) (ub yV hK j)
  rw [hb _ (by omega)] at p2
  cases p2
 ·have NW:lT u n X C T K j=0:=by omega
  have hle:=E7 yV hK hj
  have s1: ∀s,er u n X C T b s K K=er u n X C T b s K j:=fun s=>mN NW K (by omega)
  have hlen:=zX (b:=b) hj
  have hA: ∀s,∀i,i<(er u n X C T b s K j).length->0<=(er u n X C T b s K j).getD i 0/\(er u n X C T b s K j).getD i 0<=10000:=fun s i hi=>by
   have hm:(er u n X C T b s K j).getD i 0∈er u n X C T b s K j:=by
    rw [bB,ak hi];exact List.getElem_mem hi
   have:=qt s j _ hm
   omega
  have hs:=fun s (hn:(er u n X C T b s K j).length<=1000000)=>Yy _ _ hn (hA s)
  simp only [s1,mg,sv] at hs ⊢
  exact ⟨fun _=>⟨⟨by omega,by omega⟩,⟨fun _=>trivial,hs false (by omega)⟩,by unfold dh;omega,fun _=>⟨⟨by omega,by omega⟩,⟨fun _=>trivial,hs true (by omega)⟩,by unfold dh;omega,fun h=>absurd h (by omega),fun _=>⟨ae _,ae _,trivial,fun _ _=>trivial,trivial,fun _ _=>trivial,trivial⟩⟩,fun h=>absurd h (by omega)⟩,fun h=>absurd h (by omega)⟩
end Go.Abs.Lay
end
section
set_option maxRecDepth 100000
namespace Go.Abs.Lay
open Go
section
def oV:List Int->Int
 |[]=>0
 |x::l=>x+oV l
def qU (v:Int):List Int->Int
 |[]=>0
 |x::l=>(if x=v then 0 else 1)+qU v l
theorem zY (l m:List Int):oV (l++m)=oV l+oV m:=by
 induction l with
 |nil=>simp [oV]
 |cons x l ih=>simp only [aT,oV,ih];omega
theorem He (v:Int) (l m:List Int):qU v (l++m)=qU v l+qU v m:=by
 induction l with
 |nil=>simp [qU]
 |cons x l ih=>simp only [aT,qU,ih];omega
theorem Dv {l m:List Int} (h:l.Perm m):oV l=oV m:=by
 induction h with
 |nil=>rfl
 |cons x _ ih=>simp only [oV,ih]
 |swap x y l=>simp only [oV];omega
 |trans _ _ h1 h2=>exact h1.trans h2
theorem Nz {v:Int} {l m:List Int} (h:l.Perm m):qU v l=qU v m:=by
 induction h with
 |nil=>rfl
 |cons x _ ih=>simp only [qU,ih]
 |swap x y l=>simp only [qU];omega
 |trans _ _ h1 h2=>exact h1.trans h2
theorem Lx (f:Nat->Int): ∀n,jx f n=oV ((List.range n).map f)
 |0=>rfl
 |n+1=>by rw [la,zY,jx,Lx f n];simp [oV]
theorem MF (f:Nat->Int) (v:Int): ∀n,pD f v n=qU v ((List.range n).map f)
 |0=>rfl
 |n+1=>by rw [la,He,pD,MF f v n];simp [qU]
theorem Dw (l:List Int):jx (fun i=>l.getD i 0) l.length=oV l:=by rw [Lx,mg]
theorem Ol (l:List Int) (v:Int):pD (fun i=>l.getD i 0) v l.length=qU v l:=by rw [MF,mg]
theorem Ab (l:List Int):iK (mY l).length (fun i=>(mY l).getD i 0)=true:=by
 have hp:(mY l).Pairwise fun x y=>decide (y<=x)=true:=by
  apply List.pairwise_mergeSort
  ·intro a b c h1 h2;rw [ah] at*;omega
  ·intro a b;rw [bA,ah,ah];omega
 rw [iK,ah]
 intro k hk h0
 have:=cH.1 hp (k - 1) k (by omega) hk (by omega)
 rw [ah] at this
 rw [bB,bB,ak hk,ak (show k - 1<(mY l).length by omega)]
 exact this
section
variable {u n:Nat} {X C T:Nat->Int} {b:Nat->Bool} {K:Nat}
theorem GG (h:IC u n X C T) (hK:0<=T K) (hd: ∀i,i<n->X i=(ec u (X i):Int)*u): ∀j,oV (er u n X C T b false K j)+oV (er u n X C T b true K j)+(lT u n X C T K j:Int)*u=(K:Int)*u
 |0=>by simp [er,oV,lT]
 |j+1=>by
  have ih:=GG h hK hd j
  by_cases h0:lT u n X C T K j=0
  ·rw [mN h0 (j+1) (by omega),mN h0 (j+1) (by omega),rM h0 (j+1) (by omega)]
   rw [h0] at ih;exact ih
  ·obtain ⟨p1,p2,_⟩:=lf h (by omega) (ub h hK j)
   obtain ⟨k1,_⟩:=QM h hK h0
   have hx:=hd _ p1
   have e:(lT u n X C T K j:Int)*u=(lT u n X C T K (j+1):Int)*u+(ec u (X (mz u n X C T (lT u n X C T K j))):Int)*u:=by
    rw [<-Int.add_mul];congr 1;omega
   rw [er,er]
   cases hb:b (mz u n X C T (lT u n X C T K j)) with
   |false=>
    rw [ag ⟨h0,rfl⟩,ab (fun hx=>by cases hx.2),zY]
    simp only [oV]
    omega
   |true=>
    rw [ab (fun hx=>by cases hx.2),ag ⟨h0,rfl⟩,zY]
    simp only [oV]
    omega
theorem Du (h:IC u n X C T) (hK:0<=T K) {M:Int} (h1: ∀i,i<n->b i=false->C i=1+10000*(if X i=M then 0 else 1)) (h2: ∀i,i<n->b i=true->C i=10000):
 ∀j,((er u n X C T b false K j).length:Int)+10000*(qU M (er u n X C T b false K j)+(er u n X C T b true K j).length)+T (lT u n X C T K j)=T K
 |0=>by simp [er,qU,lT]
 |j+1=>by
  have ih:=Du h hK h1 h2 j
  by_cases h0:lT u n X C T K j=0
  ·rw [mN h0 (j+1) (by omega),mN h0 (j+1) (by omega),rM h0 (j+1) (by omega)]
   rw [h0] at ih;exact ih
  ·obtain ⟨p1,p2,_⟩:=lf h (by omega) (ub h hK j)
   have p3:=(sE.1 p2).2.2
   rw [er,er]
   have hk:lT u n X C T K (j+1)=lT u n X C T K j - ec u (X (mz u n X C T (lT u n X C T K j))):=rfl
   rw [hk]
   cases hb:b (mz u n X C T (lT u n X C T K j)) with
   |false=>
    have hc:=h1 _ p1 hb
    rw [ag ⟨h0,rfl⟩,ab (fun hx=>by cases hx.2),He,aS,cR]
    simp only [qU]
    omega
   |true=>
    have hc:=h2 _ p1 hb
    rw [ab (fun hx=>by cases hx.2),ag ⟨h0,rfl⟩,aS,cR]
    omega
end
end
section
def iW (nB:Nat) (B:Nat->Int) (nO:Nat) (O:Nat->Int) (W G L len:Int) (s:Bool):List Int:=
 if iE nB B nO O W G L len=0 then wo (eO nB B nO O (nB+nO)) (nB+nO) (eI nB B nO O) (ew nB) (mE nB B nO O) (fun i=>decide (nB<=i)) s len else []
theorem Lt {nB:Nat} {B:Nat->Int} {nO:Nat} {O:Nat->Int} (sB: ∀k,k<nB->1<=B k/\B k<=10000) (sO: ∀k,k<nO->1<=O k/\O k<=10000):IC (eO nB B nO O (nB+nO)) (nB+nO) (eI nB B nO O) (ew nB) (mE nB B nO O):=
 ⟨rfl,fun i hi=>pM sB sO hi,fun i _=>AD nB i⟩
end
section
theorem Na {u:Nat} {x:Int} (hu:1<=u) (hd:(u:Int)∣x) (hx:0<=x):x=(ec u x:Int)*u:=by
 have h0:=cq (a:=x) (b:=(u:Int)) hx (by omega)
 unfold ec
 rw [bG h0,Int.ediv_mul_cancel hd]
theorem uz {nB:Nat} {B:Nat->Int} {nO:Nat} {O:Nat->Int} {W G L len:Int} (h:iE nB B nO O W G L len=0) (ke:lD (eO nB B nO O (nB+nO)) (mE nB B nO O) len=true):
 (iW nB B nO O W G L len false).length<=4000/\(iW nB B nO O W G L len true).length<=4000/\
 (∀x,x∈iW nB B nO O W G L len false-> ∃j,j<nB/\B j=x)/\(∀x,x∈iW nB B nO O W G L len true-> ∃j,j<nO/\O j=x)/\
 iK (iW nB B nO O W G L len false).length (fun i=>(iW nB B nO O W G L len false).getD i 0)=true/\iK (iW nB B nO O W G L len true).length (fun i=>(iW nB B nO O W G L len true).getD i 0)=true/\
 oV (iW nB B nO O W G L len false)+oV (iW nB B nO O W G L len true)=len/\
 ((iW nB B nO O W G L len false).length:Int)+10000*(qU (B (nB - 1)) (iW nB B nO O W G L len false)+(iW nB B nO O W G L len true).length)=mE nB B nO O (len/(eO nB B nO O (nB+nO):Int)).toNat:=by
 obtain ⟨h1,h2,h3⟩:=E3 h
 obtain ⟨s1,s2,s3,sB,sO,sr,_⟩:=k7 h1
 have hu:=oT s1 sB sO
 obtain ⟨q0,q1⟩:=EN hu.1 h2 h3
 have ht:=Lt sB sO
 have hok':=ke
 rw [lD,ah] at hok'
 obtain ⟨hr,hK⟩:=hok'
 have hdv: ∀i,i<nB+nO->eI nB B nO O i=(ec (eO nB B nO O (nB+nO)) (eI nB B nO O i):Int)*(eO nB B nO O (nB+nO):Nat):=fun i hi=>
  Na hu.1 (HK (oG hi)) (by have:=od sB sO hi;omega)
 have hlen:len=((len/(eO nB B nO O (nB+nO):Int)).toNat:Int)*(eO nB B nO O (nB+nO):Nat):=by
  rw [bG q0,Int.ediv_mul_cancel (Int.dvd_of_emod_eq_zero hr)]
 have e: ∀s,iW nB B nO O W G L len s=mY (er (eO nB B nO O (nB+nO)) (nB+nO) (eI nB B nO O) (ew nB) (mE nB B nO O) (fun i=>decide (nB<=i)) s (len/(eO nB B nO O (nB+nO):Int)).toNat (len/(eO nB B nO O (nB+nO):Int)).toNat):=fun s=>by
  rw [iW,ag h,wo,ke,ag rfl]
 have Wi: ∀k,k<nB->0<k->B (k - 1)<B k:=by rw [iS,ah] at sr;exact sr
 have hless: ∀i,i<nB - 1->B i<B (nB - 1):=by
  intro i hi
  have: ∀d,i+d+1<nB->B i<B (i+d+1):=by
   intro d
   induction d with
   |zero=>intro hd;exact Wi (i+1) hd (by omega)
   |succ d ih=>
    intro hd
    have h5:=ih (by omega)
    have h6:=Wi (i+(d+1)+1) hd (by omega)
    rw [show i+(d+1)+1 - 1=i+d+1 by omega] at h6
    omega
  have h7:=this (nB - 2 - i) (by omega)
  rw [show i+(nB - 2 - i)+1=nB - 1 by omega] at h7
  exact h7
 have hu1:=hu.1
 have hKb:(len/(eO nB B nO O (nB+nO):Int)).toNat<=4000:=by omega
 generalize eO nB B nO O (nB+nO)=u at*
 generalize (len/(u:Int)).toNat=K at*
 have hend:=Mg ht hK
 have Ux:=GG (b:=fun i=>decide (nB<=i)) ht hK hdv K
 have Wq:=Du (b:=fun i=>decide (nB<=i)) (M:=B (nB - 1)) ht hK (fun i hi hb=>by
  have yA:i<nB:=by rw [aj] at hb;omega
  rw [ew,ag yA,eI,ag yA]
  by_cases h0:i=0
  ·rw [ag h0,h0,bJ,ag rfl];rfl
  ·have:=hless (nB - 1 - i) (by omega)
   rw [ab h0,ab (by omega)];rfl) (fun i hi hb=>by
  rw [ah] at hb
  rw [ew,ab (by omega)]) K
 have hle: ∀i,i<=K->(∀j,j<i->lT u (nB+nO) (eI nB B nO O) (ew nB) (mE nB B nO O) K j≠0)\/ ∃j,j<i/\lT u (nB+nO) (eI nB B nO O) (ew nB) (mE nB B nO O) K j=0:=fun i _=>by
  by_cases hx: ∃j,j<i/\lT u (nB+nO) (eI nB B nO O) (ew nB) (mE nB B nO O) K j=0
  ·exact .inr hx
  ·exact .inl fun j hj h0=>hx ⟨j,hj,h0⟩
 have hlens: ∀m,(er u (nB+nO) (eI nB B nO O) (ew nB) (mE nB B nO O) (fun i=>decide (nB<=i)) false K m).length+(er u (nB+nO) (eI nB B nO O) (ew nB) (mE nB B nO O) (fun i=>decide (nB<=i)) true K m).length<=m:=by
  intro m
  induction m with
  |zero=>simp [er]
  |succ m ih=>
   simp only [er]
   split<;>split<;>(try simp only [aS,cR])<;>rename_i a b
   ·rw [a.2] at b;cases b.2
   all_goals omega
 have hl:=hlens K
 simp only [e]
 rw [sv,sv,Dv (k8 _),Dv (k8 _),Nz (k8 _)]
 have f1:=Ab (er u (nB+nO) (eI nB B nO O) (ew nB) (mE nB B nO O) (fun i=>decide (nB<=i)) false K K)
 have f2:=Ab (er u (nB+nO) (eI nB B nO O) (ew nB) (mE nB B nO O) (fun i=>decide (nB<=i)) true K K)
 rw [sv] at f1 f2
 rw [hend] at Ux Wq
 rw [ht.zero] at Wq
 refine ⟨by omega,by omega,fun x hx=> ?_,fun x hx=> ?_,f1,f2,?_,?_⟩
 ·obtain ⟨i,hi,rfl,hb⟩:=re ht hK ((k8 _).mem_iff.1 hx)
  have yA:i<nB:=by rw [aj] at hb;omega
  exact ⟨nB - 1 - i,by omega,by rw [eI,ag yA]⟩
 ·obtain ⟨i,hi,rfl,hb⟩:=re ht hK ((k8 _).mem_iff.1 hx)
  have yA:nB<=i:=by rwa [ah] at hb
  exact ⟨nO - 1 - (i - nB),by omega,by rw [eI,ab (by omega)]⟩
 ·rw [hlen];simpa using Ux
 ·omega
theorem Lu (nB:Nat) (B:Nat->Int) (nO:Nat) (O:Nat->Int):mE nB B nO O=yf nB B nO O:=by
 funext k
 unfold mE yf
 rw [GH,unit_eq];rfl
theorem Bd {l:List Int} {k:Nat} (h:k<l.length):l.getD k 0∈l:=by
 rw [bB,ak h];exact List.getElem_mem h
theorem U9 {nB:Nat} {B:Nat->Int} {nO:Nat} {O:Nat->Int} {W G L len:Int} (h:iE nB B nO O W G L len=0) (ke:lD (eO nB B nO O (nB+nO)) (mE nB B nO O) len=true):
 B4 nB B nO O (iW nB B nO O W G L len false).length (fun i=>(iW nB B nO O W G L len false).getD i 0) (iW nB B nO O W G L len true).length (fun i=>(iW nB B nO O W G L len true).getD i 0)=0:=by
 obtain ⟨c1,c2,c3,c4,c5,c6,c7,c8⟩:=uz h ke
 have g: ∀{l:List Int} {m:Nat} {V:Nat->Int},(∀x,x∈l-> ∃j,j<m/\V j=x)->gd l.length (fun i=>l.getD i 0) m V=false:=fun h=>lA.2 fun k hk=>by
  obtain ⟨j,hj,e⟩:=h _ (Bd hk)
  rw [bj]
  exact kA.2 ⟨j,hj,by simpa using e⟩
 rw [B4,ab (by omega),ab (by rw [g c3,g c4];simp),ab (by rw [c5,c6];simp)]
theorem H7 {nB:Nat} {B:Nat->Int} {nO:Nat} {O:Nat->Int} {W G L len:Int} (h:iE nB B nO O W G L len=0) (ke:lD (eO nB B nO O (nB+nO)) (mE nB B nO O) len=true):
 j6 nB B nO O (iW nB B nO O W G L len false).length (fun i=>(iW nB B nO O W G L len false).getD i 0) (iW nB B nO O W G L len true).length (fun i=>(iW nB B nO O W G L len true).getD i 0) len=0:=by
 obtain ⟨c1,c2,c3,c4,c5,c6,c7,c8⟩:=uz h ke
 rw [j6,ag (U9 h ke),Dw,Dw,ag c7]
end
section
section
variable {l:List (Nat×Int)} (hc: ∀p∈l,0<=p.2/\p.2<=10001)
include hc
end
inductive Rep (l:List Nat):Nat->Prop
 |zero:Rep l 0
 |add {m k:Nat} (hm:m∈l) (h1:1<=m) (h2:m<=k) (h:Rep l (k - m)):Rep l k
theorem Rep.mono {l l':List Nat} (h: ∀m,m∈l->m∈l') {k:Nat} (r:Rep l k):Rep l' k:=by
 induction r with
 |zero=>exact .zero
 |add hm h1 h2 _ ih=>exact .add (h _ hm) h1 h2 ih
end
end Go.Abs.Lay
end
section
set_option maxRecDepth 100000
namespace Go.Abs
open Go
def dF (b:dL) (nB:Nat) (B:Nat->Int) (nO:Nat) (O:Nat->Int) (W G:Int) (f i e:Nat):Int:=dpF (kR b nB B nO O W G) f i e
def dW (b:dL) (nB:Nat) (B:Nat->Int) (nO:Nat) (O:Nat->Int) (W G:Int) (f i c e:Nat):Int:=KI (kR b nB B nO O W G i) (dX b nB B nO O W G f i 0) (dX b nB B nO O W G f i 1) c e
def jY (b:dL) (nB:Nat) (B:Nat->Int) (nO:Nat) (O:Nat->Int) (W G:Int) (f:Nat):Nat->Int
 |0=>(f:Int)
 |k+1=>[dF b nB B nO O W G f (b.N 0 - k) 0,dF b nB B nO O W G f (b.N 0 - k) 1].getD (jY b nB B nO O W G f k).toNat 0
def Vk (x y:Int):Int:=if 0<=x then (if 0<=y/\y<x then 1 else 0) else if 0<=y then 1 else -1
def fZ (b:dL) (nB:Nat) (B:Nat->Int) (nO:Nat) (O:Nat->Int) (W G:Int):Int:=Vk (dX b nB B nO O W G 0 (b.N 0) 0) (dX b nB B nO O W G 1 (b.N 0) 1)
def VE (b:dL) (nB:Nat) (B:Nat->Int) (nO:Nat) (O:Nat->Int) (W G L:Int):Nat:=Uf (iq (b.N 0) (b.X 0) (b.Y 0) G W (4*b.N 0)) (FI nB B nO O W G L)
abbrev Yt (b:dL) (nB:Nat) (B:Nat->Int) (nO:Nat) (O:Nat->Int) (W G L:Int):DV:= .dt (VE b nB B nO O W G L) [fun k=>dI (rh nB B nO O W G L k)]
abbrev YV:DV:= .val (.slice none 0 0)
def bx9 (T:DV) (n nx i:Nat):Nat->List DV
 |0=>[T,.row 2 (nx+50) 0 (i+1),YV]
 |_+1=>[T,.row 2 (nx+50) 0 (n+1),.row 2 (nx+51) 0 (i+1)]
def Vi (n nx i:Nat):Nat->List DV
 |0=>[.row 2 (nx+51) 0 (i+1),YV]
 |_+1=>[.row 2 (nx+52) 0 (n+1),.row 2 (nx+53) 0 (i+1)]
abbrev cX (b:dL) (nB:Nat) (B:Nat->Int) (nO:Nat) (O:Nat->Int) (W G:Int) (f:Nat):List (Nat->DV):=[fun j=>dI (dX b nB B nO O W G f j 0),fun j=>dI (dX b nB B nO O W G f j 1)]
abbrev cF (b:dL) (nB:Nat) (B:Nat->Int) (nO:Nat) (O:Nat->Int) (W G:Int) (f:Nat):List (Nat->DV):=[fun j=>dI (dF b nB B nO O W G f j 0),fun j=>dI (dF b nB B nO O W G f j 1)]
def rbB (b:dL) (nB:Nat) (B:Nat->Int) (nO:Nat) (O:Nat->Int) (W G:Int) (i:Nat):Nat->List (Nat×Nat×Nat×Nat×List (Nat->DV))
 |0=>[(9,1,2,i+1,cX b nB B nO O W G 0),(10,0,2,i+1,cF b nB B nO O W G 0)]
 |_+1=>[(9,1,2,b.N 0+1,cX b nB B nO O W G 0),(9,2,2,i+1,cX b nB B nO O W G 1),(10,0,2,b.N 0+1,cF b nB B nO O W G 0),(10,1,2,i+1,cF b nB B nO O W G 1)]
def bC (b:dL) (nB:Nat) (B:Nat->Int) (nO:Nat) (O:Nat->Int) (W G:Int) (f j:Nat):Int:=jY b nB B nO O W G f (b.N 0 - j)
def bL (b:dL) (nB:Nat) (B:Nat->Int) (nO:Nat) (O:Nat->Int) (W G:Int) (f j:Nat):Int:=kb b G W j (bC b nB B nO O W G f j) (bC b nB B nO O W G f (((j:Int)+1)%(b.N 0:Int)).toNat)
def cl (nB:Nat) (B:Nat->Int) (nO:Nat) (O:Nat->Int) (W G L len:Int) (s:Bool):List Int:=Lay.wo (Lay.fQ nB B nO O W G L) (Lay.ir nB B nO O W G L) (Lay.eI nB B nO O) (Lay.ew nB) (rh nB B nO O W G L) (fun i=>decide (nB<=i)) s len
def okL (nB:Nat) (B:Nat->Int) (nO:Nat) (O:Nat->Int) (W G L len:Int):Bool:=Lay.lD (Lay.fQ nB B nO O W G L) (rh nB B nO O W G L) len
abbrev runB (b:dL) (nB:Nat) (B:Nat->Int) (nO:Nat) (O:Nat->Int) (W G L:Int) (f:Nat):List (Nat->DV):=[fun j=>dI (j:Int),fun j=>dI (OU b G W j (bC b nB B nO O W G f j)),fun j=>dI (OT b G W j (bC b nB B nO O W G f j)),fun j=>dI (bL b nB B nO O W G f j),fun j=>Lay.Hl (cl nB B nO O W G L (bL b nB B nO O W G f j) false),fun j=>Lay.Hl (cl nB B nO O W G L (bL b nB B nO O W G f j) true)]
def bE (b:dL) (nB:Nat) (B:Nat->Int) (nO:Nat) (O:Nat->Int) (W G:Int):Int:=if fZ b nB B nO O W G<0 then 13 else 0
def bN (b:dL) (nB:Nat) (B:Nat->Int) (nO:Nat) (O:Nat->Int) (W G:Int):Nat:=if fZ b nB B nO O W G<0 then 0 else b.N 0
def B5 (b:dL) (nB:Nat) (B:Nat->Int) (nO:Nat) (O:Nat->Int) (W G L:Int) (f:Nat):gE:=⟨bN b nB B nO O W G,bC b nB B nO O W G f,bN b nB B nO O W G,fun j=>j,fun j=>OU b G W j (bC b nB B nO O W G f j),fun j=>OT b G W j (bC b nB B nO O W G f j),bL b nB B nO O W G f,fun j=>(cl nB B nO O W G L (bL b nB B nO O W G f j) false).length,fun j k=>(cl nB B nO O W G L (bL b nB B nO O W G f j) false).getD k 0,fun j=>(cl nB B nO O W G L (bL b nB B nO O W G f j) true).length,fun j k=>(cl nB B nO O W G L (bL b nB B nO O W G f j) true).getD k 0⟩
def bPr (b:dL) (nB:Nat) (B:Nat->Int) (nO:Nat) (O:Nat->Int) (W G L:Int):nY:=⟨if fZ b nB B nO O W G<0 then 0 else VE b nB B nO O W G L,rh nB B nO O W G L,if fZ b nB B nO O W G<0 then 0 else b.N 0+1,fun j=>dX b nB B nO O W G 0 j 0,fun j=>dX b nB B nO O W G 0 j 1,if fZ b nB B nO O W G<0 then 0 else b.N 0+1,fun j=>dX b nB B nO O W G 1 j 0,fun j=>dX b nB B nO O W G 1 j 1⟩
section
variable {b:dL} {nB:Nat} {B:Nat->Int} {nO:Nat} {O:Nat->Int} {W G L:Int} {f i c e:Nat} {x k:Int}
theorem mD (h:c%2≠e):dW b nB B nO O W G f i c e=dW b nB B nO O W G f i (c+1) e:=by
 unfold dW
 rw [KI,ab]
 rw [R0,ah]
 exact fun hx=>h hx.1
theorem yd (hx:pr (dX b nB B nO O W G f i 0) (dX b nB B nO O W G f i 1) (c/2)=x) (hk:kR b nB B nO O W G i c=k) (h1:c%2=e) (h2:(x>=0/\k>=0)/\(dZ b nB B nO O W G f i c e<0\/x+k<dZ b nB B nO O W G f i c e)):((c/2:Nat):Int)=dW b nB B nO O W G f i (c+1) e:=by
 unfold dZ at h2
 unfold dW
 rw [KI,ag]
 rw [R0,ah,hx,hk]
 exact ⟨h1,h2.1.1,h2.1.2,h2.2⟩
theorem mr (hx:pr (dX b nB B nO O W G f i 0) (dX b nB B nO O W G f i 1) (c/2)=x) (hk:kR b nB B nO O W G i c=k) (h2:x>=0/\k>=0-> ¬dZ b nB B nO O W G f i c e<0/\ ¬x+k<dZ b nB B nO O W G f i c e):dW b nB B nO O W G f i c e=dW b nB B nO O W G f i (c+1) e:=by
 unfold dZ at h2
 unfold dW
 rw [KI,ab]
 rw [R0,ah,hx,hk]
 exact fun h=>by
  have:=h2 ⟨h.2.1,h.2.2.1⟩
  have:=h.2.2.2
  omega
theorem As (hf:f<=1) (hx:0<=dX b nB B nO O W G f (b.N 0) f): ∀k,k<=b.N 0->(jY b nB B nO O W G f k=0\/jY b nB B nO O W G f k=1)/\0<=dX b nB B nO O W G f (b.N 0 - k) (jY b nB B nO O W G f k).toNat/\
 (k<b.N 0->(jY b nB B nO O W G f (k+1)=0\/jY b nB B nO O W G f (k+1)=1)/\0<=kR b nB B nO O W G (b.N 0 - k - 1) (2*(jY b nB B nO O W G f (k+1)).toNat+(jY b nB B nO O W G f k).toNat)/\dX b nB B nO O W G f (b.N 0 - k) (jY b nB B nO O W G f k).toNat=dX b nB B nO O W G f (b.N 0 - k - 1) (jY b nB B nO O W G f (k+1)).toNat+kR b nB B nO O W G (b.N 0 - k - 1) (2*(jY b nB B nO O W G f (k+1)).toNat+(jY b nB B nO O W G f k).toNat)/\0<=dX b nB B nO O W G f (b.N 0 - k - 1) (jY b nB B nO O W G f (k+1)).toNat):=by
 have step: ∀k,k<b.N 0->(jY b nB B nO O W G f k=0\/jY b nB B nO O W G f k=1)->0<=dX b nB B nO O W G f (b.N 0 - k) (jY b nB B nO O W G f k).toNat->(jY b nB B nO O W G f (k+1)=0\/jY b nB B nO O W G f (k+1)=1)/\0<=kR b nB B nO O W G (b.N 0 - k - 1) (2*(jY b nB B nO O W G f (k+1)).toNat+(jY b nB B nO O W G f k).toNat)/\dX b nB B nO O W G f (b.N 0 - k) (jY b nB B nO O W G f k).toNat=dX b nB B nO O W G f (b.N 0 - k - 1) (jY b nB B nO O W G f (k+1)).toNat+kR b nB B nO O W G (b.N 0 - k - 1) (2*(jY b nB B nO O W G f (k+1)).toNat+(jY b nB B nO O W G f k).toNat)/\0<=dX b nB B nO O W G f (b.N 0 - k - 1) (jY b nB B nO O W G f (k+1)).toNat:=fun k hk hc hd=>by
  obtain ⟨m,hm⟩: ∃m,b.N 0 - k=m+1:=⟨b.N 0 - k - 1,by omega⟩
  rw [hm] at hd ⊢
  rw [show m+1 - 1=m by omega]
  have hp:jY b nB B nO O W G f (k+1)=dF b nB B nO O W G f (m+1) (jY b nB B nO O W G f k).toNat:=by
   rw [jY,hm]
   rcases hc with h|h<;>rw [h]<;>rfl
  rw [hp]
  have rT:0<=Gp (kR b nB B nO O W G m) (dX b nB B nO O W G f m 0) (dX b nB B nO O W G f m 1) 4 (jY b nB B nO O W G f k).toNat:=hd
  obtain ⟨i1,i2,i3,i4⟩:=RY 4 _ (by omega) (ae _) rT
  have e1:dF b nB B nO O W G f (m+1) (jY b nB B nO O W G f k).toNat=KI (kR b nB B nO O W G m) (dX b nB B nO O W G f m 0) (dX b nB B nO O W G f m 1) 4 (jY b nB B nO O W G f k).toNat:=rfl
  rw [e1]
  generalize KI (kR b nB B nO O W G m) (dX b nB B nO O W G f m 0) (dX b nB B nO O W G f m 1) 4 (jY b nB B nO O W G f k).toNat=q at*
  have e2:pr (dX b nB B nO O W G f m 0) (dX b nB B nO O W G f m 1) q.toNat=dX b nB B nO O W G f m q.toNat:=by rcases i1 with h|h<;>rw [h]<;>rfl
  rw [e2] at i2 i4
  exact ⟨i1,i3,i4,i2⟩
 intro k
 induction k with
 |zero=>
  intro _
  have e0:jY b nB B nO O W G f 0=(f:Int):=rfl
  have h0:(jY b nB B nO O W G f 0=0\/jY b nB B nO O W G f 0=1):=by rw [e0];omega
  have h1:0<=dX b nB B nO O W G f (b.N 0 - 0) (jY b nB B nO O W G f 0).toNat:=by rw [e0];exact hx
  exact ⟨h0,h1,fun hk=>step 0 hk h0 h1⟩
 |succ k ih=>
  intro hk
  obtain ⟨h0,h1,h2⟩:=ih (by omega)
  obtain ⟨j1,j2,j3,j4⟩:=h2 (by omega)
  have j4':0<=dX b nB B nO O W G f (b.N 0 - (k+1)) (jY b nB B nO O W G f (k+1)).toNat:=by rw [show b.N 0 - (k+1)=b.N 0 - k - 1 by omega];exact j4
  exact ⟨j1,j4',fun oo=>step (k+1) oo j1 j4'⟩
end
end Go.Abs
end
