/- Contracts and what they stand on. -/
import Derived.Test.YtoinjphpfpklmaaGreatDoorL7
set_option linter.unusedVariables false
set_option linter.unusedSimpArgs false
section
set_option maxRecDepth 100000
namespace Go.Abs
open Go
abbrev uF (c0 c1:DV) (rf:Int) (c3 c4 c5 c6:DV) (W G L:Int) (qy nY:DV) (n:Nat) (X Y:Nat->Int):DV:= .dN [c0,c1,dI rf,c3,c4,c5,c6,dI W,dI G,dI L,qy,nY,.di n (xV n X Y),.di n [fun k=>dI (lM n X Y k)]]
theorem RN {n:Nat} {X Y:Nat->Int} {i:Int} (h:0<=i):lM n X Y i.toNat=eV n X Y i:=by
 have e:lM n X Y i.toNat=eV n X Y (i.toNat:Nat):=rfl
 rw [e,bH h]
theorem fW {n:Nat} {i:Int} (h:0<=i/\i<n):ix n i=i.toNat:=by
 unfold ix
 rw [bw,Int.emod_eq_of_lt h.1 h.2]
def j8 (G W:Int):Prop:=0<=G/\G<=5000/\1<=W/\W<=5000
theorem Ds {a W:Int} (h:0<=a/\a<=1) (hW:1<=W/\W<=5000):(a*W=0/\(1 - a)*W=W/\a=0)\/(a*W=W/\(1 - a)*W=0/\a=1):=by
 obtain rfl|rfl:a=0\/a=1:=by omega
 ·exact .inl ⟨by omega,by omega,rfl⟩
 ·exact .inr ⟨by omega,by omega,rfl⟩
theorem pU {n:Nat} {X Y:Nat->Int} {G W a:Int} (i:Int) (hg:j8 G W) (ha:0<=a/\a<=1): -20000<=ft n X Y G W i a/\ft n X Y G W i a<=20000:=by
 obtain ⟨g1,g2,g3,g4⟩:=hg
 have hm:=Ds ha ⟨g3,g4⟩
 unfold ft
 split<;>omega
theorem xO {n:Nat} {X Y:Nat->Int} {G W a:Int} (i:Int) (hn:0<n) (hX:kM n X) (hY:kM n Y) (hg:j8 G W) (ha:0<=a/\a<=1): -20000<=gA n X Y G W i a/\gA n X Y G W i a<=4020000:=by
 obtain ⟨g1,g2,g3,g4⟩:=hg
 have hm:=Ds ha ⟨g3,g4⟩
 have hl:=vr hn hX hY i
 unfold gA
 split<;>omega
theorem EN {d t:Int} (h:0<=d/\d<4) (ht: -9000000<=t/\t<=9000000):(-9000000<=t*jY d/\t*jY d<=9000000)/\(-9000000<=t*jX d/\t*jX d<=9000000):=by
 obtain ⟨e1,e2⟩|⟨e1,e2⟩|⟨e1,e2⟩|⟨e1,e2⟩:=Ph h
 all_goals
  rw [e1,e2]
  omega
theorem JI {rf L:Int} (hr:0<=rf/\rf<=1000000) (hL:1<=L/\L<=10000):0<=rf/L/\rf/L<=1000000/\0<gq rf L/\gq rf L<=1010000:=by
 have h1:=bZ hr.1 (show 0<=L by omega)
 have h2:=Int.ediv_le_self L hr.1
 have h3:=Int.ediv_mul_le rf (show L≠0 by omega)
 unfold gq
 have h4:0<=rf/L*L:=Int.mul_nonneg h1 (by omega)
 rw [Int.add_mul,cp]
 omega
noncomputable def U7 (c0 c1:DV) (rf:Int) (c3 c4 c5 c6:DV) (W G L:Int) (qy nY:DV) (n:Nat) (X Y:Nat->Int):eH:={ dq:=[],loops:=[],dw:=[] }
theorem VC (c0 c1:DV) (rf:Int) (c3 c4 c5 c6:DV) (W G L:Int) (qy nY:DV) (n:Nat) (X Y:Nat->Int) :dm prog 33 [uF c0 c1 rf c3 c4 c5 c6 W G L qy nY n X Y] (dI (n:Int)):=by
 refine db dv (U7 c0 c1 rf c3 c4 c5 c6 W G L qy nY n X Y) (V:= .done [(n:Int)=(n:Int)]) (by kernel_rfl) ?_
 simp only [VT.holds,dt,Sq]
noncomputable def F2 (c0 c1:DV) (rf:Int) (c3 c4 c5 c6:DV) (W G L:Int) (qy nY:DV) (n:Nat) (X Y:Nat->Int) (i a:Int):eH:={ dq:=[],loops:=[],dw:=[] }
theorem rR (c0 c1:DV) (rf:Int) (c3 c4 c5 c6:DV) (W G L:Int) (qy nY:DV) (n:Nat) (X Y:Nat->Int) (i a:Int) (h:0<=i/\i<n) (hg:j8 G W) (ha:0<=a/\a<=1):dm prog 36 [uF c0 c1 rf c3 c4 c5 c6 W G L qy nY n X Y,dI i,dI a] (dI (ft n X Y G W i a)):=by
 refine db dv (F2 c0 c1 rf c3 c4 c5 c6 W G L qy nY n X Y i a) (V:= .da [(0:Int)<=i/\i<(n:Int)] (.ite (decide (lM n X Y i.toNat>0)) (.da [cZ (-G),cZ (a*W),cZ (-G - a*W)] (.done [-G - a*W=ft n X Y G W i a])) (.da [cZ ((1:Int) - a),cZ (((1:Int) - a)*W),cZ (G+((1:Int) - a)*W)] (.done [G+((1:Int) - a)*W=ft n X Y G W i a])))) (by kernel_rfl) ?_
 simp only [VT.holds,dt,Sq]
 rw [RN h.1]
 obtain ⟨g1,g2,g3,g4⟩:=hg
 have hm:=Ds ha ⟨g3,g4⟩
 refine ⟨h,fun h1=>⟨?_,?_⟩,fun h1=>⟨?_,?_⟩⟩
 ·unfold cZ;omega
 ·rw [ft,ah h1]
 ·unfold cZ;omega
 ·rw [ft,ae h1]
noncomputable def FL (c0 c1:DV) (rf:Int) (c3 c4 c5 c6:DV) (W G L:Int) (qy nY:DV) (n:Nat) (X Y:Nat->Int) (i a:Int):eH:={ dq:=[(1,[(7,.res fun _=>dI (n:Int)),(8,.pos)])],loops:=[],dw:=[] }
theorem Is (c0 c1:DV) (rf:Int) (c3 c4 c5 c6:DV) (W G L:Int) (qy nY:DV) (n:Nat) (X Y:Nat->Int) (i a:Int) (h:0<=i/\i<n) (hn:n<=1000) (hX:kM n X) (hY:kM n Y) (hg:j8 G W) (ha:0<=a/\a<=1):dm prog 96 [uF c0 c1 rf c3 c4 c5 c6 W G L qy nY n X Y,dI i,dI a] (dI (gA n X Y G W i a)):=by
 refine db dv (FL c0 c1 rf c3 c4 c5 c6 W G L qy nY n X Y i a) (V:= .da [cZ (i+1),dm prog 33 [.dN [c0,c1,(dI rf),c3,c4,c5,c6,(dI W),(dI G),(dI L),qy,nY,.di n [fun i=>(dI (X i)),fun i=>(dI (Y i)),fun i=>(dI (X (ix n ((i:Int)+1)))),fun i=>(dI (Y (ix n ((i:Int)+1)))),fun i=>(dI (ee n X Y (i:Int))),fun i=>(dI (dD n X Y (i:Int)))],.di n [fun k=>(dI (lM n X Y k))]]] ((dI (n:Int))),(0:Int)<=i+1/\(0:Int)<(n:Int),(0:Int)<=(i+1)%(n:Int)/\(i+1)%(n:Int)<(n:Int)] (.ite (decide (lM n X Y ((i+1)%(n:Int)).toNat>0)) (.da [(0:Int)<=i/\i<(n:Int),cZ (ee n X Y (↑i.toNat:Int)+G),cZ ((1:Int) - a),cZ (((1:Int) - a)*W),cZ (ee n X Y (↑i.toNat:Int)+G+((1:Int) - a)*W)] (.done [ee n X Y (↑i.toNat:Int)+G+((1:Int) - a)*W=gA n X Y G W i a])) (.da [(0:Int)<=i/\i<(n:Int),cZ (ee n X Y (↑i.toNat:Int) - G),cZ (a*W),cZ (ee n X Y (↑i.toNat:Int) - G - a*W)] (.done [ee n X Y (↑i.toNat:Int) - G - a*W=gA n X Y G W i a])))) (by kernel_rfl) ?_
 simp only [VT.holds,dt,Sq]
 rw [A8 (by omega),bH h.1]
 have he:=bf (i+1) (show (n:Int)≠0 by omega)
 have he2:=bm (i+1) (show (0:Int)<n by omega)
 have hl:=vr (n:=n) (by omega) hX hY i
 obtain ⟨g1,g2,g3,g4⟩:=hg
 have hm:=Ds ha ⟨g3,g4⟩
 refine ⟨⟨by unfold cZ;omega,VC _ _ _ _ _ _ _ _ _ _ _ _ _ _ _,by omega,he,he2⟩,fun h1=>⟨⟨h,?_⟩,?_⟩,fun h1=>⟨⟨h,?_⟩,?_⟩⟩
 ·unfold cZ;omega
 ·rw [gA,ah h1]
 ·unfold cZ;omega
 ·rw [gA,ae h1]
noncomputable def F4 (c0 c1:DV) (rf:Int) (c3 c4 c5 c6:DV) (W G L:Int) (qy nY:DV) (n:Nat) (X Y:Nat->Int) (i a b:Int):eH:={ dq:=[(1,[(3,.res fun _=>dI (gA n X Y G W i b)),(7,.res fun _=>dI (ft n X Y G W i a))])],loops:=[],dw:=[] }
theorem qN (c0 c1:DV) (rf:Int) (c3 c4 c5 c6:DV) (W G L:Int) (qy nY:DV) (n:Nat) (X Y:Nat->Int) (i a b:Int) (h:0<=i/\i<n) (hn:n<=1000) (hX:kM n X) (hY:kM n Y) (hg:j8 G W) (ha:0<=a/\a<=1) (hb:0<=b/\b<=1):dm prog 37 [uF c0 c1 rf c3 c4 c5 c6 W G L qy nY n X Y,dI i,dI a,dI b] (dI (jG n X Y G W i a b)):=by
 refine db dv (F4 c0 c1 rf c3 c4 c5 c6 W G L qy nY n X Y i a b) (V:= .da [dm prog 96 [.dN [c0,c1,(dI rf),c3,c4,c5,c6,(dI W),(dI G),(dI L),qy,nY,.di n [fun i=>(dI (X i)),fun i=>(dI (Y i)),fun i=>(dI (X (ix n ((i:Int)+1)))),fun i=>(dI (Y (ix n ((i:Int)+1)))),fun i=>(dI (ee n X Y (i:Int))),fun i=>(dI (dD n X Y (i:Int)))],.di n [fun k=>(dI (lM n X Y k))]],(dI i),(dI b)] ((dI (gA n X Y G W i b))),dm prog 36 [.dN [c0,c1,(dI rf),c3,c4,c5,c6,(dI W),(dI G),(dI L),qy,nY,.di n [fun i=>(dI (X i)),fun i=>(dI (Y i)),fun i=>(dI (X (ix n ((i:Int)+1)))),fun i=>(dI (Y (ix n ((i:Int)+1)))),fun i=>(dI (ee n X Y (i:Int))),fun i=>(dI (dD n X Y (i:Int)))],.di n [fun k=>(dI (lM n X Y k))]],(dI i),(dI a)] ((dI (ft n X Y G W i a))),cZ (gA n X Y G W i b - ft n X Y G W i a)] (.done [gA n X Y G W i b - ft n X Y G W i a=jG n X Y G W i a b])) (by kernel_rfl) ?_
 simp only [VT.holds,dt,Sq]
 have b1:=pU (n:=n) (X:=X) (Y:=Y) i hg ha
 have b2:=xO i (by omega) hX hY hg hb
 exact ⟨⟨Is _ _ _ _ _ _ _ _ _ _ _ _ _ _ _ _ _ h hn hX hY hg hb,rR _ _ _ _ _ _ _ _ _ _ _ _ _ _ _ _ _ h hg ha,by unfold cZ;omega⟩,rfl⟩
noncomputable def F3 (c0 c1:DV) (rf:Int) (c3 c4 c5 c6:DV) (W G L:Int) (qy nY:DV) (n:Nat) (X Y:Nat->Int) (i al out:Int):eH:={ dq:=[],loops:=[],dw:=[] }
namespace w2p
noncomputable section
structure Z where
 c0:DV
 c1:DV
 rf:Int
 c3:DV
 c4:DV
 c5:DV
 c6:DV
 W:Int
 G:Int
 L:Int
 qy:DV
 nY:DV
 n:Nat
 X:Nat->Int
 Y:Nat->Int
 i:Int
 al:Int
 out:Int
variable (z:Z) (a:Int) (Oi:Nat->Int) (Dz:List Int)
abbrev x0:=dD z.n z.X z.Y (↑(Int.toNat z.i):Int)
abbrev x1:=a*List.getD Dz (Int.toNat (x0 z%4)) 0
abbrev x2:List Int:=[(0:Int),(1:Int),(0:Int),-(1:Int)]
abbrev x3:List Int:=[(1:Int),(0:Int),-(1:Int),(0:Int)]
abbrev x4:=(Oi (Int.toNat z.i))+x1 z z.al Dz
abbrev x5:=x4 z z.X x3+x1 z z.out x2
abbrev x6:=x4 z z.Y x2 - x1 z z.out x3
abbrev xt:VT:=VT.da [0<=z.i/\z.i<(z.n:Int)] (VT.da [0<=x0 z/\x0 z<=9223372036854775807/\rf (3:Int),0<=x0 z%4/\x0 z%4<(↑(4:Nat):Int)] (VT.da [cZ (x1 z z.al x3),cZ (x4 z z.X x3),cZ (x1 z z.out x2),cZ (x5 z),cZ (x1 z z.al x2),cZ (x4 z z.Y x2),cZ (x1 z z.out x3),cZ (x6 z)] (VT.done [x5 z=qB z.n z.X z.Y z.i z.al z.out,x6 z=qA z.n z.X z.Y z.i z.al z.out])))
end
end w2p
open w2p in
theorem qS (c0 c1:DV) (rf:Int) (c3 c4 c5 c6:DV) (W G L:Int) (qy nY:DV) (n:Nat) (X Y:Nat->Int) (i al out:Int) (h:0<=i/\i<n) (hX:kM n X) (hY:kM n Y) (h1: -9000000<=al/\al<=9000000) (h2: -9000000<=out/\out<=9000000):dm prog 35 [uF c0 c1 rf c3 c4 c5 c6 W G L qy nY n X Y,dI i,dI al,dI out] (dP (qB n X Y i al out) (qA n X Y i al out)):=by
 refine db dv (F3 c0 c1 rf c3 c4 c5 c6 W G L qy nY n X Y i al out) (V:=xt ⟨c0,c1,rf,c3,c4,c5,c6,W,G,L,qy,nY,n,X,Y,i,al,out⟩) (by kernel_rfl) ?_
 simp only [xt,x0,x1,x2,x3,x4,x5,x6,Rf,VT.holds,dt,Sq]
 rw [bH h.1]
 have hd:=fH n X Y i
 have QO:0<=dD n X Y i/\dD n X Y i<4:=by omega
 rw [Int.emod_eq_of_lt QO.1 QO.2,gX QO,gY QO]
 have x1:=hX i.toNat (by omega)
 have y1:=hY i.toNat (by omega)
 obtain ⟨m1,m2⟩:=EN QO h1
 obtain ⟨m3,m4⟩:=EN QO h2
 refine ⟨h,⟨by omega,QO⟩,by unfold cZ;omega,?_,?_⟩
 ·rw [qB,fW h]
 ·rw [qA,fW h]
noncomputable def Jb (c0 c1:DV) (rf:Int) (c3 c4 c5 c6:DV) (W G L:Int) (qy nY:DV) (n:Nat) (X Y:Nat->Int):eH:={ dq:=[(1,[(10,.pos)])],loops:=[],dw:=[] }
theorem XU (c0 c1:DV) (rf:Int) (c3 c4 c5 c6:DV) (W G L:Int) (qy nY:DV) (n:Nat) (X Y:Nat->Int) (hr:0<=rf/\rf<=1000000) (hL:1<=L/\L<=10000):dm prog 103 [uF c0 c1 rf c3 c4 c5 c6 W G L qy nY n X Y] (dI (gq rf L)):=by
 refine db dv (Jb c0 c1 rf c3 c4 c5 c6 W G L qy nY n X Y) (V:=VT.da
  [(0:Int)<=rf/\(0:Int)<L/\rf<=9223372036854775807,cZ (rf/L+1),
    cZ ((rf/L+1)*L)]
  (VT.done [(rf/L+1)*L=gq rf L])) (by kernel_rfl) ?_
 simp only [VT.holds,dt,Sq]
 obtain ⟨t1,t2,t3,t4⟩:=JI hr hL
 have e:(rf/L+1)*L=gq rf L:=rfl
 rw [e]
 exact ⟨⟨by omega,by unfold cZ;omega,by unfold cZ;omega⟩,rfl⟩
noncomputable def CB (c0 c1:DV) (rf:Int) (c3 c4 c5 c6:DV) (W G L:Int) (qy nY:DV) (n:Nat) (X Y:Nat->Int) (i a b:Int):eH:={ dq:=[(1,[(5,.res fun _=>dI (ft n X Y G W i a)),(11,.res fun _=>dP (qB n X Y i (ft n X Y G W i a) G) (qA n X Y i (ft n X Y G W i a) G))]),(2,[(5,.res fun _=>dI (gA n X Y G W i b)),(17,.res fun _=>dP (qB n X Y i (gA n X Y G W i b) (G+W)) (qA n X Y i (gA n X Y G W i b) (G+W)))]),(3,[(21,.res fun _=>dI (gq rf L))])],loops:=[],dw:=[] }
namespace w2r
noncomputable section
structure Z where
 c0:DV
 c1:DV
 rf:Int
 c3:DV
 c4:DV
 c5:DV
 c6:DV
 W:Int
 G:Int
 L:Int
 qy:DV
 nY:DV
 n:Nat
 X:Nat->Int
 Y:Nat->Int
 i:Int
 a:Int
 b:Int
variable (z:Z) (a b c d:Int)
abbrev x0:=ft z.n z.X z.Y z.G z.W z.i z.a
abbrev x1:=gA z.n z.X z.Y z.G z.W z.i z.b
abbrev x2:=DV.dN [z.c0,z.c1,dI z.rf,z.c3,z.c4,z.c5,z.c6,dI z.W,dI z.G,dI z.L,z.qy,z.nY,DV.di z.n [fun i0=>dI (z.X i0),fun i0=>dI (z.Y i0),fun i0=>dI (z.X (ix z.n ((i0:Int)+1))),fun i0=>dI (z.Y (ix z.n ((i0:Int)+1))),fun i0=>dI (ee z.n z.X z.Y (i0:Int)),fun i0=>dI (dD z.n z.X z.Y (i0:Int))],DV.di z.n [fun i0=>dI (lM z.n z.X z.Y i0)]]
abbrev x3:=qB z.n z.X z.Y z.i (x0 z) z.G
abbrev x4:=qB z.n z.X z.Y z.i (x1 z) (z.G+z.W)
abbrev x5:=qA z.n z.X z.Y z.i (x0 z) z.G
abbrev x6:=qA z.n z.X z.Y z.i (x1 z) (z.G+z.W)
abbrev x7:=dm prog 35 [x2 z,dI z.i,dI a,dI b] (DV.val (Value.agg (Array.mk [Value.int IntKind.i64 c,Value.int IntKind.i64 d])))
abbrev xt:VT:=VT.da [dm prog 36 [x2 z,dI z.i,dI z.a] (dI (x0 z)),x7 z (x0 z) z.G (x3 z) (x5 z)] (VT.da [dm prog 96 [x2 z,dI z.i,dI z.b] (dI (x1 z)),cZ (z.G+z.W),x7 z (x1 z) (z.G+z.W) (x4 z) (x6 z)] (VT.da [dm prog 103 [x2 z] (dI (gq z.rf z.L))] (VT.done [iM (x3 z) [x4 z]=lC z.n z.X z.Y z.G z.W z.i z.a z.b,iM (x5 z) [x6 z]=lA z.n z.X z.Y z.G z.W z.i z.a z.b,rf (0:Int),hP (x3 z) [x4 z]=lB z.n z.X z.Y z.G z.W z.i z.a z.b,hP (x5 z) [x6 z]=lz z.n z.X z.Y z.G z.W z.i z.a z.b,rf (gq z.rf z.L)])))
end
end w2r
open w2r in
theorem xb (c0 c1:DV) (rf:Int) (c3 c4 c5 c6:DV) (W G L:Int) (qy nY:DV) (n:Nat) (X Y:Nat->Int) (i a b:Int) (h:0<=i/\i<n) (hn:n<=1000) (hX:kM n X) (hY:kM n Y) (hg:j8 G W) (ha:0<=a/\a<=1) (hb:0<=b/\b<=1) (hr:0<=rf/\rf<=1000000) (hL:1<=L/\L<=10000):dm prog 40 [uF c0 c1 rf c3 c4 c5 c6 W G L qy nY n X Y,dI i,dI a,dI b] (bx (lC n X Y G W i a b) (lA n X Y G W i a b) 0 (lB n X Y G W i a b) (lz n X Y G W i a b) (gq rf L)):=by
 refine db dv (CB c0 c1 rf c3 c4 c5 c6 W G L qy nY n X Y i a b) (V:=xt ⟨c0,c1,rf,c3,c4,c5,c6,W,G,L,qy,nY,n,X,Y,i,a,b⟩) (by kernel_rfl) ?_
 simp only [xt,x0,x1,x2,x3,x4,x5,x6,x7,Rf,VT.holds,dt,Sq]
 have b1:=pU (n:=n) (X:=X) (Y:=Y) i hg ha
 have b2:=xO i (by omega) hX hY hg hb
 have om:=hg
 obtain ⟨g1,g2,g3,g4⟩:=om
 exact ⟨⟨rR _ _ _ _ _ _ _ _ _ _ _ _ _ _ _ _ _ h hg ha,qS _ _ _ _ _ _ _ _ _ _ _ _ _ _ _ _ _ _ h hX hY (by omega) (by omega)⟩,⟨Is _ _ _ _ _ _ _ _ _ _ _ _ _ _ _ _ _ h hn hX hY hg hb,by unfold cZ;omega,qS _ _ _ _ _ _ _ _ _ _ _ _ _ _ _ _ _ _ h hX hY (by omega) (by omega)⟩,XU _ _ _ _ _ _ _ _ _ _ _ _ _ _ _ hr hL,yi _ _,yi _ _,vf _ _,vf _ _⟩
noncomputable def IG (nB:Nat) (B:Nat->Int) (nO:Nat) (O:Nat->Int) (W G L c:Int) (has:Bool):eH:={ dq:=[],loops:=[],dw:=[] }
theorem LG (nB:Nat) (B:Nat->Int) (nO:Nat) (O:Nat->Int) (W G L c:Int) (has:Bool) (hg:j8 G W):dm prog 156 [Lay.sys nB B nO O W G L,dI c,dB has] (dI (xd G W c has)):=by
 refine db dv (IG nB B nO O W G L c has) (V:= .da [ri (decide (c>0)=true)] (.ite (if decide (c>0)=true then has else false) (.da [cZ (G+W)] (.done [G+W=xd G W c has])) (.ite (decide (c>0)) (.done [G=xd G W c has]) (.ite has (.da [cZ (-G)] (.done [-G=xd G W c has])) (.da [cZ (-G),cZ (-G - W)] (.done [-G - W=xd G W c has])))))) (by kernel_rfl) ?_
 simp only [VT.holds,dt,Sq]
 obtain ⟨g1,g2,g3,g4⟩:=hg
 unfold xd cZ
 refine ⟨fun ⟨h1,h2⟩=>⟨by omega,by rw [ah h1,ah h2]⟩,fun h1=>⟨fun h2=>by rw [ah h2,ae (by rw [h1 h2];simp)],fun h2=>⟨fun h3=>⟨by omega,by rw [ae h2,ah h3]⟩,fun h3=>⟨by omega,by rw [ae h2,ae (by rw [h3];simp)]⟩⟩⟩⟩
noncomputable def IU (x y x2 y2 len d al r:Int):eH:={ dq:=[(1,[(2,rSt)]),(2,[(3,.pos),(4,rSt)])],loops:=[],dw:=[] }
theorem TC (x y x2 y2 len d al r:Int) (h:0<=d/\d<4) (hx:m3 x) (hy:m3 y) (h1: -9000000<=al/\al<=9000000) (h2: -9000000<=r/\r<=9000000):dm prog 139 [.val (.agg #[.int .i64 x,.int .i64 y,.int .i64 x2,.int .i64 y2,.int .i64 len,.int .i64 d]),dI al,dI r] (dP (x+al*jY d+r*jY ((d+3)%4)) (y+al*jX d+r*jX ((d+3)%4))):=by
 refine db dv (IU x y x2 y2 len d al r) (V:= .da [dm prog 137 [(dI d)] (.fy [(dI (jY d)),(dI (jX d))])] (.da [cZ (d+3),(0:Int)<=d+3/\(0:Int)<4,dm prog 137 [(dI ((d+3)%(4:Int)))] (.fy [(dI (jY ((d+3)%(4:Int)))),(dI (jX ((d+3)%(4:Int))))])] (.da [cZ (al*jY d),cZ (x+al*jY d),cZ (r*jY ((d+3)%(4:Int))),cZ (x+al*jY d+r*jY ((d+3)%(4:Int))),cZ (al*jX d),cZ (y+al*jX d),cZ (r*jX ((d+3)%(4:Int))),cZ (y+al*jX d+r*jX ((d+3)%(4:Int)))] (.done [x+al*jY d+r*jY ((d+3)%(4:Int))=x+al*jY d+r*jY ((d+3)%(4:Int)),y+al*jX d+r*jX ((d+3)%(4:Int))=y+al*jX d+r*jX ((d+3)%(4:Int))])))) (by kernel_rfl) ?_
 simp only [VT.holds,dt,Sq]
 unfold m3 at hx hy
 have h3:0<=(d+3)%4/\(d+3)%4<4:=by omega
 obtain ⟨q1,q2⟩:=EN h h1
 obtain ⟨q3,q4⟩:=EN h3 h2
 refine ⟨El _ h,⟨by unfold cZ;omega,by omega,El _ h3⟩,?_⟩
 unfold cZ;omega
theorem vX0:jY 0=1:=rfl
theorem vX1:jY 1=0:=rfl
theorem vX2:jY 2= -1:=rfl
theorem vX3:jY 3=0:=rfl
theorem vY0:jX 0=0:=rfl
theorem vY1:jX 1=1:=rfl
theorem vY2:jX 2=0:=rfl
theorem vY3:jX 3= -1:=rfl
theorem pos1:((1:Int)>0)=True:=by simp
theorem neg1:((-1:Int)>0)=False:=by simp
theorem Tf {d:Int} (h:0<=d/\d<4):jY ((d+3)%4)=jX d/\jX ((d+3)%4)= -jY d:=by
 obtain rfl|rfl|rfl|rfl:d=0\/d=1\/d=2\/d=3:=by omega
 all_goals exact ⟨rfl,rfl⟩
theorem U3 {n:Nat} {X Y:Nat->Int} {G W i a:Int} (ha:0<=a/\a<=1): -xd G W (eV n X Y i) (decide (a=1))=ft n X Y G W i a:=by
 unfold xd ft
 obtain rfl|rfl:a=0\/a=1:=by omega
 ·rw [show decide ((0:Int)=1)=false from rfl,ae (show ¬false=true by simp),ae (show ¬false=true by simp)]
  split<;>omega
 ·rw [show decide ((1:Int)=1)=true from rfl,ah rfl,ah rfl]
  split<;>omega
theorem U2 {n:Nat} {X Y:Nat->Int} {G W i b:Int} (hb:0<=b/\b<=1):ee n X Y i+xd G W (eV n X Y (i+1)) (decide (b=0))=gA n X Y G W i b:=by
 unfold xd gA
 obtain rfl|rfl:b=0\/b=1:=by omega
 ·rw [show decide ((0:Int)=0)=true from rfl,ah rfl,ah rfl]
  split<;>omega
 ·rw [show decide ((1:Int)=0)=false from rfl,ae (show ¬false=true by simp),ae (show ¬false=true by simp)]
  split<;>omega
theorem ZH {n:Nat} {X Y:Nat->Int} {G W:Int} (h:gz n X Y=0) (hg:j8 G W) (e1:kP n X Y G=0) (e2:kP n X Y (G+W)=0) {i:Nat} (hi:i<n):
 ir (lC n X Y G W i 1 0)=true/\ir (lA n X Y G W i 1 0)=true/\ir (lB n X Y G W i 1 0)=true/\ir (lz n X Y G W i 1 0)=true/\lC n X Y G W i 1 0<lB n X Y G W i 1 0/\lA n X Y G W i 1 0<lz n X Y G W i 1 0:=by
 have hn:=fp h
 obtain ⟨g1,g2,g3,g4⟩:=hg
 obtain ⟨a1,c1⟩:=iw e1
 obtain ⟨a2,c2⟩:=iw e2
 obtain ⟨p1,p2⟩:=eB c1
 obtain ⟨p3,p4⟩:=eB c2
 have YG:=Lv (w:=W) a1 a2 g1 (by omega) hi
 have hj:=jo (n:=n) (i:=(i:Int)+1) (by omega)
 have ej:((ix n ((i:Int)+1):Nat):Int)=((i:Int)+1)%n:=EW (by omega) _
 have ei:ix n (i:Int)=i:=kE hi
 have t1:=zz h hi
 have t2:=zz h hj
 have dj:dD n X Y ((ix n ((i:Int)+1):Nat):Int)=dD n X Y ((i:Int)+1):=V5 (by omega) _
 have dj1:dD n X Y (((ix n ((i:Int)+1):Nat):Int) - 1)=dD n X Y i:=by
  rw [ej]
  refine A6 (by omega) ?_
  rw [show ((i:Int)+1)%(n:Int) - 1 - i=((i:Int)+1)%n - (i+1) by omega]
  exact lj _ _
 have cj:eV n X Y ((ix n ((i:Int)+1):Nat):Int)=eV n X Y ((i:Int)+1):=by
  rw [ej]
  exact HX (by omega) (lj _ _)
 rw [dj,dj1,cj] at t2
 obtain ⟨s1,s2,s3⟩:=Tk (xL h hi)
 have q1:=p1 i hi
 have q2:=p2 i hi
 have q3:=p3 i hi
 have q4:=p4 i hi
 have r1:=p1 _ hj
 have r2:=p2 _ hj
 have r3:=p3 _ hj
 have r4:=p4 _ hj
 unfold pA at q1 q3 r1 r3
 unfold pz at q2 q4 r2 r4
 rw [dj,dj1,s1] at r1 r3
 rw [dj,dj1,s2] at r2 r4
 rw [ei] at r1 r2 r3 r4
 unfold lC lB lA lz qB qA
 rw [ei]
 unfold jG gA ft at YG
 unfold gA ft ir
 simp only [ai]
 have d0:=fH n X Y i
 have d1:=fH n X Y ((i:Int) - 1)
 have d2:=fH n X Y ((i:Int)+1)
 generalize dD n X Y (i:Int)=D at*
 generalize dD n X Y ((i:Int) - 1)=D0 at*
 generalize dD n X Y ((i:Int)+1)=D1 at*
 generalize eV n X Y (i:Int)=C0 at*
 generalize eV n X Y ((i:Int)+1)=C1 at*
 generalize ee n X Y (i:Int)=len at*
 generalize X i=x at*
 generalize Y i=y at*
 clear s1 s2 dj dj1 cj ej ei p1 p2 p3 p4 c1 c2 a1 a2 e1 e2 h hj hn hi
 have k0:=Tf (d:=D) (by omega)
 have k1:=Tf (d:=D0) (by omega)
 have k2:=Tf (d:=D1) (by omega)
 rw [k0.1,k1.1] at q1 q3
 rw [k0.1,k2.1] at r1 r3
 rw [k0.2,k1.2] at q2 q4
 rw [k0.2,k2.2] at r2 r4
 clear k0 k1 k2
 rcases t1 with ⟨rfl,t1⟩|⟨rfl,t1⟩<;>rcases t2 with ⟨rfl,t2⟩|⟨rfl,t2⟩<;>simp only [pos1,neg1,bn,cg] at YG ⊢<;>
 ·obtain rfl|rfl|rfl|rfl:D=0\/D=1\/D=2\/D=3:=by omega
  all_goals
   obtain ⟨rfl⟩|⟨rfl⟩|⟨rfl⟩|⟨rfl⟩:D0=0\/D0=1\/D0=2\/D0=3:=by omega
   all_goals first
    |(exfalso;omega)
    |(obtain ⟨rfl⟩|⟨rfl⟩|⟨rfl⟩|⟨rfl⟩:D1=0\/D1=1\/D1=2\/D1=3:=by omega
      all_goals first
       |(exfalso;omega)
       |(simp only [vX0,vX1,vX2,vX3,vY0,vY1,vY2,vY3] at q1 q2 q3 q4 r1 r2 r3 r4 ⊢
         omega))
end Go.Abs
end
section
set_option maxRecDepth 100000
namespace Go.Abs
open Go
def jU (b:dJ) (G W L:Int) (i j:Nat):Bool:=Dn b (lC (b.N 0) (b.X 0) (b.Y 0) G W i 1 0) (lA (b.N 0) (b.X 0) (b.Y 0) G W i 1 0) 0 (lB (b.N 0) (b.X 0) (b.Y 0) G W i 1 0) (lz (b.N 0) (b.X 0) (b.Y 0) G W i 1 0) (gq b.dr L) j
def oa (b:dJ) (G W L:Int):Bool:=decide (∀i,i<b.N 0-> ∀j,j<b.nB->jU b G W L i j=false)
def ja (b:dJ) (nB:Nat) (B:Nat->Int) (nO:Nat) (O:Nat->Int) (W G L:Int):Int:=
 if fA b≠0 then fA b else if Lay.fN nB B nO O W G L≠0 then Lay.fN nB B nO O W G L else if b.dr<L then 2 else if b.dr/L>40 then 8
 else if kP (b.N 0) (b.X 0) (b.Y 0) G≠0\/kP (b.N 0) (b.X 0) (b.Y 0) (G+W)≠0 then 12 else if oa b G W L=false then 12 else 0
abbrev qR (b:dJ) (nB:Nat) (B:Nat->Int) (nO:Nat) (O:Nat->Int) (W G L:Int):DV:=
 uF (.val (.string b.name)) (.di b.nS (ML b)) b.dr (.di b.nO (MZ b)) (.di b.nB (NN b)) (Lay.nums nB B) (Lay.nums nO O) W G L (dI (Lay.fZ nB B nO O W G L)) (.di (Lay.iv nB B nO O W G L) (Lay.Af (Lay.fa nB B nO O) (Lay.ed nB) (fun i=>decide (nB<=i)))) (b.N 0) (b.X 0) (b.Y 0)
def Ty:fE:= .res fun l=> .fy [.any,dI (kP (aN l) (aX l) (aY l) (aI l 1))]
def rWaK:fE:= .res fun l=> .fy [.di (aN l) (xV (aN l) (aX l) (aY l)),dI 0]
def rCoK:fE:= .res fun l=> .fy [.di (aN l) [fun k=>dI (lM (aN l) (aX l) (aY l) k)],dI 0]
def J0 (b:dJ):fE:= .res fun _=>mh (b.N 0) (b.X 0) (b.Y 0)
def Yd (b:dJ) (G W L:Int):fE:= .res fun l=>bx (lC (b.N 0) (b.X 0) (b.Y 0) G W (aI l 1) (aI l 2) (aI l 3)) (lA (b.N 0) (b.X 0) (b.Y 0) G W (aI l 1) (aI l 2) (aI l 3)) 0 (lB (b.N 0) (b.X 0) (b.Y 0) G W (aI l 1) (aI l 2) (aI l 3)) (lz (b.N 0) (b.X 0) (b.Y 0) G W (aI l 1) (aI l 2) (aI l 3)) (gq b.dr L)
theorem LN {n:Nat} {X Y:Nat->Int} (h:gz n X Y=0) {f:Int} (hf:0<=f/\f<n) (al r:Int) (h1: -9000000<=al/\al<=9000000) (h2: -9000000<=r/\r<=9000000):
 dm prog 139 [.val (.agg #[.int .i64 (X f.toNat),.int .i64 (Y f.toNat),.int .i64 (X (ix n ((f.toNat:Nat)+1))),.int .i64 (Y (ix n ((f.toNat:Nat)+1))),.int .i64 (ee n X Y (f.toNat:Nat)),.int .i64 (dD n X Y (f.toNat:Nat))]),dI al,dI r]
  (dP (qB n X Y f al r) (qA n X Y f al r)):=by
 obtain ⟨hX,hY⟩:=eB h
 have hd:=fH n X Y f
 have x1:=hX f.toNat (by omega)
 have y1:=hY f.toNat (by omega)
 have hc:=TC (X f.toNat) (Y f.toNat) (X (ix n ((f.toNat:Nat)+1))) (Y (ix n ((f.toNat:Nat)+1))) (ee n X Y (f.toNat:Nat)) (dD n X Y (f.toNat:Nat)) al r (by rw [bH hf.1];omega) (by unfold m3;omega) (by unfold m3;omega) h1 h2
 have e:(f.toNat:Int)=f:=bH hf.1
 rw [e] at hc ⊢
 obtain ⟨k1,k2⟩:=Tf (d:=dD n X Y f) (by omega)
 rw [k1,k2] at hc
 have e1:X f.toNat+al*jY (dD n X Y f)+r*jX (dD n X Y f)=qB n X Y f al r:=by rw [qB,fW hf]
 have e2:Y f.toNat+al*jX (dD n X Y f)+r* -jY (dD n X Y f)=qA n X Y f al r:=by rw [qA,fW hf,cW];omega
 rw [e1,e2] at hc
 exact hc
section
variable {b:dJ} {nB:Nat} {B:Nat->Int} {nO:Nat} {O:Nat->Int} {W G L:Int}
theorem fP (h:Lay.fN nB B nO O W G L=0):j8 G W/\1<=L/\L<=10000:=by
 unfold Lay.fN at h
 split at h
 ·cases h
 ·split at h
  ·cases h
  ·split at h
   ·cases h
   ·split at h
    ·cases h
    ·rename_i h4
     unfold Lay.ni at h4
     simp only [an,not_or,ca] at h4
     unfold j8
     omega
theorem ZO (h:fA b≠0):ja b nB B nO O W G L=fA b:=by rw [ja,ah h]
theorem ZN (h:fA b=0) (h2:Lay.fN nB B nO O W G L≠0):ja b nB B nO O W G L=Lay.fN nB B nO O W G L:=by rw [ja,ae (by rw [h];simp),ah h2]
theorem ZM (h:fA b=0) (h2:Lay.fN nB B nO O W G L=0) (h3:b.dr<L):ja b nB B nO O W G L=2:=by rw [ja,ae (by rw [h];simp),ae (by rw [h2];simp),ah h3]
theorem ZL (h:fA b=0) (h2:Lay.fN nB B nO O W G L=0) (h3: ¬b.dr<L) (h4:b.dr/L>40):ja b nB B nO O W G L=8:=by rw [ja,ae (by rw [h];simp),ae (by rw [h2];simp),ae h3,ah h4]
theorem ZK (h:fA b=0) (h2:Lay.fN nB B nO O W G L=0) (h3: ¬b.dr<L) (h4: ¬b.dr/L>40) (h5:kP (b.N 0) (b.X 0) (b.Y 0) G≠0\/kP (b.N 0) (b.X 0) (b.Y 0) (G+W)≠0):ja b nB B nO O W G L=12:=by
 rw [ja,ae (by rw [h];simp),ae (by rw [h2];simp),ae h3,ae h4,ah h5]
theorem ZJ (h:fA b=0) (h2:Lay.fN nB B nO O W G L=0) (h3: ¬b.dr<L) (h4: ¬b.dr/L>40) (h5: ¬(kP (b.N 0) (b.X 0) (b.Y 0) G≠0\/kP (b.N 0) (b.X 0) (b.Y 0) (G+W)≠0)) (h6:oa b G W L=false):ja b nB B nO O W G L=12:=by
 rw [ja,ae (by rw [h];simp),ae (by rw [h2];simp),ae h3,ae h4,ae h5,ah h6]
theorem ar_7 (h:fA b=0) (h2:Lay.fN nB B nO O W G L=0) (h3: ¬b.dr<L) (h4: ¬b.dr/L>40) (h5: ¬(kP (b.N 0) (b.X 0) (b.Y 0) G≠0\/kP (b.N 0) (b.X 0) (b.Y 0) (G+W)≠0)) (h6:oa b G W L=true):ja b nB B nO O W G L=0:=by
 rw [ja,ae (by rw [h];simp),ae (by rw [h2];simp),ae h3,ae h4,ae h5,ae (by rw [h6];simp)]
theorem fu (h:ja b nB B nO O W G L=0):fA b=0/\Lay.fN nB B nO O W G L=0/\ ¬b.dr<L/\ ¬b.dr/L>40/\kP (b.N 0) (b.X 0) (b.Y 0) G=0/\kP (b.N 0) (b.X 0) (b.Y 0) (G+W)=0/\oa b G W L=true:=by
 by_cases h1:fA b=0
 ·by_cases h2:Lay.fN nB B nO O W G L=0
  ·by_cases h3:b.dr<L
   ·rw [ZM h1 h2 h3] at h;cases h
   ·by_cases h4:b.dr/L>40
    ·rw [ZL h1 h2 h3 h4] at h;cases h
    ·by_cases h5:kP (b.N 0) (b.X 0) (b.Y 0) G≠0\/kP (b.N 0) (b.X 0) (b.Y 0) (G+W)≠0
     ·rw [ZK h1 h2 h3 h4 h5] at h;cases h
     ·cases h6:oa b G W L with
      |false=>rw [ZJ h1 h2 h3 h4 h5 h6] at h;cases h
      |true=>exact ⟨h1,h2,h3,h4,by omega,by omega,rfl⟩
  ·rw [ZN h1 h2] at h;exact absurd h h2
 ·rw [ZO h1] at h;exact absurd h h1
theorem js (h:fA b=0):0<b.nS/\gz (b.N 0) (b.X 0) (b.Y 0)=0/\0<=b.dr/\b.dr<=1000000/\b.nB<=50:=by
 obtain ⟨c1,c2,c3,c4,c5,c6⟩:=mD h
 have hs:=JR c2
 obtain ⟨f1,f2,f3⟩:=mA c2 c3 c4
 exact ⟨by omega,f1 0 (by omega),f2.2.1,f2.2.2,by omega⟩
theorem ZG (h:fA b=0) {j:Nat} (hj:j<b.nB):Zy b j=0:=by
 obtain ⟨c1,c2,c3,c4,c5,c6⟩:=mD h
 have:=c6 j hj
 unfold Fu at this
 split at this
 ·rename_i h1;exact absurd this h1
 ·rename_i h1;exact ca.1 h1
theorem XT (hr:0<=b.dr/\b.dr<=1000000) (hL:1<=L/\L<=10000) (h40: ¬b.dr/L>40):0<gq b.dr L/\gq b.dr L<=1000000:=by
 obtain ⟨t1,t2,t3,t4⟩:=JI hr hL
 refine ⟨t3,?_⟩
 have:=Int.mul_le_mul_of_nonneg_right (show b.dr/L+1<=41 by omega) (show 0<=L by omega)
 unfold gq
 omega
theorem Tv (hc:fA b=0) (hs:Lay.fN nB B nO O W G L=0) (h40: ¬b.dr/L>40) (e1:kP (b.N 0) (b.X 0) (b.Y 0) G=0) (e2:kP (b.N 0) (b.X 0) (b.Y 0) (G+W)=0) {i:Nat} (hi:i<b.N 0):
 mb (lC (b.N 0) (b.X 0) (b.Y 0) G W i 1 0) (lA (b.N 0) (b.X 0) (b.Y 0) G W i 1 0) 0 (lB (b.N 0) (b.X 0) (b.Y 0) G W i 1 0) (lz (b.N 0) (b.X 0) (b.Y 0) G W i 1 0) (gq b.dr L)=0:=by
 obtain ⟨b1,b2,b3,b4,b5⟩:=js hc
 obtain ⟨g1,g2,g3⟩:=fP hs
 obtain ⟨i1,i2,i3,i4,i5,i6⟩:=ZH b2 g1 e1 e2 hi
 obtain ⟨t1,t2⟩:=XT ⟨b3,b4⟩ ⟨g2,g3⟩ h40
 have z:ir 0=true:=by decide
 have t:ir (gq b.dr L)=true:=by unfold ir;rw [ai];omega
 rw [mb,ae (fun h=>h ⟨i1,i2,z,i3,i4,t⟩),ae (by omega)]
theorem r9 (hc:fA b=0) (hs:Lay.fN nB B nO O W G L=0) (h40: ¬b.dr/L>40) (e1:kP (b.N 0) (b.X 0) (b.Y 0) G=0) (e2:kP (b.N 0) (b.X 0) (b.Y 0) (G+W)=0) {i j:Nat} (hi:i<b.N 0) (hj:j<b.nB):
 Si (lC (b.N 0) (b.X 0) (b.Y 0) G W i 1 0) (lA (b.N 0) (b.X 0) (b.Y 0) G W i 1 0) 0 (lB (b.N 0) (b.X 0) (b.Y 0) G W i 1 0) (lz (b.N 0) (b.X 0) (b.Y 0) G W i 1 0) (gq b.dr L) (b.B j 0) (b.B j 1) (b.B j 2) (b.B j 3) (b.B j 4) (b.B j 5)=jU b G W L i j:=by
 have k1:=Tv hc hs h40 e1 e2 hi
 have k2:mb (b.B j 0) (b.B j 1) (b.B j 2) (b.B j 3) (b.B j 4) (b.B j 5)=0:=ZG hc hj
 unfold Si Rr
 rw [ae (by rw [k1];simp),k2]
 rfl
theorem Dd {i j:Nat} (hi:i<b.N 0) (hj:j<b.nB) (h:jU b G W L i j=true):oa b G W L=false:=by
 unfold oa
 rw [an]
 intro hx
 rw [hx i hi j hj] at h;cases h
theorem zR (h: ∀k,k<b.N 0-> ∀j,j<b.nB->jU b G W L k j=false):oa b G W L=true:=bk h
theorem Kr {p:Nat->Bool} {n:Nat} (h:ik p n>=0): ∃j,j<n/\p j=true:=by
 by_cases hx: ∀j,j<n->p j=false
 ·rw [kg hx] at h;omega
 ·simp only [Classical.not_forall,Bool.not_eq_false] at hx
  obtain ⟨j,h1,h2⟩:=hx
  exact ⟨j,h1,h2⟩
theorem AP {p:Nat->Bool}: ∀{n:Nat},¬ik p n>=0-> ∀j,j<n->p j=false
 |0,_,j,hj=>absurd hj (aF j)
 |n+1,h,j,hj=>by
  rw [ik] at h
  split at h
  ·rename_i h1;exact absurd h1 h
  ·rename_i h1
   split at h
   ·omega
   ·rename_i h2
    by_cases e:j=n
    ·rw [e];simpa using h2
    ·exact AP h1 j (by omega)
end
theorem K9 {n:Nat} {X Y:Nat->Int} (h:gz n X Y=0):dm prog 93 [mh n X Y] (.fy [.di n (xV n X Y),dI 0]):=by
 have hn:=fp h
 have:=S6 n X Y (by omega)
 rw [Mk,ae (by rw [h];simp),h] at this
 exact this
theorem DO {n:Nat} {X Y:Nat->Int} (h:gz n X Y=0):dm prog 94 [mh n X Y] (.fy [.di n [fun k=>dI (lM n X Y k)],dI 0]):=by
 have hn:=fp h
 have:=Nz n X Y (by omega)
 rw [Mk,ae (by rw [h];simp),h] at this
 exact this
def Zc (G W:Int) (j:Nat):Int:=[G,G+W].getD j 0
noncomputable def CG (b:dJ) (nB:Nat) (B:Nat->Int) (nO:Nat) (O:Nat->Int) (W G L:Int):eH:={ dq:=[(1,[(1,GY b)]),(4,[(1,.res fun _=> .fy [Lay.Zz nB B nO O W G L,dI (Lay.fN nB B nO O W G L)])]),(9,[(4,.pos)]),(15,[(2,Ty)]),(20,[(2,rWaK)]),(21,[(2,rCoK)]),(27,[(2,Yd b G W L)]),(31,[(2,Vr)])],loops:=[(1,{ ι:=Nat,keep:=[2,3,7,9,60],boxes:=[2,3,7],ts:=fun _ i=>[(61,dI (i:Int))],inv:=fun _ i=>i<=2/\ ∀j,j<i->kP (b.N 0) (b.X 0) (b.Y 0) (Zc G W j)=0,mu:=fun _ i=>2 - i,rd:=fun _ σ=>(eA (σ.get 61)).toNat }),(3,{ ι:=Nat,keep:=[2,14,109],boxes:=[2,14],ts:=fun _ i=>[(110,dI (i:Int))],inv:=fun _ i=>i<=b.N 0/\ ∀k,k<i-> ∀j,j<b.nB->jU b G W L k j=false,mu:=fun _ i=>b.N 0 - i,rd:=fun _ σ=>(eA (σ.get 110)).toNat }),(5,{ ι:=Nat,keep:=[2,14,109,110,15,16,117,118],boxes:=[2,14,16],ts:=fun _ j=>[(119,dI (j:Int))],inv:=fun σ j=>j<=b.nB/\ ∀k,k<j->jU b G W L (eA (σ.get 110)).toNat k=false,mu:=fun _ j=>b.nB - j,rd:=fun _ σ=>(eA (σ.get 119)).toNat })],dw:=[] }
namespace w2u
noncomputable section
structure Z where
 b:dJ
 nB:Nat
 B:Nat->Int
 nO:Nat
 O:Nat->Int
 W:Int
 G:Int
 L:Int
variable (z:Z) (i0 i1 i2:Nat) (p:Prop) (P:List Prop) (a b:Int) (k:Nat) (A:DV) (E:List DV) (U:VT) (mR:Nat->Prop) (tA:Nat->VT) (xr:List Value)
abbrev x0:=Int.toNat 0
abbrev x1:=z.b.N x0
abbrev x2:Int:=(i0:Int)
abbrev x3:=i0<z.b.nB->rf (z.b.B i0 k)
abbrev x4:=i0<z.b.nO->rf (z.b.O i0 k)
abbrev x5:=i0<x1 z->rf a
abbrev x6:=Lay.iv z.nB z.B z.nO z.O z.W z.G z.L
abbrev x7:=z.b.B (Int.toNat (i1:Int)) k
abbrev x8:List Value:=Value.int IntKind.i64 a::xr
abbrev x9:=VT.da [p] U
abbrev dC:List Prop:=rf z.b.nB::(∀(i0:Nat),x3 z i0 (0:Nat))::(∀(i0:Nat),x3 z i0 (1:Nat))::(∀(i0:Nat),x3 z i0 (2:Nat))::(∀(i0:Nat),x3 z i0 (3:Nat))::(∀(i0:Nat),x3 z i0 (4:Nat))::(∀(i0:Nat),x3 z i0 (5:Nat))::P
abbrev dA:List Prop:=rf z.b.name::rf z.b.nS::(∀i0<z.b.nS,rf (z.b.fl i0))::(∀i0<z.b.nS,rf (z.b.N i0)/\(∀i1<z.b.N i0,rf (z.b.X i0 i1))/\(∀i1<z.b.N i0,rf (z.b.Y i0 i1)))::rf z.b.dr::rf z.b.nO::(∀(i0:Nat),x4 z i0 (0:Nat))::(∀(i0:Nat),x4 z i0 (1:Nat))::(∀(i0:Nat),x4 z i0 (2:Nat))::(∀(i0:Nat),x4 z i0 (3:Nat))::(∀(i0:Nat),x4 z i0 (4:Nat))::(∀(i0:Nat),x4 z i0 (5:Nat))::dC z P
abbrev dz:=Int.toNat (x2 i0+1)
abbrev dG:=Lay.fZ z.nB z.B z.nO z.O z.W z.G z.L
abbrev dL:=VT.done [a=ja z.b z.nB z.B z.nO z.O z.W z.G z.L]
abbrev dR:=gq z.b.dr z.L
abbrev dQ:=lC (z.b.N 0) (z.b.X 0) (z.b.Y 0) z.G z.W (x2 i0) 1 0
abbrev ep:=lA (z.b.N 0) (z.b.X 0) (z.b.Y 0) z.G z.W (x2 i0) 1 0
abbrev eu:=lB (z.b.N 0) (z.b.X 0) (z.b.Y 0) z.G z.W (x2 i0) 1 0
abbrev eG:=lz (z.b.N 0) (z.b.X 0) (z.b.Y 0) z.G z.W (x2 i0) 1 0
abbrev ez:=x8 (x7 z i1 k) xr
abbrev eF:=z.b.X x0 (ix (x1 z) (x2 i0+1))
abbrev eQ:=z.b.Y x0 (ix (x1 z) (x2 i0+1))
abbrev fC:= ∀i0<x6 z,rf (decide (z.nB<=i0))
abbrev fM:List Prop:=p::rf (x1 z)::(∀(i0:Nat),x5 z i0 (z.b.X x0 i0))::(∀(i0:Nat),x5 z i0 (z.b.Y x0 i0))::P
abbrev fR:=ee (x1 z) (z.b.X x0) (z.b.Y x0) (x2 i0)
abbrev fj:=dD (x1 z) (z.b.X x0) (z.b.Y x0) (x2 i0)
abbrev gp:=lM (x1 z) (z.b.X x0) (z.b.Y x0) i0
abbrev iI:=dA z (rf z.nB::(∀i0<z.nB,rf (z.B i0))::rf z.nO::(∀i0<z.nO,rf (z.O i0))::rf z.W::rf z.G::rf z.L::rf (↑(dG z):Int)::rf (x6 z)::(∀i0<x6 z,rf (Lay.fa z.nB z.B z.nO z.O i0))::(∀i0<x6 z,rf (Lay.ed z.nB i0))::P)
abbrev ji:=DV.fy [A,dI a]
abbrev iq:=Int.toNat ((i1:Int)+1)
abbrev jj:= ∀(i0:Nat),x5 z i0 (gp z i0)
abbrev jv:List Prop:=p::rf (↑(x1 z):Int)::P
abbrev il:=dA z (iI z (fM z (fC z) ((∀(i0:Nat),x5 z i0 (eF z i0))::(∀(i0:Nat),x5 z i0 (eQ z i0))::(∀(i0:Nat),x5 z i0 (fR z i0))::(∀(i0:Nat),x5 z i0 (fj z i0))::rf (x1 z)::P)))
abbrev iH:=VT.ite (a !=0) (dL z b) U
abbrev lu:=DV.val (Value.agg (Array.mk xr))
abbrev lq:=DV.di (x1 z) [fun i0=>dI (z.b.X x0 i0),fun i0=>dI (z.b.Y x0 i0)]
abbrev ku:=List.getD [z.G,z.G+z.W] (Int.toNat (x2 i0)) 0
abbrev qq:=Lay.fN z.nB z.B z.nO z.O z.W z.G z.L
abbrev nm:=DV.di (x1 z) [fun i0=>dI (gp z i0)]
abbrev nA:=VT.loop Nat mR x0 (jv z (0=(x0:Int)) P) tA
abbrev uh:=x9 (cZ (x2 i0+1)) (VT.done P)
abbrev BB:=x2 i0+1=(↑(dz i0):Int)
abbrev BF:=fM z p (rf z.G::rf (z.G+z.W)::iI z P)
abbrev ou:=dm prog k [lq z] (ji (0:Int) A)
abbrev ug:=DV.di (x6 z) [fun i0=>dI (Lay.fa z.nB z.B z.nO z.O i0),fun i0=>dI (Lay.ed z.nB i0),fun i0=>dB (decide (z.nB<=i0))]
abbrev BE:=i2<k->jU z.b z.G z.W z.L (Int.toNat (x2 i0)) i2=false
abbrev sA:= ∀i0<z.b.nB,jU z.b z.G z.W z.L i1 i0=false
abbrev sL:=DV.di (x1 z) [fun i0=>dI (z.b.X x0 i0),fun i0=>dI (z.b.Y x0 i0),fun i0=>dI (eF z i0),fun i0=>dI (eQ z i0),fun i0=>dI (fR z i0),fun i0=>dI (fj z i0)]
abbrev lN:List Prop:=rf (x2 i0)::rf (x2 i0)::dC z (rf (z.b.nB:Int)::il z (jj z::rf (dQ z i0)::rf (ep z i0)::rf (0:Int)::rf (eu z i0)::rf (eG z i0)::rf (dR z)::P))
abbrev rV:=lu (x8 (dQ z i0) (x8 (ep z i0) (x8 (0:Int) (x8 (eu z i0) (x8 (eG z i0) (x8 (dR z) []))))))
abbrev uf:=kP (x1 z) (z.b.X x0) (z.b.Y x0) (ku z i0)
abbrev Gf:=kP (z.b.N 0) (z.b.X 0) (z.b.Y 0) (Zc z.G z.W i1)=0
abbrev K6:List DV:=DV.di z.nB [fun i0=>dI (z.B i0)]::DV.di z.nO [fun i0=>dI (z.O i0)]::dI z.W::dI z.G::E
abbrev Ge:=Si (dQ z i0) (ep z i0) 0 (eu z i0) (eG z i0) (dR z) (x7 z i1 (0:Nat)) (x7 z i1 (1:Nat)) (x7 z i1 (2:Nat)) (x7 z i1 (3:Nat)) (x7 z i1 (4:Nat)) (x7 z i1 (5:Nat))
abbrev xt:VT:=x9 (dm prog 41 [jI z.b] (dI (fA z.b))) (iH z (fA z.b) (fA z.b) (x9 (dm prog 57 [DV.agg (K6 z [dI z.L])] (ji (qq z) (DV.agg [dI (↑(dG z):Int),ug z]))) (iH z (qq z) (qq z) (VT.ite (decide (z.b.dr<z.L)) (dL z (2:Int)) (x9 (0<=z.b.dr/\0<z.L/\z.b.dr<=9223372036854775807) (VT.ite (decide ((z.b.dr/z.L)>(40:Int))) (dL z (8:Int)) (x9 ((0:Int)<=(0:Int)/\0<(z.b.nS:Int)) (x9 (cZ (z.G+z.W)) (VT.loop Nat (fun i0=>i0<=2/\(∀i1<i0,Gf z i1)) x0 (BF z (0=(x0:Int)) [fC z]) (fun i0=>VT.ite (decide ((x2 i0)<(2:Int))) (x9 (0<=x2 i0/\x2 i0<(↑(2:Nat):Int)) (x9 (dm prog 13 [lq z,dI (ku z i0)] (ji (uf z i0) DV.any)) (iH z (uf z i0) (12:Int) (uh i0 (BF z (BB i0) [fC z,dz i0<=2/\(∀i1<dz i0,Gf z i1),2 - dz i0<2 - i0]))))) (x9 (ou z (93:Nat) (sL z)) (x9 (ou z (94:Nat) (nm z)) (VT.ite ((↑(x1 z):Int) !=(↑(x1 z):Int)) (dL z (12:Int)) (nA z (il z [jj z]) (fun i0=>i0<=z.b.N 0/\(∀i1<i0,sA z i1)) (fun i0=>VT.ite (decide ((x2 i0)<(↑(x1 z):Int))) (x9 (dm prog 40 [DV.dN (DV.val (Value.string z.b.name)::DV.di z.b.nS [fun i0=>dI (z.b.fl i0),fun i0=>DV.di (z.b.N i0) [fun i1=>dI (z.b.X i0 i1),fun i1=>dI (z.b.Y i0 i1)]]::dI z.b.dr::DV.di z.b.nO [fun i0=>dI (z.b.O i0 0),fun i0=>dI (z.b.O i0 1),fun i0=>dI (z.b.O i0 2),fun i0=>dI (z.b.O i0 3),fun i0=>dI (z.b.O i0 4),fun i0=>dI (z.b.O i0 5)]::DV.di z.b.nB [fun i0=>dI (z.b.B i0 0),fun i0=>dI (z.b.B i0 1),fun i0=>dI (z.b.B i0 2),fun i0=>dI (z.b.B i0 3),fun i0=>dI (z.b.B i0 4),fun i0=>dI (z.b.B i0 5)]::K6 z [dI z.L,dI (↑(dG z):Int),ug z,sL z,nm z]),dI (x2 i0),dI 1,dI 0] (rV z i0)) (nA z (lN z i0 []) (fun i1=>i1<=z.b.nB/\(∀(i2:Nat),BE z i0 i2 i1)) (fun i1=>VT.ite (decide ((i1:Int)<(z.b.nB:Int))) (x9 (0<=(i1:Int)/\(i1:Int)<(z.b.nB:Int)) (x9 (dm prog 12 [rV z i0,lu (ez z i1 (0:Nat) (ez z i1 (1:Nat) (ez z i1 (2:Nat) (ez z i1 (3:Nat) (ez z i1 (4:Nat) (ez z i1 (5:Nat) []))))))] (ji (Rr (dQ z i0) (ep z i0) 0 (eu z i0) (eG z i0) (dR z) (x7 z i1 (0:Nat)) (x7 z i1 (1:Nat)) (x7 z i1 (2:Nat)) (x7 z i1 (3:Nat)) (x7 z i1 (4:Nat)) (x7 z i1 (5:Nat))) (dB (Ge z i0 i1)))) (VT.ite (Ge z i0 i1) (dL z (12:Int)) (x9 (cZ ((i1:Int)+1)) (VT.done (jv z ((i1:Int)+1=(↑(iq i1):Int)) (lN z i0 [iq i1<=z.b.nB/\(∀(i2:Nat),BE z i0 i2 (iq i1)),z.b.nB - iq i1<z.b.nB - i1]))))))) (uh i0 (jv z (BB i0) (il z [jj z,dz i0<=z.b.N 0/\(∀i1<dz i0,sA z i1),z.b.N 0 - dz i0<z.b.N 0 - i0])))))) (dL z (0:Int)))))))))))))))))
end
end w2u
open w2u in
theorem DZ (b:dJ) (nB:Nat) (B:Nat->Int) (nO:Nat) (O:Nat->Int) (W G L:Int) (hN: ∀i,i<b.nS->b.N i<=1000):dm prog 31 [jI b,Lay.sys nB B nO O W G L] (.fy [.any,dI (ja b nB B nO O W G L)]):=by
 refine db dv (CG b nB B nO O W G L) (V:=xt ⟨b,nB,B,nO,O,W,G,L⟩) (by kernel_rfl) ?_
 simp only [xt,x0,x1,x2,x3,x4,x5,x6,x7,x8,x9,dC,dA,dz,dG,dL,dR,dQ,ep,eu,eG,ez,eF,eQ,fC,fM,fR,fj,gp,iI,ji,iq,jj,jv,il,iH,lu,lq,ku,qq,nm,nA,uh,BB,BF,ou,ug,BE,sA,sL,lN,rV,uf,Gf,K6,Ge,Rf,VT.holds,dt,Sq]
 refine ⟨zh b hN,fun h=>(ZO h).symm,fun hc=>⟨Lay.G6 nB B nO O W G L,fun h=>(ZN hc h).symm,fun hs=> ?_⟩⟩
 obtain ⟨b1,b2,b3,b4,b5⟩:=js hc
 obtain ⟨g1,g2,g3⟩:=fP hs
 have hg:=g1
 unfold j8 at hg
 have hn:=fp b2
 obtain ⟨hX,hY⟩:=eB b2
 refine ⟨fun h=>(ZM hc hs h).symm,fun h3=>⟨by omega,fun h=>(ZL hc hs h3 h).symm,fun h4=>⟨by omega,by unfold cZ;omega,rfl,⟨by omega,fun j hj=>absurd hj (aF j)⟩,fun i ⟨hi,hb⟩=>⟨fun dK=> ?_,fun iy=> ?_⟩⟩⟩⟩
 ·have L7:i=0\/i=1:=by omega
  have hd:0<=Zc G W i/\Zc G W i<=1000000:=by
   rcases L7 with rfl|rfl
   ·show 0<=G/\G<=1000000;omega
   ·show 0<=G+W/\G+W<=1000000;omega
  refine ⟨by omega,G9 _ _ _ _ b2 hd,fun h=>(ZK hc hs h3 h4 ?_).symm,fun h=>⟨by unfold cZ;omega,rfl,⟨by omega,fun j hj=> ?_⟩,by omega⟩⟩
  ·rcases L7 with rfl|rfl
   ·exact .inl h
   ·exact .inr h
  ·by_cases e:j=i
   ·rw [e];exact h
   ·exact hb j (by omega)
 ·obtain rfl:i=2:=by omega
  have e1:kP (b.N 0) (b.X 0) (b.Y 0) G=0:=hb 0 (by omega)
  have e2:kP (b.N 0) (b.X 0) (b.Y 0) (G+W)=0:=hb 1 (by omega)
  have h5: ¬(kP (b.N 0) (b.X 0) (b.Y 0) G≠0\/kP (b.N 0) (b.X 0) (b.Y 0) (G+W)≠0):=by omega
  refine ⟨K9 b2,DO b2,fun h=>absurd trivial h,fun _=>⟨rfl,⟨ao _,fun k hk=>absurd hk (aF k)⟩,fun i ⟨hi,hb⟩=>⟨fun dK=> ?_,fun iy=> ?_⟩⟩⟩
  ·refine ⟨xb _ _ _ _ _ _ _ _ _ _ _ _ _ _ _ _ _ _ (by omega) (by omega) hX hY g1 (by omega) (by omega) ⟨b3,b4⟩ ⟨g2,g3⟩,rfl,⟨ao _,fun k hk=>absurd hk (aF k)⟩,fun j ⟨hj,hbj⟩=>⟨fun xw=> ?_,fun No=> ?_⟩⟩
   ·rw [r9 hc hs h4 e1 e2 (i:=i) (j:=j) (by omega) (by omega)]
    refine ⟨by omega,?_,fun h=>(ZJ hc hs h3 h4 h5 (Dd (by omega) (by omega) h)).symm,fun h=>⟨by unfold cZ;omega,rfl,⟨by omega,fun k hk=> ?_⟩,by omega⟩⟩
    ·have:=xg (lC (b.N 0) (b.X 0) (b.Y 0) G W i 1 0) (lA (b.N 0) (b.X 0) (b.Y 0) G W i 1 0) 0 (lB (b.N 0) (b.X 0) (b.Y 0) G W i 1 0) (lz (b.N 0) (b.X 0) (b.Y 0) G W i 1 0) (gq b.dr L) (b.B j 0) (b.B j 1) (b.B j 2) (b.B j 3) (b.B j 4) (b.B j 5)
     rw [r9 hc hs h4 e1 e2 (i:=i) (j:=j) (by omega) (by omega)] at this
     exact this
    ·by_cases e:k=j
     ·rw [e];exact h
     ·exact hbj k (by omega)
   ·refine ⟨by unfold cZ;omega,rfl,⟨by omega,fun k hk j' xx=> ?_⟩,by omega⟩
    by_cases e:k=i
    ·rw [e];exact hbj j' (by omega)
    ·exact hb k (by omega) j' xx
  ·exact (ar_7 hc hs h3 h4 h5 (zR fun k hk j hj=>hb k (by omega) j hj)).symm
noncomputable def IT (b:dJ):eH:={ dq:=[],loops:=[],dw:=[] }
theorem pI (b:dJ) (hs:0<b.nS):dm prog 90 [jI b] (mh (b.N 0) (b.X 0) (b.Y 0)):=by
 refine db dv (IT b) (V:= .da [(0:Int)<=0/\(0:Int)<(b.nS:Int)] (.done [b.N (0:Int).toNat=b.N 0,∀i<b.N 0,b.X (0:Int).toNat i=b.X 0 i,∀i<b.N 0,b.Y (0:Int).toNat i=b.Y 0 i])) (by kernel_rfl) ?_
 simp only [VT.holds,dt,Sq]
 omega
noncomputable def KV (b:dJ) (nB:Nat) (B:Nat->Int) (nO:Nat) (O:Nat->Int) (W G L f a e:Int):eH:={ dq:=[(1,[(1,J0 b),(2,uL),(4,J0 b),(5,Vt)]),(3,[(7,.res fun l=>dI (xd G W (aI l 1) (decide (a=1)))),(19,.pos),(24,.res fun l=>dI (xd G W (aI l 1) (decide (e=0))))])],loops:=[],dw:=[] }
namespace w2w
noncomputable section
structure Z where
 b:dJ
 nB:Nat
 B:Nat->Int
 nO:Nat
 O:Nat->Int
 W:Int
 G:Int
 L:Int
 f:Int
 a:Int
 e:Int
variable (z:Z) (a b c d:Int) (k:Nat) (sE:List (Nat->DV))
abbrev x0:=lM (z.b.N 0) (z.b.X 0) (z.b.Y 0) k
abbrev x1:=(z.f+1)%(↑(z.b.N 0):Int)
abbrev x2:=xd z.G z.W (x0 z (Int.toNat a)) (decide (b=c))
abbrev x3:=DV.di (z.b.N 0) ((fun i0=>dI (z.b.X 0 i0))::sE)
abbrev x4:=x3 z [fun i0=>dI (z.b.Y 0 i0)]
abbrev x5:=0<=a/\b<(↑(z.b.N 0):Int)
abbrev x6:=ee (z.b.N 0) (z.b.X 0) (z.b.Y 0) a
abbrev x7:=dm prog 90 [jI z.b] (x4 z)
abbrev x8:=x6 z (↑(Int.toNat z.f):Int)+x2 z (x1 z) z.e (0:Int)
abbrev x9:=dm prog 156 [DV.agg [DV.di z.nB [fun i0=>dI (z.B i0)],DV.di z.nO [fun i0=>dI (z.O i0)],dI z.W,dI z.G,dI z.L],dI (x0 z (Int.toNat a)),dB (b==c)] (dI d)
abbrev xt:VT:=VT.da [x7 z,dm prog 131 [x4 z] (x3 z [fun i0=>dI (z.b.Y 0 i0),fun i0=>dI (z.b.X 0 (ix (z.b.N 0) ((i0:Int)+1))),fun i0=>dI (z.b.Y 0 (ix (z.b.N 0) ((i0:Int)+1))),fun i0=>dI (x6 z (i0:Int)),fun i0=>dI (dD (z.b.N 0) (z.b.X 0) (z.b.Y 0) (i0:Int))]),x7 z,dm prog 136 [x4 z] (DV.di (z.b.N 0) [fun i0=>dI (x0 z i0)])] (VT.da [x5 z z.f z.f,x9 z z.f z.a (1:Int) (x2 z z.f z.a (1:Int)),cZ (-(x2 z z.f z.a (1:Int))),x5 z z.f z.f,cZ (z.f+1),x5 z (z.f+1) (0:Int),x5 z (x1 z) (x1 z),x9 z (x1 z) z.e (0:Int) (x2 z (x1 z) z.e (0:Int)),cZ (x8 z)] (VT.done [(-(x2 z z.f z.a (1:Int)))=ft (z.b.N 0) (z.b.X 0) (z.b.Y 0) z.G z.W z.f z.a,x8 z=gA (z.b.N 0) (z.b.X 0) (z.b.Y 0) z.G z.W z.f z.e]))
end
end w2w
open w2w in
theorem Rt (b:dJ) (nB:Nat) (B:Nat->Int) (nO:Nat) (O:Nat->Int) (W G L f a e:Int) (hs:0<b.nS) (h:gz (b.N 0) (b.X 0) (b.Y 0)=0) (hg:j8 G W) (hf:0<=f/\f<b.N 0) (ha:0<=a/\a<=1) (he:0<=e/\e<=1):dm prog 122 [jI b,Lay.sys nB B nO O W G L,dI f,dI a,dI e] (.fy [dI (ft (b.N 0) (b.X 0) (b.Y 0) G W f a),dI (gA (b.N 0) (b.X 0) (b.Y 0) G W f e)]):=by
 refine db dv (KV b nB B nO O W G L f a e) (V:=xt ⟨b,nB,B,nO,O,W,G,L,f,a,e⟩) (by kernel_rfl) ?_
 simp only [xt,x0,x1,x2,x3,x4,x5,x6,x7,x8,x9,Rf,VT.holds,dt,Sq]
 have hn:=fp h
 obtain ⟨hX,hY⟩:=eB h
 rw [RN hf.1,A8 (by omega),bH hf.1,U3 ha,U2 he]
 have b1:=pU (n:=b.N 0) (X:=b.X 0) (Y:=b.Y 0) f hg ha
 have b2:=xO f (by omega) hX hY hg he
 have q1:=bf (f+1) (show (b.N 0:Int)≠0 by omega)
 have q2:=bm (f+1) (show (0:Int)<b.N 0 by omega)
 refine ⟨⟨pI b hs,qD _ _ _ h,pI b hs,A7 _ _ _ h⟩,⟨hf,?_,by unfold cZ;omega,hf,by unfold cZ;omega,by omega,⟨q1,q2⟩,?_,by unfold cZ;omega⟩,rfl,rfl⟩
 ·have:=LG nB B nO O W G L (eV (b.N 0) (b.X 0) (b.Y 0) f) (decide (a=1)) hg
  exact this
 ·have:=LG nB B nO O W G L (eV (b.N 0) (b.X 0) (b.Y 0) (f+1)) (decide (e=0)) hg
  exact this
noncomputable def CL (b:dJ) (nB:Nat) (B:Nat->Int) (nO:Nat) (O:Nat->Int) (W G L f a e:Int):eH:={ dq:=[(1,[(5,.res fun _=> .fy [dI (ft (b.N 0) (b.X 0) (b.Y 0) G W f a),dI (gA (b.N 0) (b.X 0) (b.Y 0) G W f e)])])],loops:=[],dw:=[] }
theorem wY (b:dJ) (nB:Nat) (B:Nat->Int) (nO:Nat) (O:Nat->Int) (W G L f a e:Int) (hs:0<b.nS) (h:gz (b.N 0) (b.X 0) (b.Y 0)=0) (hg:j8 G W) (hf:0<=f/\f<b.N 0) (ha:0<=a/\a<=1) (he:0<=e/\e<=1):dm prog 73 [jI b,Lay.sys nB B nO O W G L,dI f,dI a,dI e] (dI (jG (b.N 0) (b.X 0) (b.Y 0) G W f a e)):=by
 refine db dv (CL b nB B nO O W G L f a e) (V:= .da [dm prog 122 [(jI b),.agg [.di nB [fun i=>(dI (B i))],.di nO [fun i=>(dI (O i))],(dI W),(dI G),(dI L)],(dI f),(dI a),(dI e)] (.fy [(dI (ft (b.N 0) (b.X 0) (b.Y 0) G W f a)),(dI (gA (b.N 0) (b.X 0) (b.Y 0) G W f e))])] (.da [cZ (gA (b.N 0) (b.X 0) (b.Y 0) G W f e - ft (b.N 0) (b.X 0) (b.Y 0) G W f a)] (.done [gA (b.N 0) (b.X 0) (b.Y 0) G W f e - ft (b.N 0) (b.X 0) (b.Y 0) G W f a=jG (b.N 0) (b.X 0) (b.Y 0) G W f a e]))) (by kernel_rfl) ?_
 simp only [VT.holds,dt,Sq]
 have hn:=fp h
 obtain ⟨hX,hY⟩:=eB h
 have b1:=pU (n:=b.N 0) (X:=b.X 0) (Y:=b.Y 0) f hg ha
 have b2:=xO f (by omega) hX hY hg he
 exact ⟨Rt b nB B nO O W G L f a e hs h hg hf ha he,by unfold cZ;omega,rfl⟩
noncomputable def F7 (b:dJ) (nB:Nat) (B:Nat->Int) (nO:Nat) (O:Nat->Int) (W G L:Int):eH:={ dq:=[],loops:=[(0,{ ι:=Nat,keep:=[2,3],boxes:=[2,3],ts:=fun _ i=>[(6,dI (((i:Int)+1)*L))],rw:=fun _ i=>[(5,1,i,[fun k=>dI (((k:Int)+1)*L)])],inv:=fun _ i=>(i:Int)*L<=b.dr,mu:=fun _ i=>(b.dr - (i:Int)*L).toNat,rd:=fun _ σ=>(eA (σ.get 6)/L - 1).toNat })],dw:=[] }
namespace w2y
noncomputable section
structure Z where
 b:dJ
 nB:Nat
 B:Nat->Int
 nO:Nat
 O:Nat->Int
 W:Int
 G:Int
 L:Int
variable (z:Z) (i0:Nat) (P:List Prop) (k:Nat)
abbrev x0:=((k:Int)+1)*z.L
abbrev x1:=i0<z.b.nO->rf (z.b.O i0 k)
abbrev x2:=i0<z.b.nB->rf (z.b.B i0 k)
abbrev x3:=Int.toNat ((x0 z i0+z.L)/z.L - 1)
abbrev x4:=Int.toNat (z.L/z.L - 1)
abbrev x5:=Int.toNat (z.b.dr - (k:Int)*z.L)
abbrev x6:List Prop:=rf z.b.name::rf z.b.nS::(∀i0<z.b.nS,rf (z.b.fl i0))::(∀i0<z.b.nS,rf (z.b.N i0)/\(∀i1<z.b.N i0,rf (z.b.X i0 i1))/\(∀i1<z.b.N i0,rf (z.b.Y i0 i1)))::rf z.b.dr::rf z.b.nO::(∀(i0:Nat),x1 z i0 (0:Nat))::(∀(i0:Nat),x1 z i0 (1:Nat))::(∀(i0:Nat),x1 z i0 (2:Nat))::(∀(i0:Nat),x1 z i0 (3:Nat))::(∀(i0:Nat),x1 z i0 (4:Nat))::(∀(i0:Nat),x1 z i0 (5:Nat))::rf z.b.nB::(∀(i0:Nat),x2 z i0 (0:Nat))::(∀(i0:Nat),x2 z i0 (1:Nat))::(∀(i0:Nat),x2 z i0 (2:Nat))::(∀(i0:Nat),x2 z i0 (3:Nat))::(∀(i0:Nat),x2 z i0 (4:Nat))::(∀(i0:Nat),x2 z i0 (5:Nat))::rf z.nB::(∀i0<z.nB,rf (z.B i0))::rf z.nO::(∀i0<z.nO,rf (z.O i0))::rf z.W::rf z.G::rf z.L::P
abbrev xt:VT:=VT.loop Nat (fun i0=>(i0:Int)*z.L<=z.b.dr) (x4 z) ((z.L=x0 z (x4 z))::rf (0:Nat)::(x4 z=0)::(x4 z=0)::x6 z []) (fun i0=>VT.ite (decide ((x0 z i0)<=z.b.dr)) (VT.da [i0<=i0,(i0+1)*((nat_lit 7)+1)<=140737488355328,(1:Nat)<=(1:Nat)] (VT.da [cZ (x0 z i0+z.L)] (VT.done ((x0 z i0+z.L=x0 z (x3 z i0))::rf (0:Nat)::(i0+1=x3 z i0)::(i0+1=x3 z i0)::(∀i1<x3 z i0,(if (decide (i1<i0))=true then (x0 z i1) else (x0 z i0))=x0 z i1)::x6 z [(↑(x3 z i0):Int)*z.L<=z.b.dr,x5 z (x3 z i0)<x5 z i0])))) (VT.done [i0<=i0,i0=Int.toNat (z.b.dr/z.L),∀i0<Int.toNat (z.b.dr/z.L),rf (x0 z i0)]))
end
end w2y
open w2y in
theorem Qj (b:dJ) (nB:Nat) (B:Nat->Int) (nO:Nat) (O:Nat->Int) (W G L:Int) (hr:0<=b.dr/\b.dr<=1000000) (hL:1<=L/\L<=10000):dm prog 140 [jI b,Lay.sys nB B nO O W G L] (Lay.nums (b.dr/L).toNat (fun k=>((k:Int)+1)*L)):=by
 refine db dv (F7 b nB B nO O W G L) (V:=xt ⟨b,nB,B,nO,O,W,G,L⟩) (by kernel_rfl) ?_
 simp only [xt,x0,x1,x2,x3,x4,x5,x6,Rf,VT.holds,dt,Sq]
 have hd: ∀i:Nat,(((i:Int)+1)*L+L)/L - 1=(i:Int)+1:=fun i=>by
  rw [show ((i:Int)+1)*L+L=((i:Int)+2)*L by rw [show (i:Int)+2=i+1+1 by omega,Int.add_mul (i+1:Int) 1,cp],Int.mul_ediv_cancel _ (by omega)]
  omega
 have h0:L/L - 1=0:=by rw [Int.ediv_self (by omega)];rfl
 simp only [hd,h0]
 refine ⟨⟨by simp,rfl,rfl⟩,by simp;omega,fun i hi=>⟨fun h1=> ?_,fun h1=> ?_⟩⟩
 ·have e:((i:Int)+1)*L+L=((i:Int)+1+1)*L:=by rw [Int.add_mul (i+1:Int) 1,cp]
  have e2:(((i:Int)+1).toNat:Int)=i+1:=by omega
  have e3:((i:Int)+1).toNat=i+1:=by omega
  have hb:((i:Int)+1)*L=i*L+L:=by rw [Int.add_mul,cp]
  have hi1:(i:Int)<=(i:Int)*L:=by
   have:=Int.mul_le_mul_of_nonneg_left (show (1:Int)<=L by omega) (show (0:Int)<=i by omega)
   omega
  rw [e3]
  refine ⟨⟨af _,by omega,af _⟩,by unfold cZ;omega,by rw [e];rfl,rfl,rfl,fG (f:=fun k=>((k:Int)+1)*L) rfl,?_,?_⟩
  ·show ((i:Int)+1)*L<=_
   omega
  ·have e4:((i+1:Nat):Int)*L=(i:Int)*L+L:=by rw [<-hb];rfl
   rw [e4];omega
 ·refine ⟨af _,?_⟩
  have:b.dr/L=i:=by
   have u1:=(Int.le_ediv_iff_mul_le (show 0<L by omega)).2 hi
   have u2:=(Int.ediv_lt_iff_lt_mul (show 0<L by omega)).2 (show b.dr<((i:Int)+1)*L by omega)
   omega
  rw [this];rfl
noncomputable def KP (b:dJ) (nB:Nat) (B:Nat->Int) (nO:Nat) (O:Nat->Int) (W G L f a e:Int):eH:={ dq:=[(1,[(5,.res fun _=> .fy [dI (ft (b.N 0) (b.X 0) (b.Y 0) G W f a),dI (gA (b.N 0) (b.X 0) (b.Y 0) G W f e)])]),(2,[(1,J0 b),(2,uL)]),(3,[(4,.res fun _=>dP (qB (b.N 0) (b.X 0) (b.Y 0) f (ft (b.N 0) (b.X 0) (b.Y 0) G W f a) G) (qA (b.N 0) (b.X 0) (b.Y 0) f (ft (b.N 0) (b.X 0) (b.Y 0) G W f a) G)),(12,.res fun _=>dP (qB (b.N 0) (b.X 0) (b.Y 0) f (gA (b.N 0) (b.X 0) (b.Y 0) G W f e) (G+W)) (qA (b.N 0) (b.X 0) (b.Y 0) f (gA (b.N 0) (b.X 0) (b.Y 0) G W f e) (G+W)))]),(4,[(2,.res fun _=>Lay.nums (b.dr/L).toNat (fun k=>((k:Int)+1)*L))])],loops:=[],dw:=[] }
namespace w2z
noncomputable section
structure Z where
 b:dJ
 nB:Nat
 B:Nat->Int
 nO:Nat
 O:Nat->Int
 W:Int
 G:Int
 L:Int
 f:Int
 a:Int
 e:Int
variable (z:Z) (a b:Int) (k:Nat) (A:DV) (E:List DV) (vu:List Value)
abbrev x0:Int:=(↑(Int.toNat a):Int)
abbrev x1:List Value:=Value.int IntKind.i64 a::vu
abbrev x2:=ft (z.b.N 0) (z.b.X 0) (z.b.Y 0) z.G z.W z.f z.a
abbrev x3:=gA (z.b.N 0) (z.b.X 0) (z.b.Y 0) z.G z.W z.f z.e
abbrev x4:=qB (z.b.N 0) (z.b.X 0) (z.b.Y 0) z.f a b
abbrev x5:=qA (z.b.N 0) (z.b.X 0) (z.b.Y 0) z.f a b
abbrev x6:=x0 (z.b.dr/z.L) - 1
abbrev x7:=DV.val (Value.agg (Array.mk (x1 a vu)))
abbrev x8:=x4 z (x2 z) z.G
abbrev x9:=x4 z (x3 z) (z.G+z.W)
abbrev dC:=x5 z (x2 z) z.G
abbrev dA:=x5 z (x3 z) (z.G+z.W)
abbrev dz:=ee (z.b.N 0) (z.b.X 0) (z.b.Y 0) a
abbrev dG:=dD (z.b.N 0) (z.b.X 0) (z.b.Y 0) a
abbrev dL:=(x0 (x6 z)+1)*z.L+z.L
abbrev dR:=dm prog 139 (x7 (z.b.X 0 (Int.toNat z.f)) (x1 (z.b.Y 0 (Int.toNat z.f)) (x1 (z.b.X 0 (ix (z.b.N 0) (x0 z.f+1))) (x1 (z.b.Y 0 (ix (z.b.N 0) (x0 z.f+1))) (x1 (dz z (x0 z.f)) (x1 (dG z (x0 z.f)) [])))))::E) A
abbrev dQ:=DV.di (z.b.N 0) [fun i0=>dI (z.b.X 0 i0),fun i0=>dI (z.b.Y 0 i0)]
abbrev ep:=dm prog k (jI z.b::DV.agg [DV.di z.nB [fun i0=>dI (z.B i0)],DV.di z.nO [fun i0=>dI (z.O i0)],dI z.W,dI z.G,dI z.L]::E) A
abbrev xt:VT:=VT.da [ep z (122:Nat) (DV.fy [dI (x2 z),dI (x3 z)]) [dI z.f,dI z.a,dI z.e]] (VT.da [dm prog 90 [jI z.b] (dQ z),dm prog 131 [dQ z] (DV.di (z.b.N 0) [fun i0=>dI (z.b.X 0 i0),fun i0=>dI (z.b.Y 0 i0),fun i0=>dI (z.b.X 0 (ix (z.b.N 0) ((i0:Int)+1))),fun i0=>dI (z.b.Y 0 (ix (z.b.N 0) ((i0:Int)+1))),fun i0=>dI (dz z (i0:Int)),fun i0=>dI (dG z (i0:Int))]),0<=z.f/\z.f<(↑(z.b.N 0):Int)] (VT.da [dR z (x7 (x8 z) (x1 (dC z) [])) [dI (x2 z),dI z.G],cZ (z.G+z.W),dR z (x7 (x9 z) (x1 (dA z) [])) [dI (x3 z),dI (z.G+z.W)]] (VT.da [ep z (140:Nat) (DV.di (Int.toNat (z.b.dr/z.L)) [fun i0=>dI (((i0:Int)+1)*z.L)]) []] (VT.da [cZ (x6 z),0<=x6 z/\x6 z<x0 (z.b.dr/z.L),cZ (dL z)] (VT.done [iM (x8 z) [x9 z]=lC (z.b.N 0) (z.b.X 0) (z.b.Y 0) z.G z.W z.f z.a z.e,iM (dC z) [dA z]=lA (z.b.N 0) (z.b.X 0) (z.b.Y 0) z.G z.W z.f z.a z.e,rf (0:Int),hP (x8 z) [x9 z]=lB (z.b.N 0) (z.b.X 0) (z.b.Y 0) z.G z.W z.f z.a z.e,hP (dC z) [dA z]=lz (z.b.N 0) (z.b.X 0) (z.b.Y 0) z.G z.W z.f z.a z.e,dL z=gq z.b.dr z.L])))))
end
end w2z
open w2z in
theorem ZI (b:dJ) (nB:Nat) (B:Nat->Int) (nO:Nat) (O:Nat->Int) (W G L f a e:Int) (hs:0<b.nS) (h:gz (b.N 0) (b.X 0) (b.Y 0)=0) (hg:j8 G W) (hf:0<=f/\f<b.N 0) (ha:0<=a/\a<=1) (he:0<=e/\e<=1) (hr:0<=b.dr/\b.dr<=1000000) (hL:1<=L/\L<=10000) (hrl:L<=b.dr):dm prog 92 [jI b,Lay.sys nB B nO O W G L,dI f,dI a,dI e] (bx (lC (b.N 0) (b.X 0) (b.Y 0) G W f a e) (lA (b.N 0) (b.X 0) (b.Y 0) G W f a e) 0 (lB (b.N 0) (b.X 0) (b.Y 0) G W f a e) (lz (b.N 0) (b.X 0) (b.Y 0) G W f a e) (gq b.dr L)):=by
 refine db dv (KP b nB B nO O W G L f a e) (V:=xt ⟨b,nB,B,nO,O,W,G,L,f,a,e⟩) (by kernel_rfl) ?_
 simp only [xt,x0,x1,x2,x3,x4,x5,x6,x7,x8,x9,dC,dA,dz,dG,dL,dR,dQ,ep,Rf,VT.holds,dt,Sq]
 have hn:=fp h
 obtain ⟨hX,hY⟩:=eB h
 have b1:=pU (n:=b.N 0) (X:=b.X 0) (Y:=b.Y 0) f hg ha
 have b2:=xO f (by omega) hX hY hg he
 have om:=hg
 obtain ⟨g1,g2,g3,g4⟩:=om
 obtain ⟨t1,t2,t3,t4⟩:=JI hr hL
 have t5:1<=b.dr/L:=(Int.le_ediv_iff_mul_le (by omega)).2 (by omega)
 have e1:((b.dr/L).toNat:Int)=b.dr/L:=by omega
 have e2:(((b.dr/L).toNat:Int) - 1).toNat=(b.dr/L - 1).toNat:=by omega
 have e3:((((b.dr/L).toNat:Int) - 1).toNat:Int)+1=b.dr/L:=by omega
 have e4:b.dr/L*L+L=gq b.dr L:=by rw [gq,Int.add_mul,cp]
 rw [e3,e4]
 exact ⟨Rt b nB B nO O W G L f a e hs h hg hf ha he,⟨pI b hs,qD _ _ _ h,hf⟩,⟨LN h hf _ _ (by omega) (by omega),by unfold cZ;omega,LN h hf _ _ (by omega) (by omega)⟩,Qj b nB B nO O W G L hr hL,⟨by unfold cZ;omega,by omega,by unfold cZ;omega⟩,yi _ _,yi _ _,vf _ _,vf _ _,rfl⟩
noncomputable def xR (b:dJ) (nB:Nat) (B:Nat->Int) (nO:Nat) (O:Nat->Int) (W G L:Int):eH:={ dq:=[(1,[(1,GY b)]),(4,[(1,.res fun _=>dI (Lay.fN nB B nO O W G L))]),(9,[(4,.pos)]),(11,[(1,J0 b),(4,Ty)]),(12,[(1,J0 b),(7,Ty)]),(16,[(2,J0 b)]),(18,[(3,.res fun l=>dI (jG (b.N 0) (b.X 0) (b.Y 0) G W (aI l 2) 1 0)),(10,.res fun l=>bx (lC (b.N 0) (b.X 0) (b.Y 0) G W (aI l 2) 1 0) (lA (b.N 0) (b.X 0) (b.Y 0) G W (aI l 2) 1 0) 0 (lB (b.N 0) (b.X 0) (b.Y 0) G W (aI l 2) 1 0) (lz (b.N 0) (b.X 0) (b.Y 0) G W (aI l 2) 1 0) (gq b.dr L)),(11,.res fun l=>dI (ik (Dn b (fI 0 (arg l 1)) (fI 1 (arg l 1)) (fI 2 (arg l 1)) (fI 3 (arg l 1)) (fI 4 (arg l 1)) (fI 5 (arg l 1))) b.nB))])],loops:=[(0,{ ι:=Nat,keep:=[2,3],boxes:=[2,3],ts:=fun _ i=>[(11,dI (i:Int))],inv:=fun _ i=>i<=b.N 0/\ ∀k,k<i-> ∀j,j<b.nB->jU b G W L k j=false,mu:=fun _ i=>b.N 0 - i,rd:=fun _ σ=>(eA (σ.get 11)).toNat })],dw:=[] }
namespace w30
noncomputable section
structure Z where
 b:dJ
 nB:Nat
 B:Nat->Int
 nO:Nat
 O:Nat->Int
 W:Int
 G:Int
 L:Int
variable (z:Z) (i0 i1:Nat) (P:List Prop) (a b:Int) (k:Nat) (g:Bool) (A:DV) (U:VT) (Nc:List Value)
abbrev x0:=i0<z.b.nB->rf (z.b.B i0 k)
abbrev x1:=i0<z.b.nO->rf (z.b.O i0 k)
abbrev x2:=jG (z.b.N 0) (z.b.X 0) (z.b.Y 0) z.G z.W (i0:Int) 1 0
abbrev x3:List Value:=Value.int IntKind.i64 a::Value.int IntKind.i64 b::Nc
abbrev x4:=decide ((x2 z i0)>(0:Int))=true
abbrev x5:=kP (z.b.N 0) (z.b.X 0) (z.b.Y 0) a
abbrev x6:=VT.done [a=ja z.b z.nB z.B z.nO z.O z.W z.G z.L]
abbrev x7:=DV.di (z.b.N 0) [fun i0=>dI (z.b.X 0 i0),fun i0=>dI (z.b.Y 0 i0)]
abbrev x8:=Int.toNat ((i0:Int)+1)
abbrev x9:=lC (z.b.N 0) (z.b.X 0) (z.b.Y 0) z.G z.W (i0:Int) 1 0
abbrev dC:=lA (z.b.N 0) (z.b.X 0) (z.b.Y 0) z.G z.W (i0:Int) 1 0
abbrev dA:=lB (z.b.N 0) (z.b.X 0) (z.b.Y 0) z.G z.W (i0:Int) 1 0
abbrev dz:=lz (z.b.N 0) (z.b.X 0) (z.b.Y 0) z.G z.W (i0:Int) 1 0
abbrev dG:=dm prog 90 [jI z.b] (x7 z)
abbrev dL:=DV.agg [DV.di z.nB [fun i0=>dI (z.B i0)],DV.di z.nO [fun i0=>dI (z.O i0)],dI z.W,dI z.G,dI z.L]
abbrev dR:=Lay.fN z.nB z.B z.nO z.O z.W z.G z.L
abbrev dQ:=VT.da P (VT.ite g (x6 z (12:Int)) U)
abbrev ep:=dm prog 89 [x7 z,dI a] (DV.fy [DV.any,dI (x5 z b)])
abbrev eu:=dm prog k [jI z.b,dL z,dI (i0:Int),dI 1,dI 0] A
abbrev eG:=DV.val (Value.agg (Array.mk (x3 (x9 z i0) (dC z i0) (x3 (0:Int) (dA z i0) (x3 (dz z i0) (gq z.b.dr z.L) [])))))
abbrev ez:=i1<k->(∀i0<z.b.nB,jU z.b z.G z.W z.L i1 i0=false)
abbrev eF:=ik (Dn z.b (x9 z i0) (dC z i0) 0 (dA z i0) (dz z i0) (gq z.b.dr z.L)) z.b.nB
abbrev eQ:List Prop:=(a=(k:Int))::rf z.b.name::rf z.b.nS::(∀i0<z.b.nS,rf (z.b.fl i0))::(∀i0<z.b.nS,rf (z.b.N i0)/\(∀i1<z.b.N i0,rf (z.b.X i0 i1))/\(∀i1<z.b.N i0,rf (z.b.Y i0 i1)))::rf z.b.dr::rf z.b.nO::(∀(i0:Nat),x1 z i0 (0:Nat))::(∀(i0:Nat),x1 z i0 (1:Nat))::(∀(i0:Nat),x1 z i0 (2:Nat))::(∀(i0:Nat),x1 z i0 (3:Nat))::(∀(i0:Nat),x1 z i0 (4:Nat))::(∀(i0:Nat),x1 z i0 (5:Nat))::rf z.b.nB::(∀(i0:Nat),x0 z i0 (0:Nat))::(∀(i0:Nat),x0 z i0 (1:Nat))::(∀(i0:Nat),x0 z i0 (2:Nat))::(∀(i0:Nat),x0 z i0 (3:Nat))::(∀(i0:Nat),x0 z i0 (4:Nat))::(∀(i0:Nat),x0 z i0 (5:Nat))::rf z.nB::(∀i0<z.nB,rf (z.B i0))::rf z.nO::(∀i0<z.nO,rf (z.O i0))::rf z.W::rf z.G::P
abbrev xt:VT:=VT.da [dm prog 28 [jI z.b] (dI (fA z.b))] (VT.ite (fA z.b !=0) (x6 z (fA z.b)) (VT.da [dm prog 88 [dL z] (dI (dR z))] (VT.ite (dR z !=0) (x6 z (dR z)) (VT.ite (decide (z.b.dr<z.L)) (x6 z (2:Int)) (VT.da [0<=z.b.dr/\0<z.L/\z.b.dr<=9223372036854775807] (VT.ite (decide ((z.b.dr/z.L)>(40:Int))) (x6 z (8:Int)) (VT.da [dG z,ep z z.G z.G] (VT.da [dG z,cZ (z.G+z.W),ep z (z.G+z.W) (z.G+z.W)] (dQ z [ri ((!(x5 z z.G !=0))=true),(x5 z z.G !=0)=false->(!(x5 z z.G !=0))=true] (if (x5 z z.G !=0)=true then true else (x5 z (z.G+z.W) !=0)) (VT.loop Nat (fun i0=>i0<=z.b.N 0/\(∀(i1:Nat),ez z i1 i0)) (Int.toNat 0) (eQ z [rf z.L] (0:Int) (Int.toNat 0)) (fun i0=>VT.da [dG z] (VT.ite (decide ((i0:Int)<(↑(z.b.N 0):Int))) (dQ z [eu z i0 (73:Nat) (dI (x2 z i0)),ri (x4 z i0),ri (x4 z i0),ri (x4 z i0),x4 z i0->eu z i0 (92:Nat) (eG z i0),ri (x4 z i0),ri (x4 z i0),x4 z i0->dm prog 91 [jI z.b,eG z i0] (dI (eF z i0)),ri (x4 z i0),ri (x4 z i0)] (if (decide ((x2 z i0)>(0:Int)))=true then (decide ((eF z i0)>=(0:Int))) else false) (VT.da [cZ ((i0:Int)+1)] (VT.done (eQ z [rf z.L,x8 i0<=z.b.N 0/\(∀(i1:Nat),ez z i1 (x8 i0)),z.b.N 0 - x8 i0<z.b.N 0 - i0] ((i0:Int)+1) (x8 i0))))) (x6 z (0:Int))))))))))))))
end
end w30
open w30 in
theorem Fs (b:dJ) (nB:Nat) (B:Nat->Int) (nO:Nat) (O:Nat->Int) (W G L:Int) (hN: ∀i,i<b.nS->b.N i<=1000):dm prog 29 [jI b,Lay.sys nB B nO O W G L] (dI (ja b nB B nO O W G L)):=by
 refine db dv (xR b nB B nO O W G L) (V:=xt ⟨b,nB,B,nO,O,W,G,L⟩) (by kernel_rfl) ?_
 simp only [xt,x0,x1,x2,x3,x4,x5,x6,x7,x8,x9,dC,dA,dz,dG,dL,dR,dQ,ep,eu,eG,ez,eF,eQ,Rf,VT.holds,dt,Sq]
 refine ⟨RQ b hN,fun h=>(ZO h).symm,fun hc=>⟨Lay.MK nB B nO O W G L,fun h=>(ZN hc h).symm,fun hs=> ?_⟩⟩
 obtain ⟨b1,b2,b3,b4,b5⟩:=js hc
 obtain ⟨g1,g2,g3⟩:=fP hs
 have hg:=g1
 unfold j8 at hg
 have hn:=fp b2
 refine ⟨fun h=>(ZM hc hs h).symm,fun h3=>⟨by omega,fun h=>(ZL hc hs h3 h).symm,fun h4=>⟨⟨pI b b1,Dp _ _ _ _ b2 (by omega)⟩,⟨pI b b1,by unfold cZ;omega,Dp _ _ _ _ b2 (by omega)⟩,fun h=>(ZK hc hs h3 h4 h).symm,fun h=> ?_⟩⟩⟩
 have e1:kP (b.N 0) (b.X 0) (b.Y 0) G=0:=by omega
 have e2:kP (b.N 0) (b.X 0) (b.Y 0) (G+W)=0:=by omega
 have h5: ¬(kP (b.N 0) (b.X 0) (b.Y 0) G≠0\/kP (b.N 0) (b.X 0) (b.Y 0) (G+W)≠0):=by omega
 obtain ⟨a1,c1⟩:=iw e1
 obtain ⟨a2,c2⟩:=iw e2
 refine ⟨rfl,⟨ao _,fun k hk=>absurd hk (aF k)⟩,fun i ⟨hi,hb⟩=>⟨pI b b1,fun dK=> ?_,fun iy=> ?_⟩⟩
 ·have hp:=Lv (w:=W) a1 a2 (by omega) (by omega) (i:=i) (by omega)
  refine ⟨⟨wY b nB B nO O W G L i 1 0 b1 b2 g1 (by omega) (by omega) (by omega),fun _=>ZI b nB B nO O W G L i 1 0 b1 b2 g1 (by omega) (by omega) (by omega) ⟨b3,b4⟩ ⟨g2,g3⟩ (by omega),fun _=>Us b _ _ _ _ _ _ (by omega)⟩,fun ⟨_,h⟩=> ?_,fun h=> ?_⟩
  ·obtain ⟨j,hj,hx⟩:=Kr h
   exact (ZJ hc hs h3 h4 h5 (Dd (by omega) hj hx)).symm
  ·have hx:=AP (h hp)
   refine ⟨by unfold cZ;omega,rfl,⟨by omega,fun k hk j hj=> ?_⟩,by omega⟩
   by_cases e:k=i
   ·rw [e];exact hx j hj
   ·exact hb k (by omega) j hj
 ·exact (ar_7 hc hs h3 h4 h5 (zR fun k hk j hj=>hb k (by omega) j hj)).symm
end Go.Abs
end
section
set_option maxRecDepth 100000
namespace Go.Abs
open Go
abbrev plB (i:Nat):Int:=[1000,2500].getD i 0
abbrev plO (_:Nat):Int:=500
abbrev plain:DV:=Lay.sys 2 plB 1 plO 700 300 2000
abbrev Qq (b:dJ) (nB:Nat) (B:Nat->Int) (nO:Nat) (O:Nat->Int) (W G L:Int):DV:= .agg [.val (.string b.name),.di b.nS (ML b),dI b.dr,.di b.nO (MZ b),.di b.nB (NN b),Lay.nums nB B,Lay.nums nO O,dI W,dI G,dI L]
def qv (b:dJ) (nB nO:Nat):Bool:=jk b&&decide (nB<=12/\nO<=12)
theorem LX {b:dJ} {nB nO:Nat} (h:qv b nB nO=true):(b.nS<=25/\b.nO<=105/\b.nB<=55/\ ∀i,i<b.nS->b.N i<=45)/\nB<=12/\nO<=12:=by
 unfold qv at h
 rw [av,ai] at h
 exact ⟨Pn h.1,h.2⟩
noncomputable def Ct (b:dJ) (nB:Nat) (B:Nat->Int) (nO:Nat) (O:Nat->Int) (W G L:Int):eH:={ dq:=[(1,[(2,.res fun _=>dB (jk b)),(6,.res fun _=>dB (decide (nB<=12/\nO<=12)))])],loops:=[],dw:=[] }
theorem Ka (b:dJ) (nB:Nat) (B:Nat->Int) (nO:Nat) (O:Nat->Int) (W G L:Int) :dm prog 23 [Qq b nB B nO O W G L] (dB (qv b nB nO)):=by
 refine db dv (Ct b nB B nO O W G L) (V:= .da [dm prog 70 [(jI b)] ((dB (jk b))),ri (jk b=true),ri (jk b=true),jk b=true->dm prog 71 [.agg [.di nB [fun i=>(dI (B i))],.di nO [fun i=>(dI (O i))],(dI W),(dI G),(dI L)]] ((dB (decide (nB<=12/\nO<=12)))),ri (jk b=true)] (.done [(if jk b=true then decide (nB<=12/\nO<=12) else false)=qv b nB nO])) (by kernel_rfl) ?_
 simp only [VT.holds,dt,Sq]
 exact ⟨⟨Th b,fun _=>Lay.few_c nB B nO O W G L⟩,rfl⟩
end Go.Abs
end
