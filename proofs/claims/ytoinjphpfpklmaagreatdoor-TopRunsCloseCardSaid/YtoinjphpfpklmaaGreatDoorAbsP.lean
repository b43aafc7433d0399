/- Contracts and what they stand on. -/
import Derived.Test.YtoinjphpfpklmaaGreatDoorAbsM
set_option linter.unusedVariables false
set_option linter.unusedSimpArgs false
section
namespace Go.Abs
open Go.RowKit
section
variable {P:Program} {ro:Option Nat} {m:Nat} {base:Nat} {w0 w w':World} {S0:Env} {σ σ':St} {kn:Nat->Prop} {c9:Nat->Option Loc} {a:Act}
theorem qV (r:R base w0 S0 σ kn c9 a w) {id:Nat} (fS: ¬kn id) {oc:fE} {o:Oper} (dg:dp (eM P oc id σ o).vc) {K:Act->World->Prop} {Q:Exit->Act->World->Prop}
 (eS:kQ σ.nt σ.lo o.dst=true) (hK: ∀a' w',wE base w0 S0 (σ.ui o.dst (eM P oc id σ o)) kn id a' w'->K a' w'):o.wpIn (FW ro) m P a w K Q:=by
 generalize he:eM P oc id σ o=e at dg hK
 unfold eM at he
 split at he
 ·rename_i c x y ho
  exact eI (fun c h=>by rw [ho] at h;cases h) (s:=do pure (if <-asBool (a.eval c) then a.eval x else a.eval y)) (by unfold execOp;rw [ho];simp) ((E8 he dg (r.ev c) (r.ev x) (r.ev y)).runs r) eS hK
 ·unfold qY at he
  cases hc:pS σ o.op.operands.toList with
  |nil=>
   simp only [hc] at he
   refine yq r fS he dg (fun y hy=>(r.ev y).un (nV (l:=o.op.operands.toList) (by rw [hc];intro p hp;cases hp) y hy)) eS hK
  |cons p ps=>
   simp only [hc] at he
   subst he
   obtain ⟨h1,h2⟩:=dp.app dg
   refine yq r fS rfl h2 (fun y hy=>(r.ev y).un (nV (l:=o.op.operands.toList) (by rw [hc];exact h1) y hy)) eS (fun a' w' h=>hK a' w' ?_)
   exact h
theorem Rel.cond {rd:Rd} {d:DV} {v:Value} (h:Rel rd kn c9 d v): ∀q,d.mZ =some q->(q=true->Rel rd kn c9 d.un v)/\(q=false->v=undef):=by
 induction h with
 |opt hb hu ih=>
  rename_i b d v
  intro q hq
  simp only [DV.mZ] at hq
  split at hq
  ·rename_i hn
   cases hq
   refine ⟨fun e=> ?_,hu⟩
   exact (hb e).un (fun c hc=>by rw [hn] at hc;cases hc)
  ·rename_i c hc
   cases hq
   refine ⟨fun e=> ?_,fun e=> ?_⟩
   ·simp at e
    exact (ih e.1 c hc).1 e.2
   ·cases wK:b with
    |false=>exact hu wK
    |true=>
     rw [wK] at e
     exact (ih wK c hc).2 (by simpa using e)
 |_=>intro q hq;simp [DV.mZ] at hq
theorem ZP.after {dst:Option Tmp} {e:eW} {b:Bool} {id:Nat} {Yv:Nat->Prop} (hb:b=true) {hw:List (Nat×Option fK)} (hh:e.hw=hw) {vc:List Prop} (eS:kQ σ.nt σ.lo dst=true) (h:wE base w0 S0 (σ.ui dst e) Yv id a w):wE base w0 S0 (σ.ui dst { d:= .opt b e.d,hw:=hw,vc:=vc }) Yv id a w:=by
 obtain ⟨eL,dk,hR,hk⟩:=h
 subst hh
 refine ⟨eL,dk,⟨hR.below,hR.xs,hR.fw,hR.rH,hR.nM,hR.LB,hR.lR,hR.yx,hR.size,fun t=> ?_,hR.fg,hR.inj,hR.ge,hR.live,hR.EF⟩,hk⟩
 have ht:=hR.tmps t
 cases dst with
 |none=>exact ht
 |some t0=>
  unfold St.get St.ui at ht ⊢
  simp only [dH] at ht ⊢
  by_cases e0:t0=t
  ·simp only [e0,bn] at ht ⊢
   exact .opt (fun _=>ht) (fun h=>by rw [hb] at h;cases h)
  ·simp only [e0,cg] at ht ⊢
   exact ht
theorem vh {α:Type}: ∀(l m:List (Nat×α)) (i:Nat),look (l++m) i=match look l i with|some v=>some v|none=>look m i
 |[],m,i=>rfl
 |(k,v)::r,m,i=>by
  simp only [bp,dH]
  by_cases h:k=i
  ·simp [h]
  ·simp only [ae h];exact vh r m i
theorem qW (r:R base w0 S0 σ kn c9 a w) {id:Nat} (fS: ¬kn id) {ops:Array Oper} {oc:fE} {o:Oper} (dg:dp (jl P ops oc id σ o).vc) {K:Act->World->Prop} {Q:Exit->Act->World->Prop}
 (eS:kQ σ.nt σ.lo o.dst=true) (hK: ∀a' w',wE base w0 S0 (σ.ui o.dst (jl P ops oc id σ o)) kn id a' w'->K a' w'):
 if Region.wanted o (yielded ops a.tmps)=true then o.wpIn (FW ro) m P a w K Q else (∀f,o.about P w a.eval=some f->(FW ro).fn f)/\K (a.put o.dst undef) w:=by
 unfold jl at dg hK
 cases hg:tL ops σ o with
 |always=>
  simp only [hg] at dg hK
  have hgn:o.guard=none:=by
   unfold tL at hg
   split at hg
   ·assumption
   ·split at hg
    ·split at hg
     ·split at hg<;>cases hg
     ·cases hg
    ·cases hg
  rw [ah (by simp [Region.wanted,hgn])]
  exact qV r fS dg eS hK
 |unknown=>simp only [hg] at dg;exact dc dg
 |when b=>
  simp only [hg] at dg hK
  -- whether it runs is what b says
  have VM:(Region.wanted o (yielded ops a.tmps)=true↔b=true):=by
   unfold tL at hg
   split at hg
   ·cases hg
   ·rename_i j want hgu
    split at hg
    ·rename_i t ht
     split at hg
     ·rename_i p hp
      have hrel:=r.tmps t
      have hy:Region.wanted o (yielded ops a.tmps)=true↔a.tmps.getD t undef= .bool want:=by
       unfold Region.wanted
       rw [hgu]
       simp only [yielded,ht,Option.bind_some,aC]
       cases hv:a.tmps[t]? with
       |none=>simp [undef]
       |some v=>cases v<;>simp
      rw [hy]
      split at hg
      ·rename_i hc
       cases hg
       have:=hrel.un (fun c h=>by rw [hc] at h;cases h)
       rw [hp] at this
       rw [this.lO]
       cases want<;>cases p<;>simp
      ·rename_i q hc
       cases hg
       obtain ⟨h1,h2⟩:=hrel.cond q hc
       cases q with
       |false=>
        rw [h2 rfl]
        simp [undef]
       |true=>
        have:=h1 rfl
        rw [hp] at this
        rw [this.lO]
        cases want<;>cases p<;>simp
     ·cases hg
    ·cases hg
  cases hb:b with
  |true=>
   rw [ah (VM.2 hb)]
   subst hb
   refine qV (oc:=oc) r fS ?_ eS fun a' w' h=>hK a' w' ?_
   ·split at dg
    ·intro p hp
     exact dg (true=true->p) (cy hp) rfl
    ·split at dg
     ·intro p hp
      exact dg (true=true->p) (aW _ (cy hp)) rfl
     ·exact dg.tl
   ·split
    ·rename_i hw
     exact ZP.after rfl hw eS h
    ·rename_i nj
     split
     ·rename_i wI hs
      split at dg
      ·rename_i h0;exact absurd h0 nj
      ·split at dg
       ·rw [s7 (fun p hp=>dg p (aR _ hp)) hs]
        exact ZP.after rfl rfl eS h
       ·rename_i Oj;rw [hs] at Oj;cases Oj
     ·exact ZP.after rfl rfl eS h
  |false=>
   rw [ae (fun h=>by have:=VM.1 h;rw [hb] at this;cases this)]
   subst hb
   split at dg
   ·rename_i hw
    refine ⟨fun _ _=>trivial,hK _ _ ⟨kn,c9,?_,fun _ h=> .inl h⟩⟩
    simp only [hw]
    exact R.nH (e:={ d:= .opt false (eM P oc id σ o).d,vc:=(eM P oc id σ o).vc.map fun p=>(false=true->p) }) r eS (.opt (fun h=>by cases h) fun _=>rfl)
   ·split at dg
    ·rename_i wI hs
     refine ⟨fun _ _=>trivial,hK _ _ ⟨kn,c9,?_,fun _ h=> .inl h⟩⟩
     have r2:=R.nH (e:={ d:= .opt false (eM P oc id σ o).d }) r eS (.opt (fun h=>by cases h) fun _=>rfl)
     have eo: ∀i,(σ.ui o.dst { d:= .opt false (eM P oc id σ o).d }).obj i=(σ.ui o.dst { d:= .opt false (eM P oc id σ o).d,hw:=wI,vc:=kc σ.obj (eM P oc id σ o).hw++(eM P oc id σ o).vc.map fun p=>(false=true->p) }).obj i:=by
      intro i
      unfold St.obj St.ui
      simp only [cT]
      rw [vh]
      cases hl:look wI i with
      |none=>rfl
      |some x=>
       have:=qL (fun p hp=>dg p (aR _ hp)) hs hl
       simp only
       rw [this]
       rfl
     have r3:=r2.congr (σ':=σ.ui o.dst { d:= .opt false (eM P oc id σ o).d,hw:=wI,vc:=kc σ.obj (eM P oc id σ o).hw++(eM P oc id σ o).vc.map fun p=>(false=true->p) }) (fun t=>rfl) (fun i=>(eo i).symm) rfl rfl rfl
     split
     ·rename_i h1;exact absurd h1 (by assumption)
     ·split
      ·rename_i hw2 Oj
       rw [hs] at Oj
       cases Oj
       exact r3
      ·rename_i Oj
       rw [hs] at Oj
       cases Oj
    ·have:=dg.hd
     cases this
def Fits (base:Nat) (w0:World) (S0:Env) (σ:St) (a:Act) (w:World):Prop:=
 ∃kn c9,R base w0 S0 σ kn c9 a w/\ ∀i,kn i->i<σ.nx
theorem wX (ops:Array Oper) (dq:List (Nat×fE)) (n0:Nat): ∀(l:List Oper) (k:Nat) (σ:St) (vc:List Prop),∀p∈vc,p∈(jb P ops dq n0 l k σ vc).2
 |[],_,_,_,_,hp=>hp
 |o::r,k,σ,vc,p,hp=>by
  simp only [jb]
  exact wX ops dq n0 r (k+1) _ _ p (aR _ hp)
theorem r7 (ops:Array Oper) (dq:List (Nat×fE)) (n0:Nat): ∀(l:List Oper) (k:Nat) (σ:St) (vc:List Prop),(jb P ops dq n0 l k σ vc).1.nx=σ.nx/\(jb P ops dq n0 l k σ vc).1.nt=σ.nt
 |[],_,_,_=>⟨rfl,rfl⟩
 |o::r,k,σ,vc=>by
  simp only [jb]
  exact r7 ops dq n0 r (k+1) _ _
theorem uD {ops:Array Oper} {dq:List (Nat×fE)} {n0:Nat} {Q:Exit->Act->World->Prop}: ∀(l:List Oper) (k:Nat) (σ:St) (vc:List Prop) (kn:Nat->Prop) (c9:Nat->Option Loc) (a:Act) (w:World),(∀j,l[j]? =ops[k+j]?)->
 R base w0 S0 σ kn c9 a w->(∀i,kn i->i<n0+k)->dp (jb P ops dq n0 l k σ vc).2->
 (∀eL dk a' w',R base w0 S0 (jb P ops dq n0 l k σ vc).1 eL dk a' w'->(∀i,eL i->i<n0+k+l.length)->Q .normal a' w')->wpOpsIn (FW ro) m P ops Q (List.range' k l.length) a w
 |[],k,σ,vc,kn,c9,a,w,_,r,kL,_,hQ=>by
  simp only [b7,List.range'_zero,wpOpsIn]
  exact hQ kn c9 a w r (by simpa using kL)
 |o::l,k,σ,vc,kn,c9,a,w,hl,r,kL,dg,hQ=>by
  have h0:ops[k]? =some o:=by simpa using (hl 0).symm
  simp only [aL,List.range'_succ,wpOpsIn,h0]
  simp only [jb] at dg hQ
  have fS: ¬kn (n0+k):=fun h=>by have:=kL _ h;omega
  have Uc:=wX (P:=P) ops dq n0 l (k+1) (σ.ui o.dst (jl P ops (ma dq k) (n0+k) σ o)) (vc++(bif kQ σ.nt σ.lo o.dst then (jl P ops (ma dq k) (n0+k) σ o).vc else [False]))
  cases hd:kQ σ.nt σ.lo o.dst with
  |false=>
   simp only [hd,ax] at Uc dg
   exact (dg False (Uc False (by simp))).elim
  |true=>
   simp only [hd,aq] at Uc dg hQ
   have hvo:dp (jl P ops (ma dq k) (n0+k) σ o).vc:=fun p hp=>dg p (Uc p (aW _ hp))
   refine qW r fS hvo hd fun a' w' ⟨eL,dk,hR,hk⟩=> ?_
   refine uD l (k+1) _ _ eL dk a' w' (fun j=>by have:=hl (j+1);simpa [bT,Nat.add_comm 1 j] using this) hR (fun i hi=> ?_) dg fun Qo oq a2 w2 h2 qz=>hQ Qo oq a2 w2 h2 fun i hi=>by have:=qz i hi;simp only [aL];omega
   rcases hk i hi with h|h
   ·have:=kL i h;omega
   ·omega
theorem Ex {id:Nat} {ops:Array Oper} {dq:List (Nat×fE)} {Q:Exit->Act->World->Prop} (h:Fits base w0 S0 σ a w) (dg:dp (fi P ops dq σ).2)
 (hQ: ∀a' w',Fits base w0 S0 (fi P ops dq σ).1 a' w'->Q .normal a' w'):(Code.region id ops false).wpIn (FW ro) m P Q a w:=by
 obtain ⟨kn,c9,r,hk⟩:=h
 refine wpIn_region ?_
 rw [List.range_eq_range',<-bP]
 refine uD (n0:=σ.nx) ops.toList 0 { σ with nx:=σ.nx+ops.size } [] kn c9 a w (fun j=>by simp) ?_ (by simpa using hk) dg fun eL dk a' w' hR kZ=>hQ a' w' ⟨eL,dk,hR,fun i hi=> ?_⟩
 ·exact ⟨r.below,r.xs,r.fw,r.rH,r.nM,r.LB,r.lR,r.yx,r.size,r.tmps,r.fg,r.inj,r.ge,r.live,r.EF⟩
 ·have:=kZ i hi
  have e:=(r7 (P:=P) ops dq σ.nx ops.toList 0 { σ with nx:=σ.nx+ops.size } []).1
  show i<(jb P ops dq σ.nx ops.toList 0 { σ with nx:=σ.nx+ops.size } []).1.nx
  rw [e]
  simp at this ⊢;exact this
end
end Go.Abs
end
section
namespace Go.Abs
open Go.RowKit
def dT:DV->List Nat
 |.ptr id _=>[id]
 |.jZ _ id _ _=>[id]
 |.row _ id _ _=>[id]
 |.pB id=>[id]
 |.tok _ m=>[m]
 |.tL _ g _=>[g]
 |.k5 _ g _ _=>[g]
 |_=>[]
def fT:DV->List Nat
 |.jL _ k7=>go k7
 |.nZ _ fs=>go fs
 |.agg cs=>go cs
 |d=>dT d
where go:List DV->List Nat
 |[]=>[]
 |d::r=>dT d++go r
theorem wQ {d:DV} {id:Nat} (h:id∈dT d):id∈fT d:=by
 cases d<;>first|exact h|simp [dT] at h
theorem tj: ∀{k7:List DV} {d:DV} {id:Nat},d∈k7->id∈dT d->id∈fT.go k7
 |c::r,d,id,hd,hi=>by
  simp only [fT.go,aT]
  rcases aS.1 hd with rfl|hd
  ·exact .inl hi
  ·exact .inr (tj hd hi)
def kA (ops:Array Oper) (o:Oper):List Nat:=o.looksAt ops
def iW (σ:St):List Operand->List Nat
 |[]=>[]
 |y::r=>fT (σ.ev y).un++iW σ r
theorem va {σ:St}: ∀{l:List Operand} {y:Operand} {id:Nat},y∈l->id∈fT (σ.ev y).un->id∈iW σ l
 |c::r,y,id,hy,hi=>by
  simp only [iW,aT]
  rcases aS.1 hy with rfl|hy
  ·exact .inl hi
  ·exact .inr (va hy hi)
def lf:Op->Bool
 |.buildSlice .. =>true
 |.slice .. =>true
 |.load .. =>true
 |.store .. =>true
 |.lookup .. =>true
 |.mapUpdate .. =>true
 |.mapEntry .. =>true
 |.entryStore .. =>true
 |.convert .. =>true
 |.call c=>match c.callee with
  |.builtin .len=>false
  |.builtin .min=>false
  |.builtin .max=>false
  |_=>true
 |_=>false
def mj (op:Op):List Operand:=bif lf op then op.operands.toList else []
theorem Hd {op:Op} (h:lf op=true) {y:Operand} (hy:y∈op.operands.toList):y∈mj op:=by rw [mj,h];exact hy
section
variable {P:Program} {ob fF:Heap}
theorem Ey {p:DV} (h: ∀id∈dT p,ob id=fF id):pq ob p=pq fF p:=by
 cases p<;>first|rfl|(simp only [dT,au,b8] at h;simp only [pq,h])
theorem E9 {t:TypeId} {p:DV} (h: ∀id∈dT p,ob id=fF id):rD P ob t p=rD P fF t p:=by simp only [rD,Ey h]
theorem B9 {t:TypeId} {p d:DV} (h: ∀id∈dT p,ob id=fF id):sl P ob t p d=sl P fF t p d:=by
 cases p<;>first|rfl|(simp only [dT,au,b8] at h;simp only [sl,h])
theorem yJ {t:TypeId} {m:Nat} {p:DV} (h: ∀id∈dT p,ob id=fF id):mB P ob t m p=mB P fF t m p:=by
 cases p<;>first|rfl|(simp only [dT,au,b8] at h;simp only [mB,h])
theorem Ce {oc:fE} {id:Nat} {t:TypeId} {p:DV} (h: ∀id∈dT p,ob id=fF id):pM P oc ob id t p=pM P oc fF id t p:=by
 cases p with
 |k5 s g i j=>simp only [dT,au,b8] at h;simp only [pM,Fc,h]
 |_=>simp only [pM,yJ h,E9 h]
theorem AS {t:TypeId} {p d:DV} (h: ∀id∈dT p,ob id=fF id) (h2: ∀id∈dT d,ob id=fF id):mW P ob t p d=mW P fF t p d:=by
 cases p with
 |k5 s g i j=>
  simp only [dT,au,b8] at h
  cases d with
  |row s' r off n=>
   simp only [dT,au,b8] at h2
   match s',off with
   |1,0=>simp only [mW,Mf,h,h2]
   |0,_=>rfl
   |1,_+1=>rfl
   |_+2,_=>rfl
  |_=>rfl
 |_=>simp only [mW];exact B9 h
theorem yK {t:TypeId} {x i:DV}:kk P ob t x i=kk P fF t x i:=by unfold kk;rfl
theorem Cc {t:TypeId} {x:DV} {lo hi:Option DV} (h: ∀id∈dT x,ob id=fF id):sn P ob t x lo hi=sn P fF t x lo hi:=by
 cases x with
 |val v=>cases v<;>first|rfl|(rename_i a n c;cases a<;>cases n<;>cases c<;>rfl)
 |row s' id off len=>
  simp only [dT,au,b8] at h
  simp only [sn,ke,h]
 |_=>rfl
theorem Ci {src dst:TypeId} {x:DV} (h: ∀id∈dT x,ob id=fF id):so P ob src dst x=so P fF src dst x:=by
 cases x with
 |row s id off len=>
  simp only [dT,au,b8] at h
  simp only [so,Fk,h]
 |_=>rfl
theorem AU {oc:fE} {id:Nat} {t:TypeId} {x:DV} {lo hi:Option DV} (h: ∀id∈dT x,ob id=fF id):oW P oc id ob t x lo hi=oW P oc id fF t x lo hi:=by
 unfold oW
 split
 ·cases hi with
  |some _=>rfl
  |none=>
   cases x with
   |row s' r off len=>
    simp only [dT,au,b8] at h
    cases off<;>simp only [vH,h]
   |_=>simp only [vH]
 ·exact Cc h
theorem Nx {t:TypeId} {x:DV}:DM P ob t x=DM P fF t x:=by unfold DM;rfl
theorem En {s:Nat} {x:DV} (h: ∀id∈dT x,ob id=fF id):source ob s x=source fF s x:=by
 cases x with
 |val v=>cases v<;>first|rfl|(rename_i a n c;cases a<;>cases n<;>cases c<;>rfl)
 |row s' id off len=>simp only [dT,au,b8] at h;simp only [source,h]
 |tok t m=>simp only [dT,au,b8] at h;simp only [source,h]
 |_=>rfl
theorem A3 {id:Nat} {t:TypeId} {x y:DV} (h: ∀id∈dT x,ob id=fF id) (h2: ∀id∈dT y,ob id=fF id):oZ P ob id t x y=oZ P fF id t x y:=by
 unfold oZ
 simp only [En h2]
 cases x with
 |val v=>cases v<;>first|rfl|(rename_i a n c;cases a<;>cases n<;>cases c<;>rfl)
 |row s' r off len=>
  simp only [dT,au,b8] at h
  cases off with
  |zero=>simp only [h]
  |succ=>rfl
 |tok t m=>
  simp only [dT,au,b8] at h
  simp only [h]
 |_=>rfl
theorem Ap {x:DV} (h: ∀id∈dT x,ob id=fF id):mP ob x=mP fF x:=by
 cases x<;>first|rfl|(simp only [dT,au,b8] at h;simp only [mP,h])
theorem re: ∀{l:List DV},(∀d∈l,∀id∈dT d,ob id=fF id)->jQ ob l=jQ fF l
 |[],_=>rfl
 |d::r,h=>by
  simp only [jQ]
  rw [Ap (h d ay),re fun d' hd=>h d' (az _ hd)]
theorem Hn {x:DV} (h: ∀id∈fT x,ob id=fF id):Ar ob x=Ar fF x:=by
 cases x with
 |agg cs=>simp only [Ar];rw [re fun d hd id hi=>h id (tj hd hi)]
 |_=>rfl
theorem p5: ∀{l:List (Nat×DV)},(∀p∈l,∀id∈fT p.2,ob id=fF id)->gj ob l=gj fF l
 |[],_=>rfl
 |(i,d)::r,h=>by
  simp only [gj]
  rw [Hn (h (i,d) ay),p5 fun d' hd=>h d' (az _ hd)]
theorem lG {x:DV} (h: ∀id∈dT x,ob id=fF id):p6 ob x=p6 fF x:=by
 cases x with
 |ptr id j=>
  simp only [dT,au,b8] at h
  cases j with
  |zero=>simp only [p6,h]
  |succ j=>rfl
 |_=>exact Ap h
theorem pC: ∀{l:List DV},(∀d∈l,∀id∈dT d,ob id=fF id)->mO ob l=mO fF l
 |[],_=>rfl
 |d::r,h=>by
  simp only [mO]
  rw [lG (h d ay),pC fun d' hd=>h d' (az _ hd)]
theorem rj {x:DV} (h: ∀id∈fT x,ob id=fF id):p7 ob x=p7 fF x:=by
 cases x with
 |jL f cs=>simp only [p7];rw [pC fun d hd id hi=>h id (tj hd hi)]
 |agg cs=>simp only [p7];rw [pC fun d hd id hi=>h id (tj hd hi)]
 |_=>exact lG fun id hi=>h id (wQ hi)
theorem ml: ∀{l:List DV},(∀d∈l,∀id∈fT d,ob id=fF id)->j6 ob l=j6 fF l
 |[],_=>rfl
 |d::r,h=>by
  simp only [j6]
  rw [rj (h d ay),ml fun d' hd=>h d' (az _ hd)]
theorem H4: ∀{d:DV},d.closed=true->dT d=[]:=by
 intro d h
 cases d<;>first|rfl|simp [DV.closed] at h
theorem vU: ∀{cs:List DV},DV.closed.go cs=true->fT.go cs=[]
 |[],_=>rfl
 |d::r,h=>by
  simp only [DV.closed.go] at h
  cases hd:d.closed
  ·simp [hd] at h
  ·simp only [hd,aq] at h
   simp only [fT.go,H4 hd,vU h,List.append_nil]
theorem HL: ∀{cap:List DV},jr cap=true-> ∀d∈cap,∀id∈fT d,id∈dT d
 |c::r,h,d,hd,id,hi=>by
  have hr:jr r=true:=by
   cases c<;>first|exact h|skip
   all_goals
    rename_i cs
    simp only [jr] at h
    cases hc:DV.closed.go cs
    ·simp [hc] at h
    ·simpa [hc] using h
  rcases aS.1 hd with rfl|hd
  ·cases d<;>first|exact hi|skip
   all_goals
    rename_i cs
    simp only [jr] at h
    cases hc:DV.closed.go cs
    ·simp [hc] at h
    ·simp only [fT,vU hc] at hi
     cases hi
  ·exact HL hr d hd id hi
theorem BH {f:FuncId} {A':Nat->Int} {l:List DV} (h: ∀d∈l,∀id∈dT d,ob id=fF id):ur P f ob A' l=ur P f fF A' l:=by
 cases l with
 |nil=>rfl
 |cons d rest=>
  cases d<;>first|rfl|skip
  rename_i s r off len
  have e:=h _ ay r (by simp [dT])
  cases off with
  |zero=>simp only [ur,e]
  |succ=>rfl
theorem BI {f:FuncId} {n':Nat} {A':Nat->Int} {l:List DV} (h: ∀d∈l,∀id∈dT d,ob id=fF id):uu P f ob n' A' l=uu P f fF n' A' l:=by
 cases l with
 |nil=>rfl
 |cons d rest=>
  cases rest with
  |cons=>cases d<;>rfl
  |nil=>
   cases d<;>first|rfl|skip
   rename_i s r off len
   have e:=h _ ay r (by simp [dT])
   cases off with
   |zero=>simp only [uu,e]
   |succ=>rfl
theorem Gr {d:DV} {o:WO} (h: ∀id∈fT d,ob id=fF id):ov ob d o=ov fF d o:=by
 cases o with
 |no=>cases d<;>simp only [ov,rj h]
 |row de=>
  cases d with
  |row s id off len=>
   have h':=h id (by simp [fT,dT])
   cases off with
   |zero=>simp only [ov,h']
   |succ=>simp only [ov]
  |ptr id j=>cases j<;>simp only [ov]
  |_=>simp only [ov]
 |box cs=>
  cases d with
  |ptr id j=>
   have h':=h id (by simp [fT,dT])
   cases j with
   |zero=>simp only [ov,h']
   |succ=>simp only [ov]
  |_=>simp only [ov]
theorem uk: ∀{l:List DV} {q:List WO},(∀d∈l,∀id∈fT d,ob id=fF id)->qC ob l q=qC fF l q
 |[],_,_=>rfl
 |d::r,q,h=>by
  simp only [qC]
  rw [Gr (h d ay),uk fun d' hd=>h d' (az _ hd)]
theorem Gp {f:FuncId} {g:List DV->List WO×DV} {l:List DV} (h: ∀d∈l,∀id∈fT d,ob id=fF id):CW P f ob l g=CW P f fF l g:=by
 have e1:=fun q=>uk (q:=q) h
 simp only [CW,ml h,e1]
theorem JS {id:Nat} {x:DV} (h: ∀i∈dT x,ob i=fF i):GH ob id x=GH fF id x:=by
 cases x with
 |ptr i j=>
  cases j with
  |zero=>simp only [GH,lG h]
  |succ j=>simp only [GH,lG h]
 |_=>simp only [GH,lG h]
theorem zK {id:Nat}: ∀{l:List DV},(∀d∈l,∀i∈dT d,ob i=fF i)->GI ob id l=GI fF id l
 |[],_=>rfl
 |d::r,h=>by
  simp only [GI]
  rw [JS (h d ay),zK fun d' hd=>h d' (az _ hd)]
theorem MO {id:Nat} {x:DV} (h: ∀i∈fT x,ob i=fF i):X8 ob id x=X8 fF id x:=by
 cases x with
 |jL f cs=>simp only [X8];rw [zK fun d hd i hi=>h i (tj hd hi)]
 |_=>simp only [X8,rj h]
theorem zL {id:Nat}: ∀{l:List DV},(∀d∈l,∀i∈fT d,ob i=fF i)->GL ob id l=GL fF id l
 |[],_=>rfl
 |d::r,h=>by
  simp only [GL]
  rw [MO (h d ay),zL fun d' hd=>h d' (az _ hd)]
theorem GK {f:FuncId} {k c:Nat} {g:List DV->List DV×DV} {l:List DV} (h: ∀d∈l,∀i∈fT d,ob i=fF i):Dc P f ob l k c g=Dc P f fF l k c g:=by
 unfold Dc
 cases hs:X6 l k c with
 |none=>rfl
 |some id=>
  have e:ob id=fF id:=by
   unfold X6 at hs
   split at hs
   ·rename_i f' cs hk
    split at hs
    ·rename_i i hc
     cases hs
     exact h _ (aG hk) id (tj (aG hc) (by simp [dT]))
    ·cases hs
   ·cases hs
  simp only [ml h,zL h,e]
theorem NL {f:FuncId} {x:DV} {b s r len:Nat} {g:Nat->List (Nat->DV)->DV->(Nat->Int)×DV} {o:Option fK}: ∃o',(Fw P f x b s r len g o).hw=[(r,o')]:=by
 unfold Fw
 split
 ·split
  ·cases Nat.beq s 1&& !(Nat.beq b r)<;>exact ⟨_,rfl⟩
  ·exact ⟨_,rfl⟩
 ·exact ⟨_,rfl⟩
theorem Fy {f:FuncId} {g:Nat->List (Nat->DV)->DV->(Nat->Int)×DV} {l:List DV} (h: ∀d∈l,∀i∈fT d,ob i=fF i) (hw: ∀i∈(tY P f ob l g).hw.map (·.1),ob i=fF i):tY P f ob l g=tY P f fF l g:=by
 unfold tY at hw ⊢
 split
 ·rename_i x b
  have e:=h (.ptr b 0) (by simp) b (by simp [fT,dT])
  simp only [<-e]
  split
  ·rename_i s r len gR
   simp only [gR] at hw
   obtain ⟨o',oQ⟩:=NL (P:=P) (f:=f) (x:=x) (b:=b) (s:=s) (r:=r) (len:=len) (g:=g) (o:=ob r)
   rw [oQ] at hw
   rw [hw r (by simp)]
  ·rfl
 ·rfl
theorem vP {oc:fE} {id:Nat} {f:FuncId} {l:List DV} (h: ∀d∈l,∀id∈fT d,ob id=fF id) (hw: ∀i∈(rF P oc id ob f l).hw.map (·.1),ob i=fF i):rF P oc id ob f l=rF P oc id fF f l:=by
 cases oc with
 |bro g=>exact Fy h hw
 |_=>
  clear hw
  have h': ∀d∈l,∀id∈dT d,ob id=fF id:=fun d hd id hi=>h d hd id (wQ hi)
  have e1:=fun g=>Gp (P:=P) (f:=f) (g:=g) h
  have e2:=fun k c g=>GK (P:=P) (f:=f) (k:=k) (c:=c) (g:=g) h
  simp only [rF,re h',ml h,BH h',BI h',e1,e2]
theorem AW {id:Nat} {t:TypeId} {x k:DV} {ok:Bool} (h: ∀id∈dT x,ob id=fF id):oX P ob id t x k ok=oX P fF id t x k ok:=by
 cases x with
 |pB m=>simp only [dT,au,b8] at h;simp only [oX,h]
 |val v=>cases v<;>first|rfl|(rename_i a;cases a<;>rfl)
 |_=>rfl
theorem vJ {t:TypeId} {m k v:DV} (h: ∀id∈dT m,ob id=fF id) (h2: ∀id∈dT v,ob id=fF id):ic P ob t m k v=ic P fF t m k v:=by
 cases m with
 |pB mi=>
  simp only [dT,au,b8] at h
  cases v with
  |row s r off n=>
   simp only [dT,au,b8] at h2
   cases off with
   |zero=>simp only [ic,h,h2]
   |succ=>simp only [ic,h]
  |_=>simp only [ic,h]
 |_=>simp only [ic]
theorem xG {id:Nat} {t:TypeId} {m k:DV} (h: ∀id∈dT m,ob id=fF id):k6 P ob id t m k=k6 P fF id t m k:=by
 cases m with
 |pB m=>simp only [dT,au,b8] at h;simp only [k6,h]
 |_=>rfl
theorem tV {m s v:DV} (h: ∀id∈dT m,ob id=fF id):jB ob m s v=jB fF m s v:=by
 cases m with
 |pB m=>
  simp only [dT,au,b8] at h
  cases s<;>first|rfl|simp only [jB,h]
 |_=>rfl
theorem AZ {t:TypeId} {m k:DV} (h: ∀id∈dT m,ob id=fF id):oY P ob t m k=oY P fF t m k:=by
 cases m with
 |pB m=>simp only [dT,au,b8] at h;simp only [oY,h]
 |_=>rfl
theorem Ck {t:TypeId} {x:DV} (h: ∀id∈dT x,ob id=fF id):ss P ob t x=ss P fF t x:=by
 cases x with
 |row s id off len=>simp only [dT,au,b8] at h;simp only [ss,h]
 |_=>rfl
theorem xl {x x':Operand->DV}: ∀(l:List (Nat×Operand)),(∀p∈l,x p.2=x' p.2)->(l.map fun p=>(p.1,x p.2))=l.map fun p=>(p.1,x' p.2)
 |[],_=>rfl
 |p::l,h=>by rw [bO,bO,h p ay,xl l fun q hq=>h q (az _ hq)]
theorem Kv {oc:fE} {id:Nat} {o:Oper} {x x':Operand->DV} (hx: ∀y∈o.op.operands.toList,x y=x' y) (ho: ∀y∈mj o.op,∀i∈fT (x y),ob i=fF i) (hw: ∀i∈(tR P oc id o x ob).hw.map (·.1),ob i=fF i):
 tR P oc id o x ob=tR P oc id o x' fF:=by
 have ho:lf o.op=true-> ∀y∈o.op.operands.toList,∀i∈fT (x y),ob i=fF i:=fun h y hy=>ho y (Hd h hy)
 have top:lf o.op=true-> ∀y∈o.op.operands.toList,∀i∈dT (x y),ob i=fF i:=fun h y hy i hi=>ho h y hy i (wQ hi)
 unfold tR
 cases np:o.op with
 |move y=>simp only [np] at hx ⊢;rw [hx y (by simp [Op.operands])]
 |assign y=>simp only [np] at hx ⊢;rw [hx y (by simp [Op.operands])]
 |box t y=>simp only [np] at hx ⊢;rw [hx y (by simp [Op.operands])]
 |build t parts=>
  simp only [np] at hx ⊢
  congr 1
  exact xl parts.toList fun p hp=>hx p.2 (by simp only [Op.operands];exact cy hp)
 |buildSlice t len parts=>
  simp only [np] at hx ho ⊢
  have e1:=xl (x:=x) (x':=x') parts.toList fun p hp=>hx p.2 (by simp only [Op.operands];exact cy hp)
  have e2:gj ob (parts.toList.map fun p=>(p.1,x p.2))=gj fF (parts.toList.map fun p=>(p.1,x p.2)):=p5 fun q hq id hi=>by
   obtain ⟨p,hp,rfl⟩:=br.1 hq
   exact ho rfl p.2 (by simp only [Op.operands];exact cy hp) id hi
  simp only [lh,e2]
  rw [e1]
 |slice t y lo hi mx=>
  cases mx with
  |some m=>rfl
  |none=>
   simp only [np] at hx top ⊢
   have hl:lo.map x=lo.map x':=by cases lo with
    |none=>rfl
    |some z=>simp only [aA];rw [hx z (by simp [Op.operands])]
   have hh:hi.map x=hi.map x':=by cases hi with
    |none=>rfl
    |some z=>simp only [aA];rw [hx z (by simp [Op.operands])]
   rw [<-hx y (by simp [Op.operands]),hl,hh]
   exact AU (top rfl y (by simp [Op.operands]))
 |load t y=>
  simp only [np] at hx top ⊢
  rw [<-hx y (by simp [Op.operands])]
  exact Ce (top rfl y (by simp [Op.operands]))
 |store t p y=>
  simp only [np] at hx top ⊢
  rw [<-hx p (by simp [Op.operands]),<-hx y (by simp [Op.operands])]
  exact AS (top rfl p (by simp [Op.operands])) (top rfl y (by simp [Op.operands]))
 |nilCheck y=>simp only [np] at hx ⊢;rw [hx y (by simp [Op.operands])]
 |makeMap t rs=>cases rs<;>rfl
 |lookup t y i ok=>
  simp only [np] at hx top ⊢
  rw [<-hx y (by simp [Op.operands]),<-hx i (by simp [Op.operands])]
  exact AW (top rfl y (by simp [Op.operands]))
 |mapUpdate t m k y=>
  simp only [np] at hx top ⊢
  rw [<-hx m (by simp [Op.operands]),<-hx k (by simp [Op.operands]),<-hx y (by simp [Op.operands])]
  exact vJ (top rfl m (by simp [Op.operands])) (top rfl y (by simp [Op.operands]))
 |mapEntry t m k=>
  simp only [np] at hx top ⊢
  rw [<-hx m (by simp [Op.operands]),<-hx k (by simp [Op.operands])]
  exact xG (top rfl m (by simp [Op.operands]))
 |entryStore t m s y=>
  simp only [np] at hx top ⊢
  rw [<-hx m (by simp [Op.operands]),<-hx s (by simp [Op.operands]),<-hx y (by simp [Op.operands])]
  exact tV (top rfl m (by simp [Op.operands]))
 |makeSlice t y z=>simp only [np] at hx ⊢;rw [hx y (by simp [Op.operands]),hx z (by simp [Op.operands])]
 |binOp op t y z ty=>simp only [np] at hx ⊢;rw [hx y (by simp [Op.operands]),hx z (by simp [Op.operands])]
 |unOp op t y=>simp only [np] at hx ⊢;rw [hx y (by simp [Op.operands])]
 |convert a b y=>
  simp only [np] at hx top ⊢
  rw [<-hx y (by simp [Op.operands])]
  exact Ci (top rfl y (by simp [Op.operands]))
 |fieldAddr s y f=>simp only [np] at hx ⊢;rw [hx y (by simp [Op.operands])]
 |field s y f=>simp only [np] at hx ⊢;rw [hx y (by simp [Op.operands])]
 |indexAddr t y i=>
  simp only [np] at hx top ⊢
  rw [<-hx y (by simp [Op.operands]),<-hx i (by simp [Op.operands])]
  exact yK
 |index t y i=>simp only [np] at hx ⊢;rw [hx y (by simp [Op.operands]),hx i (by simp [Op.operands])]
 |extract y i=>simp only [np] at hx ⊢;rw [hx y (by simp [Op.operands])]
 |makeFunc fn first cap=>
  cases fn with
  |func f=>
   simp only [np] at hx ⊢
   have:cap.toList.map x=cap.toList.map x':=List.map_congr_left fun y hy=>hx y (by simp only [Op.operands];simp;exact .inr (by simpa using hy))
   have that:first.toList.map x=first.toList.map x':=List.map_congr_left fun y hy=>hx y (by simp only [Op.operands];simp;exact .inl (by simpa using hy))
   rw [this]
   cases hl:first.toList with
   |nil=>rfl
   |cons y r=>
    rw [hl] at that
    simp only
    rw [that]
  |_=>rfl
 |call c=>
  simp only [np] at hx top ⊢
  have iK: ∀y∈c.args.toList,y∈(Op.call c).operands.toList:=fun y hy=>by simp only [Op.operands,Call.operands];simp;exact .inr (by simpa using hy)
  have YO:c.args.toList.map x=c.args.toList.map x':=List.map_congr_left fun y hy=>hx y (iK y hy)
  cases lU:c.callee with
  |builtin b=>
   cases b with
   |len=>
    simp only
    cases h1:c.args.toList with
    |nil=>rfl
    |cons y r=>
     cases r with
     |cons=>rfl
     |nil=>
      cases h2:c.argTypes.toList with
      |nil=>rfl
      |cons t q=>
       cases q with
       |cons=>rfl
       |nil=>
        have hy:=iK y (by rw [h1];exact ay)
        simp only
        rw [<-hx y hy]
        exact Nx
   |append=>
    simp only
    split
    ·rename_i y z t t' h1 h2
     have hy:=iK y (by rw [h1];exact ay)
     have hz:=iK z (by rw [h1];exact az _ ay)
     rw [<-hx y hy,<-hx z hz,A3 (top (by simp only [lf,lU]) y hy) (top (by simp only [lf,lU]) z hz)]
    ·rfl
   |delete=>
    simp only
    split
    ·rename_i y z t ts h1 h2
     have hy:=iK y (by rw [h1];exact ay)
     have hz:=iK z (by rw [h1];exact az _ ay)
     rw [<-hx y hy,<-hx z hz,AZ (top (by simp only [lf,lU]) y hy)]
    ·rfl
   |clear=>
    simp only
    split
    ·rename_i y t ts h1 h2
     have hy:=iK y (by rw [h1];exact ay)
     rw [<-hx y hy,Ck (top (by simp only [lf,lU]) y hy)]
    ·rfl
   |min=>simp only [YO]
   |max=>simp only [YO]
   |_=>rfl
  |value y=>
   have hy:y∈(Op.call c).operands.toList:=by simp only [Op.operands,Call.operands,lU];simp
   have V1: ∀d∈c.args.toList.map x,∀id∈fT d,ob id=fF id:=by
    intro d hd id fS
    obtain ⟨z,hz,rfl⟩:=br.1 hd
    simp only [np] at ho
    exact ho (by simp only [lf,lU]) z (iK z hz) id fS
   unfold tR at hw
   simp only [np,lU] at hw
   simp only
   rw [<-hx y hy,<-YO]
   split
   ·rename_i f first cap hv
    simp only [hv] at hw
    split
    ·rename_i h1 h2
     simp only [h1,h2] at hw
     exact vP V1 hw
    ·rfl
   ·rename_i f cap hv
    simp only [hv] at hw
    cases hfl:jr cap with
    |false=>rfl
    |true=>
     simp only [hfl,aq] at hw
     refine vP (fun d hd id fS=> ?_) hw
     rcases aT.1 hd with hd|hd
     ·exact V1 d hd id fS
     ·simp only [np] at ho
      exact ho (by simp only [lf,lU]) y hy id (by rw [hv];exact tj hd (HL hfl d hd id fS))
   ·rfl
  |invoke r m=>rfl
 |_=>rfl
theorem Ri {σ σ':St} {ops:Array Oper} {o:Oper} (ht: ∀t∈kA ops o,σ.get t=σ'.get t): ∀y∈o.op.operands.toList,σ.ev y=σ'.ev y:=by
 intro y hy
 cases y with
 |tmp t=>
  refine ht t ?_
  simp only [kA,Oper.looksAt,aT]
  exact .inl (List.mem_filterMap.2 ⟨.tmp t,hy,rfl⟩)
 |_=>rfl
theorem vT {σ σ':St}: ∀{l:List Operand},(∀y∈l,σ.ev y=σ'.ev y)->pS σ l=pS σ' l
 |[],_=>rfl
 |y::r,h=>by
  simp only [pS]
  rw [h y ay,vT fun z hz=>h z (az _ hz)]
theorem Rk {oc:fE} {id:Nat} {o:Oper} {x:Operand->DV} {b:Bool}:(rB P oc id o x ob b).hw=(tR P oc id o x ob).hw\/b=true/\ ∃t rs,o.op= .makeMap t rs:=by
 cases b with
 |false=>exact .inl rfl
 |true=>
  unfold rB
  cases ho:o.op with
  |makeMap t rs=>exact .inr ⟨rfl,_,_,rfl⟩
  |call c=>
   left
   simp only
   split
   ·cases (tR P oc id o x ob).d.plain<;>rfl
   ·rfl
  |_=>exact .inl rfl
theorem M0 {σ:St} {oc:fE} {id:Nat} {o:Oper}:(qY P oc id σ o).hw=(rB P oc id o (fun y=>(σ.ev y).un) σ.obj σ.rn).hw:=by
 unfold qY
 split<;>rfl
theorem qX {σ σ':St} {ops:Array Oper} {oc:fE} {id:Nat} {o:Oper} (ht: ∀t∈kA ops o,σ.get t=σ'.get t) (hh: ∀i∈iW σ (mj o.op),σ.obj i=σ'.obj i) (L3:σ.rn=σ'.rn) (hw: ∀i∈(jl P ops oc id σ o).hw.map (·.1),σ.obj i=σ'.obj i):
 jl P ops oc id σ o=jl P ops oc id σ' o:=by
 have Su:=Ri ht
 have hg:tL ops σ o=tL ops σ' o:=by
  unfold tL
  cases hgu:o.guard with
  |none=>rfl
  |some q=>
   obtain ⟨j,want⟩:=q
   cases hd:(ops[j]?).bind (·.dst) with
   |none=>simp only [hd]
   |some t=>
    have:σ.get t=σ'.get t:=ht t (by simp only [kA,Oper.looksAt,aT,hgu,hd];exact .inr (by simp))
    simp only [hd,this]
 have h0:(∀i∈(qY P oc id σ o).hw.map (·.1),σ.obj i=σ'.obj i)->qY P oc id σ o=qY P oc id σ' o:=by
  intro hw0
  rw [M0] at hw0
  unfold qY
  have e2:rB P oc id o (fun y=>(σ.ev y).un) σ.obj σ.rn=rB P oc id o (fun y=>(σ'.ev y).un) σ'.obj σ'.rn:=by
   rcases Rk (P:=P) (oc:=oc) (id:=id) (o:=o) (x:=fun y=>(σ.ev y).un) (ob:=σ.obj) (b:=σ.rn) with e|⟨e,t,rs,hm⟩
   ·rw [e] at hw0
    have e1:tR P oc id o (fun y=>(σ.ev y).un) σ.obj=tR P oc id o (fun y=>(σ'.ev y).un) σ'.obj:=
     Kv (fun y hy=>by rw [Su y hy]) (fun y hy i hi=>hh i (va hy hi)) hw0
    rw [<-L3]
    cases σ.rn<;>simp only [rB,e1]
   ·rw [<-L3,e]
    simp only [rB,hm]
  rw [vT Su,e2]
 have h1:(∀i∈(eM P oc id σ o).hw.map (·.1),σ.obj i=σ'.obj i)->eM P oc id σ o=eM P oc id σ' o:=by
  intro hwp
  unfold eM at hwp ⊢
  cases np:o.op with
  |pick c a b=>
   have hc:=Su c (by rw [np];simp [Op.operands])
   have ha:=Su a (by rw [np];simp [Op.operands])
   have hb:=Su b (by rw [np];simp [Op.operands])
   simp only [hc,ha,hb]
  |_=>simp only [np] at hwp;exact h0 hwp
 unfold jl at hw ⊢
 rw [<-hg]
 cases hgr:tL ops σ o with
 |always=>
  simp only [hgr] at hw ⊢
  exact h1 hw
 |when b=>
  simp only [hgr] at hw ⊢
  rw [<-h1 (fun i hi=>hw i (by
   split
   ·rename_i h0
    rw [h0] at hi;exact hi
   ·split
    ·rename_i wI hs
     show i∈wI.map (·.1)
     rw [r6 hs];exact hi
    ·exact hi))]
  split
  ·rfl
  ·rename_i nj
   have e:jN b σ.obj (eM P oc id σ o).hw=jN b σ'.obj (eM P oc id σ o).hw/\kc σ.obj (eM P oc id σ o).hw=kc σ'.obj (eM P oc id σ o).hw:=by
    refine yb fun i hi=>hw i ?_
    split
    ·rename_i h0;exact absurd h0 nj
    ·split
     ·rename_i wI hs
      show i∈wI.map (·.1)
      rw [r6 hs];exact hi
     ·exact hi
   rw [e.1,e.2]
 |_=>rfl
end
end Go.Abs
end
section
namespace Go.Abs
open Go.RowKit
def uS {α:Type} (b:Bool) (x:Option α) (init:α):α:=match b,x with
 |true,some v=>v
 |_,_=>init
def jD {α:Type}:List (Option α)->(Nat->Bool)->Nat->α->α
 |[],_,_,init=>init
 |x::r,L,k,init=>jD r L (k+1) (uS (L k) x init)
theorem jn {α:Type}: ∀(ws:List (Option α)) (L:Nat->Bool) (k:Nat) (init:α),(∀j v,ws[j]? =some (some v)->L (k+j)=false)->jD ws L k init=init
 |[],_,_,_,_=>rfl
 |x::r,L,k,init,h=>by
  have h0:uS (L k) x init=init:=by
   cases x with
   |none=>cases L k<;>rfl
   |some v=>have:=h 0 v rfl;simp at this;rw [this];rfl
  simp only [jD,h0]
  exact jn r L (k+1) init fun j v hj=>by have:=h (j+1) v (by simpa using hj);rwa [show k+1+j=k+(j+1) by omega]
theorem mQ {α:Type} (K:Nat) (L:Nat->Bool) (hK:L K=false): ∀(ws:List (Option α)) (k:Nat) (init:α),k<=K->
 (∀j v,ws[j]? =some (some v)->(k+j<K->L (k+j)=true)/\(K<k+j->L (k+j)=false))->jD ws L k init=jD (ws.take (K - k)) (fun _=>true) k init
 |[],k,init,_,_=>by simp [jD]
 |x::r,k,init,hk,h=>by
  rcases Nat.lt_or_eq_of_le hk with dK|rfl
  ·have e:K - k=(K - (k+1))+1:=by omega
   rw [e,List.take_succ_cons]
   simp only [jD]
   have h0:uS (L k) x init=uS true x init:=by
    cases x with
    |none=>cases L k<;>rfl
    |some v=>have:=(h 0 v rfl).1 (by omega);simp at this;rw [this]
   rw [h0]
   exact mQ K L hK r (k+1) _ (by omega) fun j v hj=>by
    have:=h (j+1) v (by simpa using hj)
    rwa [show k+1+j=k+(j+1) by omega]
  ·rw [cM,List.take_zero]
   exact jn _ _ _ _ fun j v hj=>by
    rcases cf j with rfl|hp
    ·simpa using hK
    ·exact (h j v hj).2 (by omega)
theorem oM {α:Type} (K:Nat) (L:Nat->Bool): ∀(ws:List (Option α)) (k:Nat) (init:α),k<=K->(∀v,ws[K - k]? =some (some v)-> ∀j u,ws[j]? =some (some u)->K<k+j->L (k+j)=false)->
 jD ws (fun i=>L i||decide (i=K)) k init=match ws[K - k]? with|some (some v)=>v|_=>jD ws L k init
 |[],k,init,_,_=>by simp [jD]
 |x::r,k,init,hk,h=>by
  rcases Nat.lt_or_eq_of_le hk with dK|rfl
  ·have e:K - k=(K - (k+1))+1:=by omega
   simp only [jD]
   have h0:decide (k=K)=false:=by simp;omega
   rw [h0,Bool.or_false,e,aK]
   exact oM K L r (k+1) _ (by omega) fun v hv j u hj dK=>by
    have:=h v (by rw [e,aK];exact hv) (j+1) u (by simpa using hj) (by omega)
    rwa [show k+1+j=k+(j+1) by omega]
  ·rw [cM] at h ⊢
   simp only [jD,aP,decide_true,Bool.or_true]
   cases x with
   |some v=>
    simp only [uS]
    refine jn _ _ _ _ fun j u hj=> ?_
    have:=h v rfl (j+1) u (by simpa using hj) (by omega)
    have e:decide (k+1+j=k)=false:=by simp;omega
    rw [show k+1+j=k+(j+1) by omega,this]
    simp
   |none=>
    have h0: ∀b,uS b (none:Option α) init=init:=fun b=>by cases b<;>rfl
    simp only [h0]
    have: ∀(r:List (Option α)) (q:Nat) (init:α),k<q->jD r (fun i=>L i||decide (i=k)) q init=jD r L q init:=by
     intro r
     induction r with
     |nil=>intro q init _;rfl
     |cons y r ih=>
      intro q init hq
      have e:decide (q=k)=false:=by simp;omega
      simp only [jD,e,Bool.or_false]
      exact ih (q+1) _ (by omega)
    exact this r (k+1) init (by omega)
theorem nL {α:Type}: ∀(l m:List (Nat×α)) (i:Nat),look (l++m) i=match look l i with|some v=>some v|none=>look m i
 |[],m,i=>rfl
 |(k,v)::r,m,i=>by
  simp only [bp,dH]
  by_cases h:k=i
  ·simp [h]
  ·simp only [ae h];exact nL r m i
theorem St.E6 (σ:St) (dst:Option Tmp) (e:eW) (t:Nat):(σ.ui dst e).get t=if dst=some t then e.d else σ.get t:=by
 cases dst with
 |none=>simp [St.ui,St.get]
 |some d=>
  unfold St.get St.ui
  simp only [dH,aa]
  by_cases h:d=t<;>simp [h]
theorem St.EK (σ:St) (dst:Option Tmp) (e:eW) (id:Nat):(σ.ui dst e).obj id=match look e.hw id with|some o=>o|none=>σ.obj id:=by
 unfold St.obj St.ui
 simp only [nL]
 cases look e.hw id<;>rfl
abbrev Tr:=List (Option Tmp×eW)
def xZ (b:Bool) (x:Option Tmp×eW) (σ:St):St:=match b with
 |true=>σ.ui x.1 x.2
 |false=>σ
def canon:Tr->(Nat->Bool)->Nat->St->St
 |[],_,_,σ=>σ
 |x::r,L,k,σ=>canon r L (k+1) (xZ (L k) x σ)
def tW (t:Nat) (x:Option Tmp×eW):Option DV:=if x.1=some t then some x.2.d else none
def hW (id:Nat) (x:Option Tmp×eW):Option (Option fK):=look x.2.hw id
theorem iD (t:Nat): ∀(tr:Tr) (L:Nat->Bool) (k:Nat) (σ:St),(canon tr L k σ).get t=jD (tr.map (tW t)) L k (σ.get t)
 |[],_,_,_=>rfl
 |x::r,L,k,σ=>by
  simp only [canon,bO,jD]
  rw [iD t r L (k+1)]
  congr 1
  cases L k with
  |false=>rfl
  |true=>
   simp only [xZ,uS,St.E6,tW]
   by_cases h:x.1=some t<;>simp [h]
theorem gU (id:Nat): ∀(tr:Tr) (L:Nat->Bool) (k:Nat) (σ:St),(canon tr L k σ).obj id=jD (tr.map (hW id)) L k (σ.obj id)
 |[],_,_,_=>rfl
 |x::r,L,k,σ=>by
  simp only [canon,bO,jD]
  rw [gU id r L (k+1)]
  congr 1
  cases L k with
  |false=>rfl
  |true=>
   simp only [xZ,uS,St.EK,hW]
   cases look x.2.hw id<;>rfl
theorem mL: ∀(tr:Tr) (L:Nat->Bool) (k:Nat) (σ:St),(canon tr L k σ).nx=σ.nx/\(canon tr L k σ).nt=σ.nt
 |[],_,_,_=>⟨rfl,rfl⟩
 |x::r,L,k,σ=>by
  simp only [canon]
  have:=mL r L (k+1) (xZ (L k) x σ)
  cases hL:L k<;>(rw [hL] at this;exact this)
theorem fm: ∀(tr:Tr) (L:Nat->Bool) (k:Nat) (σ:St),(canon tr L k σ).rn=σ.rn/\(canon tr L k σ).lo=σ.lo
 |[],_,_,_=>⟨rfl,rfl⟩
 |x::r,L,k,σ=>by
  simp only [canon]
  have:=fm r L (k+1) (xZ (L k) x σ)
  cases hL:L k<;>(rw [hL] at this;exact this)
def trace (P:Program) (ops:Array Oper) (dq:List (Nat×fE)) (n0:Nat):List Oper->Nat->St->Tr
 |[],_,_=>[]
 |o::r,k,σ=>(o.dst,jl P ops (ma dq k) (n0+k) σ o)::trace P ops dq n0 r (k+1) (σ.ui o.dst (jl P ops (ma dq k) (n0+k) σ o))
section
variable {P:Program} {ops:Array Oper} {dq:List (Nat×fE)} {n0:Nat}
theorem gT: ∀(l:List Oper) (k:Nat) (σ:St),(trace P ops dq n0 l k σ).length=l.length
 |[],_,_=>rfl
 |o::r,k,σ=>by simp only [trace,aL,gT r]
theorem mH: ∀(l:List Oper) (k:Nat) (σ:St) (j:Nat) (o:Oper),l[j]? =some o->
 (trace P ops dq n0 l k σ)[j]? =some (o.dst,jl P ops (ma dq (k+j)) (n0+(k+j)) (canon ((trace P ops dq n0 l k σ).take j) (fun _=>true) k σ) o)
 |[],_,_,j,o,h=>by simp at h
 |p::r,k,σ,0,o,h=>by
  simp only [aP,aa] at h
  subst h
  simp [trace,canon]
 |p::r,k,σ,j+1,o,h=>by
  simp only [aK] at h
  simp only [trace,aK,List.take_succ_cons,canon,xZ]
  rw [mH r (k+1) _ j o h,show k+1+j=k+(j+1) by omega]
theorem pj: ∀(l:List Oper) (k:Nat) (σ:St) (vc:List Prop),(jb P ops dq n0 l k σ vc).1=canon (trace P ops dq n0 l k σ) (fun _=>true) k σ
 |[],_,_,_=>rfl
 |o::r,k,σ,vc=>by
  simp only [jb,trace,canon,xZ]
  exact pj r (k+1) _ _
theorem qM: ∀(l:List Oper) (k:Nat) (σ:St) (vc:List Prop),dp (jb P ops dq n0 l k σ vc).2-> ∀(j:Nat) (d:Option Tmp) (e:eW),(trace P ops dq n0 l k σ)[j]? =some (d,e)->kQ σ.nt σ.lo d=true/\dp e.vc
 |[],_,_,_,_,j,d,e,h=>by simp [trace] at h
 |o::r,k,σ,vc,dg,0,d,e,h=>by
  simp only [trace,aP,aa,aB] at h
  obtain ⟨rfl,rfl⟩:=h
  simp only [jb] at dg
  have Uc:=wX (P:=P) ops dq n0 r (k+1) (σ.ui o.dst (jl P ops (ma dq k) (n0+k) σ o)) (vc++(bif kQ σ.nt σ.lo o.dst then (jl P ops (ma dq k) (n0+k) σ o).vc else [False]))
  cases hd:kQ σ.nt σ.lo o.dst with
  |false=>
   simp only [hd,ax] at Uc dg
   exact (dg False (Uc False (by simp))).elim
  |true=>
   simp only [hd,aq] at Uc dg
   exact ⟨rfl,fun p hp=>dg p (Uc p (aW _ hp))⟩
 |o::r,k,σ,vc,dg,j+1,d,e,h=>by
  simp only [trace,aK] at h
  simp only [jb] at dg
  exact qM r (k+1) _ _ dg j d e h
structure j9 where
 tr:List Nat
 tw:Option Nat
 hr:List Nat
 hw:List Nat
def has:List Nat->Nat->Bool
 |[],_=>false
 |x::r,i=>bif Nat.beq x i then true else has r i
theorem L9: ∀{l:List Nat} {i:Nat},i∈l->has l i=true
 |x::r,i,h=>by
  simp only [has]
  rcases aS.1 h with rfl|h
  ·simp
  ·cases Nat.beq x i
   ·exact L9 h
   ·rfl
def q8 (l m:List Nat):Bool:=match l with
 |[]=>false
 |x::r=>bif has m x then true else q8 r m
theorem oJ: ∀{l m:List Nat} {i:Nat},i∈l->i∈m->q8 l m=true
 |x::r,m,i,h,hm=>by
  simp only [q8]
  rcases aS.1 h with rfl|h
  ·rw [L9 hm];rfl
  ·cases has m x
   ·exact oJ h hm
   ·rfl
def MV:Option Nat->List Nat
 |some t=>[t]
 |none=>[]
def meets (f g:j9):Bool:=q8 (MV f.tw) (MV g.tw++g.tr)||(q8 (MV g.tw) f.tr||(q8 f.hw (g.hw++g.hr)||q8 g.hw f.hr))
def Rc (ops:Array Oper) (σ:St) (o:Oper) (e:eW):j9:={ tr:=kA ops o,tw:=o.dst,hr:=iW σ (mj o.op),hw:=e.hw.map (·.1) }
def kI (P:Program) (ops:Array Oper) (dq:List (Nat×fE)) (n0:Nat):List Oper->Nat->St->List j9
 |[],_,_=>[]
 |o::r,k,σ=>Rc ops σ o (jl P ops (ma dq k) (n0+k) σ o)::kI P ops dq n0 r (k+1) (σ.ui o.dst (jl P ops (ma dq k) (n0+k) σ o))
theorem oV: ∀(l:List Oper) (k:Nat) (σ:St) (j:Nat) (o:Oper),l[j]? =some o->
 (kI P ops dq n0 l k σ)[j]? =some (Rc ops (canon ((trace P ops dq n0 l k σ).take j) (fun _=>true) k σ) o (jl P ops (ma dq (k+j)) (n0+(k+j)) (canon ((trace P ops dq n0 l k σ).take j) (fun _=>true) k σ) o))
 |[],_,_,j,o,h=>by simp at h
 |p::r,k,σ,0,o,h=>by
  simp only [aP,aa] at h
  subst h
  simp [kI,canon]
 |p::r,k,σ,j+1,o,h=>by
  simp only [aK] at h
  simp only [kI,trace,aK,List.take_succ_cons,canon,xZ]
  rw [oV r (k+1) _ j o h,show k+1+j=k+(j+1) by omega]
def Mt (acc:List Nat):List Edge->Nat->Nat
 |[],s=>s
 |e::r,s=>Mt acc r (bif Region.binds .any e then s|||(2^e.on|||acc.getD e.on 0) else s)
def rU:List Oper->List Nat->List Nat
 |[],acc=>acc
 |o::r,acc=>rU r (acc++[Mt acc o.after.toList 0])
def pP (rX:List Nat) (i:Nat):List Edge->Bool
 |[]=>false
 |e::r=>bif Region.binds .any e&&(Nat.beq e.on i||(rX.getD e.on 0).testBit i) then true else pP rX i r
def pQ (j:Nat):List Edge->Bool
 |[]=>true
 |e::r=>bif Region.binds .any e then (bif Nat.blt e.on j then pQ j r else false) else pQ j r
def lJ (rX:List Nat) (o:Oper) (b:Nat):Nat->Bool
 |0=>true
 |n+1=>bif b.testBit n then (bif pP rX n o.after.toList then lJ rX o b n else false) else lJ rX o b n
def nJ (f:j9) (b:Nat):List j9->Nat->Bool
 |[],_=>true
 |g::r,i=>bif meets g f then (bif b.testBit i then nJ f b r (i+1) else false) else nJ f b r (i+1)
def pw (rX:List Nat) (fs:List j9):List Oper->List j9->Nat->Bool
 |o::r,f::q,j=>nJ f (rX.getD j 0) (fs.take j) 0&&(lJ rX o (rX.getD j 0) fs.length&&(pQ j o.after.toList&&pw rX fs r q (j+1)))
 |[],[],_=>true
 |_,_,_=>false
theorem uT {f:j9} {b:Nat}: ∀{l:List j9} {i0:Nat},nJ f b l i0=true-> ∀(i:Nat) (g:j9),l[i]? =some g->meets g f=true->b.testBit (i0+i)=true
 |[],_,_,i,g,h,_=>by simp at h
 |g'::r,i0,j7,0,g,h,hm=>by
  simp only [aP,aa] at h
  subst h
  simp only [nJ,hm,aq] at j7
  cases hb:b.testBit i0 with
  |true=>simp
  |false=>simp [hb] at j7
 |g'::r,i0,j7,i+1,g,h,hm=>by
  simp only [aK] at h
  have hr:nJ f b r (i0+1)=true:=by
   simp only [nJ] at j7
   cases Sp:meets g' f with
   |false=>simpa [Sp] using j7
   |true=>
    simp only [Sp,aq] at j7
    cases hb:b.testBit i0 with
    |true=>simpa [hb] using j7
    |false=>simp [hb] at j7
  have:=uT hr i g h hm
  rwa [show i0+1+i=i0+(i+1) by omega] at this
theorem ll {rX:List Nat} {o:Oper} {b:Nat}: ∀{n:Nat},lJ rX o b n=true-> ∀i,i<n->b.testBit i=true->pP rX i o.after.toList=true
 |0,_,i,hi,_=>by omega
 |n+1,h,i,hi,hb=>by
  simp only [lJ] at h
  cases hn:b.testBit n with
  |false=>
   simp only [hn,ax] at h
   have:i≠n:=fun e=>by rw [e,hn] at hb;cases hb
   exact ll h i (by omega) hb
  |true=>
   simp only [hn,aq] at h
   cases he:pP rX n o.after.toList with
   |false=>simp [he] at h
   |true=>
    simp only [he,aq] at h
    rcases Nat.lt_or_eq_of_le (Nat.le_of_lt_succ hi) with dK|rfl
    ·exact ll h i dK hb
    ·exact he
theorem pO {rX:List Nat} {i:Nat}: ∀{l:List Edge},pP rX i l=true-> ∃e∈l,Region.binds .any e=true/\(e.on=i\/(rX.getD e.on 0).testBit i=true)
 |[],h=>by simp [pP] at h
 |e::r,h=>by
  simp only [pP] at h
  cases hb:(Region.binds .any e&&(Nat.beq e.on i||(rX.getD e.on 0).testBit i)) with
  |true=>
   simp only [av,cC] at hb
   refine ⟨e,ay,hb.1,?_⟩
   rcases hb.2 with h2|h2
   ·exact .inl (ag h2)
   ·exact .inr h2
  |false=>
   simp only [hb,ax] at h
   obtain ⟨e',he',h'⟩:=pO h
   exact ⟨e',az _ he',h'⟩
theorem rG {j:Nat}: ∀{l:List Edge},pQ j l=true-> ∀e∈l,Region.binds .any e=true->e.on<j
 |[],_,e,he,_=>by cases he
 |x::r,h,e,he,hb=>by
  simp only [pQ] at h
  have hr:pQ j r=true:=by
   cases hx:Region.binds .any x with
   |false=>simpa [hx] using h
   |true=>
    simp only [hx,aq] at h
    cases hl:Nat.blt x.on j with
    |true=>simpa [hl] using h
    |false=>simp [hl] at h
  rcases aS.1 he with rfl|he
  ·simp only [hb,aq] at h
   cases hl:Nat.blt e.on j with
   |true=>exact aH hl
   |false=>simp [hl] at h
  ·exact rG hr e he hb
theorem pt {rX:List Nat} {fs:List j9}: ∀{l:List Oper} {q:List j9} {j0:Nat},pw rX fs l q j0=true-> ∀(j:Nat) (o:Oper) (f:j9),l[j]? =some o->q[j]? =some f->
 nJ f (rX.getD (j0+j) 0) (fs.take (j0+j)) 0=true/\lJ rX o (rX.getD (j0+j) 0) fs.length=true/\pQ (j0+j) o.after.toList=true
 |[],_,_,_,j,o,f,h,_=>by simp at h
 |o'::r,[],_,h,_,_,_,_,_=>by simp [pw] at h
 |o'::r,f'::q,j0,j7,0,o,f,h1,h2=>by
  simp only [aP,aa] at h1 h2
  subst h1 h2
  simp only [pw,av] at j7
  exact ⟨j7.1,j7.2.1,j7.2.2.1⟩
 |o'::r,f'::q,j0,j7,j+1,o,f,h1,h2=>by
  simp only [aK] at h1 h2
  simp only [pw,av] at j7
  have:=pt j7.2.2.2 j o f h1 h2
  rwa [show j0+1+j=j0+(j+1) by omega] at this
end
end Go.Abs
end
