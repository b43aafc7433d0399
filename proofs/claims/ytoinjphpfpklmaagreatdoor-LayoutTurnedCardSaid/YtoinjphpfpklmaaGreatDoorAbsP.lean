/- Contracts and what they stand on. -/
import Derived.Test.YtoinjphpfpklmaaGreatDoorAbsM
set_option linter.unusedVariables false
set_option linter.unusedSimpArgs false
section
namespace Go.Abs
open Go.RowKit
section
variable {P:Program} {ro:Option Nat} {m:Nat} {base:Nat} {w0 w w':World} {S0:Env} {σ σ':St} {kn:Nat->Prop} {di:Nat->Option Loc} {a:Act}
theorem rC (r:R base w0 S0 σ kn di a w) {id:Nat} (fJ: ¬kn id) {oc:fx} {o:Oper} (dr:dw (fa P oc id σ o).vc) {K:Act->World->Prop} {Q:Exit->Act->World->Prop}
 (ff:jH σ.nt σ.lo o.dst=true) (hK: ∀a' w',wP base w0 S0 (σ.uG o.dst (fa P oc id σ o)) kn id a' w'->K a' w'):o.wpIn (FW ro) m P a w K Q:=by
 generalize he:fa P oc id σ o=e at dr hK
 unfold fa at he
 split at he
 ·rename_i c x y ho
  exact eK (fun c h=>by rw [ho] at h;cases h) (s:=do pure (if <-asBool (a.eval c) then a.eval x else a.eval y)) (by unfold execOp;rw [ho];simp) ((Fo he dr (r.ev c) (r.ev x) (r.ev y)).runs r) ff hK
 ·unfold rF at he
  cases hc:qF σ o.op.operands.toList with
  |nil=>
   simp only [hc] at he
   refine yE r fJ he dr (fun y hy=>(r.ev y).un (ow (l:=o.op.operands.toList) (by rw [hc];intro p hp;cases hp) y hy)) ff hK
  |cons p ps=>
   simp only [hc] at he
   subst he
   obtain ⟨h1,h2⟩:=dw.app dr
   refine yE r fJ rfl h2 (fun y hy=>(r.ev y).un (ow (l:=o.op.operands.toList) (by rw [hc];exact h1) y hy)) ff (fun a' w' h=>hK a' w' ?_)
   exact h
theorem Rel.cond {rd:Rd} {d:DV} {v:Value} (h:Rel rd kn di d v): ∀q,d.nw =some q->(q=true->Rel rd kn di d.un v)/\(q=false->v=undef):=by
 induction h with
 |opt hb hu ih=>
  rename_i b d v
  intro q hq
  simp only [DV.nw] at hq
  split at hq
  ·rename_i hn
   cases hq
   refine ⟨fun e=> ?_,hu⟩
   exact (hb e).un (fun c hc=>by rw [hn] at hc;cases hc)
  ·rename_i c hc
   cases hq
   refine ⟨fun e=> ?_,fun e=> ?_⟩
   ·simp at e
    exact (ih e.1 c hc).1 e.2
   ·cases yA:b with
    |false=>exact hu yA
    |true=>
     rw [yA] at e
     exact (ih yA c hc).2 (by simpa using e)
 |_=>intro q hq;simp [DV.nw] at hq
theorem aam.after {dst:Option Tmp} {e:fg} {b:Bool} {id:Nat} {Y3:Nat->Prop} (hb:b=true) {hw:List (Nat×Option fF)} (hh:e.hw=hw) {vc:List Prop} (ff:jH σ.nt σ.lo dst=true) (h:wP base w0 S0 (σ.uG dst e) Y3 id a w):wP base w0 S0 (σ.uG dst { d:= .opt b e.d,hw:=hw,vc:=vc }) Y3 id a w:=by
 obtain ⟨eV,du,hR,hk⟩:=h
 subst hh
 refine ⟨eV,du,⟨hR.below,hR.xs,hR.fv,hR.qD,hR.nM,hR.J2,hR.lh,hR.yk,hR.size,fun t=> ?_,hR.eC,hR.inj,hR.ge,hR.live,hR.yr⟩,hk⟩
 have ht:=hR.tmps t
 cases dst with
 |none=>exact ht
 |some t0=>
  unfold St.get St.uG at ht ⊢
  simp only [dG] at ht ⊢
  by_cases e0:t0=t
  ·simp only [e0,ba] at ht ⊢
   exact .opt (fun _=>ht) (fun h=>by rw [hb] at h;cases h)
  ·simp only [e0,cE] at ht ⊢
   exact ht
theorem vC {α:Type}: ∀(l m:List (Nat×α)) (i:Nat),look (l++m) i=match look l i with|some v=>some v|none=>look m i
 |[],m,i=>rfl
 |(k,v)::r,m,i=>by
  simp only [aT,dG]
  by_cases h:k=i
  ·simp [h]
  ·simp only [ab h];exact vC r m i
theorem rD (r:R base w0 S0 σ kn di a w) {id:Nat} (fJ: ¬kn id) {ops:Array Oper} {oc:fx} {o:Oper} (dr:dw (jl P ops oc id σ o).vc) {K:Act->World->Prop} {Q:Exit->Act->World->Prop}
 (ff:jH σ.nt σ.lo o.dst=true) (hK: ∀a' w',wP base w0 S0 (σ.uG o.dst (jl P ops oc id σ o)) kn id a' w'->K a' w'):
 if Region.wanted o (yielded ops a.tmps)=true then o.wpIn (FW ro) m P a w K Q else (∀f,o.about P w a.eval=some f->(FW ro).fn f)/\K (a.put o.dst undef) w:=by
 unfold jl at dr hK
 cases hg:s6 ops σ o with
 |always=>
  simp only [hg] at dr hK
  have hgn:o.guard=none:=by
   unfold s6 at hg
   split at hg
   ·assumption
   ·split at hg
    ·split at hg
     ·split at hg<;>cases hg
     ·cases hg
    ·cases hg
  rw [ag (by simp [Region.wanted,hgn])]
  exact rC r fJ dr ff hK
 |unknown=>simp only [hg] at dr;exact dn dr
 |when b=>
  simp only [hg] at dr hK
  -- whether it runs is what b says
  have Wd:(Region.wanted o (yielded ops a.tmps)=true↔b=true):=by
   unfold s6 at hg
   split at hg
   ·cases hg
   ·rename_i j want hgu
    split at hg
    ·rename_i t ht
     split at hg
     ·rename_i p hp
      have hrel:=r.tmps t
      have hy:Region.wanted o (yielded ops a.tmps)=true↔a.tmps.getD t undef= .bool want:=by
       unfold Region.wanted
       rw [hgu]
       simp only [yielded,ht,Option.bind_some,av]
       cases hv:a.tmps[t]? with
       |none=>simp [undef]
       |some v=>cases v<;>simp
      rw [hy]
      split at hg
      ·rename_i hc
       cases hg
       have:=hrel.un (fun c h=>by rw [hc] at h;cases h)
       rw [hp] at this
       rw [this.k5]
       cases want<;>cases p<;>simp
      ·rename_i q hc
       cases hg
       obtain ⟨h1,h2⟩:=hrel.cond q hc
       cases q with
       |false=>
        rw [h2 rfl]
        simp [undef]
       |true=>
        have:=h1 rfl
        rw [hp] at this
        rw [this.k5]
        cases want<;>cases p<;>simp
     ·cases hg
    ·cases hg
  cases hb:b with
  |true=>
   rw [ag (Wd.2 hb)]
   subst hb
   refine rC (oc:=oc) r fJ ?_ ff fun a' w' h=>hK a' w' ?_
   ·split at dr
    ·intro p hp
     exact dr (true=true->p) (cJ hp) rfl
    ·split at dr
     ·intro p hp
      exact dr (true=true->p) (aU _ (cJ hp)) rfl
     ·exact dr.tl
   ·split
    ·rename_i hw
     exact aam.after rfl hw ff h
    ·rename_i ji
     split
     ·rename_i wW hs
      split at dr
      ·rename_i h0;exact absurd h0 ji
      ·split at dr
       ·rw [tI (fun p hp=>dr p (aP _ hp)) hs]
        exact aam.after rfl rfl ff h
       ·rename_i Q7;rw [hs] at Q7;cases Q7
     ·exact aam.after rfl rfl ff h
  |false=>
   rw [ab (fun h=>by have:=Wd.1 h;rw [hb] at this;cases this)]
   subst hb
   split at dr
   ·rename_i hw
    refine ⟨fun _ _=>trivial,hK _ _ ⟨kn,di,?_,fun _ h=> .inl h⟩⟩
    simp only [hw]
    exact R.n5 (e:={ d:= .opt false (fa P oc id σ o).d,vc:=(fa P oc id σ o).vc.map fun p=>(false=true->p) }) r ff (.opt (fun h=>by cases h) fun _=>rfl)
   ·split at dr
    ·rename_i wW hs
     refine ⟨fun _ _=>trivial,hK _ _ ⟨kn,di,?_,fun _ h=> .inl h⟩⟩
     have r2:=R.n5 (e:={ d:= .opt false (fa P oc id σ o).d }) r ff (.opt (fun h=>by cases h) fun _=>rfl)
     have eo: ∀i,(σ.uG o.dst { d:= .opt false (fa P oc id σ o).d }).obj i=(σ.uG o.dst { d:= .opt false (fa P oc id σ o).d,hw:=wW,vc:=km σ.obj (fa P oc id σ o).hw++(fa P oc id σ o).vc.map fun p=>(false=true->p) }).obj i:=by
      intro i
      unfold St.obj St.uG
      simp only [cO]
      rw [vC]
      cases hl:look wW i with
      |none=>rfl
      |some x=>
       have:=rl (fun p hp=>dr p (aP _ hp)) hs hl
       simp only
       rw [this]
       rfl
     have r3:=r2.congr (σ':=σ.uG o.dst { d:= .opt false (fa P oc id σ o).d,hw:=wW,vc:=km σ.obj (fa P oc id σ o).hw++(fa P oc id σ o).vc.map fun p=>(false=true->p) }) (fun t=>rfl) (fun i=>(eo i).symm) rfl rfl rfl
     split
     ·rename_i h1;exact absurd h1 (by assumption)
     ·split
      ·rename_i hw2 Q7
       rw [hs] at Q7
       cases Q7
       exact r3
      ·rename_i Q7
       rw [hs] at Q7
       cases Q7
    ·have:=dr.hd
     cases this
def Fits (base:Nat) (w0:World) (S0:Env) (σ:St) (a:Act) (w:World):Prop:=
 ∃kn di,R base w0 S0 σ kn di a w/\ ∀i,kn i->i<σ.nx
theorem xh (ops:Array Oper) (dz:List (Nat×fx)) (n0:Nat): ∀(l:List Oper) (k:Nat) (σ:St) (vc:List Prop),∀p∈vc,p∈(ja P ops dz n0 l k σ vc).2
 |[],_,_,_,_,hp=>hp
 |o::r,k,σ,vc,p,hp=>by
  simp only [ja]
  exact xh ops dz n0 r (k+1) _ _ p (aP _ hp)
theorem sy (ops:Array Oper) (dz:List (Nat×fx)) (n0:Nat): ∀(l:List Oper) (k:Nat) (σ:St) (vc:List Prop),(ja P ops dz n0 l k σ vc).1.nx=σ.nx/\(ja P ops dz n0 l k σ vc).1.nt=σ.nt
 |[],_,_,_=>⟨rfl,rfl⟩
 |o::r,k,σ,vc=>by
  simp only [ja]
  exact sy ops dz n0 r (k+1) _ _
theorem uT {ops:Array Oper} {dz:List (Nat×fx)} {n0:Nat} {Q:Exit->Act->World->Prop}: ∀(l:List Oper) (k:Nat) (σ:St) (vc:List Prop) (kn:Nat->Prop) (di:Nat->Option Loc) (a:Act) (w:World),(∀j,l[j]? =ops[k+j]?)->
 R base w0 S0 σ kn di a w->(∀i,kn i->i<n0+k)->dw (ja P ops dz n0 l k σ vc).2->
 (∀eV du a' w',R base w0 S0 (ja P ops dz n0 l k σ vc).1 eV du a' w'->(∀i,eV i->i<n0+k+l.length)->Q .normal a' w')->wpOpsIn (FW ro) m P ops Q (List.range' k l.length) a w
 |[],k,σ,vc,kn,di,a,w,_,r,kr,_,hQ=>by
  simp only [b7,List.range'_zero,wpOpsIn]
  exact hQ kn di a w r (by simpa using kr)
 |o::l,k,σ,vc,kn,di,a,w,hl,r,kr,dr,hQ=>by
  have h0:ops[k]? =some o:=by simpa using (hl 0).symm
  simp only [aH,List.range'_succ,wpOpsIn,h0]
  simp only [ja] at dr hQ
  have fJ: ¬kn (n0+k):=fun h=>by have:=kr _ h;omega
  have UF:=xh (P:=P) ops dz n0 l (k+1) (σ.uG o.dst (jl P ops (mA dz k) (n0+k) σ o)) (vc++(bif jH σ.nt σ.lo o.dst then (jl P ops (mA dz k) (n0+k) σ o).vc else [False]))
  cases hd:jH σ.nt σ.lo o.dst with
  |false=>
   simp only [hd,ar] at UF dr
   exact (dr False (UF False (by simp))).elim
  |true=>
   simp only [hd,ao] at UF dr hQ
   have hvo:dw (jl P ops (mA dz k) (n0+k) σ o).vc:=fun p hp=>dr p (UF p (aU _ hp))
   refine rD r fJ hvo hd fun a' w' ⟨eV,du,hR,hk⟩=> ?_
   refine uT l (k+1) _ _ eV du a' w' (fun j=>by have:=hl (j+1);simpa [cC,Nat.add_comm 1 j] using this) hR (fun i hi=> ?_) dr fun QL oN a2 w2 h2 oo=>hQ QL oN a2 w2 h2 fun i hi=>by have:=oo i hi;simp only [aH];omega
   rcases hk i hi with h|h
   ·have:=kr i h;omega
   ·omega
theorem EK {id:Nat} {ops:Array Oper} {dz:List (Nat×fx)} {Q:Exit->Act->World->Prop} (h:Fits base w0 S0 σ a w) (dr:dw (fq P ops dz σ).2)
 (hQ: ∀a' w',Fits base w0 S0 (fq P ops dz σ).1 a' w'->Q .normal a' w'):(Code.region id ops false).wpIn (FW ro) m P Q a w:=by
 obtain ⟨kn,di,r,hk⟩:=h
 refine wpIn_region ?_
 rw [List.range_eq_range',<-bF]
 refine uT (n0:=σ.nx) ops.toList 0 { σ with nx:=σ.nx+ops.size } [] kn di a w (fun j=>by simp) ?_ (by simpa using hk) dr fun eV du a' w' hR kE=>hQ a' w' ⟨eV,du,hR,fun i hi=> ?_⟩
 ·exact ⟨r.below,r.xs,r.fv,r.qD,r.nM,r.J2,r.lh,r.yk,r.size,r.tmps,r.eC,r.inj,r.ge,r.live,r.yr⟩
 ·have:=kE i hi
  have e:=(sy (P:=P) ops dz σ.nx ops.toList 0 { σ with nx:=σ.nx+ops.size } []).1
  show i<(ja P ops dz σ.nx ops.toList 0 { σ with nx:=σ.nx+ops.size } []).1.nx
  rw [e]
  simp at this ⊢;exact this
end
end Go.Abs
end
section
namespace Go.Abs
open Go.RowKit
def ep:DV->List Nat
 |.ptr id _=>[id]
 |.ka _ id _ _=>[id]
 |.row _ id _ _=>[id]
 |.lg id=>[id]
 |.tok _ m=>[m]
 |.s6 _ g _=>[g]
 |.kO _ g _ _=>[g]
 |_=>[]
def fT:DV->List Nat
 |.jt _ kj=>go kj
 |.oB _ fs=>go fs
 |.agg cs=>go cs
 |d=>ep d
where go:List DV->List Nat
 |[]=>[]
 |d::r=>ep d++go r
theorem xe {d:DV} {id:Nat} (h:id∈ep d):id∈fT d:=by
 cases d<;>first|exact h|simp [ep] at h
theorem tU: ∀{kj:List DV} {d:DV} {id:Nat},d∈kj->id∈ep d->id∈fT.go kj
 |c::r,d,id,hd,hi=>by
  simp only [fT.go,aO]
  rcases aR.1 hd with rfl|hd
  ·exact .inl hi
  ·exact .inr (tU hd hi)
def kH (ops:Array Oper) (o:Oper):List Nat:=o.looksAt ops
def iU (σ:St):List Operand->List Nat
 |[]=>[]
 |y::r=>fT (σ.ev y).un++iU σ r
theorem vz {σ:St}: ∀{l:List Operand} {y:Operand} {id:Nat},y∈l->id∈fT (σ.ev y).un->id∈iU σ l
 |c::r,y,id,hy,hi=>by
  simp only [iU,aO]
  rcases aR.1 hy with rfl|hy
  ·exact .inl hi
  ·exact .inr (vz hy hi)
def lF:Op->Bool
 |.buildSlice .. =>true
 |.slice .. =>true
 |.load .. =>true
 |.store .. =>true
 |.lookup .. =>true
 |.mapUpdate .. =>true
 |.mapEntry .. =>true
 |.entryStore .. =>true
 |.convert .. =>true
 |.call c=>match c.callee with
  |.builtin .len=>false
  |.builtin .min=>false
  |.builtin .max=>false
  |_=>true
 |_=>false
def mG (op:Op):List Operand:=bif lF op then op.operands.toList else []
theorem Hi {op:Op} (h:lF op=true) {y:Operand} (hy:y∈op.operands.toList):y∈mG op:=by rw [mG,h];exact hy
section
variable {P:Program} {ob fK:Heap}
theorem EL {p:DV} (h: ∀id∈ep p,ob id=fK id):pW ob p=pW fK p:=by
 cases p<;>first|rfl|(simp only [ep,au,cr] at h;simp only [pW,h])
theorem Fp {t:TypeId} {p:DV} (h: ∀id∈ep p,ob id=fK id):r5 P ob t p=r5 P fK t p:=by simp only [r5,EL h]
theorem Cw {t:TypeId} {p d:DV} (h: ∀id∈ep p,ob id=fK id):sL P ob t p d=sL P fK t p d:=by
 cases p<;>first|rfl|(simp only [ep,au,cr] at h;simp only [sL,h])
theorem y5 {t:TypeId} {m:Nat} {p:DV} (h: ∀id∈ep p,ob id=fK id):mS P ob t m p=mS P fK t m p:=by
 cases p<;>first|rfl|(simp only [ep,au,cr] at h;simp only [mS,h])
theorem CA {oc:fx} {id:Nat} {t:TypeId} {p:DV} (h: ∀id∈ep p,ob id=fK id):qy P oc ob id t p=qy P oc fK id t p:=by
 cases p with
 |kO s g i j=>simp only [ep,au,cr] at h;simp only [qy,Ft,h]
 |_=>simp only [qy,y5 h,Fp h]
theorem Bk {t:TypeId} {p d:DV} (h: ∀id∈ep p,ob id=fK id) (h2: ∀id∈ep d,ob id=fK id):nr P ob t p d=nr P fK t p d:=by
 cases p with
 |kO s g i j=>
  simp only [ep,au,cr] at h
  cases d with
  |row s' r off n=>
   simp only [ep,au,cr] at h2
   match s',off with
   |1,0=>simp only [nr,MA,h,h2]
   |0,_=>rfl
   |1,_+1=>rfl
   |_+2,_=>rfl
  |_=>rfl
 |_=>simp only [nr];exact Cw h
theorem y6 {t:TypeId} {x i:DV}:ky P ob t x i=ky P fK t x i:=by unfold ky;rfl
theorem Cy {t:TypeId} {x:DV} {lo hi:Option DV} (h: ∀id∈ep x,ob id=fK id):sM P ob t x lo hi=sM P fK t x lo hi:=by
 cases x with
 |val v=>cases v<;>first|rfl|(rename_i a n c;cases a<;>cases n<;>cases c<;>rfl)
 |row s' id off len=>
  simp only [ep,au,cr] at h
  simp only [sM,je,h]
 |_=>rfl
theorem CE {src dst:TypeId} {x:DV} (h: ∀id∈ep x,ob id=fK id):sN P ob src dst x=sN P fK src dst x:=by
 cases x with
 |row s id off len=>
  simp only [ep,au,cr] at h
  simp only [sN,FA,h]
 |_=>rfl
theorem Bm {oc:fx} {id:Nat} {t:TypeId} {x:DV} {lo hi:Option DV} (h: ∀id∈ep x,ob id=fK id):pz P oc id ob t x lo hi=pz P oc id fK t x lo hi:=by
 unfold pz
 split
 ·cases hi with
  |some _=>rfl
  |none=>
   cases x with
   |row s' r off len=>
    simp only [ep,au,cr] at h
    cases off<;>simp only [vO,h]
   |_=>simp only [vO]
 ·exact Cy h
theorem Ob {t:TypeId} {x:DV}:Ec P ob t x=Ec P fK t x:=by unfold Ec;rfl
theorem EE {s:Nat} {x:DV} (h: ∀id∈ep x,ob id=fK id):source ob s x=source fK s x:=by
 cases x with
 |val v=>cases v<;>first|rfl|(rename_i a n c;cases a<;>cases n<;>cases c<;>rfl)
 |row s' id off len=>simp only [ep,au,cr] at h;simp only [source,h]
 |tok t m=>simp only [ep,au,cr] at h;simp only [source,h]
 |_=>rfl
theorem Bt {id:Nat} {t:TypeId} {x y:DV} (h: ∀id∈ep x,ob id=fK id) (h2: ∀id∈ep y,ob id=fK id):pC P ob id t x y=pC P fK id t x y:=by
 unfold pC
 simp only [EE h2]
 cases x with
 |val v=>cases v<;>first|rfl|(rename_i a n c;cases a<;>cases n<;>cases c<;>rfl)
 |row s' r off len=>
  simp only [ep,au,cr] at h
  cases off with
  |zero=>simp only [h]
  |succ=>rfl
 |tok t m=>
  simp only [ep,au,cr] at h
  simp only [h]
 |_=>rfl
theorem AU {x:DV} (h: ∀id∈ep x,ob id=fK id):nh ob x=nh fK x:=by
 cases x<;>first|rfl|(simp only [ep,au,cr] at h;simp only [nh,h])
theorem rJ: ∀{l:List DV},(∀d∈l,∀id∈ep d,ob id=fK id)->jT ob l=jT fK l
 |[],_=>rfl
 |d::r,h=>by
  simp only [jT]
  rw [AU (h d ax),rJ fun d' hd=>h d' (ay _ hd)]
theorem Hr {x:DV} (h: ∀id∈fT x,ob id=fK id):AW ob x=AW fK x:=by
 cases x with
 |agg cs=>simp only [AW];rw [rJ fun d hd id hi=>h id (tU hd hi)]
 |_=>rfl
theorem qL: ∀{l:List (Nat×DV)},(∀p∈l,∀id∈fT p.2,ob id=fK id)->gh ob l=gh fK l
 |[],_=>rfl
 |(i,d)::r,h=>by
  simp only [gh]
  rw [Hr (h (i,d) ax),qL fun d' hd=>h d' (ay _ hd)]
theorem lS {x:DV} (h: ∀id∈ep x,ob id=fK id):qM ob x=qM fK x:=by
 cases x with
 |ptr id j=>
  simp only [ep,au,cr] at h
  cases j with
  |zero=>simp only [qM,h]
  |succ j=>rfl
 |_=>exact AU h
theorem p8: ∀{l:List DV},(∀d∈l,∀id∈ep d,ob id=fK id)->ng ob l=ng fK l
 |[],_=>rfl
 |d::r,h=>by
  simp only [ng]
  rw [lS (h d ax),p8 fun d' hd=>h d' (ay _ hd)]
theorem rL {x:DV} (h: ∀id∈fT x,ob id=fK id):qN ob x=qN fK x:=by
 cases x with
 |jt f cs=>simp only [qN];rw [p8 fun d hd id hi=>h id (tU hd hi)]
 |agg cs=>simp only [qN];rw [p8 fun d hd id hi=>h id (tU hd hi)]
 |_=>exact lS fun id hi=>h id (xe hi)
theorem mH: ∀{l:List DV},(∀d∈l,∀id∈fT d,ob id=fK id)->kc ob l=kc fK l
 |[],_=>rfl
 |d::r,h=>by
  simp only [kc]
  rw [rL (h d ax),mH fun d' hd=>h d' (ay _ hd)]
theorem H6: ∀{d:DV},d.closed=true->ep d=[]:=by
 intro d h
 cases d<;>first|rfl|simp [DV.closed] at h
theorem wi: ∀{cs:List DV},DV.closed.go cs=true->fT.go cs=[]
 |[],_=>rfl
 |d::r,h=>by
  simp only [DV.closed.go] at h
  cases hd:d.closed
  ·simp [hd] at h
  ·simp only [hd,ao] at h
   simp only [fT.go,H6 hd,wi h,List.append_nil]
theorem HM: ∀{cap:List DV},jr cap=true-> ∀d∈cap,∀id∈fT d,id∈ep d
 |c::r,h,d,hd,id,hi=>by
  have hr:jr r=true:=by
   cases c<;>first|exact h|skip
   all_goals
    rename_i cs
    simp only [jr] at h
    cases hc:DV.closed.go cs
    ·simp [hc] at h
    ·simpa [hc] using h
  rcases aR.1 hd with rfl|hd
  ·cases d<;>first|exact hi|skip
   all_goals
    rename_i cs
    simp only [jr] at h
    cases hc:DV.closed.go cs
    ·simp [hc] at h
    ·simp only [fT,wi hc] at hi
     cases hi
  ·exact HM hr d hd id hi
theorem B9 {f:FuncId} {A':Nat->Int} {l:List DV} (h: ∀d∈l,∀id∈ep d,ob id=fK id):uN P f ob A' l=uN P f fK A' l:=by
 cases l with
 |nil=>rfl
 |cons d rest=>
  cases d<;>first|rfl|skip
  rename_i s r off len
  have e:=h _ ax r (by simp [ep])
  cases off with
  |zero=>simp only [uN,e]
  |succ=>rfl
theorem Ca {f:FuncId} {n':Nat} {A':Nat->Int} {l:List DV} (h: ∀d∈l,∀id∈ep d,ob id=fK id):uO P f ob n' A' l=uO P f fK n' A' l:=by
 cases l with
 |nil=>rfl
 |cons d rest=>
  cases rest with
  |cons=>cases d<;>rfl
  |nil=>
   cases d<;>first|rfl|skip
   rename_i s r off len
   have e:=h _ ax r (by simp [ep])
   cases off with
   |zero=>simp only [uO,e]
   |succ=>rfl
theorem Gv {d:DV} {o:WO} (h: ∀id∈fT d,ob id=fK id):oR ob d o=oR fK d o:=by
 cases o with
 |no=>cases d<;>simp only [oR,rL h]
 |row dp=>
  cases d with
  |row s id off len=>
   have h':=h id (by simp [fT,ep])
   cases off with
   |zero=>simp only [oR,h']
   |succ=>simp only [oR]
  |ptr id j=>cases j<;>simp only [oR]
  |_=>simp only [oR]
 |box cs=>
  cases d with
  |ptr id j=>
   have h':=h id (by simp [fT,ep])
   cases j with
   |zero=>simp only [oR,h']
   |succ=>simp only [oR]
  |_=>simp only [oR]
theorem uJ: ∀{l:List DV} {q:List WO},(∀d∈l,∀id∈fT d,ob id=fK id)->q7 ob l q=q7 fK l q
 |[],_,_=>rfl
 |d::r,q,h=>by
  simp only [q7]
  rw [Gv (h d ax),uJ fun d' hd=>h d' (ay _ hd)]
theorem Gt {f:FuncId} {g:List DV->List WO×DV} {l:List DV} (h: ∀d∈l,∀id∈fT d,ob id=fK id):Dn P f ob l g=Dn P f fK l g:=by
 have e1:=fun q=>uJ (q:=q) h
 simp only [Dn,mH h,e1]
theorem JY {id:Nat} {x:DV} (h: ∀i∈ep x,ob i=fK i):GO ob id x=GO fK id x:=by
 cases x with
 |ptr i j=>
  cases j with
  |zero=>simp only [GO,lS h]
  |succ j=>simp only [GO,lS h]
 |_=>simp only [GO,lS h]
theorem Ae {id:Nat}: ∀{l:List DV},(∀d∈l,∀i∈ep d,ob i=fK i)->GP ob id l=GP fK id l
 |[],_=>rfl
 |d::r,h=>by
  simp only [GP]
  rw [JY (h d ax),Ae fun d' hd=>h d' (ay _ hd)]
theorem Nj {id:Nat} {x:DV} (h: ∀i∈fT x,ob i=fK i):YB ob id x=YB fK id x:=by
 cases x with
 |jt f cs=>simp only [YB];rw [Ae fun d hd i hi=>h i (tU hd hi)]
 |_=>simp only [YB,rL h]
theorem Af {id:Nat}: ∀{l:List DV},(∀d∈l,∀i∈fT d,ob i=fK i)->GS ob id l=GS fK id l
 |[],_=>rfl
 |d::r,h=>by
  simp only [GS]
  rw [Nj (h d ax),Af fun d' hd=>h d' (ay _ hd)]
theorem GR {f:FuncId} {k c:Nat} {g:List DV->List DV×DV} {l:List DV} (h: ∀d∈l,∀i∈fT d,ob i=fK i):DA P f ob l k c g=DA P f fK l k c g:=by
 unfold DA
 cases hs:Yz l k c with
 |none=>rfl
 |some id=>
  have e:ob id=fK id:=by
   unfold Yz at hs
   split at hs
   ·rename_i f' cs hk
    split at hs
    ·rename_i i hc
     cases hs
     exact h _ (aD hk) id (tU (aD hc) (by simp [ep]))
    ·cases hs
   ·cases hs
  simp only [mH h,Af h,e]
theorem Ov {f:FuncId} {x:DV} {b s r len:Nat} {g:Nat->List (Nat->DV)->DV->(Nat->Int)×DV} {o:Option fF}: ∃o',(FF P f x b s r len g o).hw=[(r,o')]:=by
 unfold FF
 split
 ·split
  ·cases Nat.beq s 1&& !(Nat.beq b r)<;>exact ⟨_,rfl⟩
  ·exact ⟨_,rfl⟩
 ·exact ⟨_,rfl⟩
theorem FH {f:FuncId} {g:Nat->List (Nat->DV)->DV->(Nat->Int)×DV} {l:List DV} (h: ∀d∈l,∀i∈fT d,ob i=fK i) (hw: ∀i∈(uB P f ob l g).hw.map (·.1),ob i=fK i):uB P f ob l g=uB P f fK l g:=by
 unfold uB at hw ⊢
 split
 ·rename_i x b
  have e:=h (.ptr b 0) (by simp) b (by simp [fT,ep])
  simp only [<-e]
  split
  ·rename_i s r len fE
   simp only [fE] at hw
   obtain ⟨o',mJ⟩:=Ov (P:=P) (f:=f) (x:=x) (b:=b) (s:=s) (r:=r) (len:=len) (g:=g) (o:=ob r)
   rw [mJ] at hw
   rw [hw r (by simp)]
  ·rfl
 ·rfl
theorem vW {oc:fx} {id:Nat} {f:FuncId} {l:List DV} (h: ∀d∈l,∀id∈fT d,ob id=fK id) (hw: ∀i∈(r7 P oc id ob f l).hw.map (·.1),ob i=fK i):r7 P oc id ob f l=r7 P oc id fK f l:=by
 cases oc with
 |bro g=>exact FH h hw
 |_=>
  clear hw
  have h': ∀d∈l,∀id∈ep d,ob id=fK id:=fun d hd id hi=>h d hd id (xe hi)
  have e1:=fun g=>Gt (P:=P) (f:=f) (g:=g) h
  have e2:=fun k c g=>GR (P:=P) (f:=f) (k:=k) (c:=c) (g:=g) h
  simp only [r7,rJ h',mH h,B9 h',Ca h',e1,e2]
theorem Bo {id:Nat} {t:TypeId} {x k:DV} {ok:Bool} (h: ∀id∈ep x,ob id=fK id):pA P ob id t x k ok=pA P fK id t x k ok:=by
 cases x with
 |lg m=>simp only [ep,au,cr] at h;simp only [pA,h]
 |val v=>cases v<;>first|rfl|(rename_i a;cases a<;>rfl)
 |_=>rfl
theorem vQ {t:TypeId} {m k v:DV} (h: ∀id∈ep m,ob id=fK id) (h2: ∀id∈ep v,ob id=fK id):hU P ob t m k v=hU P fK t m k v:=by
 cases m with
 |lg mi=>
  simp only [ep,au,cr] at h
  cases v with
  |row s r off n=>
   simp only [ep,au,cr] at h2
   cases off with
   |zero=>simp only [hU,h,h2]
   |succ=>simp only [hU,h]
  |_=>simp only [hU,h]
 |_=>simp only [hU]
theorem xL {id:Nat} {t:TypeId} {m k:DV} (h: ∀id∈ep m,ob id=fK id):ln P ob id t m k=ln P fK id t m k:=by
 cases m with
 |lg m=>simp only [ep,au,cr] at h;simp only [ln,h]
 |_=>rfl
theorem uy {m s v:DV} (h: ∀id∈ep m,ob id=fK id):jE ob m s v=jE fK m s v:=by
 cases m with
 |lg m=>
  simp only [ep,au,cr] at h
  cases s<;>first|rfl|simp only [jE,h]
 |_=>rfl
theorem Br {t:TypeId} {m k:DV} (h: ∀id∈ep m,ob id=fK id):pB P ob t m k=pB P fK t m k:=by
 cases m with
 |lg m=>simp only [ep,au,cr] at h;simp only [pB,h]
 |_=>rfl
theorem CG {t:TypeId} {x:DV} (h: ∀id∈ep x,ob id=fK id):sP P ob t x=sP P fK t x:=by
 cases x with
 |row s id off len=>simp only [ep,au,cr] at h;simp only [sP,h]
 |_=>rfl
theorem xu {x x':Operand->DV}: ∀(l:List (Nat×Operand)),(∀p∈l,x p.2=x' p.2)->(l.map fun p=>(p.1,x p.2))=l.map fun p=>(p.1,x' p.2)
 |[],_=>rfl
 |p::l,h=>by rw [bR,bR,h p ax,xu l fun q hq=>h q (ay _ hq)]
theorem KD {oc:fx} {id:Nat} {o:Oper} {x x':Operand->DV} (hx: ∀y∈o.op.operands.toList,x y=x' y) (ho: ∀y∈mG o.op,∀i∈fT (x y),ob i=fK i) (hw: ∀i∈(uu P oc id o x ob).hw.map (·.1),ob i=fK i):
 uu P oc id o x ob=uu P oc id o x' fK:=by
 have ho:lF o.op=true-> ∀y∈o.op.operands.toList,∀i∈fT (x y),ob i=fK i:=fun h y hy=>ho y (Hi h hy)
 have top:lF o.op=true-> ∀y∈o.op.operands.toList,∀i∈ep (x y),ob i=fK i:=fun h y hy i hi=>ho h y hy i (xe hi)
 unfold uu
 cases nN:o.op with
 |move y=>simp only [nN] at hx ⊢;rw [hx y (by simp [Op.operands])]
 |assign y=>simp only [nN] at hx ⊢;rw [hx y (by simp [Op.operands])]
 |box t y=>simp only [nN] at hx ⊢;rw [hx y (by simp [Op.operands])]
 |build t parts=>
  simp only [nN] at hx ⊢
  congr 1
  exact xu parts.toList fun p hp=>hx p.2 (by simp only [Op.operands];exact cJ hp)
 |buildSlice t len parts=>
  simp only [nN] at hx ho ⊢
  have e1:=xu (x:=x) (x':=x') parts.toList fun p hp=>hx p.2 (by simp only [Op.operands];exact cJ hp)
  have e2:gh ob (parts.toList.map fun p=>(p.1,x p.2))=gh fK (parts.toList.map fun p=>(p.1,x p.2)):=qL fun q hq id hi=>by
   obtain ⟨p,hp,rfl⟩:=bf.1 hq
   exact ho rfl p.2 (by simp only [Op.operands];exact cJ hp) id hi
  simp only [lI,e2]
  rw [e1]
 |slice t y lo hi mx=>
  cases mx with
  |some m=>rfl
  |none=>
   simp only [nN] at hx top ⊢
   have hl:lo.map x=lo.map x':=by cases lo with
    |none=>rfl
    |some z=>simp only [aA];rw [hx z (by simp [Op.operands])]
   have hh:hi.map x=hi.map x':=by cases hi with
    |none=>rfl
    |some z=>simp only [aA];rw [hx z (by simp [Op.operands])]
   rw [<-hx y (by simp [Op.operands]),hl,hh]
   exact Bm (top rfl y (by simp [Op.operands]))
 |load t y=>
  simp only [nN] at hx top ⊢
  rw [<-hx y (by simp [Op.operands])]
  exact CA (top rfl y (by simp [Op.operands]))
 |store t p y=>
  simp only [nN] at hx top ⊢
  rw [<-hx p (by simp [Op.operands]),<-hx y (by simp [Op.operands])]
  exact Bk (top rfl p (by simp [Op.operands])) (top rfl y (by simp [Op.operands]))
 |nilCheck y=>simp only [nN] at hx ⊢;rw [hx y (by simp [Op.operands])]
 |makeMap t rs=>cases rs<;>rfl
 |lookup t y i ok=>
  simp only [nN] at hx top ⊢
  rw [<-hx y (by simp [Op.operands]),<-hx i (by simp [Op.operands])]
  exact Bo (top rfl y (by simp [Op.operands]))
 |mapUpdate t m k y=>
  simp only [nN] at hx top ⊢
  rw [<-hx m (by simp [Op.operands]),<-hx k (by simp [Op.operands]),<-hx y (by simp [Op.operands])]
  exact vQ (top rfl m (by simp [Op.operands])) (top rfl y (by simp [Op.operands]))
 |mapEntry t m k=>
  simp only [nN] at hx top ⊢
  rw [<-hx m (by simp [Op.operands]),<-hx k (by simp [Op.operands])]
  exact xL (top rfl m (by simp [Op.operands]))
 |entryStore t m s y=>
  simp only [nN] at hx top ⊢
  rw [<-hx m (by simp [Op.operands]),<-hx s (by simp [Op.operands]),<-hx y (by simp [Op.operands])]
  exact uy (top rfl m (by simp [Op.operands]))
 |makeSlice t y z=>simp only [nN] at hx ⊢;rw [hx y (by simp [Op.operands]),hx z (by simp [Op.operands])]
 |binOp op t y z ty=>simp only [nN] at hx ⊢;rw [hx y (by simp [Op.operands]),hx z (by simp [Op.operands])]
 |unOp op t y=>simp only [nN] at hx ⊢;rw [hx y (by simp [Op.operands])]
 |convert a b y=>
  simp only [nN] at hx top ⊢
  rw [<-hx y (by simp [Op.operands])]
  exact CE (top rfl y (by simp [Op.operands]))
 |fieldAddr s y f=>simp only [nN] at hx ⊢;rw [hx y (by simp [Op.operands])]
 |field s y f=>simp only [nN] at hx ⊢;rw [hx y (by simp [Op.operands])]
 |indexAddr t y i=>
  simp only [nN] at hx top ⊢
  rw [<-hx y (by simp [Op.operands]),<-hx i (by simp [Op.operands])]
  exact y6
 |index t y i=>simp only [nN] at hx ⊢;rw [hx y (by simp [Op.operands]),hx i (by simp [Op.operands])]
 |extract y i=>simp only [nN] at hx ⊢;rw [hx y (by simp [Op.operands])]
 |makeFunc fn first cap=>
  cases fn with
  |func f=>
   simp only [nN] at hx ⊢
   have:cap.toList.map x=cap.toList.map x':=List.map_congr_left fun y hy=>hx y (by simp only [Op.operands];simp;exact .inr (by simpa using hy))
   have that:first.toList.map x=first.toList.map x':=List.map_congr_left fun y hy=>hx y (by simp only [Op.operands];simp;exact .inl (by simpa using hy))
   rw [this]
   cases hl:first.toList with
   |nil=>rfl
   |cons y r=>
    rw [hl] at that
    simp only
    rw [that]
  |_=>rfl
 |call c=>
  simp only [nN] at hx top ⊢
  have gK: ∀y∈c.args.toList,y∈(Op.call c).operands.toList:=fun y hy=>by simp only [Op.operands,Call.operands];simp;exact .inr (by simpa using hy)
  have Zp:c.args.toList.map x=c.args.toList.map x':=List.map_congr_left fun y hy=>hx y (gK y hy)
  cases mj:c.callee with
  |builtin b=>
   cases b with
   |len=>
    simp only
    cases h1:c.args.toList with
    |nil=>rfl
    |cons y r=>
     cases r with
     |cons=>rfl
     |nil=>
      cases h2:c.argTypes.toList with
      |nil=>rfl
      |cons t q=>
       cases q with
       |cons=>rfl
       |nil=>
        have hy:=gK y (by rw [h1];exact ax)
        simp only
        rw [<-hx y hy]
        exact Ob
   |append=>
    simp only
    split
    ·rename_i y z t t' h1 h2
     have hy:=gK y (by rw [h1];exact ax)
     have hz:=gK z (by rw [h1];exact ay _ ax)
     rw [<-hx y hy,<-hx z hz,Bt (top (by simp only [lF,mj]) y hy) (top (by simp only [lF,mj]) z hz)]
    ·rfl
   |delete=>
    simp only
    split
    ·rename_i y z t ts h1 h2
     have hy:=gK y (by rw [h1];exact ax)
     have hz:=gK z (by rw [h1];exact ay _ ax)
     rw [<-hx y hy,<-hx z hz,Br (top (by simp only [lF,mj]) y hy)]
    ·rfl
   |clear=>
    simp only
    split
    ·rename_i y t ts h1 h2
     have hy:=gK y (by rw [h1];exact ax)
     rw [<-hx y hy,CG (top (by simp only [lF,mj]) y hy)]
    ·rfl
   |min=>simp only [Zp]
   |max=>simp only [Zp]
   |_=>rfl
  |value y=>
   have hy:y∈(Op.call c).operands.toList:=by simp only [Op.operands,Call.operands,mj];simp
   have Ws: ∀d∈c.args.toList.map x,∀id∈fT d,ob id=fK id:=by
    intro d hd id fJ
    obtain ⟨z,hz,rfl⟩:=bf.1 hd
    simp only [nN] at ho
    exact ho (by simp only [lF,mj]) z (gK z hz) id fJ
   unfold uu at hw
   simp only [nN,mj] at hw
   simp only
   rw [<-hx y hy,<-Zp]
   split
   ·rename_i f first cap hv
    simp only [hv] at hw
    split
    ·rename_i h1 h2
     simp only [h1,h2] at hw
     exact vW Ws hw
    ·rfl
   ·rename_i f cap hv
    simp only [hv] at hw
    cases hfl:jr cap with
    |false=>rfl
    |true=>
     simp only [hfl,ao] at hw
     refine vW (fun d hd id fJ=> ?_) hw
     rcases aO.1 hd with hd|hd
     ·exact Ws d hd id fJ
     ·simp only [nN] at ho
      exact ho (by simp only [lF,mj]) y hy id (by rw [hv];exact tU hd (HM hfl d hd id fJ))
   ·rfl
  |invoke r m=>rfl
 |_=>rfl
theorem RL {σ σ':St} {ops:Array Oper} {o:Oper} (ht: ∀t∈kH ops o,σ.get t=σ'.get t): ∀y∈o.op.operands.toList,σ.ev y=σ'.ev y:=by
 intro y hy
 cases y with
 |tmp t=>
  refine ht t ?_
  simp only [kH,Oper.looksAt,aO]
  exact .inl (List.mem_filterMap.2 ⟨.tmp t,hy,rfl⟩)
 |_=>rfl
theorem wg {σ σ':St}: ∀{l:List Operand},(∀y∈l,σ.ev y=σ'.ev y)->qF σ l=qF σ' l
 |[],_=>rfl
 |y::r,h=>by
  simp only [qF]
  rw [h y ax,wg fun z hz=>h z (ay _ hz)]
theorem RN {oc:fx} {id:Nat} {o:Oper} {x:Operand->DV} {b:Bool}:(rY P oc id o x ob b).hw=(uu P oc id o x ob).hw\/b=true/\ ∃t rs,o.op= .makeMap t rs:=by
 cases b with
 |false=>exact .inl rfl
 |true=>
  unfold rY
  cases ho:o.op with
  |makeMap t rs=>exact .inr ⟨rfl,_,_,rfl⟩
  |call c=>
   left
   simp only
   split
   ·cases (uu P oc id o x ob).d.plain<;>rfl
   ·rfl
  |_=>exact .inl rfl
theorem Nx {σ:St} {oc:fx} {id:Nat} {o:Oper}:(rF P oc id σ o).hw=(rY P oc id o (fun y=>(σ.ev y).un) σ.obj σ.rn).hw:=by
 unfold rF
 split<;>rfl
theorem rE {σ σ':St} {ops:Array Oper} {oc:fx} {id:Nat} {o:Oper} (ht: ∀t∈kH ops o,σ.get t=σ'.get t) (hh: ∀i∈iU σ (mG o.op),σ.obj i=σ'.obj i) (Mn:σ.rn=σ'.rn) (hw: ∀i∈(jl P ops oc id σ o).hw.map (·.1),σ.obj i=σ'.obj i):
 jl P ops oc id σ o=jl P ops oc id σ' o:=by
 have S5:=RL ht
 have hg:s6 ops σ o=s6 ops σ' o:=by
  unfold s6
  cases hgu:o.guard with
  |none=>rfl
  |some q=>
   obtain ⟨j,want⟩:=q
   cases hd:(ops[j]?).bind (·.dst) with
   |none=>simp only [hd]
   |some t=>
    have:σ.get t=σ'.get t:=ht t (by simp only [kH,Oper.looksAt,aO,hgu,hd];exact .inr (by simp))
    simp only [hd,this]
 have h0:(∀i∈(rF P oc id σ o).hw.map (·.1),σ.obj i=σ'.obj i)->rF P oc id σ o=rF P oc id σ' o:=by
  intro hw0
  rw [Nx] at hw0
  unfold rF
  have e2:rY P oc id o (fun y=>(σ.ev y).un) σ.obj σ.rn=rY P oc id o (fun y=>(σ'.ev y).un) σ'.obj σ'.rn:=by
   rcases RN (P:=P) (oc:=oc) (id:=id) (o:=o) (x:=fun y=>(σ.ev y).un) (ob:=σ.obj) (b:=σ.rn) with e|⟨e,t,rs,hm⟩
   ·rw [e] at hw0
    have e1:uu P oc id o (fun y=>(σ.ev y).un) σ.obj=uu P oc id o (fun y=>(σ'.ev y).un) σ'.obj:=
     KD (fun y hy=>by rw [S5 y hy]) (fun y hy i hi=>hh i (vz hy hi)) hw0
    rw [<-Mn]
    cases σ.rn<;>simp only [rY,e1]
   ·rw [<-Mn,e]
    simp only [rY,hm]
  rw [wg S5,e2]
 have h1:(∀i∈(fa P oc id σ o).hw.map (·.1),σ.obj i=σ'.obj i)->fa P oc id σ o=fa P oc id σ' o:=by
  intro hwp
  unfold fa at hwp ⊢
  cases nN:o.op with
  |pick c a b=>
   have hc:=S5 c (by rw [nN];simp [Op.operands])
   have ha:=S5 a (by rw [nN];simp [Op.operands])
   have hb:=S5 b (by rw [nN];simp [Op.operands])
   simp only [hc,ha,hb]
  |_=>simp only [nN] at hwp;exact h0 hwp
 unfold jl at hw ⊢
 rw [<-hg]
 cases SZ:s6 ops σ o with
 |always=>
  simp only [SZ] at hw ⊢
  exact h1 hw
 |when b=>
  simp only [SZ] at hw ⊢
  rw [<-h1 (fun i hi=>hw i (by
   split
   ·rename_i h0
    rw [h0] at hi;exact hi
   ·split
    ·rename_i wW hs
     show i∈wW.map (·.1)
     rw [sx hs];exact hi
    ·exact hi))]
  split
  ·rfl
  ·rename_i ji
   have e:jQ b σ.obj (fa P oc id σ o).hw=jQ b σ'.obj (fa P oc id σ o).hw/\km σ.obj (fa P oc id σ o).hw=km σ'.obj (fa P oc id σ o).hw:=by
    refine ym fun i hi=>hw i ?_
    split
    ·rename_i h0;exact absurd h0 ji
    ·split
     ·rename_i wW hs
      show i∈wW.map (·.1)
      rw [sx hs];exact hi
     ·exact hi
   rw [e.1,e.2]
 |_=>rfl
end
end Go.Abs
end
section
namespace Go.Abs
open Go.RowKit
def vo {α:Type} (b:Bool) (x:Option α) (init:α):α:=match b,x with
 |true,some v=>v
 |_,_=>init
def jG {α:Type}:List (Option α)->(Nat->Bool)->Nat->α->α
 |[],_,_,init=>init
 |x::r,L,k,init=>jG r L (k+1) (vo (L k) x init)
theorem jo {α:Type}: ∀(ws:List (Option α)) (L:Nat->Bool) (k:Nat) (init:α),(∀j v,ws[j]? =some (some v)->L (k+j)=false)->jG ws L k init=init
 |[],_,_,_,_=>rfl
 |x::r,L,k,init,h=>by
  have h0:vo (L k) x init=init:=by
   cases x with
   |none=>cases L k<;>rfl
   |some v=>have:=h 0 v rfl;simp at this;rw [this];rfl
  simp only [jG,h0]
  exact jo r L (k+1) init fun j v hj=>by have:=h (j+1) v (by simpa using hj);rwa [show k+1+j=k+(j+1) by omega]
theorem ni {α:Type} (K:Nat) (L:Nat->Bool) (hK:L K=false): ∀(ws:List (Option α)) (k:Nat) (init:α),k<=K->
 (∀j v,ws[j]? =some (some v)->(k+j<K->L (k+j)=true)/\(K<k+j->L (k+j)=false))->jG ws L k init=jG (ws.take (K - k)) (fun _=>true) k init
 |[],k,init,_,_=>by simp [jG]
 |x::r,k,init,hk,h=>by
  rcases Nat.lt_or_eq_of_le hk with dR|rfl
  ·have e:K - k=(K - (k+1))+1:=by omega
   rw [e,List.take_succ_cons]
   simp only [jG]
   have h0:vo (L k) x init=vo true x init:=by
    cases x with
    |none=>cases L k<;>rfl
    |some v=>have:=(h 0 v rfl).1 (by omega);simp at this;rw [this]
   rw [h0]
   exact ni K L hK r (k+1) _ (by omega) fun j v hj=>by
    have:=h (j+1) v (by simpa using hj)
    rwa [show k+1+j=k+(j+1) by omega]
  ·rw [da,List.take_zero]
   exact jo _ _ _ _ fun j v hj=>by
    rcases cg j with rfl|hp
    ·simpa using hK
    ·exact (h j v hj).2 (by omega)
theorem ph {α:Type} (K:Nat) (L:Nat->Bool): ∀(ws:List (Option α)) (k:Nat) (init:α),k<=K->(∀v,ws[K - k]? =some (some v)-> ∀j u,ws[j]? =some (some u)->K<k+j->L (k+j)=false)->
 jG ws (fun i=>L i||decide (i=K)) k init=match ws[K - k]? with|some (some v)=>v|_=>jG ws L k init
 |[],k,init,_,_=>by simp [jG]
 |x::r,k,init,hk,h=>by
  rcases Nat.lt_or_eq_of_le hk with dR|rfl
  ·have e:K - k=(K - (k+1))+1:=by omega
   simp only [jG]
   have h0:decide (k=K)=false:=by simp;omega
   rw [h0,Bool.or_false,e,aJ]
   exact ph K L r (k+1) _ (by omega) fun v hv j u hj dR=>by
    have:=h v (by rw [e,aJ];exact hv) (j+1) u (by simpa using hj) (by omega)
    rwa [show k+1+j=k+(j+1) by omega]
  ·rw [da] at h ⊢
   simp only [jG,aL,decide_true,Bool.or_true]
   cases x with
   |some v=>
    simp only [vo]
    refine jo _ _ _ _ fun j u hj=> ?_
    have:=h v rfl (j+1) u (by simpa using hj) (by omega)
    have e:decide (k+1+j=k)=false:=by simp;omega
    rw [show k+1+j=k+(j+1) by omega,this]
    simp
   |none=>
    have h0: ∀b,vo b (none:Option α) init=init:=fun b=>by cases b<;>rfl
    simp only [h0]
    have: ∀(r:List (Option α)) (q:Nat) (init:α),k<q->jG r (fun i=>L i||decide (i=k)) q init=jG r L q init:=by
     intro r
     induction r with
     |nil=>intro q init _;rfl
     |cons y r ih=>
      intro q init hq
      have e:decide (q=k)=false:=by simp;omega
      simp only [jG,e,Bool.or_false]
      exact ih (q+1) _ (by omega)
    exact this r (k+1) init (by omega)
theorem og {α:Type}: ∀(l m:List (Nat×α)) (i:Nat),look (l++m) i=match look l i with|some v=>some v|none=>look m i
 |[],m,i=>rfl
 |(k,v)::r,m,i=>by
  simp only [aT,dG]
  by_cases h:k=i
  ·simp [h]
  ·simp only [ab h];exact og r m i
theorem St.Fl (σ:St) (dst:Option Tmp) (e:fg) (t:Nat):(σ.uG dst e).get t=if dst=some t then e.d else σ.get t:=by
 cases dst with
 |none=>simp [St.uG,St.get]
 |some d=>
  unfold St.get St.uG
  simp only [dG,aa]
  by_cases h:d=t<;>simp [h]
theorem St.EV (σ:St) (dst:Option Tmp) (e:fg) (id:Nat):(σ.uG dst e).obj id=match look e.hw id with|some o=>o|none=>σ.obj id:=by
 unfold St.obj St.uG
 simp only [og]
 cases look e.hw id<;>rfl
abbrev Tr:=List (Option Tmp×fg)
def yh (b:Bool) (x:Option Tmp×fg) (σ:St):St:=match b with
 |true=>σ.uG x.1 x.2
 |false=>σ
def canon:Tr->(Nat->Bool)->Nat->St->St
 |[],_,_,σ=>σ
 |x::r,L,k,σ=>canon r L (k+1) (yh (L k) x σ)
def tW (t:Nat) (x:Option Tmp×fg):Option DV:=if x.1=some t then some x.2.d else none
def hW (id:Nat) (x:Option Tmp×fg):Option (Option fF):=look x.2.hw id
theorem iI (t:Nat): ∀(tr:Tr) (L:Nat->Bool) (k:Nat) (σ:St),(canon tr L k σ).get t=jG (tr.map (tW t)) L k (σ.get t)
 |[],_,_,_=>rfl
 |x::r,L,k,σ=>by
  simp only [canon,bR,jG]
  rw [iI t r L (k+1)]
  congr 1
  cases L k with
  |false=>rfl
  |true=>
   simp only [yh,vo,St.Fl,tW]
   by_cases h:x.1=some t<;>simp [h]
theorem gU (id:Nat): ∀(tr:Tr) (L:Nat->Bool) (k:Nat) (σ:St),(canon tr L k σ).obj id=jG (tr.map (hW id)) L k (σ.obj id)
 |[],_,_,_=>rfl
 |x::r,L,k,σ=>by
  simp only [canon,bR,jG]
  rw [gU id r L (k+1)]
  congr 1
  cases L k with
  |false=>rfl
  |true=>
   simp only [yh,vo,St.EV,hW]
   cases look x.2.hw id<;>rfl
theorem nb: ∀(tr:Tr) (L:Nat->Bool) (k:Nat) (σ:St),(canon tr L k σ).nx=σ.nx/\(canon tr L k σ).nt=σ.nt
 |[],_,_,_=>⟨rfl,rfl⟩
 |x::r,L,k,σ=>by
  simp only [canon]
  have:=nb r L (k+1) (yh (L k) x σ)
  cases hL:L k<;>(rw [hL] at this;exact this)
theorem ft: ∀(tr:Tr) (L:Nat->Bool) (k:Nat) (σ:St),(canon tr L k σ).rn=σ.rn/\(canon tr L k σ).lo=σ.lo
 |[],_,_,_=>⟨rfl,rfl⟩
 |x::r,L,k,σ=>by
  simp only [canon]
  have:=ft r L (k+1) (yh (L k) x σ)
  cases hL:L k<;>(rw [hL] at this;exact this)
def trace (P:Program) (ops:Array Oper) (dz:List (Nat×fx)) (n0:Nat):List Oper->Nat->St->Tr
 |[],_,_=>[]
 |o::r,k,σ=>(o.dst,jl P ops (mA dz k) (n0+k) σ o)::trace P ops dz n0 r (k+1) (σ.uG o.dst (jl P ops (mA dz k) (n0+k) σ o))
section
variable {P:Program} {ops:Array Oper} {dz:List (Nat×fx)} {n0:Nat}
theorem gT: ∀(l:List Oper) (k:Nat) (σ:St),(trace P ops dz n0 l k σ).length=l.length
 |[],_,_=>rfl
 |o::r,k,σ=>by simp only [trace,aH,gT r]
theorem mW: ∀(l:List Oper) (k:Nat) (σ:St) (j:Nat) (o:Oper),l[j]? =some o->
 (trace P ops dz n0 l k σ)[j]? =some (o.dst,jl P ops (mA dz (k+j)) (n0+(k+j)) (canon ((trace P ops dz n0 l k σ).take j) (fun _=>true) k σ) o)
 |[],_,_,j,o,h=>by simp at h
 |p::r,k,σ,0,o,h=>by
  simp only [aL,aa] at h
  subst h
  simp [trace,canon]
 |p::r,k,σ,j+1,o,h=>by
  simp only [aJ] at h
  simp only [trace,aJ,List.take_succ_cons,canon,yh]
  rw [mW r (k+1) _ j o h,show k+1+j=k+(j+1) by omega]
theorem pS: ∀(l:List Oper) (k:Nat) (σ:St) (vc:List Prop),(ja P ops dz n0 l k σ vc).1=canon (trace P ops dz n0 l k σ) (fun _=>true) k σ
 |[],_,_,_=>rfl
 |o::r,k,σ,vc=>by
  simp only [ja,trace,canon,yh]
  exact pS r (k+1) _ _
theorem rp: ∀(l:List Oper) (k:Nat) (σ:St) (vc:List Prop),dw (ja P ops dz n0 l k σ vc).2-> ∀(j:Nat) (d:Option Tmp) (e:fg),(trace P ops dz n0 l k σ)[j]? =some (d,e)->jH σ.nt σ.lo d=true/\dw e.vc
 |[],_,_,_,_,j,d,e,h=>by simp [trace] at h
 |o::r,k,σ,vc,dr,0,d,e,h=>by
  simp only [trace,aL,aa,aB] at h
  obtain ⟨rfl,rfl⟩:=h
  simp only [ja] at dr
  have UF:=xh (P:=P) ops dz n0 r (k+1) (σ.uG o.dst (jl P ops (mA dz k) (n0+k) σ o)) (vc++(bif jH σ.nt σ.lo o.dst then (jl P ops (mA dz k) (n0+k) σ o).vc else [False]))
  cases hd:jH σ.nt σ.lo o.dst with
  |false=>
   simp only [hd,ar] at UF dr
   exact (dr False (UF False (by simp))).elim
  |true=>
   simp only [hd,ao] at UF dr
   exact ⟨rfl,fun p hp=>dr p (UF p (aU _ hp))⟩
 |o::r,k,σ,vc,dr,j+1,d,e,h=>by
  simp only [trace,aJ] at h
  simp only [ja] at dr
  exact rp r (k+1) _ _ dr j d e h
structure kk where
 tr:List Nat
 tw:Option Nat
 hr:List Nat
 hw:List Nat
def has:List Nat->Nat->Bool
 |[],_=>false
 |x::r,i=>bif Nat.beq x i then true else has r i
theorem Mu: ∀{l:List Nat} {i:Nat},i∈l->has l i=true
 |x::r,i,h=>by
  simp only [has]
  rcases aR.1 h with rfl|h
  ·simp
  ·cases Nat.beq x i
   ·exact Mu h
   ·rfl
def rH (l m:List Nat):Bool:=match l with
 |[]=>false
 |x::r=>bif has m x then true else rH r m
theorem pd: ∀{l m:List Nat} {i:Nat},i∈l->i∈m->rH l m=true
 |x::r,m,i,h,hm=>by
  simp only [rH]
  rcases aR.1 h with rfl|h
  ·rw [Mu hm];rfl
  ·cases has m x
   ·exact pd h hm
   ·rfl
def Nt:Option Nat->List Nat
 |some t=>[t]
 |none=>[]
def meets (f g:kk):Bool:=rH (Nt f.tw) (Nt g.tw++g.tr)||(rH (Nt g.tw) f.tr||(rH f.hw (g.hw++g.hr)||rH g.hw f.hr))
def RH (ops:Array Oper) (σ:St) (o:Oper) (e:fg):kk:={ tr:=kH ops o,tw:=o.dst,hr:=iU σ (mG o.op),hw:=e.hw.map (·.1) }
def kQ (P:Program) (ops:Array Oper) (dz:List (Nat×fx)) (n0:Nat):List Oper->Nat->St->List kk
 |[],_,_=>[]
 |o::r,k,σ=>RH ops σ o (jl P ops (mA dz k) (n0+k) σ o)::kQ P ops dz n0 r (k+1) (σ.uG o.dst (jl P ops (mA dz k) (n0+k) σ o))
theorem py: ∀(l:List Oper) (k:Nat) (σ:St) (j:Nat) (o:Oper),l[j]? =some o->
 (kQ P ops dz n0 l k σ)[j]? =some (RH ops (canon ((trace P ops dz n0 l k σ).take j) (fun _=>true) k σ) o (jl P ops (mA dz (k+j)) (n0+(k+j)) (canon ((trace P ops dz n0 l k σ).take j) (fun _=>true) k σ) o))
 |[],_,_,j,o,h=>by simp at h
 |p::r,k,σ,0,o,h=>by
  simp only [aL,aa] at h
  subst h
  simp [kQ,canon]
 |p::r,k,σ,j+1,o,h=>by
  simp only [aJ] at h
  simp only [kQ,trace,aJ,List.take_succ_cons,canon,yh]
  rw [py r (k+1) _ j o h,show k+1+j=k+(j+1) by omega]
def MV (acc:List Nat):List Edge->Nat->Nat
 |[],s=>s
 |e::r,s=>MV acc r (bif Region.binds .any e then s|||(2^e.on|||acc.getD e.on 0) else s)
def sl:List Oper->List Nat->List Nat
 |[],acc=>acc
 |o::r,acc=>sl r (acc++[MV acc o.after.toList 0])
def qB (ss:List Nat) (i:Nat):List Edge->Bool
 |[]=>false
 |e::r=>bif Region.binds .any e&&(Nat.beq e.on i||(ss.getD e.on 0).testBit i) then true else qB ss i r
def qC (j:Nat):List Edge->Bool
 |[]=>true
 |e::r=>bif Region.binds .any e then (bif Nat.blt e.on j then qC j r else false) else qC j r
def lY (ss:List Nat) (o:Oper) (b:Nat):Nat->Bool
 |0=>true
 |n+1=>bif b.testBit n then (bif qB ss n o.after.toList then lY ss o b n else false) else lY ss o b n
def oa (f:kk) (b:Nat):List kk->Nat->Bool
 |[],_=>true
 |g::r,i=>bif meets g f then (bif b.testBit i then oa f b r (i+1) else false) else oa f b r (i+1)
def p5 (ss:List Nat) (fs:List kk):List Oper->List kk->Nat->Bool
 |o::r,f::q,j=>oa f (ss.getD j 0) (fs.take j) 0&&(lY ss o (ss.getD j 0) fs.length&&(qC j o.after.toList&&p5 ss fs r q (j+1)))
 |[],[],_=>true
 |_,_,_=>false
theorem vq {f:kk} {b:Nat}: ∀{l:List kk} {i0:Nat},oa f b l i0=true-> ∀(i:Nat) (g:kk),l[i]? =some g->meets g f=true->b.testBit (i0+i)=true
 |[],_,_,i,g,h,_=>by simp at h
 |g'::r,i0,ke,0,g,h,hm=>by
  simp only [aL,aa] at h
  subst h
  simp only [oa,hm,ao] at ke
  cases hb:b.testBit i0 with
  |true=>simp
  |false=>simp [hb] at ke
 |g'::r,i0,ke,i+1,g,h,hm=>by
  simp only [aJ] at h
  have hr:oa f b r (i0+1)=true:=by
   simp only [oa] at ke
   cases Zq:meets g' f with
   |false=>simpa [Zq] using ke
   |true=>
    simp only [Zq,ao] at ke
    cases hb:b.testBit i0 with
    |true=>simpa [hb] using ke
    |false=>simp [hb] at ke
  have:=vq hr i g h hm
  rwa [show i0+1+i=i0+(i+1) by omega] at this
theorem lL {ss:List Nat} {o:Oper} {b:Nat}: ∀{n:Nat},lY ss o b n=true-> ∀i,i<n->b.testBit i=true->qB ss i o.after.toList=true
 |0,_,i,hi,_=>by omega
 |n+1,h,i,hi,hb=>by
  simp only [lY] at h
  cases hn:b.testBit n with
  |false=>
   simp only [hn,ar] at h
   have:i≠n:=fun e=>by rw [e,hn] at hb;cases hb
   exact lL h i (by omega) hb
  |true=>
   simp only [hn,ao] at h
   cases he:qB ss n o.after.toList with
   |false=>simp [he] at h
   |true=>
    simp only [he,ao] at h
    rcases Nat.lt_or_eq_of_le (Nat.le_of_lt_succ hi) with dR|rfl
    ·exact lL h i dR hb
    ·exact he
theorem qA {ss:List Nat} {i:Nat}: ∀{l:List Edge},qB ss i l=true-> ∃e∈l,Region.binds .any e=true/\(e.on=i\/(ss.getD e.on 0).testBit i=true)
 |[],h=>by simp [qB] at h
 |e::r,h=>by
  simp only [qB] at h
  cases hb:(Region.binds .any e&&(Nat.beq e.on i||(ss.getD e.on 0).testBit i)) with
  |true=>
   simp only [an,bA] at hb
   refine ⟨e,ax,hb.1,?_⟩
   rcases hb.2 with h2|h2
   ·exact .inl (af h2)
   ·exact .inr h2
  |false=>
   simp only [hb,ar] at h
   obtain ⟨e',he',h'⟩:=qA h
   exact ⟨e',ay _ he',h'⟩
theorem r8 {j:Nat}: ∀{l:List Edge},qC j l=true-> ∀e∈l,Region.binds .any e=true->e.on<j
 |[],_,e,he,_=>by cases he
 |x::r,h,e,he,hb=>by
  simp only [qC] at h
  have hr:qC j r=true:=by
   cases hx:Region.binds .any x with
   |false=>simpa [hx] using h
   |true=>
    simp only [hx,ao] at h
    cases hl:Nat.blt x.on j with
    |true=>simpa [hl] using h
    |false=>simp [hl] at h
  rcases aR.1 he with rfl|he
  ·simp only [hb,ao] at h
   cases hl:Nat.blt e.on j with
   |true=>exact aC hl
   |false=>simp [hl] at h
  ·exact r8 hr e he hb
theorem pZ {ss:List Nat} {fs:List kk}: ∀{l:List Oper} {q:List kk} {j0:Nat},p5 ss fs l q j0=true-> ∀(j:Nat) (o:Oper) (f:kk),l[j]? =some o->q[j]? =some f->
 oa f (ss.getD (j0+j) 0) (fs.take (j0+j)) 0=true/\lY ss o (ss.getD (j0+j) 0) fs.length=true/\qC (j0+j) o.after.toList=true
 |[],_,_,_,j,o,f,h,_=>by simp at h
 |o'::r,[],_,h,_,_,_,_,_=>by simp [p5] at h
 |o'::r,f'::q,j0,ke,0,o,f,h1,h2=>by
  simp only [aL,aa] at h1 h2
  subst h1 h2
  simp only [p5,an] at ke
  exact ⟨ke.1,ke.2.1,ke.2.2.1⟩
 |o'::r,f'::q,j0,ke,j+1,o,f,h1,h2=>by
  simp only [aJ] at h1 h2
  simp only [p5,an] at ke
  have:=pZ ke.2.2.2 j o f h1 h2
  rwa [show j0+1+j=j0+(j+1) by omega] at this
end
end Go.Abs
end
