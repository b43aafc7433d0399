/- Contracts and what they stand on. -/
import Derived.Test.YtoinjphpfpklmaaGreatDoorAbsL
import Derived.CallsIn
import Derived.Deep.Slices
import Derived.Laws.Slices
import Derived.Laws.Strings2
import Derived.Deep.OwnRows
import Derived.OrdersIn
set_option linter.unusedVariables false
set_option linter.unusedSimpArgs false
section
namespace Go.Abs
open Go.RowKit
def Upd (es:List MapEntry) (clock:Nat) (kv val:Value) (Zi:List MapEntry) (Bc:Nat):Prop:=
 ((∀e∈es,e.key≠kv)/\Zi=es++[⟨kv,val,clock⟩]/\Bc=clock+1)\/ ∃(j:Nat) (e0:MapEntry),es[j]? =some e0/\e0.key=kv/\Zi=es.set j { e0 with val:=val }/\Bc=clock
section
variable {es Zi:List MapEntry} {clock Bc:Nat} {kv val:Value}
theorem Upd.Dm (h:Upd es clock kv val Zi Bc) {x:MapEntry} (hx:x∈es) (hk:x.key≠kv):x∈Zi:=by
 rcases h with ⟨h1,rfl,_⟩|⟨j,e0,h1,h2,rfl,_⟩
 ·exact aR _ hx
 ·obtain ⟨i,hi⟩:=List.mem_iff_getElem?.1 hx
  refine List.mem_iff_getElem?.2 ⟨i,?_⟩
  rw [List.getElem?_set,ae]
  ·exact hi
  ·rintro rfl
   rw [h1] at hi;cases hi;exact hk h2
theorem Upd.new (h:Upd es clock kv val Zi Bc): ∃x∈Zi,x.key=kv/\x.val=val:=by
 rcases h with ⟨h1,rfl,_⟩|⟨j,e0,h1,h2,rfl,_⟩
 ·exact ⟨_,aW _ (au.2 rfl),rfl,rfl⟩
 ·refine ⟨{ e0 with val:=val },List.mem_iff_getElem?.2 ⟨j,?_⟩,h2,rfl⟩
  rw [List.getElem?_set,ah rfl,ah (aj.1 h1).1]
theorem Upd.toList {es:Array MapEntry} {j:Nat} {e0:MapEntry} (h1:es.toList[j]? =some e0) (h2:e0.key=kv):Upd es.toList clock kv val (es.modify j fun e=>{ e with key:=kv,val:=val }).toList clock:=by
 refine .inr ⟨j,e0,h1,h2,?_,rfl⟩
 rw [Array.toList_modify]
 apply List.ext_getElem?
 intro i
 rw [List.getElem?_modify,List.getElem?_set]
 by_cases e:j=i
 ·subst e
  have dK:=(aj.1 h1).1
  rw [h1,ah rfl,ah dK]
  simp [<-h2]
 ·simp [e]
end
theorem xq {a b:KS} (h:BV a b=true):a=b:=by
 cases a<;>cases b<;>simp only [BV,bB] at h<;>first|rfl|(rw [ag h])
section
variable {P:Program} {base:Nat} {w0 w w':World} {S0:Env} {σ σ':St} {kn:Nat->Prop} {c9:Nat->Option Loc} {a:Act}
theorem yH (r:R base w0 S0 σ kn c9 a w) (sT:S0.wb=none) {id:Nat} (fS: ¬kn id) {t:TypeId} {e:eW} (he:xH P id t=e) (dg:dp e.vc):lV P base w0 S0 σ kn a w id (Instr.makeMap t none) e:=by
 unfold xH at he
 subst he
 exact dc dg
theorem AV (r:R base w0 S0 σ kn c9 a w) {id:Nat} (fS: ¬kn id) {t:TypeId} {x k:DV} {ok:Bool} {vx vk:Value} {e:eW} (he:oX P σ.obj id t x k ok=e) (dg:dp e.vc)
 (hx:Rel (df w base S0 c9) kn c9 x vx) (hk:Rel (df w base S0 c9) kn c9 k vk):lV P base w0 S0 σ kn a w id (Instr.lookup t vx vk ok) e:=by
 unfold oX at he
 subst he
 exact dc dg
theorem vI (r:R base w0 S0 σ kn c9 a w) {t:TypeId} {m k v:DV} {vm vk vv:Value} {e:eW} (he:ic P σ.obj t m k v=e) (dg:dp e.vc)
 (hm:Rel (df w base S0 c9) kn c9 m vm) (hk:Rel (df w base S0 c9) kn c9 k vk) (hv:Rel (df w base S0 c9) kn c9 v vv):
 e.d= .any/\ ∃w' dk,(Instr.mapUpdate t vm vk vv).run P w= .ok () w'/\R base w0 S0 (σ.iu e) kn dk a w':=by
 unfold ic at he
 subst he
 exact dc dg
theorem xF (r:R base w0 S0 σ kn c9 a w) {id:Nat} (fS: ¬kn id) {t:TypeId} {m k:DV} {vm vk:Value} {e:eW} (he:k6 P σ.obj id t m k=e) (dg:dp e.vc)
 (hm:Rel (df w base S0 c9) kn c9 m vm) (hk:Rel (df w base S0 c9) kn c9 k vk):lV P base w0 S0 σ kn a w id (Instr.mapEntry t vm vk) e:=by
 unfold k6 at he
 subst he
 exact dc dg
theorem tU (r:R base w0 S0 σ kn c9 a w) {t:TypeId} {m s v:DV} {vm vs vv:Value} {e:eW} (he:jB σ.obj m s v=e) (dg:dp e.vc)
 (hm:Rel (df w base S0 c9) kn c9 m vm) (hs:Rel (df w base S0 c9) kn c9 s vs) (hv:Rel (df w base S0 c9) kn c9 v vv):
 e.d= .any/\ ∃w' dk,(Instr.entryStore t vm vs vv).run P w= .ok () w'/\R base w0 S0 (σ.iu e) kn dk a w':=by
 unfold jB at he
 subst he
 exact dc dg
theorem AY (r:R base w0 S0 σ kn c9 a w) {t ty:TypeId} {m k:DV} {vm vk:Value} {e:eW} (he:oY P σ.obj t m k=e) (dg:dp e.vc)
 (hm:Rel (df w base S0 c9) kn c9 m vm) (hk:Rel (df w base S0 c9) kn c9 k vk) {ts:Array TypeId} (hts:ts[0]? =some t):
 ∃w' v,(Builtin.delete_ ts ty #[vm,vk]).run P w= .ok v w'/\R base w0 S0 (σ.iu e) kn c9 a w'/\Rel (df w' base S0 c9) kn c9 e.d v:=by
 unfold oY at he
 subst he
 exact dc dg
end
end Go.Abs
end
section
namespace Go.Abs
open Go.RowKit
section
variable {P:Program} {base:Nat} {w0 w w':World} {S0:Env} {σ σ':St} {kn:Nat->Prop} {c9:Nat->Option Loc} {a:Act}
theorem xI (r:R base w0 S0 σ kn c9 a w) {id:Nat} (fS: ¬kn id) {t:TypeId} {d1 d2:DV} {v1 v2:Value} {e:eW} (he:tT P id t d1 d2=e) (dg:dp e.vc)
 (h1:Rel (df w base S0 c9) kn c9 d1 v1) (h2:Rel (df w base S0 c9) kn c9 d2 v2):lV P base w0 S0 σ kn a w id (Instr.makeSlice t v1 v2) e:=by
 unfold tT at he
 subst he
 exact dc dg
theorem Fb (r:R base w0 S0 σ kn c9 a w) {id:Nat} (fS: ¬kn id) {t:TypeId} {s g i j:Nat} {v:Value} {e:eW} (he:Fc P σ.obj id t s g i j=e) (dg:dp e.vc)
 (hv:Rel (df w base S0 c9) kn c9 (.k5 s g i j) v):lV P base w0 S0 σ kn a w id (Instr.loadAt t v) e:=by
 unfold Fc at he
 subst he
 exact dc dg
theorem HR (r:R base w0 S0 σ kn c9 a w) {t:TypeId} {s g i j:Nat} {d:DV} {vp vd:Value} {e:eW} (he:Mf P σ.obj t s g i j d=e) (dg:dp e.vc)
 (hp:Rel (df w base S0 c9) kn c9 (.k5 s g i j) vp) (hd:Rel (df w base S0 c9) kn c9 d vd):
 e.d= .any/\ ∃w' dk,(Instr.storeAt t vp vd).run P w= .ok () w'/\R base w0 S0 (σ.iu e) kn dk a w':=by
 unfold Mf at he
 subst he
 exact dc dg
theorem yI (r:R base w0 S0 σ kn c9 a w) {t:TypeId} {m:Nat} {p:DV} {v:Value} {e:eW} (he:mB P σ.obj t m p=e) (dg:dp e.vc)
 (hv:Rel (df w base S0 c9) kn c9 p v):Still P base S0 kn c9 w (Instr.loadAt t v) e:=by
 have fin: ∀{p:DV} {cs:List DV} {vc:List Prop} {k:IntKind} {l:List Int} {j:Nat},zD P t=some false->pq σ.obj p=some (cs.drop j,vc)->dp vc->m<=cs.length->ij (cs.take m)=some (k,l)->j<m->Rel (df w base S0 c9) kn c9 p v-> ∀{O6:List Prop},Still P base S0 kn c9 w (Instr.loadAt t v) { d:= .val (.int k (l.getD j 0)),vc:=O6 }:=fun {p cs vc k l j} h1 hra hv0 hm hl hj hv {O6}=>by
  obtain ⟨ad,rfl,hc⟩:=po r hra hv0 hv
  have e:=lp hl
  have xx:j<cs.length:=by omega
  obtain ⟨u,hu,hrel⟩:=hc 0 cs[j] (by simp [xx])
  have ot:cs[j]= .val (.int k (l.getD j 0)):=by
   have h3:=congrArg (fun q:List DV=>q[j]?) e
   simp only [aw,bG,ah hj,ak xx] at h3
   cases hlj:l[j]? with
   |none=>rw [hlj] at h3;cases h3
   |some z=>rw [hlj] at h3;simp only [aA,aa] at h3;rw [h3,bc,hlj];rfl
  rw [ot] at hrel
  refine ⟨rfl,u,?_,hrel⟩
  have DA:w.cell? ad=some u:=by simpa [Addr.add] using hu
  simp [Instr.loadAt,Instr.sureAddr,loadVar,oA h1,DA]
 unfold mB at he
 split at he
 ·rename_i s id i j
  split at he
  ·rename_i n de h1 h2
   cases hb:Nat.beq de.length s&&Nat.ble m de.length
   ·simp only [hb,ax] at he;subst he;exact dc dg
   ·simp only [hb,aq] at he
    split at he
    ·rename_i k l hl
     subst he
     rw [av] at hb
     have hm:=aH hb.2
     have hj:j<m:=dg.tl.one
     rw [List.map_take] at hl
     exact fin (cs:=de.map fun c=>c i) (vc:=[i<n]) h1 (by simp only [pq,h2,hb.1,aq,List.map_drop]) (fun q hq=>by rw [au.1 hq];exact dg.hd) (by simpa using hm) hl hj hv
    ·subst he;exact dc dg
  ·subst he;exact dc dg
 ·rename_i id j
  split at he
  ·rename_i cs h1 h2
   cases hb:Nat.ble m cs.length
   ·simp only [hb,ax] at he;subst he;exact dc dg
   ·simp only [hb,aq] at he
    split at he
    ·rename_i k l hl
     subst he
     exact fin (cs:=cs) (vc:=[]) h1 (by simp only [pq,h2]) (fun q hq=>by cases hq) (aH hb) hl dg.one hv
    ·subst he;exact dc dg
  ·subst he;exact dc dg
 ·subst he;exact dc dg
theorem Cd (r:R base w0 S0 σ kn c9 a w) {id:Nat} (fS: ¬kn id) {oc:fE} {t:TypeId} {p:DV} {v:Value} {e:eW} (he:pM P oc σ.obj id t p=e) (dg:dp e.vc)
 (hv:Rel (df w base S0 c9) kn c9 p v):lV P base w0 S0 σ kn a w id (Instr.loadAt t v) e:=by
 unfold pM at he
 split at he
 ·exact Fb r fS he dg hv
 ·split at he
  ·exact (yI r he dg hv).runs r
  ·subst he
   exact (vL r dg hv).runs r
theorem AR (r:R base w0 S0 σ kn c9 a w) {t:TypeId} {p d:DV} {vp vd:Value} {e:eW} (he:mW P σ.obj t p d=e) (dg:dp e.vc)
 (hp:Rel (df w base S0 c9) kn c9 p vp) (hd:Rel (df w base S0 c9) kn c9 d vd):
 e.d= .any/\ ∃w' dk,(Instr.storeAt t vp vd).run P w= .ok () w'/\R base w0 S0 (σ.iu e) kn dk a w':=by
 unfold mW at he
 split at he
 ·exact HR r he dg hp hd
 ·obtain ⟨h1,w',h2,h3⟩:=B8 r he dg hp hd
  exact ⟨h1,w',c9,h2,h3⟩
end
end Go.Abs
end
section
namespace Go.Abs
open Go.RowKit
section
variable {P:Program} {base:Nat} {w0 w:World} {S0:Env} {σ:St} {kn:Nat->Prop} {c9:Nat->Option Loc} {a:Act}
theorem Cj (r:R base w0 S0 σ kn c9 a w) {t ty:TypeId} {x:DV} {vx:Value} {e:eW} (he:ss P σ.obj t x=e) (dg:dp e.vc)
 (hx:Rel (df w base S0 c9) kn c9 x vx) {ts:Array TypeId} (hts:ts[0]? =some t):
 ∃w' v,(Builtin.clear_ ts ty #[vx]).run P w= .ok v w'/\R base w0 S0 (σ.iu e) kn c9 a w'/\Rel (df w' base S0 c9) kn c9 e.d v:=by
 unfold ss at he
 subst he
 exact dc dg
end
end Go.Abs
end
section
namespace Go.Abs
open Go.RowKit
abbrev FW (ro:Option Nat):Fence:={ Fence.wide with round:=ro }
theorem UL {ro:Option Nat} {m:Nat} {P:Program} {f:FuncId} {vs:Array Value} {w:World} {R:Ending->World->Prop} (h:Calls P f vs w R):CallsIn (FW ro) m P f vs w R:=
 have h':CallsIn Fence.wide m P f vs w R:=callsIn_wide.2 h
 h'
section
variable {P:Program} {ro:Option Nat} {m:Nat} {base:Nat} {w0 w w':World} {S0:Env} {σ σ':St} {kn:Nat->Prop} {c9:Nat->Option Loc} {a:Act}
def wE (base:Nat) (w0:World) (S0:Env) (σ:St) (kn:Nat->Prop) (id:Nat) (a:Act) (w:World):Prop:=
 ∃eL dk,R base w0 S0 σ eL dk a w/\ ∀i,eL i->kn i\/i=id
theorem Hi {α:Type}: ∀{l:List (Nat×α)} {i:Nat} {v:α},look l i=some v->(i,v)∈l
 |(k,u)::r,i,v,h=>by
  rw [dH] at h
  split at h
  ·rename_i e;cases h;subst e;exact ay
  ·exact az _ (Hi h)
theorem R.ev (r:R base w0 S0 σ kn c9 a w) (y:Operand):Rel (df w base S0 c9) kn c9 (σ.ev y) (a.eval y):=by
 cases y with
 |tmp t=>exact r.tmps t
 |const v=>exact .val v
 |global g=>
  show Rel _ kn c9 (match look gl g with|some cs=>DV.dN cs|none=>DV.any) _
  cases hl:look gl g with
  |none=>exact .any _
  |some cs=>exact r.yx _ _ (aR _ (Tn (Hi hl)))
 |func f=>exact .val _
theorem nV: ∀{l:List Operand},dp (pS σ l)-> ∀y∈l,∀b,(σ.ev y).mZ =some b->b=true
 |[],_,y,hy=>by cases hy
 |x::l,h,y,hy=>by
  intro b hb
  simp only [pS] at h
  cases hx:(σ.ev x).mZ with
  |none=>
   simp only [hx] at h
   rcases aS.1 hy with rfl|hy
   ·rw [hx] at hb;cases hb
   ·exact nV h y hy b hb
  |some c=>
   simp only [hx] at h
   rcases aS.1 hy with rfl|hy
   ·rw [hx] at hb;cases hb;exact h.hd
   ·exact nV h.tl y hy b hb
theorem R.nH {e:eW} (r:R base w0 S0 (σ.iu e) kn c9 a w) {dst:Option Tmp} {v:Value} (eS:kQ σ.nt σ.lo dst=true) (hv:Rel (df w base S0 c9) kn c9 e.d v):
 R base w0 S0 (σ.ui dst e) kn c9 (a.put dst v) w:=by
 cases dst with
 |none=>exact r
 |some t=>
  obtain ⟨ht,lS⟩:t<σ.nt/\σ.lo<=t:=by
   simp only [kQ] at eS
   cases h:Nat.ble σ.lo t
   ·simp [h] at eS
   ·simp only [h,aq] at eS
    exact ⟨aH (show Nat.ble (t+1) σ.nt=true from eS),aH h⟩
  exact R.put r ht lS hv
theorem eI {o:Oper} (vC: ∀c,o.op≠ .defer c) {K:Act->World->Prop} {Q:Exit->Act->World->Prop} {s:Sem Value} {id:Nat} {e:eW} (hex:execOp a.eval o=(do pure (.value (<-s)))) (h:lV P base w0 S0 σ kn a w id s e)
 (eS:kQ σ.nt σ.lo o.dst=true) (hK: ∀a' w',wE base w0 S0 (σ.ui o.dst e) kn id a' w'->K a' w'):o.wpIn (FW ro) m P a w K Q:=by
 obtain ⟨v,w',hr,eL,dk,hR,hv,hk⟩:=h
 unfold Oper.wpIn
 refine ⟨fun _ _=>trivial,?_⟩
 rw [Oper.semAt_eq _ _ _ vC,hex]
 simp only [Sem.run_bind,hr,Result.andThen_ok,Sem.run_pure]
 exact hK _ _ ⟨eL,dk,R.nH hR eS hv,hk⟩
theorem zu {o:Oper} (vC: ∀c,o.op≠ .defer c) {K:Act->World->Prop} {Q:Exit->Act->World->Prop} {id:Nat} {e:eW} {v:Value} (r:R base w0 S0 σ kn c9 a w) (hw:e.hw=[]) (hex:execOp a.eval o=pure (.value v)) (hv:Rel (df w base S0 c9) kn c9 e.d v)
 (eS:kQ σ.nt σ.lo o.dst=true) (hK: ∀a' w',wE base w0 S0 (σ.ui o.dst e) kn id a' w'->K a' w'):o.wpIn (FW ro) m P a w K Q:=by
 have h:σ.iu e=σ:=by unfold St.iu;rw [hw];rfl
 unfold Oper.wpIn
 refine ⟨fun _ _=>trivial,?_⟩
 rw [Oper.semAt_eq _ _ _ vC,hex]
 exact hK _ _ ⟨kn,c9,R.nH (by rw [h];exact r) eS hv,fun _ h=> .inl h⟩
theorem Ab {x:Operand->DV} {rd:Rd}: ∀(l:List (Nat×Operand)),(∀p∈l,Rel rd kn c9 (x p.2) (a.eval p.2))->o7 rd kn c9 (l.map fun p=>(p.1,x p.2)) (l.map fun p=>(p.1,a.eval p.2))
 |[],_=> .nil
 |p::l,h=> .cons (h p ay) (Ab l fun q hq=>h q (az _ hq))
theorem mm {f:FuncId} {vs:Array Value} (h:gC P f) (w:World):(callFunc f vs).run P w= .ok (.enter f vs) w:=by
 obtain ⟨fn,h1,h2,h3⟩:=h
 simp only [callFunc,Sem.run_bind,run_program,Result.andThen_ok,h1,h3,h2,bB,cg]
 rfl
theorem K8 {o:Oper} (vC: ∀c,o.op≠ .defer c) {K:Act->World->Prop} {Q:Exit->Act->World->Prop} {id:Nat} {e:eW} {f:FuncId} {vs:Array Value} (hex:(execOp a.eval o).run P w= .ok (.enter f vs) w)
 (hc:gC P f/\Calls P f vs w fun en w'=> ∃v eL dk,en= .returned v/\R base w0 S0 (σ.iu e) eL dk a w'/\Rel (df w' base S0 dk) eL dk e.d v/\ ∀i,eL i->kn i\/i=id)
 (eS:kQ σ.nt σ.lo o.dst=true) (hK: ∀a' w',wE base w0 S0 (σ.ui o.dst e) kn id a' w'->K a' w'):o.wpIn (FW ro) m P a w K Q:=by
 obtain ⟨_,hc⟩:=hc
 unfold Oper.wpIn
 refine ⟨fun _ _=>trivial,?_⟩
 rw [Oper.semAt_eq _ _ _ vC,hex,Oper.uponIn_enter]
 refine ⟨fun h=>(by cases h),CallsIn.mono (UL hc) fun en w' hx=> ?_⟩
 obtain ⟨v,eL,dk,sG,hR,hrel,kL⟩:=hx
 subst sG
 exact hK _ _ ⟨eL,dk,R.nH hR eS hrel,kL⟩
theorem vK (r:R base w0 S0 σ kn c9 a w) {id:Nat} (fS: ¬kn id) {t:TypeId} {d1 d2:DV} {v1 v2:Value} {e:eW} (he:rC P id t d1 d2=e) (dg:dp e.vc)
 (h1:Rel (df w base S0 c9) kn c9 d1 v1) (h2:Rel (df w base S0 c9) kn c9 d2 v2):lV P base w0 S0 σ kn a w id (Instr.makeSlice t v1 v2) e:=by
 unfold rC at he
 split at he
 ·rename_i k n k' c
  cases h1;cases h2
  split at he
  ·rename_i el hu
   split at he
   ·rename_i i cs hi hz
    cases hb:(Nat.beq cs.length i.size&&Nat.ble 1 cs.length) with
    |false=>simp only [hb,ax] at he;subst he;exact dc dg
    |true=>
     simp only [hb,aq] at he
     simp only [av] at hb
     subst he
     obtain ⟨g0,rfl,g2,g3⟩:=dg.one
     have fq:=ag hb.1
     have h1s:=aH hb.2
     unfold sM at hz
     rw [hi] at hz
     simp only at hz
     cases hzz:i.zero with
     |none=>rw [hzz] at hz;cases hz
     |some z=>
      rw [hzz] at hz
      simp only at hz
      obtain ⟨q1,q2,q3⟩:=(Rel.val (rd:=df w base S0 c9) (kn:=fun _=>False) (c9:=fun _=>none) z).cells hz
      have ef:=run_make (P:=P) (w:=w) t el i z hu hi hzz k k' n n g0 (cO _) (by have:(n.toNat:Int)=n:=bH g0;rw [<-this,<-Int.natCast_mul];exact Int.ofNat_le.2 g3) (by omega)
      refine tf r fS (by simp) (by rw [size_madeCells,fq]) (fun a b f ha Y8=> ?_) ef
      have hlen:(cs.map fun d (_:Nat)=>d).length=cs.length:=by simp
      rw [hlen]
      have Y7:b<cs.length:=by
       have:=(aj.1 Y8).1
       simpa using this
      rw [aw,ak Y7] at Y8
      simp only [aA,aa] at Y8
      subst Y8
      have hzb:b<z.cells.size:=by omega
      have sj:a*cs.length+b<n.toNat*i.size:=by
       rw [<-fq]
       calc a*cs.length+b<a*cs.length+cs.length:=by omega
        _=(a+1)*cs.length:=by rw [cE];omega
        _<=n.toNat*cs.length:=ba _ ha
      have hmod:(a*cs.length+b)%z.cells.size=b:=by
       rw [q1,Nat.mul_comm,Nat.mul_add_mod,cG Y7]
      refine ⟨z.cells[b],?_,q3 _ (by simp),q2 b _ _ (ak Y7) (by simp)⟩
      simp only [madeCells]
      rw [Array.getElem?_map,Array.getElem?_range,ah sj]
      simp only [aA,hmod]
      rw [getElem!_pos z.cells b hzb]
   ·subst he;exact dc dg
  ·subst he;exact dc dg
 ·subst he;exact dc dg
theorem tS (r:R base w0 S0 σ kn c9 a w) {id:Nat} (fS: ¬kn id) {t:TypeId} {oc:fE} {d1 d2:DV} {v1 v2:Value} {e:eW} (he:pL P oc id t d1 d2=e) (dg:dp e.vc)
 (h1:Rel (df w base S0 c9) kn c9 d1 v1) (h2:Rel (df w base S0 c9) kn c9 d2 v2):lV P base w0 S0 σ kn a w id (Instr.makeSlice t v1 v2) e:=by
 unfold pL at he
 split at he
 ·exact xI r fS he dg h1 h2
 ·exact vK r fS he dg h1 h2
set_option maxHeartbeats 4000000 in
theorem kW {P:Program} {w:World} {t e:TypeId} {s len c:Nat} {A:Option Addr} {wH Gt:Option Value} {l h:Int} (hu:P.underlying t=some (.slice e)) (fq:iS P e=some s)
 (lS:(wH=none/\l=0)\/ ∃k,wH=some (.int k l)) (QK:(Gt=none/\h=len)\/ ∃k,Gt=some (.int k h)) (h0:0<=l) (h1:l<=h) (h2:h<=len) (h3:len<=c):
 (Instr.sliceAt t (.slice A len c) wH Gt none).run P w= .ok (sliced A l.toNat h.toNat c s) w:=by
 have he:P.elem t=e:=by simp [Program.elem,hu]
 have ht:P.underlying t=some (.slice (P.elem t)):=by rw [he,hu]
 rw [run_sliceAt_slice w t _ _ _ _ ht]
 have hz:=fJ fq w
 rcases lS with ⟨rfl,rfl⟩|⟨kl,rfl⟩<;>rcases QK with ⟨rfl,rfl⟩|⟨kh,rfl⟩
 ·rw [run_slice_all w t A len c ht,he,hz];simp [Result.andThen]
 ·rw [run_slice_h w t A len c ht kh h h1 (by omega),he,hz];simp [Result.andThen]
 ·rw [run_slice_l w t A len c ht kl l h0 h1,he,hz];simp [Result.andThen]
 ·rw [run_slice_lh w t A len c ht kl kh l h h0 h1 (by omega),he,hz];simp [Result.andThen]
theorem Er {P:Program} {w:World} {t:TypeId} {s:ByteArray} {wH Gt:Option Value} {l h:Int} (hu:P.underlying t=some .string)
 (lS:(wH=none/\l=0)\/ ∃k,wH=some (.int k l)) (QK:(Gt=none/\h=(s.size:Int))\/ ∃k,Gt=some (.int k h)) (h0:0<=l) (h1:l<=h) (h2:h<=(s.size:Int)):
 (Instr.sliceAt t (.string s) wH Gt none).run P w= .ok (.string (s.extract l.toNat h.toNat)) w:=by
 rw [run_sliceAt_string w t _ _ _ _ hu]
 rcases lS with ⟨rfl,rfl⟩|⟨kl,rfl⟩<;>rcases QK with ⟨rfl,rfl⟩|⟨kh,rfl⟩
 ·rw [run_slice_string_all w t s hu];rfl
 ·rw [run_slice_string_h w t s hu kh h h1 h2];rfl
 ·rw [run_slice_string_l w t s hu kl l h0 h1];rfl
 ·rw [run_slice_string w t s kl kh l h hu h0 h1 h2]
theorem jC {rd:Rd} {kn:Nat->Prop} {c9:Nat->Option Loc} {lo:Option DV} {wH:Option Value} {n l:Int} (hr:(lo=none/\wH=none)\/ ∃d u,lo=some d/\wH=some u/\Rel rd kn c9 d u) (h:nZ n lo=some l):
 (wH=none/\l=n)\/ ∃k,wH=some (.int k l):=by
 rcases hr with ⟨rfl,rfl⟩|⟨d,u,rfl,rfl,hd⟩
 ·cases h;exact .inl ⟨rfl,rfl⟩
 ·cases hd<;>try (cases h)
  cases u<;>try (cases h)
  exact .inr ⟨_,rfl⟩
theorem Ca (r:R base w0 S0 σ kn c9 a w) {t:TypeId} {x:DV} {v:Value} {lo hi:Option DV} {wH Gt:Option Value} {e:eW} (he:sn P σ.obj t x lo hi=e) (dg:dp e.vc)
 (lS:(lo=none/\wH=none)\/ ∃d u,lo=some d/\wH=some u/\Rel (df w base S0 c9) kn c9 d u) (QK:(hi=none/\Gt=none)\/ ∃d u,hi=some d/\Gt=some u/\Rel (df w base S0 c9) kn c9 d u)
 (hv:Rel (df w base S0 c9) kn c9 x v):Still P base S0 kn c9 w (Instr.sliceAt t v wH Gt none) e:=by
 unfold sn at he
 split at he
 ·rename_i el hu
  split at he
  ·rename_i s fq
   split at he
   ·rename_i s' id off len
    cases hb:Nat.beq s s'&&ke σ.obj id s
    ·simp only [hb,ax] at he;subst he;exact dc dg
    ·simp only [hb,aq] at he
     simp only [av] at hb
     obtain rfl:=ag hb.1
     split at he
     ·rename_i l h hl hh
      subst he
      obtain ⟨h0,h1,h2⟩:0<=l/\l<=h/\h<=(len:Int):=dg.one
      have bl:=jC lS hl
      have bh:=jC QK hh
      obtain ⟨kL,⟨rfl,rfl,rfl,nk⟩|⟨g,C,rfl,hC,HB⟩|⟨ho,rfl,p,c,rfl⟩⟩:=nG r hb.2 hv
      ·have ef:=kW (w:=w) (c:=0) (A:=none) hu fq bl bh h0 h1 h2 (af _)
       refine ⟨rfl,_,ef,.row kL ⟨none,0 - l.toNat,?_,fun _=>by omega⟩ (fun _=> ?_) (fun g C e=> ?_) (fun g o C e=>by rw [nk] at e;cases e)⟩
       ·simp [sliced]
       ·have e1:l.toNat=0:=by omega
        have e2:h.toNat=0:=by omega
        simp [sliced,e1,e2]
       ·rw [nk] at e;cases e
      ·have ef:=kW (w:=w) (c:=C - off) (A:=some ⟨g,off*s,none⟩) hu fq bl bh h0 h1 h2 (by omega)
       refine ⟨rfl,_,ef,.row kL ⟨if C - off=l.toNat then some ⟨g,off*s,none⟩ else some (Addr.add ⟨g,off*s,none⟩ (l.toNat*s)),C - off - l.toNat,?_,fun h=>by split at h<;>cases h⟩ (fun e=> ?_) (fun g' C' e=> ?_) (fun g' o' C' e=>by rw [HB] at e;cases e)⟩
       ·simp only [sliced]
        split<;>rfl
       ·rw [HB] at e;cases e
       ·rw [HB] at e
        cases e
        by_cases jg:C - off=l.toNat
        ·by_cases HC:l.toNat=0
         ·left
          simp only [sliced,HC,bU,bM]
          refine ⟨?_,by omega⟩
          rw [ah (by omega)]
         ·right;omega
        ·left
         simp only [sliced,ae jg,aA]
         refine ⟨?_,by omega⟩
         rw [eE,<-cE,Nat.sub_sub]
      ·have ef:=kW (w:=w) (c:=c) (A:=p) hu fq bl bh h0 h1 h2 (ao _)
       have e1:l.toNat=0:=by omega
       have e2:h.toNat=0:=by omega
       refine ⟨rfl,_,ef,.row kL ⟨if c=0 then p else p.map (·.add (0*s)),c - 0,?_,fun _=>by omega⟩ (fun e=> ?_) (fun g C e=> .inr ⟨by omega,by omega⟩) (fun g o C e=> .inr ⟨by omega,by omega⟩)⟩
       ·simp only [sliced,e1,e2]
       ·cases hv with
        |row _ _ hz _ _=>
         obtain ⟨_,hz2,_⟩:=hz e
         omega
     ·subst he;exact dc dg
   ·rename_i n de
    cases hb:Nat.beq de.length s
    ·simp only [hb,ax] at he;subst he;exact dc dg
    ·simp only [hb,aq] at he
     obtain rfl:=ag hb
     split at he
     ·rename_i l h hl hh
      subst he
      obtain ⟨h0,h1,h2⟩:0<=l/\l<=h/\h<=(n:Int):=dg.one
      have bl:=jC lS hl
      have bh:=jC QK hh
      cases hv with
      |di U hc ha hn jR hr=>
       rename_i A c
       have ef:=kW (w:=w) (c:=c) (A:=A) hu fq bl bh h0 h1 h2 hc
       have get: ∀(j:Nat) (f:Nat->DV),(de.map fun c i=>c (i+l.toNat))[j]? =some f-> ∃f',de[j]? =some f'/\f=fun i=>f' (i+l.toNat):=fun j f hf=>by
        rw [aw] at hf
        cases ot:de[j]? with
        |none=>simp [ot] at hf
        |some f'=>simp only [ot,aA,aa] at hf;exact ⟨f',rfl,hf.symm⟩
       refine ⟨rfl,_,ef,.di (fun i j=>U (i+l.toNat) j) (by omega) (fun i j f hi hf=> ?_) (fun hp=> ?_) (fun i j f hi hf=> ?_) fun i j f hi hf=> ?_⟩
       ·obtain ⟨f',lT,_⟩:=get j f hf
        obtain ⟨ad,rfl,Ol⟩:=ha (i+l.toNat) j f' (by omega) lT
        refine ⟨ad.add (l.toNat*de.length),?_,?_⟩
        ·rw [ae (by omega)];rfl
        ·rw [b6,Go.Deep.add_add,<-bT,Nat.add_comm (l.toNat*de.length),<-cE]
         exact Ol
       ·have:=hn (by omega)
        cases A with
        |none=>exact absurd rfl this
        |some ad=>split<;>simp
       ·obtain ⟨f',lT,_⟩:=get j f hf
        exact jR _ _ f' (by omega) lT
       ·obtain ⟨f',lT,rfl⟩:=get j f hf
        exact hr _ _ f' (by omega) lT
     ·subst he;exact dc dg
   ·split at he
    ·rename_i l h hl hh
     subst he
     obtain ⟨rfl,rfl⟩:l=0/\h=0:=dg.one
     cases hv
     have ef:=kW (w:=w) (c:=0) (len:=0) (A:=none) hu fq (jC lS hl) (jC QK hh) (cO _) (cO _) (by omega) (af _)
     refine ⟨rfl,_,ef,?_⟩
     exact .val _
    ·subst he;exact dc dg
   ·subst he;exact dc dg
  ·subst he;exact dc dg
 ·rename_i hu
  split at he
  ·rename_i s
   split at he
   ·rename_i l h hl hh
    subst he
    obtain ⟨h0,h1,h2⟩:0<=l/\l<=h/\h<=(s.size:Int):=dg.one
    cases hv
    exact ⟨rfl,_,Er hu (jC lS hl) (jC QK hh) h0 h1 h2,.val _⟩
   ·subst he;exact dc dg
  ·subst he;exact dc dg
 ·subst he;exact dc dg
theorem Ch (r:R base w0 S0 σ kn c9 a w) {src dst:TypeId} {d:DV} {v:Value} {e:eW} (he:so P σ.obj src dst d=e) (dg:dp e.vc) (hv:Rel (df w base S0 c9) kn c9 d v):
 Still P base S0 kn c9 w (convert src dst v) e:=by
 unfold so at he
 split at he
 ·rename_i el hu
  split at he
  ·rename_i AG hds
   split at he
   ·rename_i s id off len
    unfold Fk at he
    split at he
    ·rename_i n c gR
     split at he
     ·rename_i l hal
      subst he
      have nk:len<=n:=dg.one
      have xy:=lp hal
      have hlen:l.length=len:=by have:=congrArg List.length xy;simpa using this.symm
      have sF: ∀i,i<len->c i= .val (.int .u8 (l.getD i 0)):=fun i hi=>by
       have h1:((List.range len).map c)[i]? =some (c i):=by simp [hi]
       have h2:(l.map fun n=>DV.val (.int .u8 n))[i]? =some (.val (.int .u8 (l.getD i 0))):=by
        have QJ:i<l.length:=by omega
        simp [ak QJ,List.getD]
       rw [xy,h2] at h1
       exact (bF h1).symm
      have nj:0<len:=by
       rcases cf len with h0|h0
       ·subst h0;simp [ij] at hal
       ·exact h0
      have tE:ke σ.obj id 1=true:=by unfold ke;rw [gR];rfl
      obtain ⟨kL,⟨rfl,_,h0,_⟩|⟨g,C,rfl,hC,HB⟩|⟨h0,h1,_⟩⟩:=nG r tE hv
      ·omega
      ·obtain ⟨_,pG⟩:=r.fg _ _ gR
       rcases pG with ⟨yE,_⟩|⟨g',C',cv,T,yE,hh,fq,jH,AH⟩
       ·rw [HB] at yE;cases yE
       ·rw [HB] at yE
        cases yE
        refine ⟨rfl,_,run_convert_bytes_arg w src el hu AG g 0 len (C - 0) l hlen (fun i hi=> ?_) dst hds,.val _⟩
        obtain ⟨u,hu2,_,hr⟩:=AH i 0 c (by omega) rfl
        rw [sF i hi] at hr
        cases hr
        have hu3:cv[i]? =some (.int .u8 (l.getD i 0)):=by simpa using hu2
        show w.cell? ⟨g,0+i,none⟩=_
        rw [aE]
        simp [World.cell?,hh,hu3]
      ·omega
     ·subst he;exact dc dg
    ·subst he;exact dc dg
   ·subst he;exact dc dg
  ·subst he;exact dc dg
 ·rename_i q hq _
  exact Ff ⟨q,by assumption⟩ he dg hv
 ·subst he;exact dc dg
theorem sZ (r:R base w0 S0 σ kn c9 a w) {id q s s' len n:Nat} {de:List (Nat->DV)} (fS: ¬kn id) {t el:TypeId} {v:Value} {lo:Option DV} {wH:Option Value} {e:eW} (hu:P.underlying t=some (.slice el)) (fq:iS P el=some s)
 (gR:σ.obj q=some (.row n de)\/σ.obj q=some (.ph n de)) (he:zk s s' id q len n de (nZ 0 lo)=e) (dg:dp e.vc)
 (lS:(lo=none/\wH=none)\/ ∃d u,lo=some d/\wH=some u/\Rel (df w base S0 c9) kn c9 d u) (hv:Rel (df w base S0 c9) kn c9 (.row s' q 0 len) v):lV P base w0 S0 σ kn a w id (Instr.sliceAt t v wH none none) e:=by
 unfold zk at he
 split at he
 ·rename_i l hl
  cases B6:(Nat.beq s s'&&Nat.beq de.length s)
  ·simp only [B6,ax] at he;subst he;exact dc dg
  ·simp only [B6,aq] at he
   simp only [av] at B6
   obtain rfl:=ag B6.1
   have jg:=ag B6.2
   subst he
   obtain ⟨h0,h1,nk⟩:=dg.one
   have bl:=jC lS hl
   have tE:xu σ.obj q s=true:=by
    unfold xu
    rcases gR with gR|gR<;>rw [gR]<;>exact B6.2
   obtain ⟨hkq,mS⟩:=GQ r tE hv
   have pG:(c9 q=some .nil/\n=0)\/ ∃g o C cv T,(c9 q=some (.sub g o C)\/(c9 q=some (.at_ g C)/\o=0))/\w.heap[g]? =some (.cells cv T (0,0))/\o+C*de.length<=cv.size/\n<=C/\
    ∀(i j:Nat) (f:Nat->DV),i<n->de[j]? =some f-> ∃u,cv[o+(i*de.length+j)]? =some u/\fc u=true/\du (df w base S0 c9) (f i) u:=by
    rcases gR with gR|gR
    ·rcases (r.fg _ _ gR).2 with h|⟨g,C,cv,T,x1,x2,x3,x4,x5⟩
     ·exact .inl h
     ·exact .inr ⟨g,0,C,cv,T,.inr ⟨x1,rfl⟩,x2,by rw [aE,x3];exact af _,x4,fun i j f a b=>by rw [aE];exact x5 i j f a b⟩
    ·exact (r.fg _ _ gR).2
   have hq: ∀l,c9 q=some l->l= .nil\/ ∃g,l.atG g:=fun l e=>by
    rcases pG with ⟨h,_⟩|⟨g,o,C,_,_,h,_⟩
    ·rw [e] at h;cases h;exact .inl rfl
    ·rcases h with h|⟨h,_⟩<;>rw [e] at h<;>cases h
     ·exact .inr ⟨_,.inr ⟨_,_,rfl⟩⟩
     ·exact .inr ⟨_,.inl ⟨_,rfl⟩⟩
   have mv:=r.P8 (q:=q) (o:= .ph (len - l.toNat) (de.map fun c i=>c (i+l.toNat))) fS hq (D:=Im c9 q) (fun g hg=>DW hg)
   rcases mS with ⟨rfl,_,rfl,Sv⟩|⟨g,o,C,rfl,hC,Sv⟩|⟨hx,_⟩
   rotate_left 2
   ·omega
   ·have ef:=kW (P:=P) (w:=w) (c:=0) (A:=none) (wH:=wH) (Gt:=none) (h:=((0:Nat):Int)) hu fq bl (.inl ⟨rfl,rfl⟩) h0 h1 (cO _) (af _)
    have e1:l.toNat=0:=by omega
    refine ⟨_,w,ef,_,_,mv .nil w (.inl rfl) (af _) rfl rfl rfl (fun _=>af _) (fun _ _ _=>rfl) (fun _=> .inl ⟨rfl,by omega⟩),.row (.inr rfl) ⟨none,0,?_,fun _=>by omega⟩ (fun _=>⟨?_,rfl,by omega⟩) (fun g C h=>by simp at h) (fun g o C h=>by simp at h),fun _ h=>h⟩
    ·simp [sliced,e1]
    ·simp [sliced,e1]
   ·rcases pG with ⟨h4,_⟩|⟨g',o',C',cv,T,h4,hh,xv,Ua,hrel⟩
    ·rcases Sv with h3|⟨h3,_⟩<;>rw [h3] at h4<;>cases h4
    ·have hqq:g'=g/\o'=o/\C'=C/\Im c9 q=some g:=by
      rcases Sv with h3|⟨h3,rfl⟩<;>rcases h4 with h4|⟨h4,rfl⟩<;>rw [h3] at h4<;>cases h4<;>exact ⟨rfl,rfl,rfl,by simp only [Im,h3]⟩
     obtain ⟨rfl,rfl,rfl,hbe⟩:=hqq
     have ef:=kW (P:=P) (w:=w) (c:=C' - 0) (A:=some ⟨g',o'+0*s,none⟩) (wH:=wH) (Gt:=none) (h:=((len:Nat):Int)) hu fq bl (.inl ⟨rfl,rfl⟩) h0 h1 (cO _) (by omega)
     simp only [Nat.zero_mul,bU,bM,Int.toNat_natCast] at ef
     simp only [Nat.zero_mul,bU,bM]
     have hlC:l.toNat<=C':=by omega
     by_cases tH:C'=l.toNat
     ·have hlen:len - l.toNat=0:=by omega
      refine ⟨_,w,ef,_,_,mv (.sub g' o' 0) w (.inr ⟨g',.inr ⟨_,_,rfl⟩,.inl hbe⟩) (af _) rfl rfl rfl (fun _=>af _) (fun _ _ _=>rfl) (fun mono=> .inr ⟨g',o',0,cv,T,.inl rfl,hh,by omega,by omega,fun i j f hi=>by omega⟩),.row (.inr rfl) ⟨_,_,rfl,fun h=>by split at h<;>cases h⟩ (fun h=>by simp at h) (fun g C h=>by simp at h) (fun g o C h=> ?_),fun _ h=>h⟩
      simp only [bn,aa,Loc.sub.injEq] at h
      obtain ⟨rfl,rfl,rfl⟩:=h
      left
      simp only [sliced,ah tH]
      refine ⟨?_,by omega⟩
      simp [tH]
     ·refine ⟨_,w,ef,_,_,mv (.sub g' (o'+l.toNat*s) (C' - l.toNat)) w (.inr ⟨g',.inr ⟨_,_,rfl⟩,.inl hbe⟩) (af _) rfl rfl rfl (fun _=>af _) (fun _ _ _=>rfl) (fun mono=> .inr ⟨g',_,_,cv,T,.inl rfl,hh,?_,by omega,fun i j f hi hj=> ?_⟩),.row (.inr rfl) ⟨_,_,rfl,fun h=>by split at h<;>cases h⟩ (fun h=>by simp at h) (fun g C h=>by simp at h) (fun g o C h=> ?_),fun _ h=>h⟩
      ·simp only [b6,jg]
       rw [jg] at xv
       have:l.toNat*s+(C' - l.toNat)*s=C'*s:=by rw [<-cE];congr 1;omega
       omega
      ·rw [aw] at hj
       cases ot:de[j]? with
       |none=>simp [ot] at hj
       |some f'=>
        simp only [ot,aA,aa] at hj
        subst hj
        obtain ⟨u,hu1,ho,Kd⟩:=hrel (i+l.toNat) j f' (by omega) ot
        refine ⟨u,?_,ho,mono Kd⟩
        rw [<-hu1]
        congr 1
        simp only [b6,jg]
        rw [cE];omega
      ·simp only [bn,aa,Loc.sub.injEq] at h
       obtain ⟨rfl,rfl,rfl⟩:=h
       left
       simp only [sliced,ae tH,aA]
       refine ⟨?_,by omega⟩
       rw [eE]
       simp
 ·subst he;exact dc dg
theorem AT (r:R base w0 S0 σ kn c9 a w) {oc:fE} {id:Nat} (fS: ¬kn id) {t:TypeId} {x:DV} {v:Value} {lo hi:Option DV} {wH Gt:Option Value} {e:eW} (he:oW P oc id σ.obj t x lo hi=e) (dg:dp e.vc)
 (lS:(lo=none/\wH=none)\/ ∃d u,lo=some d/\wH=some u/\Rel (df w base S0 c9) kn c9 d u) (QK:(hi=none/\Gt=none)\/ ∃d u,hi=some d/\Gt=some u/\Rel (df w base S0 c9) kn c9 d u)
 (hv:Rel (df w base S0 c9) kn c9 x v):lV P base w0 S0 σ kn a w id (Instr.sliceAt t v wH Gt none) e:=by
 unfold oW at he
 split at he
 ·unfold vH at he
  split at he
  ·rcases QK with ⟨_,rfl⟩|⟨d,u,h,_⟩
   ·split at he
    ·rename_i el hu
     split at he
     ·rename_i s fq
      split at he
      ·rename_i s' q len
       split at he
       ·rename_i n de gR;exact sZ r fS hu fq (.inl gR) he dg lS hv
       ·rename_i n de gR;exact sZ r fS hu fq (.inr gR) he dg lS hv
       ·subst he;exact dc dg
      ·subst he;exact dc dg
     ·subst he;exact dc dg
    ·subst he;exact dc dg
   ·cases h
  ·subst he;exact dc dg
 ·exact (Ca r he dg lS QK hv).runs r
theorem Hb (σ:St) (e:eW) (id:Nat):(σ.iu e).obj id=match look e.hw id with|some o=>o|none=>σ.obj id:=by
 have go: ∀(l m:List (Nat×Option fK)),look (l++m) id=match look l id with|some v=>some v|none=>look m id:=fun l m=>by
  induction l with
  |nil=>rfl
  |cons p l ih=>
   obtain ⟨k,v⟩:=p
   simp only [bp,look]
   cases Nat.beq k id
   ·exact ih
   ·rfl
 unfold St.iu St.obj
 rw [go]
 cases look e.hw id<;>rfl
theorem lV.Ur {id:Nat} {s:Sem Value} {e:eW} (h:lV P base w0 S0 σ kn a w id s e) (dg:dp (AN e).vc):lV P base w0 S0 σ kn a w id s (AN e):=by
 obtain ⟨v,w',ef,eL,dk,r,hv,hk⟩:=h
 unfold AN at dg ⊢
 cases hl:mP (EY e.hw) e.d with
 |none=>rw [hl] at dg;exact dc dg
 |some p=>
  obtain ⟨d,vc⟩:=p
  rw [hl] at dg
  obtain ⟨_,Hw⟩:=dp.app dg
  have yE:mP (σ.iu e).obj e.d=some (d,vc):=by
   cases hd:e.d with
   |row s' i off len=>
    rw [hd] at hl
    simp only [mP,EY,Hb] at hl ⊢
    cases HA:look e.hw i with
    |none=>simp [HA] at hl
    |some o=>simp only [HA] at hl ⊢;exact hl
   |pB i=>
    rw [hd] at hl
    simp only [mP,EY,Hb] at hl ⊢
    cases HA:look e.hw i with
    |none=>simp [HA] at hl
    |some o=>simp only [HA] at hl ⊢;exact hl
   |_=>rw [hd] at hl;exact hl
  obtain ⟨oq,r2,kN,mV⟩:=r.dV [e.d] (fun d' id v hm=>by rw [au.1 hm];exact zb r yE id v)
  refine ⟨v,w',ef,eL,oq,?_,?_,hk⟩
  ·have e1:σ.iu { d:=d,hw:=Abs.dV [e.d]++e.hw,vc:=e.vc++vc }={ (σ.iu e) with h:=Abs.dV [e.d]++(σ.iu e).h }:=by
    simp only [St.iu,cz]
   rw [e1];exact r2
  ·have k1:=(vl (gJ:=df w' base S0 oq) r (fun ad u ⟨x,y,z,q⟩=>⟨x,fun id l e=>y id l (kN _ _ e),z,q⟩)
    (fun i l g hi lg hg ad u e' hu=>⟨hu,fun kG l' e2 om=>(by
      have e3:=kN _ _ e2
      rw [e'] at om
      have:=r.inj _ _ _ _ _ e3 lg om hg
      rw [this,mV e.d i ay hi] at e2
      cases e2),e'▸oG r lg hg,e'▸sb r lg hg⟩) yE Hw hv).1
   exact ew k1
theorem DH {id:Nat} {s:Sem Value} {oc:fE} {e e':eW} (he:Up oc e=e') (dg:dp e'.vc) (h:dp e.vc->lV P base w0 S0 σ kn a w id s e):lV P base w0 S0 σ kn a w id s e':=by
 unfold Up at he
 split at he
 ·subst he
  refine lV.Ur (h ?_) dg
  unfold AN at dg
  split at dg
  ·exact (dp.app dg).1
  ·exact dc dg
 ·subst he;exact h dg
theorem Du {ob:Heap}: ∀{ds es:List DV} {vc:List Prop},jQ ob ds=some (es,vc)->es.length=ds.length
 |[],es,vc,h=>by
  simp only [jQ,aa,aB] at h
  rw [<-h.1]
 |d::r,es,vc,h=>by
  simp only [jQ] at h
  split at h
  ·rename_i e v1 Mg vcs h1 h2
   simp only [aa,aB] at h
   rw [<-h.1,aL,aL,Du h2]
  ·cases h
theorem Qm (r:R base w0 S0 σ kn c9 a w) {gJ:Rd} (eP: ∀a u,df w base S0 c9 a u->gJ a u) {d d':DV} {vc:List Prop} {cs:List DV} {v:Value}
 (gQ: ∀d id l g,d∈cs->id∈gu d->c9 id=some l->l.has g-> ∀ad u,ad.block=g->BC w ad u->gJ ad u) (h:Ar σ.obj d=some (d',vc,cs)) (dg:dp vc) (hv:Rel (df w base S0 c9) kn c9 d v):du gJ d' v:=by
 unfold Ar at h
 split at h
 ·rename_i vS
  split at h
  ·rename_i es O6 hl
   simp only [aa,aB] at h
   obtain ⟨rfl,rfl,rfl⟩:=h
   cases hv with
   |agg hs hr=>
    rename_i vs
    have hlen:=(Du hl).symm
    have k:=q9 r eP gQ hl dg (vs:=vs.toList) (by simpa using hs) (fun j d v hd hv=>hr j d v hd (by simpa using hv))
    exact .agg (by rw [hs,hlen]) fun j d u hd hu=>k j d u hd (by simpa using hu)
  ·cases h
 ·cases hc:d.closed
  ·simp [hc] at h
  ·simp only [hc,aq,aa,aB] at h
   obtain ⟨rfl,rfl,rfl⟩:=h
   exact (hv.close hc).mono eP (fun _ h=>h) fun _ _ h=>h.elim
theorem vn (r:R base w0 S0 σ kn c9 a w) {gJ:Rd} (eP: ∀a u,df w base S0 c9 a u->gJ a u) {eL:Nat->Prop} {dk:Nat->Option Loc}: ∀{ps es:List (Nat×DV)} {vc:List Prop} {cs:List DV} {vs:List (Nat×Value)},
 (∀d id l g,d∈cs->id∈gu d->c9 id=some l->l.has g-> ∀ad u,ad.block=g->BC w ad u->gJ ad u)->gj σ.obj ps=some (es,vc,cs)->dp vc->o7 (df w base S0 c9) kn c9 ps vs->o7 gJ eL dk es vs
 |[],es,vc,cs,vs,_,h,_,hp=>by
  simp only [gj,aa,aB] at h
  obtain ⟨rfl,rfl,rfl⟩:=h
  cases hp
  exact .nil
 |(i,d)::ps,es,vc,cs,vs,gQ,h,dg,hp=>by
  simp only [gj] at h
  split at h
  ·rename_i e Gu c1 Mg uo ds1 h1 h2
   simp only [aa,aB] at h
   obtain ⟨rfl,rfl,rfl⟩:=h
   obtain ⟨EZ,Hw⟩:=dp.app dg
   cases hp with
   |cons hv hp=>
    exact .cons (ew (Qm r eP (fun d id l g hm=>gQ d id l g (aR _ hm)) h1 EZ hv)) (vn r eP (fun d id l g hm=>gQ d id l g (aW _ hm)) h2 Hw hp)
  ·cases h
theorem vo (r:R base w0 S0 σ kn c9 a w): ∀{ps es:List (Nat×DV)} {vc:List Prop} {cs:List DV},gj σ.obj ps=some (es,vc,cs)-> ∀d id v,d∈cs->id∈gu d->c9 id≠some (.is v)
 |[],es,vc,cs,h,d,id,v,hd,_=>by
  simp only [gj,aa,aB] at h
  obtain ⟨rfl,rfl,rfl⟩:=h
  cases hd
 |(i,d0)::ps,es,vc,cs,h,d,id,v,hd,hi=>by
  simp only [gj] at h
  split at h
  ·rename_i e Gu c1 Mg uo ds1 h1 h2
   simp only [aa,aB] at h
   obtain ⟨rfl,rfl,rfl⟩:=h
   rcases aT.1 hd with hd|hd
   ·unfold Ar at h1
    split at h1
    ·rename_i vS
     split at h1
     ·rename_i hl
      simp only [aa,aB] at h1
      obtain ⟨_,_,rfl⟩:=h1
      exact rh r hl d id v hd hi
     ·cases h1
    ·cases hc:d0.closed
     ·simp [hc] at h1
     ·simp only [hc,aq,aa,aB] at h1
      obtain ⟨_,_,rfl⟩:=h1
      cases hd
   ·exact vo r h2 d id v hd hi
  ·cases h
theorem sJ (r:R base w0 S0 σ kn c9 a w) {id:Nat} (fS: ¬kn id) {oc:fE} {t:TypeId} {len:Nat} {parts:List (Nat×DV)} {gD:Array (Nat×Value)} {e:eW} (he:lh P oc id t len σ.obj parts=e) (dg:dp e.vc)
 (hp:o7 (df w base S0 c9) kn c9 parts gD.toList):lV P base w0 S0 σ kn a w id (Instr.buildSlice t len gD) e:=by
 unfold lh at he
 split at he
 ·cases hl:gj σ.obj parts with
  |none=>rw [hl] at he;subst he;exact dc dg
  |some q=>
   obtain ⟨ps,vc,ds⟩:=q
   rw [hl] at he
   subst he
   obtain ⟨EZ,Hw⟩:=dp.app dg
   obtain ⟨oq,r2,kN,mV⟩:=r.dV ds (vo r hl)
   have hp2:o7 (df w base S0 oq) kn oq ps gD.toList:=vn r (fun ad u ⟨x,y,z,q⟩=>⟨x,fun id l e=>y id l (kN _ _ e),z,q⟩)
    (fun d i l g hm hi lg hg ad u e' hu=>⟨hu,fun kG l' e2 om=>(by
      have e3:=kN _ _ e2
      rw [e'] at om
      have:=r.inj _ _ _ _ _ e3 lg om hg
      rw [this,mV d i hm hi] at e2
      cases e2),e'▸oG r lg hg,e'▸sb r lg hg⟩) hl EZ hp
   obtain ⟨v,w',ef,eL,dk,r3,hv,hk⟩:=mX (gD:=gD) r2 fS rfl Hw hp2
   refine ⟨v,w',ef,eL,dk,?_,hv,hk⟩
   have e1:σ.iu (Ac P id t len (some (ps,vc,ds)))=St.iu { σ with h:=Abs.dV ds++σ.h } (iP P id t len ps):=by
    simp only [St.iu,Ac,cz]
   rw [e1];exact r3
 ·exact DH he dg fun dg=>mX (gD:=gD) r fS rfl dg hp
theorem pK (r:R base w0 S0 σ kn c9 a w) {id:Nat} (fS: ¬kn id) {oc:fE} {o:Oper} {e:eW} {x:Operand->DV} (he:tR P oc id o x σ.obj=e) (sT:S0.wb=none\/((∀t rs,o.op≠ .makeMap t rs)/\ ∀c y,o.op= .call c->c.callee= .value y->e.d.plain=true)) (dg:dp e.vc)
 (hx: ∀y∈o.op.operands.toList,Rel (df w base S0 c9) kn c9 (x y) (a.eval y)) {K:Act->World->Prop} {Q:Exit->Act->World->Prop}
 (eS:kQ σ.nt σ.lo o.dst=true) (hK: ∀a' w',wE base w0 S0 (σ.ui o.dst e) kn id a' w'->K a' w'):o.wpIn (FW ro) m P a w K Q:=by
 unfold tR at he
 cases ho:o.op with
 |move y=>
  simp only [ho] at he hx;subst he
  exact zu (fun c h=>by rw [ho] at h;cases h) r rfl (by unfold execOp;rw [ho]) (hx y (by simp [Op.operands])) eS hK
 |assign y=>
  simp only [ho] at he hx;subst he
  exact zu (fun c h=>by rw [ho] at h;cases h) r rfl (by unfold execOp;rw [ho]) (hx y (by simp [Op.operands])) eS hK
 |alloc t=>
  simp only [ho] at he
  exact eI (fun c h=>by rw [ho] at h;cases h) (by unfold execOp;rw [ho]) (Cm r fS he dg) eS hK
 |box t y=>
  simp only [ho] at he hx
  exact eI (fun c h=>by rw [ho] at h;cases h) (by unfold execOp;rw [ho]) (HU r fS he dg (hx y (by simp [Op.operands]))) eS hK
 |build t parts=>
  simp only [ho] at he hx
  have hp:o7 (df w base S0 c9) kn c9 (parts.toList.map fun p=>(p.1,x p.2)) (parts.map fun p=>(p.1,a.eval p.2)).toList:=by
   rw [Array.toList_map]
   exact Ab parts.toList fun p hp=>hx p.2 (by simp only [Op.operands];exact cy hp)
  have hex:execOp a.eval o=(do pure (.value (<-Instr.build t (parts.map fun p=>(p.1,a.eval p.2))))):=by unfold execOp;rw [ho]
  generalize parts.map (fun p=>(p.1,a.eval p.2))=vp at hp hex
  have hs:=Cl (gD:=vp) he dg hp
  exact eI (fun c h=>by rw [ho] at h;cases h) hex (hs.runs r) eS hK
 |buildSlice t len parts=>
  simp only [ho] at he hx
  have hp:o7 (df w base S0 c9) kn c9 (parts.toList.map fun p=>(p.1,x p.2)) (parts.map fun p=>(p.1,a.eval p.2)).toList:=by
   rw [Array.toList_map]
   exact Ab parts.toList fun p hp=>hx p.2 (by simp only [Op.operands];exact cy hp)
  have hex:execOp a.eval o=(do pure (.value (<-Instr.buildSlice t len (parts.map fun p=>(p.1,a.eval p.2))))):=by unfold execOp;rw [ho]
  generalize parts.map (fun p=>(p.1,a.eval p.2))=vp at hp hex
  have hs:=sJ (gD:=vp) r fS he dg hp
  exact eI (fun c h=>by rw [ho] at h;cases h) hex hs eS hK
 |makeSlice t y z=>
  simp only [ho] at he hx
  exact eI (fun c h=>by rw [ho] at h;cases h) (by unfold execOp;rw [ho]) (tS r fS he dg (hx y (by simp [Op.operands])) (hx z (by simp [Op.operands]))) eS hK
 |slice t y lo hi mx=>
  simp only [ho] at he hx
  cases mx with
  |some m=>subst he;exact dc dg
  |none=>
   have bd: ∀z:Option Operand,(∀y',z=some y'->y'∈(Op.slice t y lo hi none).operands.toList)->((z.map x=none/\z.map a.eval=none)\/ ∃d u,z.map x=some d/\z.map a.eval=some u/\Rel (df w base S0 c9) kn c9 d u):=fun z hz=>by
    cases z with
    |none=>exact .inl ⟨rfl,rfl⟩
    |some y'=>exact .inr ⟨_,_,rfl,rfl,hx y' (hz y' rfl)⟩
   exact eI (fun c h=>by rw [ho] at h;cases h) (by unfold execOp;rw [ho];rfl) (AT r fS he dg (bd lo fun y' e=>by subst e;simp [Op.operands]) (bd hi fun y' e=>by subst e;simp [Op.operands]) (hx y (by simp [Op.operands]))) eS hK
 |load t y=>
  simp only [ho] at he hx
  exact eI (fun c h=>by rw [ho] at h;cases h) (by unfold execOp;rw [ho]) (Cd r fS he dg (hx y (by simp [Op.operands]))) eS hK
 |store t p y=>
  simp only [ho] at he hx
  obtain ⟨hd,w',dk,ef,hR⟩:=AR r he dg (hx p (by simp [Op.operands])) (hx y (by simp [Op.operands]))
  unfold Oper.wpIn
  refine ⟨fun _ _=>trivial,?_⟩
  rw [Oper.semAt_eq _ _ _ (fun c h=>by rw [ho] at h;cases h)]
  unfold execOp
  rw [ho]
  simp only [Sem.run_bind,ef,Result.andThen_ok,Sem.run_pure]
  exact hK _ _ ⟨kn,dk,R.nH hR eS (by rw [hd];exact .any _),fun _ h=> .inl h⟩
 |makeMap t rs=>
  simp only [ho] at he hx
  cases rs with
  |some y=>subst he;exact dc dg
  |none=>exact eI (fun c h=>by rw [ho] at h;cases h) (by unfold execOp;rw [ho];rfl) (yH r (sT.resolve_right fun h=>h.1 t none ho) fS he dg) eS hK
 |lookup t y i ok=>
  simp only [ho] at he hx
  exact eI (fun c h=>by rw [ho] at h;cases h) (by unfold execOp;rw [ho]) (AV r fS he dg (hx y (by simp [Op.operands])) (hx i (by simp [Op.operands]))) eS hK
 |mapUpdate t p k y=>
  simp only [ho] at he hx
  obtain ⟨hd,w',dk,ef,hR⟩:=vI r he dg (hx p (by simp [Op.operands])) (hx k (by simp [Op.operands])) (hx y (by simp [Op.operands]))
  unfold Oper.wpIn
  refine ⟨fun _ _=>trivial,?_⟩
  rw [Oper.semAt_eq _ _ _ (fun c h=>by rw [ho] at h;cases h)]
  unfold execOp
  rw [ho]
  simp only [Sem.run_bind,ef,Result.andThen_ok,Sem.run_pure]
  exact hK _ _ ⟨kn,dk,R.nH hR eS (by rw [hd];exact .any _),fun _ h=> .inl h⟩
 |mapEntry t p k=>
  simp only [ho] at he hx
  exact eI (fun c h=>by rw [ho] at h;cases h) (by unfold execOp;rw [ho]) (xF r fS he dg (hx p (by simp [Op.operands])) (hx k (by simp [Op.operands]))) eS hK
 |entryStore t p s y=>
  simp only [ho] at he hx
  obtain ⟨hd,w',dk,ef,hR⟩:=tU (P:=P) (t:=t) r he dg (hx p (by simp [Op.operands])) (hx s (by simp [Op.operands])) (hx y (by simp [Op.operands]))
  unfold Oper.wpIn
  refine ⟨fun _ _=>trivial,?_⟩
  rw [Oper.semAt_eq _ _ _ (fun c h=>by rw [ho] at h;cases h)]
  unfold execOp
  rw [ho]
  simp only [Sem.run_bind,ef,Result.andThen_ok,Sem.run_pure]
  exact hK _ _ ⟨kn,dk,R.nH hR eS (by rw [hd];exact .any _),fun _ h=> .inl h⟩
 |nilCheck y=>
  simp only [ho] at he hx
  have hy:=hx y (by simp [Op.operands])
  have go:e.hw=[]->e.d=x y->VA (x y)->o.wpIn (FW ro) m P a w K Q:=by
   intro h1 h2 h3
   refine zu (fun c h=>by rw [ho] at h;cases h) r h1 (v:=a.eval y) ?_ (by rw [h2];exact hy) eS hK
   unfold execOp
   rw [ho]
   rcases HO hy h3 with ⟨ad,h⟩|⟨f,fs,cs,h⟩
   ·simp only [h]
   ·simp only [h]
  split at he
  ·rename_i h;subst he;exact go rfl h.symm (by rw [h];trivial)
  ·rename_i h;subst he;exact go rfl h.symm (by rw [h];trivial)
  ·rename_i h;subst he;exact go rfl h.symm (by rw [h];trivial)
  ·rename_i h;subst he;exact go rfl h.symm (by rw [h];trivial)
  ·rename_i h;subst he;exact go rfl h.symm (by rw [h];trivial)
  ·rename_i h;subst he;exact go rfl h.symm (by rw [h];trivial)
  ·subst he;exact dc dg
 |binOp op t y z ty=>
  simp only [ho] at he hx
  have hy:=hx y (by simp [Op.operands])
  have hz:=hx z (by simp [Op.operands])
  have hex:execOp a.eval o=(do pure (.value (<-(do eqGuard op t y z (a.eval y) (a.eval z);binOp op t (a.eval y) (a.eval z))))):=by unfold execOp;rw [ho]
  split at he
  ·rename_i h1 h2
   rw [h1] at hy
   rw [h2] at hz
   exact eI (fun c h=>by rw [ho] at h;cases h) hex ((AX (neg:=false) rfl he dg hy hz).runs r) eS hK
  ·rename_i h1 h2
   rw [h1] at hy
   rw [h2] at hz
   exact eI (fun c h=>by rw [ho] at h;cases h) hex ((AX (neg:=true) rfl he dg hy hz).runs r) eS hK
  ·rename_i h1 h2
   rw [h1] at hy
   rw [h2] at hz
   have hzv:a.eval z= .nilIface:=by
    generalize a.eval z=q at hz
    cases hz;rfl
   rw [hzv] at hex
   exact eI (fun c h=>by rw [ho] at h;cases h) hex ((HS he dg hy).runs r) eS hK
  ·split at he
   ·exact eI (fun c h=>by rw [ho] at h;cases h) hex ((HT he dg hy hz).runs r) eS hK
   ·exact eI (fun c h=>by rw [ho] at h;cases h) hex ((HV he dg hy hz).runs r) eS hK
 |unOp op t y=>
  simp only [ho] at he hx
  exact eI (fun c h=>by rw [ho] at h;cases h) (by unfold execOp;rw [ho]) ((Kt he dg (hx y (by simp [Op.operands]))).runs r) eS hK
 |convert src dst y=>
  simp only [ho] at he hx
  exact eI (fun c h=>by rw [ho] at h;cases h) (by unfold execOp;rw [ho]) ((Ch r he dg (hx y (by simp [Op.operands]))).runs r) eS hK
 |fieldAddr s y f=>
  simp only [ho] at he hx
  exact eI (fun c h=>by rw [ho] at h;cases h) (by unfold execOp;rw [ho]) ((vN he dg (hx y (by simp [Op.operands]))).runs r) eS hK
 |field s y f=>
  simp only [ho] at he hx
  exact eI (fun c h=>by rw [ho] at h;cases h) (by unfold execOp;rw [ho]) ((Cg he dg (hx y (by simp [Op.operands]))).runs r) eS hK
 |indexAddr t y i=>
  simp only [ho] at he hx
  exact eI (fun c h=>by rw [ho] at h;cases h) (by unfold execOp;rw [ho]) ((vM r he dg (hx y (by simp [Op.operands])) (hx i (by simp [Op.operands]))).runs r) eS hK
 |index t y i=>
  simp only [ho] at he hx
  exact eI (fun c h=>by rw [ho] at h;cases h) (by unfold execOp;rw [ho]) ((Cf he dg (hx y (by simp [Op.operands])) (hx i (by simp [Op.operands]))).runs r) eS hK
 |extract y i=>
  simp only [ho] at he hx
  exact eI (fun c h=>by rw [ho] at h;cases h) (by unfold execOp;rw [ho]) ((yL he dg (hx y (by simp [Op.operands]))).runs r) eS hK
 |makeFunc fn first cap=>
  cases fn with
  |func f=>
   simp only [ho] at he hx
   split at he
   ·rename_i hf
    subst he
    have Y0:first= #[]:=cD (by simpa using hf)
    subst Y0
    refine eI (fun c h=>by rw [ho] at h;cases h) (s:=Instr.makeFunc (.func f) (#[].map a.eval) (cap.map a.eval)) (by unfold execOp;rw [ho]) (Still.runs r ⟨rfl,.func (.func f) #[] (cap.map a.eval),by simp [Instr.makeFunc],.jL (by simp) fun j d u hd hu=> ?_⟩) eS hK
    ·rw [aw] at hd
     rw [Array.getElem?_map] at hu
     cases hc:cap[j]? with
     |none=>simp [hc] at hu
     |some y=>
      have QT:cap.toList[j]? =some y:=by simpa using hc
      simp only [QT,aA,aa] at hd
      simp only [hc,aA,aa] at hu
      subst hd hu
      exact hx y (by simp only [Op.operands];simp;exact b9 hc)
   ·split at he
    ·rename_i hf
     subst he
     have hcap:cap= #[]:=cD (by simpa using hf)
     subst hcap
     refine eI (fun c h=>by rw [ho] at h;cases h) (s:=Instr.makeFunc (.func f) (first.map a.eval) (#[].map a.eval)) (by unfold execOp;rw [ho]) (Still.runs r ⟨rfl,.func (.func f) (first.map a.eval) #[],by simp [Instr.makeFunc],.nZ (by simp) fun j d u hd hu=> ?_⟩) eS hK
     rw [aw] at hd
     rw [Array.getElem?_map] at hu
     cases hc:first[j]? with
     |none=>simp [hc] at hu
     |some y=>
      have QT:first.toList[j]? =some y:=by simpa using hc
      simp only [QT,aA,aa] at hd
      simp only [hc,aA,aa] at hu
      subst hd hu
      exact hx y (by simp only [Op.operands];simp;exact b9 hc)
    ·subst he;exact dc dg
  |_=>simp only [ho] at he;subst he;exact dc dg
 |call c=>
  simp only [ho] at he hx
  have iK: ∀y∈c.args.toList,Rel (df w base S0 c9) kn c9 (x y) (a.eval y):=fun y hy=>hx y (by simp only [Op.operands,Call.operands];simp;exact .inr (by simpa using hy))
  split at he
  ·-- len
   rename_i lU
   split at he
   ·rename_i y t h1 h2
    have e1:c.args= #[y]:=cD (by simpa using h1)
    have e2:c.argTypes= #[t]:=cD (by simpa using h2)
    refine eI (fun c h=>by rw [ho] at h;cases h) (s:=Builtin.len_ #[t] o.type #[a.eval y]) ?_ ((HP r he dg (iK y (by rw [h1];exact ay))).runs r) eS hK
    unfold execOp
    rw [ho]
    simp [resolve,lU,invoke,builtin,e1,e2]
   ·subst he;exact dc dg
  ·-- append
   rename_i lU
   split at he
   ·rename_i y z t t' h1 h2
    cases hb:Nat.beq t t'
    ·simp only [hb,ax] at he;subst he;exact dc dg
    ·simp only [hb,aq] at he
     obtain rfl:=ag hb
     have e1:c.args= #[y,z]:=cD (by simpa using h1)
     have e2:c.argTypes= #[t,t]:=cD (by simpa using h2)
     refine eI (fun c h=>by rw [ho] at h;cases h) (s:=Builtin.append_ #[t,t] o.type #[a.eval y,a.eval z]) ?_ (DH he dg fun dg=>A2 r fS rfl dg (iK y (by rw [h1];exact ay)) (iK z (by rw [h1];exact az _ ay))) eS hK
     unfold execOp
     rw [ho]
     simp [resolve,lU,invoke,builtin,e1,e2]
   ·subst he;exact dc dg
  ·-- delete
   rename_i lU
   split at he
   ·rename_i y z t ts h1 h2
    have e1:c.args= #[y,z]:=cD (by simpa using h1)
    have e2:c.argTypes[0]? =some t:=by
     have:c.argTypes.toList[0]? =some t:=by rw [h2];rfl
     simpa using this
    obtain ⟨w',v,ef,hR,hrel⟩:=AY (ty:=o.type) r he dg (iK y (by rw [h1];exact ay)) (iK z (by rw [h1];exact az _ ay)) e2
    refine eI (fun c h=>by rw [ho] at h;cases h) (s:=Builtin.delete_ c.argTypes o.type #[a.eval y,a.eval z]) ?_ ⟨v,w',ef,kn,c9,hR,hrel,fun _ h=> .inl h⟩ eS hK
    unfold execOp
    rw [ho]
    simp [resolve,lU,invoke,builtin,e1]
   ·subst he;exact dc dg
  ·-- clear
   rename_i lU
   split at he
   ·rename_i y t ts h1 h2
    have e1:c.args= #[y]:=cD (by simpa using h1)
    have e2:c.argTypes[0]? =some t:=by
     have:c.argTypes.toList[0]? =some t:=by rw [h2];rfl
     simpa using this
    obtain ⟨w',v,ef,hR,hrel⟩:=Cj (ty:=o.type) r he dg (iK y (by rw [h1];exact ay)) e2
    refine eI (fun c h=>by rw [ho] at h;cases h) (s:=Builtin.clear_ c.argTypes o.type #[a.eval y]) ?_ ⟨v,w',ef,kn,c9,hR,hrel,fun _ h=> .inl h⟩ eS hK
    unfold execOp
    rw [ho]
    simp [resolve,lU,invoke,builtin,e1]
   ·subst he;exact dc dg
  ·-- min
   rename_i lU
   split at he
   ·rename_i n l h1
    subst he
    have hl:=pE h1
    have QA:(c.args.map a.eval).toList=(n::l).map fun n=>Value.int .i64 n:=by
     rw [Array.toList_map]
     apply List.ext_getElem?
     intro j
     rw [aw,aw]
     have hj:(c.args.toList.map x)[j]? =((n::l).map fun n=>DV.val (.int .i64 n))[j]? :=by rw [hl]
     rw [aw,aw] at hj
     cases hc:c.args.toList[j]? with
     |none=>
      rw [hc] at hj
      cases hn:(n::l)[j]? with
      |none=>simp
      |some q=>rw [hn] at hj;simp at hj
     |some y=>
      rw [hc] at hj
      cases hn:(n::l)[j]? with
      |none=>rw [hn] at hj;simp at hj
      |some q=>
       rw [hn] at hj
       simp only [aA,aa] at hj
       have:=iK y (aG hc)
       rw [hj] at this
       simp [this.lO]
    refine eI (fun c h=>by rw [ho] at h;cases h) (s:=Builtin.min_ c.argTypes o.type (c.args.map a.eval)) ?_ (Still.runs r ⟨rfl,.int .i64 (iM n l),?_,.val _⟩) eS hK
    ·unfold execOp
     rw [ho]
     simp [resolve,lU,invoke,builtin]
    ·simp only [Builtin.min_,QA,bO]
     exact GO l n
   ·subst he;exact dc dg
  ·-- max
   rename_i lU
   split at he
   ·rename_i n l h1
    subst he
    have hl:=pE h1
    have QA:(c.args.map a.eval).toList=(n::l).map fun n=>Value.int .i64 n:=by
     rw [Array.toList_map]
     apply List.ext_getElem?
     intro j
     rw [aw,aw]
     have hj:(c.args.toList.map x)[j]? =((n::l).map fun n=>DV.val (.int .i64 n))[j]? :=by rw [hl]
     rw [aw,aw] at hj
     cases hc:c.args.toList[j]? with
     |none=>
      rw [hc] at hj
      cases hn:(n::l)[j]? with
      |none=>simp
      |some q=>rw [hn] at hj;simp at hj
     |some y=>
      rw [hc] at hj
      cases hn:(n::l)[j]? with
      |none=>rw [hn] at hj;simp at hj
      |some q=>
       rw [hn] at hj
       simp only [aA,aa] at hj
       have:=iK y (aG hc)
       rw [hj] at this
       simp [this.lO]
    refine eI (fun c h=>by rw [ho] at h;cases h) (s:=Builtin.max_ c.argTypes o.type (c.args.map a.eval)) ?_ (Still.runs r ⟨rfl,.int .i64 (hP n l),?_,.val _⟩) eS hK
    ·unfold execOp
     rw [ho]
     simp [resolve,lU,invoke,builtin]
    ·simp only [Builtin.max_,QA,bO]
     exact GP l n
   ·subst he;exact dc dg
  ·-- a function value
   rename_i y lU
   have hwbc:S0.wb=none\/e.d.plain=true:=sT.imp (fun h=>h) fun h=>h.2 c y ho lU
   have hy:=hx y (by simp only [Op.operands,Call.operands,lU];simp)
   have args: ∀(j:Nat) (d:DV) (v:Value),(c.args.toList.map x)[j]? =some d->(c.args.toList.map a.eval)[j]? =some v->Rel (df w base S0 c9) kn c9 d v:=by
    intro j d v hd hv
    rw [aw] at hd hv
    cases hc:c.args.toList[j]? with
    |none=>simp [hc] at hd
    |some z=>
     simp only [hc,aA,aa] at hd hv
     subst hd hv
     exact iK z (aG hc)
   split at he
   ·rename_i f first cap Nh
    split at he
    ·rename_i Nq hf2
     have e1:first= #[]:=cD (by simpa using Nq)
     have e2:cap= #[]:=cD (by simpa using hf2)
     subst e1 e2
     rw [Nh] at hy
     have hyv:=hy.lO
     have hs:=vO (vs:=c.args.toList.map a.eval) r fS he hwbc dg (by simp) args
     refine K8 (fun c h=>by rw [ho] at h;cases h) (f:=f) (vs:=(c.args.toList.map a.eval).toArray) ?_ hs eS hK
     unfold execOp
     rw [ho]
     simp [resolve,lU,hyv,Deferred.ofValue,invoke,mm hs.1]
     exact cD (by simp)
    ·subst he;exact dc dg
   ·rename_i f cap Nh
    rw [Nh] at hy
    generalize hyv:a.eval y=vy at hy
    cases hy with
    |jL fq hr=>
     rename_i vs
     cases hfl:jr cap with
     |false=>simp only [hfl,ax] at he;subst he;exact dc dg
     |true=>
     simp only [hfl,aq] at he
     have hs:=vO (vs:=c.args.toList.map a.eval++vs.toList) r fS he hwbc dg (by simp [fq]) (fun j d v hd hv=>by
      by_cases hj:j<c.args.toList.length
      ·rw [aM (by simpa using hj)] at hd hv
       exact args j d v hd hv
      ·rw [a7 (by simpa using hj)] at hd hv
       simp only [b6] at hd hv
       exact hr _ d v hd (by simpa using hv))
     have hex:(execOp a.eval o).run P w= .ok (.enter f (c.args.toList.map a.eval++vs.toList).toArray) w:=by
      unfold execOp
      rw [ho]
      simp [resolve,lU,hyv,Deferred.ofValue,invoke,mm hs.1]
     exact K8 (fun c h=>by rw [ho] at h;cases h) (base:=base) (w0:=w0) (S0:=S0) (σ:=σ) (kn:=kn) (id:=id) (e:=e) hex hs eS hK
   ·subst he;exact dc dg
  ·subst he;exact dc dg
 |_=>simp only [ho] at he;subst he;exact dc dg
theorem yq (r:R base w0 S0 σ kn c9 a w) {id:Nat} (fS: ¬kn id) {oc:fE} {o:Oper} {e:eW} {x:Operand->DV} (he:rB P oc id o x σ.obj σ.rn=e) (dg:dp e.vc)
 (hx: ∀y∈o.op.operands.toList,Rel (df w base S0 c9) kn c9 (x y) (a.eval y)) {K:Act->World->Prop} {Q:Exit->Act->World->Prop}
 (eS:kQ σ.nt σ.lo o.dst=true) (hK: ∀a' w',wE base w0 S0 (σ.ui o.dst e) kn id a' w'->K a' w'):o.wpIn (FW ro) m P a w K Q:=by
 cases L3:σ.rn with
 |false=>
  have sT:S0.wb=none:=Decidable.byContradiction fun h=>by
   have:=r.LB h
   rw [L3] at this;cases this
  rw [L3] at he
  exact pK r fS he (.inl sT) dg hx eS hK
 |true=>
  rw [L3] at he
  unfold rB at he
  split at he
  ·rename_i h;cases h
  ·split at he
   ·subst he;exact dc dg
   ·rename_i c hc
    split at he
    ·rename_i y hy
     split at he
     rename_i d hw vc Su
     cases hp:d.plain
     ·simp only [hp,ax] at he;subst he;exact dg.hd.elim
     ·simp only [hp,aq] at he
      subst he
      exact pK r fS Su (.inr ⟨(fun t rs h=>by rw [hc] at h;cases h),fun _ _ _ _=>hp⟩) dg hx eS hK
    ·rename_i hny
     exact pK r fS he (.inr ⟨fun t rs h=>(by rw [hc] at h;cases h),fun c' y h1 h2=>by rw [hc] at h1;cases h1;exact absurd h2 (hny y)⟩) dg hx eS hK
   ·rename_i hnm hnc
    exact pK r fS he (.inr ⟨fun t rs h=>hnm t rs h,fun c y h1 _=>absurd h1 (hnc c)⟩) dg hx eS hK
end
end Go.Abs
end
