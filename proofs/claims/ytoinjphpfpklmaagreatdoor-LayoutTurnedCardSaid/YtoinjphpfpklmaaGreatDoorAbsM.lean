/- Contracts and what they stand on. -/
import Derived.Test.YtoinjphpfpklmaaGreatDoorAbsLG
import Derived.CallsIn
import Derived.Deep.Slices
import Derived.Laws.Slices
import Derived.Laws.Strings2
import Derived.Deep.OwnRows
import Derived.OrdersIn
set_option linter.unusedVariables false
set_option linter.unusedSimpArgs false
section
namespace Go.Abs
open Go.RowKit
theorem yG {off len:Nat}: ∀{dp:List (Nat->DV)} {z:List DV},z.length=dp.length->(lK off len dp z).length=dp.length
 |[],[],_=>rfl
 |c::r,d::q,h=>by simp only [lK,aH];rw [yG (by simpa using h)]
 |[],_::_,h=>by simp at h
 |_::_,[],h=>by simp at h
theorem sf {off len:Nat}: ∀{dp:List (Nat->DV)} {z:List DV} {j:Nat} {f:Nat->DV},(lK off len dp z)[j]? =some f-> ∃c d,dp[j]? =some c/\z[j]? =some d/\f=fun i=>th (decide (off<=i/\i<off+len)) d (c i)
 |[],z,j,f,h=>by cases z<;>simp [lK] at h
 |c::r,[],j,f,h=>by simp [lK] at h
 |c::r,d::q,j,f,h=>by
  simp only [lK] at h
  cases j with
  |zero=>
   simp only [aL,aa] at h
   exact ⟨c,d,rfl,rfl,h.symm⟩
  |succ j=>
   obtain ⟨c',d',h1,h2,h3⟩:=sf (dp:=r) (z:=q) (j:=j) (f:=f) (by simpa using h)
   exact ⟨c',d',by simpa using h1,by simpa using h2,h3⟩
theorem B6 (zc:Array Value) (n i j:Nat) (hi:i<n) (hj:j<zc.size):(Builtin.zeroCells zc n).toList[i*zc.size+j]? =some zc[j]:=by
 have dR:i*zc.size+j<n*zc.size:=by
  have:i*zc.size+zc.size<=n*zc.size:=by rw [<-bY];exact aK _ hi
  omega
 have hm:(i*zc.size+j)%zc.size=j:=by
  rw [Nat.add_comm,Nat.add_mul_mod_self_right];exact Nat.mod_eq_of_lt hj
 rw [bo]
 unfold Builtin.zeroCells
 rw [Array.getElem?_map,Array.getElem?_range,ag dR,aA,hm]
 simp [hj]
section
variable {P:Program} {base:Nat} {w0 w:World} {S0:Env} {σ:St} {kn:Nat->Prop} {di:Nat->Option Loc} {a:Act}
theorem CF (r:R base w0 S0 σ kn di a w) {t ty:TypeId} {x:DV} {vx:Value} {e:fg} (he:sP P σ.obj t x=e) (dr:dw e.vc)
 (hx:Rel (dq w base S0 di) kn di x vx) {ts:Array TypeId} (Za:ts[0]? =some t):
 ∃w' v,(Builtin.clear_ ts ty #[vx]).run P w= .ok v w'/\R base w0 S0 (σ.fX e) kn di a w'/\Rel (dq w' base S0 di) kn di e.d v:=by
 unfold sP at he
 split at he
 ·rename_i s id off len
  split at he
  ·rename_i el hu
   split at he
   ·rename_i s' z n dp eW hz fE
    cases hb:(Nat.beq s s'&&(Nat.beq dp.length s&&(Nat.beq z.length s&&(Nat.ble 1 s&&DV.closed.go z))))
    ·simp only [hb,ar] at he;subst he;exact dn dr
    ·simp only [hb,ao] at he
     subst he
     simp only [an] at hb
     obtain ⟨pw,gJ,Jt,hb4,iH⟩:=hb
     have pw:=af pw
     have gJ:=af gJ
     have Jt:=af Jt
     have hb4:=aC hb4
     subst pw
     have hle:off+len<=n:=dr.one
     obtain ⟨zv,hzr,NN,hzrel,Wb⟩:=yg hz
     have Mr:(lK off len dp z).length=s:=by rw [yG (by omega),gJ]
     have rS:je σ.obj id s=true:=by unfold je;rw [fE];show Nat.beq dp.length s=true;rw [gJ];exact Nat.beq_refl s
     obtain ⟨hk,lU⟩:=r.eC _ _ fE
     -- where nothing is cleared
     have still:len=0-> ∀{l},di id=some l->R base w0 S0 (σ.setObj id (some (.row n (lK off len dp z)))) kn di a w:=fun h0 l hl=>by
      subst h0
      refine r.zT hl rfl rfl rfl rfl (fun _ _=>rfl) fun _ _=> ?_
      rw [<-hl]
      rcases lU with ⟨h1,h2⟩|⟨g,C,cv,T,h1,h2,h3,h4,h5⟩
      ·exact .inl ⟨h1,h2⟩
      ·refine .inr ⟨g,C,cv,T,h1,h2,by rw [Mr,<-gJ];exact h3,h4,fun i j f hi hf=> ?_⟩
       obtain ⟨c,d,e1,e2,rfl⟩:=sf hf
       obtain ⟨u,qV,ho,hr⟩:=h5 i j c hi e1
       exact ⟨u,by rw [Mr,<-gJ];exact qV,ho,eJ ⟨fun h=>by simp at h;omega,fun _=>hr⟩⟩
     obtain ⟨_,⟨rfl,rfl,rfl,hl⟩|⟨g,C,rfl,hC,hl⟩|⟨h0,rfl,p,c,rfl⟩⟩:=kJ r rS hx
     ·exact ⟨w,.tuple #[],by simp [Builtin.clear_,Za,run_underlying hu],still rfl hl,.val _⟩
     ·cases len with
      |zero=>exact ⟨w,.tuple #[],by simp [Builtin.clear_,Za,run_underlying hu],still rfl hl,.val _⟩
      |succ m=>
       rcases lU with ⟨lk,hn0⟩|⟨g',C',cv,T,lG,hh,uF,NT,fe⟩
       ·omega
       ·rw [hl] at lG
        cases lG
        rw [gJ] at uF
        have Wc:(Builtin.zeroCells zv.cells (m+1)).toList.length=(m+1)*s:=by rw [bF,size_zeroCells,NN,Jt]
        have kq:off*s+(m+1)*s<=cv.size:=by
         rw [uF,<-cd];exact aK _ (by omega)
        have jh: ∀u∈(Builtin.zeroCells zv.cells (m+1)).toList,eL u=true:=fun u qV=>by
         have Rb:0<zv.cells.size:=by omega
         simp only [Builtin.zeroCells,Array.toList_map,bf,bw,Array.mem_range] at qV
         obtain ⟨k,_,rfl⟩:=qV
         have kE:k%zv.cells.size<zv.cells.size:=Nat.mod_lt _ Rb
         rw [getElem!_pos zv.cells _ kE]
         exact Wb _ (bw.2 (Array.getElem_mem kE))
        have mh:=run_storeCells_at (P:=P) g (off*s) T (Builtin.zeroCells zv.cells (m+1)).toList 0 cv w hh (by omega) (fun u qV=>by rw [<-zm];exact jh u qV)
        simp only [bV,cA] at mh
        rw [Wc] at mh
        refine ⟨w.setRow g (cv.toList.take (off*s)++((Builtin.zeroCells zv.cells (m+1)).toList++cv.toList.drop (off*s+(m+1)*s))).toArray,.tuple #[],by simp [Builtin.clear_,Za,run_underlying hu,hzr w,mh],r.GF hl (by simp) rfl rfl rfl (fun k hk=>setRow_other w g k _ hk) fun _ tu=> .inr ⟨g,C,_,T,rfl,setRow_heap w g cv _ T _ hh,?_,NT,fun i j f hi hf=> ?_⟩,.val _⟩
        ·rw [Mr]
         simp only [bZ,aS,aQ,bn,bF,Wc] at*
         omega
        ·obtain ⟨c,d,e1,e2,rfl⟩:=sf hf
         obtain ⟨u0,Y9,ho0,Ra⟩:=fe i j c hi e1
         have hj:j<s:=by rw [<-gJ];exact (ai.1 e1).1
         rw [Mr,cy,uS _ _ _ _ _ Wc (by simpa using kq)]
         rw [gJ] at Y9
         by_cases nU:off<=i/\i<off+(m+1)
         ·have h1:off*s<=i*s:=aK _ nU.1
          have h2:i*s+s<=off*s+(m+1)*s:=by rw [<-bY,<-cd];exact aK _ nU.2
          have h3:i*s+j - off*s=(i - off)*zv.cells.size+j:=by rw [NN,Jt,Nat.sub_mul];omega
          have hjz:j<zv.cells.size:=by omega
          rw [ab (by omega),ag (by omega),h3,B6 zv.cells (m+1) (i - off) j (by omega) hjz]
          refine ⟨_,rfl,Wb _ (bw.2 (Array.getElem_mem hjz)),eJ ⟨fun _=> ?_,fun h=> ?_⟩⟩
          ·exact (hzrel _ kn di j d _ e2 (az hjz)).close (fH iH _ (aD e2))
          ·simp [nU] at h
         ·have qs:i*s+j<off*s\/off*s+(m+1)*s<=i*s+j:=by
           rcases a8 i off with h|h
           ·have:i*s+s<=off*s:=by rw [<-bY];exact aK _ h
            omega
           ·have:(off+(m+1))*s<=i*s:=aK _ (by omega)
            rw [cd] at this;omega
          have e9:(if i*s+j<off*s then cv.toList[i*s+j]? else if i*s+j<off*s+(m+1)*s then (Builtin.zeroCells zv.cells (m+1)).toList[i*s+j - off*s]? else cv.toList[i*s+j]?)=cv.toList[i*s+j]? :=by
           split
           ·rfl
           ·rw [ab (by omega)]
          rw [e9,bo]
          exact ⟨u0,Y9,ho0,eJ ⟨fun h=>absurd (of_decide_eq_true h) nU,fun _=>tu Ra⟩⟩
     ·refine ⟨w,.tuple #[],?_,?_,.val _⟩
      ·cases p<;>simp [Builtin.clear_,Za,run_underlying hu]
      ·rcases lU with ⟨lk,_⟩|⟨g,C,cv,T,hl,_⟩
       ·exact still rfl lk
       ·exact still rfl hl
   ·subst he;exact dn dr
  ·subst he;exact dn dr
 ·subst he;exact dn dr
end
end Go.Abs
end
section
namespace Go.Abs
open Go.RowKit
abbrev FW (ro:Option Nat):Fence:={ Fence.wide with round:=ro }
theorem Vh {ro:Option Nat} {m:Nat} {P:Program} {f:FuncId} {vs:Array Value} {w:World} {R:Ending->World->Prop} (h:Calls P f vs w R):CallsIn (FW ro) m P f vs w R:=
 have h':CallsIn Fence.wide m P f vs w R:=callsIn_wide.2 h
 h'
section
variable {P:Program} {ro:Option Nat} {m:Nat} {base:Nat} {w0 w w':World} {S0:Env} {σ σ':St} {kn:Nat->Prop} {di:Nat->Option Loc} {a:Act}
def wP (base:Nat) (w0:World) (S0:Env) (σ:St) (kn:Nat->Prop) (id:Nat) (a:Act) (w:World):Prop:=
 ∃eV du,R base w0 S0 σ eV du a w/\ ∀i,eV i->kn i\/i=id
theorem Hm {α:Type}: ∀{l:List (Nat×α)} {i:Nat} {v:α},look l i=some v->(i,v)∈l
 |(k,u)::r,i,v,h=>by
  rw [dG] at h
  split at h
  ·rename_i e;cases h;subst e;exact ax
  ·exact ay _ (Hm h)
theorem R.ev (r:R base w0 S0 σ kn di a w) (y:Operand):Rel (dq w base S0 di) kn di (σ.ev y) (a.eval y):=by
 cases y with
 |tmp t=>exact r.tmps t
 |const v=>exact .val v
 |global g=>
  show Rel _ kn di (match look gl g with|some cs=>DV.dV cs|none=>DV.any) _
  cases hl:look gl g with
  |none=>exact .any _
  |some cs=>exact r.yk _ _ (aP _ (TQ (Hm hl)))
 |func f=>exact .val _
theorem ow: ∀{l:List Operand},dw (qF σ l)-> ∀y∈l,∀b,(σ.ev y).nw =some b->b=true
 |[],_,y,hy=>by cases hy
 |x::l,h,y,hy=>by
  intro b hb
  simp only [qF] at h
  cases hx:(σ.ev x).nw with
  |none=>
   simp only [hx] at h
   rcases aR.1 hy with rfl|hy
   ·rw [hx] at hb;cases hb
   ·exact ow h y hy b hb
  |some c=>
   simp only [hx] at h
   rcases aR.1 hy with rfl|hy
   ·rw [hx] at hb;cases hb;exact h.hd
   ·exact ow h.tl y hy b hb
theorem R.n5 {e:fg} (r:R base w0 S0 (σ.fX e) kn di a w) {dst:Option Tmp} {v:Value} (ff:jH σ.nt σ.lo dst=true) (hv:Rel (dq w base S0 di) kn di e.d v):
 R base w0 S0 (σ.uG dst e) kn di (a.put dst v) w:=by
 cases dst with
 |none=>exact r
 |some t=>
  obtain ⟨ht,j5⟩:t<σ.nt/\σ.lo<=t:=by
   simp only [jH] at ff
   cases h:Nat.ble σ.lo t
   ·simp [h] at ff
   ·simp only [h,ao] at ff
    exact ⟨aC (show Nat.ble (t+1) σ.nt=true from ff),aC h⟩
  exact R.put r ht j5 hv
theorem eK {o:Oper} (qW: ∀c,o.op≠ .defer c) {K:Act->World->Prop} {Q:Exit->Act->World->Prop} {s:Sem Value} {id:Nat} {e:fg} (hex:execOp a.eval o=(do pure (.value (<-s)))) (h:ma P base w0 S0 σ kn a w id s e)
 (ff:jH σ.nt σ.lo o.dst=true) (hK: ∀a' w',wP base w0 S0 (σ.uG o.dst e) kn id a' w'->K a' w'):o.wpIn (FW ro) m P a w K Q:=by
 obtain ⟨v,w',hr,eV,du,hR,hv,hk⟩:=h
 unfold Oper.wpIn
 refine ⟨fun _ _=>trivial,?_⟩
 rw [Oper.semAt_eq _ _ _ qW,hex]
 simp only [Sem.run_bind,hr,Result.andThen_ok,Sem.run_pure]
 exact hK _ _ ⟨eV,du,R.n5 hR ff hv,hk⟩
theorem zQ {o:Oper} (qW: ∀c,o.op≠ .defer c) {K:Act->World->Prop} {Q:Exit->Act->World->Prop} {id:Nat} {e:fg} {v:Value} (r:R base w0 S0 σ kn di a w) (hw:e.hw=[]) (hex:execOp a.eval o=pure (.value v)) (hv:Rel (dq w base S0 di) kn di e.d v)
 (ff:jH σ.nt σ.lo o.dst=true) (hK: ∀a' w',wP base w0 S0 (σ.uG o.dst e) kn id a' w'->K a' w'):o.wpIn (FW ro) m P a w K Q:=by
 have h:σ.fX e=σ:=by unfold St.fX;rw [hw];rfl
 unfold Oper.wpIn
 refine ⟨fun _ _=>trivial,?_⟩
 rw [Oper.semAt_eq _ _ _ qW,hex]
 exact hK _ _ ⟨kn,di,R.n5 (by rw [h];exact r) ff hv,fun _ h=> .inl h⟩
theorem Ax {x:Operand->DV} {rd:Rd}: ∀(l:List (Nat×Operand)),(∀p∈l,Rel rd kn di (x p.2) (a.eval p.2))->pG rd kn di (l.map fun p=>(p.1,x p.2)) (l.map fun p=>(p.1,a.eval p.2))
 |[],_=> .nil
 |p::l,h=> .cons (h p ax) (Ax l fun q hq=>h q (ay _ hq))
theorem mL {f:FuncId} {vs:Array Value} (h:gA P f) (w:World):(callFunc f vs).run P w= .ok (.enter f vs) w:=by
 obtain ⟨fn,h1,h2,h3⟩:=h
 simp only [callFunc,Sem.run_bind,run_program,Result.andThen_ok,h1,h3,h2,bT,cE]
 rfl
theorem Li {o:Oper} (qW: ∀c,o.op≠ .defer c) {K:Act->World->Prop} {Q:Exit->Act->World->Prop} {id:Nat} {e:fg} {f:FuncId} {vs:Array Value} (hex:(execOp a.eval o).run P w= .ok (.enter f vs) w)
 (hc:gA P f/\Calls P f vs w fun en w'=> ∃v eV du,en= .returned v/\R base w0 S0 (σ.fX e) eV du a w'/\Rel (dq w' base S0 du) eV du e.d v/\ ∀i,eV i->kn i\/i=id)
 (ff:jH σ.nt σ.lo o.dst=true) (hK: ∀a' w',wP base w0 S0 (σ.uG o.dst e) kn id a' w'->K a' w'):o.wpIn (FW ro) m P a w K Q:=by
 obtain ⟨_,hc⟩:=hc
 unfold Oper.wpIn
 refine ⟨fun _ _=>trivial,?_⟩
 rw [Oper.semAt_eq _ _ _ qW,hex,Oper.uponIn_enter]
 refine ⟨fun h=>(by cases h),CallsIn.mono (Vh hc) fun en w' hx=> ?_⟩
 obtain ⟨v,eV,du,sZ,hR,hrel,kr⟩:=hx
 subst sZ
 exact hK _ _ ⟨eV,du,R.n5 hR ff hrel,kr⟩
theorem vR (r:R base w0 S0 σ kn di a w) {id:Nat} (fJ: ¬kn id) {t:TypeId} {d1 d2:DV} {v1 v2:Value} {e:fg} (he:rZ P id t d1 d2=e) (dr:dw e.vc)
 (h1:Rel (dq w base S0 di) kn di d1 v1) (h2:Rel (dq w base S0 di) kn di d2 v2):ma P base w0 S0 σ kn a w id (Instr.makeSlice t v1 v2) e:=by
 unfold rZ at he
 split at he
 ·rename_i k n k' c
  cases h1;cases h2
  split at he
  ·rename_i el hu
   split at he
   ·rename_i i cs hi hz
    cases hb:(Nat.beq cs.length i.size&&Nat.ble 1 cs.length) with
    |false=>simp only [hb,ar] at he;subst he;exact dn dr
    |true=>
     simp only [hb,ao] at he
     simp only [an] at hb
     subst he
     obtain ⟨g0,rfl,g2,g3⟩:=dr.one
     have eW:=af hb.1
     have h1s:=aC hb.2
     unfold n3 at hz
     rw [hi] at hz
     simp only at hz
     cases QZ:i.zero with
     |none=>rw [QZ] at hz;cases hz
     |some z=>
      rw [QZ] at hz
      simp only at hz
      obtain ⟨q1,q2,q3⟩:=(Rel.val (rd:=dq w base S0 di) (kn:=fun _=>False) (di:=fun _=>none) z).cells hz
      have dN:=run_make (P:=P) (w:=w) t el i z hu hi QZ k k' n n g0 (db _) (by have:(n.toNat:Int)=n:=bG g0;rw [<-this,<-Int.natCast_mul];exact Int.ofNat_le.2 g3) (by omega)
      refine tS r fJ (by simp) (by rw [size_madeCells,eW]) (fun a b f ha ZI=> ?_) dN
      have hlen:(cs.map fun d (_:Nat)=>d).length=cs.length:=by simp
      rw [hlen]
      have Fg:b<cs.length:=by
       have:=(ai.1 ZI).1
       simpa using this
      rw [aw,ak Fg] at ZI
      simp only [aA,aa] at ZI
      subst ZI
      have hzb:b<z.cells.size:=by omega
      have nU:a*cs.length+b<n.toNat*i.size:=by
       rw [<-eW]
       calc a*cs.length+b<a*cs.length+cs.length:=by omega
        _=(a+1)*cs.length:=by rw [cd];omega
        _<=n.toNat*cs.length:=aK _ ha
      have Zo:(a*cs.length+b)%z.cells.size=b:=by
       rw [q1,Nat.mul_comm,Nat.mul_add_mod,Nat.mod_eq_of_lt Fg]
      refine ⟨z.cells[b],?_,q3 _ (by simp),q2 b _ _ (ak Fg) (by simp)⟩
      simp only [madeCells]
      rw [Array.getElem?_map,Array.getElem?_range,ag nU]
      simp only [aA,Zo]
      rw [getElem!_pos z.cells b hzb]
   ·subst he;exact dn dr
  ·subst he;exact dn dr
 ·subst he;exact dn dr
theorem uv (r:R base w0 S0 σ kn di a w) {id:Nat} (fJ: ¬kn id) {t:TypeId} {oc:fx} {d1 d2:DV} {v1 v2:Value} {e:fg} (he:qx P oc id t d1 d2=e) (dr:dw e.vc)
 (h1:Rel (dq w base S0 di) kn di d1 v1) (h2:Rel (dq w base S0 di) kn di d2 v2):ma P base w0 S0 σ kn a w id (Instr.makeSlice t v1 v2) e:=by
 unfold qx at he
 split at he
 ·exact xN r fJ he dr h1 h2
 ·exact vR r fJ he dr h1 h2
set_option maxHeartbeats 4000000 in
theorem k9 {P:Program} {w:World} {t e:TypeId} {s len c:Nat} {A:Option Addr} {wS Gz:Option Value} {l h:Int} (hu:P.underlying t=some (.slice e)) (eW:iv P e=some s)
 (j5:(wS=none/\l=0)\/ ∃k,wS=some (.int k l)) (Ro:(Gz=none/\h=len)\/ ∃k,Gz=some (.int k h)) (h0:0<=l) (h1:l<=h) (h2:h<=len) (h3:len<=c):
 (Instr.sliceAt t (.slice A len c) wS Gz none).run P w= .ok (sliced A l.toNat h.toNat c s) w:=by
 have he:P.elem t=e:=by simp [Program.elem,hu]
 have ht:P.underlying t=some (.slice (P.elem t)):=by rw [he,hu]
 rw [run_sliceAt_slice w t _ _ _ _ ht]
 have hz:=fM eW w
 rcases j5 with ⟨rfl,rfl⟩|⟨kl,rfl⟩<;>rcases Ro with ⟨rfl,rfl⟩|⟨kh,rfl⟩
 ·rw [run_slice_all w t A len c ht,he,hz];simp [Result.andThen]
 ·rw [run_slice_h w t A len c ht kh h h1 (by omega),he,hz];simp [Result.andThen]
 ·rw [run_slice_l w t A len c ht kl l h0 h1,he,hz];simp [Result.andThen]
 ·rw [run_slice_lh w t A len c ht kl kh l h h0 h1 (by omega),he,hz];simp [Result.andThen]
theorem EF {P:Program} {w:World} {t:TypeId} {s:ByteArray} {wS Gz:Option Value} {l h:Int} (hu:P.underlying t=some .string)
 (j5:(wS=none/\l=0)\/ ∃k,wS=some (.int k l)) (Ro:(Gz=none/\h=(s.size:Int))\/ ∃k,Gz=some (.int k h)) (h0:0<=l) (h1:l<=h) (h2:h<=(s.size:Int)):
 (Instr.sliceAt t (.string s) wS Gz none).run P w= .ok (.string (s.extract l.toNat h.toNat)) w:=by
 rw [run_sliceAt_string w t _ _ _ _ hu]
 rcases j5 with ⟨rfl,rfl⟩|⟨kl,rfl⟩<;>rcases Ro with ⟨rfl,rfl⟩|⟨kh,rfl⟩
 ·rw [run_slice_string_all w t s hu];rfl
 ·rw [run_slice_string_h w t s hu kh h h1 h2];rfl
 ·rw [run_slice_string_l w t s hu kl l h0 h1];rfl
 ·rw [run_slice_string w t s kl kh l h hu h0 h1 h2]
theorem jF {rd:Rd} {kn:Nat->Prop} {di:Nat->Option Loc} {lo:Option DV} {wS:Option Value} {n l:Int} (hr:(lo=none/\wS=none)\/ ∃d u,lo=some d/\wS=some u/\Rel rd kn di d u) (h:oB n lo=some l):
 (wS=none/\l=n)\/ ∃k,wS=some (.int k l):=by
 rcases hr with ⟨rfl,rfl⟩|⟨d,u,rfl,rfl,hd⟩
 ·cases h;exact .inl ⟨rfl,rfl⟩
 ·cases hd<;>try (cases h)
  cases u<;>try (cases h)
  exact .inr ⟨_,rfl⟩
theorem Cx (r:R base w0 S0 σ kn di a w) {t:TypeId} {x:DV} {v:Value} {lo hi:Option DV} {wS Gz:Option Value} {e:fg} (he:sM P σ.obj t x lo hi=e) (dr:dw e.vc)
 (j5:(lo=none/\wS=none)\/ ∃d u,lo=some d/\wS=some u/\Rel (dq w base S0 di) kn di d u) (Ro:(hi=none/\Gz=none)\/ ∃d u,hi=some d/\Gz=some u/\Rel (dq w base S0 di) kn di d u)
 (hv:Rel (dq w base S0 di) kn di x v):Still P base S0 kn di w (Instr.sliceAt t v wS Gz none) e:=by
 unfold sM at he
 split at he
 ·rename_i el hu
  split at he
  ·rename_i s eW
   split at he
   ·rename_i s' id off len
    cases hb:Nat.beq s s'&&je σ.obj id s
    ·simp only [hb,ar] at he;subst he;exact dn dr
    ·simp only [hb,ao] at he
     simp only [an] at hb
     obtain rfl:=af hb.1
     split at he
     ·rename_i l h hl hh
      subst he
      obtain ⟨h0,h1,h2⟩:0<=l/\l<=h/\h<=(len:Int):=dr.one
      have bl:=jF j5 hl
      have bh:=jF Ro hh
      obtain ⟨kr,⟨rfl,rfl,rfl,lk⟩|⟨g,C,rfl,hC,Kj⟩|⟨ho,rfl,p,c,rfl⟩⟩:=kJ r hb.2 hv
      ·have dN:=k9 (w:=w) (c:=0) (A:=none) hu eW bl bh h0 h1 h2 (ae _)
       refine ⟨rfl,_,dN,.row kr ⟨none,0 - l.toNat,?_,fun _=>by omega⟩ (fun _=> ?_) (fun g C e=> ?_) (fun g o C e=>by rw [lk] at e;cases e)⟩
       ·simp [sliced]
       ·have e1:l.toNat=0:=by omega
        have e2:h.toNat=0:=by omega
        simp [sliced,e1,e2]
       ·rw [lk] at e;cases e
      ·have dN:=k9 (w:=w) (c:=C - off) (A:=some ⟨g,off*s,none⟩) hu eW bl bh h0 h1 h2 (by omega)
       refine ⟨rfl,_,dN,.row kr ⟨if C - off=l.toNat then some ⟨g,off*s,none⟩ else some (Addr.add ⟨g,off*s,none⟩ (l.toNat*s)),C - off - l.toNat,?_,fun h=>by split at h<;>cases h⟩ (fun e=> ?_) (fun g' C' e=> ?_) (fun g' o' C' e=>by rw [Kj] at e;cases e)⟩
       ·simp only [sliced]
        split<;>rfl
       ·rw [Kj] at e;cases e
       ·rw [Kj] at e
        cases e
        by_cases iH:C - off=l.toNat
        ·by_cases Fc:l.toNat=0
         ·left
          simp only [sliced,Fc,bV,bJ]
          refine ⟨?_,by omega⟩
          rw [ag (by omega)]
         ·right;omega
        ·left
         simp only [sliced,ab iH,aA]
         refine ⟨?_,by omega⟩
         rw [eF,<-cd,Nat.sub_sub]
      ·have dN:=k9 (w:=w) (c:=c) (A:=p) hu eW bl bh h0 h1 h2 (aq _)
       have e1:l.toNat=0:=by omega
       have e2:h.toNat=0:=by omega
       refine ⟨rfl,_,dN,.row kr ⟨if c=0 then p else p.map (·.add (0*s)),c - 0,?_,fun _=>by omega⟩ (fun e=> ?_) (fun g C e=> .inr ⟨by omega,by omega⟩) (fun g o C e=> .inr ⟨by omega,by omega⟩)⟩
       ·simp only [sliced,e1,e2]
       ·cases hv with
        |row _ _ hz _ _=>
         obtain ⟨_,hz2,_⟩:=hz e
         omega
     ·subst he;exact dn dr
   ·rename_i n dp
    cases hb:Nat.beq dp.length s
    ·simp only [hb,ar] at he;subst he;exact dn dr
    ·simp only [hb,ao] at he
     obtain rfl:=af hb
     split at he
     ·rename_i l h hl hh
      subst he
      obtain ⟨h0,h1,h2⟩:0<=l/\l<=h/\h<=(n:Int):=dr.one
      have bl:=jF j5 hl
      have bh:=jF Ro hh
      cases hv with
      |dt U hc ha hn jh hr=>
       rename_i A c
       have dN:=k9 (w:=w) (c:=c) (A:=A) hu eW bl bh h0 h1 h2 hc
       have get: ∀(j:Nat) (f:Nat->DV),(dp.map fun c i=>c (i+l.toNat))[j]? =some f-> ∃f',dp[j]? =some f'/\f=fun i=>f' (i+l.toNat):=fun j f hf=>by
        rw [aw] at hf
        cases oQ:dp[j]? with
        |none=>simp [oQ] at hf
        |some f'=>simp only [oQ,aA,aa] at hf;exact ⟨f',rfl,hf.symm⟩
       refine ⟨rfl,_,dN,.dt (fun i j=>U (i+l.toNat) j) (by omega) (fun i j f hi hf=> ?_) (fun hp=> ?_) (fun i j f hi hf=> ?_) fun i j f hi hf=> ?_⟩
       ·obtain ⟨f',ll,_⟩:=get j f hf
        obtain ⟨ad,rfl,Mo⟩:=ha (i+l.toNat) j f' (by omega) ll
        refine ⟨ad.add (l.toNat*dp.length),?_,?_⟩
        ·rw [ab (by omega)];rfl
        ·rw [cp,Go.Deep.add_add,<-cC,Nat.add_comm (l.toNat*dp.length),<-cd]
         exact Mo
       ·have:=hn (by omega)
        cases A with
        |none=>exact absurd rfl this
        |some ad=>split<;>simp
       ·obtain ⟨f',ll,_⟩:=get j f hf
        exact jh _ _ f' (by omega) ll
       ·obtain ⟨f',ll,rfl⟩:=get j f hf
        exact hr _ _ f' (by omega) ll
     ·subst he;exact dn dr
   ·split at he
    ·rename_i l h hl hh
     subst he
     obtain ⟨rfl,rfl⟩:l=0/\h=0:=dr.one
     cases hv
     have dN:=k9 (w:=w) (c:=0) (len:=0) (A:=none) hu eW (jF j5 hl) (jF Ro hh) (db _) (db _) (by omega) (ae _)
     refine ⟨rfl,_,dN,?_⟩
     exact .val _
    ·subst he;exact dn dr
   ·subst he;exact dn dr
  ·subst he;exact dn dr
 ·rename_i hu
  split at he
  ·rename_i s
   split at he
   ·rename_i l h hl hh
    subst he
    obtain ⟨h0,h1,h2⟩:0<=l/\l<=h/\h<=(s.size:Int):=dr.one
    cases hv
    exact ⟨rfl,_,EF hu (jF j5 hl) (jF Ro hh) h0 h1 h2,.val _⟩
   ·subst he;exact dn dr
  ·subst he;exact dn dr
 ·subst he;exact dn dr
theorem CD (r:R base w0 S0 σ kn di a w) {src dst:TypeId} {d:DV} {v:Value} {e:fg} (he:sN P σ.obj src dst d=e) (dr:dw e.vc) (hv:Rel (dq w base S0 di) kn di d v):
 Still P base S0 kn di w (convert src dst v) e:=by
 unfold sN at he
 split at he
 ·rename_i el hu
  split at he
  ·rename_i A9 Wo
   split at he
   ·rename_i s id off len
    unfold FA at he
    split at he
    ·rename_i n c fE
     split at he
     ·rename_i l hal
      subst he
      have lk:len<=n:=dr.one
      have uF:=lM hal
      have hlen:l.length=len:=by have:=de List.length uF;simpa using this.symm
      have qu: ∀i,i<len->c i= .val (.int .u8 (l.getD i 0)):=fun i hi=>by
       have h1:((List.range len).map c)[i]? =some (c i):=by simp [hi]
       have h2:(l.map fun n=>DV.val (.int .u8 n))[i]? =some (.val (.int .u8 (l.getD i 0))):=by
        have hil:i<l.length:=by omega
        simp [ak hil,List.getD]
       rw [uF,h2] at h1
       exact (bc h1).symm
      have ji:0<len:=by
       rcases cg len with h0|h0
       ·subst h0;simp [ik] at hal
       ·exact h0
      have rS:je σ.obj id 1=true:=by unfold je;rw [fE];rfl
      obtain ⟨kr,⟨rfl,_,h0,_⟩|⟨g,C,rfl,hC,Kj⟩|⟨h0,h1,_⟩⟩:=kJ r rS hv
      ·omega
      ·obtain ⟨_,lU⟩:=r.eC _ _ fE
       rcases lU with ⟨oI,_⟩|⟨g',C',cv,T,oI,hh,eW,jO,kf⟩
       ·rw [Kj] at oI;cases oI
       ·rw [Kj] at oI
        cases oI
        refine ⟨rfl,_,run_convert_bytes_arg w src el hu A9 g 0 len (C - 0) l hlen (fun i hi=> ?_) dst Wo,.val _⟩
        obtain ⟨u,hu2,_,hr⟩:=kf i 0 c (by omega) rfl
        rw [qu i hi] at hr
        cases hr
        have hu3:cv[i]? =some (.int .u8 (l.getD i 0)):=by simpa using hu2
        show w.cell? ⟨g,0+i,none⟩=_
        rw [aE]
        simp [World.cell?,hh,hu3]
      ·omega
     ·subst he;exact dn dr
    ·subst he;exact dn dr
   ·subst he;exact dn dr
  ·subst he;exact dn dr
 ·rename_i q hq _
  exact Fv ⟨q,by assumption⟩ he dr hv
 ·subst he;exact dn dr
theorem tD (r:R base w0 S0 σ kn di a w) {id q s s' len n:Nat} {dp:List (Nat->DV)} (fJ: ¬kn id) {t el:TypeId} {v:Value} {lo:Option DV} {wS:Option Value} {e:fg} (hu:P.underlying t=some (.slice el)) (eW:iv P el=some s)
 (fE:σ.obj q=some (.row n dp)\/σ.obj q=some (.pR n dp)) (he:zJ s s' id q len n dp (oB 0 lo)=e) (dr:dw e.vc)
 (j5:(lo=none/\wS=none)\/ ∃d u,lo=some d/\wS=some u/\Rel (dq w base S0 di) kn di d u) (hv:Rel (dq w base S0 di) kn di (.row s' q 0 len) v):ma P base w0 S0 σ kn a w id (Instr.sliceAt t v wS none none) e:=by
 unfold zJ at he
 split at he
 ·rename_i l hl
  cases D3:(Nat.beq s s'&&Nat.beq dp.length s)
  ·simp only [D3,ar] at he;subst he;exact dn dr
  ·simp only [D3,ao] at he
   simp only [an] at D3
   obtain rfl:=af D3.1
   have iH:=af D3.2
   subst he
   obtain ⟨h0,h1,lk⟩:=dr.one
   have bl:=jF j5 hl
   have rS:xB σ.obj q s=true:=by
    unfold xB
    rcases fE with fE|fE<;>rw [fE]<;>exact D3.2
   obtain ⟨hkq,kD⟩:=GY r rS hv
   have lU:(di q=some .nil/\n=0)\/ ∃g o C cv T,(di q=some (.sub g o C)\/(di q=some (.at_ g C)/\o=0))/\w.heap[g]? =some (.cells cv T (0,0))/\o+C*dp.length<=cv.size/\n<=C/\
    ∀(i j:Nat) (f:Nat->DV),i<n->dp[j]? =some f-> ∃u,cv[o+(i*dp.length+j)]? =some u/\eL u=true/\dA (dq w base S0 di) (f i) u:=by
    rcases fE with fE|fE
    ·rcases (r.eC _ _ fE).2 with h|⟨g,C,cv,T,x1,x2,x3,x4,x5⟩
     ·exact .inl h
     ·exact .inr ⟨g,0,C,cv,T,.inr ⟨x1,rfl⟩,x2,by rw [aE,x3];exact ae _,x4,fun i j f a b=>by rw [aE];exact x5 i j f a b⟩
    ·exact (r.eC _ _ fE).2
   have hq: ∀l,di q=some l->l= .nil\/ ∃g,l.atG g:=fun l e=>by
    rcases lU with ⟨h,_⟩|⟨g,o,C,_,_,h,_⟩
    ·rw [e] at h;cases h;exact .inl rfl
    ·rcases h with h|⟨h,_⟩<;>rw [e] at h<;>cases h
     ·exact .inr ⟨_,.inr ⟨_,_,rfl⟩⟩
     ·exact .inr ⟨_,.inl ⟨_,rfl⟩⟩
   have mv:=r.Qw (q:=q) (o:= .pR (len - l.toNat) (dp.map fun c i=>c (i+l.toNat))) fJ hq (D:=Im di q) (fun g hg=>Ek hg)
   rcases kD with ⟨rfl,_,rfl,Gn⟩|⟨g,o,C,rfl,hC,Gn⟩|⟨hx,_⟩
   rotate_left 2
   ·omega
   ·have dN:=k9 (P:=P) (w:=w) (c:=0) (A:=none) (wS:=wS) (Gz:=none) (h:=((0:Nat):Int)) hu eW bl (.inl ⟨rfl,rfl⟩) h0 h1 (db _) (ae _)
    have e1:l.toNat=0:=by omega
    refine ⟨_,w,dN,_,_,mv .nil w (.inl rfl) (ae _) rfl rfl rfl (fun _=>ae _) (fun _ _ _=>rfl) (fun _=> .inl ⟨rfl,by omega⟩),.row (.inr rfl) ⟨none,0,?_,fun _=>by omega⟩ (fun _=>⟨?_,rfl,by omega⟩) (fun g C h=>by simp at h) (fun g o C h=>by simp at h),fun _ h=>h⟩
    ·simp [sliced,e1]
    ·simp [sliced,e1]
   ·rcases lU with ⟨h4,_⟩|⟨g',o',C',cv,T,h4,hh,rR,UD,hrel⟩
    ·rcases Gn with h3|⟨h3,_⟩<;>rw [h3] at h4<;>cases h4
    ·have hqq:g'=g/\o'=o/\C'=C/\Im di q=some g:=by
      rcases Gn with h3|⟨h3,rfl⟩<;>rcases h4 with h4|⟨h4,rfl⟩<;>rw [h3] at h4<;>cases h4<;>exact ⟨rfl,rfl,rfl,by simp only [Im,h3]⟩
     obtain ⟨rfl,rfl,rfl,hbe⟩:=hqq
     have dN:=k9 (P:=P) (w:=w) (c:=C' - 0) (A:=some ⟨g',o'+0*s,none⟩) (wS:=wS) (Gz:=none) (h:=((len:Nat):Int)) hu eW bl (.inl ⟨rfl,rfl⟩) h0 h1 (db _) (by omega)
     simp only [Nat.zero_mul,bV,bJ,bU] at dN
     simp only [Nat.zero_mul,bV,bJ]
     have hlC:l.toNat<=C':=by omega
     by_cases ug:C'=l.toNat
     ·have hlen:len - l.toNat=0:=by omega
      refine ⟨_,w,dN,_,_,mv (.sub g' o' 0) w (.inr ⟨g',.inr ⟨_,_,rfl⟩,.inl hbe⟩) (ae _) rfl rfl rfl (fun _=>ae _) (fun _ _ _=>rfl) (fun mono=> .inr ⟨g',o',0,cv,T,.inl rfl,hh,by omega,by omega,fun i j f hi=>by omega⟩),.row (.inr rfl) ⟨_,_,rfl,fun h=>by split at h<;>cases h⟩ (fun h=>by simp at h) (fun g C h=>by simp at h) (fun g o C h=> ?_),fun _ h=>h⟩
      simp only [ba,aa,Loc.sub.injEq] at h
      obtain ⟨rfl,rfl,rfl⟩:=h
      left
      simp only [sliced,ag ug]
      refine ⟨?_,by omega⟩
      simp [ug]
     ·refine ⟨_,w,dN,_,_,mv (.sub g' (o'+l.toNat*s) (C' - l.toNat)) w (.inr ⟨g',.inr ⟨_,_,rfl⟩,.inl hbe⟩) (ae _) rfl rfl rfl (fun _=>ae _) (fun _ _ _=>rfl) (fun mono=> .inr ⟨g',_,_,cv,T,.inl rfl,hh,?_,by omega,fun i j f hi hj=> ?_⟩),.row (.inr rfl) ⟨_,_,rfl,fun h=>by split at h<;>cases h⟩ (fun h=>by simp at h) (fun g C h=>by simp at h) (fun g o C h=> ?_),fun _ h=>h⟩
      ·simp only [cp,iH]
       rw [iH] at rR
       have:l.toNat*s+(C' - l.toNat)*s=C'*s:=by rw [<-cd];congr 1;omega
       omega
      ·rw [aw] at hj
       cases oQ:dp[j]? with
       |none=>simp [oQ] at hj
       |some f'=>
        simp only [oQ,aA,aa] at hj
        subst hj
        obtain ⟨u,hu1,ho,Kh⟩:=hrel (i+l.toNat) j f' (by omega) oQ
        refine ⟨u,?_,ho,mono Kh⟩
        rw [<-hu1]
        congr 1
        simp only [cp,iH]
        rw [cd];omega
      ·simp only [ba,aa,Loc.sub.injEq] at h
       obtain ⟨rfl,rfl,rfl⟩:=h
       left
       simp only [sliced,ab ug,aA]
       refine ⟨?_,by omega⟩
       rw [eF]
       simp
 ·subst he;exact dn dr
theorem Bl (r:R base w0 S0 σ kn di a w) {oc:fx} {id:Nat} (fJ: ¬kn id) {t:TypeId} {x:DV} {v:Value} {lo hi:Option DV} {wS Gz:Option Value} {e:fg} (he:pz P oc id σ.obj t x lo hi=e) (dr:dw e.vc)
 (j5:(lo=none/\wS=none)\/ ∃d u,lo=some d/\wS=some u/\Rel (dq w base S0 di) kn di d u) (Ro:(hi=none/\Gz=none)\/ ∃d u,hi=some d/\Gz=some u/\Rel (dq w base S0 di) kn di d u)
 (hv:Rel (dq w base S0 di) kn di x v):ma P base w0 S0 σ kn a w id (Instr.sliceAt t v wS Gz none) e:=by
 unfold pz at he
 split at he
 ·unfold vO at he
  split at he
  ·rcases Ro with ⟨_,rfl⟩|⟨d,u,h,_⟩
   ·split at he
    ·rename_i el hu
     split at he
     ·rename_i s eW
      split at he
      ·rename_i s' q len
       split at he
       ·rename_i n dp fE;exact tD r fJ hu eW (.inl fE) he dr j5 hv
       ·rename_i n dp fE;exact tD r fJ hu eW (.inr fE) he dr j5 hv
       ·subst he;exact dn dr
      ·subst he;exact dn dr
     ·subst he;exact dn dr
    ·subst he;exact dn dr
   ·cases h
  ·subst he;exact dn dr
 ·exact (Cx r he dr j5 Ro hv).runs r
theorem Hf (σ:St) (e:fg) (id:Nat):(σ.fX e).obj id=match look e.hw id with|some o=>o|none=>σ.obj id:=by
 have go: ∀(l m:List (Nat×Option fF)),look (l++m) id=match look l id with|some v=>some v|none=>look m id:=fun l m=>by
  induction l with
  |nil=>rfl
  |cons p l ih=>
   obtain ⟨k,v⟩:=p
   simp only [aT,look]
   cases Nat.beq k id
   ·exact ih
   ·rfl
 unfold St.fX St.obj
 rw [go]
 cases look e.hw id<;>rfl
theorem ma.UW {id:Nat} {s:Sem Value} {e:fg} (h:ma P base w0 S0 σ kn a w id s e) (dr:dw (Bf e).vc):ma P base w0 S0 σ kn a w id s (Bf e):=by
 obtain ⟨v,w',dN,eV,du,r,hv,hk⟩:=h
 unfold Bf at dr ⊢
 cases hl:nh (Fa e.hw) e.d with
 |none=>rw [hl] at dr;exact dn dr
 |some p=>
  obtain ⟨d,vc⟩:=p
  rw [hl] at dr
  obtain ⟨_,Hy⟩:=dw.app dr
  have oI:nh (σ.fX e).obj e.d=some (d,vc):=by
   cases hd:e.d with
   |row s' i off len=>
    rw [hd] at hl
    simp only [nh,Fa,Hf] at hl ⊢
    cases HD:look e.hw i with
    |none=>simp [HD] at hl
    |some o=>simp only [HD] at hl ⊢;exact hl
   |lg i=>
    rw [hd] at hl
    simp only [nh,Fa,Hf] at hl ⊢
    cases HD:look e.hw i with
    |none=>simp [HD] at hl
    |some o=>simp only [HD] at hl ⊢;exact hl
   |_=>rw [hd] at hl;exact hl
  obtain ⟨oN,r2,jC,nm⟩:=r.eu [e.d] (fun d' id v hm=>by rw [au.1 hm];exact zu r oI id v)
  refine ⟨v,w',dN,eV,oN,?_,?_,hk⟩
  ·have e1:σ.fX { d:=d,hw:=Abs.eu [e.d]++e.hw,vc:=e.vc++vc }={ (σ.fX e) with h:=Abs.eu [e.d]++(σ.fX e).h }:=by
    simp only [St.fX,cA]
   rw [e1];exact r2
  ·have k1:=(vD (gF:=dq w' base S0 oN) r (fun ad u ⟨x,y,z,q⟩=>⟨x,fun id l e=>y id l (jC _ _ e),z,q⟩)
    (fun i l g hi lH hg ad u e' hu=>⟨hu,fun kN l' e2 nJ=>(by
      have e3:=jC _ _ e2
      rw [e'] at nJ
      have:=r.inj _ _ _ _ _ e3 lH nJ hg
      rw [this,nm e.d i ax hi] at e2
      cases e2),e'▸o8 r lH hg,e'▸sD r lH hg⟩) oI Hy hv).1
   exact ee k1
theorem D6 {id:Nat} {s:Sem Value} {oc:fx} {e e':fg} (he:UT oc e=e') (dr:dw e'.vc) (h:dw e.vc->ma P base w0 S0 σ kn a w id s e):ma P base w0 S0 σ kn a w id s e':=by
 unfold UT at he
 split at he
 ·subst he
  refine ma.UW (h ?_) dr
  unfold Bf at dr
  split at dr
  ·exact (dw.app dr).1
  ·exact dn dr
 ·subst he;exact h dr
theorem DS {ob:Heap}: ∀{ds es:List DV} {vc:List Prop},jT ob ds=some (es,vc)->es.length=ds.length
 |[],es,vc,h=>by
  simp only [jT,aa,aB] at h
  rw [<-h.1]
 |d::r,es,vc,h=>by
  simp only [jT] at h
  split at h
  ·rename_i e v1 MB vcs h1 h2
   simp only [aa,aB] at h
   rw [<-h.1,aH,aH,DS h2]
  ·cases h
theorem QH (r:R base w0 S0 σ kn di a w) {gF:Rd} (fc: ∀a u,dq w base S0 di a u->gF a u) {d d':DV} {vc:List Prop} {cs:List DV} {v:Value}
 (gu: ∀d id l g,d∈cs->id∈gn d->di id=some l->l.has g-> ∀ad u,ad.block=g->Ar w ad u->gF ad u) (h:AW σ.obj d=some (d',vc,cs)) (dr:dw vc) (hv:Rel (dq w base S0 di) kn di d v):dA gF d' v:=by
 unfold AW at h
 split at h
 ·rename_i kS
  split at h
  ·rename_i es PO hl
   simp only [aa,aB] at h
   obtain ⟨rfl,rfl,rfl⟩:=h
   cases hv with
   |agg hs hr=>
    rename_i vs
    have hlen:=(DS hl).symm
    have k:=rI r fc gu hl dr (vs:=vs.toList) (by simpa using hs) (fun j d v hd hv=>hr j d v hd (by simpa using hv))
    exact .agg (by rw [hs,hlen]) fun j d u hd hu=>k j d u hd (by simpa using hu)
  ·cases h
 ·cases hc:d.closed
  ·simp [hc] at h
  ·simp only [hc,ao,aa,aB] at h
   obtain ⟨rfl,rfl,rfl⟩:=h
   exact (hv.close hc).mono fc (fun _ h=>h) fun _ _ h=>h.elim
theorem vE (r:R base w0 S0 σ kn di a w) {gF:Rd} (fc: ∀a u,dq w base S0 di a u->gF a u) {eV:Nat->Prop} {du:Nat->Option Loc}: ∀{ps es:List (Nat×DV)} {vc:List Prop} {cs:List DV} {vs:List (Nat×Value)},
 (∀d id l g,d∈cs->id∈gn d->di id=some l->l.has g-> ∀ad u,ad.block=g->Ar w ad u->gF ad u)->gh σ.obj ps=some (es,vc,cs)->dw vc->pG (dq w base S0 di) kn di ps vs->pG gF eV du es vs
 |[],es,vc,cs,vs,_,h,_,hp=>by
  simp only [gh,aa,aB] at h
  obtain ⟨rfl,rfl,rfl⟩:=h
  cases hp
  exact .nil
 |(i,d)::ps,es,vc,cs,vs,gu,h,dr,hp=>by
  simp only [gh] at h
  split at h
  ·rename_i e GA c1 MB uK ds1 h1 h2
   simp only [aa,aB] at h
   obtain ⟨rfl,rfl,rfl⟩:=h
   obtain ⟨Hz,Hy⟩:=dw.app dr
   cases hp with
   |cons hv hp=>
    exact .cons (ee (QH r fc (fun d id l g hm=>gu d id l g (aP _ hm)) h1 Hz hv)) (vE r fc (fun d id l g hm=>gu d id l g (aU _ hm)) h2 Hy hp)
  ·cases h
theorem vF (r:R base w0 S0 σ kn di a w): ∀{ps es:List (Nat×DV)} {vc:List Prop} {cs:List DV},gh σ.obj ps=some (es,vc,cs)-> ∀d id v,d∈cs->id∈gn d->di id≠some (.is v)
 |[],es,vc,cs,h,d,id,v,hd,_=>by
  simp only [gh,aa,aB] at h
  obtain ⟨rfl,rfl,rfl⟩:=h
  cases hd
 |(i,d0)::ps,es,vc,cs,h,d,id,v,hd,hi=>by
  simp only [gh] at h
  split at h
  ·rename_i e GA c1 MB uK ds1 h1 h2
   simp only [aa,aB] at h
   obtain ⟨rfl,rfl,rfl⟩:=h
   rcases aO.1 hd with hd|hd
   ·unfold AW at h1
    split at h1
    ·rename_i kS
     split at h1
     ·rename_i hl
      simp only [aa,aB] at h1
      obtain ⟨_,_,rfl⟩:=h1
      exact rK r hl d id v hd hi
     ·cases h1
    ·cases hc:d0.closed
     ·simp [hc] at h1
     ·simp only [hc,ao,aa,aB] at h1
      obtain ⟨_,_,rfl⟩:=h1
      cases hd
   ·exact vF r h2 d id v hd hi
  ·cases h
theorem s7 (r:R base w0 S0 σ kn di a w) {id:Nat} (fJ: ¬kn id) {oc:fx} {t:TypeId} {len:Nat} {parts:List (Nat×DV)} {gC:Array (Nat×Value)} {e:fg} (he:lI P oc id t len σ.obj parts=e) (dr:dw e.vc)
 (hp:pG (dq w base S0 di) kn di parts gC.toList):ma P base w0 S0 σ kn a w id (Instr.buildSlice t len gC) e:=by
 unfold lI at he
 split at he
 ·cases hl:gh σ.obj parts with
  |none=>rw [hl] at he;subst he;exact dn dr
  |some q=>
   obtain ⟨ps,vc,ds⟩:=q
   rw [hl] at he
   subst he
   obtain ⟨Hz,Hy⟩:=dw.app dr
   obtain ⟨oN,r2,jC,nm⟩:=r.eu ds (vF r hl)
   have hp2:pG (dq w base S0 oN) kn oN ps gC.toList:=vE r (fun ad u ⟨x,y,z,q⟩=>⟨x,fun id l e=>y id l (jC _ _ e),z,q⟩)
    (fun d i l g hm hi lH hg ad u e' hu=>⟨hu,fun kN l' e2 nJ=>(by
      have e3:=jC _ _ e2
      rw [e'] at nJ
      have:=r.inj _ _ _ _ _ e3 lH nJ hg
      rw [this,nm d i hm hi] at e2
      cases e2),e'▸o8 r lH hg,e'▸sD r lH hg⟩) hl Hz hp
   obtain ⟨v,w',dN,eV,du,r3,hv,hk⟩:=ns (gC:=gC) r2 fJ rfl Hy hp2
   refine ⟨v,w',dN,eV,du,?_,hv,hk⟩
   have e1:σ.fX (Ay P id t len (some (ps,vc,ds)))=St.fX { σ with h:=Abs.eu ds++σ.h } (iR P id t len ps):=by
    simp only [St.fX,Ay,cA]
   rw [e1];exact r3
 ·exact D6 he dr fun dr=>ns (gC:=gC) r fJ rfl dr hp
theorem qw (r:R base w0 S0 σ kn di a w) {id:Nat} (fJ: ¬kn id) {oc:fx} {o:Oper} {e:fg} {x:Operand->DV} (he:uu P oc id o x σ.obj=e) (rQ:S0.wb=none\/((∀t rs,o.op≠ .makeMap t rs)/\ ∀c y,o.op= .call c->c.callee= .value y->e.d.plain=true)) (dr:dw e.vc)
 (hx: ∀y∈o.op.operands.toList,Rel (dq w base S0 di) kn di (x y) (a.eval y)) {K:Act->World->Prop} {Q:Exit->Act->World->Prop}
 (ff:jH σ.nt σ.lo o.dst=true) (hK: ∀a' w',wP base w0 S0 (σ.uG o.dst e) kn id a' w'->K a' w'):o.wpIn (FW ro) m P a w K Q:=by
 unfold uu at he
 cases ho:o.op with
 |move y=>
  simp only [ho] at he hx;subst he
  exact zQ (fun c h=>by rw [ho] at h;cases h) r rfl (by unfold execOp;rw [ho]) (hx y (by simp [Op.operands])) ff hK
 |assign y=>
  simp only [ho] at he hx;subst he
  exact zQ (fun c h=>by rw [ho] at h;cases h) r rfl (by unfold execOp;rw [ho]) (hx y (by simp [Op.operands])) ff hK
 |alloc t=>
  simp only [ho] at he
  exact eK (fun c h=>by rw [ho] at h;cases h) (by unfold execOp;rw [ho]) (CI r fJ he dr) ff hK
 |box t y=>
  simp only [ho] at he hx
  exact eK (fun c h=>by rw [ho] at h;cases h) (by unfold execOp;rw [ho]) (HV r fJ he dr (hx y (by simp [Op.operands]))) ff hK
 |build t parts=>
  simp only [ho] at he hx
  have hp:pG (dq w base S0 di) kn di (parts.toList.map fun p=>(p.1,x p.2)) (parts.map fun p=>(p.1,a.eval p.2)).toList:=by
   rw [Array.toList_map]
   exact Ax parts.toList fun p hp=>hx p.2 (by simp only [Op.operands];exact cJ hp)
  have hex:execOp a.eval o=(do pure (.value (<-Instr.build t (parts.map fun p=>(p.1,a.eval p.2))))):=by unfold execOp;rw [ho]
  generalize parts.map (fun p=>(p.1,a.eval p.2))=vp at hp hex
  have hs:=CH (gC:=vp) he dr hp
  exact eK (fun c h=>by rw [ho] at h;cases h) hex (hs.runs r) ff hK
 |buildSlice t len parts=>
  simp only [ho] at he hx
  have hp:pG (dq w base S0 di) kn di (parts.toList.map fun p=>(p.1,x p.2)) (parts.map fun p=>(p.1,a.eval p.2)).toList:=by
   rw [Array.toList_map]
   exact Ax parts.toList fun p hp=>hx p.2 (by simp only [Op.operands];exact cJ hp)
  have hex:execOp a.eval o=(do pure (.value (<-Instr.buildSlice t len (parts.map fun p=>(p.1,a.eval p.2))))):=by unfold execOp;rw [ho]
  generalize parts.map (fun p=>(p.1,a.eval p.2))=vp at hp hex
  have hs:=s7 (gC:=vp) r fJ he dr hp
  exact eK (fun c h=>by rw [ho] at h;cases h) hex hs ff hK
 |makeSlice t y z=>
  simp only [ho] at he hx
  exact eK (fun c h=>by rw [ho] at h;cases h) (by unfold execOp;rw [ho]) (uv r fJ he dr (hx y (by simp [Op.operands])) (hx z (by simp [Op.operands]))) ff hK
 |slice t y lo hi mx=>
  simp only [ho] at he hx
  cases mx with
  |some m=>subst he;exact dn dr
  |none=>
   have bd: ∀z:Option Operand,(∀y',z=some y'->y'∈(Op.slice t y lo hi none).operands.toList)->((z.map x=none/\z.map a.eval=none)\/ ∃d u,z.map x=some d/\z.map a.eval=some u/\Rel (dq w base S0 di) kn di d u):=fun z hz=>by
    cases z with
    |none=>exact .inl ⟨rfl,rfl⟩
    |some y'=>exact .inr ⟨_,_,rfl,rfl,hx y' (hz y' rfl)⟩
   exact eK (fun c h=>by rw [ho] at h;cases h) (by unfold execOp;rw [ho];rfl) (Bl r fJ he dr (bd lo fun y' e=>by subst e;simp [Op.operands]) (bd hi fun y' e=>by subst e;simp [Op.operands]) (hx y (by simp [Op.operands]))) ff hK
 |load t y=>
  simp only [ho] at he hx
  exact eK (fun c h=>by rw [ho] at h;cases h) (by unfold execOp;rw [ho]) (Cz r fJ he dr (hx y (by simp [Op.operands]))) ff hK
 |store t p y=>
  simp only [ho] at he hx
  obtain ⟨hd,w',du,dN,hR⟩:=Bj r he dr (hx p (by simp [Op.operands])) (hx y (by simp [Op.operands]))
  unfold Oper.wpIn
  refine ⟨fun _ _=>trivial,?_⟩
  rw [Oper.semAt_eq _ _ _ (fun c h=>by rw [ho] at h;cases h)]
  unfold execOp
  rw [ho]
  simp only [Sem.run_bind,dN,Result.andThen_ok,Sem.run_pure]
  exact hK _ _ ⟨kn,du,R.n5 hR ff (by rw [hd];exact .any _),fun _ h=> .inl h⟩
 |makeMap t rs=>
  simp only [ho] at he hx
  cases rs with
  |some y=>subst he;exact dn dr
  |none=>exact eK (fun c h=>by rw [ho] at h;cases h) (by unfold execOp;rw [ho];rfl) (y3 r (rQ.resolve_right fun h=>h.1 t none ho) fJ he dr) ff hK
 |lookup t y i ok=>
  simp only [ho] at he hx
  exact eK (fun c h=>by rw [ho] at h;cases h) (by unfold execOp;rw [ho]) (Bn r fJ he dr (hx y (by simp [Op.operands])) (hx i (by simp [Op.operands]))) ff hK
 |mapUpdate t p k y=>
  simp only [ho] at he hx
  obtain ⟨hd,w',du,dN,hR⟩:=vP r he dr (hx p (by simp [Op.operands])) (hx k (by simp [Op.operands])) (hx y (by simp [Op.operands]))
  unfold Oper.wpIn
  refine ⟨fun _ _=>trivial,?_⟩
  rw [Oper.semAt_eq _ _ _ (fun c h=>by rw [ho] at h;cases h)]
  unfold execOp
  rw [ho]
  simp only [Sem.run_bind,dN,Result.andThen_ok,Sem.run_pure]
  exact hK _ _ ⟨kn,du,R.n5 hR ff (by rw [hd];exact .any _),fun _ h=> .inl h⟩
 |mapEntry t p k=>
  simp only [ho] at he hx
  exact eK (fun c h=>by rw [ho] at h;cases h) (by unfold execOp;rw [ho]) (xK r fJ he dr (hx p (by simp [Op.operands])) (hx k (by simp [Op.operands]))) ff hK
 |entryStore t p s y=>
  simp only [ho] at he hx
  obtain ⟨hd,w',du,dN,hR⟩:=ux (P:=P) (t:=t) r he dr (hx p (by simp [Op.operands])) (hx s (by simp [Op.operands])) (hx y (by simp [Op.operands]))
  unfold Oper.wpIn
  refine ⟨fun _ _=>trivial,?_⟩
  rw [Oper.semAt_eq _ _ _ (fun c h=>by rw [ho] at h;cases h)]
  unfold execOp
  rw [ho]
  simp only [Sem.run_bind,dN,Result.andThen_ok,Sem.run_pure]
  exact hK _ _ ⟨kn,du,R.n5 hR ff (by rw [hd];exact .any _),fun _ h=> .inl h⟩
 |nilCheck y=>
  simp only [ho] at he hx
  have hy:=hx y (by simp [Op.operands])
  have go:e.hw=[]->e.d=x y->V1 (x y)->o.wpIn (FW ro) m P a w K Q:=by
   intro h1 h2 h3
   refine zQ (fun c h=>by rw [ho] at h;cases h) r h1 (v:=a.eval y) ?_ (by rw [h2];exact hy) ff hK
   unfold execOp
   rw [ho]
   rcases HP hy h3 with ⟨ad,h⟩|⟨f,fs,cs,h⟩
   ·simp only [h]
   ·simp only [h]
  split at he
  ·rename_i h;subst he;exact go rfl h.symm (by rw [h];trivial)
  ·rename_i h;subst he;exact go rfl h.symm (by rw [h];trivial)
  ·rename_i h;subst he;exact go rfl h.symm (by rw [h];trivial)
  ·rename_i h;subst he;exact go rfl h.symm (by rw [h];trivial)
  ·rename_i h;subst he;exact go rfl h.symm (by rw [h];trivial)
  ·rename_i h;subst he;exact go rfl h.symm (by rw [h];trivial)
  ·subst he;exact dn dr
 |binOp op t y z ty=>
  simp only [ho] at he hx
  have hy:=hx y (by simp [Op.operands])
  have hz:=hx z (by simp [Op.operands])
  have hex:execOp a.eval o=(do pure (.value (<-(do eqGuard op t y z (a.eval y) (a.eval z);binOp op t (a.eval y) (a.eval z))))):=by unfold execOp;rw [ho]
  split at he
  ·rename_i h1 h2
   rw [h1] at hy
   rw [h2] at hz
   exact eK (fun c h=>by rw [ho] at h;cases h) hex ((Bp (neg:=false) rfl he dr hy hz).runs r) ff hK
  ·rename_i h1 h2
   rw [h1] at hy
   rw [h2] at hz
   exact eK (fun c h=>by rw [ho] at h;cases h) hex ((Bp (neg:=true) rfl he dr hy hz).runs r) ff hK
  ·rename_i h1 h2
   rw [h1] at hy
   rw [h2] at hz
   have hzv:a.eval z= .nilIface:=by
    generalize a.eval z=q at hz
    cases hz;rfl
   rw [hzv] at hex
   exact eK (fun c h=>by rw [ho] at h;cases h) hex ((HT he dr hy).runs r) ff hK
  ·split at he
   ·exact eK (fun c h=>by rw [ho] at h;cases h) hex ((HU he dr hy hz).runs r) ff hK
   ·exact eK (fun c h=>by rw [ho] at h;cases h) hex ((HW he dr hy hz).runs r) ff hK
 |unOp op t y=>
  simp only [ho] at he hx
  exact eK (fun c h=>by rw [ho] at h;cases h) (by unfold execOp;rw [ho]) ((KB he dr (hx y (by simp [Op.operands]))).runs r) ff hK
 |convert src dst y=>
  simp only [ho] at he hx
  exact eK (fun c h=>by rw [ho] at h;cases h) (by unfold execOp;rw [ho]) ((CD r he dr (hx y (by simp [Op.operands]))).runs r) ff hK
 |fieldAddr s y f=>
  simp only [ho] at he hx
  exact eK (fun c h=>by rw [ho] at h;cases h) (by unfold execOp;rw [ho]) ((vU he dr (hx y (by simp [Op.operands]))).runs r) ff hK
 |field s y f=>
  simp only [ho] at he hx
  exact eK (fun c h=>by rw [ho] at h;cases h) (by unfold execOp;rw [ho]) ((CC he dr (hx y (by simp [Op.operands]))).runs r) ff hK
 |indexAddr t y i=>
  simp only [ho] at he hx
  exact eK (fun c h=>by rw [ho] at h;cases h) (by unfold execOp;rw [ho]) ((vT r he dr (hx y (by simp [Op.operands])) (hx i (by simp [Op.operands]))).runs r) ff hK
 |index t y i=>
  simp only [ho] at he hx
  exact eK (fun c h=>by rw [ho] at h;cases h) (by unfold execOp;rw [ho]) ((CB he dr (hx y (by simp [Op.operands])) (hx i (by simp [Op.operands]))).runs r) ff hK
 |extract y i=>
  simp only [ho] at he hx
  exact eK (fun c h=>by rw [ho] at h;cases h) (by unfold execOp;rw [ho]) ((y7 he dr (hx y (by simp [Op.operands]))).runs r) ff hK
 |makeFunc fn first cap=>
  cases fn with
  |func f=>
   simp only [ho] at he hx
   split at he
   ·rename_i hf
    subst he
    have ZC:first= #[]:=cB (by simpa using hf)
    subst ZC
    refine eK (fun c h=>by rw [ho] at h;cases h) (s:=Instr.makeFunc (.func f) (#[].map a.eval) (cap.map a.eval)) (by unfold execOp;rw [ho]) (Still.runs r ⟨rfl,.func (.func f) #[] (cap.map a.eval),by simp [Instr.makeFunc],.jt (by simp) fun j d u hd hu=> ?_⟩) ff hK
    ·rw [aw] at hd
     rw [Array.getElem?_map] at hu
     cases hc:cap[j]? with
     |none=>simp [hc] at hu
     |some y=>
      have N4:cap.toList[j]? =some y:=by simpa using hc
      simp only [N4,aA,aa] at hd
      simp only [hc,aA,aa] at hu
      subst hd hu
      exact hx y (by simp only [Op.operands];simp;exact cz hc)
   ·split at he
    ·rename_i hf
     subst he
     have Kn:cap= #[]:=cB (by simpa using hf)
     subst Kn
     refine eK (fun c h=>by rw [ho] at h;cases h) (s:=Instr.makeFunc (.func f) (first.map a.eval) (#[].map a.eval)) (by unfold execOp;rw [ho]) (Still.runs r ⟨rfl,.func (.func f) (first.map a.eval) #[],by simp [Instr.makeFunc],.oB (by simp) fun j d u hd hu=> ?_⟩) ff hK
     rw [aw] at hd
     rw [Array.getElem?_map] at hu
     cases hc:first[j]? with
     |none=>simp [hc] at hu
     |some y=>
      have N4:first.toList[j]? =some y:=by simpa using hc
      simp only [N4,aA,aa] at hd
      simp only [hc,aA,aa] at hu
      subst hd hu
      exact hx y (by simp only [Op.operands];simp;exact cz hc)
    ·subst he;exact dn dr
  |_=>simp only [ho] at he;subst he;exact dn dr
 |call c=>
  simp only [ho] at he hx
  have gK: ∀y∈c.args.toList,Rel (dq w base S0 di) kn di (x y) (a.eval y):=fun y hy=>hx y (by simp only [Op.operands,Call.operands];simp;exact .inr (by simpa using hy))
  split at he
  ·-- len
   rename_i mj
   split at he
   ·rename_i y t h1 h2
    have e1:c.args= #[y]:=cB (by simpa using h1)
    have e2:c.argTypes= #[t]:=cB (by simpa using h2)
    refine eK (fun c h=>by rw [ho] at h;cases h) (s:=Builtin.len_ #[t] o.type #[a.eval y]) ?_ ((HQ r he dr (gK y (by rw [h1];exact ax))).runs r) ff hK
    unfold execOp
    rw [ho]
    simp [resolve,mj,invoke,builtin,e1,e2]
   ·subst he;exact dn dr
  ·-- append
   rename_i mj
   split at he
   ·rename_i y z t t' h1 h2
    cases hb:Nat.beq t t'
    ·simp only [hb,ar] at he;subst he;exact dn dr
    ·simp only [hb,ao] at he
     obtain rfl:=af hb
     have e1:c.args= #[y,z]:=cB (by simpa using h1)
     have e2:c.argTypes= #[t,t]:=cB (by simpa using h2)
     refine eK (fun c h=>by rw [ho] at h;cases h) (s:=Builtin.append_ #[t,t] o.type #[a.eval y,a.eval z]) ?_ (D6 he dr fun dr=>Bs r fJ rfl dr (gK y (by rw [h1];exact ax)) (gK z (by rw [h1];exact ay _ ax))) ff hK
     unfold execOp
     rw [ho]
     simp [resolve,mj,invoke,builtin,e1,e2]
   ·subst he;exact dn dr
  ·-- delete
   rename_i mj
   split at he
   ·rename_i y z t ts h1 h2
    have e1:c.args= #[y,z]:=cB (by simpa using h1)
    have e2:c.argTypes[0]? =some t:=by
     have:c.argTypes.toList[0]? =some t:=by rw [h2];rfl
     simpa using this
    obtain ⟨w',v,dN,hR,hrel⟩:=Bq (ty:=o.type) r he dr (gK y (by rw [h1];exact ax)) (gK z (by rw [h1];exact ay _ ax)) e2
    refine eK (fun c h=>by rw [ho] at h;cases h) (s:=Builtin.delete_ c.argTypes o.type #[a.eval y,a.eval z]) ?_ ⟨v,w',dN,kn,di,hR,hrel,fun _ h=> .inl h⟩ ff hK
    unfold execOp
    rw [ho]
    simp [resolve,mj,invoke,builtin,e1]
   ·subst he;exact dn dr
  ·-- clear
   rename_i mj
   split at he
   ·rename_i y t ts h1 h2
    have e1:c.args= #[y]:=cB (by simpa using h1)
    have e2:c.argTypes[0]? =some t:=by
     have:c.argTypes.toList[0]? =some t:=by rw [h2];rfl
     simpa using this
    obtain ⟨w',v,dN,hR,hrel⟩:=CF (ty:=o.type) r he dr (gK y (by rw [h1];exact ax)) e2
    refine eK (fun c h=>by rw [ho] at h;cases h) (s:=Builtin.clear_ c.argTypes o.type #[a.eval y]) ?_ ⟨v,w',dN,kn,di,hR,hrel,fun _ h=> .inl h⟩ ff hK
    unfold execOp
    rw [ho]
    simp [resolve,mj,invoke,builtin,e1]
   ·subst he;exact dn dr
  ·-- min
   rename_i mj
   split at he
   ·rename_i n l h1
    subst he
    have hl:=qq h1
    have Q2:(c.args.map a.eval).toList=(n::l).map fun n=>Value.int .i64 n:=by
     rw [Array.toList_map]
     apply cV
     intro j
     rw [aw,aw]
     have hj:(c.args.toList.map x)[j]? =((n::l).map fun n=>DV.val (.int .i64 n))[j]? :=by rw [hl]
     rw [aw,aw] at hj
     cases hc:c.args.toList[j]? with
     |none=>
      rw [hc] at hj
      cases hn:(n::l)[j]? with
      |none=>simp
      |some q=>rw [hn] at hj;simp at hj
     |some y=>
      rw [hc] at hj
      cases hn:(n::l)[j]? with
      |none=>rw [hn] at hj;simp at hj
      |some q=>
       rw [hn] at hj
       simp only [aA,aa] at hj
       have:=gK y (aD hc)
       rw [hj] at this
       simp [this.k5]
    refine eK (fun c h=>by rw [ho] at h;cases h) (s:=Builtin.min_ c.argTypes o.type (c.args.map a.eval)) ?_ (Still.runs r ⟨rfl,.int .i64 (iD n l),?_,.val _⟩) ff hK
    ·unfold execOp
     rw [ho]
     simp [resolve,mj,invoke,builtin]
    ·simp only [Builtin.min_,Q2,bR]
     exact GW l n
   ·subst he;exact dn dr
  ·-- max
   rename_i mj
   split at he
   ·rename_i n l h1
    subst he
    have hl:=qq h1
    have Q2:(c.args.map a.eval).toList=(n::l).map fun n=>Value.int .i64 n:=by
     rw [Array.toList_map]
     apply cV
     intro j
     rw [aw,aw]
     have hj:(c.args.toList.map x)[j]? =((n::l).map fun n=>DV.val (.int .i64 n))[j]? :=by rw [hl]
     rw [aw,aw] at hj
     cases hc:c.args.toList[j]? with
     |none=>
      rw [hc] at hj
      cases hn:(n::l)[j]? with
      |none=>simp
      |some q=>rw [hn] at hj;simp at hj
     |some y=>
      rw [hc] at hj
      cases hn:(n::l)[j]? with
      |none=>rw [hn] at hj;simp at hj
      |some q=>
       rw [hn] at hj
       simp only [aA,aa] at hj
       have:=gK y (aD hc)
       rw [hj] at this
       simp [this.k5]
    refine eK (fun c h=>by rw [ho] at h;cases h) (s:=Builtin.max_ c.argTypes o.type (c.args.map a.eval)) ?_ (Still.runs r ⟨rfl,.int .i64 (hP n l),?_,.val _⟩) ff hK
    ·unfold execOp
     rw [ho]
     simp [resolve,mj,invoke,builtin]
    ·simp only [Builtin.max_,Q2,bR]
     exact GX l n
   ·subst he;exact dn dr
  ·-- a function value
   rename_i y mj
   have hwbc:S0.wb=none\/e.d.plain=true:=rQ.imp (fun h=>h) fun h=>h.2 c y ho mj
   have hy:=hx y (by simp only [Op.operands,Call.operands,mj];simp)
   have args: ∀(j:Nat) (d:DV) (v:Value),(c.args.toList.map x)[j]? =some d->(c.args.toList.map a.eval)[j]? =some v->Rel (dq w base S0 di) kn di d v:=by
    intro j d v hd hv
    rw [aw] at hd hv
    cases hc:c.args.toList[j]? with
    |none=>simp [hc] at hd
    |some z=>
     simp only [hc,aA,aa] at hd hv
     subst hd hv
     exact gK z (aD hc)
   split at he
   ·rename_i f first cap ud
    split at he
    ·rename_i NZ hf2
     have e1:first= #[]:=cB (by simpa using NZ)
     have e2:cap= #[]:=cB (by simpa using hf2)
     subst e1 e2
     rw [ud] at hy
     have hyv:=hy.k5
     have hs:=vV (vs:=c.args.toList.map a.eval) r fJ he hwbc dr (by simp) args
     refine Li (fun c h=>by rw [ho] at h;cases h) (f:=f) (vs:=(c.args.toList.map a.eval).toArray) ?_ hs ff hK
     unfold execOp
     rw [ho]
     simp [resolve,mj,hyv,Deferred.ofValue,invoke,mL hs.1]
     exact cB (by simp)
    ·subst he;exact dn dr
   ·rename_i f cap ud
    rw [ud] at hy
    generalize hyv:a.eval y=vy at hy
    cases hy with
    |jt eW hr=>
     rename_i vs
     cases hfl:jr cap with
     |false=>simp only [hfl,ar] at he;subst he;exact dn dr
     |true=>
     simp only [hfl,ao] at he
     have hs:=vV (vs:=c.args.toList.map a.eval++vs.toList) r fJ he hwbc dr (by simp [eW]) (fun j d v hd hv=>by
      by_cases hj:j<c.args.toList.length
      ·rw [aW (by simpa using hj)] at hd hv
       exact args j d v hd hv
      ·rw [bk (by simpa using hj)] at hd hv
       simp only [cp] at hd hv
       exact hr _ d v hd (by simpa using hv))
     have hex:(execOp a.eval o).run P w= .ok (.enter f (c.args.toList.map a.eval++vs.toList).toArray) w:=by
      unfold execOp
      rw [ho]
      simp [resolve,mj,hyv,Deferred.ofValue,invoke,mL hs.1]
     exact Li (fun c h=>by rw [ho] at h;cases h) (base:=base) (w0:=w0) (S0:=S0) (σ:=σ) (kn:=kn) (id:=id) (e:=e) hex hs ff hK
   ·subst he;exact dn dr
  ·subst he;exact dn dr
 |_=>simp only [ho] at he;subst he;exact dn dr
theorem yE (r:R base w0 S0 σ kn di a w) {id:Nat} (fJ: ¬kn id) {oc:fx} {o:Oper} {e:fg} {x:Operand->DV} (he:rY P oc id o x σ.obj σ.rn=e) (dr:dw e.vc)
 (hx: ∀y∈o.op.operands.toList,Rel (dq w base S0 di) kn di (x y) (a.eval y)) {K:Act->World->Prop} {Q:Exit->Act->World->Prop}
 (ff:jH σ.nt σ.lo o.dst=true) (hK: ∀a' w',wP base w0 S0 (σ.uG o.dst e) kn id a' w'->K a' w'):o.wpIn (FW ro) m P a w K Q:=by
 cases Mn:σ.rn with
 |false=>
  have rQ:S0.wb=none:=Decidable.byContradiction fun h=>by
   have:=r.J2 h
   rw [Mn] at this;cases this
  rw [Mn] at he
  exact qw r fJ he (.inl rQ) dr hx ff hK
 |true=>
  rw [Mn] at he
  unfold rY at he
  split at he
  ·rename_i h;cases h
  ·split at he
   ·subst he;exact dn dr
   ·rename_i c hc
    split at he
    ·rename_i y hy
     split at he
     rename_i d hw vc S5
     cases hp:d.plain
     ·simp only [hp,ar] at he;subst he;exact dr.hd.elim
     ·simp only [hp,ao] at he
      subst he
      exact qw r fJ S5 (.inr ⟨(fun t rs h=>by rw [hc] at h;cases h),fun _ _ _ _=>hp⟩) dr hx ff hK
    ·rename_i hny
     exact qw r fJ he (.inr ⟨fun t rs h=>(by rw [hc] at h;cases h),fun c' y h1 h2=>by rw [hc] at h1;cases h1;exact absurd h2 (hny y)⟩) dr hx ff hK
   ·rename_i hnm hnc
    exact qw r fJ he (.inr ⟨fun t rs h=>hnm t rs h,fun c y h1 _=>absurd h1 (hnc c)⟩) dr hx ff hK
end
end Go.Abs
end
