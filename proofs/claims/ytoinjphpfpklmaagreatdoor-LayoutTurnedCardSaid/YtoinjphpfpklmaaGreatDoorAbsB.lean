/- Contracts and what they stand on. -/
import Derived.Calls
import Derived.Orders
import Derived.Below
import Derived.Laws.World
import Derived.RangeFuncWrites
set_option linter.unusedVariables false
set_option linter.unusedSimpArgs false
section
namespace Go.Abs
abbrev aa:=@Option.some.injEq
abbrev ab:=@if_neg
abbrev ae:=@Nat.le_refl
abbrev af:=@Nat.eq_of_beq_eq_true
abbrev ag:=@if_pos
abbrev ah:=@decide_eq_true_eq
abbrev ai:=@List.getElem?_eq_some_iff
abbrev aj:=@decide_eq_false_iff_not
abbrev ak:=@List.getElem?_eq_getElem
abbrev an:=@Bool.and_eq_true
abbrev ao:=@cond_true
abbrev aq:=@Nat.zero_le
abbrev ar:=@cond_false
abbrev au:=@List.mem_singleton
abbrev av:=@Array.getD_eq_getD_getElem?
abbrev aw:=@List.getElem?_map
abbrev ax:=@List.mem_cons_self
abbrev ay:=@List.mem_cons_of_mem
abbrev az:=@Array.getElem?_eq_getElem
abbrev aA:=@Option.map_some
abbrev aB:=@Prod.mk.injEq
abbrev aC:=@Nat.le_of_ble_eq_true
abbrev aD:=@List.mem_of_getElem?
abbrev aE:=@Nat.zero_add
abbrev aF:=@Array.getElem?_eq_some_iff
abbrev aG:=@Nat.not_lt_zero
abbrev aH:=@List.length_cons
abbrev aJ:=@List.getElem?_cons_succ
abbrev aK:=@Nat.mul_le_mul_right
abbrev aL:=@List.getElem?_cons_zero
abbrev aM:=@Bool.not_eq_true'
abbrev aO:=@List.mem_append
abbrev aP:=@List.mem_append_left
abbrev aQ:=@List.length_take
abbrev aR:=@List.mem_cons
abbrev aS:=@List.length_append
abbrev aT:=@List.cons_append
abbrev aU:=@List.mem_append_right
abbrev aV:=@Nat.le_trans
abbrev aW:=@List.getElem?_append_left
abbrev a8:=@Nat.lt_or_ge
abbrev ba:=@if_true
abbrev bc:=@Option.some.inj
abbrev bf:=@List.mem_map
abbrev bg:=@List.mem_range
abbrev bj:=@Bool.not_eq_false'
abbrev bk:=@List.getElem?_append_right
abbrev bm:=@Int.emod_nonneg
abbrev bn:=@List.length_drop
abbrev bo:=@Array.getElem?_toList
abbrev bp:=@Array.getElem?_setIfInBounds
abbrev br:=@Int.emod_lt_of_pos
abbrev bt:=@Nat.lt_of_lt_of_le
abbrev bu:=@decide_eq_decide
abbrev bw:=@Array.mem_toList_iff
abbrev bz:=@decide_eq_true
abbrev bA:=@Bool.or_eq_true
abbrev bB:=@List.getD_eq_getElem?_getD
abbrev bF:=@Array.length_toList
abbrev bG:=@Int.toNat_of_nonneg
abbrev bH:=@List.mem_filter
abbrev bI:=@decide_eq_false
abbrev bJ:=@Nat.sub_zero
abbrev bK:=@List.getElem?_drop
abbrev bM:=@Int.add_emod_right
abbrev bO:=@implies_true
abbrev bP:=@Decidable.not_not
abbrev bQ:=@Bool.and_eq_false_imp
abbrev bR:=@List.map_cons
abbrev bS:=@List.getElem?_take
abbrev bT:=@Bool.false_eq_true
abbrev bU:=@Int.toNat_natCast
abbrev bV:=@Nat.add_zero
abbrev bW:=@Bool.if_false_right
abbrev bX:=@eq_comm
abbrev bY:=@Nat.succ_mul
abbrev bZ:=@List.size_toArray
abbrev b6:=@Array.all_eq_true_iff_forall_mem
abbrev b7:=@List.length_nil
abbrev b8:=@and_true
abbrev b9:=@List.all_eq_true
abbrev cd:=@Nat.add_mul
abbrev cf:=@Bool.or_eq_false_iff
abbrev cg:=@Nat.eq_zero_or_pos
abbrev ck:=@true_and
abbrev cp:=@List.length_map
abbrev cq:=@Int.ediv_nonneg
abbrev cr:=@forall_eq
abbrev ct:=@Bool.decide_eq_true
abbrev cw:=@bne_eq_false_iff_eq
abbrev cx:=@beq_eq_false_iff_ne
abbrev cy:=@List.getElem?_toArray
abbrev cz:=@Array.mem_of_getElem?
abbrev cA:=@List.append_assoc
abbrev cB:=@Array.ext'
abbrev cC:=@Nat.add_assoc
abbrev cD:=@Option.getD_some
abbrev cE:=@if_false
abbrev cG:=@List.drop_eq_getElem_cons
abbrev cH:=@List.pairwise_iff_getElem
abbrev cJ:=@List.mem_map_of_mem
abbrev cK:=@List.eq_nil_of_length_eq_zero
abbrev cL:=@Bool.if_true_left
abbrev cM:=@List.mem_iff_getElem?
abbrev cO:=@List.nil_append
abbrev cP:=@List.mem_iff_getElem
abbrev cQ:=@Classical.byContradiction
abbrev cR:=@List.length_singleton
abbrev cS:=@Array.getElem?_append
abbrev cT:=@List.getElem?_modify
abbrev cV:=@List.ext_getElem?
abbrev cW:=@List.getElem?_set
abbrev cY:=@List.nodup_cons
abbrev cZ:=@List.cons.injEq
abbrev c9:=@Array.toList_modify
abbrev da:=@Nat.sub_self
abbrev db:=@Int.le_refl
abbrev dc:=@Array.getElem?_modify
abbrev dd:=@List.map_append
abbrev de:=@congrArg
abbrev df:=@Bool.not_not
abbrev dg:=@bne_iff_ne
inductive KS where
 |int
 |ints (n:Nat)
 |str
inductive DV where
 |val (v:Value)
 |agg (cs:List DV)
 |fC (cs:List DV)
 |ptr (id j:Nat)
 |ka (s id i j:Nat)
 |row (s id off len:Nat)
 |dt (n:Nat) (dp:List (Nat->DV))
 |dV (cs:List DV)
 |opt (b:Bool) (d:DV)
 |jt (fn:FuncId) (kj:List DV)
 |oB (fn:FuncId) (fs:List DV)
 |mp (ks:KS) (has:List Int->Bool) (eQ:List Int->DV)
 |lg (id:Nat)
 |tok (id m:Nat)
 |s6 (s id n:Nat)
 |kO (s id i j:Nat)
 |err (nil:Bool)
 |whole (cs:Array Value)
 |any
inductive Loc where
 |nil
 |at_ (g C:Nat)
 |sub (g o C:Nat)
 |map (g:Nat) (bs:List Nat)
 |is (v:Value)
 |jc (g C:Nat) (bs:List Nat)
def Loc.has:Loc->Nat->Prop
 |.at_ g _,k=>k=g
 |.sub g _ _,k=>k=g
 |.map g bs,k=>k=g\/k∈bs
 |.jc g _ bs,k=>k=g\/k∈bs
 |_,_=>False
def Loc.core:Loc->Loc
 |.map g _=> .map g []
 |.jc g C _=> .jc g C []
 |l=>l
theorem Loc.Fz {l:Loc} {g C:Nat} (h:l.core=Loc.core (.at_ g C)):l= .at_ g C:=by cases l<;>simp [Loc.core] at h;rw [h.1,h.2]
theorem Loc.H0 {l:Loc} {g o C:Nat} (h:l.core=Loc.core (.sub g o C)):l= .sub g o C:=by cases l<;>simp [Loc.core] at h;rw [h.1,h.2.1,h.2.2]
theorem Loc.R6 {l:Loc} (h:l.core=Loc.core .nil):l= .nil:=by cases l<;>simp [Loc.core] at h;rfl
theorem Loc.U6 {l:Loc} {v:Value} (h:l.core=Loc.core (.is v)):l= .is v:=by cases l<;>simp [Loc.core] at h;rw [h]
theorem Loc.Ef {l:Loc} {g C:Nat} {bs:List Nat} (h:l.core=Loc.core (.jc g C bs)): ∃yI,l= .jc g C yI:=by cases l<;>simp [Loc.core] at h;exact ⟨_,by rw [h.1,h.2]⟩
theorem Loc.R7 {l:Loc} {g:Nat} {bs:List Nat} (h:l.core=Loc.core (.map g bs)): ∃yI,l= .map g yI:=by cases l<;>simp [Loc.core] at h;exact ⟨_,by rw [h]⟩
def vX (es:List (Value×Value)):Value:= .tuple (es.map fun e=> .tuple #[e.1,e.2]).toArray
theorem Oc: ∀{es kZ:List (Value×Value)},vX es=vX kZ->es=kZ:=by
 intro es kZ h
 unfold vX at h
 have h1:es.map (fun e:Value×Value=>Value.tuple #[e.1,e.2])=kZ.map (fun e:Value×Value=>Value.tuple #[e.1,e.2]):=by
  have:=de (fun v=>match v with|Value.tuple a=>a.toList|_=>[]) h
  simpa using this
 clear h
 induction es generalizing kZ with
 |nil=>cases kZ with
  |nil=>rfl
  |cons x r=>simp at h1
 |cons y q ih=>cases kZ with
  |nil=>simp at h1
  |cons x r=>
   simp only [bR,cZ,Value.tuple.injEq] at h1
   obtain ⟨h2,h3⟩:=h1
   have h4:=de Array.toList h2
   simp only [cZ,b8] at h4
   rw [ih h3]
   congr 1
   exact Prod.ext h4.1 h4.2
def rO:List Value->Option (List Int)
 |[]=>some []
 |.int .i64 n::r=>match rO r with
  |some l=>some (n::l)
  |none=>none
 |_=>none
def MO (s:ByteArray):List Int:=s.data.toList.map fun b=>(b.toNat:Int)
def gz:KS->Value->Option (List Int)
 |.int,.int .i64 n=>some [n]
 |.ints n,.agg vs=>match rO vs.toList with
  |some l=>bif Nat.beq l.length n then some l else none
  |none=>none
 |.str,.string s=>some (MO s)
 |_,_=>none
def eL:Value->Bool
 |.agg _| .tuple _=>false
 |_=>true
abbrev Rd:=Addr->Value->Prop
inductive Rel (rd:Rd):(Nat->Prop)->(Nat->Option Loc)->DV->Value->Prop
 |val {kn di} (v:Value):Rel rd kn di (.val v) v
 |agg {kn di} {cs:List DV} {vs:Array Value} (hs:vs.size=cs.length)
   (h: ∀(j:Nat) (d:DV) (u:Value),cs[j]? =some d->vs[j]? =some u->Rel rd kn di d u):Rel rd kn di (.agg cs) (.agg vs)
 |fC {kn di} {cs:List DV} {vs:Array Value} (hs:vs.size=cs.length)
   (h: ∀(j:Nat) (d:DV) (u:Value),cs[j]? =some d->vs[j]? =some u->Rel rd kn di d u):Rel rd kn di (.fC cs) (.tuple vs)
 |ptr {kn di} {id j:Nat} {v:Value} (hk:kn id) (hv: ∃ad,v= .pointer (some ad))
   (h: ∀g C,di id=some (.at_ g C)->v= .pointer (some ⟨g,j,none⟩)):Rel rd kn di (.ptr id j) v
 |ka {kn di} {s id i j:Nat} {v:Value} (hk:kn id) (hv: ∃ad,v= .pointer (some ad))
   (h: ∀g C,di id=some (.at_ g C)->v= .pointer (some ⟨g,i*s+j,none⟩)) (h2: ∀g o C,di id=some (.sub g o C)->v= .pointer (some ⟨g,o+(i*s+j),none⟩)):Rel rd kn di (.ka s id i j) v
 |row {kn di} {s id off len:Nat} {v:Value} (hk:kn id) (hv: ∃p c,v= .slice p len c/\(p=none->len=0))
   (h0:di id=some .nil->v= .slice none 0 0/\off=0/\len=0)
   (h: ∀g C,di id=some (.at_ g C)->(v= .slice (some ⟨g,off*s,none⟩) len (C - off)/\off+len<=C)\/(0<off/\len=0))
   (h2: ∀g o C,di id=some (.sub g o C)->(v= .slice (some ⟨g,o+off*s,none⟩) len (C - off)/\off+len<=C)\/(0<off/\len=0)):Rel rd kn di (.row s id off len) v
 |dt {kn di} {n:Nat} {dp:List (Nat->DV)} {A:Option Addr} {c:Nat} (U:Nat->Nat->Value) (hc:n<=c)
   (ha: ∀(i j:Nat) (f:Nat->DV),i<n->dp[j]? =some f-> ∃a,A=some a/\rd (a.add (i*dp.length+j)) (U i j))
   (hn:0<n->A≠none) (ho: ∀(i j:Nat) (f:Nat->DV),i<n->dp[j]? =some f->eL (U i j)=true)
   (h: ∀(i j:Nat) (f:Nat->DV),i<n->dp[j]? =some f->Rel rd (fun _=>False) (fun _=>none) (f i) (U i j)):Rel rd kn di (.dt n dp) (.slice A n c)
 |dV {kn di} {cs:List DV} {a:Addr} (U:Nat->Value)
   (ha: ∀(j:Nat) (d:DV),cs[j]? =some d->rd (a.add j) (U j)) (ho: ∀(j:Nat) (d:DV),cs[j]? =some d->eL (U j)=true)
   (h: ∀(j:Nat) (d:DV),cs[j]? =some d->Rel rd (fun _=>False) (fun _=>none) d (U j)):Rel rd kn di (.dV cs) (.pointer (some a))
 |opt {kn di} {b:Bool} {d:DV} {v:Value} (h:b=true->Rel rd kn di d v) (hu:b=false->v=undef):Rel rd kn di (.opt b d) v
 |jt {kn di} {fn:FuncId} {kj:List DV} {vs:Array Value} (hs:vs.size=kj.length)
   (h: ∀(j:Nat) (d:DV) (u:Value),kj[j]? =some d->vs[j]? =some u->Rel rd kn di d u):Rel rd kn di (.jt fn kj) (.func (.func fn) #[] vs)
 |oB {kn di} {fn:FuncId} {fs:List DV} {vs:Array Value} (hs:vs.size=fs.length)
   (h: ∀(j:Nat) (d:DV) (u:Value),fs[j]? =some d->vs[j]? =some u->Rel rd kn di d u):Rel rd kn di (.oB fn fs) (.func (.func fn) vs #[])
 |mp {kn di} {ks:KS} {has:List Int->Bool} {eQ:List Int->DV} {A:Option Nat} (es:List (Value×Value)) (h0:A=none->es=[]) (ha: ∀g,A=some g->rd ⟨g,0,none⟩ (vX es))
   (hk: ∀e∈es,∃l,gz ks e.1=some l/\has l=true) (hh: ∀l,has l=true-> ∃e∈es,gz ks e.1=some l) (hd:es.Pairwise fun x y=>x.1≠y.1)
   (hs: ∀e∈es,eL e.2=true)
   (h: ∀(e:Value×Value) (l:List Int),e∈es->gz ks e.1=some l->Rel rd (fun _=>False) (fun _=>none) (eQ l) e.2):Rel rd kn di (.mp ks has eQ) (.map A)
 |lg {kn di} {id:Nat} {v:Value} (hk:kn id) (hv: ∃g,v= .map (some g)) (h: ∀g bs,di id=some (.map g bs)->v= .map (some g)):Rel rd kn di (.lg id) v
 |tok {kn di} {id m:Nat} {v:Value} (hk:kn id) (ho:eL v=true) (h: ∀u,di id=some (.is u)->v=u):Rel rd kn di (.tok id m) v
 |s6 {kn di} {s id n:Nat} {v:Value} (hk:kn id) (hv: ∃p c,v= .slice p n c/\(p=none->n=0)) (h: ∀g C bs,di id=some (.jc g C bs)->v= .slice (some ⟨g,0,none⟩) n C/\n<=C):Rel rd kn di (.s6 s id n) v
 |kO {kn di} {s id i j:Nat} {v:Value} (hk:kn id) (hv: ∃ad,v= .pointer (some ad)) (h: ∀g C bs,di id=some (.jc g C bs)->v= .pointer (some ⟨g,i*s+j,none⟩)):Rel rd kn di (.kO s id i j) v
 |err {kn di} {b:Bool} {v:Value} (h:b=true->v= .nilIface) (h2:b=false-> ∃t p,v= .iface t p):Rel rd kn di (.err b) v
 |whole {kn di} {cs:Array Value} {g:Nat} (h:rd ⟨g,0,none⟩ (.tuple #[.agg cs])):Rel rd kn di (.whole cs) (.pointer (some ⟨g,0,none⟩))
 |any {kn di} (v:Value):Rel rd kn di .any v
theorem Rel.mono {rd gF:Rd} {kn:Nat->Prop} {di:Nat->Option Loc} {d:DV} {v:Value} (h:Rel rd kn di d v):
 ∀{eV:Nat->Prop} {du:Nat->Option Loc},(∀a u,rd a u->gF a u)->(∀id,kn id->eV id)->
  (∀id l,kn id->du id=some l-> ∃l0,di id=some l0/\l0.core=l.core)->Rel gF eV du d v:=by
 induction h with
 |val v=>intro eV du _ _ _;exact .val v
 |agg hs _ ih=>intro eV du h1 h2 h3;exact .agg hs fun j d u a b=>ih j d u a b h1 h2 h3
 |fC hs _ ih=>intro eV du h1 h2 h3;exact .fC hs fun j d u a b=>ih j d u a b h1 h2 h3
 |ptr hk hv h=>intro eV du h1 h2 h3;exact .ptr (h2 _ hk) hv fun g C e=>let ⟨l0,a,b⟩:=h3 _ _ hk e;h g C (by rw [a,Loc.Fz b])
 |ka hk hv h hs=>intro eV du h1 h2 h3;exact .ka (h2 _ hk) hv (fun g C e=>let ⟨l0,a,b⟩:=h3 _ _ hk e;h g C (by rw [a,Loc.Fz b])) fun g o C e=>let ⟨l0,a,b⟩:=h3 _ _ hk e;hs g o C (by rw [a,Loc.H0 b])
 |row hk hv h0 h hs=>intro eV du h1 h2 h3;exact .row (h2 _ hk) hv (fun e=>let ⟨l0,a,b⟩:=h3 _ _ hk e;h0 (by rw [a,Loc.R6 b])) (fun g C e=>let ⟨l0,a,b⟩:=h3 _ _ hk e;h g C (by rw [a,Loc.Fz b])) fun g o C e=>let ⟨l0,a,b⟩:=h3 _ _ hk e;hs g o C (by rw [a,Loc.H0 b])
 |dt U hc ha hn ho _ ih=>
  intro eV du h1 h2 h3
  exact .dt U hc (fun i j f hi hj=>let ⟨a,e,r⟩:=ha i j f hi hj;⟨a,e,h1 _ _ r⟩) hn ho fun i j f hi hj=>ih i j f hi hj h1 (fun _ h=>h) fun _ _ h=>h.elim
 |dV U ha ho _ ih=>
  intro eV du h1 h2 h3
  exact .dV U (fun j d e=>h1 _ _ (ha j d e)) ho fun j d e=>ih j d e h1 (fun _ h=>h) fun _ _ h=>h.elim
 |opt _ hu ih=>intro eV du h1 h2 h3;exact .opt (fun e=>ih e h1 h2 h3) hu
 |jt hs _ ih=>intro eV du h1 h2 h3;exact .jt hs fun j d u a b=>ih j d u a b h1 h2 h3
 |oB hs _ ih=>intro eV du h1 h2 h3;exact .oB hs fun j d u a b=>ih j d u a b h1 h2 h3
 |mp es h0 ha hk hh hd hs _ ih=>
  intro eV du h1 h2 h3
  exact .mp es h0 (fun g e=>h1 _ _ (ha g e)) hk hh hd hs fun e l a b=>ih e l a b h1 (fun _ h=>h) fun _ _ h=>h.elim
 |lg hk hv h=>intro eV du h1 h2 h3;exact .lg (h2 _ hk) hv fun g bs e=>let ⟨l0,a,b⟩:=h3 _ _ hk e;let ⟨yI,c⟩:=Loc.R7 b;h g yI (by rw [a,c])
 |tok hk ho h=>intro eV du h1 h2 h3;exact .tok (h2 _ hk) ho fun u e=>let ⟨l0,a,b⟩:=h3 _ _ hk e;h u (by rw [a,Loc.U6 b])
 |s6 hk hv h=>intro eV du h1 h2 h3;exact .s6 (h2 _ hk) hv fun g C bs e=>let ⟨l0,a,b⟩:=h3 _ _ hk e;let ⟨yI,c⟩:=Loc.Ef b;h g C yI (by rw [a,c])
 |kO hk hv h=>intro eV du h1 h2 h3;exact .kO (h2 _ hk) hv fun g C bs e=>let ⟨l0,a,b⟩:=h3 _ _ hk e;let ⟨yI,c⟩:=Loc.Ef b;h g C yI (by rw [a,c])
 |err a b=>intro eV du _ _ _;exact .err a b
 |whole h=>intro eV du h1 _ _;exact .whole (h1 _ _ h)
 |any v=>intro eV du _ _ _;exact .any v
def DV.one:DV->Bool
 |.val v=>eL v
 |.ptr .. | .ka .. | .row .. | .dt .. | .dV .. | .jt .. | .oB .. | .mp .. | .lg .. | .tok .. | .s6 .. | .kO .. =>true
 |_=>false
theorem Rel.one {rd:Rd} {kn:Nat->Prop} {di:Nat->Option Loc} {d:DV} {v:Value} (h:Rel rd kn di d v) (ho:d.one=true):eL v=true:=by
 cases h<;>simp only [DV.one,bT] at ho<;>first|exact ho|rfl|skip
 ·rename_i hv _;obtain ⟨p,rfl⟩:=hv;rfl
 ·rename_i hv _ _;obtain ⟨p,rfl⟩:=hv;rfl
 ·rename_i hv _ _ _;obtain ⟨p,c,rfl,_⟩:=hv;rfl
 ·rename_i hv _;obtain ⟨p,rfl⟩:=hv;rfl
 ·assumption
 ·rename_i hv _;obtain ⟨p,c,rfl,_⟩:=hv;rfl
 ·rename_i hv _;obtain ⟨p,rfl⟩:=hv;rfl
def uC:List DV->Bool
 |[]=>true
 |d::r=>bif d.one then uC r else false
theorem sk: ∀{cs:List DV},uC cs=true-> ∀d∈cs,d.one=true
 |[],_,d,hd=>by cases hd
 |c::r,h,d,hd=>by
  simp only [uC] at h
  cases hc:c.one
  ·simp [hc] at h
  ·simp only [hc,ao] at h
   rcases aR.1 hd with rfl|hd
   ·exact hc
   ·exact sk h d hd
def DV.cells? :DV->Option (List DV)
 |.agg cs=>bif uC cs then some cs else none
 |.val (.agg vs)=>bif uC (vs.toList.map .val) then some (vs.toList.map .val) else none
 |d=>bif d.one then some [d] else none
theorem Rel.cells {rd:Rd} {kn:Nat->Prop} {di:Nat->Option Loc} {d:DV} {v:Value} {cs:List DV} (h:Rel rd kn di d v) (hc:d.cells? =some cs):
 v.cells.size=cs.length/\(∀(j:Nat) (e:DV) (u:Value),cs[j]? =some e->v.cells[j]? =some u->Rel rd kn di e u)/\ ∀u∈v.cells.toList,eL u=true:=by
 have single: ∀{d:DV} {v:Value},Rel rd kn di d v->d.one=true->v.cells= #[v]->v.cells.size=[d].length/\
  (∀(j:Nat) (e:DV) (u:Value),[d][j]? =some e->v.cells[j]? =some u->Rel rd kn di e u)/\ ∀u∈v.cells.toList,eL u=true:=by
  intro d v h ho hv
  rw [hv]
  refine ⟨rfl,fun j e u hj hu=> ?_,fun u hu=> ?_⟩
  ·match j,hj,hu with
   |0,hj,hu=>simp at hj hu;subst hj hu;exact h
  ·simp at hu;subst hu;exact h.one ho
 have YT: ∀{v:Value},eL v=true->v.cells= #[v]:=by
  intro v hv;cases v<;>first|rfl|simp [eL] at hv
 have PN:d.one=true->some [d]=some cs->v.cells.size=cs.length/\(∀(j:Nat) (e:DV) (u:Value),cs[j]? =some e->v.cells[j]? =some u->Rel rd kn di e u)/\ ∀u∈v.cells.toList,eL u=true:=by
  intro ho he;cases he;exact single h ho (YT (h.one ho))
 cases d with
 |agg ds=>
  simp only [DV.cells?] at hc
  cases ha:uC ds
  ·simp [ha] at hc
  ·simp only [ha,ao,aa] at hc
   subst hc
   cases h with
   |agg hs hr=>
    rename_i vs
    refine ⟨hs,hr,fun u hu=> ?_⟩
    obtain ⟨j,hj,rfl⟩:=cP.1 hu
    have oJ:j<vs.size:=by simpa [Value.cells] using hj
    have e1:ds[j]? =some (ds[j]'(by omega)):=ak (by omega)
    have e2:vs[j]? =some (vs[j]):=az oJ
    have:=(hr j _ _ e1 e2).one (sk ha _ (List.getElem_mem _))
    simpa [Value.cells] using this
 |val w=>
  cases h
  cases v with
  |agg vs=>
   simp only [DV.cells?] at hc
   cases ha:uC (vs.toList.map DV.val)
   ·simp [ha] at hc
   ·simp only [ha,ao,aa] at hc
    subst hc
    refine ⟨by simp [Value.cells],fun j e u hj hu=> ?_,fun u hu=> ?_⟩
    ·simp only [Value.cells] at hu
     simp only [aw,bo,hu,aA,aa] at hj
     subst hj;exact .val u
    ·exact sk ha (.val u) (cJ hu)
  |_=>first|(simp only [DV.cells?,DV.one,eL,ao] at hc;exact PN rfl hc)|simp [DV.cells?,DV.one,eL] at hc
 |_=>first|(simp only [DV.cells?,DV.one,ao] at hc;exact PN rfl hc)|simp [DV.cells?,DV.one] at hc
def fy:List DV->Option (List Value)
 |[]=>some []
 |.val v::r=>match fy r with
  |some l=>some (v::l)
  |none=>none
 |_=>none
theorem wJ: ∀{cs:List DV} {l:List Value},fy cs=some l->cs=l.map .val
 |[],l,h=>by simp [fy] at h;subst h;rfl
 |.val v::r,l,h=>by
  simp only [fy] at h
  cases hr:fy r with
  |none=>simp [hr] at h
  |some l'=>simp only [hr,aa] at h;subst h;rw [wJ hr];rfl
 |.agg _::_,l,h=>by simp [fy] at h
 |.fC _::_,l,h=>by simp [fy] at h
 |.ptr _ _::_,l,h=>by simp [fy] at h
 |.ka _ _ _ _::_,l,h=>by simp [fy] at h
 |.row _ _ _ _::_,l,h=>by simp [fy] at h
 |.dt _ _::_,l,h=>by simp [fy] at h
 |.dV _::_,l,h=>by simp [fy] at h
 |.opt _ _::_,l,h=>by simp [fy] at h
 |.jt _ _::_,l,h=>by simp [fy] at h
 |.oB _ _::_,l,h=>by simp [fy] at h
 |.mp _ _ _::_,l,h=>by simp [fy] at h
 |.lg _::_,l,h=>by simp [fy] at h
 |.tok _ _::_,l,h=>by simp [fy] at h
 |.s6 _ _ _::_,l,h=>by simp [fy] at h
 |.kO _ _ _ _::_,l,h=>by simp [fy] at h
 |.err _::_,l,h=>by simp [fy] at h
 |.whole _::_,l,h=>by simp [fy] at h
 |.any::_,l,h=>by simp [fy] at h
def nd (cs:List DV):DV:=match fy cs with
 |some l=> .val (.agg l.toArray)
 |none=> .agg cs
theorem Rel.k5 {rd:Rd} {kn:Nat->Prop} {di:Nat->Option Loc} {u v:Value} (h:Rel rd kn di (.val u) v):v=u:=by cases h;rfl
theorem Rel.nd {rd:Rd} {kn:Nat->Prop} {di:Nat->Option Loc} {cs:List DV} {vs:Array Value} (hs:vs.size=cs.length)
 (h: ∀(j:Nat) (d:DV) (u:Value),cs[j]? =some d->vs[j]? =some u->Rel rd kn di d u):Rel rd kn di (nd cs) (.agg vs):=by
 unfold Abs.nd
 cases hv:fy cs with
 |none=>exact .agg hs h
 |some l=>
  have uF:=wJ hv
  subst uF
  have:vs=l.toArray:=by
   apply Array.ext
   ·simpa using hs
   ·intro i h1 h2
    have hl:i<l.length:=by simpa using h2
    have:=(h i (.val l[i]) vs[i] (by simp [hl]) (by simp [h1])).k5
    simpa using this
  rw [this]
  exact .val _
end Go.Abs
end
section
namespace Go.Abs
def trk:Bool:=false
abbrev CO (w w':World):Prop:=trk=true->w.drawn<=w'.drawn
def gl:List (Nat×List DV):=[(0,[1,0,0,1,-1,0,0,-1].map fun n=> .val (.int .i64 n))]
def SL:List (DV×Value):=gl.map fun p=>(.dV p.2,.pointer (some ⟨p.1,0,none⟩))
def jv (rd:Rd):Prop:= ∀d v,(d,v)∈SL->Rel rd (fun _=>False) (fun _=>none) d v
theorem P5 {d:DV} {v:Value} (h:(d,v)∈SL):(∃cs,d= .dV cs)\/ ∃cs,d= .whole cs:=by
 obtain ⟨p,_,e⟩:=bf.1 h
 cases e
 exact .inl ⟨_,rfl⟩
theorem TQ {g:Nat} {cs:List DV} (h:(g,cs)∈gl):(DV.dV cs,Value.pointer (some ⟨g,0,none⟩))∈SL:=bf.2 ⟨(g,cs),h,rfl⟩
theorem jv.mono {rd gF:Rd} (h:jv rd) (hm: ∀a u,rd a u->gF a u):jv gF:=fun d v hd=>(h d v hd).mono hm (fun _ h=>h) fun _ _ h=>h.elim
def ri (p:Prop):Prop:=p->p
theorem Sq:(∀{a:Prop},(a->a)↔True)/\(∀(a:Prop),(a->True)=True)/\(∀(α:Type),(α->True)=True)/\(∀(p:Prop),(p/\True)=p)/\(∀(p:Prop),(True/\p)=p)/\(∀i:Nat,Int.toNat ((i:Int)+1)=i+1)/\(∀i:Nat,Int.toNat ((i:Int)+2)=i+2)/\(Int.toNat 0=0)/\(∀{α:Type} (a b:α),(a≠b)= ¬(a=b))/\(∀n:Nat,Int.toNat (n:Int)=n)/\(∀(p:Prop) [Decidable p] (f:Bool),(if p then true else f)=(decide p||f))/\(∀(p:Prop) [Decidable p] (t:Bool),(if p then t else false)=(decide p&&t))/\(∀{b:Bool} {_:Decidable (b=true)},(decide (b=true))=b)/\(∀(a b:Bool),((a||b)=true)=(a=true\/b=true))/\(∀{x y:Bool},(x||y)=false↔x=false/\y=false)/\(∀(a b:Bool),((a&&b)=true)=(a=true/\b=true))/\(∀{x y:Bool},(x&&y)=false↔(x=true->y=false))/\(∀(b:Bool),((!b)=true)=(b=false))/\(∀(b:Bool),((!b)=false)=(b=true))/\(∀(b:Bool),(!!b)=b)/\(∀{α:Type} [BEq α] [LawfulBEq α] {a b:α},(a !=b)=true↔a≠b)/\(∀{α:Type} [BEq α] [LawfulBEq α] {a b:α},(a !=b)=false↔a=b)/\(∀{α:Type} [BEq α] [LawfulBEq α] {a b:α},(a==b)=true↔a=b)/\(∀{α:Type} [BEq α] [LawfulBEq α] {a b:α},(a==b)=false↔a≠b)/\(∀{p:Prop} [Decidable p],(decide p=true)=p)/\(∀{p:Prop} {_:Decidable p},(decide p=false)↔ ¬p)/\(∀p:Prop,ri p=True):=⟨@imp_self,fun a=>bO a,fun α=>bO α,b8,ck,fun i=>by omega,fun i=>by omega,rfl,@ne_eq,@Int.toNat_natCast,@Bool.if_true_left,@Bool.if_false_right,@Bool.decide_eq_true,@Bool.or_eq_true,@Bool.or_eq_false_iff,@Bool.and_eq_true,@Bool.and_eq_false_imp,@Bool.not_eq_true',@Bool.not_eq_false',@Bool.not_not,@bne_iff_ne,@bne_eq_false_iff_eq,@beq_iff_eq,@beq_eq_false_iff_ne,@decide_eq_true_eq,@decide_eq_false_iff_not,fun _=>eq_true id⟩
end Go.Abs
end
section
namespace Go.Abs
open Go.RowKit
inductive fF where
 |box (cs:List DV)
 |row (n:Nat) (dp:List (Nat->DV))
 |pR (n:Nat) (dp:List (Nat->DV))
 |map (ks:KS) (has:List Int->Bool) (eQ:List Int->DV) (qY:Option (Nat×List Int))
 |np (ks:KS) (len:List Int->Nat) (eQ:List Int->Nat->DV) (qY:List (Nat×List Int)) (sV:Option (List Int))
 |tok
 |jc (n s:Nat) (len:Nat->Nat->Nat) (eQ:Nat->Nat->Nat->DV) (sV:Option (Nat×Nat))
 |exact (g:Nat) (o:Obj)
def look {α:Type}:List (Nat×α)->Nat->Option α
 |[],_=>none
 |(k,v)::r,i=>bif Nat.beq k i then some v else look r i
structure St where
 t:List (Nat×DV)
 h:List (Nat×Option fF)
 nx:Nat
 nt:Nat
 rn:Bool:=false
 lo:Nat:=0
def St.get (σ:St) (t:Nat):DV:=match look σ.t t with|some d=>d|none=> .any
def St.obj (σ:St) (id:Nat):Option fF:=match look σ.h id with|some o=>o|none=>none
theorem dG {α:Type} (k:Nat) (v:α) (r:List (Nat×α)) (i:Nat):look ((k,v)::r) i=if k=i then some v else look r i:=by
 simp only [look]
 by_cases h:k=i
 ·subst h;simp
 ·have:Nat.beq k i=false:=by
   cases hb:Nat.beq k i
   ·rfl
   ·exact absurd (af hb) h
  simp [this,h]
def St.put (σ:St) (t:Nat) (d:DV):St:={ σ with t:=(t,d)::σ.t }
def St.setObj (σ:St) (id:Nat) (o:Option fF):St:={ σ with h:=(id,o)::σ.h }
theorem St.UQ (σ:St) (t:Nat) (d:DV) (i:Nat):(σ.put t d).get i=if t=i then d else σ.get i:=by
 unfold St.get St.put
 rw [dG]
 by_cases h:t=i<;>simp [h]
theorem St.dH (σ:St) (id:Nat) (o:Option fF) (i:Nat):(σ.setObj id o).obj i=if id=i then o else σ.obj i:=by
 unfold St.obj St.setObj
 rw [dG]
 by_cases h:id=i<;>simp [h]
structure Env where
 S:Nat->Prop
 sh:List (DV×Value)
 wr:World
 wb:Option Nat
 X:Nat->Prop
 pv:Nat->Value
structure Below (B:Nat) (w w':World):Prop where
 os:w'.os=w.os
 tape:w'.tape=w.tape
 output:w'.output=w.output
 size:w.heap.size<=w'.heap.size
 block: ∀k,k<B->w'.heap[k]? =w.heap[k]?
 drawn:CO w w'
theorem Below.lib {B:Nat} {w w':World} (h:Below B w w'):Go.RowKit.Below B w w':=⟨h.os,h.tape,h.output,h.size,h.block⟩
theorem Below.refl (B:Nat) (w:World):Below B w w:=⟨rfl,rfl,rfl,ae _,fun _ _=>rfl,fun _=>ae _⟩
theorem Below.trans {B:Nat} {a b c:World} (h:Below B a b) (k:Below B b c):Below B a c:=
 ⟨k.os.trans h.os,k.tape.trans h.tape,k.output.trans h.output,aV h.size k.size,fun i hi=>(k.block i hi).trans (h.block i hi),fun t=>aV (h.drawn t) (k.drawn t)⟩
theorem Below.mono {B B':Nat} {w w':World} (h:Below B w w') (hB:B'<=B):Below B' w w':=⟨h.os,h.tape,h.output,h.size,fun k hk=>h.block k (bt hk hB),h.drawn⟩
theorem Below.alloc {B:Nat} {a w:World} (h:Below B a w) (hB:B<=w.heap.size) (o:Obj):Below B a (w.alloc o):=
 have k:=Go.RowKit.Below.alloc h.lib hB o
 ⟨k.os,k.tape,k.output,k.size,k.block,h.drawn⟩
theorem Below.heap_alloc (w:World) (o:Obj) (k:Nat) (h:k<w.heap.size):(w.alloc o).heap[k]? =w.heap[k]? :=Go.RowKit.Below.heap_alloc w o k h
structure gM (base:Nat) (X:Nat->Prop) (w w':World):Prop where
 os:w'.os=w.os
 tape:w'.tape=w.tape
 output:w'.output=w.output
 size:w.heap.size<=w'.heap.size
 block: ∀k,k<base-> ¬X k->w'.heap[k]? =w.heap[k]?
 drawn:CO w w'
theorem gM.trans {base:Nat} {X:Nat->Prop} {w w' w'':World} (h:gM base X w w') (k:gM base X w' w''):gM base X w w'':=
 ⟨k.os.trans h.os,k.tape.trans h.tape,k.output.trans h.output,aV h.size k.size,fun i hi hx=>(k.block i hi hx).trans (h.block i hi hx),fun t=>aV (h.drawn t) (k.drawn t)⟩
theorem gM.refl (base:Nat) (X:Nat->Prop) (w:World):gM base X w w:=⟨rfl,rfl,rfl,ae _,fun _ _ _=>rfl,fun _=>ae _⟩
theorem gM.of {base:Nat} {X:Nat->Prop} {w w':World} (h:Below base w w'):gM base X w w':=⟨h.os,h.tape,h.output,h.size,fun k hk _=>h.block k hk,h.drawn⟩
theorem gM.none {base:Nat} {X:Nat->Prop} {w w':World} (h:gM base X w w') (hX: ∀k,¬X k):Below base w w':=⟨h.os,h.tape,h.output,h.size,fun k hk=>h.block k hk (hX k),h.drawn⟩
def Ar (w:World) (a:Addr) (u:Value):Prop:=(w.cell? a=some u/\eL u=true)\/(∃es c,w.heap[a.block]? =some (.map es c)/\u=vX (es.toList.map fun e=>(e.key,e.val)))\/ ∃cs T fr,w.heap[a.block]? =some (.cells cs T fr)/\u= .tuple #[.agg cs]
def A3 (o:Obj):Prop:=(∃es c,o= .map es c)\/ ∃m s q c,o= .mapIter m s q c
def jZ (w:World) (g:Nat):Prop:= ∃o,w.heap[g]? =some o/\A3 o
theorem tt {ds:Option (List Deferred)}: ¬A3 (.deferred ds):=fun h=>by rcases h with ⟨_,_,h⟩|⟨_,_,_,_,h⟩<;>cases h
theorem nc {w:World} {g:Nat} {ds:Option (List Deferred)} (h:w.heap[g]? =some (.deferred ds)): ¬jZ w g:=fun ⟨o,h1,h2⟩=>by rw [h] at h1;cases h1;exact tt h2
theorem jZ.mk {w:World} {g:Nat} {es:Array MapEntry} {c:Nat} (h:w.heap[g]? =some (.map es c)):jZ w g:=⟨_,h,.inl ⟨_,_,rfl⟩⟩
theorem o6 {w:World} {a:Addr} {u:Value} (h:Ar w a u) (ho:eL u=true):w.cell? a=some u:=by
 rcases h with h|⟨es,c,_,rfl⟩|⟨cs,T,fr,_,rfl⟩
 ·exact h.1
 ·simp [vX,eL] at ho
 ·simp [eL] at ho
theorem TX {w:World} {a:Addr} {es:List (Value×Value)} (h:Ar w a (vX es)): ∃kZ c,w.heap[a.block]? =some (.map kZ c)/\es=kZ.toList.map fun e=>(e.key,e.val):=by
 rcases h with h|⟨kZ,c,h,e⟩|⟨cs,T,fr,h,e⟩
 ·simp [vX,eL] at h
 ·exact ⟨kZ,c,h,Oc e⟩
 ·exfalso
  unfold vX at e
  cases es with
  |nil=>simp at e
  |cons x r=>simp at e
def dq (w:World) (base:Nat) (S0:Env) (di:Nat->Option Loc):Rd:=fun a u=>
 Ar w a u/\(∀id l,di id=some l-> ¬l.has a.block)/\(S0.S a.block\/base<=a.block)/\ ∀B,S0.wb=some B->jZ w a.block->a.block<B
abbrev dA (rd:Rd) (d:DV) (v:Value):Prop:=Rel rd (fun _=>False) (fun _=>none) d v
structure BN (rd:Rd) (ks:KS) (has:List Int->Bool) (eQ:List Int->DV) (es:List MapEntry):Prop where
 hk: ∀e∈es,∃l,gz ks e.key=some l/\has l=true
 hh: ∀l,has l=true-> ∃e∈es,gz ks e.key=some l
 hd:es.Pairwise fun x y=>x.key≠y.key
 hs: ∀e∈es,eL e.val=true
 h: ∀(e:MapEntry) (l:List Int),e∈es->gz ks e.key=some l->dA rd (eQ l) e.val
structure KX (es:List MapEntry) (clock:Nat):Prop where
 apart:es.Pairwise fun x y=>x.born≠y.born
 below: ∀e∈es,e.born<clock
def xV (w:World) (rd:Rd) (bs:List Nat) (n:Nat) (c:Nat->DV) (v:Value):Prop:=(v= .slice none 0 0/\n=0)\/ ∃g C cv T,v= .slice (some ⟨g,0,none⟩) n C/\g∈bs/\w.heap[g]? =some (.cells cv T (0,0))/\cv.size=C/\n<=C/\
 ∀i,i<n-> ∃u,cv[i]? =some u/\eL u=true/\dA rd (c i) u
structure BO (w:World) (rd:Rd) (bs:List Nat) (ks:KS) (len:List Int->Nat) (eQ:List Int->Nat->DV) (sV:Option (List Int)) (es:List MapEntry):Prop where
 hk: ∀e∈es,∃l,gz ks e.key=some l
 hd:es.Pairwise fun x y=>x.key≠y.key
 E0: ∀l,(∀e∈es,gz ks e.key≠some l)->sV≠some l->len l=0
 Ju: ∀e l,e∈es->gz ks e.key=some l->sV≠some l->xV w rd bs (len l) (eQ l) e.val
 sep: ∀e e' l l' g n C n' C',e∈es->e'∈es->gz ks e.key=some l->gz ks e'.key=some l'->sV≠some l->sV≠some l'->e.key≠e'.key->e.val= .slice (some ⟨g,0,none⟩) n C->e'.val≠ .slice (some ⟨g,0,none⟩) n' C'
structure FO (w:World) (rd:Rd) (bs:List Nat) (n s:Nat) (len:Nat->Nat->Nat) (eQ:Nat->Nat->Nat->DV) (sV:Option (Nat×Nat)) (cv:Array Value):Prop where
 Ju: ∀i j,i<n->j<s->sV≠some (i,j)-> ∃v,cv[i*s+j]? =some v/\xV w rd bs (len i j) (eQ i j) v
 sep: ∀i j i' j' g m C m' C',i<n->j<s->i'<n->j'<s->sV≠some (i,j)->sV≠some (i',j')->(i,j)≠(i',j')->cv[i*s+j]? =some (.slice (some ⟨g,0,none⟩) m C)->cv[i'*s+j']? ≠some (.slice (some ⟨g,0,none⟩) m' C')
theorem xV.keep {w w':World} {rd gF:Rd} {bs:List Nat} {n:Nat} {c:Nat->DV} {v:Value} (h:xV w rd bs n c v) (hr: ∀{d u},dA rd d u->dA gF d u) (hk: ∀k,k∈bs->w'.heap[k]? =w.heap[k]?):xV w' gF bs n c v:=by
 rcases h with h|⟨g,C,cv,T,h1,h2,h3,h4,h5,h6⟩
 ·exact .inl h
 ·exact .inr ⟨g,C,cv,T,h1,h2,by rw [hk g h2];exact h3,h4,h5,fun i hi=>let ⟨u,a,b,c⟩:=h6 i hi;⟨u,a,b,hr c⟩⟩
theorem FO.mono {w w':World} {rd gF:Rd} {bs:List Nat} {n s:Nat} {len:Nat->Nat->Nat} {eQ:Nat->Nat->Nat->DV} {sV:Option (Nat×Nat)} {cv:Array Value} (h:FO w rd bs n s len eQ sV cv) (hr: ∀{d u},dA rd d u->dA gF d u) (hk: ∀k,k∈bs->w'.heap[k]? =w.heap[k]?):FO w' gF bs n s len eQ sV cv:=
 ⟨fun i j a b c=>let ⟨v,x,y⟩:=h.Ju i j a b c;⟨v,x,y.keep hr hk⟩,h.sep⟩
def atKey (ks:KS) (es:List MapEntry) (l:List Int) (v:Value):Prop:=(∃e∈es,gz ks e.key=some l/\e.val=v)\/((∀e∈es,gz ks e.key≠some l)/\v= .slice none 0 0)
def iu (w:World) (rd:Rd) (kn:Nat->Prop) (di:Nat->Option Loc) (l:Option Loc):fF->Prop
 |.box cs=> ∃g C cv T,l=some (.at_ g C)/\w.heap[g]? =some (.cells cv T (0,0))/\cv.size=cs.length/\(∀(j:Nat) (d:DV) (u:Value),cs[j]? =some d->cv[j]? =some u->Rel rd kn di d u)/\ ∀u∈cv.toList,eL u=true
 |.row n dp=>(l=some .nil/\n=0)\/ ∃g C cv T,l=some (.at_ g C)/\w.heap[g]? =some (.cells cv T (0,0))/\cv.size=C*dp.length/\n<=C/\
   ∀(i j:Nat) (f:Nat->DV),i<n->dp[j]? =some f-> ∃u,cv[i*dp.length+j]? =some u/\eL u=true/\dA rd (f i) u
 |.pR n dp=>(l=some .nil/\n=0)\/ ∃g o C cv T,(l=some (.sub g o C)\/(l=some (.at_ g C)/\o=0))/\w.heap[g]? =some (.cells cv T (0,0))/\o+C*dp.length<=cv.size/\n<=C/\
   ∀(i j:Nat) (f:Nat->DV),i<n->dp[j]? =some f-> ∃u,cv[o+(i*dp.length+j)]? =some u/\eL u=true/\dA rd (f i) u
 |.map ks has eQ qY=> ∃g es clock,l=some (.map g [])/\w.heap[g]? =some (.map es clock)/\BN rd ks has eQ es.toList/\KX es.toList clock/\
   ∀t k,qY=some (t,k)-> ∃e∈es.toList,gz ks e.key=some k/\di t=some (.is (.int .i64 e.born))
 |.np ks len eQ qY sV=> ∃g bs es clock,l=some (.map g bs)/\w.heap[g]? =some (.map es clock)/\BO w rd bs ks len eQ sV es.toList/\(∀b,b∈bs-> ∃cv T,w.heap[b]? =some (.cells cv T (0,0)))/\
   ∀t k,(t,k)∈qY-> ∃v,di t=some (.is v)/\atKey ks es.toList k v
 |.tok=> ∃v,l=some (.is v)
 |.jc n s len eQ sV=> ∃g C bs cv T,l=some (.jc g C bs)/\w.heap[g]? =some (.cells cv T (0,0))/\cv.size=C*s/\n<=C/\FO w rd bs n s len eQ sV cv/\ ∀b,b∈bs->b≠g/\ ∃cv T,w.heap[b]? =some (.cells cv T (0,0))
 |.exact g o=>l=some (.map g [])/\w.heap[g]? =some o/\A3 o
def ndF:DV×Value:=(.any,.int .i64 77)
structure R (base:Nat) (w0:World) (S0:Env) (σ:St) (kn:Nat->Prop) (di:Nat->Option Loc) (a:Act) (w:World):Prop where
 below:gM base S0.X w0 w
 xs: ∀k,S0.X k->S0.S k
 fv:base<=w.heap.size
 qD:(a.defers.Nodup/\(ndF∈S0.sh->a.defers=[]))/\ ∀d∈a.defers,∃D,d={ target:= .collected D,args:= #[] }/\base<=D/\w.heap[D]? =some (.deferred (some []))
 nM:S0.wr.heap.size<=w.heap.size/\(∀B,S0.wb=some B->KeepsFrom B S0.wr w)/\ ∀(k:Nat) (o:Obj),S0.wr.heap[k]? =some o->o.isCells=false-> ¬A3 o->w.heap[k]? =some o
 J2:S0.wb≠none->σ.rn=true
 lh: ∀B,S0.wb=some B-> ∀id g bs,di id=some (.map g bs)->g<B
 yk: ∀d v,(d,v)∈SL++S0.sh->Rel (dq w base S0 di) kn di d v
 size:a.tmps.size=σ.nt
 tmps: ∀t,Rel (dq w base S0 di) kn di (σ.get t) (a.tmps.getD t undef)
 eC: ∀id o,σ.obj id=some o->kn id/\iu w (dq w base S0 di) kn di (di id) o
 inj: ∀id kN l l' g,di id=some l->di kN=some l'->l.has g->l'.has g->id=kN
 ge: ∀id l g,di id=some l->l.has g->(base<=g\/S0.X g)/\g<w.heap.size
 live: ∀id l,di id=some l-> ∃o,σ.obj id=some o
 yr: ∀t,t<σ.lo->a.tmps.getD t undef=S0.pv t
section
variable {base:Nat} {w0 w w':World} {S0:Env} {σ:St} {kn eV:Nat->Prop} {di du:Nat->Option Loc} {a:Act}
structure SF (w w':World) (kn eV:Nat->Prop) (di du:Nat->Option Loc):Prop where
 size:w.heap.size<=w'.heap.size
 keep: ∀k,k<w.heap.size->(∀id l,di id=some l-> ¬l.has k)->w'.heap[k]? =w.heap[k]?
 new: ∀id l g,du id=some l->l.has g->(∃kN l',di kN=some l'/\l'.has g)\/w.heap.size<=g
 known: ∀id,kn id->eV id
 back: ∀id l,kn id->du id=some l-> ∃l0,di id=some l0/\l0.core=l.core
 fwd: ∀id v,kn id->di id=some (.is v)->du id=some (.is v)
theorem World.yJ (w:World) (o:Obj) (i:Nat) (h:i<w.heap.size):(w.alloc o).heap[i]? =w.heap[i]? :=((Below.refl w.heap.size w).alloc (ae _) o).block i h
theorem ef {w:World} {k:Nat} {o:Obj} (h:w.heap[k]? =some o):k<w.heap.size:=(aF.1 h).1
theorem Hu {w w':World} (hb:Below w.heap.size w w'):KeepsOthers w w':=⟨hb.size,fun k o hk _=>by rw [hb.block k (ef hk)];exact hk⟩
theorem KeepsB.below {w w':World} (hb:Below w.heap.size w w') (B:Nat):KeepsFrom B w w':=(Hu hb).from B
theorem Vf {w:World} {a:Addr} {u:Value} (h:w.cell? a=some u):a.block<w.heap.size:=by
 rcases a8 a.block w.heap.size with dR|iG
 ·exact dR
 ·unfold World.cell? at h
  rw [Array.getElem?_eq_none iG] at h
  cases h
theorem gD {w:World} {a:Addr} {u:Value} (h:Ar w a u):a.block<w.heap.size:=by
 rcases h with h|⟨es,c,h,_⟩|⟨cs,T,fr,h,_⟩
 ·exact Vf h.1
 ·exact ef h
 ·exact ef h
theorem tN {w w':World} {a:Addr} {u:Value} (hk:w'.heap[a.block]? =w.heap[a.block]?) (h:Ar w a u):Ar w' a u:=by
 rcases h with h|⟨es,c,h,e⟩|⟨cs,T,fr,h,e⟩
 ·exact .inl ⟨by rw [World.cell?_of_block hk];exact h.1,h.2⟩
 ·exact .inr (.inl ⟨es,c,by rw [hk];exact h,e⟩)
 ·exact .inr (.inr ⟨cs,T,fr,by rw [hk];exact h,e⟩)
theorem qo {w w':World} {g:Nat} (hk:w'.heap[g]? =w.heap[g]?) (h:jZ w' g):jZ w g:=by
 obtain ⟨o,h,h2⟩:=h
 exact ⟨o,by rw [<-hk];exact h,h2⟩
theorem SF.rd (c:SF w w' kn eV di du): ∀a u,dq w base S0 di a u->dq w' base S0 du a u:=by
 rintro a u ⟨h1,h2,h3,h4⟩
 have hk:=c.keep _ (gD h1) h2
 refine ⟨tN hk h1,?_,h3,fun B hB hm=>h4 B hB (qo hk hm)⟩
 intro id l e hl
 rcases c.new id l _ e hl with ⟨kN,l',e',lG⟩|iG
 ·exact h2 _ _ e' lG
 ·have:=gD h1;omega
theorem SF.rel (c:SF w w' kn eV di du) {d:DV} {v:Value} (h:Rel (dq w base S0 di) kn di d v):Rel (dq w' base S0 du) eV du d v:=
 h.mono c.rd c.known c.back
theorem SF.No (c:SF w w' kn eV di du) {d:DV} {v:Value} (h:dA (dq w base S0 di) d v):dA (dq w' base S0 du) d v:=
 h.mono c.rd (fun _ h=>h) fun _ _ h=>h.elim
theorem BN.mono {rd gF:Rd} {ks:KS} {has:List Int->Bool} {eQ:List Int->DV} {es:List MapEntry} (h:BN rd ks has eQ es) (hm: ∀{d v},dA rd d v->dA gF d v):BN gF ks has eQ es:=
 ⟨h.hk,h.hh,h.hd,h.hs,fun e l a b=>hm (h.h e l a b)⟩
theorem xV.mono {rd gF:Rd} {bs yI:List Nat} {n:Nat} {c:Nat->DV} {v:Value} (h:xV w rd bs n c v) (hm: ∀{d v},dA rd d v->dA gF d v) (hk: ∀g,g∈bs->v=v->w'.heap[g]? =w.heap[g]?) (hb: ∀g,g∈bs->g∈yI):xV w' gF yI n c v:=by
 rcases h with h|⟨g,C,cv,T,h1,h2,h3,h4,h5,h6⟩
 ·exact .inl h
 ·exact .inr ⟨g,C,cv,T,h1,hb g h2,by rw [hk g h2 rfl];exact h3,h4,h5,fun i hi=>let ⟨u,a,b,c⟩:=h6 i hi;⟨u,a,b,hm c⟩⟩
theorem BO.mono {rd gF:Rd} {bs:List Nat} {ks:KS} {len:List Int->Nat} {eQ:List Int->Nat->DV} {sV:Option (List Int)} {es:List MapEntry} (h:BO w rd bs ks len eQ sV es) (hm: ∀{d v},dA rd d v->dA gF d v) (hk: ∀g,g∈bs->w'.heap[g]? =w.heap[g]?):BO w' gF bs ks len eQ sV es:=
 ⟨h.hk,h.hd,h.E0,fun e l a b c=>(h.Ju e l a b c).mono hm (fun g hg _=>hk g hg) fun _ hg=>hg,h.sep⟩
theorem SF.obj (c:SF w w' kn eV di du) (kr: ∀t v,di t=some (.is v)->kn t) {l:Option Loc} {o:fF} (h:iu w (dq w base S0 di) kn di l o)
 (hk: ∀l',l=some l'-> ∀g,l'.has g->w'.heap[g]? =w.heap[g]?):iu w' (dq w' base S0 du) eV du l o:=by
 cases o with
 |box cs=>
  obtain ⟨g,C,cv,T,hl,hh,hs,hr,ho⟩:=h
  exact ⟨g,C,cv,T,hl,by rw [hk _ hl g rfl];exact hh,hs,fun j d u a b=>c.rel (hr j d u a b),ho⟩
 |row n dp=>
  rcases h with ⟨hl,hn⟩|⟨g,C,cv,T,hl,hh,hs,hn,hr⟩
  ·exact .inl ⟨hl,hn⟩
  ·exact .inr ⟨g,C,cv,T,hl,by rw [hk _ hl g rfl];exact hh,hs,hn,fun i j f a b=>let ⟨u,e,o,r⟩:=hr i j f a b;⟨u,e,o,c.No r⟩⟩
 |pR n dp=>
  rcases h with ⟨hl,hn⟩|⟨g,o,C,cv,T,hl,hh,hs,hn,hr⟩
  ·exact .inl ⟨hl,hn⟩
  ·have UI:w'.heap[g]? =w.heap[g]? :=by rcases hl with hl|⟨hl,_⟩<;>exact hk _ hl g rfl
   exact .inr ⟨g,o,C,cv,T,hl,by rw [UI];exact hh,hs,hn,fun i j f a b=>let ⟨u,e,o,r⟩:=hr i j f a b;⟨u,e,o,c.No r⟩⟩
 |map ks has eQ qY=>
  obtain ⟨g,es,clock,hl,hh,hm,mh,nV⟩:=h
  exact ⟨g,es,clock,hl,by rw [hk _ hl g (.inl rfl)];exact hh,hm.mono c.No,mh,fun t k e=>let ⟨e0,a,b,d⟩:=nV t k e;⟨e0,a,b,c.fwd _ _ (kr _ _ d) d⟩⟩
 |np ks len eQ qY sV=>
  obtain ⟨g,bs,es,clock,hl,hh,hm,rV,nV⟩:=h
  exact ⟨g,bs,es,clock,hl,by rw [hk _ hl g (.inl rfl)];exact hh,hm.mono c.No (fun k kE=>hk _ hl k (.inr kE)),fun b hb=>by rw [hk _ hl b (.inr hb)];exact rV b hb,fun t k e=>let ⟨v,a,b⟩:=nV t k e;⟨v,c.fwd _ _ (kr _ _ a) a,b⟩⟩
 |jc n s len eQ sV=>
  obtain ⟨g,C,bs,cv,T,hl,hh,hs,hn,hG,rV⟩:=h
  exact ⟨g,C,bs,cv,T,hl,by rw [hk _ hl g (.inl rfl)];exact hh,hs,hn,hG.mono c.No (fun k kE=>hk _ hl k (.inr kE)),fun b hb=>by rw [hk _ hl b (.inr hb)];exact rV b hb⟩
 |tok=>exact h
 |exact g o=>
  obtain ⟨hl,hh,ho⟩:=h
  exact ⟨hl,by rw [hk _ hl g (.inl rfl)];exact hh,ho⟩
theorem R.known (r:R base w0 S0 σ kn di a w) {id:Nat} {l:Loc} (h:di id=some l):kn id:=let ⟨o,ho⟩:=r.live _ _ h;(r.eC id o ho).1
theorem R.pb (r:R base w0 S0 σ kn di a w) {id g:Nat} {l:Loc} (hl:di id=some l) (hg:l.has g):(∃cv T,w.heap[g]? =some (.cells cv T (0,0)))\/ ∃bs o,l= .map g bs/\w.heap[g]? =some o/\A3 o:=by
 obtain ⟨o,ho⟩:=r.live _ _ hl
 have h:=(r.eC _ _ ho).2
 rw [hl] at h
 cases o with
 |box cs=>obtain ⟨g',C',cv,T,e,h2,_⟩:=h;cases e;cases hg;exact .inl ⟨_,_,h2⟩
 |row n dp=>
  rcases h with ⟨e,_⟩|⟨g',C',cv,T,e,h2,_⟩
  ·cases e;exact hg.elim
  ·cases e;cases hg;exact .inl ⟨_,_,h2⟩
 |pR n dp=>
  rcases h with ⟨e,_⟩|⟨g',o',C',cv,T,e,h2,_⟩
  ·cases e;exact hg.elim
  ·rcases e with e|⟨e,_⟩<;>(cases e;cases hg;exact .inl ⟨_,_,h2⟩)
 |map ks has eQ qY=>
  obtain ⟨g',es,clock,e,h2,_⟩:=h
  cases e
  rcases hg with rfl|hg
  ·exact .inr ⟨_,_,rfl,h2,.inl ⟨_,_,rfl⟩⟩
  ·cases hg
 |np ks len eQ qY sV=>
  obtain ⟨g',bs,es,clock,e,h2,_,h3,_⟩:=h
  cases e
  rcases hg with rfl|hg
  ·exact .inr ⟨_,_,rfl,h2,.inl ⟨_,_,rfl⟩⟩
  ·exact .inl (h3 _ hg)
 |jc n s len eQ sV=>
  obtain ⟨g',C,bs,cv,T,e,h2,_,_,_,h3⟩:=h
  cases e
  rcases hg with rfl|hg
  ·exact .inl ⟨_,_,h2⟩
  ·exact .inl (h3 _ hg).2
 |tok=>obtain ⟨v,e⟩:=h;cases e;exact hg.elim
 |exact g' o=>
  obtain ⟨e,h2,h3⟩:=h
  cases e
  rcases hg with rfl|hg
  ·exact .inr ⟨_,_,rfl,h2,h3⟩
  ·cases hg
theorem R.AI (r:R base w0 S0 σ kn di a w) {id g:Nat} {l:Loc} {ds:Option (List Deferred)} (hl:di id=some l) (hg:l.has g):w.heap[g]? ≠some (.deferred ds):=by
 intro hh
 rcases r.pb hl hg with ⟨_,_,h⟩|⟨_,_,_,h,h2⟩
 ·rw [hh] at h;cases h
 ·rw [hh] at h;cases h
  rcases h2 with ⟨_,_,h2⟩|⟨_,_,_,_,h2⟩<;>cases h2
theorem R.fwdk (r:R base w0 S0 σ kn di a w): ∀t v,di t=some (.is v)->kn t:=fun _ _ h=>r.known h
theorem R.step (r:R base w0 S0 σ kn di a w) {σ':St} (X T:Nat->Prop) (eW:w.heap.size<=w'.heap.size) (Rc:w'.os=w.os) (Q4:w'.tape=w.tape) (qs:w'.output=w.output)
 (hk: ∀k,k<w.heap.size-> ¬X k->w'.heap[k]? =w.heap[k]?) (hX: ∀k,X k-> ∃id l,T id/\di id=some l/\l.has k) (kr: ∀i,kn i->eV i) (hT: ∀i,¬T i->du i=di i)
 (htok: ∀i v,T i->kn i->di i=some (.is v)->du i=some (.is v)) (yX: ∀i l g,T i->du i=some l->l.has g->(∃i0 l0,T i0/\di i0=some l0/\l0.has g)\/(w.heap.size<=g/\g<w'.heap.size))
 (HG: ∀i l,T i->kn i->du i=some l-> ∃l0,di i=some l0/\l0.core=l.core)
 (UB:σ'.nt=σ.nt) (Mn:σ'.rn=σ.rn) (j5:σ'.lo=σ.lo) (qu: ∀t,σ'.get t=σ.get t) (hN: ∀i,¬T i->σ'.obj i=σ.obj i)
 (nk:SF w w' kn eV di du->(∀{d v},Rel (dq w base S0 di) kn di d v->Rel (dq w' base S0 du) eV du d v)->(∀{d v},dA (dq w base S0 di) d v->dA (dq w' base S0 du) d v)-> ∀i o,T i->σ'.obj i=some o->eV i/\iu w' (dq w' base S0 du) eV du (du i) o)
 (hlive: ∀i l,T i->du i=some l-> ∃o,σ'.obj i=some o) (hinj: ∀i i' l l' g,T i->T i'->du i=some l->du i'=some l'->l.has g->l'.has g->i=i')
 (hlow: ∀B,S0.wb=some B-> ∀i g bs,T i->du i=some (.map g bs)->g<B) (N1:CO w w':=by exact fun _=>ae _):R base w0 S0 σ' eV du a w':=by
 have hXb: ∀k,X k->base<=k\/S0.X k:=fun k h=>by obtain ⟨id,l,_,hl,hg⟩:=hX k h;exact (r.ge id l k hl hg).1
 have hb:gM base S0.X w w':=⟨Rc,Q4,qs,eW,fun k kE hx=>hk k (bt kE r.fv) (fun h=>by rcases hXb k h with h|h;omega;exact hx h),N1⟩
 have c:SF w w' kn eV di du:=by
  refine ⟨eW,fun k uf hm=>hk k uf fun h=>by obtain ⟨id,l,_,hl,hg⟩:=hX k h;exact hm id l hl hg,fun id l g e hg=> ?_,kr,fun id l hi e=> ?_,fun id v hi e=> ?_⟩
  ·by_cases h:T id
   ·rcases yX id l g h e hg with ⟨i0,l0,_,h1,h2⟩|h1
    ·exact .inl ⟨i0,l0,h1,h2⟩
    ·exact .inr h1.1
   ·exact .inl ⟨id,l,by rw [<-hT id h];exact e,hg⟩
  ·by_cases h:T id
   ·exact HG id l h hi e
   ·exact ⟨l,by rw [<-hT id h];exact e,rfl⟩
  ·by_cases h:T id
   ·exact htok id v h hi e
   ·rw [hT id h];exact e
 have nX: ∀{i l k},¬T i->di i=some l->l.has k-> ¬X k:=fun {i l k} hi hl hg h=>by
  obtain ⟨id,l',fJ,lG,nJ⟩:=hX k h
  exact hi (r.inj _ _ _ _ _ lG hl nJ hg▸fJ)
 refine ⟨r.below.trans hb,r.xs,aV r.fv eW,⟨r.qD.1,fun d hd=>let ⟨D,e,hD,hh⟩:=r.qD.2 d hd;⟨D,e,hD,by
  rw [hk D (ef hh) (fun h=>by obtain ⟨id,l,_,hl,hg⟩:=hX D h;exact r.AI hl hg hh)];exact hh⟩⟩,
  ⟨aV r.nM.1 eW,fun B hB=>(r.nM.2.1 B hB).trans ⟨eW,fun k o hBk ho hc=> ?_⟩,fun k o ho hc hm=>by
    have h1:=r.nM.2.2 k o ho hc hm
    rw [hk k (ef h1) (fun h=>by
     obtain ⟨id,l,_,hl,hg⟩:=hX k h
     rcases r.pb hl hg with ⟨_,_,h'⟩|⟨bs,o',_,h',h2⟩
     ·rw [h1] at h';cases h';cases hc
     ·rw [h1] at h';cases h';exact hm h2)];exact h1⟩,fun h=>by rw [Mn];exact r.J2 h,fun B hB i g bs e=> ?_,
  fun d v h=>c.rel (r.yk d v h),by rw [UB];exact r.size,fun t=>by rw [qu];exact c.rel (r.tmps t),fun i o h=> ?_,fun i i' l l' g h1 h2 h3 h4=> ?_,fun i l g e hg=> ?_,fun i l e=> ?_,fun t ht=>r.yr t (by rw [<-j5];exact ht)⟩
 ·rw [hk k (ef ho) (fun h=>by
   obtain ⟨id,l,_,hl,hg⟩:=hX k h
   rcases r.pb hl hg with ⟨_,_,h'⟩|⟨bs,_,rfl,_⟩
   ·rw [ho] at h';cases h';cases hc
   ·have:=r.lh B hB id k bs hl;omega)];exact ho
 ·by_cases h:T i
  ·exact hlow B hB i g bs h e
  ·exact r.lh B hB i g bs (by rw [<-hT i h];exact e)
 ·by_cases hi:T i
  ·exact nk c c.rel c.No i o hi h
  ·rw [hN i hi] at h
   obtain ⟨k1,k2⟩:=r.eC i o h
   refine ⟨kr i k1,?_⟩
   rw [hT i hi]
   refine c.obj r.fwdk k2 fun l' lG g hg=>hk g (r.ge _ _ _ lG hg).2 (nX hi lG hg)
 ·by_cases hi:T i<;>by_cases lV:T i'
  ·exact hinj i i' l l' g hi lV h1 h2 h3 h4
  ·rw [hT i' lV] at h2
   rcases yX i l g hi h1 h3 with ⟨i0,l0,ht,Fc,hg0⟩|iG
   ·exact absurd (r.inj _ _ _ _ _ Fc h2 hg0 h4▸ht) lV
   ·have:=(r.ge _ _ _ h2 h4).2;omega
  ·rw [hT i hi] at h1
   rcases yX i' l' g lV h2 h4 with ⟨i0,l0,ht,Fc,hg0⟩|iG
   ·exact absurd (r.inj _ _ _ _ _ Fc h1 hg0 h3▸ht) hi
   ·have:=(r.ge _ _ _ h1 h3).2;omega
  ·rw [hT i hi] at h1
   rw [hT i' lV] at h2
   exact r.inj _ _ _ _ _ h1 h2 h3 h4
 ·by_cases hi:T i
  ·rcases yX i l g hi e hg with ⟨i0,l0,_,Fc,hg0⟩|iG
   ·have:=r.ge _ _ _ Fc hg0;exact ⟨this.1,by omega⟩
   ·exact ⟨.inl (by have:=r.fv;omega),iG.2⟩
  ·rw [hT i hi] at e
   have:=r.ge _ _ _ e hg
   exact ⟨this.1,by omega⟩
 ·by_cases hi:T i
  ·exact hlive i l hi e
  ·rw [hT i hi] at e
   rw [hN i hi]
   exact r.live i l e
theorem R.world (r:R base w0 S0 σ kn di a w) (hb:Below w.heap.size w w'):R base w0 S0 σ kn di a w':=
 r.step (fun _=>False) (fun _=>False) hb.size hb.os hb.tape hb.output (fun k hk _=>hb.block k hk) (fun _ h=>h.elim) (fun _ h=>h) (fun _ _=>rfl) (fun _ _ h=>h.elim) (fun _ _ _ h=>h.elim) (fun _ _ h=>h.elim) rfl rfl rfl (fun _=>rfl) (fun _ _=>rfl)
  (fun _ _ _ _ _ h=>h.elim) (fun _ _ h=>h.elim) (fun _ _ _ _ _ h=>h.elim) (fun _ _ _ _ _ h=>h.elim) hb.drawn
theorem R.drew (r:R base w0 S0 σ kn di a w):R base w0 S0 σ kn di a { w with drawn:=w.drawn+1 }:=
 r.world ⟨rfl,rfl,rfl,ae _,fun _ _=>rfl,fun _=>Nat.le_succ _⟩
theorem Act.rX (a:Act) (t:Nat) (v:Value) (i:Nat) (ht:t<a.tmps.size):(a.put (some t) v).tmps.getD i undef=if t=i then v else a.tmps.getD i undef:=by
 simp only [Act.put,av,bp]
 by_cases h:t=i
 ·subst h;simp [ht]
 ·simp [h]
theorem R.put (r:R base w0 S0 σ kn di a w) {t:Nat} {d:DV} {v:Value} (ht:t<σ.nt) (j5:σ.lo<=t) (h:Rel (dq w base S0 di) kn di d v):
 R base w0 S0 (σ.put t d) kn di (a.put (some t) v) w:=by
 refine ⟨r.below,r.xs,r.fv,r.qD,r.nM,r.J2,r.lh,r.yk,?_,fun i=> ?_,r.eC,r.inj,r.ge,r.live,fun i hi=> ?_⟩
 ·have:=r.size;simp only [Act.put,Array.size_setIfInBounds];exact this
 ·rw [Act.rX a t v i (by rw [r.size];exact ht),St.UQ]
  by_cases e:t=i
  ·simpa [e] using h
  ·simpa [e] using r.tmps i
 ·have hi:i<σ.lo:=hi
  rw [Act.rX a t v i (by rw [r.size];exact ht),ab (by omega)]
  exact r.yr i hi
theorem R.fresh (r:R base w0 S0 σ kn di a w) {id:Nat} (fJ: ¬kn id):di id=none:=by
 cases hb:di id with
 |none=>rfl
 |some l=>exact absurd (r.known hb) fJ
theorem R.newAt (r:R base w0 S0 σ kn di a w) {id:Nat} {o:fF} {l:Loc} (fJ: ¬kn id) (hb:Below w.heap.size w w') (hl: ∀g,l.has g->w.heap.size<=g/\g<w'.heap.size) (hm: ∀B,S0.wb=some B-> ∀g bs,l≠ .map g bs)
 (ho:(∀{d v},Rel (dq w base S0 di) kn di d v->Rel (dq w' base S0 fun i=>if i=id then some l else di i) (fun i=>kn i\/i=id) (fun i=>if i=id then some l else di i) d v)->
   (∀{d v},dA (dq w base S0 di) d v->dA (dq w' base S0 fun i=>if i=id then some l else di i) d v)->iu w' (dq w' base S0 fun i=>if i=id then some l else di i) (fun i=>kn i\/i=id) (fun i=>if i=id then some l else di i) (some l) o):
 R base w0 S0 (σ.setObj id (some o)) (fun i=>kn i\/i=id) (fun i=>if i=id then some l else di i) a w':=by
 have po:=r.fresh fJ
 refine r.step (fun _=>False) (fun i=>i=id) hb.size hb.os hb.tape hb.output (fun k hk _=>hb.block k hk) (fun _ h=>h.elim) (fun _ h=> .inl h) (fun i h=>ab h) (fun i v h hi=>absurd (h▸hi) fJ) (fun i l' g h e hg=> ?_) (fun i l' h hi=>absurd (h▸hi) fJ) rfl rfl rfl (fun _=>rfl) (fun i h=>by rw [St.dH,ab (fun e=>h e.symm)])
  (fun _ m mC i o' h e=> ?_) (fun i l' h e=>⟨o,by rw [St.dH,ag h.symm]⟩) (fun i i' _ _ _ h h' _ _ _ _=>by rw [h,h']) (fun B hB i g bs h e=> ?_) hb.drawn
 ·simp only [ag h,aa] at e
  subst e;exact .inr (hl g hg)
 ·rw [St.dH,ag h.symm,aa] at e
  subst e
  refine ⟨.inr h,?_⟩
  simp only [ag h]
  exact ho m mC
 ·simp only [ag h,aa] at e
  exact absurd e (hm B hB g bs)
theorem R.new (r:R base w0 S0 σ kn di a w) {id:Nat} {o:fF} {cv:Array Value} {T:TypeId} {C:Nat} (fJ: ¬kn id)
 (ho:(∃cs,o= .box cs)\/ ∃n dp,o= .row n dp) (lU:iu (w.alloc (.cells cv T)) (dq w base S0 di) kn di (some (.at_ w.heap.size C)) o):
 R base w0 S0 (σ.setObj id (some o)) (fun i=>kn i\/i=id) (fun i=>if i=id then some (.at_ w.heap.size C) else di i) a (w.alloc (.cells cv T)):=by
 refine r.newAt fJ ((Below.refl _ _).alloc (ae _) _) (fun g hg=>by cases hg;simp) (fun _ _ _ _ h=>by cases h) fun m mC=> ?_
 rcases ho with ⟨cs,rfl⟩|⟨n,dp,rfl⟩
 ·obtain ⟨g,C',s9,T',hl,hh,hs,hr,h1⟩:=lU
  exact ⟨g,C',s9,T',hl,hh,hs,fun j d u x y=>m (hr j d u x y),h1⟩
 ·rcases lU with ⟨hl,hn⟩|⟨g,C',s9,T',hl,hh,hs,hn,hr⟩
  ·exact .inl ⟨hl,hn⟩
  ·exact .inr ⟨g,C',s9,T',hl,hh,hs,hn,fun i j f x y=>let ⟨u,e,o,q⟩:=hr i j f x y;⟨u,e,o,mC q⟩⟩
theorem R.zT (r:R base w0 S0 σ kn di a w) {id:Nat} {l:Loc} {o:fF} (hl:di id=some l) (eW:w'.heap.size=w.heap.size)
 (Rc:w'.os=w.os) (Q4:w'.tape=w.tape) (qs:w'.output=w.output) (hk: ∀k,¬l.has k->w'.heap[k]? =w.heap[k]?)
 (ho:(∀{d v},Rel (dq w base S0 di) kn di d v->Rel (dq w' base S0 di) kn di d v)->(∀{d v},dA (dq w base S0 di) d v->dA (dq w' base S0 di) d v)->iu w' (dq w' base S0 di) kn di (some l) o) (N1:CO w w':=by exact fun _=>ae _):
 R base w0 S0 (σ.setObj id (some o)) kn di a w':=by
 refine r.step (fun k=>l.has k) (fun i=>i=id) (by omega) Rc Q4 qs (fun k _ h=>hk k h) (fun k h=>⟨id,l,rfl,hl,h⟩) (fun _ h=>h) (fun _ _=>rfl) (fun _ _ _ _ h=>h) (fun i l' g h e hg=> .inl ⟨i,l',h,e,hg⟩) (fun i l' h hi e=>⟨l',e,rfl⟩) rfl rfl rfl (fun _=>rfl)
  (fun i h=>by rw [St.dH,ab (fun e=>h e.symm)]) (fun _ m mC i o' h e=> ?_) (fun i l' h e=>⟨o,by rw [St.dH,ag h.symm]⟩) (fun i i' _ _ _ h h' _ _ _ _=>by rw [h,h']) (fun B hB i g bs h e=>r.lh B hB i g bs e) N1
 rw [St.dH,ag h.symm,aa] at e
 subst e h
 exact ⟨r.known hl,by rw [hl];exact ho m mC⟩
theorem R.GF (r:R base w0 S0 σ kn di a w) {id g C:Nat} {o:fF} (hl:di id=some (.at_ g C)) (eW:w'.heap.size=w.heap.size)
 (Rc:w'.os=w.os) (Q4:w'.tape=w.tape) (qs:w'.output=w.output) (hk: ∀k,k≠g->w'.heap[k]? =w.heap[k]?)
 (ho:(∀{d v},Rel (dq w base S0 di) kn di d v->Rel (dq w' base S0 di) kn di d v)->(∀{d v},dA (dq w base S0 di) d v->dA (dq w' base S0 di) d v)->iu w' (dq w' base S0 di) kn di (some (.at_ g C)) o) (N1:CO w w':=by exact fun _=>ae _):
 R base w0 S0 (σ.setObj id (some o)) kn di a w':=r.zT hl eW Rc Q4 qs (fun k h=>hk k h) ho N1
theorem R.grown (r:R base w0 S0 σ kn di a w) {row:Option Nat} (hg:w.grownBy w' row)
 (hr: ∀k,row=some k->base<=k/\((∃B,S0.wb=some B/\B<=k)\/ ¬jZ w k)/\S0.wr.heap.size<=k/\(∃o:Obj,w.heap[k]? =some o/\o.isCells=false)/\ ∀d∈a.defers,d≠{ target:= .collected k,args:= #[] }) (N1:CO w w':=by exact fun _=>ae _):R base w0 S0 σ kn di a w':=by
 have kD: ∀k,row=some k-> ∃o:Obj,w.heap[k]? =some o/\o.isCells=false:=fun k e=>(hr k e).2.2.2.1
 have same: ∀{g:Nat} {o:Obj},w.heap[g]? =some o->(o.isCells=true\/(jZ w g/\ ∀B,S0.wb=some B->g<B))->w'.heap[g]? =w.heap[g]? :=fun {g o} hh hc=>by
  refine hg.block g (ef hh) (fun e=> ?_)
  obtain ⟨_,hB,_,⟨o',h1,h2⟩,_⟩:=hr g e.symm
  rcases hc with hc|⟨hm,hc⟩
  ·rw [hh] at h1;cases h1;rw [hc] at h2;cases h2
  ·rcases hB with ⟨B,hB,hBk⟩|hB
   ·have:=hc B hB;omega
   ·exact hB hm
 have own: ∀{id l g},di id=some l->l.has g->w'.heap[g]? =w.heap[g]? :=fun {id l g} hl Wn=>by
  rcases r.pb hl Wn with ⟨cv,T,h⟩|⟨bs,o,rfl,h,h2⟩
  ·exact same h (.inl rfl)
  ·exact same h (.inr ⟨⟨o,h,h2⟩,fun B hB=>r.lh B hB id g bs hl⟩)
 have rdm: ∀a u,dq w base S0 di a u->dq w' base S0 di a u:=fun a u ⟨h1,h2,h3,h4⟩=>by
  have hk:w'.heap[a.block]? =w.heap[a.block]? :=by
   rcases h1 with h1|⟨es,c,h1,_⟩|⟨cs,T,fr,h1,_⟩
   ·obtain ⟨o,ho,hc⟩:=cells_of_cell h1.1
    exact same ho (.inl hc)
   ·exact same h1 (.inr ⟨.mk h1,fun B hB=>h4 B hB (.mk h1)⟩)
   ·exact same h1 (.inl rfl)
  exact ⟨tN hk h1,h2,h3,fun B hB hm=>h4 B hB (qo hk hm)⟩
 have rel: ∀{d v},Rel (dq w base S0 di) kn di d v->Rel (dq w' base S0 di) kn di d v:=fun h=>h.mono rdm (fun _ h=>h) fun _ _ _ h=>⟨_,h,rfl⟩
 have tL: ∀{d v},dA (dq w base S0 di) d v->dA (dq w' base S0 di) d v:=fun h=>h.mono rdm (fun _ h=>h) fun _ _ h=>h.elim
 refine ⟨r.below.trans ⟨hg.os,hg.tape,hg.output,hg.size,fun k hk _=>hg.block k (by have:=r.fv;omega) (fun e=>by have:=(hr k e.symm).1;omega),N1⟩,r.xs,aV r.fv hg.size,⟨r.qD.1,fun d hd=>let ⟨D,e,hD,hh⟩:=r.qD.2 d hd;⟨D,e,hD,by
  rw [hg.block D (ef hh) (fun e2=>(hr D e2.symm).2.2.2.2 d hd e)];exact hh⟩⟩,⟨aV r.nM.1 hg.size,fun B hB=>⟨aV r.nM.1 hg.size,fun k o hBk hk ho=>by
  have h1:=(r.nM.2.1 B hB).same k o hBk hk ho
  rw [hg.block k (ef h1) (fun e2=>by have:=(hr k e2.symm).2.2.1;have:=ef hk;omega)];exact h1⟩,fun k o hk ho hm=>by
  have h1:=r.nM.2.2 k o hk ho hm
  rw [hg.block k (ef h1) (fun e2=>by have:=(hr k e2.symm).2.2.1;have:=ef hk;omega)];exact h1⟩,r.J2,r.lh,
  fun d v h=>rel (r.yk d v h),r.size,fun t=>rel (r.tmps t),fun id o h=>⟨(r.eC id o h).1,?_⟩,r.inj,fun id l g e Wn=>⟨(r.ge id l g e Wn).1,bt (r.ge id l g e Wn).2 hg.size⟩,r.live,r.yr⟩
 have ho:=(r.eC id o h).2
 generalize hl:di id=lo at ho
 cases o with
 |box cs=>
  obtain ⟨g,C,cv,T,rfl,hh,hs,hr,h1⟩:=ho
  exact ⟨g,C,cv,T,rfl,by rw [own hl rfl];exact hh,hs,fun j d u a b=>rel (hr j d u a b),h1⟩
 |row n dp=>
  rcases ho with ⟨rfl,hn⟩|⟨g,C,cv,T,rfl,hh,hs,hn,hr⟩
  ·exact .inl ⟨rfl,hn⟩
  ·exact .inr ⟨g,C,cv,T,rfl,by rw [own hl rfl];exact hh,hs,hn,fun i j f a b=>let ⟨u,e,o,q⟩:=hr i j f a b;⟨u,e,o,tL q⟩⟩
 |pR n dp=>
  rcases ho with ⟨rfl,hn⟩|⟨g,o,C,cv,T,j5,hh,hs,hn,hr⟩
  ·exact .inl ⟨rfl,hn⟩
  ·have UI:w'.heap[g]? =w.heap[g]? :=by rcases j5 with rfl|⟨rfl,_⟩<;>exact own hl rfl
   exact .inr ⟨g,o,C,cv,T,j5,by rw [UI];exact hh,hs,hn,fun i j f a b=>let ⟨u,e,o,q⟩:=hr i j f a b;⟨u,e,o,tL q⟩⟩
 |map ks has eQ qY=>
  obtain ⟨g,es,clock,rfl,hh,hm,mh,nV⟩:=ho
  exact ⟨g,es,clock,rfl,by rw [own hl (.inl rfl)];exact hh,hm.mono tL,mh,nV⟩
 |np ks len eQ qY sV=>
  obtain ⟨g,bs,es,clock,rfl,hh,hm,rV,nV⟩:=ho
  exact ⟨g,bs,es,clock,rfl,by rw [own hl (.inl rfl)];exact hh,hm.mono tL (fun k hk=>own hl (.inr hk)),fun b hb=>by rw [own hl (.inr hb)];exact rV b hb,nV⟩
 |jc n s len eQ sV=>
  obtain ⟨g,C,bs,cv,T,rfl,hh,hs,hn,hG,rV⟩:=ho
  exact ⟨g,C,bs,cv,T,rfl,by rw [own hl (.inl rfl)];exact hh,hs,hn,hG.mono tL (fun k hk=>own hl (.inr hk)),fun b hb=>by rw [own hl (.inr hb)];exact rV b hb⟩
 |tok=>exact ho
 |exact g o=>
  obtain ⟨rfl,hh,ho⟩:=ho
  exact ⟨rfl,by rw [own hl (.inl rfl)];exact hh,ho⟩
end
end Go.Abs
end
