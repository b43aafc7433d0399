/- Contracts and what they stand on. -/
import Derived.Calls
import Derived.Orders
import Derived.Below
import Derived.Laws.World
import Derived.RangeFuncWrites
set_option linter.unusedVariables false
set_option linter.unusedSimpArgs false
section
namespace Go.Abs
abbrev aa:=@Option.some.injEq
abbrev ae:=@if_neg
abbrev af:=@Nat.le_refl
abbrev ag:=@Nat.eq_of_beq_eq_true
abbrev ah:=@if_pos
abbrev ai:=@decide_eq_true_eq
abbrev aj:=@List.getElem?_eq_some_iff
abbrev ak:=@List.getElem?_eq_getElem
abbrev an:=@decide_eq_false_iff_not
abbrev ao:=@Nat.zero_le
abbrev aq:=@cond_true
abbrev au:=@List.mem_singleton
abbrev av:=@Bool.and_eq_true
abbrev aw:=@List.getElem?_map
abbrev ax:=@cond_false
abbrev ay:=@List.mem_cons_self
abbrev az:=@List.mem_cons_of_mem
abbrev aA:=@Option.map_some
abbrev aB:=@Prod.mk.injEq
abbrev aC:=@Array.getD_eq_getD_getElem?
abbrev aD:=@Array.getElem?_eq_getElem
abbrev aE:=@Nat.zero_add
abbrev aF:=@Nat.not_lt_zero
abbrev aG:=@List.mem_of_getElem?
abbrev aH:=@Nat.le_of_ble_eq_true
abbrev aJ:=@Array.getElem?_eq_some_iff
abbrev aK:=@List.getElem?_cons_succ
abbrev aL:=@List.length_cons
abbrev aM:=@List.getElem?_append_left
abbrev aO:=@List.length_append
abbrev aP:=@List.getElem?_cons_zero
abbrev aQ:=@List.length_take
abbrev aR:=@List.mem_append_left
abbrev aS:=@List.mem_cons
abbrev aT:=@List.mem_append
abbrev aU:=@Nat.lt_or_ge
abbrev aV:=@Nat.le_trans
abbrev aW:=@List.mem_append_right
abbrev a7:=@List.getElem?_append_right
abbrev a8:=@List.mem_range
abbrev ba:=@Nat.mul_le_mul_right
abbrev bc:=@List.getD_eq_getElem?_getD
abbrev bf:=@Int.emod_nonneg
abbrev bg:=@decide_eq_false
abbrev bj:=@Nat.mod_lt
abbrev bk:=@decide_eq_true
abbrev bm:=@Int.emod_lt_of_pos
abbrev bn:=@if_true
abbrev bo:=@Array.getElem?_setIfInBounds
abbrev bp:=@List.cons_append
abbrev bq:=@List.length_drop
abbrev br:=@List.mem_map
abbrev bt:=@Array.getElem?_toList
abbrev bu:=@List.getElem?_drop
abbrev bw:=@Int.add_emod_right
abbrev bz:=@Nat.lt_of_lt_of_le
abbrev bA:=@Bool.not_eq_true'
abbrev bB:=@Bool.false_eq_true
abbrev bF:=@Option.some.inj
abbrev bG:=@List.getElem?_take
abbrev bH:=@Int.toNat_of_nonneg
abbrev bI:=@Int.add_zero
abbrev bJ:=@Array.mem_toList_iff
abbrev bK:=@Bool.not_eq_false'
abbrev bM:=@Nat.sub_zero
abbrev bO:=@List.map_cons
abbrev bP:=@Array.length_toList
abbrev bQ:=@Classical.byContradiction
abbrev bR:=@List.mem_filter
abbrev bS:=@Array.all_eq_true_iff_forall_mem
abbrev bT:=@Nat.add_assoc
abbrev bU:=@Nat.add_zero
abbrev bV:=@List.all_eq_true
abbrev bW:=@eq_comm
abbrev bX:=@List.mem_iff_getElem
abbrev bY:=@Int.sub_zero
abbrev bZ:=@Int.ediv_nonneg
abbrev b6:=@List.length_map
abbrev b7:=@List.length_nil
abbrev b8:=@forall_eq
abbrev b9:=@Array.mem_of_getElem?
abbrev ca:=@Decidable.not_not
abbrev cc:=@List.size_toArray
abbrev cf:=@Nat.eq_zero_or_pos
abbrev cg:=@if_false
abbrev cp:=@Int.one_mul
abbrev cq:=@Nat.succ_mul
abbrev ct:=@Int.mul_zero
abbrev cx:=@List.drop_eq_getElem_cons
abbrev cy:=@List.mem_map_of_mem
abbrev cz:=@List.append_assoc
abbrev cA:=@List.eq_nil_of_length_eq_zero
abbrev cB:=@List.length_singleton
abbrev cC:=@Bool.or_eq_true
abbrev cD:=@Array.ext'
abbrev cE:=@Nat.add_mul
abbrev cG:=@Nat.mod_eq_of_lt
abbrev cH:=@decide_eq_decide
abbrev cJ:=@List.getElem?_toArray
abbrev cK:=@Option.getD_some
abbrev cL:=@Int.zero_mul
abbrev cM:=@Nat.sub_self
abbrev cO:=@Int.le_refl
abbrev cP:=@Nat.lt_trichotomy
abbrev cQ:=@true_and
abbrev cR:=@and_true
abbrev cS:=@Array.getElem?_modify
abbrev cT:=@List.nil_append
abbrev cU:=@List.map_append
abbrev cV:=@List.nodup_cons
abbrev cW:=@Int.mul_neg
abbrev cY:=@implies_true
inductive KS where
 |int
 |ints (n:Nat)
 |str
inductive DV where
 |val (v:Value)
 |agg (cs:List DV)
 |fy (cs:List DV)
 |ptr (id j:Nat)
 |jZ (s id i j:Nat)
 |row (s id off len:Nat)
 |di (n:Nat) (de:List (Nat->DV))
 |dN (cs:List DV)
 |opt (b:Bool) (d:DV)
 |jL (fn:FuncId) (k7:List DV)
 |nZ (fn:FuncId) (fs:List DV)
 |mp (ks:KS) (has:List Int->Bool) (gN:List Int->DV)
 |pB (id:Nat)
 |tok (id m:Nat)
 |tL (s id n:Nat)
 |k5 (s id i j:Nat)
 |err (nil:Bool)
 |whole (cs:Array Value)
 |any
inductive Loc where
 |nil
 |at_ (g C:Nat)
 |sub (g o C:Nat)
 |map (g:Nat) (bs:List Nat)
 |is (v:Value)
 |oo (g C:Nat) (bs:List Nat)
def Loc.has:Loc->Nat->Prop
 |.at_ g _,k=>k=g
 |.sub g _ _,k=>k=g
 |.map g bs,k=>k=g\/k∈bs
 |.oo g _ bs,k=>k=g\/k∈bs
 |_,_=>False
def Loc.core:Loc->Loc
 |.map g _=> .map g []
 |.oo g C _=> .oo g C []
 |l=>l
theorem Loc.Fj {l:Loc} {g C:Nat} (h:l.core=Loc.core (.at_ g C)):l= .at_ g C:=by cases l<;>simp [Loc.core] at h;rw [h.1,h.2]
theorem Loc.HW {l:Loc} {g o C:Nat} (h:l.core=Loc.core (.sub g o C)):l= .sub g o C:=by cases l<;>simp [Loc.core] at h;rw [h.1,h.2.1,h.2.2]
theorem Loc.RK {l:Loc} (h:l.core=Loc.core .nil):l= .nil:=by cases l<;>simp [Loc.core] at h;rfl
theorem Loc.UD {l:Loc} {v:Value} (h:l.core=Loc.core (.is v)):l= .is v:=by cases l<;>simp [Loc.core] at h;rw [h]
theorem Loc.DP {l:Loc} {g C:Nat} {bs:List Nat} (h:l.core=Loc.core (.oo g C bs)): ∃KG,l= .oo g C KG:=by cases l<;>simp [Loc.core] at h;exact ⟨_,by rw [h.1,h.2]⟩
theorem Loc.RL {l:Loc} {g:Nat} {bs:List Nat} (h:l.core=Loc.core (.map g bs)): ∃KG,l= .map g KG:=by cases l<;>simp [Loc.core] at h;exact ⟨_,by rw [h]⟩
def Ru (es:List (Value×Value)):Value:= .tuple (es.map fun e=> .tuple #[e.1,e.2]).toArray
def vw:List Value->Option (List Int)
 |[]=>some []
 |.int .i64 n::r=>match vw r with
  |some l=>some (n::l)
  |none=>none
 |_=>none
def bInts (s:ByteArray):List Int:=s.data.toList.map fun b=>(b.toNat:Int)
def nr:KS->Value->Option (List Int)
 |.int,.int .i64 n=>some [n]
 |.ints n,.agg vs=>match vw vs.toList with
  |some l=>bif Nat.beq l.length n then some l else none
  |none=>none
 |.str,.string s=>some (bInts s)
 |_,_=>none
def fc:Value->Bool
 |.agg _| .tuple _=>false
 |_=>true
abbrev Rd:=Addr->Value->Prop
inductive Rel (rd:Rd):(Nat->Prop)->(Nat->Option Loc)->DV->Value->Prop
 |val {kn c9} (v:Value):Rel rd kn c9 (.val v) v
 |agg {kn c9} {cs:List DV} {vs:Array Value} (hs:vs.size=cs.length)
   (h: ∀(j:Nat) (d:DV) (u:Value),cs[j]? =some d->vs[j]? =some u->Rel rd kn c9 d u):Rel rd kn c9 (.agg cs) (.agg vs)
 |fy {kn c9} {cs:List DV} {vs:Array Value} (hs:vs.size=cs.length)
   (h: ∀(j:Nat) (d:DV) (u:Value),cs[j]? =some d->vs[j]? =some u->Rel rd kn c9 d u):Rel rd kn c9 (.fy cs) (.tuple vs)
 |ptr {kn c9} {id j:Nat} {v:Value} (hk:kn id) (hv: ∃ad,v= .pointer (some ad))
   (h: ∀g C,c9 id=some (.at_ g C)->v= .pointer (some ⟨g,j,none⟩)):Rel rd kn c9 (.ptr id j) v
 |jZ {kn c9} {s id i j:Nat} {v:Value} (hk:kn id) (hv: ∃ad,v= .pointer (some ad))
   (h: ∀g C,c9 id=some (.at_ g C)->v= .pointer (some ⟨g,i*s+j,none⟩)) (h2: ∀g o C,c9 id=some (.sub g o C)->v= .pointer (some ⟨g,o+(i*s+j),none⟩)):Rel rd kn c9 (.jZ s id i j) v
 |row {kn c9} {s id off len:Nat} {v:Value} (hk:kn id) (hv: ∃p c,v= .slice p len c/\(p=none->len=0))
   (h0:c9 id=some .nil->v= .slice none 0 0/\off=0/\len=0)
   (h: ∀g C,c9 id=some (.at_ g C)->(v= .slice (some ⟨g,off*s,none⟩) len (C - off)/\off+len<=C)\/(0<off/\len=0))
   (h2: ∀g o C,c9 id=some (.sub g o C)->(v= .slice (some ⟨g,o+off*s,none⟩) len (C - off)/\off+len<=C)\/(0<off/\len=0)):Rel rd kn c9 (.row s id off len) v
 |di {kn c9} {n:Nat} {de:List (Nat->DV)} {A:Option Addr} {c:Nat} (U:Nat->Nat->Value) (hc:n<=c)
   (ha: ∀(i j:Nat) (f:Nat->DV),i<n->de[j]? =some f-> ∃a,A=some a/\rd (a.add (i*de.length+j)) (U i j))
   (hn:0<n->A≠none) (ho: ∀(i j:Nat) (f:Nat->DV),i<n->de[j]? =some f->fc (U i j)=true)
   (h: ∀(i j:Nat) (f:Nat->DV),i<n->de[j]? =some f->Rel rd (fun _=>False) (fun _=>none) (f i) (U i j)):Rel rd kn c9 (.di n de) (.slice A n c)
 |dN {kn c9} {cs:List DV} {a:Addr} (U:Nat->Value)
   (ha: ∀(j:Nat) (d:DV),cs[j]? =some d->rd (a.add j) (U j)) (ho: ∀(j:Nat) (d:DV),cs[j]? =some d->fc (U j)=true)
   (h: ∀(j:Nat) (d:DV),cs[j]? =some d->Rel rd (fun _=>False) (fun _=>none) d (U j)):Rel rd kn c9 (.dN cs) (.pointer (some a))
 |opt {kn c9} {b:Bool} {d:DV} {v:Value} (h:b=true->Rel rd kn c9 d v) (hu:b=false->v=undef):Rel rd kn c9 (.opt b d) v
 |jL {kn c9} {fn:FuncId} {k7:List DV} {vs:Array Value} (hs:vs.size=k7.length)
   (h: ∀(j:Nat) (d:DV) (u:Value),k7[j]? =some d->vs[j]? =some u->Rel rd kn c9 d u):Rel rd kn c9 (.jL fn k7) (.func (.func fn) #[] vs)
 |nZ {kn c9} {fn:FuncId} {fs:List DV} {vs:Array Value} (hs:vs.size=fs.length)
   (h: ∀(j:Nat) (d:DV) (u:Value),fs[j]? =some d->vs[j]? =some u->Rel rd kn c9 d u):Rel rd kn c9 (.nZ fn fs) (.func (.func fn) vs #[])
 |mp {kn c9} {ks:KS} {has:List Int->Bool} {gN:List Int->DV} {A:Option Nat} (es:List (Value×Value)) (h0:A=none->es=[]) (ha: ∀g,A=some g->rd ⟨g,0,none⟩ (Ru es))
   (hk: ∀e∈es,∃l,nr ks e.1=some l/\has l=true) (hh: ∀l,has l=true-> ∃e∈es,nr ks e.1=some l) (hd:es.Pairwise fun x y=>x.1≠y.1)
   (hs: ∀e∈es,fc e.2=true)
   (h: ∀(e:Value×Value) (l:List Int),e∈es->nr ks e.1=some l->Rel rd (fun _=>False) (fun _=>none) (gN l) e.2):Rel rd kn c9 (.mp ks has gN) (.map A)
 |pB {kn c9} {id:Nat} {v:Value} (hk:kn id) (hv: ∃g,v= .map (some g)) (h: ∀g bs,c9 id=some (.map g bs)->v= .map (some g)):Rel rd kn c9 (.pB id) v
 |tok {kn c9} {id m:Nat} {v:Value} (hk:kn id) (ho:fc v=true) (h: ∀u,c9 id=some (.is u)->v=u):Rel rd kn c9 (.tok id m) v
 |tL {kn c9} {s id n:Nat} {v:Value} (hk:kn id) (hv: ∃p c,v= .slice p n c/\(p=none->n=0)) (h: ∀g C bs,c9 id=some (.oo g C bs)->v= .slice (some ⟨g,0,none⟩) n C/\n<=C):Rel rd kn c9 (.tL s id n) v
 |k5 {kn c9} {s id i j:Nat} {v:Value} (hk:kn id) (hv: ∃ad,v= .pointer (some ad)) (h: ∀g C bs,c9 id=some (.oo g C bs)->v= .pointer (some ⟨g,i*s+j,none⟩)):Rel rd kn c9 (.k5 s id i j) v
 |err {kn c9} {b:Bool} {v:Value} (h:b=true->v= .nilIface) (h2:b=false-> ∃t p,v= .iface t p):Rel rd kn c9 (.err b) v
 |whole {kn c9} {cs:Array Value} {g:Nat} (h:rd ⟨g,0,none⟩ (.tuple #[.agg cs])):Rel rd kn c9 (.whole cs) (.pointer (some ⟨g,0,none⟩))
 |any {kn c9} (v:Value):Rel rd kn c9 .any v
theorem Rel.mono {rd gJ:Rd} {kn:Nat->Prop} {c9:Nat->Option Loc} {d:DV} {v:Value} (h:Rel rd kn c9 d v):
 ∀{eL:Nat->Prop} {dk:Nat->Option Loc},(∀a u,rd a u->gJ a u)->(∀id,kn id->eL id)->
  (∀id l,kn id->dk id=some l-> ∃l0,c9 id=some l0/\l0.core=l.core)->Rel gJ eL dk d v:=by
 induction h with
 |val v=>intro eL dk _ _ _;exact .val v
 |agg hs _ ih=>intro eL dk h1 h2 h3;exact .agg hs fun j d u a b=>ih j d u a b h1 h2 h3
 |fy hs _ ih=>intro eL dk h1 h2 h3;exact .fy hs fun j d u a b=>ih j d u a b h1 h2 h3
 |ptr hk hv h=>intro eL dk h1 h2 h3;exact .ptr (h2 _ hk) hv fun g C e=>let ⟨l0,a,b⟩:=h3 _ _ hk e;h g C (by rw [a,Loc.Fj b])
 |jZ hk hv h hs=>intro eL dk h1 h2 h3;exact .jZ (h2 _ hk) hv (fun g C e=>let ⟨l0,a,b⟩:=h3 _ _ hk e;h g C (by rw [a,Loc.Fj b])) fun g o C e=>let ⟨l0,a,b⟩:=h3 _ _ hk e;hs g o C (by rw [a,Loc.HW b])
 |row hk hv h0 h hs=>intro eL dk h1 h2 h3;exact .row (h2 _ hk) hv (fun e=>let ⟨l0,a,b⟩:=h3 _ _ hk e;h0 (by rw [a,Loc.RK b])) (fun g C e=>let ⟨l0,a,b⟩:=h3 _ _ hk e;h g C (by rw [a,Loc.Fj b])) fun g o C e=>let ⟨l0,a,b⟩:=h3 _ _ hk e;hs g o C (by rw [a,Loc.HW b])
 |di U hc ha hn ho _ ih=>
  intro eL dk h1 h2 h3
  exact .di U hc (fun i j f hi hj=>let ⟨a,e,r⟩:=ha i j f hi hj;⟨a,e,h1 _ _ r⟩) hn ho fun i j f hi hj=>ih i j f hi hj h1 (fun _ h=>h) fun _ _ h=>h.elim
 |dN U ha ho _ ih=>
  intro eL dk h1 h2 h3
  exact .dN U (fun j d e=>h1 _ _ (ha j d e)) ho fun j d e=>ih j d e h1 (fun _ h=>h) fun _ _ h=>h.elim
 |opt _ hu ih=>intro eL dk h1 h2 h3;exact .opt (fun e=>ih e h1 h2 h3) hu
 |jL hs _ ih=>intro eL dk h1 h2 h3;exact .jL hs fun j d u a b=>ih j d u a b h1 h2 h3
 |nZ hs _ ih=>intro eL dk h1 h2 h3;exact .nZ hs fun j d u a b=>ih j d u a b h1 h2 h3
 |mp es h0 ha hk hh hd hs _ ih=>
  intro eL dk h1 h2 h3
  exact .mp es h0 (fun g e=>h1 _ _ (ha g e)) hk hh hd hs fun e l a b=>ih e l a b h1 (fun _ h=>h) fun _ _ h=>h.elim
 |pB hk hv h=>intro eL dk h1 h2 h3;exact .pB (h2 _ hk) hv fun g bs e=>let ⟨l0,a,b⟩:=h3 _ _ hk e;let ⟨KG,c⟩:=Loc.RL b;h g KG (by rw [a,c])
 |tok hk ho h=>intro eL dk h1 h2 h3;exact .tok (h2 _ hk) ho fun u e=>let ⟨l0,a,b⟩:=h3 _ _ hk e;h u (by rw [a,Loc.UD b])
 |tL hk hv h=>intro eL dk h1 h2 h3;exact .tL (h2 _ hk) hv fun g C bs e=>let ⟨l0,a,b⟩:=h3 _ _ hk e;let ⟨KG,c⟩:=Loc.DP b;h g C KG (by rw [a,c])
 |k5 hk hv h=>intro eL dk h1 h2 h3;exact .k5 (h2 _ hk) hv fun g C bs e=>let ⟨l0,a,b⟩:=h3 _ _ hk e;let ⟨KG,c⟩:=Loc.DP b;h g C KG (by rw [a,c])
 |err a b=>intro eL dk _ _ _;exact .err a b
 |whole h=>intro eL dk h1 _ _;exact .whole (h1 _ _ h)
 |any v=>intro eL dk _ _ _;exact .any v
def DV.one:DV->Bool
 |.val v=>fc v
 |.ptr .. | .jZ .. | .row .. | .di .. | .dN .. | .jL .. | .nZ .. | .mp .. | .pB .. | .tok .. | .tL .. | .k5 .. =>true
 |_=>false
theorem Rel.one {rd:Rd} {kn:Nat->Prop} {c9:Nat->Option Loc} {d:DV} {v:Value} (h:Rel rd kn c9 d v) (ho:d.one=true):fc v=true:=by
 cases h<;>simp only [DV.one,bB] at ho<;>first|exact ho|rfl|skip
 ·rename_i hv _;obtain ⟨p,rfl⟩:=hv;rfl
 ·rename_i hv _ _;obtain ⟨p,rfl⟩:=hv;rfl
 ·rename_i hv _ _ _;obtain ⟨p,c,rfl,_⟩:=hv;rfl
 ·rename_i hv _;obtain ⟨p,rfl⟩:=hv;rfl
 ·assumption
 ·rename_i hv _;obtain ⟨p,c,rfl,_⟩:=hv;rfl
 ·rename_i hv _;obtain ⟨p,rfl⟩:=hv;rfl
def tZ:List DV->Bool
 |[]=>true
 |d::r=>bif d.one then tZ r else false
theorem rT: ∀{cs:List DV},tZ cs=true-> ∀d∈cs,d.one=true
 |[],_,d,hd=>by cases hd
 |c::r,h,d,hd=>by
  simp only [tZ] at h
  cases hc:c.one
  ·simp [hc] at h
  ·simp only [hc,aq] at h
   rcases aS.1 hd with rfl|hd
   ·exact hc
   ·exact rT h d hd
def DV.cells? :DV->Option (List DV)
 |.agg cs=>bif tZ cs then some cs else none
 |.val (.agg vs)=>bif tZ (vs.toList.map .val) then some (vs.toList.map .val) else none
 |d=>bif d.one then some [d] else none
theorem Rel.cells {rd:Rd} {kn:Nat->Prop} {c9:Nat->Option Loc} {d:DV} {v:Value} {cs:List DV} (h:Rel rd kn c9 d v) (hc:d.cells? =some cs):
 v.cells.size=cs.length/\(∀(j:Nat) (e:DV) (u:Value),cs[j]? =some e->v.cells[j]? =some u->Rel rd kn c9 e u)/\ ∀u∈v.cells.toList,fc u=true:=by
 have single: ∀{d:DV} {v:Value},Rel rd kn c9 d v->d.one=true->v.cells= #[v]->v.cells.size=[d].length/\
  (∀(j:Nat) (e:DV) (u:Value),[d][j]? =some e->v.cells[j]? =some u->Rel rd kn c9 e u)/\ ∀u∈v.cells.toList,fc u=true:=by
  intro d v h ho hv
  rw [hv]
  refine ⟨rfl,fun j e u hj hu=> ?_,fun u hu=> ?_⟩
  ·match j,hj,hu with
   |0,hj,hu=>simp at hj hu;subst hj hu;exact h
  ·simp at hu;subst hu;exact h.one ho
 have Yo: ∀{v:Value},fc v=true->v.cells= #[v]:=by
  intro v hv;cases v<;>first|rfl|simp [fc] at hv
 have O5:d.one=true->some [d]=some cs->v.cells.size=cs.length/\(∀(j:Nat) (e:DV) (u:Value),cs[j]? =some e->v.cells[j]? =some u->Rel rd kn c9 e u)/\ ∀u∈v.cells.toList,fc u=true:=by
  intro ho he;cases he;exact single h ho (Yo (h.one ho))
 cases d with
 |agg ds=>
  simp only [DV.cells?] at hc
  cases ha:tZ ds
  ·simp [ha] at hc
  ·simp only [ha,aq,aa] at hc
   subst hc
   cases h with
   |agg hs hr=>
    rename_i vs
    refine ⟨hs,hr,fun u hu=> ?_⟩
    obtain ⟨j,hj,rfl⟩:=bX.1 hu
    have xx:j<vs.size:=by simpa [Value.cells] using hj
    have e1:ds[j]? =some (ds[j]'(by omega)):=ak (by omega)
    have e2:vs[j]? =some (vs[j]):=aD xx
    have:=(hr j _ _ e1 e2).one (rT ha _ (List.getElem_mem _))
    simpa [Value.cells] using this
 |val w=>
  cases h
  cases v with
  |agg vs=>
   simp only [DV.cells?] at hc
   cases ha:tZ (vs.toList.map DV.val)
   ·simp [ha] at hc
   ·simp only [ha,aq,aa] at hc
    subst hc
    refine ⟨by simp [Value.cells],fun j e u hj hu=> ?_,fun u hu=> ?_⟩
    ·simp only [Value.cells] at hu
     simp only [aw,bt,hu,aA,aa] at hj
     subst hj;exact .val u
    ·exact rT ha (.val u) (cy hu)
  |_=>first|(simp only [DV.cells?,DV.one,fc,aq] at hc;exact O5 rfl hc)|simp [DV.cells?,DV.one,fc] at hc
 |_=>first|(simp only [DV.cells?,DV.one,aq] at hc;exact O5 rfl hc)|simp [DV.cells?,DV.one] at hc
def fv:List DV->Option (List Value)
 |[]=>some []
 |.val v::r=>match fv r with
  |some l=>some (v::l)
  |none=>none
 |_=>none
theorem wA: ∀{cs:List DV} {l:List Value},fv cs=some l->cs=l.map .val
 |[],l,h=>by simp [fv] at h;subst h;rfl
 |.val v::r,l,h=>by
  simp only [fv] at h
  cases hr:fv r with
  |none=>simp [hr] at h
  |some l'=>simp only [hr,aa] at h;subst h;rw [wA hr];rfl
 |.agg _::_,l,h=>by simp [fv] at h
 |.fy _::_,l,h=>by simp [fv] at h
 |.ptr _ _::_,l,h=>by simp [fv] at h
 |.jZ _ _ _ _::_,l,h=>by simp [fv] at h
 |.row _ _ _ _::_,l,h=>by simp [fv] at h
 |.di _ _::_,l,h=>by simp [fv] at h
 |.dN _::_,l,h=>by simp [fv] at h
 |.opt _ _::_,l,h=>by simp [fv] at h
 |.jL _ _::_,l,h=>by simp [fv] at h
 |.nZ _ _::_,l,h=>by simp [fv] at h
 |.mp _ _ _::_,l,h=>by simp [fv] at h
 |.pB _::_,l,h=>by simp [fv] at h
 |.tok _ _::_,l,h=>by simp [fv] at h
 |.tL _ _ _::_,l,h=>by simp [fv] at h
 |.k5 _ _ _ _::_,l,h=>by simp [fv] at h
 |.err _::_,l,h=>by simp [fv] at h
 |.whole _::_,l,h=>by simp [fv] at h
 |.any::_,l,h=>by simp [fv] at h
def mM (cs:List DV):DV:=match fv cs with
 |some l=> .val (.agg l.toArray)
 |none=> .agg cs
theorem Rel.lO {rd:Rd} {kn:Nat->Prop} {c9:Nat->Option Loc} {u v:Value} (h:Rel rd kn c9 (.val u) v):v=u:=by cases h;rfl
theorem Rel.mM {rd:Rd} {kn:Nat->Prop} {c9:Nat->Option Loc} {cs:List DV} {vs:Array Value} (hs:vs.size=cs.length)
 (h: ∀(j:Nat) (d:DV) (u:Value),cs[j]? =some d->vs[j]? =some u->Rel rd kn c9 d u):Rel rd kn c9 (mM cs) (.agg vs):=by
 unfold Abs.mM
 cases hv:fv cs with
 |none=>exact .agg hs h
 |some l=>
  have xy:=wA hv
  subst xy
  have:vs=l.toArray:=by
   apply Array.ext
   ·simpa using hs
   ·intro i h1 h2
    have hl:i<l.length:=by simpa using h2
    have:=(h i (.val l[i]) vs[i] (by simp [hl]) (by simp [h1])).lO
    simpa using this
  rw [this]
  exact .val _
end Go.Abs
end
section
namespace Go.Abs
def trk:Bool:=false
abbrev Cs (w w':World):Prop:=trk=true->w.drawn<=w'.drawn
def gl:List (Nat×List DV):=[(0,[1,0,0,1,-1,0,0,-1].map fun n=> .val (.int .i64 n))]
def Vl:List (DV×Value):=gl.map fun p=>(.dN p.2,.pointer (some ⟨p.1,0,none⟩))
def ju (rd:Rd):Prop:= ∀d v,(d,v)∈Vl->Rel rd (fun _=>False) (fun _=>none) d v
theorem Pt {d:DV} {v:Value} (h:(d,v)∈Vl):(∃cs,d= .dN cs)\/ ∃cs,d= .whole cs:=by
 obtain ⟨p,_,e⟩:=br.1 h
 cases e
 exact .inl ⟨_,rfl⟩
theorem Tn {g:Nat} {cs:List DV} (h:(g,cs)∈gl):(DV.dN cs,Value.pointer (some ⟨g,0,none⟩))∈Vl:=br.2 ⟨(g,cs),h,rfl⟩
theorem ju.mono {rd gJ:Rd} (h:ju rd) (hm: ∀a u,rd a u->gJ a u):ju gJ:=fun d v hd=>(h d v hd).mono hm (fun _ h=>h) fun _ _ h=>h.elim
def ri (p:Prop):Prop:=p->p
theorem Sq:(∀{a:Prop},(a->a)↔True)/\(∀(a:Prop),(a->True)=True)/\(∀(α:Type),(α->True)=True)/\(∀(p:Prop),(p/\True)=p)/\(∀(p:Prop),(True/\p)=p)/\(∀i:Nat,Int.toNat ((i:Int)+1)=i+1)/\(∀i:Nat,Int.toNat ((i:Int)+2)=i+2)/\(Int.toNat 0=0)/\(∀{α:Type} (a b:α),(a≠b)= ¬(a=b))/\(∀n:Nat,Int.toNat (n:Int)=n)/\(∀(p:Prop) [Decidable p] (f:Bool),(if p then true else f)=(decide p||f))/\(∀(p:Prop) [Decidable p] (t:Bool),(if p then t else false)=(decide p&&t))/\(∀{b:Bool} {_:Decidable (b=true)},(decide (b=true))=b)/\(∀(a b:Bool),((a||b)=true)=(a=true\/b=true))/\(∀{x y:Bool},(x||y)=false↔x=false/\y=false)/\(∀(a b:Bool),((a&&b)=true)=(a=true/\b=true))/\(∀{x y:Bool},(x&&y)=false↔(x=true->y=false))/\(∀(b:Bool),((!b)=true)=(b=false))/\(∀(b:Bool),((!b)=false)=(b=true))/\(∀(b:Bool),(!!b)=b)/\(∀{α:Type} [BEq α] [LawfulBEq α] {a b:α},(a !=b)=true↔a≠b)/\(∀{α:Type} [BEq α] [LawfulBEq α] {a b:α},(a !=b)=false↔a=b)/\(∀{α:Type} [BEq α] [LawfulBEq α] {a b:α},(a==b)=true↔a=b)/\(∀{α:Type} [BEq α] [LawfulBEq α] {a b:α},(a==b)=false↔a≠b)/\(∀{p:Prop} [Decidable p],(decide p=true)=p)/\(∀{p:Prop} {_:Decidable p},(decide p=false)↔ ¬p)/\(∀p:Prop,ri p=True):=⟨@imp_self,fun a=>cY a,fun α=>cY α,cR,cQ,fun i=>by omega,fun i=>by omega,rfl,@ne_eq,@Int.toNat_natCast,@Bool.if_true_left,@Bool.if_false_right,@Bool.decide_eq_true,@Bool.or_eq_true,@Bool.or_eq_false_iff,@Bool.and_eq_true,@Bool.and_eq_false_imp,@Bool.not_eq_true',@Bool.not_eq_false',@Bool.not_not,@bne_iff_ne,@bne_eq_false_iff_eq,@beq_iff_eq,@beq_eq_false_iff_ne,@decide_eq_true_eq,@decide_eq_false_iff_not,fun _=>eq_true id⟩
end Go.Abs
end
section
namespace Go.Abs
open Go.RowKit
inductive fK where
 |box (cs:List DV)
 |row (n:Nat) (de:List (Nat->DV))
 |ph (n:Nat) (de:List (Nat->DV))
 |map (ks:KS) (has:List Int->Bool) (gN:List Int->DV) (ym:Option (Nat×List Int))
 |vF (ks:KS) (len:List Int->Nat) (gN:List Int->Nat->DV) (ym:List (Nat×List Int)) (uX:Option (List Int))
 |tok
 |oo (n s:Nat) (len:Nat->Nat->Nat) (gN:Nat->Nat->Nat->DV) (uX:Option (Nat×Nat))
 |exact (g:Nat) (o:Obj)
def look {α:Type}:List (Nat×α)->Nat->Option α
 |[],_=>none
 |(k,v)::r,i=>bif Nat.beq k i then some v else look r i
structure St where
 t:List (Nat×DV)
 h:List (Nat×Option fK)
 nx:Nat
 nt:Nat
 rn:Bool:=false
 lo:Nat:=0
def St.get (σ:St) (t:Nat):DV:=match look σ.t t with|some d=>d|none=> .any
def St.obj (σ:St) (id:Nat):Option fK:=match look σ.h id with|some o=>o|none=>none
theorem dH {α:Type} (k:Nat) (v:α) (r:List (Nat×α)) (i:Nat):look ((k,v)::r) i=if k=i then some v else look r i:=by
 simp only [look]
 by_cases h:k=i
 ·subst h;simp
 ·have:Nat.beq k i=false:=by
   cases hb:Nat.beq k i
   ·rfl
   ·exact absurd (ag hb) h
  simp [this,h]
def St.put (σ:St) (t:Nat) (d:DV):St:={ σ with t:=(t,d)::σ.t }
def St.setObj (σ:St) (id:Nat) (o:Option fK):St:={ σ with h:=(id,o)::σ.h }
theorem St.Un (σ:St) (t:Nat) (d:DV) (i:Nat):(σ.put t d).get i=if t=i then d else σ.get i:=by
 unfold St.get St.put
 rw [dH]
 by_cases h:t=i<;>simp [h]
theorem St.dE (σ:St) (id:Nat) (o:Option fK) (i:Nat):(σ.setObj id o).obj i=if id=i then o else σ.obj i:=by
 unfold St.obj St.setObj
 rw [dH]
 by_cases h:id=i<;>simp [h]
structure Env where
 S:Nat->Prop
 sh:List (DV×Value)
 wr:World
 wb:Option Nat
 X:Nat->Prop
 pv:Nat->Value
structure Below (B:Nat) (w w':World):Prop where
 os:w'.os=w.os
 tape:w'.tape=w.tape
 output:w'.output=w.output
 size:w.heap.size<=w'.heap.size
 block: ∀k,k<B->w'.heap[k]? =w.heap[k]?
 drawn:Cs w w'
theorem Below.lib {B:Nat} {w w':World} (h:Below B w w'):Go.RowKit.Below B w w':=⟨h.os,h.tape,h.output,h.size,h.block⟩
theorem Below.refl (B:Nat) (w:World):Below B w w:=⟨rfl,rfl,rfl,af _,fun _ _=>rfl,fun _=>af _⟩
theorem Below.trans {B:Nat} {a b c:World} (h:Below B a b) (k:Below B b c):Below B a c:=
 ⟨k.os.trans h.os,k.tape.trans h.tape,k.output.trans h.output,aV h.size k.size,fun i hi=>(k.block i hi).trans (h.block i hi),fun t=>aV (h.drawn t) (k.drawn t)⟩
theorem Below.mono {B B':Nat} {w w':World} (h:Below B w w') (hB:B'<=B):Below B' w w':=⟨h.os,h.tape,h.output,h.size,fun k hk=>h.block k (bz hk hB),h.drawn⟩
theorem Below.alloc {B:Nat} {a w:World} (h:Below B a w) (hB:B<=w.heap.size) (o:Obj):Below B a (w.alloc o):=
 have k:=Go.RowKit.Below.alloc h.lib hB o
 ⟨k.os,k.tape,k.output,k.size,k.block,h.drawn⟩
theorem Below.heap_alloc (w:World) (o:Obj) (k:Nat) (h:k<w.heap.size):(w.alloc o).heap[k]? =w.heap[k]? :=Go.RowKit.Below.heap_alloc w o k h
structure iR (base:Nat) (X:Nat->Prop) (w w':World):Prop where
 os:w'.os=w.os
 tape:w'.tape=w.tape
 output:w'.output=w.output
 size:w.heap.size<=w'.heap.size
 block: ∀k,k<base-> ¬X k->w'.heap[k]? =w.heap[k]?
 drawn:Cs w w'
theorem iR.trans {base:Nat} {X:Nat->Prop} {w w' ZZ:World} (h:iR base X w w') (k:iR base X w' ZZ):iR base X w ZZ:=
 ⟨k.os.trans h.os,k.tape.trans h.tape,k.output.trans h.output,aV h.size k.size,fun i hi hx=>(k.block i hi hx).trans (h.block i hi hx),fun t=>aV (h.drawn t) (k.drawn t)⟩
theorem iR.refl (base:Nat) (X:Nat->Prop) (w:World):iR base X w w:=⟨rfl,rfl,rfl,af _,fun _ _ _=>rfl,fun _=>af _⟩
theorem iR.of {base:Nat} {X:Nat->Prop} {w w':World} (h:Below base w w'):iR base X w w':=⟨h.os,h.tape,h.output,h.size,fun k hk _=>h.block k hk,h.drawn⟩
theorem iR.none {base:Nat} {X:Nat->Prop} {w w':World} (h:iR base X w w') (hX: ∀k,¬X k):Below base w w':=⟨h.os,h.tape,h.output,h.size,fun k hk=>h.block k hk (hX k),h.drawn⟩
def BC (w:World) (a:Addr) (u:Value):Prop:=(w.cell? a=some u/\fc u=true)\/(∃es c,w.heap[a.block]? =some (.map es c)/\u=Ru (es.toList.map fun e=>(e.key,e.val)))\/ ∃cs T fr,w.heap[a.block]? =some (.cells cs T fr)/\u= .tuple #[.agg cs]
def Ax (o:Obj):Prop:=(∃es c,o= .map es c)\/ ∃m s q c,o= .mapIter m s q c
def jV (w:World) (g:Nat):Prop:= ∃o,w.heap[g]? =some o/\Ax o
theorem sR {ds:Option (List Deferred)}: ¬Ax (.deferred ds):=fun h=>by rcases h with ⟨_,_,h⟩|⟨_,_,_,_,h⟩<;>cases h
theorem q7 {w:World} {g:Nat} {ds:Option (List Deferred)} (h:w.heap[g]? =some (.deferred ds)): ¬jV w g:=fun ⟨o,h1,h2⟩=>by rw [h] at h1;cases h1;exact sR h2
theorem jV.mk {w:World} {g:Nat} {es:Array MapEntry} {c:Nat} (h:w.heap[g]? =some (.map es c)):jV w g:=⟨_,h,.inl ⟨_,_,rfl⟩⟩
theorem oE {w:World} {a:Addr} {u:Value} (h:BC w a u) (ho:fc u=true):w.cell? a=some u:=by
 rcases h with h|⟨es,c,_,rfl⟩|⟨cs,T,fr,_,rfl⟩
 ·exact h.1
 ·simp [Ru,fc] at ho
 ·simp [fc] at ho
def df (w:World) (base:Nat) (S0:Env) (c9:Nat->Option Loc):Rd:=fun a u=>
 BC w a u/\(∀id l,c9 id=some l-> ¬l.has a.block)/\(S0.S a.block\/base<=a.block)/\ ∀B,S0.wb=some B->jV w a.block->a.block<B
abbrev du (rd:Rd) (d:DV) (v:Value):Prop:=Rel rd (fun _=>False) (fun _=>none) d v
structure Mx (rd:Rd) (ks:KS) (has:List Int->Bool) (gN:List Int->DV) (es:List MapEntry):Prop where
 hk: ∀e∈es,∃l,nr ks e.key=some l/\has l=true
 hh: ∀l,has l=true-> ∃e∈es,nr ks e.key=some l
 hd:es.Pairwise fun x y=>x.key≠y.key
 hs: ∀e∈es,fc e.val=true
 h: ∀(e:MapEntry) (l:List Int),e∈es->nr ks e.key=some l->du rd (gN l) e.val
structure ZR (es:List MapEntry) (clock:Nat):Prop where
 apart:es.Pairwise fun x y=>x.born≠y.born
 below: ∀e∈es,e.born<clock
def Cr (w:World) (rd:Rd) (bs:List Nat) (n:Nat) (c:Nat->DV) (v:Value):Prop:=(v= .slice none 0 0/\n=0)\/ ∃g C cv T,v= .slice (some ⟨g,0,none⟩) n C/\g∈bs/\w.heap[g]? =some (.cells cv T (0,0))/\cv.size=C/\n<=C/\
 ∀i,i<n-> ∃u,cv[i]? =some u/\fc u=true/\du rd (c i) u
structure Bq (w:World) (rd:Rd) (bs:List Nat) (ks:KS) (len:List Int->Nat) (gN:List Int->Nat->DV) (uX:Option (List Int)) (es:List MapEntry):Prop where
 hk: ∀e∈es,∃l,nr ks e.key=some l
 hd:es.Pairwise fun x y=>x.key≠y.key
 P9: ∀l,(∀e∈es,nr ks e.key≠some l)->uX≠some l->len l=0
 Uy: ∀e l,e∈es->nr ks e.key=some l->uX≠some l->Cr w rd bs (len l) (gN l) e.val
 sep: ∀e e' l l' g n C n' C',e∈es->e'∈es->nr ks e.key=some l->nr ks e'.key=some l'->uX≠some l->uX≠some l'->e.key≠e'.key->e.val= .slice (some ⟨g,0,none⟩) n C->e'.val≠ .slice (some ⟨g,0,none⟩) n' C'
structure FI (w:World) (rd:Rd) (bs:List Nat) (n s:Nat) (len:Nat->Nat->Nat) (gN:Nat->Nat->Nat->DV) (uX:Option (Nat×Nat)) (cv:Array Value):Prop where
 Uy: ∀i j,i<n->j<s->uX≠some (i,j)-> ∃v,cv[i*s+j]? =some v/\Cr w rd bs (len i j) (gN i j) v
 sep: ∀i j i' j' g m C m' C',i<n->j<s->i'<n->j'<s->uX≠some (i,j)->uX≠some (i',j')->(i,j)≠(i',j')->cv[i*s+j]? =some (.slice (some ⟨g,0,none⟩) m C)->cv[i'*s+j']? ≠some (.slice (some ⟨g,0,none⟩) m' C')
theorem Cr.keep {w w':World} {rd gJ:Rd} {bs:List Nat} {n:Nat} {c:Nat->DV} {v:Value} (h:Cr w rd bs n c v) (hr: ∀{d u},du rd d u->du gJ d u) (hk: ∀k,k∈bs->w'.heap[k]? =w.heap[k]?):Cr w' gJ bs n c v:=by
 rcases h with h|⟨g,C,cv,T,h1,h2,h3,h4,h5,h6⟩
 ·exact .inl h
 ·exact .inr ⟨g,C,cv,T,h1,h2,by rw [hk g h2];exact h3,h4,h5,fun i hi=>let ⟨u,a,b,c⟩:=h6 i hi;⟨u,a,b,hr c⟩⟩
theorem FI.mono {w w':World} {rd gJ:Rd} {bs:List Nat} {n s:Nat} {len:Nat->Nat->Nat} {gN:Nat->Nat->Nat->DV} {uX:Option (Nat×Nat)} {cv:Array Value} (h:FI w rd bs n s len gN uX cv) (hr: ∀{d u},du rd d u->du gJ d u) (hk: ∀k,k∈bs->w'.heap[k]? =w.heap[k]?):FI w' gJ bs n s len gN uX cv:=
 ⟨fun i j a b c=>let ⟨v,x,y⟩:=h.Uy i j a b c;⟨v,x,y.keep hr hk⟩,h.sep⟩
def atKey (ks:KS) (es:List MapEntry) (l:List Int) (v:Value):Prop:=(∃e∈es,nr ks e.key=some l/\e.val=v)\/((∀e∈es,nr ks e.key≠some l)/\v= .slice none 0 0)
def iG (w:World) (rd:Rd) (kn:Nat->Prop) (c9:Nat->Option Loc) (l:Option Loc):fK->Prop
 |.box cs=> ∃g C cv T,l=some (.at_ g C)/\w.heap[g]? =some (.cells cv T (0,0))/\cv.size=cs.length/\(∀(j:Nat) (d:DV) (u:Value),cs[j]? =some d->cv[j]? =some u->Rel rd kn c9 d u)/\ ∀u∈cv.toList,fc u=true
 |.row n de=>(l=some .nil/\n=0)\/ ∃g C cv T,l=some (.at_ g C)/\w.heap[g]? =some (.cells cv T (0,0))/\cv.size=C*de.length/\n<=C/\
   ∀(i j:Nat) (f:Nat->DV),i<n->de[j]? =some f-> ∃u,cv[i*de.length+j]? =some u/\fc u=true/\du rd (f i) u
 |.ph n de=>(l=some .nil/\n=0)\/ ∃g o C cv T,(l=some (.sub g o C)\/(l=some (.at_ g C)/\o=0))/\w.heap[g]? =some (.cells cv T (0,0))/\o+C*de.length<=cv.size/\n<=C/\
   ∀(i j:Nat) (f:Nat->DV),i<n->de[j]? =some f-> ∃u,cv[o+(i*de.length+j)]? =some u/\fc u=true/\du rd (f i) u
 |.map ks has gN ym=> ∃g es clock,l=some (.map g [])/\w.heap[g]? =some (.map es clock)/\Mx rd ks has gN es.toList/\ZR es.toList clock/\
   ∀t k,ym=some (t,k)-> ∃e∈es.toList,nr ks e.key=some k/\c9 t=some (.is (.int .i64 e.born))
 |.vF ks len gN ym uX=> ∃g bs es clock,l=some (.map g bs)/\w.heap[g]? =some (.map es clock)/\Bq w rd bs ks len gN uX es.toList/\(∀b,b∈bs-> ∃cv T,w.heap[b]? =some (.cells cv T (0,0)))/\
   ∀t k,(t,k)∈ym-> ∃v,c9 t=some (.is v)/\atKey ks es.toList k v
 |.tok=> ∃v,l=some (.is v)
 |.oo n s len gN uX=> ∃g C bs cv T,l=some (.oo g C bs)/\w.heap[g]? =some (.cells cv T (0,0))/\cv.size=C*s/\n<=C/\FI w rd bs n s len gN uX cv/\ ∀b,b∈bs->b≠g/\ ∃cv T,w.heap[b]? =some (.cells cv T (0,0))
 |.exact g o=>l=some (.map g [])/\w.heap[g]? =some o/\Ax o
def ndF:DV×Value:=(.any,.int .i64 77)
structure R (base:Nat) (w0:World) (S0:Env) (σ:St) (kn:Nat->Prop) (c9:Nat->Option Loc) (a:Act) (w:World):Prop where
 below:iR base S0.X w0 w
 xs: ∀k,S0.X k->S0.S k
 fw:base<=w.heap.size
 rH:(a.defers.Nodup/\(ndF∈S0.sh->a.defers=[]))/\ ∀d∈a.defers,∃D,d={ target:= .collected D,args:= #[] }/\base<=D/\w.heap[D]? =some (.deferred (some []))
 nM:S0.wr.heap.size<=w.heap.size/\(∀B,S0.wb=some B->KeepsFrom B S0.wr w)/\ ∀(k:Nat) (o:Obj),S0.wr.heap[k]? =some o->o.isCells=false-> ¬Ax o->w.heap[k]? =some o
 LB:S0.wb≠none->σ.rn=true
 lR: ∀B,S0.wb=some B-> ∀id g bs,c9 id=some (.map g bs)->g<B
 yx: ∀d v,(d,v)∈Vl++S0.sh->Rel (df w base S0 c9) kn c9 d v
 size:a.tmps.size=σ.nt
 tmps: ∀t,Rel (df w base S0 c9) kn c9 (σ.get t) (a.tmps.getD t undef)
 fg: ∀id o,σ.obj id=some o->kn id/\iG w (df w base S0 c9) kn c9 (c9 id) o
 inj: ∀id kG l l' g,c9 id=some l->c9 kG=some l'->l.has g->l'.has g->id=kG
 ge: ∀id l g,c9 id=some l->l.has g->(base<=g\/S0.X g)/\g<w.heap.size
 live: ∀id l,c9 id=some l-> ∃o,σ.obj id=some o
 EF: ∀t,t<σ.lo->a.tmps.getD t undef=S0.pv t
section
variable {base:Nat} {w0 w w':World} {S0:Env} {σ:St} {kn eL:Nat->Prop} {c9 dk:Nat->Option Loc} {a:Act}
structure Sb (w w':World) (kn eL:Nat->Prop) (c9 dk:Nat->Option Loc):Prop where
 size:w.heap.size<=w'.heap.size
 keep: ∀k,k<w.heap.size->(∀id l,c9 id=some l-> ¬l.has k)->w'.heap[k]? =w.heap[k]?
 new: ∀id l g,dk id=some l->l.has g->(∃kG l',c9 kG=some l'/\l'.has g)\/w.heap.size<=g
 known: ∀id,kn id->eL id
 back: ∀id l,kn id->dk id=some l-> ∃l0,c9 id=some l0/\l0.core=l.core
 fwd: ∀id v,kn id->c9 id=some (.is v)->dk id=some (.is v)
theorem World.yv (w:World) (o:Obj) (i:Nat) (h:i<w.heap.size):(w.alloc o).heap[i]? =w.heap[i]? :=((Below.refl w.heap.size w).alloc (af _) o).block i h
theorem dY {w:World} {k:Nat} {o:Obj} (h:w.heap[k]? =some o):k<w.heap.size:=(aJ.1 h).1
theorem Hs {w w':World} (hb:Below w.heap.size w w'):KeepsOthers w w':=⟨hb.size,fun k o hk _=>by rw [hb.block k (dY hk)];exact hk⟩
theorem KeepsB.below {w w':World} (hb:Below w.heap.size w w') (B:Nat):KeepsFrom B w w':=(Hs hb).from B
theorem UJ {w:World} {a:Addr} {u:Value} (h:w.cell? a=some u):a.block<w.heap.size:=by
 rcases aU a.block w.heap.size with dK|iy
 ·exact dK
 ·unfold World.cell? at h
  rw [Array.getElem?_eq_none iy] at h
  cases h
theorem gE {w:World} {a:Addr} {u:Value} (h:BC w a u):a.block<w.heap.size:=by
 rcases h with h|⟨es,c,h,_⟩|⟨cs,T,fr,h,_⟩
 ·exact UJ h.1
 ·exact dY h
 ·exact dY h
theorem xe {w w':World} {a:Addr} {u:Value} (hk:w'.heap[a.block]? =w.heap[a.block]?) (h:BC w a u):BC w' a u:=by
 rcases h with h|⟨es,c,h,e⟩|⟨cs,T,fr,h,e⟩
 ·exact .inl ⟨by rw [World.cell?_of_block hk];exact h.1,h.2⟩
 ·exact .inr (.inl ⟨es,c,by rw [hk];exact h,e⟩)
 ·exact .inr (.inr ⟨cs,T,fr,by rw [hk];exact h,e⟩)
theorem tB {w w':World} {g:Nat} (hk:w'.heap[g]? =w.heap[g]?) (h:jV w' g):jV w g:=by
 obtain ⟨o,h,h2⟩:=h
 exact ⟨o,by rw [<-hk];exact h,h2⟩
theorem Sb.rd (c:Sb w w' kn eL c9 dk): ∀a u,df w base S0 c9 a u->df w' base S0 dk a u:=by
 rintro a u ⟨h1,h2,h3,h4⟩
 have hk:=c.keep _ (gE h1) h2
 refine ⟨xe hk h1,?_,h3,fun B hB hm=>h4 B hB (tB hk hm)⟩
 intro id l e hl
 rcases c.new id l _ e hl with ⟨kG,l',e',oS⟩|iy
 ·exact h2 _ _ e' oS
 ·have:=gE h1;omega
theorem Sb.rel (c:Sb w w' kn eL c9 dk) {d:DV} {v:Value} (h:Rel (df w base S0 c9) kn c9 d v):Rel (df w' base S0 dk) eL dk d v:=
 h.mono c.rd c.known c.back
theorem Sb.MS (c:Sb w w' kn eL c9 dk) {d:DV} {v:Value} (h:du (df w base S0 c9) d v):du (df w' base S0 dk) d v:=
 h.mono c.rd (fun _ h=>h) fun _ _ h=>h.elim
theorem Mx.mono {rd gJ:Rd} {ks:KS} {has:List Int->Bool} {gN:List Int->DV} {es:List MapEntry} (h:Mx rd ks has gN es) (hm: ∀{d v},du rd d v->du gJ d v):Mx gJ ks has gN es:=
 ⟨h.hk,h.hh,h.hd,h.hs,fun e l a b=>hm (h.h e l a b)⟩
theorem Cr.mono {rd gJ:Rd} {bs KG:List Nat} {n:Nat} {c:Nat->DV} {v:Value} (h:Cr w rd bs n c v) (hm: ∀{d v},du rd d v->du gJ d v) (hk: ∀g,g∈bs->v=v->w'.heap[g]? =w.heap[g]?) (hb: ∀g,g∈bs->g∈KG):Cr w' gJ KG n c v:=by
 rcases h with h|⟨g,C,cv,T,h1,h2,h3,h4,h5,h6⟩
 ·exact .inl h
 ·exact .inr ⟨g,C,cv,T,h1,hb g h2,by rw [hk g h2 rfl];exact h3,h4,h5,fun i hi=>let ⟨u,a,b,c⟩:=h6 i hi;⟨u,a,b,hm c⟩⟩
theorem Bq.mono {rd gJ:Rd} {bs:List Nat} {ks:KS} {len:List Int->Nat} {gN:List Int->Nat->DV} {uX:Option (List Int)} {es:List MapEntry} (h:Bq w rd bs ks len gN uX es) (hm: ∀{d v},du rd d v->du gJ d v) (hk: ∀g,g∈bs->w'.heap[g]? =w.heap[g]?):Bq w' gJ bs ks len gN uX es:=
 ⟨h.hk,h.hd,h.P9,fun e l a b c=>(h.Uy e l a b c).mono hm (fun g hg _=>hk g hg) fun _ hg=>hg,h.sep⟩
theorem Sb.obj (c:Sb w w' kn eL c9 dk) (kL: ∀t v,c9 t=some (.is v)->kn t) {l:Option Loc} {o:fK} (h:iG w (df w base S0 c9) kn c9 l o)
 (hk: ∀l',l=some l'-> ∀g,l'.has g->w'.heap[g]? =w.heap[g]?):iG w' (df w' base S0 dk) eL dk l o:=by
 cases o with
 |box cs=>
  obtain ⟨g,C,cv,T,hl,hh,hs,hr,ho⟩:=h
  exact ⟨g,C,cv,T,hl,by rw [hk _ hl g rfl];exact hh,hs,fun j d u a b=>c.rel (hr j d u a b),ho⟩
 |row n de=>
  rcases h with ⟨hl,hn⟩|⟨g,C,cv,T,hl,hh,hs,hn,hr⟩
  ·exact .inl ⟨hl,hn⟩
  ·exact .inr ⟨g,C,cv,T,hl,by rw [hk _ hl g rfl];exact hh,hs,hn,fun i j f a b=>let ⟨u,e,o,r⟩:=hr i j f a b;⟨u,e,o,c.MS r⟩⟩
 |ph n de=>
  rcases h with ⟨hl,hn⟩|⟨g,o,C,cv,T,hl,hh,hs,hn,hr⟩
  ·exact .inl ⟨hl,hn⟩
  ·have hkg:w'.heap[g]? =w.heap[g]? :=by rcases hl with hl|⟨hl,_⟩<;>exact hk _ hl g rfl
   exact .inr ⟨g,o,C,cv,T,hl,by rw [hkg];exact hh,hs,hn,fun i j f a b=>let ⟨u,e,o,r⟩:=hr i j f a b;⟨u,e,o,c.MS r⟩⟩
 |map ks has gN ym=>
  obtain ⟨g,es,clock,hl,hh,hm,pF,tG⟩:=h
  exact ⟨g,es,clock,hl,by rw [hk _ hl g (.inl rfl)];exact hh,hm.mono c.MS,pF,fun t k e=>let ⟨e0,a,b,d⟩:=tG t k e;⟨e0,a,b,c.fwd _ _ (kL _ _ d) d⟩⟩
 |vF ks len gN ym uX=>
  obtain ⟨g,bs,es,clock,hl,hh,hm,yF,tG⟩:=h
  exact ⟨g,bs,es,clock,hl,by rw [hk _ hl g (.inl rfl)];exact hh,hm.mono c.MS (fun k kZ=>hk _ hl k (.inr kZ)),fun b hb=>by rw [hk _ hl b (.inr hb)];exact yF b hb,fun t k e=>let ⟨v,a,b⟩:=tG t k e;⟨v,c.fwd _ _ (kL _ _ a) a,b⟩⟩
 |oo n s len gN uX=>
  obtain ⟨g,C,bs,cv,T,hl,hh,hs,hn,hG,yF⟩:=h
  exact ⟨g,C,bs,cv,T,hl,by rw [hk _ hl g (.inl rfl)];exact hh,hs,hn,hG.mono c.MS (fun k kZ=>hk _ hl k (.inr kZ)),fun b hb=>by rw [hk _ hl b (.inr hb)];exact yF b hb⟩
 |tok=>exact h
 |exact g o=>
  obtain ⟨hl,hh,ho⟩:=h
  exact ⟨hl,by rw [hk _ hl g (.inl rfl)];exact hh,ho⟩
theorem R.known (r:R base w0 S0 σ kn c9 a w) {id:Nat} {l:Loc} (h:c9 id=some l):kn id:=let ⟨o,ho⟩:=r.live _ _ h;(r.fg id o ho).1
theorem R.oH (r:R base w0 S0 σ kn c9 a w) {id g:Nat} {l:Loc} (hl:c9 id=some l) (hg:l.has g):(∃cv T,w.heap[g]? =some (.cells cv T (0,0)))\/ ∃bs o,l= .map g bs/\w.heap[g]? =some o/\Ax o:=by
 obtain ⟨o,ho⟩:=r.live _ _ hl
 have h:=(r.fg _ _ ho).2
 rw [hl] at h
 cases o with
 |box cs=>obtain ⟨g',C',cv,T,e,h2,_⟩:=h;cases e;cases hg;exact .inl ⟨_,_,h2⟩
 |row n de=>
  rcases h with ⟨e,_⟩|⟨g',C',cv,T,e,h2,_⟩
  ·cases e;exact hg.elim
  ·cases e;cases hg;exact .inl ⟨_,_,h2⟩
 |ph n de=>
  rcases h with ⟨e,_⟩|⟨g',o',C',cv,T,e,h2,_⟩
  ·cases e;exact hg.elim
  ·rcases e with e|⟨e,_⟩<;>(cases e;cases hg;exact .inl ⟨_,_,h2⟩)
 |map ks has gN ym=>
  obtain ⟨g',es,clock,e,h2,_⟩:=h
  cases e
  rcases hg with rfl|hg
  ·exact .inr ⟨_,_,rfl,h2,.inl ⟨_,_,rfl⟩⟩
  ·cases hg
 |vF ks len gN ym uX=>
  obtain ⟨g',bs,es,clock,e,h2,_,h3,_⟩:=h
  cases e
  rcases hg with rfl|hg
  ·exact .inr ⟨_,_,rfl,h2,.inl ⟨_,_,rfl⟩⟩
  ·exact .inl (h3 _ hg)
 |oo n s len gN uX=>
  obtain ⟨g',C,bs,cv,T,e,h2,_,_,_,h3⟩:=h
  cases e
  rcases hg with rfl|hg
  ·exact .inl ⟨_,_,h2⟩
  ·exact .inl (h3 _ hg).2
 |tok=>obtain ⟨v,e⟩:=h;cases e;exact hg.elim
 |exact g' o=>
  obtain ⟨e,h2,h3⟩:=h
  cases e
  rcases hg with rfl|hg
  ·exact .inr ⟨_,_,rfl,h2,h3⟩
  ·cases hg
theorem R.Aj (r:R base w0 S0 σ kn c9 a w) {id g:Nat} {l:Loc} {ds:Option (List Deferred)} (hl:c9 id=some l) (hg:l.has g):w.heap[g]? ≠some (.deferred ds):=by
 intro hh
 rcases r.oH hl hg with ⟨_,_,h⟩|⟨_,_,_,h,h2⟩
 ·rw [hh] at h;cases h
 ·rw [hh] at h;cases h
  rcases h2 with ⟨_,_,h2⟩|⟨_,_,_,_,h2⟩<;>cases h2
theorem R.fwdk (r:R base w0 S0 σ kn c9 a w): ∀t v,c9 t=some (.is v)->kn t:=fun _ _ h=>r.known h
theorem R.step (r:R base w0 S0 σ kn c9 a w) {σ':St} (X T:Nat->Prop) (fq:w.heap.size<=w'.heap.size) (QF:w'.os=w.os) (BY:w'.tape=w.tape) (qw:w'.output=w.output)
 (hk: ∀k,k<w.heap.size-> ¬X k->w'.heap[k]? =w.heap[k]?) (hX: ∀k,X k-> ∃id l,T id/\c9 id=some l/\l.has k) (kL: ∀i,kn i->eL i) (hT: ∀i,¬T i->dk i=c9 i)
 (htok: ∀i v,T i->kn i->c9 i=some (.is v)->dk i=some (.is v)) (yD: ∀i l g,T i->dk i=some l->l.has g->(∃i0 l0,T i0/\c9 i0=some l0/\l0.has g)\/(w.heap.size<=g/\g<w'.heap.size))
 (HF: ∀i l,T i->kn i->dk i=some l-> ∃l0,c9 i=some l0/\l0.core=l.core)
 (T7:σ'.nt=σ.nt) (L3:σ'.rn=σ.rn) (lS:σ'.lo=σ.lo) (sF: ∀t,σ'.get t=σ.get t) (hN: ∀i,¬T i->σ'.obj i=σ.obj i)
 (oP:Sb w w' kn eL c9 dk->(∀{d v},Rel (df w base S0 c9) kn c9 d v->Rel (df w' base S0 dk) eL dk d v)->(∀{d v},du (df w base S0 c9) d v->du (df w' base S0 dk) d v)-> ∀i o,T i->σ'.obj i=some o->eL i/\iG w' (df w' base S0 dk) eL dk (dk i) o)
 (hlive: ∀i l,T i->dk i=some l-> ∃o,σ'.obj i=some o) (hinj: ∀i i' l l' g,T i->T i'->dk i=some l->dk i'=some l'->l.has g->l'.has g->i=i')
 (hlow: ∀B,S0.wb=some B-> ∀i g bs,T i->dk i=some (.map g bs)->g<B) (Nr:Cs w w':=by exact fun _=>af _):R base w0 S0 σ' eL dk a w':=by
 have hXb: ∀k,X k->base<=k\/S0.X k:=fun k h=>by obtain ⟨id,l,_,hl,hg⟩:=hX k h;exact (r.ge id l k hl hg).1
 have hb:iR base S0.X w w':=⟨QF,BY,qw,fq,fun k kZ hx=>hk k (bz kZ r.fw) (fun h=>by rcases hXb k h with h|h;omega;exact hx h),Nr⟩
 have c:Sb w w' kn eL c9 dk:=by
  refine ⟨fq,fun k wJ hm=>hk k wJ fun h=>by obtain ⟨id,l,_,hl,hg⟩:=hX k h;exact hm id l hl hg,fun id l g e hg=> ?_,kL,fun id l hi e=> ?_,fun id v hi e=> ?_⟩
  ·by_cases h:T id
   ·rcases yD id l g h e hg with ⟨i0,l0,_,h1,h2⟩|h1
    ·exact .inl ⟨i0,l0,h1,h2⟩
    ·exact .inr h1.1
   ·exact .inl ⟨id,l,by rw [<-hT id h];exact e,hg⟩
  ·by_cases h:T id
   ·exact HF id l h hi e
   ·exact ⟨l,by rw [<-hT id h];exact e,rfl⟩
  ·by_cases h:T id
   ·exact htok id v h hi e
   ·rw [hT id h];exact e
 have nX: ∀{i l k},¬T i->c9 i=some l->l.has k-> ¬X k:=fun {i l k} hi hl hg h=>by
  obtain ⟨id,l',fS,oS,om⟩:=hX k h
  exact hi (r.inj _ _ _ _ _ oS hl om hg▸fS)
 refine ⟨r.below.trans hb,r.xs,aV r.fw fq,⟨r.rH.1,fun d hd=>let ⟨D,e,hD,hh⟩:=r.rH.2 d hd;⟨D,e,hD,by
  rw [hk D (dY hh) (fun h=>by obtain ⟨id,l,_,hl,hg⟩:=hX D h;exact r.Aj hl hg hh)];exact hh⟩⟩,
  ⟨aV r.nM.1 fq,fun B hB=>(r.nM.2.1 B hB).trans ⟨fq,fun k o hBk ho hc=> ?_⟩,fun k o ho hc hm=>by
    have h1:=r.nM.2.2 k o ho hc hm
    rw [hk k (dY h1) (fun h=>by
     obtain ⟨id,l,_,hl,hg⟩:=hX k h
     rcases r.oH hl hg with ⟨_,_,h'⟩|⟨bs,o',_,h',h2⟩
     ·rw [h1] at h';cases h';cases hc
     ·rw [h1] at h';cases h';exact hm h2)];exact h1⟩,fun h=>by rw [L3];exact r.LB h,fun B hB i g bs e=> ?_,
  fun d v h=>c.rel (r.yx d v h),by rw [T7];exact r.size,fun t=>by rw [sF];exact c.rel (r.tmps t),fun i o h=> ?_,fun i i' l l' g h1 h2 h3 h4=> ?_,fun i l g e hg=> ?_,fun i l e=> ?_,fun t ht=>r.EF t (by rw [<-lS];exact ht)⟩
 ·rw [hk k (dY ho) (fun h=>by
   obtain ⟨id,l,_,hl,hg⟩:=hX k h
   rcases r.oH hl hg with ⟨_,_,h'⟩|⟨bs,_,rfl,_⟩
   ·rw [ho] at h';cases h';cases hc
   ·have:=r.lR B hB id k bs hl;omega)];exact ho
 ·by_cases h:T i
  ·exact hlow B hB i g bs h e
  ·exact r.lR B hB i g bs (by rw [<-hT i h];exact e)
 ·by_cases hi:T i
  ·exact oP c c.rel c.MS i o hi h
  ·rw [hN i hi] at h
   obtain ⟨k1,k2⟩:=r.fg i o h
   refine ⟨kL i k1,?_⟩
   rw [hT i hi]
   refine c.obj r.fwdk k2 fun l' oS g hg=>hk g (r.ge _ _ _ oS hg).2 (nX hi oS hg)
 ·by_cases hi:T i<;>by_cases pH:T i'
  ·exact hinj i i' l l' g hi pH h1 h2 h3 h4
  ·rw [hT i' pH] at h2
   rcases yD i l g hi h1 h3 with ⟨i0,l0,ht,HC,hg0⟩|iy
   ·exact absurd (r.inj _ _ _ _ _ HC h2 hg0 h4▸ht) pH
   ·have:=(r.ge _ _ _ h2 h4).2;omega
  ·rw [hT i hi] at h1
   rcases yD i' l' g pH h2 h4 with ⟨i0,l0,ht,HC,hg0⟩|iy
   ·exact absurd (r.inj _ _ _ _ _ HC h1 hg0 h3▸ht) hi
   ·have:=(r.ge _ _ _ h1 h3).2;omega
  ·rw [hT i hi] at h1
   rw [hT i' pH] at h2
   exact r.inj _ _ _ _ _ h1 h2 h3 h4
 ·by_cases hi:T i
  ·rcases yD i l g hi e hg with ⟨i0,l0,_,HC,hg0⟩|iy
   ·have:=r.ge _ _ _ HC hg0;exact ⟨this.1,by omega⟩
   ·exact ⟨.inl (by have:=r.fw;omega),iy.2⟩
  ·rw [hT i hi] at e
   have:=r.ge _ _ _ e hg
   exact ⟨this.1,by omega⟩
 ·by_cases hi:T i
  ·exact hlive i l hi e
  ·rw [hT i hi] at e
   rw [hN i hi]
   exact r.live i l e
theorem R.world (r:R base w0 S0 σ kn c9 a w) (hb:Below w.heap.size w w'):R base w0 S0 σ kn c9 a w':=
 r.step (fun _=>False) (fun _=>False) hb.size hb.os hb.tape hb.output (fun k hk _=>hb.block k hk) (fun _ h=>h.elim) (fun _ h=>h) (fun _ _=>rfl) (fun _ _ h=>h.elim) (fun _ _ _ h=>h.elim) (fun _ _ h=>h.elim) rfl rfl rfl (fun _=>rfl) (fun _ _=>rfl)
  (fun _ _ _ _ _ h=>h.elim) (fun _ _ h=>h.elim) (fun _ _ _ _ _ h=>h.elim) (fun _ _ _ _ _ h=>h.elim) hb.drawn
theorem R.drew (r:R base w0 S0 σ kn c9 a w):R base w0 S0 σ kn c9 a { w with drawn:=w.drawn+1 }:=
 r.world ⟨rfl,rfl,rfl,af _,fun _ _=>rfl,fun _=>Nat.le_succ _⟩
theorem Act.vG (a:Act) (t:Nat) (v:Value) (i:Nat) (ht:t<a.tmps.size):(a.put (some t) v).tmps.getD i undef=if t=i then v else a.tmps.getD i undef:=by
 simp only [Act.put,aC,bo]
 by_cases h:t=i
 ·subst h;simp [ht]
 ·simp [h]
theorem R.put (r:R base w0 S0 σ kn c9 a w) {t:Nat} {d:DV} {v:Value} (ht:t<σ.nt) (lS:σ.lo<=t) (h:Rel (df w base S0 c9) kn c9 d v):
 R base w0 S0 (σ.put t d) kn c9 (a.put (some t) v) w:=by
 refine ⟨r.below,r.xs,r.fw,r.rH,r.nM,r.LB,r.lR,r.yx,?_,fun i=> ?_,r.fg,r.inj,r.ge,r.live,fun i hi=> ?_⟩
 ·have:=r.size;simp only [Act.put,Array.size_setIfInBounds];exact this
 ·rw [Act.vG a t v i (by rw [r.size];exact ht),St.Un]
  by_cases e:t=i
  ·simpa [e] using h
  ·simpa [e] using r.tmps i
 ·have hi:i<σ.lo:=hi
  rw [Act.vG a t v i (by rw [r.size];exact ht),ae (by omega)]
  exact r.EF i hi
theorem R.fresh (r:R base w0 S0 σ kn c9 a w) {id:Nat} (fS: ¬kn id):c9 id=none:=by
 cases hb:c9 id with
 |none=>rfl
 |some l=>exact absurd (r.known hb) fS
theorem R.newAt (r:R base w0 S0 σ kn c9 a w) {id:Nat} {o:fK} {l:Loc} (fS: ¬kn id) (hb:Below w.heap.size w w') (hl: ∀g,l.has g->w.heap.size<=g/\g<w'.heap.size) (hm: ∀B,S0.wb=some B-> ∀g bs,l≠ .map g bs)
 (ho:(∀{d v},Rel (df w base S0 c9) kn c9 d v->Rel (df w' base S0 fun i=>if i=id then some l else c9 i) (fun i=>kn i\/i=id) (fun i=>if i=id then some l else c9 i) d v)->
   (∀{d v},du (df w base S0 c9) d v->du (df w' base S0 fun i=>if i=id then some l else c9 i) d v)->iG w' (df w' base S0 fun i=>if i=id then some l else c9 i) (fun i=>kn i\/i=id) (fun i=>if i=id then some l else c9 i) (some l) o):
 R base w0 S0 (σ.setObj id (some o)) (fun i=>kn i\/i=id) (fun i=>if i=id then some l else c9 i) a w':=by
 have oR:=r.fresh fS
 refine r.step (fun _=>False) (fun i=>i=id) hb.size hb.os hb.tape hb.output (fun k hk _=>hb.block k hk) (fun _ h=>h.elim) (fun _ h=> .inl h) (fun i h=>ae h) (fun i v h hi=>absurd (h▸hi) fS) (fun i l' g h e hg=> ?_) (fun i l' h hi=>absurd (h▸hi) fS) rfl rfl rfl (fun _=>rfl) (fun i h=>by rw [St.dE,ae (fun e=>h e.symm)])
  (fun _ m mC i o' h e=> ?_) (fun i l' h e=>⟨o,by rw [St.dE,ah h.symm]⟩) (fun i i' _ _ _ h h' _ _ _ _=>by rw [h,h']) (fun B hB i g bs h e=> ?_) hb.drawn
 ·simp only [ah h,aa] at e
  subst e;exact .inr (hl g hg)
 ·rw [St.dE,ah h.symm,aa] at e
  subst e
  refine ⟨.inr h,?_⟩
  simp only [ah h]
  exact ho m mC
 ·simp only [ah h,aa] at e
  exact absurd e (hm B hB g bs)
theorem R.new (r:R base w0 S0 σ kn c9 a w) {id:Nat} {o:fK} {cv:Array Value} {T:TypeId} {C:Nat} (fS: ¬kn id)
 (ho:(∃cs,o= .box cs)\/ ∃n de,o= .row n de) (pG:iG (w.alloc (.cells cv T)) (df w base S0 c9) kn c9 (some (.at_ w.heap.size C)) o):
 R base w0 S0 (σ.setObj id (some o)) (fun i=>kn i\/i=id) (fun i=>if i=id then some (.at_ w.heap.size C) else c9 i) a (w.alloc (.cells cv T)):=by
 refine r.newAt fS ((Below.refl _ _).alloc (af _) _) (fun g hg=>by cases hg;simp) (fun _ _ _ _ h=>by cases h) fun m mC=> ?_
 rcases ho with ⟨cs,rfl⟩|⟨n,de,rfl⟩
 ·obtain ⟨g,C',yM,T',hl,hh,hs,hr,h1⟩:=pG
  exact ⟨g,C',yM,T',hl,hh,hs,fun j d u x y=>m (hr j d u x y),h1⟩
 ·rcases pG with ⟨hl,hn⟩|⟨g,C',yM,T',hl,hh,hs,hn,hr⟩
  ·exact .inl ⟨hl,hn⟩
  ·exact .inr ⟨g,C',yM,T',hl,hh,hs,hn,fun i j f x y=>let ⟨u,e,o,q⟩:=hr i j f x y;⟨u,e,o,mC q⟩⟩
theorem R.Vb (r:R base w0 S0 σ kn c9 a w) {id:Nat} {l:Loc} {o:fK} (hl:c9 id=some l) (fq:w'.heap.size=w.heap.size)
 (QF:w'.os=w.os) (BY:w'.tape=w.tape) (qw:w'.output=w.output) (hk: ∀k,¬l.has k->w'.heap[k]? =w.heap[k]?)
 (ho:(∀{d v},Rel (df w base S0 c9) kn c9 d v->Rel (df w' base S0 c9) kn c9 d v)->(∀{d v},du (df w base S0 c9) d v->du (df w' base S0 c9) d v)->iG w' (df w' base S0 c9) kn c9 (some l) o) (Nr:Cs w w':=by exact fun _=>af _):
 R base w0 S0 (σ.setObj id (some o)) kn c9 a w':=by
 refine r.step (fun k=>l.has k) (fun i=>i=id) (by omega) QF BY qw (fun k _ h=>hk k h) (fun k h=>⟨id,l,rfl,hl,h⟩) (fun _ h=>h) (fun _ _=>rfl) (fun _ _ _ _ h=>h) (fun i l' g h e hg=> .inl ⟨i,l',h,e,hg⟩) (fun i l' h hi e=>⟨l',e,rfl⟩) rfl rfl rfl (fun _=>rfl)
  (fun i h=>by rw [St.dE,ae (fun e=>h e.symm)]) (fun _ m mC i o' h e=> ?_) (fun i l' h e=>⟨o,by rw [St.dE,ah h.symm]⟩) (fun i i' _ _ _ h h' _ _ _ _=>by rw [h,h']) (fun B hB i g bs h e=>r.lR B hB i g bs e) Nr
 rw [St.dE,ah h.symm,aa] at e
 subst e h
 exact ⟨r.known hl,by rw [hl];exact ho m mC⟩
theorem R.zA (r:R base w0 S0 σ kn c9 a w) {id g C:Nat} {o:fK} (hl:c9 id=some (.at_ g C)) (fq:w'.heap.size=w.heap.size)
 (QF:w'.os=w.os) (BY:w'.tape=w.tape) (qw:w'.output=w.output) (hk: ∀k,k≠g->w'.heap[k]? =w.heap[k]?)
 (ho:(∀{d v},Rel (df w base S0 c9) kn c9 d v->Rel (df w' base S0 c9) kn c9 d v)->(∀{d v},du (df w base S0 c9) d v->du (df w' base S0 c9) d v)->iG w' (df w' base S0 c9) kn c9 (some (.at_ g C)) o) (Nr:Cs w w':=by exact fun _=>af _):
 R base w0 S0 (σ.setObj id (some o)) kn c9 a w':=r.Vb hl fq QF BY qw (fun k h=>hk k h) ho Nr
theorem R.grown (r:R base w0 S0 σ kn c9 a w) {row:Option Nat} (hg:w.grownBy w' row)
 (hr: ∀k,row=some k->base<=k/\((∃B,S0.wb=some B/\B<=k)\/ ¬jV w k)/\S0.wr.heap.size<=k/\(∃o:Obj,w.heap[k]? =some o/\o.isCells=false)/\ ∀d∈a.defers,d≠{ target:= .collected k,args:= #[] }) (Nr:Cs w w':=by exact fun _=>af _):R base w0 S0 σ kn c9 a w':=by
 have mS: ∀k,row=some k-> ∃o:Obj,w.heap[k]? =some o/\o.isCells=false:=fun k e=>(hr k e).2.2.2.1
 have same: ∀{g:Nat} {o:Obj},w.heap[g]? =some o->(o.isCells=true\/(jV w g/\ ∀B,S0.wb=some B->g<B))->w'.heap[g]? =w.heap[g]? :=fun {g o} hh hc=>by
  refine hg.block g (dY hh) (fun e=> ?_)
  obtain ⟨_,hB,_,⟨o',h1,h2⟩,_⟩:=hr g e.symm
  rcases hc with hc|⟨hm,hc⟩
  ·rw [hh] at h1;cases h1;rw [hc] at h2;cases h2
  ·rcases hB with ⟨B,hB,hBk⟩|hB
   ·have:=hc B hB;omega
   ·exact hB hm
 have own: ∀{id l g},c9 id=some l->l.has g->w'.heap[g]? =w.heap[g]? :=fun {id l g} hl VV=>by
  rcases r.oH hl VV with ⟨cv,T,h⟩|⟨bs,o,rfl,h,h2⟩
  ·exact same h (.inl rfl)
  ·exact same h (.inr ⟨⟨o,h,h2⟩,fun B hB=>r.lR B hB id g bs hl⟩)
 have rdm: ∀a u,df w base S0 c9 a u->df w' base S0 c9 a u:=fun a u ⟨h1,h2,h3,h4⟩=>by
  have hk:w'.heap[a.block]? =w.heap[a.block]? :=by
   rcases h1 with h1|⟨es,c,h1,_⟩|⟨cs,T,fr,h1,_⟩
   ·obtain ⟨o,ho,hc⟩:=cells_of_cell h1.1
    exact same ho (.inl hc)
   ·exact same h1 (.inr ⟨.mk h1,fun B hB=>h4 B hB (.mk h1)⟩)
   ·exact same h1 (.inl rfl)
  exact ⟨xe hk h1,h2,h3,fun B hB hm=>h4 B hB (tB hk hm)⟩
 have rel: ∀{d v},Rel (df w base S0 c9) kn c9 d v->Rel (df w' base S0 c9) kn c9 d v:=fun h=>h.mono rdm (fun _ h=>h) fun _ _ _ h=>⟨_,h,rfl⟩
 have yy: ∀{d v},du (df w base S0 c9) d v->du (df w' base S0 c9) d v:=fun h=>h.mono rdm (fun _ h=>h) fun _ _ h=>h.elim
 refine ⟨r.below.trans ⟨hg.os,hg.tape,hg.output,hg.size,fun k hk _=>hg.block k (by have:=r.fw;omega) (fun e=>by have:=(hr k e.symm).1;omega),Nr⟩,r.xs,aV r.fw hg.size,⟨r.rH.1,fun d hd=>let ⟨D,e,hD,hh⟩:=r.rH.2 d hd;⟨D,e,hD,by
  rw [hg.block D (dY hh) (fun e2=>(hr D e2.symm).2.2.2.2 d hd e)];exact hh⟩⟩,⟨aV r.nM.1 hg.size,fun B hB=>⟨aV r.nM.1 hg.size,fun k o hBk hk ho=>by
  have h1:=(r.nM.2.1 B hB).same k o hBk hk ho
  rw [hg.block k (dY h1) (fun e2=>by have:=(hr k e2.symm).2.2.1;have:=dY hk;omega)];exact h1⟩,fun k o hk ho hm=>by
  have h1:=r.nM.2.2 k o hk ho hm
  rw [hg.block k (dY h1) (fun e2=>by have:=(hr k e2.symm).2.2.1;have:=dY hk;omega)];exact h1⟩,r.LB,r.lR,
  fun d v h=>rel (r.yx d v h),r.size,fun t=>rel (r.tmps t),fun id o h=>⟨(r.fg id o h).1,?_⟩,r.inj,fun id l g e VV=>⟨(r.ge id l g e VV).1,bz (r.ge id l g e VV).2 hg.size⟩,r.live,r.EF⟩
 have ho:=(r.fg id o h).2
 generalize hl:c9 id=lo at ho
 cases o with
 |box cs=>
  obtain ⟨g,C,cv,T,rfl,hh,hs,hr,h1⟩:=ho
  exact ⟨g,C,cv,T,rfl,by rw [own hl rfl];exact hh,hs,fun j d u a b=>rel (hr j d u a b),h1⟩
 |row n de=>
  rcases ho with ⟨rfl,hn⟩|⟨g,C,cv,T,rfl,hh,hs,hn,hr⟩
  ·exact .inl ⟨rfl,hn⟩
  ·exact .inr ⟨g,C,cv,T,rfl,by rw [own hl rfl];exact hh,hs,hn,fun i j f a b=>let ⟨u,e,o,q⟩:=hr i j f a b;⟨u,e,o,yy q⟩⟩
 |ph n de=>
  rcases ho with ⟨rfl,hn⟩|⟨g,o,C,cv,T,lS,hh,hs,hn,hr⟩
  ·exact .inl ⟨rfl,hn⟩
  ·have hkg:w'.heap[g]? =w.heap[g]? :=by rcases lS with rfl|⟨rfl,_⟩<;>exact own hl rfl
   exact .inr ⟨g,o,C,cv,T,lS,by rw [hkg];exact hh,hs,hn,fun i j f a b=>let ⟨u,e,o,q⟩:=hr i j f a b;⟨u,e,o,yy q⟩⟩
 |map ks has gN ym=>
  obtain ⟨g,es,clock,rfl,hh,hm,pF,tG⟩:=ho
  exact ⟨g,es,clock,rfl,by rw [own hl (.inl rfl)];exact hh,hm.mono yy,pF,tG⟩
 |vF ks len gN ym uX=>
  obtain ⟨g,bs,es,clock,rfl,hh,hm,yF,tG⟩:=ho
  exact ⟨g,bs,es,clock,rfl,by rw [own hl (.inl rfl)];exact hh,hm.mono yy (fun k hk=>own hl (.inr hk)),fun b hb=>by rw [own hl (.inr hb)];exact yF b hb,tG⟩
 |oo n s len gN uX=>
  obtain ⟨g,C,bs,cv,T,rfl,hh,hs,hn,hG,yF⟩:=ho
  exact ⟨g,C,bs,cv,T,rfl,by rw [own hl (.inl rfl)];exact hh,hs,hn,hG.mono yy (fun k hk=>own hl (.inr hk)),fun b hb=>by rw [own hl (.inr hb)];exact yF b hb⟩
 |tok=>exact ho
 |exact g o=>
  obtain ⟨rfl,hh,ho⟩:=ho
  exact ⟨rfl,by rw [own hl (.inl rfl)];exact hh,ho⟩
end
end Go.Abs
end
