/- The abstract machine's state, and what it says of a frame and a world. -/
import Derived.Test.YteennpofimiliaaGreatDoorAbsAA
import Derived.Laws.World
import Derived.RangeFuncOwn
namespace Go.Abs
open Go.RowKit
inductive AObj where
  | box (cs : List DV)
  | row (n : Nat) (cols : List (Nat → DV))
def look {α : Type} : List (Nat × α) → Nat → Option α
  | [], _ => none
  | (k, v) :: r, i => bif Nat.beq k i then some v else look r i
structure St where
  t : List (Nat × DV)
  h : List (Nat × Option AObj)
  nx : Nat
  nt : Nat
def St.get (σ : St) (t : Nat) : DV := match look σ.t t with | some d => d | none => .any
def St.obj (σ : St) (id : Nat) : Option AObj := match look σ.h id with | some o => o | none => none
theorem look_cons {α : Type} (k : Nat) (v : α) (r : List (Nat × α)) (i : Nat) : look ((k, v) :: r) i = if k = i then some v else look r i := by
  simp only [look]
  by_cases h : k = i
  · subst h; simp
  · have : Nat.beq k i = false := by
      cases hb : Nat.beq k i
      · rfl
      · exact absurd (Nat.eq_of_beq_eq_true hb) h
    simp [this, h]
def St.put (σ : St) (t : Nat) (d : DV) : St := { σ with t := (t, d) :: σ.t }
def St.setObj (σ : St) (id : Nat) (o : Option AObj) : St := { σ with h := (id, o) :: σ.h }
theorem St.get_put (σ : St) (t : Nat) (d : DV) (i : Nat) : (σ.put t d).get i = if t = i then d else σ.get i := by
  unfold St.get St.put
  rw [look_cons]
  by_cases h : t = i <;> simp [h]
theorem St.obj_setObj (σ : St) (id : Nat) (o : Option AObj) (i : Nat) : (σ.setObj id o).obj i = if id = i then o else σ.obj i := by
  unfold St.obj St.setObj
  rw [look_cons]
  by_cases h : id = i <;> simp [h]
structure Env where
  S : Nat → Prop
  sh : List (DV × Value)
  wr : World
def rdOf (w : World) (base : Nat) (S0 : Env) (blk : Nat → Option Loc) : Rd := fun a u =>
  w.cell? a = some u ∧ (∀ id g C, blk id = some (.at_ g C) → a.block ≠ g) ∧ (S0.S a.block ∨ base ≤ a.block)
abbrev RelC (rd : Rd) (d : DV) (v : Value) : Prop := Rel rd (fun _ => False) (fun _ => none) d v
def ObjRel (w : World) (rd : Rd) (kn : Nat → Prop) (blk : Nat → Option Loc) (l : Option Loc) : AObj → Prop
  | .box cs => ∃ g C cv T, l = some (.at_ g C) ∧ w.heap[g]? = some (.cells cv T (0, 0)) ∧ cv.size = cs.length ∧ ∀ (j : Nat) (d : DV) (u : Value), cs[j]? = some d → cv[j]? = some u → Rel rd kn blk d u
  | .row n cols => (l = some .nil ∧ n = 0) ∨ ∃ g C cv T, l = some (.at_ g C) ∧ w.heap[g]? = some (.cells cv T (0, 0)) ∧ cv.size = C * cols.length ∧ n ≤ C ∧
      ∀ (i j : Nat) (f : Nat → DV), i < n → cols[j]? = some f → ∃ u, cv[i * cols.length + j]? = some u ∧ oneV u = true ∧ RelC rd (f i) u
structure R (base : Nat) (w0 : World) (S0 : Env) (σ : St) (kn : Nat → Prop) (blk : Nat → Option Loc) (a : Act) (w : World) : Prop where
  below : Below base w0 w
  hbase : base ≤ w.heap.size
  dfr : a.defers.Nodup ∧ ∀ d ∈ a.defers, ∃ D, d = { target := .collected D, args := #[] } ∧ base ≤ D ∧ w.heap[D]? = some (.deferred (some []))
  kpo : KeepsOthers S0.wr w
  shp : ∀ d v, (d, v) ∈ shG ++ S0.sh → Rel (rdOf w base S0 blk) kn blk d v
  size : a.tmps.size = σ.nt
  tmps : ∀ t, Rel (rdOf w base S0 blk) kn blk (σ.get t) (a.tmps.getD t undef)
  objs : ∀ id o, σ.obj id = some o → kn id ∧ ObjRel w (rdOf w base S0 blk) kn blk (blk id) o
  inj : ∀ id id' g C C', blk id = some (.at_ g C) → blk id' = some (.at_ g C') → id = id'
  ge : ∀ id g C, blk id = some (.at_ g C) → base ≤ g ∧ g < w.heap.size
  live : ∀ id l, blk id = some l → ∃ o, σ.obj id = some o
section
variable {base : Nat} {w0 w w' : World} {S0 : Env} {σ : St} {kn kn' : Nat → Prop} {blk blk' : Nat → Option Loc} {a : Act}
structure Chg (w w' : World) (kn kn' : Nat → Prop) (blk blk' : Nat → Option Loc) : Prop where
  size : w.heap.size ≤ w'.heap.size
  keep : ∀ k, k < w.heap.size → (∀ id g C, blk id = some (.at_ g C) → k ≠ g) → w'.heap[k]? = w.heap[k]?
  new : ∀ id g C, blk' id = some (.at_ g C) → (∃ id' C', blk id' = some (.at_ g C')) ∨ w.heap.size ≤ g
  known : ∀ id, kn id → kn' id
  back : ∀ id l, kn id → blk' id = some l → blk id = some l
theorem World.alloc_kept_ (w : World) (o : Obj) (i : Nat) (h : i < w.heap.size) : (w.alloc o).heap[i]? = w.heap[i]? := ((Below.refl w.heap.size w).alloc (Nat.le_refl _) o).block i h
theorem heap_lt {w : World} {k : Nat} {o : Obj} (h : w.heap[k]? = some o) : k < w.heap.size := (Array.getElem?_eq_some_iff.1 h).1
theorem keeps_below {w w' : World} (hb : Below w.heap.size w w') : KeepsOthers w w' := ⟨hb.size, fun k o hk _ => by rw [hb.block k (heap_lt hk)]; exact hk⟩
theorem cell_lt {w : World} {a : Addr} {u : Value} (h : w.cell? a = some u) : a.block < w.heap.size := by
  rcases Nat.lt_or_ge a.block w.heap.size with hlt | hge
  · exact hlt
  · unfold World.cell? at h
    rw [Array.getElem?_eq_none hge] at h
    cases h
theorem Chg.rd (c : Chg w w' kn kn' blk blk') : ∀ a u, rdOf w base S0 blk a u → rdOf w' base S0 blk' a u := by
  rintro a u ⟨h1, h2, h3⟩
  refine ⟨?_, ?_, h3⟩
  · rw [World.cell?_of_block (c.keep _ (cell_lt h1) h2)]; exact h1
  · intro id g C e
    rcases c.new id g C e with ⟨id', C', e'⟩ | hge
    · exact h2 _ _ _ e'
    · have := cell_lt h1; omega
theorem Chg.rel (c : Chg w w' kn kn' blk blk') {d : DV} {v : Value} (h : Rel (rdOf w base S0 blk) kn blk d v) : Rel (rdOf w' base S0 blk') kn' blk' d v :=
  h.mono c.rd c.known c.back
theorem Chg.relC (c : Chg w w' kn kn' blk blk') {d : DV} {v : Value} (h : RelC (rdOf w base S0 blk) d v) : RelC (rdOf w' base S0 blk') d v :=
  h.mono c.rd (fun _ h => h) fun _ _ h => h.elim
theorem Chg.obj (c : Chg w w' kn kn' blk blk') {l : Option Loc} {o : AObj} (h : ObjRel w (rdOf w base S0 blk) kn blk l o)
    (hk : ∀ g C, l = some (.at_ g C) → w'.heap[g]? = w.heap[g]?) : ObjRel w' (rdOf w' base S0 blk') kn' blk' l o := by
  cases o with
  | box cs =>
    obtain ⟨g, C, cv, T, hl, hh, hs, hr⟩ := h
    exact ⟨g, C, cv, T, hl, by rw [hk g C hl]; exact hh, hs, fun j d u a b => c.rel (hr j d u a b)⟩
  | row n cols =>
    rcases h with ⟨hl, hn⟩ | ⟨g, C, cv, T, hl, hh, hs, hn, hr⟩
    · exact .inl ⟨hl, hn⟩
    · exact .inr ⟨g, C, cv, T, hl, by rw [hk g C hl]; exact hh, hs, hn, fun i j f a b => let ⟨u, e, o, r⟩ := hr i j f a b; ⟨u, e, o, c.relC r⟩⟩
theorem R.not_other (r : R base w0 S0 σ kn blk a w) {id g C : Nat} {x : Obj} (hl : blk id = some (.at_ g C)) (hh : w.heap[g]? = some x) (hx : x.isCells = false) : False := by
  obtain ⟨o, ho⟩ := r.live _ _ hl
  have h := (r.objs _ _ ho).2
  rw [hl] at h
  cases o with
  | box cs => obtain ⟨g', C', cv, T, e, h2, _⟩ := h; cases e; rw [hh] at h2; cases h2; cases hx
  | row n cols =>
    rcases h with ⟨e, _⟩ | ⟨g', C', cv, T, e, h2, _⟩
    · cases e
    · cases e; rw [hh] at h2; cases h2; cases hx
theorem R.not_mark (r : R base w0 S0 σ kn blk a w) {id g C : Nat} {ds : Option (List Deferred)} (hl : blk id = some (.at_ g C)) : w.heap[g]? ≠ some (.deferred ds) := by
  intro hh
  obtain ⟨o, ho⟩ := r.live _ _ hl
  have h := (r.objs _ _ ho).2
  rw [hl] at h
  cases o with
  | box cs => obtain ⟨g', C', cv, T, e, h2, _⟩ := h; cases e; rw [hh] at h2; cases h2
  | row n cols =>
    rcases h with ⟨e, _⟩ | ⟨g', C', cv, T, e, h2, _⟩
    · cases e
    · cases e; rw [hh] at h2; cases h2
theorem R.world (r : R base w0 S0 σ kn blk a w) (hb : Below w.heap.size w w') : R base w0 S0 σ kn blk a w' := by
  have c : Chg w w' kn kn blk blk := ⟨hb.size, fun k hk _ => hb.block k hk, fun id g C e => .inl ⟨id, C, e⟩, fun _ h => h, fun _ _ _ h => h⟩
  refine ⟨r.below.trans (hb.mono r.hbase), Nat.le_trans r.hbase hb.size, ⟨r.dfr.1, fun d hd => let ⟨D, e, hD, hh⟩ := r.dfr.2 d hd; ⟨D, e, hD, by rw [hb.block D (heap_lt hh)]; exact hh⟩⟩, r.kpo.trans (keeps_below hb), fun d v h => c.rel (r.shp d v h), r.size, fun t => c.rel (r.tmps t), fun id o h => ⟨(r.objs id o h).1, c.obj (r.objs id o h).2 fun g C e => hb.block g (r.ge id g C e).2⟩, r.inj,
    fun id g C e => ⟨(r.ge id g C e).1, Nat.lt_of_lt_of_le (r.ge id g C e).2 hb.size⟩, r.live⟩
theorem R.drew (r : R base w0 S0 σ kn blk a w) : R base w0 S0 σ kn blk a { w with drawn := w.drawn + 1 } :=
  r.world ⟨rfl, rfl, rfl, Nat.le_refl _, fun _ _ => rfl⟩
theorem Act.getD_put (a : Act) (t : Nat) (v : Value) (i : Nat) (ht : t < a.tmps.size) : (a.put (some t) v).tmps.getD i undef = if t = i then v else a.tmps.getD i undef := by
  simp only [Act.put, Array.getD_eq_getD_getElem?, Array.getElem?_setIfInBounds]
  by_cases h : t = i
  · subst h; simp [ht]
  · simp [h]
theorem R.put (r : R base w0 S0 σ kn blk a w) {t : Nat} {d : DV} {v : Value} (ht : t < σ.nt) (h : Rel (rdOf w base S0 blk) kn blk d v) :
    R base w0 S0 (σ.put t d) kn blk (a.put (some t) v) w := by
  refine ⟨r.below, r.hbase, r.dfr, r.kpo, r.shp, ?_, fun i => ?_, r.objs, r.inj, r.ge, r.live⟩
  · have := r.size; simp only [Act.put, Array.size_setIfInBounds]; exact this
  · rw [Act.getD_put a t v i (by rw [r.size]; exact ht), St.get_put]
    by_cases e : t = i
    · simpa [e] using h
    · simpa [e] using r.tmps i
theorem R.new (r : R base w0 S0 σ kn blk a w) {id : Nat} {o : AObj} {cv : Array Value} {T : TypeId} {C : Nat} (hid : ¬ kn id)
    (ho : ObjRel (w.alloc (.cells cv T)) (rdOf w base S0 blk) kn blk (some (.at_ w.heap.size C)) o) :
    R base w0 S0 (σ.setObj id (some o)) (fun i => kn i ∨ i = id) (fun i => if i = id then some (.at_ w.heap.size C) else blk i) a (w.alloc (.cells cv T)) := by
  have hb : Below w.heap.size w (w.alloc (.cells cv T)) := (Below.refl _ _).alloc (Nat.le_refl _) _
  have c : Chg w (w.alloc (.cells cv T)) kn (fun i => kn i ∨ i = id) blk (fun i => if i = id then some (.at_ w.heap.size C) else blk i) := by
    refine ⟨hb.size, fun k hk _ => hb.block k hk, fun i g C' e => ?_, fun _ h => .inl h, fun i l hi e => ?_⟩
    · split at e
      · cases e; exact .inr (Nat.le_refl _)
      · exact .inl ⟨i, C', e⟩
    · have hne : i ≠ id := fun e' => hid (e' ▸ hi)
      rw [if_neg hne] at e
      exact e
  have hnone : blk id = none := by
    cases hb : blk id with
    | none => rfl
    | some l => exact absurd (r.objs id _ (r.live id l hb).choose_spec).1 hid
  refine ⟨r.below.trans (hb.mono r.hbase), Nat.le_trans r.hbase hb.size, ⟨r.dfr.1, fun d hd => let ⟨D, e, hD, hh⟩ := r.dfr.2 d hd; ⟨D, e, hD, by rw [hb.block D (heap_lt hh)]; exact hh⟩⟩, r.kpo.trans (keeps_below hb), fun d v h => c.rel (r.shp d v h), r.size, fun t => c.rel (r.tmps t), fun i o' h => ?_, fun i i' g C1 C2 h1 h2 => ?_, fun i g C' e => ?_, fun i l e => ?_⟩
  · rw [St.obj_setObj] at h
    by_cases e : id = i
    · subst e
      simp only [if_true, Option.some.injEq] at h
      subst h
      refine ⟨.inr rfl, ?_⟩
      simp only [if_true]
      cases o with
      | box cs =>
        obtain ⟨g, C', cv', T', hl, hh, hs, hr⟩ := ho
        exact ⟨g, C', cv', T', hl, hh, hs, fun j d u x y => c.rel (hr j d u x y)⟩
      | row n cols =>
        rcases ho with ⟨hl, hn⟩ | ⟨g, C', cv', T', hl, hh, hs, hn, hr⟩
        · exact .inl ⟨hl, hn⟩
        · exact .inr ⟨g, C', cv', T', hl, hh, hs, hn, fun i j f x y => let ⟨u, e, o, q⟩ := hr i j f x y; ⟨u, e, o, c.relC q⟩⟩
    · rw [if_neg e] at h
      obtain ⟨k1, k2⟩ := r.objs i o' h
      refine ⟨.inl k1, ?_⟩
      rw [if_neg (fun e' => e e'.symm)]
      exact c.obj k2 fun g C' e' => hb.block g (r.ge i g C' e').2
  · split at h1 <;> split at h2
    · rename_i e1 e2; rw [e1, e2]
    · cases h1; have := (r.ge _ _ _ h2).2; omega
    · cases h2; have := (r.ge _ _ _ h1).2; omega
    · exact r.inj _ _ _ _ _ h1 h2
  · split at e
    · cases e; exact ⟨r.hbase, by simp⟩
    · have := r.ge _ _ _ e; exact ⟨this.1, by simp; omega⟩
  · rw [St.obj_setObj]
    by_cases e' : id = i
    · exact ⟨o, by simp [e']⟩
    · rw [if_neg (fun h => e' h.symm)] at e
      rw [if_neg e']
      exact r.live i l e
theorem R.turn (r : R base w0 S0 σ kn blk a w) {id g C : Nat} {o : AObj} (hl : blk id = some (.at_ g C)) (hsz : w'.heap.size = w.heap.size)
    (hos : w'.os = w.os) (htp : w'.tape = w.tape) (hout : w'.output = w.output) (hk : ∀ k, k ≠ g → w'.heap[k]? = w.heap[k]?)
    (ho : (∀ {d v}, Rel (rdOf w base S0 blk) kn blk d v → Rel (rdOf w' base S0 blk) kn blk d v) → (∀ {d v}, RelC (rdOf w base S0 blk) d v → RelC (rdOf w' base S0 blk) d v) → ObjRel w' (rdOf w' base S0 blk) kn blk (some (.at_ g C)) o) :
    R base w0 S0 (σ.setObj id (some o)) kn blk a w' := by
  have hg := r.ge _ _ _ hl
  have hb : Below base w w' := ⟨hos, htp, hout, by omega, fun k hk' => hk k (by omega)⟩
  have c : Chg w w' kn kn blk blk := ⟨by omega, fun k _ hm => hk k (hm id g C hl), fun i g C e => .inl ⟨i, C, e⟩, fun _ h => h, fun _ _ _ h => h⟩
  refine ⟨r.below.trans hb, by rw [hsz]; exact r.hbase, ⟨r.dfr.1, fun d hd => let ⟨D, e, hD, hh⟩ := r.dfr.2 d hd; ⟨D, e, hD, by rw [hk D (fun e2 => r.not_mark hl (e2 ▸ hh))]; exact hh⟩⟩, r.kpo.trans ⟨by omega, fun k o hk' ho' => by rw [hk k (fun e => r.not_other hl (e ▸ hk') ho')]; exact hk'⟩, fun d v h => c.rel (r.shp d v h), r.size, fun t => c.rel (r.tmps t), fun i o' h => ?_, r.inj, fun i g' C' e => by rw [hsz]; exact r.ge i g' C' e, fun i l e => ?_⟩
  · rw [St.obj_setObj] at h
    by_cases e : id = i
    · subst e
      simp only [if_true, Option.some.injEq] at h
      subst h
      exact ⟨(r.objs _ _ (r.live _ _ hl).choose_spec).1, by rw [hl]; exact ho c.rel c.relC⟩
    · rw [if_neg e] at h
      obtain ⟨k1, k2⟩ := r.objs i o' h
      exact ⟨k1, c.obj k2 fun g' C' e' => hk g' fun e2 => e (r.inj _ _ _ _ _ hl (e2 ▸ e'))⟩
  · rw [St.obj_setObj]
    by_cases e' : id = i
    · exact ⟨o, by simp [e']⟩
    · rw [if_neg e']; exact r.live i l e
theorem R.grown (r : R base w0 S0 σ kn blk a w) {row : Option Nat} (hg : w.grownBy w' row)
    (hr : ∀ k, row = some k → base ≤ k ∧ S0.wr.heap.size ≤ k ∧ (∃ o : Obj, w.heap[k]? = some o ∧ o.isCells = false) ∧ ∀ d ∈ a.defers, d ≠ { target := .collected k, args := #[] }) : R base w0 S0 σ kn blk a w' := by
  have hrow : ∀ k, row = some k → ∃ o : Obj, w.heap[k]? = some o ∧ o.isCells = false := fun k e => (hr k e).2.2.1
  have rdm : ∀ a u, rdOf w base S0 blk a u → rdOf w' base S0 blk a u := fun a u ⟨h1, h2, h3⟩ => ⟨cell_kept h1 hg hrow, h2, h3⟩
  have rel : ∀ {d v}, Rel (rdOf w base S0 blk) kn blk d v → Rel (rdOf w' base S0 blk) kn blk d v := fun h => h.mono rdm (fun _ h => h) fun _ _ _ h => h
  have relc : ∀ {d v}, RelC (rdOf w base S0 blk) d v → RelC (rdOf w' base S0 blk) d v := fun h => h.mono rdm (fun _ h => h) fun _ _ h => h.elim
  have same : ∀ {g : Nat} {o : Obj}, w.heap[g]? = some o → o.isCells = true → w'.heap[g]? = some o := fun {g o} hh hc => by
    rw [hg.block g (heap_lt hh) (fun e => by obtain ⟨o', h1, h2⟩ := hrow g e.symm; rw [hh] at h1; cases h1; rw [hc] at h2; cases h2)]; exact hh
  refine ⟨r.below.grown hg r.hbase (fun k e => (hr k e).1), Nat.le_trans r.hbase hg.size, ⟨r.dfr.1, fun d hd => let ⟨D, e, hD, hh⟩ := r.dfr.2 d hd; ⟨D, e, hD, by
      rw [hg.block D (heap_lt hh) (fun e2 => (hr D e2.symm).2.2.2 d hd e)]; exact hh⟩⟩, ⟨Nat.le_trans r.kpo.size hg.size, fun k o hk ho => by
      have h1 := r.kpo.same k o hk ho
      rw [hg.block k (heap_lt h1) (fun e2 => by have := (hr k e2.symm).2.1; have := heap_lt hk; omega)]; exact h1⟩,
    fun d v h => rel (r.shp d v h), r.size, fun t => rel (r.tmps t), fun id o h => ⟨(r.objs id o h).1, ?_⟩, r.inj, fun id g C e => ⟨(r.ge id g C e).1, Nat.lt_of_lt_of_le (r.ge id g C e).2 hg.size⟩, r.live⟩
  have ho := (r.objs id o h).2
  cases o with
  | box cs =>
    obtain ⟨g, C, cv, T, hl, hh, hs, hr⟩ := ho
    exact ⟨g, C, cv, T, hl, same hh rfl, hs, fun j d u a b => rel (hr j d u a b)⟩
  | row n cols =>
    rcases ho with ⟨hl, hn⟩ | ⟨g, C, cv, T, hl, hh, hs, hn, hr⟩
    · exact .inl ⟨hl, hn⟩
    · exact .inr ⟨g, C, cv, T, hl, same hh rfl, hs, hn, fun i j f a b => let ⟨u, e, o, q⟩ := hr i j f a b; ⟨u, e, o, relc q⟩⟩
end
end Go.Abs
