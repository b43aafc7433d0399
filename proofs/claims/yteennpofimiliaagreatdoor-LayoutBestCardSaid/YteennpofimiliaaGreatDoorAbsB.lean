/- A small abstract machine over the model: abstract values, their relation to the model's values. No program in sight. The package-level variables that are only read, and what they hold: (number, cells). The abstract machine's state, and what it says of a frame and a world. -/
import Derived.Calls
import Derived.Orders
import Derived.Below
import Derived.Laws.World
import Derived.RangeFuncOwn
section
section
namespace Go.Abs
inductive DV where
  | val (v : Value)
  | agg (cs : List DV)
  | tup (cs : List DV)
  | ptr (id j : Nat)
  | rptr (s id i j : Nat)
  | row (s id off len : Nat)
  | lst (n : Nat) (cols : List (Nat → DV))
  | cptr (cs : List DV)
  | opt (b : Bool) (d : DV)
  | clo (fn : FuncId) (caps : List DV)
  | any
inductive Loc where
  | nil
  | at_ (g C : Nat)
def oneV : Value → Bool
  | .agg _ | .tuple _ => false
  | _ => true
abbrev Rd := Addr → Value → Prop
inductive Rel (rd : Rd) : (Nat → Prop) → (Nat → Option Loc) → DV → Value → Prop
  | val {kn blk} (v : Value) : Rel rd kn blk (.val v) v
  | agg {kn blk} {cs : List DV} {vs : Array Value} (hs : vs.size = cs.length)
      (h : ∀ (j : Nat) (d : DV) (u : Value), cs[j]? = some d → vs[j]? = some u → Rel rd kn blk d u) : Rel rd kn blk (.agg cs) (.agg vs)
  | tup {kn blk} {cs : List DV} {vs : Array Value} (hs : vs.size = cs.length)
      (h : ∀ (j : Nat) (d : DV) (u : Value), cs[j]? = some d → vs[j]? = some u → Rel rd kn blk d u) : Rel rd kn blk (.tup cs) (.tuple vs)
  | ptr {kn blk} {id j : Nat} {v : Value} (hk : kn id) (hv : ∃ ad, v = .pointer (some ad))
      (h : ∀ g C, blk id = some (.at_ g C) → v = .pointer (some ⟨g, j, none⟩)) : Rel rd kn blk (.ptr id j) v
  | rptr {kn blk} {s id i j : Nat} {v : Value} (hk : kn id) (hv : ∃ ad, v = .pointer (some ad))
      (h : ∀ g C, blk id = some (.at_ g C) → v = .pointer (some ⟨g, i * s + j, none⟩)) : Rel rd kn blk (.rptr s id i j) v
  | row {kn blk} {s id off len : Nat} {v : Value} (hk : kn id) (hv : ∃ p c, v = .slice p len c)
      (h0 : blk id = some .nil → v = .slice none 0 0 ∧ off = 0 ∧ len = 0)
      (h : ∀ g C, blk id = some (.at_ g C) → (v = .slice (some ⟨g, off * s, none⟩) len (C - off) ∧ off + len ≤ C) ∨ (0 < off ∧ len = 0)) : Rel rd kn blk (.row s id off len) v
  | lst {kn blk} {n : Nat} {cols : List (Nat → DV)} {A : Option Addr} {c : Nat} (U : Nat → Nat → Value) (hc : n ≤ c)
      (ha : ∀ (i j : Nat) (f : Nat → DV), i < n → cols[j]? = some f → ∃ a, A = some a ∧ rd (a.add (i * cols.length + j)) (U i j))
      (hn : 0 < n → A ≠ none) (ho : ∀ (i j : Nat) (f : Nat → DV), i < n → cols[j]? = some f → oneV (U i j) = true)
      (h : ∀ (i j : Nat) (f : Nat → DV), i < n → cols[j]? = some f → Rel rd (fun _ => False) (fun _ => none) (f i) (U i j)) : Rel rd kn blk (.lst n cols) (.slice A n c)
  | cptr {kn blk} {cs : List DV} {a : Addr} (U : Nat → Value)
      (ha : ∀ (j : Nat) (d : DV), cs[j]? = some d → rd (a.add j) (U j))
      (h : ∀ (j : Nat) (d : DV), cs[j]? = some d → Rel rd (fun _ => False) (fun _ => none) d (U j)) : Rel rd kn blk (.cptr cs) (.pointer (some a))
  | opt {kn blk} {b : Bool} {d : DV} {v : Value} (h : b = true → Rel rd kn blk d v) (hu : b = false → v = undef) : Rel rd kn blk (.opt b d) v
  | clo {kn blk} {fn : FuncId} {caps : List DV} {vs : Array Value} (hs : vs.size = caps.length)
      (h : ∀ (j : Nat) (d : DV) (u : Value), caps[j]? = some d → vs[j]? = some u → Rel rd kn blk d u) : Rel rd kn blk (.clo fn caps) (.func (.func fn) #[] vs)
  | any {kn blk} (v : Value) : Rel rd kn blk .any v
theorem Rel.mono {rd rd' : Rd} {kn : Nat → Prop} {blk : Nat → Option Loc} {d : DV} {v : Value} (h : Rel rd kn blk d v) :
    ∀ {kn' : Nat → Prop} {blk' : Nat → Option Loc}, (∀ a u, rd a u → rd' a u) → (∀ id, kn id → kn' id) →
      (∀ id l, kn id → blk' id = some l → blk id = some l) → Rel rd' kn' blk' d v := by
  induction h with
  | val v => intro kn' blk' _ _ _; exact .val v
  | agg hs _ ih => intro kn' blk' h1 h2 h3; exact .agg hs fun j d u a b => ih j d u a b h1 h2 h3
  | tup hs _ ih => intro kn' blk' h1 h2 h3; exact .tup hs fun j d u a b => ih j d u a b h1 h2 h3
  | ptr hk hv h => intro kn' blk' h1 h2 h3; exact .ptr (h2 _ hk) hv fun g C e => h g C (h3 _ _ hk e)
  | rptr hk hv h => intro kn' blk' h1 h2 h3; exact .rptr (h2 _ hk) hv fun g C e => h g C (h3 _ _ hk e)
  | row hk hv h0 h => intro kn' blk' h1 h2 h3; exact .row (h2 _ hk) hv (fun e => h0 (h3 _ _ hk e)) fun g C e => h g C (h3 _ _ hk e)
  | lst U hc ha hn ho _ ih =>
    intro kn' blk' h1 h2 h3
    exact .lst U hc (fun i j f hi hj => let ⟨a, e, r⟩ := ha i j f hi hj; ⟨a, e, h1 _ _ r⟩) hn ho fun i j f hi hj => ih i j f hi hj h1 (fun _ h => h) fun _ _ h => h.elim
  | cptr U ha _ ih =>
    intro kn' blk' h1 h2 h3
    exact .cptr U (fun j d e => h1 _ _ (ha j d e)) fun j d e => ih j d e h1 (fun _ h => h) fun _ _ h => h.elim
  | opt _ hu ih => intro kn' blk' h1 h2 h3; exact .opt (fun e => ih e h1 h2 h3) hu
  | clo hs _ ih => intro kn' blk' h1 h2 h3; exact .clo hs fun j d u a b => ih j d u a b h1 h2 h3
  | any v => intro kn' blk' _ _ _; exact .any v
def DV.one : DV → Bool
  | .val v => oneV v
  | .ptr .. | .rptr .. | .row .. | .lst .. | .cptr .. | .clo .. => true
  | _ => false
theorem Rel.one {rd : Rd} {kn : Nat → Prop} {blk : Nat → Option Loc} {d : DV} {v : Value} (h : Rel rd kn blk d v) (ho : d.one = true) : oneV v = true := by
  cases h <;> simp only [DV.one, Bool.false_eq_true] at ho <;> first | exact ho | rfl | skip
  · rename_i hv _; obtain ⟨p, rfl⟩ := hv; rfl
  · rename_i hv _; obtain ⟨p, rfl⟩ := hv; rfl
  · rename_i hv _ _; obtain ⟨p, c, rfl⟩ := hv; rfl
def allOne : List DV → Bool
  | [] => true
  | d :: r => bif d.one then allOne r else false
theorem allOne_spec : ∀ {cs : List DV}, allOne cs = true → ∀ d ∈ cs, d.one = true
  | [], _, d, hd => by cases hd
  | c :: r, h, d, hd => by
    simp only [allOne] at h
    cases hc : c.one
    · simp [hc] at h
    · simp only [hc, cond_true] at h
      rcases List.mem_cons.1 hd with rfl | hd
      · exact hc
      · exact allOne_spec h d hd
def DV.cells? : DV → Option (List DV)
  | .agg cs => bif allOne cs then some cs else none
  | .val (.agg vs) => bif allOne (vs.toList.map .val) then some (vs.toList.map .val) else none
  | d => bif d.one then some [d] else none
theorem Rel.cells {rd : Rd} {kn : Nat → Prop} {blk : Nat → Option Loc} {d : DV} {v : Value} {cs : List DV} (h : Rel rd kn blk d v) (hc : d.cells? = some cs) :
    v.cells.size = cs.length ∧ (∀ (j : Nat) (e : DV) (u : Value), cs[j]? = some e → v.cells[j]? = some u → Rel rd kn blk e u) ∧ ∀ u ∈ v.cells.toList, oneV u = true := by
  have single : ∀ {d : DV} {v : Value}, Rel rd kn blk d v → d.one = true → v.cells = #[v] → v.cells.size = [d].length ∧
      (∀ (j : Nat) (e : DV) (u : Value), [d][j]? = some e → v.cells[j]? = some u → Rel rd kn blk e u) ∧ ∀ u ∈ v.cells.toList, oneV u = true := by
    intro d v h ho hv
    rw [hv]
    refine ⟨rfl, fun j e u hj hu => ?_, fun u hu => ?_⟩
    · match j, hj, hu with
      | 0, hj, hu => simp at hj hu; subst hj hu; exact h
    · simp at hu; subst hu; exact h.one ho
  have notAgg : ∀ {v : Value}, oneV v = true → v.cells = #[v] := by
    intro v hv; cases v <;> first | rfl | simp [oneV] at hv
  have viaOne : d.one = true → some [d] = some cs → v.cells.size = cs.length ∧ (∀ (j : Nat) (e : DV) (u : Value), cs[j]? = some e → v.cells[j]? = some u → Rel rd kn blk e u) ∧ ∀ u ∈ v.cells.toList, oneV u = true := by
    intro ho he; cases he; exact single h ho (notAgg (h.one ho))
  cases d with
  | agg ds =>
    simp only [DV.cells?] at hc
    cases ha : allOne ds
    · simp [ha] at hc
    · simp only [ha, cond_true, Option.some.injEq] at hc
      subst hc
      cases h with
      | agg hs hr =>
        rename_i vs
        refine ⟨hs, hr, fun u hu => ?_⟩
        obtain ⟨j, hj, rfl⟩ := List.mem_iff_getElem.1 hu
        have hj' : j < vs.size := by simpa [Value.cells] using hj
        have e1 : ds[j]? = some (ds[j]'(by omega)) := List.getElem?_eq_getElem (by omega)
        have e2 : vs[j]? = some (vs[j]) := Array.getElem?_eq_getElem hj'
        have := (hr j _ _ e1 e2).one (allOne_spec ha _ (List.getElem_mem _))
        simpa [Value.cells] using this
  | val w =>
    cases h
    cases v with
    | agg vs =>
      simp only [DV.cells?] at hc
      cases ha : allOne (vs.toList.map DV.val)
      · simp [ha] at hc
      · simp only [ha, cond_true, Option.some.injEq] at hc
        subst hc
        refine ⟨by simp [Value.cells], fun j e u hj hu => ?_, fun u hu => ?_⟩
        · simp only [Value.cells] at hu
          simp only [List.getElem?_map, Array.getElem?_toList, hu, Option.map_some, Option.some.injEq] at hj
          subst hj; exact .val u
        · exact allOne_spec ha (.val u) (List.mem_map_of_mem hu)
    | _ => first | (simp only [DV.cells?, DV.one, oneV, cond_true] at hc; exact viaOne rfl hc) | simp [DV.cells?, DV.one, oneV] at hc
  | _ => first | (simp only [DV.cells?, DV.one, cond_true] at hc; exact viaOne rfl hc) | simp [DV.cells?, DV.one] at hc
def allVals : List DV → Option (List Value)
  | [] => some []
  | .val v :: r => match allVals r with
    | some l => some (v :: l)
    | none => none
  | _ => none
theorem allVals_spec : ∀ {cs : List DV} {l : List Value}, allVals cs = some l → cs = l.map .val
  | [], l, h => by simp [allVals] at h; subst h; rfl
  | .val v :: r, l, h => by
    simp only [allVals] at h
    cases hr : allVals r with
    | none => simp [hr] at h
    | some l' => simp only [hr, Option.some.injEq] at h; subst h; rw [allVals_spec hr]; rfl
  | .agg _ :: _, l, h => by simp [allVals] at h
  | .tup _ :: _, l, h => by simp [allVals] at h
  | .ptr _ _ :: _, l, h => by simp [allVals] at h
  | .rptr _ _ _ _ :: _, l, h => by simp [allVals] at h
  | .row _ _ _ _ :: _, l, h => by simp [allVals] at h
  | .lst _ _ :: _, l, h => by simp [allVals] at h
  | .cptr _ :: _, l, h => by simp [allVals] at h
  | .opt _ _ :: _, l, h => by simp [allVals] at h
  | .clo _ _ :: _, l, h => by simp [allVals] at h
  | .any :: _, l, h => by simp [allVals] at h
def mkAgg (cs : List DV) : DV := match allVals cs with
  | some l => .val (.agg l.toArray)
  | none => .agg cs
theorem Rel.val_eq {rd : Rd} {kn : Nat → Prop} {blk : Nat → Option Loc} {u v : Value} (h : Rel rd kn blk (.val u) v) : v = u := by cases h; rfl
theorem Rel.mkAgg {rd : Rd} {kn : Nat → Prop} {blk : Nat → Option Loc} {cs : List DV} {vs : Array Value} (hs : vs.size = cs.length)
    (h : ∀ (j : Nat) (d : DV) (u : Value), cs[j]? = some d → vs[j]? = some u → Rel rd kn blk d u) : Rel rd kn blk (mkAgg cs) (.agg vs) := by
  unfold Abs.mkAgg
  cases hv : allVals cs with
  | none => exact .agg hs h
  | some l =>
    have hcs := allVals_spec hv
    subst hcs
    have : vs = l.toArray := by
      apply Array.ext
      · simpa using hs
      · intro i h1 h2
        have hl : i < l.length := by simpa using h2
        have := (h i (.val l[i]) vs[i] (by simp [hl]) (by simp [h1])).val_eq
        simpa using this
    rw [this]
    exact .val _
end Go.Abs
end
section
namespace Go.Abs
def gl : List (Nat × List DV) := [(0, [1, 0, 0, 1, -1, 0, 0, -1].map fun n => .val (.int .i64 n))]
def shG : List (DV × Value) := gl.map fun p => (.cptr p.2, .pointer (some ⟨p.1, 0, none⟩))
def GlobOK (rd : Rd) : Prop := ∀ d v, (d, v) ∈ shG → Rel rd (fun _ => False) (fun _ => none) d v
theorem shG_cptr {d : DV} {v : Value} (h : (d, v) ∈ shG) : ∃ cs, d = .cptr cs := by
  obtain ⟨p, _, e⟩ := List.mem_map.1 h
  cases e
  exact ⟨_, rfl⟩
theorem GlobOK.mono {rd rd' : Rd} (h : GlobOK rd) (hm : ∀ a u, rd a u → rd' a u) : GlobOK rd' := fun d v hd => (h d v hd).mono hm (fun _ h => h) fun _ _ h => h.elim
/-- The standing rewrites of conditions. -/
theorem Sq : (∀ {a : Prop}, (a → a) ↔ True) ∧ (∀ (a : Prop), (a → True) = True) ∧ (∀ (α : Type), (α → True) = True) ∧ (∀ (p : Prop), (p ∧ True) = p) ∧ (∀ (p : Prop), (True ∧ p) = p) ∧ (∀ i : Nat, Int.toNat ((i : Int) + 1) = i + 1) ∧ (∀ i : Nat, Int.toNat ((i : Int) + 2) = i + 2) ∧ (Int.toNat 0 = 0) ∧ (∀ {α : Type} (a b : α), (a ≠ b) = ¬ (a = b)) ∧ (∀ n : Nat, Int.toNat (n : Int) = n) ∧ (∀ (p : Prop) [Decidable p] (f : Bool), (if p then true else f) = (decide p || f)) ∧ (∀ (p : Prop) [Decidable p] (t : Bool), (if p then t else false) = (decide p && t)) ∧ (∀ {b : Bool} {_ : Decidable (b = true)}, (decide (b = true)) = b) ∧ (∀ (a b : Bool), ((a || b) = true) = (a = true ∨ b = true)) ∧ (∀ {x y : Bool}, (x || y) = false ↔ x = false ∧ y = false) ∧ (∀ (a b : Bool), ((a && b) = true) = (a = true ∧ b = true)) ∧ (∀ {x y : Bool}, (x && y) = false ↔ (x = true → y = false)) ∧ (∀ (b : Bool), ((!b) = true) = (b = false)) ∧ (∀ (b : Bool), ((!b) = false) = (b = true)) ∧ (∀ (b : Bool), (!!b) = b) ∧ (∀ {α : Type} [BEq α] [LawfulBEq α] {a b : α}, (a != b) = true ↔ a ≠ b) ∧ (∀ {α : Type} [BEq α] [LawfulBEq α] {a b : α}, (a != b) = false ↔ a = b) ∧ (∀ {α : Type} [BEq α] [LawfulBEq α] {a b : α}, (a == b) = true ↔ a = b) ∧ (∀ {α : Type} [BEq α] [LawfulBEq α] {a b : α}, (a == b) = false ↔ a ≠ b) ∧ (∀ {p : Prop} [Decidable p], (decide p = true) = p) ∧ (∀ {p : Prop} {_ : Decidable p}, (decide p = false) ↔ ¬ p) := ⟨@imp_self, fun a => implies_true a, fun α => implies_true α, and_true, true_and, fun i => by omega, fun i => by omega, rfl, @ne_eq, @Int.toNat_natCast, @Bool.if_true_left, @Bool.if_false_right, @Bool.decide_eq_true, @Bool.or_eq_true, @Bool.or_eq_false_iff, @Bool.and_eq_true, @Bool.and_eq_false_imp, @Bool.not_eq_true', @Bool.not_eq_false', @Bool.not_not, @bne_iff_ne, @bne_eq_false_iff_eq, @beq_iff_eq, @beq_eq_false_iff_ne, @decide_eq_true_eq, @decide_eq_false_iff_not⟩
end Go.Abs
end
end
section
namespace Go.Abs
open Go.RowKit
inductive AObj where
  | box (cs : List DV)
  | row (n : Nat) (cols : List (Nat → DV))
def look {α : Type} : List (Nat × α) → Nat → Option α
  | [], _ => none
  | (k, v) :: r, i => bif Nat.beq k i then some v else look r i
structure St where
  t : List (Nat × DV)
  h : List (Nat × Option AObj)
  nx : Nat
  nt : Nat
def St.get (σ : St) (t : Nat) : DV := match look σ.t t with | some d => d | none => .any
def St.obj (σ : St) (id : Nat) : Option AObj := match look σ.h id with | some o => o | none => none
theorem look_cons {α : Type} (k : Nat) (v : α) (r : List (Nat × α)) (i : Nat) : look ((k, v) :: r) i = if k = i then some v else look r i := by
  simp only [look]
  by_cases h : k = i
  · subst h; simp
  · have : Nat.beq k i = false := by
      cases hb : Nat.beq k i
      · rfl
      · exact absurd (Nat.eq_of_beq_eq_true hb) h
    simp [this, h]
def St.put (σ : St) (t : Nat) (d : DV) : St := { σ with t := (t, d) :: σ.t }
def St.setObj (σ : St) (id : Nat) (o : Option AObj) : St := { σ with h := (id, o) :: σ.h }
theorem St.get_put (σ : St) (t : Nat) (d : DV) (i : Nat) : (σ.put t d).get i = if t = i then d else σ.get i := by
  unfold St.get St.put
  rw [look_cons]
  by_cases h : t = i <;> simp [h]
theorem St.obj_setObj (σ : St) (id : Nat) (o : Option AObj) (i : Nat) : (σ.setObj id o).obj i = if id = i then o else σ.obj i := by
  unfold St.obj St.setObj
  rw [look_cons]
  by_cases h : id = i <;> simp [h]
structure Env where
  S : Nat → Prop
  sh : List (DV × Value)
  wr : World
def rdOf (w : World) (base : Nat) (S0 : Env) (blk : Nat → Option Loc) : Rd := fun a u =>
  w.cell? a = some u ∧ (∀ id g C, blk id = some (.at_ g C) → a.block ≠ g) ∧ (S0.S a.block ∨ base ≤ a.block)
abbrev RelC (rd : Rd) (d : DV) (v : Value) : Prop := Rel rd (fun _ => False) (fun _ => none) d v
def ObjRel (w : World) (rd : Rd) (kn : Nat → Prop) (blk : Nat → Option Loc) (l : Option Loc) : AObj → Prop
  | .box cs => ∃ g C cv T, l = some (.at_ g C) ∧ w.heap[g]? = some (.cells cv T (0, 0)) ∧ cv.size = cs.length ∧ ∀ (j : Nat) (d : DV) (u : Value), cs[j]? = some d → cv[j]? = some u → Rel rd kn blk d u
  | .row n cols => (l = some .nil ∧ n = 0) ∨ ∃ g C cv T, l = some (.at_ g C) ∧ w.heap[g]? = some (.cells cv T (0, 0)) ∧ cv.size = C * cols.length ∧ n ≤ C ∧
      ∀ (i j : Nat) (f : Nat → DV), i < n → cols[j]? = some f → ∃ u, cv[i * cols.length + j]? = some u ∧ oneV u = true ∧ RelC rd (f i) u
structure R (base : Nat) (w0 : World) (S0 : Env) (σ : St) (kn : Nat → Prop) (blk : Nat → Option Loc) (a : Act) (w : World) : Prop where
  below : Below base w0 w
  hbase : base ≤ w.heap.size
  dfr : a.defers.Nodup ∧ ∀ d ∈ a.defers, ∃ D, d = { target := .collected D, args := #[] } ∧ base ≤ D ∧ w.heap[D]? = some (.deferred (some []))
  kpo : KeepsOthers S0.wr w
  shp : ∀ d v, (d, v) ∈ shG ++ S0.sh → Rel (rdOf w base S0 blk) kn blk d v
  size : a.tmps.size = σ.nt
  tmps : ∀ t, Rel (rdOf w base S0 blk) kn blk (σ.get t) (a.tmps.getD t undef)
  objs : ∀ id o, σ.obj id = some o → kn id ∧ ObjRel w (rdOf w base S0 blk) kn blk (blk id) o
  inj : ∀ id id' g C C', blk id = some (.at_ g C) → blk id' = some (.at_ g C') → id = id'
  ge : ∀ id g C, blk id = some (.at_ g C) → base ≤ g ∧ g < w.heap.size
  live : ∀ id l, blk id = some l → ∃ o, σ.obj id = some o
section
variable {base : Nat} {w0 w w' : World} {S0 : Env} {σ : St} {kn kn' : Nat → Prop} {blk blk' : Nat → Option Loc} {a : Act}
structure Chg (w w' : World) (kn kn' : Nat → Prop) (blk blk' : Nat → Option Loc) : Prop where
  size : w.heap.size ≤ w'.heap.size
  keep : ∀ k, k < w.heap.size → (∀ id g C, blk id = some (.at_ g C) → k ≠ g) → w'.heap[k]? = w.heap[k]?
  new : ∀ id g C, blk' id = some (.at_ g C) → (∃ id' C', blk id' = some (.at_ g C')) ∨ w.heap.size ≤ g
  known : ∀ id, kn id → kn' id
  back : ∀ id l, kn id → blk' id = some l → blk id = some l
theorem World.alloc_kept_ (w : World) (o : Obj) (i : Nat) (h : i < w.heap.size) : (w.alloc o).heap[i]? = w.heap[i]? := ((Below.refl w.heap.size w).alloc (Nat.le_refl _) o).block i h
theorem heap_lt {w : World} {k : Nat} {o : Obj} (h : w.heap[k]? = some o) : k < w.heap.size := (Array.getElem?_eq_some_iff.1 h).1
theorem keeps_below {w w' : World} (hb : Below w.heap.size w w') : KeepsOthers w w' := ⟨hb.size, fun k o hk _ => by rw [hb.block k (heap_lt hk)]; exact hk⟩
theorem cell_lt {w : World} {a : Addr} {u : Value} (h : w.cell? a = some u) : a.block < w.heap.size := by
  rcases Nat.lt_or_ge a.block w.heap.size with hlt | hge
  · exact hlt
  · unfold World.cell? at h
    rw [Array.getElem?_eq_none hge] at h
    cases h
theorem Chg.rd (c : Chg w w' kn kn' blk blk') : ∀ a u, rdOf w base S0 blk a u → rdOf w' base S0 blk' a u := by
  rintro a u ⟨h1, h2, h3⟩
  refine ⟨?_, ?_, h3⟩
  · rw [World.cell?_of_block (c.keep _ (cell_lt h1) h2)]; exact h1
  · intro id g C e
    rcases c.new id g C e with ⟨id', C', e'⟩ | hge
    · exact h2 _ _ _ e'
    · have := cell_lt h1; omega
theorem Chg.rel (c : Chg w w' kn kn' blk blk') {d : DV} {v : Value} (h : Rel (rdOf w base S0 blk) kn blk d v) : Rel (rdOf w' base S0 blk') kn' blk' d v :=
  h.mono c.rd c.known c.back
theorem Chg.relC (c : Chg w w' kn kn' blk blk') {d : DV} {v : Value} (h : RelC (rdOf w base S0 blk) d v) : RelC (rdOf w' base S0 blk') d v :=
  h.mono c.rd (fun _ h => h) fun _ _ h => h.elim
theorem Chg.obj (c : Chg w w' kn kn' blk blk') {l : Option Loc} {o : AObj} (h : ObjRel w (rdOf w base S0 blk) kn blk l o)
    (hk : ∀ g C, l = some (.at_ g C) → w'.heap[g]? = w.heap[g]?) : ObjRel w' (rdOf w' base S0 blk') kn' blk' l o := by
  cases o with
  | box cs =>
    obtain ⟨g, C, cv, T, hl, hh, hs, hr⟩ := h
    exact ⟨g, C, cv, T, hl, by rw [hk g C hl]; exact hh, hs, fun j d u a b => c.rel (hr j d u a b)⟩
  | row n cols =>
    rcases h with ⟨hl, hn⟩ | ⟨g, C, cv, T, hl, hh, hs, hn, hr⟩
    · exact .inl ⟨hl, hn⟩
    · exact .inr ⟨g, C, cv, T, hl, by rw [hk g C hl]; exact hh, hs, hn, fun i j f a b => let ⟨u, e, o, r⟩ := hr i j f a b; ⟨u, e, o, c.relC r⟩⟩
theorem R.not_other (r : R base w0 S0 σ kn blk a w) {id g C : Nat} {x : Obj} (hl : blk id = some (.at_ g C)) (hh : w.heap[g]? = some x) (hx : x.isCells = false) : False := by
  obtain ⟨o, ho⟩ := r.live _ _ hl
  have h := (r.objs _ _ ho).2
  rw [hl] at h
  cases o with
  | box cs => obtain ⟨g', C', cv, T, e, h2, _⟩ := h; cases e; rw [hh] at h2; cases h2; cases hx
  | row n cols =>
    rcases h with ⟨e, _⟩ | ⟨g', C', cv, T, e, h2, _⟩
    · cases e
    · cases e; rw [hh] at h2; cases h2; cases hx
theorem R.not_mark (r : R base w0 S0 σ kn blk a w) {id g C : Nat} {ds : Option (List Deferred)} (hl : blk id = some (.at_ g C)) : w.heap[g]? ≠ some (.deferred ds) := by
  intro hh
  obtain ⟨o, ho⟩ := r.live _ _ hl
  have h := (r.objs _ _ ho).2
  rw [hl] at h
  cases o with
  | box cs => obtain ⟨g', C', cv, T, e, h2, _⟩ := h; cases e; rw [hh] at h2; cases h2
  | row n cols =>
    rcases h with ⟨e, _⟩ | ⟨g', C', cv, T, e, h2, _⟩
    · cases e
    · cases e; rw [hh] at h2; cases h2
theorem R.world (r : R base w0 S0 σ kn blk a w) (hb : Below w.heap.size w w') : R base w0 S0 σ kn blk a w' := by
  have c : Chg w w' kn kn blk blk := ⟨hb.size, fun k hk _ => hb.block k hk, fun id g C e => .inl ⟨id, C, e⟩, fun _ h => h, fun _ _ _ h => h⟩
  refine ⟨r.below.trans (hb.mono r.hbase), Nat.le_trans r.hbase hb.size, ⟨r.dfr.1, fun d hd => let ⟨D, e, hD, hh⟩ := r.dfr.2 d hd; ⟨D, e, hD, by rw [hb.block D (heap_lt hh)]; exact hh⟩⟩, r.kpo.trans (keeps_below hb), fun d v h => c.rel (r.shp d v h), r.size, fun t => c.rel (r.tmps t), fun id o h => ⟨(r.objs id o h).1, c.obj (r.objs id o h).2 fun g C e => hb.block g (r.ge id g C e).2⟩, r.inj,
    fun id g C e => ⟨(r.ge id g C e).1, Nat.lt_of_lt_of_le (r.ge id g C e).2 hb.size⟩, r.live⟩
theorem R.drew (r : R base w0 S0 σ kn blk a w) : R base w0 S0 σ kn blk a { w with drawn := w.drawn + 1 } :=
  r.world ⟨rfl, rfl, rfl, Nat.le_refl _, fun _ _ => rfl⟩
theorem Act.getD_put (a : Act) (t : Nat) (v : Value) (i : Nat) (ht : t < a.tmps.size) : (a.put (some t) v).tmps.getD i undef = if t = i then v else a.tmps.getD i undef := by
  simp only [Act.put, Array.getD_eq_getD_getElem?, Array.getElem?_setIfInBounds]
  by_cases h : t = i
  · subst h; simp [ht]
  · simp [h]
theorem R.put (r : R base w0 S0 σ kn blk a w) {t : Nat} {d : DV} {v : Value} (ht : t < σ.nt) (h : Rel (rdOf w base S0 blk) kn blk d v) :
    R base w0 S0 (σ.put t d) kn blk (a.put (some t) v) w := by
  refine ⟨r.below, r.hbase, r.dfr, r.kpo, r.shp, ?_, fun i => ?_, r.objs, r.inj, r.ge, r.live⟩
  · have := r.size; simp only [Act.put, Array.size_setIfInBounds]; exact this
  · rw [Act.getD_put a t v i (by rw [r.size]; exact ht), St.get_put]
    by_cases e : t = i
    · simpa [e] using h
    · simpa [e] using r.tmps i
theorem R.new (r : R base w0 S0 σ kn blk a w) {id : Nat} {o : AObj} {cv : Array Value} {T : TypeId} {C : Nat} (hid : ¬ kn id)
    (ho : ObjRel (w.alloc (.cells cv T)) (rdOf w base S0 blk) kn blk (some (.at_ w.heap.size C)) o) :
    R base w0 S0 (σ.setObj id (some o)) (fun i => kn i ∨ i = id) (fun i => if i = id then some (.at_ w.heap.size C) else blk i) a (w.alloc (.cells cv T)) := by
  have hb : Below w.heap.size w (w.alloc (.cells cv T)) := (Below.refl _ _).alloc (Nat.le_refl _) _
  have c : Chg w (w.alloc (.cells cv T)) kn (fun i => kn i ∨ i = id) blk (fun i => if i = id then some (.at_ w.heap.size C) else blk i) := by
    refine ⟨hb.size, fun k hk _ => hb.block k hk, fun i g C' e => ?_, fun _ h => .inl h, fun i l hi e => ?_⟩
    · split at e
      · cases e; exact .inr (Nat.le_refl _)
      · exact .inl ⟨i, C', e⟩
    · have hne : i ≠ id := fun e' => hid (e' ▸ hi)
      rw [if_neg hne] at e
      exact e
  have hnone : blk id = none := by
    cases hb : blk id with
    | none => rfl
    | some l => exact absurd (r.objs id _ (r.live id l hb).choose_spec).1 hid
  refine ⟨r.below.trans (hb.mono r.hbase), Nat.le_trans r.hbase hb.size, ⟨r.dfr.1, fun d hd => let ⟨D, e, hD, hh⟩ := r.dfr.2 d hd; ⟨D, e, hD, by rw [hb.block D (heap_lt hh)]; exact hh⟩⟩, r.kpo.trans (keeps_below hb), fun d v h => c.rel (r.shp d v h), r.size, fun t => c.rel (r.tmps t), fun i o' h => ?_, fun i i' g C1 C2 h1 h2 => ?_, fun i g C' e => ?_, fun i l e => ?_⟩
  · rw [St.obj_setObj] at h
    by_cases e : id = i
    · subst e
      simp only [if_true, Option.some.injEq] at h
      subst h
      refine ⟨.inr rfl, ?_⟩
      simp only [if_true]
      cases o with
      | box cs =>
        obtain ⟨g, C', cv', T', hl, hh, hs, hr⟩ := ho
        exact ⟨g, C', cv', T', hl, hh, hs, fun j d u x y => c.rel (hr j d u x y)⟩
      | row n cols =>
        rcases ho with ⟨hl, hn⟩ | ⟨g, C', cv', T', hl, hh, hs, hn, hr⟩
        · exact .inl ⟨hl, hn⟩
        · exact .inr ⟨g, C', cv', T', hl, hh, hs, hn, fun i j f x y => let ⟨u, e, o, q⟩ := hr i j f x y; ⟨u, e, o, c.relC q⟩⟩
    · rw [if_neg e] at h
      obtain ⟨k1, k2⟩ := r.objs i o' h
      refine ⟨.inl k1, ?_⟩
      rw [if_neg (fun e' => e e'.symm)]
      exact c.obj k2 fun g C' e' => hb.block g (r.ge i g C' e').2
  · split at h1 <;> split at h2
    · rename_i e1 e2; rw [e1, e2]
    · cases h1; have := (r.ge _ _ _ h2).2; omega
    · cases h2; have := (r.ge _ _ _ h1).2; omega
    · exact r.inj _ _ _ _ _ h1 h2
  · split at e
    · cases e; exact ⟨r.hbase, by simp⟩
    · have := r.ge _ _ _ e; exact ⟨this.1, by simp; omega⟩
  · rw [St.obj_setObj]
    by_cases e' : id = i
    · exact ⟨o, by simp [e']⟩
    · rw [if_neg (fun h => e' h.symm)] at e
      rw [if_neg e']
      exact r.live i l e
theorem R.turn (r : R base w0 S0 σ kn blk a w) {id g C : Nat} {o : AObj} (hl : blk id = some (.at_ g C)) (hsz : w'.heap.size = w.heap.size)
    (hos : w'.os = w.os) (htp : w'.tape = w.tape) (hout : w'.output = w.output) (hk : ∀ k, k ≠ g → w'.heap[k]? = w.heap[k]?)
    (ho : (∀ {d v}, Rel (rdOf w base S0 blk) kn blk d v → Rel (rdOf w' base S0 blk) kn blk d v) → (∀ {d v}, RelC (rdOf w base S0 blk) d v → RelC (rdOf w' base S0 blk) d v) → ObjRel w' (rdOf w' base S0 blk) kn blk (some (.at_ g C)) o) :
    R base w0 S0 (σ.setObj id (some o)) kn blk a w' := by
  have hg := r.ge _ _ _ hl
  have hb : Below base w w' := ⟨hos, htp, hout, by omega, fun k hk' => hk k (by omega)⟩
  have c : Chg w w' kn kn blk blk := ⟨by omega, fun k _ hm => hk k (hm id g C hl), fun i g C e => .inl ⟨i, C, e⟩, fun _ h => h, fun _ _ _ h => h⟩
  refine ⟨r.below.trans hb, by rw [hsz]; exact r.hbase, ⟨r.dfr.1, fun d hd => let ⟨D, e, hD, hh⟩ := r.dfr.2 d hd; ⟨D, e, hD, by rw [hk D (fun e2 => r.not_mark hl (e2 ▸ hh))]; exact hh⟩⟩, r.kpo.trans ⟨by omega, fun k o hk' ho' => by rw [hk k (fun e => r.not_other hl (e ▸ hk') ho')]; exact hk'⟩, fun d v h => c.rel (r.shp d v h), r.size, fun t => c.rel (r.tmps t), fun i o' h => ?_, r.inj, fun i g' C' e => by rw [hsz]; exact r.ge i g' C' e, fun i l e => ?_⟩
  · rw [St.obj_setObj] at h
    by_cases e : id = i
    · subst e
      simp only [if_true, Option.some.injEq] at h
      subst h
      exact ⟨(r.objs _ _ (r.live _ _ hl).choose_spec).1, by rw [hl]; exact ho c.rel c.relC⟩
    · rw [if_neg e] at h
      obtain ⟨k1, k2⟩ := r.objs i o' h
      exact ⟨k1, c.obj k2 fun g' C' e' => hk g' fun e2 => e (r.inj _ _ _ _ _ hl (e2 ▸ e'))⟩
  · rw [St.obj_setObj]
    by_cases e' : id = i
    · exact ⟨o, by simp [e']⟩
    · rw [if_neg e']; exact r.live i l e
theorem R.grown (r : R base w0 S0 σ kn blk a w) {row : Option Nat} (hg : w.grownBy w' row)
    (hr : ∀ k, row = some k → base ≤ k ∧ S0.wr.heap.size ≤ k ∧ (∃ o : Obj, w.heap[k]? = some o ∧ o.isCells = false) ∧ ∀ d ∈ a.defers, d ≠ { target := .collected k, args := #[] }) : R base w0 S0 σ kn blk a w' := by
  have hrow : ∀ k, row = some k → ∃ o : Obj, w.heap[k]? = some o ∧ o.isCells = false := fun k e => (hr k e).2.2.1
  have rdm : ∀ a u, rdOf w base S0 blk a u → rdOf w' base S0 blk a u := fun a u ⟨h1, h2, h3⟩ => ⟨cell_kept h1 hg hrow, h2, h3⟩
  have rel : ∀ {d v}, Rel (rdOf w base S0 blk) kn blk d v → Rel (rdOf w' base S0 blk) kn blk d v := fun h => h.mono rdm (fun _ h => h) fun _ _ _ h => h
  have relc : ∀ {d v}, RelC (rdOf w base S0 blk) d v → RelC (rdOf w' base S0 blk) d v := fun h => h.mono rdm (fun _ h => h) fun _ _ h => h.elim
  have same : ∀ {g : Nat} {o : Obj}, w.heap[g]? = some o → o.isCells = true → w'.heap[g]? = some o := fun {g o} hh hc => by
    rw [hg.block g (heap_lt hh) (fun e => by obtain ⟨o', h1, h2⟩ := hrow g e.symm; rw [hh] at h1; cases h1; rw [hc] at h2; cases h2)]; exact hh
  refine ⟨r.below.grown hg r.hbase (fun k e => (hr k e).1), Nat.le_trans r.hbase hg.size, ⟨r.dfr.1, fun d hd => let ⟨D, e, hD, hh⟩ := r.dfr.2 d hd; ⟨D, e, hD, by
      rw [hg.block D (heap_lt hh) (fun e2 => (hr D e2.symm).2.2.2 d hd e)]; exact hh⟩⟩, ⟨Nat.le_trans r.kpo.size hg.size, fun k o hk ho => by
      have h1 := r.kpo.same k o hk ho
      rw [hg.block k (heap_lt h1) (fun e2 => by have := (hr k e2.symm).2.1; have := heap_lt hk; omega)]; exact h1⟩,
    fun d v h => rel (r.shp d v h), r.size, fun t => rel (r.tmps t), fun id o h => ⟨(r.objs id o h).1, ?_⟩, r.inj, fun id g C e => ⟨(r.ge id g C e).1, Nat.lt_of_lt_of_le (r.ge id g C e).2 hg.size⟩, r.live⟩
  have ho := (r.objs id o h).2
  cases o with
  | box cs =>
    obtain ⟨g, C, cv, T, hl, hh, hs, hr⟩ := ho
    exact ⟨g, C, cv, T, hl, same hh rfl, hs, fun j d u a b => rel (hr j d u a b)⟩
  | row n cols =>
    rcases ho with ⟨hl, hn⟩ | ⟨g, C, cv, T, hl, hh, hs, hn, hr⟩
    · exact .inl ⟨hl, hn⟩
    · exact .inr ⟨g, C, cv, T, hl, same hh rfl, hs, hn, fun i j f a b => let ⟨u, e, o, q⟩ := hr i j f a b; ⟨u, e, o, relc q⟩⟩
end
end Go.Abs
end
