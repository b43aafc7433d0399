/- A small abstract machine over the model: abstract values, their relation to the model's values. No program in sight. -/
import Derived.Calls
import Derived.Orders
import Derived.Below
namespace Go.Abs
inductive KS where
  | int
  | ints (n : Nat)
  | str
inductive DV where
  | val (v : Value)
  | agg (cs : List DV)
  | tup (cs : List DV)
  | ptr (id j : Nat)
  | rptr (s id i j : Nat)
  | row (s id off len : Nat)
  | lst (n : Nat) (cols : List (Nat → DV))
  | cptr (cs : List DV)
  | opt (b : Bool) (d : DV)
  | clo (fn : FuncId) (caps : List DV)
  | bnd (fn : FuncId) (fs : List DV)
  | mp (ks : KS) (has : List Int → Bool) (col : List Int → DV)
  | mph (id : Nat)
  | tok (id m : Nat)
  | grd (s id n : Nat)
  | gptr (s id i j : Nat)
  | err (nil : Bool)
  | whole (cs : Array Value)
  | any
inductive Loc where
  | nil
  | at_ (g C : Nat)
  | sub (g o C : Nat)
  | map (g : Nat) (bs : List Nat)
  | is (v : Value)
  | grid (g C : Nat) (bs : List Nat)
def Loc.has : Loc → Nat → Prop
  | .at_ g _, k => k = g
  | .sub g _ _, k => k = g
  | .map g bs, k => k = g ∨ k ∈ bs
  | .grid g _ bs, k => k = g ∨ k ∈ bs
  | _, _ => False
def Loc.core : Loc → Loc
  | .map g _ => .map g []
  | .grid g C _ => .grid g C []
  | l => l
theorem Loc.core_at {l : Loc} {g C : Nat} (h : l.core = Loc.core (.at_ g C)) : l = .at_ g C := by cases l <;> simp [Loc.core] at h; rw [h.1, h.2]
theorem Loc.core_sub {l : Loc} {g o C : Nat} (h : l.core = Loc.core (.sub g o C)) : l = .sub g o C := by cases l <;> simp [Loc.core] at h; rw [h.1, h.2.1, h.2.2]
theorem Loc.core_nil {l : Loc} (h : l.core = Loc.core .nil) : l = .nil := by cases l <;> simp [Loc.core] at h; rfl
theorem Loc.core_is {l : Loc} {v : Value} (h : l.core = Loc.core (.is v)) : l = .is v := by cases l <;> simp [Loc.core] at h; rw [h]
theorem Loc.core_grid {l : Loc} {g C : Nat} {bs : List Nat} (h : l.core = Loc.core (.grid g C bs)) : ∃ bs', l = .grid g C bs' := by cases l <;> simp [Loc.core] at h; exact ⟨_, by rw [h.1, h.2]⟩
theorem Loc.core_map {l : Loc} {g : Nat} {bs : List Nat} (h : l.core = Loc.core (.map g bs)) : ∃ bs', l = .map g bs' := by cases l <;> simp [Loc.core] at h; exact ⟨_, by rw [h]⟩
def encEs (es : List (Value × Value)) : Value := .tuple (es.map fun e => .tuple #[e.1, e.2]).toArray
theorem encEs_inj : ∀ {es es' : List (Value × Value)}, encEs es = encEs es' → es = es' := by
  intro es es' h
  unfold encEs at h
  have h1 : es.map (fun e : Value × Value => Value.tuple #[e.1, e.2]) = es'.map (fun e : Value × Value => Value.tuple #[e.1, e.2]) := by
    have := congrArg (fun v => match v with | Value.tuple a => a.toList | _ => []) h
    simpa using this
  clear h
  induction es generalizing es' with
  | nil => cases es' with
    | nil => rfl
    | cons x r => simp at h1
  | cons y q ih => cases es' with
    | nil => simp at h1
    | cons x r =>
      simp only [List.map_cons, List.cons.injEq, Value.tuple.injEq] at h1
      obtain ⟨h2, h3⟩ := h1
      have h4 := congrArg Array.toList h2
      simp only [List.cons.injEq, and_true] at h4
      rw [ih h3]
      congr 1
      exact Prod.ext h4.1 h4.2
def intsV : List Value → Option (List Int)
  | [] => some []
  | .int .i64 n :: r => match intsV r with
    | some l => some (n :: l)
    | none => none
  | _ => none
def bInts (s : ByteArray) : List Int := s.data.toList.map fun b => (b.toNat : Int)
def encK : KS → Value → Option (List Int)
  | .int, .int .i64 n => some [n]
  | .ints n, .agg vs => match intsV vs.toList with
    | some l => bif Nat.beq l.length n then some l else none
    | none => none
  | .str, .string s => some (bInts s)
  | _, _ => none
def oneV : Value → Bool
  | .agg _ | .tuple _ => false
  | _ => true
abbrev Rd := Addr → Value → Prop
inductive Rel (rd : Rd) : (Nat → Prop) → (Nat → Option Loc) → DV → Value → Prop
  | val {kn blk} (v : Value) : Rel rd kn blk (.val v) v
  | agg {kn blk} {cs : List DV} {vs : Array Value} (hs : vs.size = cs.length)
      (h : ∀ (j : Nat) (d : DV) (u : Value), cs[j]? = some d → vs[j]? = some u → Rel rd kn blk d u) : Rel rd kn blk (.agg cs) (.agg vs)
  | tup {kn blk} {cs : List DV} {vs : Array Value} (hs : vs.size = cs.length)
      (h : ∀ (j : Nat) (d : DV) (u : Value), cs[j]? = some d → vs[j]? = some u → Rel rd kn blk d u) : Rel rd kn blk (.tup cs) (.tuple vs)
  | ptr {kn blk} {id j : Nat} {v : Value} (hk : kn id) (hv : ∃ ad, v = .pointer (some ad))
      (h : ∀ g C, blk id = some (.at_ g C) → v = .pointer (some ⟨g, j, none⟩)) : Rel rd kn blk (.ptr id j) v
  | rptr {kn blk} {s id i j : Nat} {v : Value} (hk : kn id) (hv : ∃ ad, v = .pointer (some ad))
      (h : ∀ g C, blk id = some (.at_ g C) → v = .pointer (some ⟨g, i * s + j, none⟩)) (h2 : ∀ g o C, blk id = some (.sub g o C) → v = .pointer (some ⟨g, o + (i * s + j), none⟩)) : Rel rd kn blk (.rptr s id i j) v
  | row {kn blk} {s id off len : Nat} {v : Value} (hk : kn id) (hv : ∃ p c, v = .slice p len c ∧ (p = none → len = 0))
      (h0 : blk id = some .nil → v = .slice none 0 0 ∧ off = 0 ∧ len = 0)
      (h : ∀ g C, blk id = some (.at_ g C) → (v = .slice (some ⟨g, off * s, none⟩) len (C - off) ∧ off + len ≤ C) ∨ (0 < off ∧ len = 0))
      (h2 : ∀ g o C, blk id = some (.sub g o C) → (v = .slice (some ⟨g, o + off * s, none⟩) len (C - off) ∧ off + len ≤ C) ∨ (0 < off ∧ len = 0)) : Rel rd kn blk (.row s id off len) v
  | lst {kn blk} {n : Nat} {cols : List (Nat → DV)} {A : Option Addr} {c : Nat} (U : Nat → Nat → Value) (hc : n ≤ c)
      (ha : ∀ (i j : Nat) (f : Nat → DV), i < n → cols[j]? = some f → ∃ a, A = some a ∧ rd (a.add (i * cols.length + j)) (U i j))
      (hn : 0 < n → A ≠ none) (ho : ∀ (i j : Nat) (f : Nat → DV), i < n → cols[j]? = some f → oneV (U i j) = true)
      (h : ∀ (i j : Nat) (f : Nat → DV), i < n → cols[j]? = some f → Rel rd (fun _ => False) (fun _ => none) (f i) (U i j)) : Rel rd kn blk (.lst n cols) (.slice A n c)
  | cptr {kn blk} {cs : List DV} {a : Addr} (U : Nat → Value)
      (ha : ∀ (j : Nat) (d : DV), cs[j]? = some d → rd (a.add j) (U j)) (ho : ∀ (j : Nat) (d : DV), cs[j]? = some d → oneV (U j) = true)
      (h : ∀ (j : Nat) (d : DV), cs[j]? = some d → Rel rd (fun _ => False) (fun _ => none) d (U j)) : Rel rd kn blk (.cptr cs) (.pointer (some a))
  | opt {kn blk} {b : Bool} {d : DV} {v : Value} (h : b = true → Rel rd kn blk d v) (hu : b = false → v = undef) : Rel rd kn blk (.opt b d) v
  | clo {kn blk} {fn : FuncId} {caps : List DV} {vs : Array Value} (hs : vs.size = caps.length)
      (h : ∀ (j : Nat) (d : DV) (u : Value), caps[j]? = some d → vs[j]? = some u → Rel rd kn blk d u) : Rel rd kn blk (.clo fn caps) (.func (.func fn) #[] vs)
  | bnd {kn blk} {fn : FuncId} {fs : List DV} {vs : Array Value} (hs : vs.size = fs.length)
      (h : ∀ (j : Nat) (d : DV) (u : Value), fs[j]? = some d → vs[j]? = some u → Rel rd kn blk d u) : Rel rd kn blk (.bnd fn fs) (.func (.func fn) vs #[])
  | mp {kn blk} {ks : KS} {has : List Int → Bool} {col : List Int → DV} {A : Option Nat} (es : List (Value × Value)) (h0 : A = none → es = []) (ha : ∀ g, A = some g → rd ⟨g, 0, none⟩ (encEs es))
      (hk : ∀ e ∈ es, ∃ l, encK ks e.1 = some l ∧ has l = true) (hh : ∀ l, has l = true → ∃ e ∈ es, encK ks e.1 = some l) (hd : es.Pairwise fun x y => x.1 ≠ y.1)
      (hs : ∀ e ∈ es, oneV e.2 = true)
      (h : ∀ (e : Value × Value) (l : List Int), e ∈ es → encK ks e.1 = some l → Rel rd (fun _ => False) (fun _ => none) (col l) e.2) : Rel rd kn blk (.mp ks has col) (.map A)
  | mph {kn blk} {id : Nat} {v : Value} (hk : kn id) (hv : ∃ g, v = .map (some g)) (h : ∀ g bs, blk id = some (.map g bs) → v = .map (some g)) : Rel rd kn blk (.mph id) v
  | tok {kn blk} {id m : Nat} {v : Value} (hk : kn id) (ho : oneV v = true) (h : ∀ u, blk id = some (.is u) → v = u) : Rel rd kn blk (.tok id m) v
  | grd {kn blk} {s id n : Nat} {v : Value} (hk : kn id) (hv : ∃ p c, v = .slice p n c ∧ (p = none → n = 0)) (h : ∀ g C bs, blk id = some (.grid g C bs) → v = .slice (some ⟨g, 0, none⟩) n C ∧ n ≤ C) : Rel rd kn blk (.grd s id n) v
  | gptr {kn blk} {s id i j : Nat} {v : Value} (hk : kn id) (hv : ∃ ad, v = .pointer (some ad)) (h : ∀ g C bs, blk id = some (.grid g C bs) → v = .pointer (some ⟨g, i * s + j, none⟩)) : Rel rd kn blk (.gptr s id i j) v
  | err {kn blk} {b : Bool} {v : Value} (h : b = true → v = .nilIface) (h2 : b = false → ∃ t p, v = .iface t p) : Rel rd kn blk (.err b) v
  | whole {kn blk} {cs : Array Value} {g : Nat} (h : rd ⟨g, 0, none⟩ (.tuple #[.agg cs])) : Rel rd kn blk (.whole cs) (.pointer (some ⟨g, 0, none⟩))
  | any {kn blk} (v : Value) : Rel rd kn blk .any v
theorem Rel.mono {rd rd' : Rd} {kn : Nat → Prop} {blk : Nat → Option Loc} {d : DV} {v : Value} (h : Rel rd kn blk d v) :
    ∀ {kn' : Nat → Prop} {blk' : Nat → Option Loc}, (∀ a u, rd a u → rd' a u) → (∀ id, kn id → kn' id) →
      (∀ id l, kn id → blk' id = some l → ∃ l0, blk id = some l0 ∧ l0.core = l.core) → Rel rd' kn' blk' d v := by
  induction h with
  | val v => intro kn' blk' _ _ _; exact .val v
  | agg hs _ ih => intro kn' blk' h1 h2 h3; exact .agg hs fun j d u a b => ih j d u a b h1 h2 h3
  | tup hs _ ih => intro kn' blk' h1 h2 h3; exact .tup hs fun j d u a b => ih j d u a b h1 h2 h3
  | ptr hk hv h => intro kn' blk' h1 h2 h3; exact .ptr (h2 _ hk) hv fun g C e => let ⟨l0, a, b⟩ := h3 _ _ hk e; h g C (by rw [a, Loc.core_at b])
  | rptr hk hv h hs => intro kn' blk' h1 h2 h3; exact .rptr (h2 _ hk) hv (fun g C e => let ⟨l0, a, b⟩ := h3 _ _ hk e; h g C (by rw [a, Loc.core_at b])) fun g o C e => let ⟨l0, a, b⟩ := h3 _ _ hk e; hs g o C (by rw [a, Loc.core_sub b])
  | row hk hv h0 h hs => intro kn' blk' h1 h2 h3; exact .row (h2 _ hk) hv (fun e => let ⟨l0, a, b⟩ := h3 _ _ hk e; h0 (by rw [a, Loc.core_nil b])) (fun g C e => let ⟨l0, a, b⟩ := h3 _ _ hk e; h g C (by rw [a, Loc.core_at b])) fun g o C e => let ⟨l0, a, b⟩ := h3 _ _ hk e; hs g o C (by rw [a, Loc.core_sub b])
  | lst U hc ha hn ho _ ih =>
    intro kn' blk' h1 h2 h3
    exact .lst U hc (fun i j f hi hj => let ⟨a, e, r⟩ := ha i j f hi hj; ⟨a, e, h1 _ _ r⟩) hn ho fun i j f hi hj => ih i j f hi hj h1 (fun _ h => h) fun _ _ h => h.elim
  | cptr U ha ho _ ih =>
    intro kn' blk' h1 h2 h3
    exact .cptr U (fun j d e => h1 _ _ (ha j d e)) ho fun j d e => ih j d e h1 (fun _ h => h) fun _ _ h => h.elim
  | opt _ hu ih => intro kn' blk' h1 h2 h3; exact .opt (fun e => ih e h1 h2 h3) hu
  | clo hs _ ih => intro kn' blk' h1 h2 h3; exact .clo hs fun j d u a b => ih j d u a b h1 h2 h3
  | bnd hs _ ih => intro kn' blk' h1 h2 h3; exact .bnd hs fun j d u a b => ih j d u a b h1 h2 h3
  | mp es h0 ha hk hh hd hs _ ih =>
    intro kn' blk' h1 h2 h3
    exact .mp es h0 (fun g e => h1 _ _ (ha g e)) hk hh hd hs fun e l a b => ih e l a b h1 (fun _ h => h) fun _ _ h => h.elim
  | mph hk hv h => intro kn' blk' h1 h2 h3; exact .mph (h2 _ hk) hv fun g bs e => let ⟨l0, a, b⟩ := h3 _ _ hk e; let ⟨bs', c⟩ := Loc.core_map b; h g bs' (by rw [a, c])
  | tok hk ho h => intro kn' blk' h1 h2 h3; exact .tok (h2 _ hk) ho fun u e => let ⟨l0, a, b⟩ := h3 _ _ hk e; h u (by rw [a, Loc.core_is b])
  | grd hk hv h => intro kn' blk' h1 h2 h3; exact .grd (h2 _ hk) hv fun g C bs e => let ⟨l0, a, b⟩ := h3 _ _ hk e; let ⟨bs', c⟩ := Loc.core_grid b; h g C bs' (by rw [a, c])
  | gptr hk hv h => intro kn' blk' h1 h2 h3; exact .gptr (h2 _ hk) hv fun g C bs e => let ⟨l0, a, b⟩ := h3 _ _ hk e; let ⟨bs', c⟩ := Loc.core_grid b; h g C bs' (by rw [a, c])
  | err a b => intro kn' blk' _ _ _; exact .err a b
  | whole h => intro kn' blk' h1 _ _; exact .whole (h1 _ _ h)
  | any v => intro kn' blk' _ _ _; exact .any v
def DV.one : DV → Bool
  | .val v => oneV v
  | .ptr .. | .rptr .. | .row .. | .lst .. | .cptr .. | .clo .. | .bnd .. | .mp .. | .mph .. | .tok .. | .grd .. | .gptr .. => true
  | _ => false
theorem Rel.one {rd : Rd} {kn : Nat → Prop} {blk : Nat → Option Loc} {d : DV} {v : Value} (h : Rel rd kn blk d v) (ho : d.one = true) : oneV v = true := by
  cases h <;> simp only [DV.one, Bool.false_eq_true] at ho <;> first | exact ho | rfl | skip
  · rename_i hv _; obtain ⟨p, rfl⟩ := hv; rfl
  · rename_i hv _ _; obtain ⟨p, rfl⟩ := hv; rfl
  · rename_i hv _ _ _; obtain ⟨p, c, rfl, _⟩ := hv; rfl
  · rename_i hv _; obtain ⟨p, rfl⟩ := hv; rfl
  · assumption
  · rename_i hv _; obtain ⟨p, c, rfl, _⟩ := hv; rfl
  · rename_i hv _; obtain ⟨p, rfl⟩ := hv; rfl
def allOne : List DV → Bool
  | [] => true
  | d :: r => bif d.one then allOne r else false
theorem allOne_spec : ∀ {cs : List DV}, allOne cs = true → ∀ d ∈ cs, d.one = true
  | [], _, d, hd => by cases hd
  | c :: r, h, d, hd => by
    simp only [allOne] at h
    cases hc : c.one
    · simp [hc] at h
    · simp only [hc, cond_true] at h
      rcases List.mem_cons.1 hd with rfl | hd
      · exact hc
      · exact allOne_spec h d hd
def DV.cells? : DV → Option (List DV)
  | .agg cs => bif allOne cs then some cs else none
  | .val (.agg vs) => bif allOne (vs.toList.map .val) then some (vs.toList.map .val) else none
  | d => bif d.one then some [d] else none
theorem Rel.cells {rd : Rd} {kn : Nat → Prop} {blk : Nat → Option Loc} {d : DV} {v : Value} {cs : List DV} (h : Rel rd kn blk d v) (hc : d.cells? = some cs) :
    v.cells.size = cs.length ∧ (∀ (j : Nat) (e : DV) (u : Value), cs[j]? = some e → v.cells[j]? = some u → Rel rd kn blk e u) ∧ ∀ u ∈ v.cells.toList, oneV u = true := by
  have single : ∀ {d : DV} {v : Value}, Rel rd kn blk d v → d.one = true → v.cells = #[v] → v.cells.size = [d].length ∧
      (∀ (j : Nat) (e : DV) (u : Value), [d][j]? = some e → v.cells[j]? = some u → Rel rd kn blk e u) ∧ ∀ u ∈ v.cells.toList, oneV u = true := by
    intro d v h ho hv
    rw [hv]
    refine ⟨rfl, fun j e u hj hu => ?_, fun u hu => ?_⟩
    · match j, hj, hu with
      | 0, hj, hu => simp at hj hu; subst hj hu; exact h
    · simp at hu; subst hu; exact h.one ho
  have notAgg : ∀ {v : Value}, oneV v = true → v.cells = #[v] := by
    intro v hv; cases v <;> first | rfl | simp [oneV] at hv
  have viaOne : d.one = true → some [d] = some cs → v.cells.size = cs.length ∧ (∀ (j : Nat) (e : DV) (u : Value), cs[j]? = some e → v.cells[j]? = some u → Rel rd kn blk e u) ∧ ∀ u ∈ v.cells.toList, oneV u = true := by
    intro ho he; cases he; exact single h ho (notAgg (h.one ho))
  cases d with
  | agg ds =>
    simp only [DV.cells?] at hc
    cases ha : allOne ds
    · simp [ha] at hc
    · simp only [ha, cond_true, Option.some.injEq] at hc
      subst hc
      cases h with
      | agg hs hr =>
        rename_i vs
        refine ⟨hs, hr, fun u hu => ?_⟩
        obtain ⟨j, hj, rfl⟩ := List.mem_iff_getElem.1 hu
        have hj' : j < vs.size := by simpa [Value.cells] using hj
        have e1 : ds[j]? = some (ds[j]'(by omega)) := List.getElem?_eq_getElem (by omega)
        have e2 : vs[j]? = some (vs[j]) := Array.getElem?_eq_getElem hj'
        have := (hr j _ _ e1 e2).one (allOne_spec ha _ (List.getElem_mem _))
        simpa [Value.cells] using this
  | val w =>
    cases h
    cases v with
    | agg vs =>
      simp only [DV.cells?] at hc
      cases ha : allOne (vs.toList.map DV.val)
      · simp [ha] at hc
      · simp only [ha, cond_true, Option.some.injEq] at hc
        subst hc
        refine ⟨by simp [Value.cells], fun j e u hj hu => ?_, fun u hu => ?_⟩
        · simp only [Value.cells] at hu
          simp only [List.getElem?_map, Array.getElem?_toList, hu, Option.map_some, Option.some.injEq] at hj
          subst hj; exact .val u
        · exact allOne_spec ha (.val u) (List.mem_map_of_mem hu)
    | _ => first | (simp only [DV.cells?, DV.one, oneV, cond_true] at hc; exact viaOne rfl hc) | simp [DV.cells?, DV.one, oneV] at hc
  | _ => first | (simp only [DV.cells?, DV.one, cond_true] at hc; exact viaOne rfl hc) | simp [DV.cells?, DV.one] at hc
def allVals : List DV → Option (List Value)
  | [] => some []
  | .val v :: r => match allVals r with
    | some l => some (v :: l)
    | none => none
  | _ => none
theorem allVals_spec : ∀ {cs : List DV} {l : List Value}, allVals cs = some l → cs = l.map .val
  | [], l, h => by simp [allVals] at h; subst h; rfl
  | .val v :: r, l, h => by
    simp only [allVals] at h
    cases hr : allVals r with
    | none => simp [hr] at h
    | some l' => simp only [hr, Option.some.injEq] at h; subst h; rw [allVals_spec hr]; rfl
  | .agg _ :: _, l, h => by simp [allVals] at h
  | .tup _ :: _, l, h => by simp [allVals] at h
  | .ptr _ _ :: _, l, h => by simp [allVals] at h
  | .rptr _ _ _ _ :: _, l, h => by simp [allVals] at h
  | .row _ _ _ _ :: _, l, h => by simp [allVals] at h
  | .lst _ _ :: _, l, h => by simp [allVals] at h
  | .cptr _ :: _, l, h => by simp [allVals] at h
  | .opt _ _ :: _, l, h => by simp [allVals] at h
  | .clo _ _ :: _, l, h => by simp [allVals] at h
  | .bnd _ _ :: _, l, h => by simp [allVals] at h
  | .mp _ _ _ :: _, l, h => by simp [allVals] at h
  | .mph _ :: _, l, h => by simp [allVals] at h
  | .tok _ _ :: _, l, h => by simp [allVals] at h
  | .grd _ _ _ :: _, l, h => by simp [allVals] at h
  | .gptr _ _ _ _ :: _, l, h => by simp [allVals] at h
  | .err _ :: _, l, h => by simp [allVals] at h
  | .whole _ :: _, l, h => by simp [allVals] at h
  | .any :: _, l, h => by simp [allVals] at h
def mkAgg (cs : List DV) : DV := match allVals cs with
  | some l => .val (.agg l.toArray)
  | none => .agg cs
theorem Rel.val_eq {rd : Rd} {kn : Nat → Prop} {blk : Nat → Option Loc} {u v : Value} (h : Rel rd kn blk (.val u) v) : v = u := by cases h; rfl
theorem Rel.mkAgg {rd : Rd} {kn : Nat → Prop} {blk : Nat → Option Loc} {cs : List DV} {vs : Array Value} (hs : vs.size = cs.length)
    (h : ∀ (j : Nat) (d : DV) (u : Value), cs[j]? = some d → vs[j]? = some u → Rel rd kn blk d u) : Rel rd kn blk (mkAgg cs) (.agg vs) := by
  unfold Abs.mkAgg
  cases hv : allVals cs with
  | none => exact .agg hs h
  | some l =>
    have hcs := allVals_spec hv
    subst hcs
    have : vs = l.toArray := by
      apply Array.ext
      · simpa using hs
      · intro i h1 h2
        have hl : i < l.length := by simpa using h2
        have := (h i (.val l[i]) vs[i] (by simp [hl]) (by simp [h1])).val_eq
        simpa using this
    rw [this]
    exact .val _
end Go.Abs
