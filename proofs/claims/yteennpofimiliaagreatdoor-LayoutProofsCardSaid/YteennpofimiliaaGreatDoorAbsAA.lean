/- A small abstract machine over the model: abstract values, their relation to the model's values. No program in sight. The package-level variables that are only read, and what they hold: (number, cells). -/
import Derived.Calls
import Derived.Orders
import Derived.Below
section
namespace Go.Abs
inductive DV where
  | val (v : Value)
  | agg (cs : List DV)
  | tup (cs : List DV)
  | ptr (id j : Nat)
  | rptr (s id i j : Nat)
  | row (s id off len : Nat)
  | lst (n : Nat) (cols : List (Nat → DV))
  | cptr (cs : List DV)
  | opt (b : Bool) (d : DV)
  | clo (fn : FuncId) (caps : List DV)
  | any
inductive Loc where
  | nil
  | at_ (g C : Nat)
def oneV : Value → Bool
  | .agg _ | .tuple _ => false
  | _ => true
abbrev Rd := Addr → Value → Prop
inductive Rel (rd : Rd) : (Nat → Prop) → (Nat → Option Loc) → DV → Value → Prop
  | val {kn blk} (v : Value) : Rel rd kn blk (.val v) v
  | agg {kn blk} {cs : List DV} {vs : Array Value} (hs : vs.size = cs.length)
      (h : ∀ (j : Nat) (d : DV) (u : Value), cs[j]? = some d → vs[j]? = some u → Rel rd kn blk d u) : Rel rd kn blk (.agg cs) (.agg vs)
  | tup {kn blk} {cs : List DV} {vs : Array Value} (hs : vs.size = cs.length)
      (h : ∀ (j : Nat) (d : DV) (u : Value), cs[j]? = some d → vs[j]? = some u → Rel rd kn blk d u) : Rel rd kn blk (.tup cs) (.tuple vs)
  | ptr {kn blk} {id j : Nat} {v : Value} (hk : kn id) (hv : ∃ ad, v = .pointer (some ad))
      (h : ∀ g C, blk id = some (.at_ g C) → v = .pointer (some ⟨g, j, none⟩)) : Rel rd kn blk (.ptr id j) v
  | rptr {kn blk} {s id i j : Nat} {v : Value} (hk : kn id) (hv : ∃ ad, v = .pointer (some ad))
      (h : ∀ g C, blk id = some (.at_ g C) → v = .pointer (some ⟨g, i * s + j, none⟩)) : Rel rd kn blk (.rptr s id i j) v
  | row {kn blk} {s id off len : Nat} {v : Value} (hk : kn id) (hv : ∃ p c, v = .slice p len c)
      (h0 : blk id = some .nil → v = .slice none 0 0 ∧ off = 0 ∧ len = 0)
      (h : ∀ g C, blk id = some (.at_ g C) → (v = .slice (some ⟨g, off * s, none⟩) len (C - off) ∧ off + len ≤ C) ∨ (0 < off ∧ len = 0)) : Rel rd kn blk (.row s id off len) v
  | lst {kn blk} {n : Nat} {cols : List (Nat → DV)} {A : Option Addr} {c : Nat} (U : Nat → Nat → Value) (hc : n ≤ c)
      (ha : ∀ (i j : Nat) (f : Nat → DV), i < n → cols[j]? = some f → ∃ a, A = some a ∧ rd (a.add (i * cols.length + j)) (U i j))
      (hn : 0 < n → A ≠ none) (ho : ∀ (i j : Nat) (f : Nat → DV), i < n → cols[j]? = some f → oneV (U i j) = true)
      (h : ∀ (i j : Nat) (f : Nat → DV), i < n → cols[j]? = some f → Rel rd (fun _ => False) (fun _ => none) (f i) (U i j)) : Rel rd kn blk (.lst n cols) (.slice A n c)
  | cptr {kn blk} {cs : List DV} {a : Addr} (U : Nat → Value)
      (ha : ∀ (j : Nat) (d : DV), cs[j]? = some d → rd (a.add j) (U j))
      (h : ∀ (j : Nat) (d : DV), cs[j]? = some d → Rel rd (fun _ => False) (fun _ => none) d (U j)) : Rel rd kn blk (.cptr cs) (.pointer (some a))
  | opt {kn blk} {b : Bool} {d : DV} {v : Value} (h : b = true → Rel rd kn blk d v) (hu : b = false → v = undef) : Rel rd kn blk (.opt b d) v
  | clo {kn blk} {fn : FuncId} {caps : List DV} {vs : Array Value} (hs : vs.size = caps.length)
      (h : ∀ (j : Nat) (d : DV) (u : Value), caps[j]? = some d → vs[j]? = some u → Rel rd kn blk d u) : Rel rd kn blk (.clo fn caps) (.func (.func fn) #[] vs)
  | any {kn blk} (v : Value) : Rel rd kn blk .any v
theorem Rel.mono {rd rd' : Rd} {kn : Nat → Prop} {blk : Nat → Option Loc} {d : DV} {v : Value} (h : Rel rd kn blk d v) :
    ∀ {kn' : Nat → Prop} {blk' : Nat → Option Loc}, (∀ a u, rd a u → rd' a u) → (∀ id, kn id → kn' id) →
      (∀ id l, kn id → blk' id = some l → blk id = some l) → Rel rd' kn' blk' d v := by
  induction h with
  | val v => intro kn' blk' _ _ _; exact .val v
  | agg hs _ ih => intro kn' blk' h1 h2 h3; exact .agg hs fun j d u a b => ih j d u a b h1 h2 h3
  | tup hs _ ih => intro kn' blk' h1 h2 h3; exact .tup hs fun j d u a b => ih j d u a b h1 h2 h3
  | ptr hk hv h => intro kn' blk' h1 h2 h3; exact .ptr (h2 _ hk) hv fun g C e => h g C (h3 _ _ hk e)
  | rptr hk hv h => intro kn' blk' h1 h2 h3; exact .rptr (h2 _ hk) hv fun g C e => h g C (h3 _ _ hk e)
  | row hk hv h0 h => intro kn' blk' h1 h2 h3; exact .row (h2 _ hk) hv (fun e => h0 (h3 _ _ hk e)) fun g C e => h g C (h3 _ _ hk e)
  | lst U hc ha hn ho _ ih =>
    intro kn' blk' h1 h2 h3
    exact .lst U hc (fun i j f hi hj => let ⟨a, e, r⟩ := ha i j f hi hj; ⟨a, e, h1 _ _ r⟩) hn ho fun i j f hi hj => ih i j f hi hj h1 (fun _ h => h) fun _ _ h => h.elim
  | cptr U ha _ ih =>
    intro kn' blk' h1 h2 h3
    exact .cptr U (fun j d e => h1 _ _ (ha j d e)) fun j d e => ih j d e h1 (fun _ h => h) fun _ _ h => h.elim
  | opt _ hu ih => intro kn' blk' h1 h2 h3; exact .opt (fun e => ih e h1 h2 h3) hu
  | clo hs _ ih => intro kn' blk' h1 h2 h3; exact .clo hs fun j d u a b => ih j d u a b h1 h2 h3
  | any v => intro kn' blk' _ _ _; exact .any v
def DV.one : DV → Bool
  | .val v => oneV v
  | .ptr .. | .rptr .. | .row .. | .lst .. | .cptr .. | .clo .. => true
  | _ => false
theorem Rel.one {rd : Rd} {kn : Nat → Prop} {blk : Nat → Option Loc} {d : DV} {v : Value} (h : Rel rd kn blk d v) (ho : d.one = true) : oneV v = true := by
  cases h <;> simp only [DV.one, Bool.false_eq_true] at ho <;> first | exact ho | rfl | skip
  · rename_i hv _; obtain ⟨p, rfl⟩ := hv; rfl
  · rename_i hv _; obtain ⟨p, rfl⟩ := hv; rfl
  · rename_i hv _ _; obtain ⟨p, c, rfl⟩ := hv; rfl
def allOne : List DV → Bool
  | [] => true
  | d :: r => bif d.one then allOne r else false
theorem allOne_spec : ∀ {cs : List DV}, allOne cs = true → ∀ d ∈ cs, d.one = true
  | [], _, d, hd => by cases hd
  | c :: r, h, d, hd => by
    simp only [allOne] at h
    cases hc : c.one
    · simp [hc] at h
    · simp only [hc, cond_true] at h
      rcases List.mem_cons.1 hd with rfl | hd
      · exact hc
      · exact allOne_spec h d hd
def DV.cells? : DV → Option (List DV)
  | .agg cs => bif allOne cs then some cs else none
  | .val (.agg vs) => bif allOne (vs.toList.map .val) then some (vs.toList.map .val) else none
  | d => bif d.one then some [d] else none
theorem Rel.cells {rd : Rd} {kn : Nat → Prop} {blk : Nat → Option Loc} {d : DV} {v : Value} {cs : List DV} (h : Rel rd kn blk d v) (hc : d.cells? = some cs) :
    v.cells.size = cs.length ∧ (∀ (j : Nat) (e : DV) (u : Value), cs[j]? = some e → v.cells[j]? = some u → Rel rd kn blk e u) ∧ ∀ u ∈ v.cells.toList, oneV u = true := by
  have single : ∀ {d : DV} {v : Value}, Rel rd kn blk d v → d.one = true → v.cells = #[v] → v.cells.size = [d].length ∧
      (∀ (j : Nat) (e : DV) (u : Value), [d][j]? = some e → v.cells[j]? = some u → Rel rd kn blk e u) ∧ ∀ u ∈ v.cells.toList, oneV u = true := by
    intro d v h ho hv
    rw [hv]
    refine ⟨rfl, fun j e u hj hu => ?_, fun u hu => ?_⟩
    · match j, hj, hu with
      | 0, hj, hu => simp at hj hu; subst hj hu; exact h
    · simp at hu; subst hu; exact h.one ho
  have notAgg : ∀ {v : Value}, oneV v = true → v.cells = #[v] := by
    intro v hv; cases v <;> first | rfl | simp [oneV] at hv
  have viaOne : d.one = true → some [d] = some cs → v.cells.size = cs.length ∧ (∀ (j : Nat) (e : DV) (u : Value), cs[j]? = some e → v.cells[j]? = some u → Rel rd kn blk e u) ∧ ∀ u ∈ v.cells.toList, oneV u = true := by
    intro ho he; cases he; exact single h ho (notAgg (h.one ho))
  cases d with
  | agg ds =>
    simp only [DV.cells?] at hc
    cases ha : allOne ds
    · simp [ha] at hc
    · simp only [ha, cond_true, Option.some.injEq] at hc
      subst hc
      cases h with
      | agg hs hr =>
        rename_i vs
        refine ⟨hs, hr, fun u hu => ?_⟩
        obtain ⟨j, hj, rfl⟩ := List.mem_iff_getElem.1 hu
        have hj' : j < vs.size := by simpa [Value.cells] using hj
        have e1 : ds[j]? = some (ds[j]'(by omega)) := List.getElem?_eq_getElem (by omega)
        have e2 : vs[j]? = some (vs[j]) := Array.getElem?_eq_getElem hj'
        have := (hr j _ _ e1 e2).one (allOne_spec ha _ (List.getElem_mem _))
        simpa [Value.cells] using this
  | val w =>
    cases h
    cases v with
    | agg vs =>
      simp only [DV.cells?] at hc
      cases ha : allOne (vs.toList.map DV.val)
      · simp [ha] at hc
      · simp only [ha, cond_true, Option.some.injEq] at hc
        subst hc
        refine ⟨by simp [Value.cells], fun j e u hj hu => ?_, fun u hu => ?_⟩
        · simp only [Value.cells] at hu
          simp only [List.getElem?_map, Array.getElem?_toList, hu, Option.map_some, Option.some.injEq] at hj
          subst hj; exact .val u
        · exact allOne_spec ha (.val u) (List.mem_map_of_mem hu)
    | _ => first | (simp only [DV.cells?, DV.one, oneV, cond_true] at hc; exact viaOne rfl hc) | simp [DV.cells?, DV.one, oneV] at hc
  | _ => first | (simp only [DV.cells?, DV.one, cond_true] at hc; exact viaOne rfl hc) | simp [DV.cells?, DV.one] at hc
def allVals : List DV → Option (List Value)
  | [] => some []
  | .val v :: r => match allVals r with
    | some l => some (v :: l)
    | none => none
  | _ => none
theorem allVals_spec : ∀ {cs : List DV} {l : List Value}, allVals cs = some l → cs = l.map .val
  | [], l, h => by simp [allVals] at h; subst h; rfl
  | .val v :: r, l, h => by
    simp only [allVals] at h
    cases hr : allVals r with
    | none => simp [hr] at h
    | some l' => simp only [hr, Option.some.injEq] at h; subst h; rw [allVals_spec hr]; rfl
  | .agg _ :: _, l, h => by simp [allVals] at h
  | .tup _ :: _, l, h => by simp [allVals] at h
  | .ptr _ _ :: _, l, h => by simp [allVals] at h
  | .rptr _ _ _ _ :: _, l, h => by simp [allVals] at h
  | .row _ _ _ _ :: _, l, h => by simp [allVals] at h
  | .lst _ _ :: _, l, h => by simp [allVals] at h
  | .cptr _ :: _, l, h => by simp [allVals] at h
  | .opt _ _ :: _, l, h => by simp [allVals] at h
  | .clo _ _ :: _, l, h => by simp [allVals] at h
  | .any :: _, l, h => by simp [allVals] at h
def mkAgg (cs : List DV) : DV := match allVals cs with
  | some l => .val (.agg l.toArray)
  | none => .agg cs
theorem Rel.val_eq {rd : Rd} {kn : Nat → Prop} {blk : Nat → Option Loc} {u v : Value} (h : Rel rd kn blk (.val u) v) : v = u := by cases h; rfl
theorem Rel.mkAgg {rd : Rd} {kn : Nat → Prop} {blk : Nat → Option Loc} {cs : List DV} {vs : Array Value} (hs : vs.size = cs.length)
    (h : ∀ (j : Nat) (d : DV) (u : Value), cs[j]? = some d → vs[j]? = some u → Rel rd kn blk d u) : Rel rd kn blk (mkAgg cs) (.agg vs) := by
  unfold Abs.mkAgg
  cases hv : allVals cs with
  | none => exact .agg hs h
  | some l =>
    have hcs := allVals_spec hv
    subst hcs
    have : vs = l.toArray := by
      apply Array.ext
      · simpa using hs
      · intro i h1 h2
        have hl : i < l.length := by simpa using h2
        have := (h i (.val l[i]) vs[i] (by simp [hl]) (by simp [h1])).val_eq
        simpa using this
    rw [this]
    exact .val _
end Go.Abs
end
section
namespace Go.Abs
def gl : List (Nat × List DV) := [(0, [1, 0, 0, 1, -1, 0, 0, -1].map fun n => .val (.int .i64 n))]
def shG : List (DV × Value) := gl.map fun p => (.cptr p.2, .pointer (some ⟨p.1, 0, none⟩))
def GlobOK (rd : Rd) : Prop := ∀ d v, (d, v) ∈ shG → Rel rd (fun _ => False) (fun _ => none) d v
theorem shG_cptr {d : DV} {v : Value} (h : (d, v) ∈ shG) : ∃ cs, d = .cptr cs := by
  obtain ⟨p, _, e⟩ := List.mem_map.1 h
  cases e
  exact ⟨_, rfl⟩
theorem GlobOK.mono {rd rd' : Rd} (h : GlobOK rd) (hm : ∀ a u, rd a u → rd' a u) : GlobOK rd' := fun d v hd => (h d v hd).mono hm (fun _ h => h) fun _ _ h => h.elim
/-- The standing rewrites of conditions. -/
theorem Sq : (∀ {a : Prop}, (a → a) ↔ True) ∧ (∀ (a : Prop), (a → True) = True) ∧ (∀ (α : Type), (α → True) = True) ∧ (∀ (p : Prop), (p ∧ True) = p) ∧ (∀ (p : Prop), (True ∧ p) = p) ∧ (∀ i : Nat, Int.toNat ((i : Int) + 1) = i + 1) ∧ (∀ i : Nat, Int.toNat ((i : Int) + 2) = i + 2) ∧ (Int.toNat 0 = 0) ∧ (∀ {α : Type} (a b : α), (a ≠ b) = ¬ (a = b)) ∧ (∀ n : Nat, Int.toNat (n : Int) = n) ∧ (∀ (p : Prop) [Decidable p] (f : Bool), (if p then true else f) = (decide p || f)) ∧ (∀ (p : Prop) [Decidable p] (t : Bool), (if p then t else false) = (decide p && t)) ∧ (∀ {b : Bool} {_ : Decidable (b = true)}, (decide (b = true)) = b) ∧ (∀ (a b : Bool), ((a || b) = true) = (a = true ∨ b = true)) ∧ (∀ {x y : Bool}, (x || y) = false ↔ x = false ∧ y = false) ∧ (∀ (a b : Bool), ((a && b) = true) = (a = true ∧ b = true)) ∧ (∀ {x y : Bool}, (x && y) = false ↔ (x = true → y = false)) ∧ (∀ (b : Bool), ((!b) = true) = (b = false)) ∧ (∀ (b : Bool), ((!b) = false) = (b = true)) ∧ (∀ (b : Bool), (!!b) = b) ∧ (∀ {α : Type} [BEq α] [LawfulBEq α] {a b : α}, (a != b) = true ↔ a ≠ b) ∧ (∀ {α : Type} [BEq α] [LawfulBEq α] {a b : α}, (a != b) = false ↔ a = b) ∧ (∀ {α : Type} [BEq α] [LawfulBEq α] {a b : α}, (a == b) = true ↔ a = b) ∧ (∀ {α : Type} [BEq α] [LawfulBEq α] {a b : α}, (a == b) = false ↔ a ≠ b) ∧ (∀ {p : Prop} [Decidable p], (decide p = true) = p) ∧ (∀ {p : Prop} {_ : Decidable p}, (decide p = false) ↔ ¬ p) := ⟨@imp_self, fun a => implies_true a, fun α => implies_true α, and_true, true_and, fun i => by omega, fun i => by omega, rfl, @ne_eq, @Int.toNat_natCast, @Bool.if_true_left, @Bool.if_false_right, @Bool.decide_eq_true, @Bool.or_eq_true, @Bool.or_eq_false_iff, @Bool.and_eq_true, @Bool.and_eq_false_imp, @Bool.not_eq_true', @Bool.not_eq_false', @Bool.not_not, @bne_iff_ne, @bne_eq_false_iff_eq, @beq_iff_eq, @beq_eq_false_iff_ne, @decide_eq_true_eq, @decide_eq_false_iff_not⟩
end Go.Abs
end
