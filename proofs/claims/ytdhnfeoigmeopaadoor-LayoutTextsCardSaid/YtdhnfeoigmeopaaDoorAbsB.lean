/- The package-level variables that are only read, and what they hold: (number, cells). The abstract machine's state, and what it says of a frame and a world. -/
import Derived.Test.YtdhnfeoigmeopaaDoorAbsA
import Derived.Lib.ItoaNum
import Derived.Laws.World
import Derived.RangeFuncWrites
section
namespace Go.Abs
def trk : Bool := false
abbrev DrOK (w w' : World) : Prop := trk = true → w.drawn ≤ w'.drawn
def gl : List (Nat × List DV) := [(0, [.err false]), (1, [.err false])]
def gT : Array Value := (Lib.pow10Tab.map fun z => Value.int .u64 z).toArray
def shG : List (DV × Value) := (.whole gT, .pointer (some ⟨5, 0, none⟩)) :: gl.map fun p => (.cptr p.2, .pointer (some ⟨p.1, 0, none⟩))
def GlobOK (rd : Rd) : Prop := ∀ d v, (d, v) ∈ shG → Rel rd (fun _ => False) (fun _ => none) d v
theorem shG_cptr {d : DV} {v : Value} (h : (d, v) ∈ shG) : (∃ cs, d = .cptr cs) ∨ ∃ cs, d = .whole cs := by
  rcases List.mem_cons.1 h with h | h
  · cases h
    exact .inr ⟨_, rfl⟩
  · obtain ⟨p, _, e⟩ := List.mem_map.1 h
    cases e
    exact .inl ⟨_, rfl⟩
theorem shG_mem {g : Nat} {cs : List DV} (h : (g, cs) ∈ gl) : (DV.cptr cs, Value.pointer (some ⟨g, 0, none⟩)) ∈ shG := List.mem_cons_of_mem _ (List.mem_map.2 ⟨(g, cs), h, rfl⟩)
theorem GlobOK.mono {rd rd' : Rd} (h : GlobOK rd) (hm : ∀ a u, rd a u → rd' a u) : GlobOK rd' := fun d v hd => (h d v hd).mono hm (fun _ h => h) fun _ _ h => h.elim
def ri (p : Prop) : Prop := p → p
theorem Sq : (∀ {a : Prop}, (a → a) ↔ True) ∧ (∀ (a : Prop), (a → True) = True) ∧ (∀ (α : Type), (α → True) = True) ∧ (∀ (p : Prop), (p ∧ True) = p) ∧ (∀ (p : Prop), (True ∧ p) = p) ∧ (∀ i : Nat, Int.toNat ((i : Int) + 1) = i + 1) ∧ (∀ i : Nat, Int.toNat ((i : Int) + 2) = i + 2) ∧ (Int.toNat 0 = 0) ∧ (∀ {α : Type} (a b : α), (a ≠ b) = ¬ (a = b)) ∧ (∀ n : Nat, Int.toNat (n : Int) = n) ∧ (∀ (p : Prop) [Decidable p] (f : Bool), (if p then true else f) = (decide p || f)) ∧ (∀ (p : Prop) [Decidable p] (t : Bool), (if p then t else false) = (decide p && t)) ∧ (∀ {b : Bool} {_ : Decidable (b = true)}, (decide (b = true)) = b) ∧ (∀ (a b : Bool), ((a || b) = true) = (a = true ∨ b = true)) ∧ (∀ {x y : Bool}, (x || y) = false ↔ x = false ∧ y = false) ∧ (∀ (a b : Bool), ((a && b) = true) = (a = true ∧ b = true)) ∧ (∀ {x y : Bool}, (x && y) = false ↔ (x = true → y = false)) ∧ (∀ (b : Bool), ((!b) = true) = (b = false)) ∧ (∀ (b : Bool), ((!b) = false) = (b = true)) ∧ (∀ (b : Bool), (!!b) = b) ∧ (∀ {α : Type} [BEq α] [LawfulBEq α] {a b : α}, (a != b) = true ↔ a ≠ b) ∧ (∀ {α : Type} [BEq α] [LawfulBEq α] {a b : α}, (a != b) = false ↔ a = b) ∧ (∀ {α : Type} [BEq α] [LawfulBEq α] {a b : α}, (a == b) = true ↔ a = b) ∧ (∀ {α : Type} [BEq α] [LawfulBEq α] {a b : α}, (a == b) = false ↔ a ≠ b) ∧ (∀ {p : Prop} [Decidable p], (decide p = true) = p) ∧ (∀ {p : Prop} {_ : Decidable p}, (decide p = false) ↔ ¬ p) ∧ (∀ p : Prop, ri p = True) := ⟨@imp_self, fun a => implies_true a, fun α => implies_true α, and_true, true_and, fun i => by omega, fun i => by omega, rfl, @ne_eq, @Int.toNat_natCast, @Bool.if_true_left, @Bool.if_false_right, @Bool.decide_eq_true, @Bool.or_eq_true, @Bool.or_eq_false_iff, @Bool.and_eq_true, @Bool.and_eq_false_imp, @Bool.not_eq_true', @Bool.not_eq_false', @Bool.not_not, @bne_iff_ne, @bne_eq_false_iff_eq, @beq_iff_eq, @beq_eq_false_iff_ne, @decide_eq_true_eq, @decide_eq_false_iff_not, fun _ => eq_true id⟩
end Go.Abs
end
section
namespace Go.Abs
open Go.RowKit
inductive AObj where
  | box (cs : List DV)
  | row (n : Nat) (cols : List (Nat → DV))
  | srow (n : Nat) (cols : List (Nat → DV))
  | map (ks : KS) (has : List Int → Bool) (col : List Int → DV) (hot : Option (Nat × List Int))
  | gmap (ks : KS) (len : List Int → Nat) (col : List Int → Nat → DV) (hot : List (Nat × List Int)) (opn : Option (List Int))
  | tok
  | grid (n s : Nat) (len : Nat → Nat → Nat) (col : Nat → Nat → Nat → DV) (opn : Option (Nat × Nat))
  | exact (g : Nat) (o : Obj)
def look {α : Type} : List (Nat × α) → Nat → Option α
  | [], _ => none
  | (k, v) :: r, i => bif Nat.beq k i then some v else look r i
structure St where
  t : List (Nat × DV)
  h : List (Nat × Option AObj)
  nx : Nat
  nt : Nat
  rn : Bool := false
  lo : Nat := 0
def St.get (σ : St) (t : Nat) : DV := match look σ.t t with | some d => d | none => .any
def St.obj (σ : St) (id : Nat) : Option AObj := match look σ.h id with | some o => o | none => none
theorem look_cons {α : Type} (k : Nat) (v : α) (r : List (Nat × α)) (i : Nat) : look ((k, v) :: r) i = if k = i then some v else look r i := by
  simp only [look]
  by_cases h : k = i
  · subst h; simp
  · have : Nat.beq k i = false := by
      cases hb : Nat.beq k i
      · rfl
      · exact absurd (Nat.eq_of_beq_eq_true hb) h
    simp [this, h]
def St.put (σ : St) (t : Nat) (d : DV) : St := { σ with t := (t, d) :: σ.t }
def St.setObj (σ : St) (id : Nat) (o : Option AObj) : St := { σ with h := (id, o) :: σ.h }
theorem St.get_put (σ : St) (t : Nat) (d : DV) (i : Nat) : (σ.put t d).get i = if t = i then d else σ.get i := by
  unfold St.get St.put
  rw [look_cons]
  by_cases h : t = i <;> simp [h]
theorem St.obj_setObj (σ : St) (id : Nat) (o : Option AObj) (i : Nat) : (σ.setObj id o).obj i = if id = i then o else σ.obj i := by
  unfold St.obj St.setObj
  rw [look_cons]
  by_cases h : id = i <;> simp [h]
structure Env where
  S : Nat → Prop
  sh : List (DV × Value)
  wr : World
  wb : Option Nat
  X : Nat → Prop
  pv : Nat → Value
structure Below (B : Nat) (w w' : World) : Prop where
  os : w'.os = w.os
  tape : w'.tape = w.tape
  output : w'.output = w.output
  size : w.heap.size ≤ w'.heap.size
  block : ∀ k, k < B → w'.heap[k]? = w.heap[k]?
  drawn : DrOK w w'
theorem Below.lib {B : Nat} {w w' : World} (h : Below B w w') : Go.RowKit.Below B w w' := ⟨h.os, h.tape, h.output, h.size, h.block⟩
theorem Below.refl (B : Nat) (w : World) : Below B w w := ⟨rfl, rfl, rfl, Nat.le_refl _, fun _ _ => rfl, fun _ => Nat.le_refl _⟩
theorem Below.trans {B : Nat} {a b c : World} (h : Below B a b) (k : Below B b c) : Below B a c :=
  ⟨k.os.trans h.os, k.tape.trans h.tape, k.output.trans h.output, Nat.le_trans h.size k.size, fun i hi => (k.block i hi).trans (h.block i hi), fun t => Nat.le_trans (h.drawn t) (k.drawn t)⟩
theorem Below.mono {B B' : Nat} {w w' : World} (h : Below B w w') (hB : B' ≤ B) : Below B' w w' := ⟨h.os, h.tape, h.output, h.size, fun k hk => h.block k (Nat.lt_of_lt_of_le hk hB), h.drawn⟩
theorem Below.alloc {B : Nat} {a w : World} (h : Below B a w) (hB : B ≤ w.heap.size) (o : Obj) : Below B a (w.alloc o) :=
  have k := Go.RowKit.Below.alloc h.lib hB o
  ⟨k.os, k.tape, k.output, k.size, k.block, h.drawn⟩
theorem Below.heap_alloc (w : World) (o : Obj) (k : Nat) (h : k < w.heap.size) : (w.alloc o).heap[k]? = w.heap[k]? := Go.RowKit.Below.heap_alloc w o k h
structure BelowX (base : Nat) (X : Nat → Prop) (w w' : World) : Prop where
  os : w'.os = w.os
  tape : w'.tape = w.tape
  output : w'.output = w.output
  size : w.heap.size ≤ w'.heap.size
  block : ∀ k, k < base → ¬ X k → w'.heap[k]? = w.heap[k]?
  drawn : DrOK w w'
theorem BelowX.trans {base : Nat} {X : Nat → Prop} {w w' w'' : World} (h : BelowX base X w w') (k : BelowX base X w' w'') : BelowX base X w w'' :=
  ⟨k.os.trans h.os, k.tape.trans h.tape, k.output.trans h.output, Nat.le_trans h.size k.size, fun i hi hx => (k.block i hi hx).trans (h.block i hi hx), fun t => Nat.le_trans (h.drawn t) (k.drawn t)⟩
theorem BelowX.refl (base : Nat) (X : Nat → Prop) (w : World) : BelowX base X w w := ⟨rfl, rfl, rfl, Nat.le_refl _, fun _ _ _ => rfl, fun _ => Nat.le_refl _⟩
theorem BelowX.of {base : Nat} {X : Nat → Prop} {w w' : World} (h : Below base w w') : BelowX base X w w' := ⟨h.os, h.tape, h.output, h.size, fun k hk _ => h.block k hk, h.drawn⟩
theorem BelowX.none {base : Nat} {X : Nat → Prop} {w w' : World} (h : BelowX base X w w') (hX : ∀ k, ¬ X k) : Below base w w' := ⟨h.os, h.tape, h.output, h.size, fun k hk => h.block k hk (hX k), h.drawn⟩
def rdw (w : World) (a : Addr) (u : Value) : Prop := (w.cell? a = some u ∧ oneV u = true) ∨ (∃ es c, w.heap[a.block]? = some (.map es c) ∧ u = encEs (es.toList.map fun e => (e.key, e.val))) ∨ ∃ cs T fr, w.heap[a.block]? = some (.cells cs T fr) ∧ u = .tuple #[.agg cs]
def isMapO (o : Obj) : Prop := (∃ es c, o = .map es c) ∨ ∃ m s q c, o = .mapIter m s q c
def isMapAt (w : World) (g : Nat) : Prop := ∃ o, w.heap[g]? = some o ∧ isMapO o
theorem not_mapO_mark {ds : Option (List Deferred)} : ¬ isMapO (.deferred ds) := fun h => by rcases h with ⟨_, _, h⟩ | ⟨_, _, _, _, h⟩ <;> cases h
theorem not_mapAt_mark {w : World} {g : Nat} {ds : Option (List Deferred)} (h : w.heap[g]? = some (.deferred ds)) : ¬ isMapAt w g := fun ⟨o, h1, h2⟩ => by rw [h] at h1; cases h1; exact not_mapO_mark h2
theorem isMapAt.mk {w : World} {g : Nat} {es : Array MapEntry} {c : Nat} (h : w.heap[g]? = some (.map es c)) : isMapAt w g := ⟨_, h, .inl ⟨_, _, rfl⟩⟩
theorem rdw_cell {w : World} {a : Addr} {u : Value} (h : rdw w a u) (ho : oneV u = true) : w.cell? a = some u := by
  rcases h with h | ⟨es, c, _, rfl⟩ | ⟨cs, T, fr, _, rfl⟩
  · exact h.1
  · simp [encEs, oneV] at ho
  · simp [oneV] at ho
theorem rdw_map {w : World} {a : Addr} {es : List (Value × Value)} (h : rdw w a (encEs es)) : ∃ es' c, w.heap[a.block]? = some (.map es' c) ∧ es = es'.toList.map fun e => (e.key, e.val) := by
  rcases h with h | ⟨es', c, h, e⟩ | ⟨cs, T, fr, h, e⟩
  · simp [encEs, oneV] at h
  · exact ⟨es', c, h, encEs_inj e⟩
  · exfalso
    unfold encEs at e
    cases es with
    | nil => simp at e
    | cons x r => simp at e
def rdOf (w : World) (base : Nat) (S0 : Env) (blk : Nat → Option Loc) : Rd := fun a u =>
  rdw w a u ∧ (∀ id l, blk id = some l → ¬ l.has a.block) ∧ (S0.S a.block ∨ base ≤ a.block) ∧ ∀ B, S0.wb = some B → isMapAt w a.block → a.block < B
abbrev RelC (rd : Rd) (d : DV) (v : Value) : Prop := Rel rd (fun _ => False) (fun _ => none) d v
structure MapIs (rd : Rd) (ks : KS) (has : List Int → Bool) (col : List Int → DV) (es : List MapEntry) : Prop where
  hk : ∀ e ∈ es, ∃ l, encK ks e.key = some l ∧ has l = true
  hh : ∀ l, has l = true → ∃ e ∈ es, encK ks e.key = some l
  hd : es.Pairwise fun x y => x.key ≠ y.key
  hs : ∀ e ∈ es, oneV e.val = true
  h : ∀ (e : MapEntry) (l : List Int), e ∈ es → encK ks e.key = some l → RelC rd (col l) e.val
structure Stamps (es : List MapEntry) (clock : Nat) : Prop where
  apart : es.Pairwise fun x y => x.born ≠ y.born
  below : ∀ e ∈ es, e.born < clock
def GEnt (w : World) (rd : Rd) (bs : List Nat) (n : Nat) (c : Nat → DV) (v : Value) : Prop := (v = .slice none 0 0 ∧ n = 0) ∨ ∃ g C cv T, v = .slice (some ⟨g, 0, none⟩) n C ∧ g ∈ bs ∧ w.heap[g]? = some (.cells cv T (0, 0)) ∧ cv.size = C ∧ n ≤ C ∧
  ∀ i, i < n → ∃ u, cv[i]? = some u ∧ oneV u = true ∧ RelC rd (c i) u
structure GMapIs (w : World) (rd : Rd) (bs : List Nat) (ks : KS) (len : List Int → Nat) (col : List Int → Nat → DV) (opn : Option (List Int)) (es : List MapEntry) : Prop where
  hk : ∀ e ∈ es, ∃ l, encK ks e.key = some l
  hd : es.Pairwise fun x y => x.key ≠ y.key
  miss : ∀ l, (∀ e ∈ es, encK ks e.key ≠ some l) → opn ≠ some l → len l = 0
  ent : ∀ e l, e ∈ es → encK ks e.key = some l → opn ≠ some l → GEnt w rd bs (len l) (col l) e.val
  sep : ∀ e e' l l' g n C n' C', e ∈ es → e' ∈ es → encK ks e.key = some l → encK ks e'.key = some l' → opn ≠ some l → opn ≠ some l' → e.key ≠ e'.key → e.val = .slice (some ⟨g, 0, none⟩) n C → e'.val ≠ .slice (some ⟨g, 0, none⟩) n' C'
structure GridIs (w : World) (rd : Rd) (bs : List Nat) (n s : Nat) (len : Nat → Nat → Nat) (col : Nat → Nat → Nat → DV) (opn : Option (Nat × Nat)) (cv : Array Value) : Prop where
  ent : ∀ i j, i < n → j < s → opn ≠ some (i, j) → ∃ v, cv[i * s + j]? = some v ∧ GEnt w rd bs (len i j) (col i j) v
  sep : ∀ i j i' j' g m C m' C', i < n → j < s → i' < n → j' < s → opn ≠ some (i, j) → opn ≠ some (i', j') → (i, j) ≠ (i', j') → cv[i * s + j]? = some (.slice (some ⟨g, 0, none⟩) m C) → cv[i' * s + j']? ≠ some (.slice (some ⟨g, 0, none⟩) m' C')
theorem GEnt.keep {w w' : World} {rd rd' : Rd} {bs : List Nat} {n : Nat} {c : Nat → DV} {v : Value} (h : GEnt w rd bs n c v) (hr : ∀ {d u}, RelC rd d u → RelC rd' d u) (hk : ∀ k, k ∈ bs → w'.heap[k]? = w.heap[k]?) : GEnt w' rd' bs n c v := by
  rcases h with h | ⟨g, C, cv, T, h1, h2, h3, h4, h5, h6⟩
  · exact .inl h
  · exact .inr ⟨g, C, cv, T, h1, h2, by rw [hk g h2]; exact h3, h4, h5, fun i hi => let ⟨u, a, b, c⟩ := h6 i hi; ⟨u, a, b, hr c⟩⟩
theorem GridIs.mono {w w' : World} {rd rd' : Rd} {bs : List Nat} {n s : Nat} {len : Nat → Nat → Nat} {col : Nat → Nat → Nat → DV} {opn : Option (Nat × Nat)} {cv : Array Value} (h : GridIs w rd bs n s len col opn cv) (hr : ∀ {d u}, RelC rd d u → RelC rd' d u) (hk : ∀ k, k ∈ bs → w'.heap[k]? = w.heap[k]?) : GridIs w' rd' bs n s len col opn cv :=
  ⟨fun i j a b c => let ⟨v, x, y⟩ := h.ent i j a b c; ⟨v, x, y.keep hr hk⟩, h.sep⟩
def atKey (ks : KS) (es : List MapEntry) (l : List Int) (v : Value) : Prop := (∃ e ∈ es, encK ks e.key = some l ∧ e.val = v) ∨ ((∀ e ∈ es, encK ks e.key ≠ some l) ∧ v = .slice none 0 0)
def ObjRel (w : World) (rd : Rd) (kn : Nat → Prop) (blk : Nat → Option Loc) (l : Option Loc) : AObj → Prop
  | .box cs => ∃ g C cv T, l = some (.at_ g C) ∧ w.heap[g]? = some (.cells cv T (0, 0)) ∧ cv.size = cs.length ∧ (∀ (j : Nat) (d : DV) (u : Value), cs[j]? = some d → cv[j]? = some u → Rel rd kn blk d u) ∧ ∀ u ∈ cv.toList, oneV u = true
  | .row n cols => (l = some .nil ∧ n = 0) ∨ ∃ g C cv T, l = some (.at_ g C) ∧ w.heap[g]? = some (.cells cv T (0, 0)) ∧ cv.size = C * cols.length ∧ n ≤ C ∧
      ∀ (i j : Nat) (f : Nat → DV), i < n → cols[j]? = some f → ∃ u, cv[i * cols.length + j]? = some u ∧ oneV u = true ∧ RelC rd (f i) u
  | .srow n cols => (l = some .nil ∧ n = 0) ∨ ∃ g o C cv T, (l = some (.sub g o C) ∨ (l = some (.at_ g C) ∧ o = 0)) ∧ w.heap[g]? = some (.cells cv T (0, 0)) ∧ o + C * cols.length ≤ cv.size ∧ n ≤ C ∧
      ∀ (i j : Nat) (f : Nat → DV), i < n → cols[j]? = some f → ∃ u, cv[o + (i * cols.length + j)]? = some u ∧ oneV u = true ∧ RelC rd (f i) u
  | .map ks has col hot => ∃ g es clock, l = some (.map g []) ∧ w.heap[g]? = some (.map es clock) ∧ MapIs rd ks has col es.toList ∧ Stamps es.toList clock ∧
      ∀ t k, hot = some (t, k) → ∃ e ∈ es.toList, encK ks e.key = some k ∧ blk t = some (.is (.int .i64 e.born))
  | .gmap ks len col hot opn => ∃ g bs es clock, l = some (.map g bs) ∧ w.heap[g]? = some (.map es clock) ∧ GMapIs w rd bs ks len col opn es.toList ∧ (∀ b, b ∈ bs → ∃ cv T, w.heap[b]? = some (.cells cv T (0, 0))) ∧
      ∀ t k, (t, k) ∈ hot → ∃ v, blk t = some (.is v) ∧ atKey ks es.toList k v
  | .tok => ∃ v, l = some (.is v)
  | .grid n s len col opn => ∃ g C bs cv T, l = some (.grid g C bs) ∧ w.heap[g]? = some (.cells cv T (0, 0)) ∧ cv.size = C * s ∧ n ≤ C ∧ GridIs w rd bs n s len col opn cv ∧ ∀ b, b ∈ bs → b ≠ g ∧ ∃ cv T, w.heap[b]? = some (.cells cv T (0, 0))
  | .exact g o => l = some (.map g []) ∧ w.heap[g]? = some o ∧ isMapO o
def ndF : DV × Value := (.any, .int .i64 77)
structure R (base : Nat) (w0 : World) (S0 : Env) (σ : St) (kn : Nat → Prop) (blk : Nat → Option Loc) (a : Act) (w : World) : Prop where
  below : BelowX base S0.X w0 w
  xs : ∀ k, S0.X k → S0.S k
  hbase : base ≤ w.heap.size
  dfr : (a.defers.Nodup ∧ (ndF ∈ S0.sh → a.defers = [])) ∧ ∀ d ∈ a.defers, ∃ D, d = { target := .collected D, args := #[] } ∧ base ≤ D ∧ w.heap[D]? = some (.deferred (some []))
  kpo : S0.wr.heap.size ≤ w.heap.size ∧ (∀ B, S0.wb = some B → KeepsFrom B S0.wr w) ∧ ∀ (k : Nat) (o : Obj), S0.wr.heap[k]? = some o → o.isCells = false → ¬ isMapO o → w.heap[k]? = some o
  rnd : S0.wb ≠ none → σ.rn = true
  mlow : ∀ B, S0.wb = some B → ∀ id g bs, blk id = some (.map g bs) → g < B
  shp : ∀ d v, (d, v) ∈ shG ++ S0.sh → Rel (rdOf w base S0 blk) kn blk d v
  size : a.tmps.size = σ.nt
  tmps : ∀ t, Rel (rdOf w base S0 blk) kn blk (σ.get t) (a.tmps.getD t undef)
  objs : ∀ id o, σ.obj id = some o → kn id ∧ ObjRel w (rdOf w base S0 blk) kn blk (blk id) o
  inj : ∀ id id' l l' g, blk id = some l → blk id' = some l' → l.has g → l'.has g → id = id'
  ge : ∀ id l g, blk id = some l → l.has g → (base ≤ g ∨ S0.X g) ∧ g < w.heap.size
  live : ∀ id l, blk id = some l → ∃ o, σ.obj id = some o
  pin : ∀ t, t < σ.lo → a.tmps.getD t undef = S0.pv t
section
variable {base : Nat} {w0 w w' : World} {S0 : Env} {σ : St} {kn kn' : Nat → Prop} {blk blk' : Nat → Option Loc} {a : Act}
structure Chg (w w' : World) (kn kn' : Nat → Prop) (blk blk' : Nat → Option Loc) : Prop where
  size : w.heap.size ≤ w'.heap.size
  keep : ∀ k, k < w.heap.size → (∀ id l, blk id = some l → ¬ l.has k) → w'.heap[k]? = w.heap[k]?
  new : ∀ id l g, blk' id = some l → l.has g → (∃ id' l', blk id' = some l' ∧ l'.has g) ∨ w.heap.size ≤ g
  known : ∀ id, kn id → kn' id
  back : ∀ id l, kn id → blk' id = some l → ∃ l0, blk id = some l0 ∧ l0.core = l.core
  fwd : ∀ id v, kn id → blk id = some (.is v) → blk' id = some (.is v)
theorem World.alloc_kept_ (w : World) (o : Obj) (i : Nat) (h : i < w.heap.size) : (w.alloc o).heap[i]? = w.heap[i]? := ((Below.refl w.heap.size w).alloc (Nat.le_refl _) o).block i h
theorem heap_lt {w : World} {k : Nat} {o : Obj} (h : w.heap[k]? = some o) : k < w.heap.size := (Array.getElem?_eq_some_iff.1 h).1
theorem keeps_below {w w' : World} (hb : Below w.heap.size w w') : KeepsOthers w w' := ⟨hb.size, fun k o hk _ => by rw [hb.block k (heap_lt hk)]; exact hk⟩
theorem KeepsB.below {w w' : World} (hb : Below w.heap.size w w') (B : Nat) : KeepsFrom B w w' := (keeps_below hb).from B
theorem cell_lt {w : World} {a : Addr} {u : Value} (h : w.cell? a = some u) : a.block < w.heap.size := by
  rcases Nat.lt_or_ge a.block w.heap.size with hlt | hge
  · exact hlt
  · unfold World.cell? at h
    rw [Array.getElem?_eq_none hge] at h
    cases h
theorem rdw_lt {w : World} {a : Addr} {u : Value} (h : rdw w a u) : a.block < w.heap.size := by
  rcases h with h | ⟨es, c, h, _⟩ | ⟨cs, T, fr, h, _⟩
  · exact cell_lt h.1
  · exact heap_lt h
  · exact heap_lt h
theorem rdw_of {w w' : World} {a : Addr} {u : Value} (hk : w'.heap[a.block]? = w.heap[a.block]?) (h : rdw w a u) : rdw w' a u := by
  rcases h with h | ⟨es, c, h, e⟩ | ⟨cs, T, fr, h, e⟩
  · exact .inl ⟨by rw [World.cell?_of_block hk]; exact h.1, h.2⟩
  · exact .inr (.inl ⟨es, c, by rw [hk]; exact h, e⟩)
  · exact .inr (.inr ⟨cs, T, fr, by rw [hk]; exact h, e⟩)
theorem isMapAt_of {w w' : World} {g : Nat} (hk : w'.heap[g]? = w.heap[g]?) (h : isMapAt w' g) : isMapAt w g := by
  obtain ⟨o, h, h2⟩ := h
  exact ⟨o, by rw [← hk]; exact h, h2⟩
theorem Chg.rd (c : Chg w w' kn kn' blk blk') : ∀ a u, rdOf w base S0 blk a u → rdOf w' base S0 blk' a u := by
  rintro a u ⟨h1, h2, h3, h4⟩
  have hk := c.keep _ (rdw_lt h1) h2
  refine ⟨rdw_of hk h1, ?_, h3, fun B hB hm => h4 B hB (isMapAt_of hk hm)⟩
  intro id l e hl
  rcases c.new id l _ e hl with ⟨id', l', e', hl'⟩ | hge
  · exact h2 _ _ e' hl'
  · have := rdw_lt h1; omega
theorem Chg.rel (c : Chg w w' kn kn' blk blk') {d : DV} {v : Value} (h : Rel (rdOf w base S0 blk) kn blk d v) : Rel (rdOf w' base S0 blk') kn' blk' d v :=
  h.mono c.rd c.known c.back
theorem Chg.relC (c : Chg w w' kn kn' blk blk') {d : DV} {v : Value} (h : RelC (rdOf w base S0 blk) d v) : RelC (rdOf w' base S0 blk') d v :=
  h.mono c.rd (fun _ h => h) fun _ _ h => h.elim
theorem MapIs.mono {rd rd' : Rd} {ks : KS} {has : List Int → Bool} {col : List Int → DV} {es : List MapEntry} (h : MapIs rd ks has col es) (hm : ∀ {d v}, RelC rd d v → RelC rd' d v) : MapIs rd' ks has col es :=
  ⟨h.hk, h.hh, h.hd, h.hs, fun e l a b => hm (h.h e l a b)⟩
theorem GEnt.mono {rd rd' : Rd} {bs bs' : List Nat} {n : Nat} {c : Nat → DV} {v : Value} (h : GEnt w rd bs n c v) (hm : ∀ {d v}, RelC rd d v → RelC rd' d v) (hk : ∀ g, g ∈ bs → v = v → w'.heap[g]? = w.heap[g]?) (hb : ∀ g, g ∈ bs → g ∈ bs') : GEnt w' rd' bs' n c v := by
  rcases h with h | ⟨g, C, cv, T, h1, h2, h3, h4, h5, h6⟩
  · exact .inl h
  · exact .inr ⟨g, C, cv, T, h1, hb g h2, by rw [hk g h2 rfl]; exact h3, h4, h5, fun i hi => let ⟨u, a, b, c⟩ := h6 i hi; ⟨u, a, b, hm c⟩⟩
theorem GMapIs.mono {rd rd' : Rd} {bs : List Nat} {ks : KS} {len : List Int → Nat} {col : List Int → Nat → DV} {opn : Option (List Int)} {es : List MapEntry} (h : GMapIs w rd bs ks len col opn es) (hm : ∀ {d v}, RelC rd d v → RelC rd' d v) (hk : ∀ g, g ∈ bs → w'.heap[g]? = w.heap[g]?) : GMapIs w' rd' bs ks len col opn es :=
  ⟨h.hk, h.hd, h.miss, fun e l a b c => (h.ent e l a b c).mono hm (fun g hg _ => hk g hg) fun _ hg => hg, h.sep⟩
theorem Chg.obj (c : Chg w w' kn kn' blk blk') (hkn : ∀ t v, blk t = some (.is v) → kn t) {l : Option Loc} {o : AObj} (h : ObjRel w (rdOf w base S0 blk) kn blk l o)
    (hk : ∀ l', l = some l' → ∀ g, l'.has g → w'.heap[g]? = w.heap[g]?) : ObjRel w' (rdOf w' base S0 blk') kn' blk' l o := by
  cases o with
  | box cs =>
    obtain ⟨g, C, cv, T, hl, hh, hs, hr, ho⟩ := h
    exact ⟨g, C, cv, T, hl, by rw [hk _ hl g rfl]; exact hh, hs, fun j d u a b => c.rel (hr j d u a b), ho⟩
  | row n cols =>
    rcases h with ⟨hl, hn⟩ | ⟨g, C, cv, T, hl, hh, hs, hn, hr⟩
    · exact .inl ⟨hl, hn⟩
    · exact .inr ⟨g, C, cv, T, hl, by rw [hk _ hl g rfl]; exact hh, hs, hn, fun i j f a b => let ⟨u, e, o, r⟩ := hr i j f a b; ⟨u, e, o, c.relC r⟩⟩
  | srow n cols =>
    rcases h with ⟨hl, hn⟩ | ⟨g, o, C, cv, T, hl, hh, hs, hn, hr⟩
    · exact .inl ⟨hl, hn⟩
    · have hkg : w'.heap[g]? = w.heap[g]? := by rcases hl with hl | ⟨hl, _⟩ <;> exact hk _ hl g rfl
      exact .inr ⟨g, o, C, cv, T, hl, by rw [hkg]; exact hh, hs, hn, fun i j f a b => let ⟨u, e, o, r⟩ := hr i j f a b; ⟨u, e, o, c.relC r⟩⟩
  | map ks has col hot =>
    obtain ⟨g, es, clock, hl, hh, hm, hst, hhot⟩ := h
    exact ⟨g, es, clock, hl, by rw [hk _ hl g (.inl rfl)]; exact hh, hm.mono c.relC, hst, fun t k e => let ⟨e0, a, b, d⟩ := hhot t k e; ⟨e0, a, b, c.fwd _ _ (hkn _ _ d) d⟩⟩
  | gmap ks len col hot opn =>
    obtain ⟨g, bs, es, clock, hl, hh, hm, hbs, hhot⟩ := h
    exact ⟨g, bs, es, clock, hl, by rw [hk _ hl g (.inl rfl)]; exact hh, hm.mono c.relC (fun k hk' => hk _ hl k (.inr hk')), fun b hb => by rw [hk _ hl b (.inr hb)]; exact hbs b hb, fun t k e => let ⟨v, a, b⟩ := hhot t k e; ⟨v, c.fwd _ _ (hkn _ _ a) a, b⟩⟩
  | grid n s len col opn =>
    obtain ⟨g, C, bs, cv, T, hl, hh, hs, hn, hG, hbs⟩ := h
    exact ⟨g, C, bs, cv, T, hl, by rw [hk _ hl g (.inl rfl)]; exact hh, hs, hn, hG.mono c.relC (fun k hk' => hk _ hl k (.inr hk')), fun b hb => by rw [hk _ hl b (.inr hb)]; exact hbs b hb⟩
  | tok => exact h
  | exact g o =>
    obtain ⟨hl, hh, ho⟩ := h
    exact ⟨hl, by rw [hk _ hl g (.inl rfl)]; exact hh, ho⟩
theorem R.known (r : R base w0 S0 σ kn blk a w) {id : Nat} {l : Loc} (h : blk id = some l) : kn id := let ⟨o, ho⟩ := r.live _ _ h; (r.objs id o ho).1
theorem R.not_other (r : R base w0 S0 σ kn blk a w) {id g : Nat} {l : Loc} (hl : blk id = some l) (hg : l.has g) : (∃ cv T, w.heap[g]? = some (.cells cv T (0, 0))) ∨ ∃ bs o, l = .map g bs ∧ w.heap[g]? = some o ∧ isMapO o := by
  obtain ⟨o, ho⟩ := r.live _ _ hl
  have h := (r.objs _ _ ho).2
  rw [hl] at h
  cases o with
  | box cs => obtain ⟨g', C', cv, T, e, h2, _⟩ := h; cases e; cases hg; exact .inl ⟨_, _, h2⟩
  | row n cols =>
    rcases h with ⟨e, _⟩ | ⟨g', C', cv, T, e, h2, _⟩
    · cases e; exact hg.elim
    · cases e; cases hg; exact .inl ⟨_, _, h2⟩
  | srow n cols =>
    rcases h with ⟨e, _⟩ | ⟨g', o', C', cv, T, e, h2, _⟩
    · cases e; exact hg.elim
    · rcases e with e | ⟨e, _⟩ <;> (cases e; cases hg; exact .inl ⟨_, _, h2⟩)
  | map ks has col hot =>
    obtain ⟨g', es, clock, e, h2, _⟩ := h
    cases e
    rcases hg with rfl | hg
    · exact .inr ⟨_, _, rfl, h2, .inl ⟨_, _, rfl⟩⟩
    · cases hg
  | gmap ks len col hot opn =>
    obtain ⟨g', bs, es, clock, e, h2, _, h3, _⟩ := h
    cases e
    rcases hg with rfl | hg
    · exact .inr ⟨_, _, rfl, h2, .inl ⟨_, _, rfl⟩⟩
    · exact .inl (h3 _ hg)
  | grid n s len col opn =>
    obtain ⟨g', C, bs, cv, T, e, h2, _, _, _, h3⟩ := h
    cases e
    rcases hg with rfl | hg
    · exact .inl ⟨_, _, h2⟩
    · exact .inl (h3 _ hg).2
  | tok => obtain ⟨v, e⟩ := h; cases e; exact hg.elim
  | exact g' o =>
    obtain ⟨e, h2, h3⟩ := h
    cases e
    rcases hg with rfl | hg
    · exact .inr ⟨_, _, rfl, h2, h3⟩
    · cases hg
theorem R.not_mark (r : R base w0 S0 σ kn blk a w) {id g : Nat} {l : Loc} {ds : Option (List Deferred)} (hl : blk id = some l) (hg : l.has g) : w.heap[g]? ≠ some (.deferred ds) := by
  intro hh
  rcases r.not_other hl hg with ⟨_, _, h⟩ | ⟨_, _, _, h, h2⟩
  · rw [hh] at h; cases h
  · rw [hh] at h; cases h
    rcases h2 with ⟨_, _, h2⟩ | ⟨_, _, _, _, h2⟩ <;> cases h2
theorem R.fwdk (r : R base w0 S0 σ kn blk a w) : ∀ t v, blk t = some (.is v) → kn t := fun _ _ h => r.known h
theorem R.step (r : R base w0 S0 σ kn blk a w) {σ' : St} (X T : Nat → Prop) (hsz : w.heap.size ≤ w'.heap.size) (hos : w'.os = w.os) (htp : w'.tape = w.tape) (hout : w'.output = w.output)
    (hk : ∀ k, k < w.heap.size → ¬ X k → w'.heap[k]? = w.heap[k]?) (hX : ∀ k, X k → ∃ id l, T id ∧ blk id = some l ∧ l.has k) (hkn : ∀ i, kn i → kn' i) (hT : ∀ i, ¬ T i → blk' i = blk i)
    (htok : ∀ i v, T i → kn i → blk i = some (.is v) → blk' i = some (.is v)) (hnew : ∀ i l g, T i → blk' i = some l → l.has g → (∃ i0 l0, T i0 ∧ blk i0 = some l0 ∧ l0.has g) ∨ (w.heap.size ≤ g ∧ g < w'.heap.size))
    (hback : ∀ i l, T i → kn i → blk' i = some l → ∃ l0, blk i = some l0 ∧ l0.core = l.core)
    (hnt : σ'.nt = σ.nt) (hrn : σ'.rn = σ.rn) (hlo : σ'.lo = σ.lo) (hget : ∀ t, σ'.get t = σ.get t) (hN : ∀ i, ¬ T i → σ'.obj i = σ.obj i)
    (hobj : Chg w w' kn kn' blk blk' → (∀ {d v}, Rel (rdOf w base S0 blk) kn blk d v → Rel (rdOf w' base S0 blk') kn' blk' d v) → (∀ {d v}, RelC (rdOf w base S0 blk) d v → RelC (rdOf w' base S0 blk') d v) → ∀ i o, T i → σ'.obj i = some o → kn' i ∧ ObjRel w' (rdOf w' base S0 blk') kn' blk' (blk' i) o)
    (hlive : ∀ i l, T i → blk' i = some l → ∃ o, σ'.obj i = some o) (hinj : ∀ i i' l l' g, T i → T i' → blk' i = some l → blk' i' = some l' → l.has g → l'.has g → i = i')
    (hlow : ∀ B, S0.wb = some B → ∀ i g bs, T i → blk' i = some (.map g bs) → g < B) (hdr : DrOK w w' := by exact fun _ => Nat.le_refl _) : R base w0 S0 σ' kn' blk' a w' := by
  have hXb : ∀ k, X k → base ≤ k ∨ S0.X k := fun k h => by obtain ⟨id, l, _, hl, hg⟩ := hX k h; exact (r.ge id l k hl hg).1
  have hb : BelowX base S0.X w w' := ⟨hos, htp, hout, hsz, fun k hk' hx => hk k (Nat.lt_of_lt_of_le hk' r.hbase) (fun h => by rcases hXb k h with h | h; omega; exact hx h), hdr⟩
  have c : Chg w w' kn kn' blk blk' := by
    refine ⟨hsz, fun k hk1 hm => hk k hk1 fun h => by obtain ⟨id, l, _, hl, hg⟩ := hX k h; exact hm id l hl hg, fun id l g e hg => ?_, hkn, fun id l hi e => ?_, fun id v hi e => ?_⟩
    · by_cases h : T id
      · rcases hnew id l g h e hg with ⟨i0, l0, _, h1, h2⟩ | h1
        · exact .inl ⟨i0, l0, h1, h2⟩
        · exact .inr h1.1
      · exact .inl ⟨id, l, by rw [← hT id h]; exact e, hg⟩
    · by_cases h : T id
      · exact hback id l h hi e
      · exact ⟨l, by rw [← hT id h]; exact e, rfl⟩
    · by_cases h : T id
      · exact htok id v h hi e
      · rw [hT id h]; exact e
  have nX : ∀ {i l k}, ¬ T i → blk i = some l → l.has k → ¬ X k := fun {i l k} hi hl hg h => by
    obtain ⟨id, l', hid, hl', hg'⟩ := hX k h
    exact hi (r.inj _ _ _ _ _ hl' hl hg' hg ▸ hid)
  refine ⟨r.below.trans hb, r.xs, Nat.le_trans r.hbase hsz, ⟨r.dfr.1, fun d hd => let ⟨D, e, hD, hh⟩ := r.dfr.2 d hd; ⟨D, e, hD, by
      rw [hk D (heap_lt hh) (fun h => by obtain ⟨id, l, _, hl, hg⟩ := hX D h; exact r.not_mark hl hg hh)]; exact hh⟩⟩,
    ⟨Nat.le_trans r.kpo.1 hsz, fun B hB => (r.kpo.2.1 B hB).trans ⟨hsz, fun k o hBk ho hc => ?_⟩, fun k o ho hc hm => by
      have h1 := r.kpo.2.2 k o ho hc hm
      rw [hk k (heap_lt h1) (fun h => by
        obtain ⟨id, l, _, hl, hg⟩ := hX k h
        rcases r.not_other hl hg with ⟨_, _, h'⟩ | ⟨bs, o', _, h', h2⟩
        · rw [h1] at h'; cases h'; cases hc
        · rw [h1] at h'; cases h'; exact hm h2)]; exact h1⟩, fun h => by rw [hrn]; exact r.rnd h, fun B hB i g bs e => ?_,
    fun d v h => c.rel (r.shp d v h), by rw [hnt]; exact r.size, fun t => by rw [hget]; exact c.rel (r.tmps t), fun i o h => ?_, fun i i' l l' g h1 h2 h3 h4 => ?_, fun i l g e hg => ?_, fun i l e => ?_, fun t ht => r.pin t (by rw [← hlo]; exact ht)⟩
  · rw [hk k (heap_lt ho) (fun h => by
      obtain ⟨id, l, _, hl, hg⟩ := hX k h
      rcases r.not_other hl hg with ⟨_, _, h'⟩ | ⟨bs, _, rfl, _⟩
      · rw [ho] at h'; cases h'; cases hc
      · have := r.mlow B hB id k bs hl; omega)]; exact ho
  · by_cases h : T i
    · exact hlow B hB i g bs h e
    · exact r.mlow B hB i g bs (by rw [← hT i h]; exact e)
  · by_cases hi : T i
    · exact hobj c c.rel c.relC i o hi h
    · rw [hN i hi] at h
      obtain ⟨k1, k2⟩ := r.objs i o h
      refine ⟨hkn i k1, ?_⟩
      rw [hT i hi]
      refine c.obj r.fwdk k2 fun l' hl' g hg => hk g (r.ge _ _ _ hl' hg).2 (nX hi hl' hg)
  · by_cases hi : T i <;> by_cases hi' : T i'
    · exact hinj i i' l l' g hi hi' h1 h2 h3 h4
    · rw [hT i' hi'] at h2
      rcases hnew i l g hi h1 h3 with ⟨i0, l0, ht, hl0, hg0⟩ | hge
      · exact absurd (r.inj _ _ _ _ _ hl0 h2 hg0 h4 ▸ ht) hi'
      · have := (r.ge _ _ _ h2 h4).2; omega
    · rw [hT i hi] at h1
      rcases hnew i' l' g hi' h2 h4 with ⟨i0, l0, ht, hl0, hg0⟩ | hge
      · exact absurd (r.inj _ _ _ _ _ hl0 h1 hg0 h3 ▸ ht) hi
      · have := (r.ge _ _ _ h1 h3).2; omega
    · rw [hT i hi] at h1
      rw [hT i' hi'] at h2
      exact r.inj _ _ _ _ _ h1 h2 h3 h4
  · by_cases hi : T i
    · rcases hnew i l g hi e hg with ⟨i0, l0, _, hl0, hg0⟩ | hge
      · have := r.ge _ _ _ hl0 hg0; exact ⟨this.1, by omega⟩
      · exact ⟨.inl (by have := r.hbase; omega), hge.2⟩
    · rw [hT i hi] at e
      have := r.ge _ _ _ e hg
      exact ⟨this.1, by omega⟩
  · by_cases hi : T i
    · exact hlive i l hi e
    · rw [hT i hi] at e
      rw [hN i hi]
      exact r.live i l e
theorem R.world (r : R base w0 S0 σ kn blk a w) (hb : Below w.heap.size w w') : R base w0 S0 σ kn blk a w' :=
  r.step (fun _ => False) (fun _ => False) hb.size hb.os hb.tape hb.output (fun k hk _ => hb.block k hk) (fun _ h => h.elim) (fun _ h => h) (fun _ _ => rfl) (fun _ _ h => h.elim) (fun _ _ _ h => h.elim) (fun _ _ h => h.elim) rfl rfl rfl (fun _ => rfl) (fun _ _ => rfl)
    (fun _ _ _ _ _ h => h.elim) (fun _ _ h => h.elim) (fun _ _ _ _ _ h => h.elim) (fun _ _ _ _ _ h => h.elim) hb.drawn
theorem R.drew (r : R base w0 S0 σ kn blk a w) : R base w0 S0 σ kn blk a { w with drawn := w.drawn + 1 } :=
  r.world ⟨rfl, rfl, rfl, Nat.le_refl _, fun _ _ => rfl, fun _ => Nat.le_succ _⟩
theorem Act.getD_put (a : Act) (t : Nat) (v : Value) (i : Nat) (ht : t < a.tmps.size) : (a.put (some t) v).tmps.getD i undef = if t = i then v else a.tmps.getD i undef := by
  simp only [Act.put, Array.getD_eq_getD_getElem?, Array.getElem?_setIfInBounds]
  by_cases h : t = i
  · subst h; simp [ht]
  · simp [h]
theorem R.put (r : R base w0 S0 σ kn blk a w) {t : Nat} {d : DV} {v : Value} (ht : t < σ.nt) (hlo : σ.lo ≤ t) (h : Rel (rdOf w base S0 blk) kn blk d v) :
    R base w0 S0 (σ.put t d) kn blk (a.put (some t) v) w := by
  refine ⟨r.below, r.xs, r.hbase, r.dfr, r.kpo, r.rnd, r.mlow, r.shp, ?_, fun i => ?_, r.objs, r.inj, r.ge, r.live, fun i hi => ?_⟩
  · have := r.size; simp only [Act.put, Array.size_setIfInBounds]; exact this
  · rw [Act.getD_put a t v i (by rw [r.size]; exact ht), St.get_put]
    by_cases e : t = i
    · simpa [e] using h
    · simpa [e] using r.tmps i
  · have hi : i < σ.lo := hi
    rw [Act.getD_put a t v i (by rw [r.size]; exact ht), if_neg (by omega)]
    exact r.pin i hi
theorem R.fresh (r : R base w0 S0 σ kn blk a w) {id : Nat} (hid : ¬ kn id) : blk id = none := by
  cases hb : blk id with
  | none => rfl
  | some l => exact absurd (r.known hb) hid
theorem R.newAt (r : R base w0 S0 σ kn blk a w) {id : Nat} {o : AObj} {l : Loc} (hid : ¬ kn id) (hb : Below w.heap.size w w') (hl : ∀ g, l.has g → w.heap.size ≤ g ∧ g < w'.heap.size) (hm : ∀ B, S0.wb = some B → ∀ g bs, l ≠ .map g bs)
    (ho : (∀ {d v}, Rel (rdOf w base S0 blk) kn blk d v → Rel (rdOf w' base S0 fun i => if i = id then some l else blk i) (fun i => kn i ∨ i = id) (fun i => if i = id then some l else blk i) d v) →
      (∀ {d v}, RelC (rdOf w base S0 blk) d v → RelC (rdOf w' base S0 fun i => if i = id then some l else blk i) d v) → ObjRel w' (rdOf w' base S0 fun i => if i = id then some l else blk i) (fun i => kn i ∨ i = id) (fun i => if i = id then some l else blk i) (some l) o) :
    R base w0 S0 (σ.setObj id (some o)) (fun i => kn i ∨ i = id) (fun i => if i = id then some l else blk i) a w' := by
  have hnone := r.fresh hid
  refine r.step (fun _ => False) (fun i => i = id) hb.size hb.os hb.tape hb.output (fun k hk _ => hb.block k hk) (fun _ h => h.elim) (fun _ h => .inl h) (fun i h => if_neg h) (fun i v h hi => absurd (h ▸ hi) hid) (fun i l' g h e hg => ?_) (fun i l' h hi => absurd (h ▸ hi) hid) rfl rfl rfl (fun _ => rfl) (fun i h => by rw [St.obj_setObj, if_neg (fun e => h e.symm)])
    (fun _ m mC i o' h e => ?_) (fun i l' h e => ⟨o, by rw [St.obj_setObj, if_pos h.symm]⟩) (fun i i' _ _ _ h h' _ _ _ _ => by rw [h, h']) (fun B hB i g bs h e => ?_) hb.drawn
  · simp only [if_pos h, Option.some.injEq] at e
    subst e; exact .inr (hl g hg)
  · rw [St.obj_setObj, if_pos h.symm, Option.some.injEq] at e
    subst e
    refine ⟨.inr h, ?_⟩
    simp only [if_pos h]
    exact ho m mC
  · simp only [if_pos h, Option.some.injEq] at e
    exact absurd e (hm B hB g bs)
theorem R.new (r : R base w0 S0 σ kn blk a w) {id : Nat} {o : AObj} {cv : Array Value} {T : TypeId} {C : Nat} (hid : ¬ kn id)
    (ho : (∃ cs, o = .box cs) ∨ ∃ n cols, o = .row n cols) (hor : ObjRel (w.alloc (.cells cv T)) (rdOf w base S0 blk) kn blk (some (.at_ w.heap.size C)) o) :
    R base w0 S0 (σ.setObj id (some o)) (fun i => kn i ∨ i = id) (fun i => if i = id then some (.at_ w.heap.size C) else blk i) a (w.alloc (.cells cv T)) := by
  refine r.newAt hid ((Below.refl _ _).alloc (Nat.le_refl _) _) (fun g hg => by cases hg; simp) (fun _ _ _ _ h => by cases h) fun m mC => ?_
  rcases ho with ⟨cs, rfl⟩ | ⟨n, cols, rfl⟩
  · obtain ⟨g, C', cv', T', hl, hh, hs, hr, h1⟩ := hor
    exact ⟨g, C', cv', T', hl, hh, hs, fun j d u x y => m (hr j d u x y), h1⟩
  · rcases hor with ⟨hl, hn⟩ | ⟨g, C', cv', T', hl, hh, hs, hn, hr⟩
    · exact .inl ⟨hl, hn⟩
    · exact .inr ⟨g, C', cv', T', hl, hh, hs, hn, fun i j f x y => let ⟨u, e, o, q⟩ := hr i j f x y; ⟨u, e, o, mC q⟩⟩
theorem R.turnL (r : R base w0 S0 σ kn blk a w) {id : Nat} {l : Loc} {o : AObj} (hl : blk id = some l) (hsz : w'.heap.size = w.heap.size)
    (hos : w'.os = w.os) (htp : w'.tape = w.tape) (hout : w'.output = w.output) (hk : ∀ k, ¬ l.has k → w'.heap[k]? = w.heap[k]?)
    (ho : (∀ {d v}, Rel (rdOf w base S0 blk) kn blk d v → Rel (rdOf w' base S0 blk) kn blk d v) → (∀ {d v}, RelC (rdOf w base S0 blk) d v → RelC (rdOf w' base S0 blk) d v) → ObjRel w' (rdOf w' base S0 blk) kn blk (some l) o) (hdr : DrOK w w' := by exact fun _ => Nat.le_refl _) :
    R base w0 S0 (σ.setObj id (some o)) kn blk a w' := by
  refine r.step (fun k => l.has k) (fun i => i = id) (by omega) hos htp hout (fun k _ h => hk k h) (fun k h => ⟨id, l, rfl, hl, h⟩) (fun _ h => h) (fun _ _ => rfl) (fun _ _ _ _ h => h) (fun i l' g h e hg => .inl ⟨i, l', h, e, hg⟩) (fun i l' h hi e => ⟨l', e, rfl⟩) rfl rfl rfl (fun _ => rfl)
    (fun i h => by rw [St.obj_setObj, if_neg (fun e => h e.symm)]) (fun _ m mC i o' h e => ?_) (fun i l' h e => ⟨o, by rw [St.obj_setObj, if_pos h.symm]⟩) (fun i i' _ _ _ h h' _ _ _ _ => by rw [h, h']) (fun B hB i g bs h e => r.mlow B hB i g bs e) hdr
  rw [St.obj_setObj, if_pos h.symm, Option.some.injEq] at e
  subst e h
  exact ⟨r.known hl, by rw [hl]; exact ho m mC⟩
theorem R.turn (r : R base w0 S0 σ kn blk a w) {id g C : Nat} {o : AObj} (hl : blk id = some (.at_ g C)) (hsz : w'.heap.size = w.heap.size)
    (hos : w'.os = w.os) (htp : w'.tape = w.tape) (hout : w'.output = w.output) (hk : ∀ k, k ≠ g → w'.heap[k]? = w.heap[k]?)
    (ho : (∀ {d v}, Rel (rdOf w base S0 blk) kn blk d v → Rel (rdOf w' base S0 blk) kn blk d v) → (∀ {d v}, RelC (rdOf w base S0 blk) d v → RelC (rdOf w' base S0 blk) d v) → ObjRel w' (rdOf w' base S0 blk) kn blk (some (.at_ g C)) o) (hdr : DrOK w w' := by exact fun _ => Nat.le_refl _) :
    R base w0 S0 (σ.setObj id (some o)) kn blk a w' := r.turnL hl hsz hos htp hout (fun k h => hk k h) ho hdr
theorem R.grown (r : R base w0 S0 σ kn blk a w) {row : Option Nat} (hg : w.grownBy w' row)
    (hr : ∀ k, row = some k → base ≤ k ∧ ((∃ B, S0.wb = some B ∧ B ≤ k) ∨ ¬ isMapAt w k) ∧ S0.wr.heap.size ≤ k ∧ (∃ o : Obj, w.heap[k]? = some o ∧ o.isCells = false) ∧ ∀ d ∈ a.defers, d ≠ { target := .collected k, args := #[] }) (hdr : DrOK w w' := by exact fun _ => Nat.le_refl _) : R base w0 S0 σ kn blk a w' := by
  have hrow : ∀ k, row = some k → ∃ o : Obj, w.heap[k]? = some o ∧ o.isCells = false := fun k e => (hr k e).2.2.2.1
  have same : ∀ {g : Nat} {o : Obj}, w.heap[g]? = some o → (o.isCells = true ∨ (isMapAt w g ∧ ∀ B, S0.wb = some B → g < B)) → w'.heap[g]? = w.heap[g]? := fun {g o} hh hc => by
    refine hg.block g (heap_lt hh) (fun e => ?_)
    obtain ⟨_, hB, _, ⟨o', h1, h2⟩, _⟩ := hr g e.symm
    rcases hc with hc | ⟨hm, hc⟩
    · rw [hh] at h1; cases h1; rw [hc] at h2; cases h2
    · rcases hB with ⟨B, hB, hBk⟩ | hB
      · have := hc B hB; omega
      · exact hB hm
  have own : ∀ {id l g}, blk id = some l → l.has g → w'.heap[g]? = w.heap[g]? := fun {id l g} hl hgl => by
    rcases r.not_other hl hgl with ⟨cv, T, h⟩ | ⟨bs, o, rfl, h, h2⟩
    · exact same h (.inl rfl)
    · exact same h (.inr ⟨⟨o, h, h2⟩, fun B hB => r.mlow B hB id g bs hl⟩)
  have rdm : ∀ a u, rdOf w base S0 blk a u → rdOf w' base S0 blk a u := fun a u ⟨h1, h2, h3, h4⟩ => by
    have hk : w'.heap[a.block]? = w.heap[a.block]? := by
      rcases h1 with h1 | ⟨es, c, h1, _⟩ | ⟨cs, T, fr, h1, _⟩
      · obtain ⟨o, ho, hc⟩ := cells_of_cell h1.1
        exact same ho (.inl hc)
      · exact same h1 (.inr ⟨.mk h1, fun B hB => h4 B hB (.mk h1)⟩)
      · exact same h1 (.inl rfl)
    exact ⟨rdw_of hk h1, h2, h3, fun B hB hm => h4 B hB (isMapAt_of hk hm)⟩
  have rel : ∀ {d v}, Rel (rdOf w base S0 blk) kn blk d v → Rel (rdOf w' base S0 blk) kn blk d v := fun h => h.mono rdm (fun _ h => h) fun _ _ _ h => ⟨_, h, rfl⟩
  have relc : ∀ {d v}, RelC (rdOf w base S0 blk) d v → RelC (rdOf w' base S0 blk) d v := fun h => h.mono rdm (fun _ h => h) fun _ _ h => h.elim
  refine ⟨r.below.trans ⟨hg.os, hg.tape, hg.output, hg.size, fun k hk _ => hg.block k (by have := r.hbase; omega) (fun e => by have := (hr k e.symm).1; omega), hdr⟩, r.xs, Nat.le_trans r.hbase hg.size, ⟨r.dfr.1, fun d hd => let ⟨D, e, hD, hh⟩ := r.dfr.2 d hd; ⟨D, e, hD, by
      rw [hg.block D (heap_lt hh) (fun e2 => (hr D e2.symm).2.2.2.2 d hd e)]; exact hh⟩⟩, ⟨Nat.le_trans r.kpo.1 hg.size, fun B hB => ⟨Nat.le_trans r.kpo.1 hg.size, fun k o hBk hk ho => by
      have h1 := (r.kpo.2.1 B hB).same k o hBk hk ho
      rw [hg.block k (heap_lt h1) (fun e2 => by have := (hr k e2.symm).2.2.1; have := heap_lt hk; omega)]; exact h1⟩, fun k o hk ho hm => by
      have h1 := r.kpo.2.2 k o hk ho hm
      rw [hg.block k (heap_lt h1) (fun e2 => by have := (hr k e2.symm).2.2.1; have := heap_lt hk; omega)]; exact h1⟩, r.rnd, r.mlow,
    fun d v h => rel (r.shp d v h), r.size, fun t => rel (r.tmps t), fun id o h => ⟨(r.objs id o h).1, ?_⟩, r.inj, fun id l g e hgl => ⟨(r.ge id l g e hgl).1, Nat.lt_of_lt_of_le (r.ge id l g e hgl).2 hg.size⟩, r.live, r.pin⟩
  have ho := (r.objs id o h).2
  generalize hl : blk id = lo at ho
  cases o with
  | box cs =>
    obtain ⟨g, C, cv, T, rfl, hh, hs, hr, h1⟩ := ho
    exact ⟨g, C, cv, T, rfl, by rw [own hl rfl]; exact hh, hs, fun j d u a b => rel (hr j d u a b), h1⟩
  | row n cols =>
    rcases ho with ⟨rfl, hn⟩ | ⟨g, C, cv, T, rfl, hh, hs, hn, hr⟩
    · exact .inl ⟨rfl, hn⟩
    · exact .inr ⟨g, C, cv, T, rfl, by rw [own hl rfl]; exact hh, hs, hn, fun i j f a b => let ⟨u, e, o, q⟩ := hr i j f a b; ⟨u, e, o, relc q⟩⟩
  | srow n cols =>
    rcases ho with ⟨rfl, hn⟩ | ⟨g, o, C, cv, T, hlo, hh, hs, hn, hr⟩
    · exact .inl ⟨rfl, hn⟩
    · have hkg : w'.heap[g]? = w.heap[g]? := by rcases hlo with rfl | ⟨rfl, _⟩ <;> exact own hl rfl
      exact .inr ⟨g, o, C, cv, T, hlo, by rw [hkg]; exact hh, hs, hn, fun i j f a b => let ⟨u, e, o, q⟩ := hr i j f a b; ⟨u, e, o, relc q⟩⟩
  | map ks has col hot =>
    obtain ⟨g, es, clock, rfl, hh, hm, hst, hhot⟩ := ho
    exact ⟨g, es, clock, rfl, by rw [own hl (.inl rfl)]; exact hh, hm.mono relc, hst, hhot⟩
  | gmap ks len col hot opn =>
    obtain ⟨g, bs, es, clock, rfl, hh, hm, hbs, hhot⟩ := ho
    exact ⟨g, bs, es, clock, rfl, by rw [own hl (.inl rfl)]; exact hh, hm.mono relc (fun k hk => own hl (.inr hk)), fun b hb => by rw [own hl (.inr hb)]; exact hbs b hb, hhot⟩
  | grid n s len col opn =>
    obtain ⟨g, C, bs, cv, T, rfl, hh, hs, hn, hG, hbs⟩ := ho
    exact ⟨g, C, bs, cv, T, rfl, by rw [own hl (.inl rfl)]; exact hh, hs, hn, hG.mono relc (fun k hk => own hl (.inr hk)), fun b hb => by rw [own hl (.inr hb)]; exact hbs b hb⟩
  | tok => exact ho
  | exact g o =>
    obtain ⟨rfl, hh, ho⟩ := ho
    exact ⟨rfl, by rw [own hl (.inl rfl)]; exact hh, ho⟩
end
end Go.Abs
end
