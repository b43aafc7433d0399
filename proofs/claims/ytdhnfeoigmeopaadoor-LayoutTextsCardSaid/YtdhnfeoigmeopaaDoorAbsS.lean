/- A state said otherwise: fewer names, other names, what follows from what. A state said otherwise: the theorem. -/
import Derived.Test.YtdhnfeoigmeopaaDoorAbsQ
section
namespace Go.Abs
open Go.RowKit
def leV : Value → Value → List Prop
  | .int k x, .int k' y => if k = k' then [x = y] else [False]
  | .bool x, .bool y => [x = y]
  | .string x, .string y => [x = y]
  | v, u => [v = u]
def leVL : List Value → List Value → List Prop
  | [], [] => []
  | v :: r, u :: q => leV v u ++ leVL r q
  | _, _ => [False]
def le0 : DV → DV → List Prop
  | _, .any => []
  | .val (.agg vs), .val (.agg us) => leVL vs.toList us.toList
  | .val (.tuple vs), .val (.tuple us) => leVL vs.toList us.toList
  | .val v, .val u => leV v u
  | _, _ => [False]
def leC (f : DV → DV → List Prop) : List (Nat → DV) → List (Nat → DV) → Nat → List Prop
  | [], [], _ => []
  | c :: r, d :: q, n => (∀ i, i < n → AllT (f (c i) (d i))) :: leC f r q n
  | _, _, _ => [False]
def leL (f : DV → DV → List Prop) : List DV → List DV → List Prop
  | [], [] => []
  | c :: r, d :: q => f c d ++ leL f r q
  | _, _ => [False]
def leS (f : DV → DV → List Prop) : DV → DV → List Prop
  | .lst m cols, .lst m' cols' => (m = m') :: leC f cols cols' m'
  | .agg cs, .agg ds => leL f cs ds
  | .tup cs, .tup ds => leL f cs ds
  | .val (.tuple vs), .tup ds => leL f (vs.toList.map .val) ds
  | .tup cs, .val (.tuple us) => leL f cs (us.toList.map .val)
  | .val (.agg vs), .agg ds => leL f (vs.toList.map .val) ds
  | .agg cs, .val (.agg us) => leL f cs (us.toList.map .val)
  | .clo g cs, .clo g' ds => bif Nat.beq g g' then leL f cs ds else [False]
  | .bnd g cs, .bnd g' ds => bif Nat.beq g g' then leL f cs ds else [False]
  | .cptr cs, .cptr ds => leL f cs ds
  | .val (.slice none 0 0), .lst n _ => [n = 0]
  | .mp ks has col, .mp ks' has' col' => bif ksEq ks ks' then [∀ l, has l = has' l, ∀ l, has' l = true → AllT (f (col l) (col' l))] else [False]
  | .val (.map none), .mp _ has _ => [∀ l, has l = false]
  | d, d' => le0 d d'
def leN : Nat → DV → DV → List Prop
  | 0 => le0
  | n + 1 => leS (leN n)
theorem leV_sound {v u : Value} (h : AllP (leV v u)) : v = u := by
  unfold leV at h
  split at h
  · split at h
    · rename_i hk; subst hk; rw [h.one]
    · exact h.one.elim
  · rw [h.one]
  · rw [h.one]
  · exact h.one
theorem leVL_sound : ∀ {l m : List Value}, AllP (leVL l m) → l = m
  | [], [], _ => rfl
  | v :: r, u :: q, h => by
    obtain ⟨h1, h2⟩ := AllP.app h
    rw [leV_sound h1, leVL_sound h2]
  | [], _ :: _, h => h.one.elim
  | _ :: _, [], h => h.one.elim
section
variable {rd : Rd} {kn kn' : Nat → Prop} {blk blk' : Nat → Option Loc}
theorem le0_sound {d d' : DV} {v : Value} (h : AllP (le0 d d')) (hv : Rel rd kn blk d v) : Rel rd kn' blk' d' v := by
  unfold le0 at h
  split at h
  · exact .any v
  · cases hv; rw [Array.ext' (leVL_sound h)]; exact .val _
  · cases hv; rw [Array.ext' (leVL_sound h)]; exact .val _
  · cases hv; rw [leV_sound h]; exact .val _
  · exact h.one.elim
theorem leC_sound {f : DV → DV → List Prop} : ∀ {c d : List (Nat → DV)} {n : Nat}, AllP (leC f c d n) → c.length = d.length ∧ ∀ (j : Nat) (x y : Nat → DV), c[j]? = some x → d[j]? = some y → ∀ i, i < n → AllP (f (x i) (y i))
  | [], [], _, _ => ⟨rfl, by simp⟩
  | x :: c, y :: d, n, h => by
    obtain ⟨h1, h2⟩ := leC_sound h.tl
    refine ⟨by simp [h1], fun j x' y' hx hy => ?_⟩
    cases j with
    | zero =>
      simp only [List.getElem?_cons_zero, Option.some.injEq] at hx hy
      subst hx hy
      exact fun i hi => (h.hd i hi).all
    | succ j => exact h2 j x' y' (by simpa using hx) (by simpa using hy)
  | [], _ :: _, _, h => h.one.elim
  | _ :: _, [], _, h => h.one.elim
theorem leL_sound {f : DV → DV → List Prop} : ∀ {c d : List DV}, AllP (leL f c d) → c.length = d.length ∧ ∀ (j : Nat) (x y : DV), c[j]? = some x → d[j]? = some y → AllP (f x y)
  | [], [], _ => ⟨rfl, by simp⟩
  | x :: c, y :: d, h => by
    obtain ⟨k1, k2⟩ := AllP.app h
    obtain ⟨h1, h2⟩ := leL_sound k2
    refine ⟨by simp [h1], fun j x' y' hx hy => ?_⟩
    cases j with
    | zero =>
      simp only [List.getElem?_cons_zero, Option.some.injEq] at hx hy
      subst hx hy
      exact k1
    | succ j => exact h2 j x' y' (by simpa using hx) (by simpa using hy)
  | [], _ :: _, h => h.one.elim
  | _ :: _, [], h => h.one.elim
theorem leL_cells {rd' : Rd} {f : DV → DV → List Prop} {cs ds : List DV} {vs : Array Value} (h : AllP (leL f cs ds)) (hf : ∀ {d d' v}, AllP (f d d') → Rel rd kn blk d v → Rel rd' kn' blk' d' v) (hs : vs.size = cs.length)
    (hr : ∀ (j : Nat) (d : DV) (u : Value), cs[j]? = some d → vs[j]? = some u → Rel rd kn blk d u) :
    vs.size = ds.length ∧ ∀ (j : Nat) (d : DV) (u : Value), ds[j]? = some d → vs[j]? = some u → Rel rd' kn' blk' d u := by
  obtain ⟨h1, h2⟩ := leL_sound h
  refine ⟨by omega, fun j d u hd hu => ?_⟩
  have hlt : j < cs.length := by rw [h1]; exact (List.getElem?_eq_some_iff.1 hd).1
  have hc : cs[j]? = some cs[j] := List.getElem?_eq_getElem hlt
  exact hf (h2 j _ _ hc hd) (hr j _ u hc hu)
theorem valCells {vs : Array Value} : ∀ (j : Nat) (d : DV) (u : Value), (vs.toList.map DV.val)[j]? = some d → vs[j]? = some u → Rel rd kn blk d u := by
  intro j d u hd hu
  simp only [List.getElem?_map, Array.getElem?_toList, hu, Option.map_some, Option.some.injEq] at hd
  subst hd; exact .val u
theorem leN_sound : ∀ (n : Nat) {d d' : DV} {v : Value}, AllP (leN n d d') → RelC rd d v → RelC rd d' v := by
  intro n
  induction n with
  | zero => intro d d' v h hv; exact le0_sound h hv
  | succ n ih =>
    intro d d' v h hv
    simp only [leN] at h
    generalize leN n = f at h ih
    unfold leS at h
    split at h
    · rename_i m cols m' cols'
      obtain ⟨h1, h2⟩ := leC_sound h.tl
      have hm := h.hd
      subst hm
      cases hv with
      | lst U hc ha hn ho hr =>
        have get : ∀ (j : Nat) (f : Nat → DV), cols'[j]? = some f → ∃ g, cols[j]? = some g := fun j f hf => by
          have hlt : j < cols.length := by rw [h1]; exact (List.getElem?_eq_some_iff.1 hf).1
          exact ⟨_, List.getElem?_eq_getElem hlt⟩
        refine .lst U hc (fun i j f hi hf => ?_) hn (fun i j f hi hf => ?_) fun i j f hi hf => ?_
        · obtain ⟨g, hg⟩ := get j f hf
          rw [← h1]; exact ha i j g hi hg
        · obtain ⟨g, hg⟩ := get j f hf
          exact ho i j g hi hg
        · obtain ⟨g, hg⟩ := get j f hf
          exact ih (h2 j g f hg hf i hi) (hr i j g hi hg)
    · cases hv with
      | agg hs hr => obtain ⟨a, b⟩ := leL_cells h (fun h hv => ih h hv) hs hr; exact .agg a b
    · cases hv with
      | tup hs hr => obtain ⟨a, b⟩ := leL_cells h (fun h hv => ih h hv) hs hr; exact .tup a b
    · cases hv; obtain ⟨a, b⟩ := leL_cells h (fun h hv => ih h hv) (by simp) valCells; exact .tup a b
    · cases hv with
      | tup hs hr =>
        rename_i us vs
        obtain ⟨a, b⟩ := leL_cells h (fun h hv => ih h hv) hs hr
        have : vs = us := by
          apply Array.ext
          · simpa using a
          · intro i h1 h2
            have := (b i (.val us[i]) vs[i] (by simp [h2]) (by simp [h1])).val_eq
            exact this
        rw [this]; exact .val _
    · cases hv; obtain ⟨a, b⟩ := leL_cells h (fun h hv => ih h hv) (by simp) valCells; exact .agg a b
    · cases hv with
      | agg hs hr =>
        rename_i us vs
        obtain ⟨a, b⟩ := leL_cells h (fun h hv => ih h hv) hs hr
        have : vs = us := by
          apply Array.ext
          · simpa using a
          · intro i h1 h2
            have := (b i (.val us[i]) vs[i] (by simp [h2]) (by simp [h1])).val_eq
            exact this
        rw [this]; exact .val _
    · rename_i g cs g' ds
      cases hb : Nat.beq g g' with
      | false => simp only [hb, cond_false] at h; exact h.one.elim
      | true =>
        simp only [hb, cond_true] at h
        obtain rfl := Nat.eq_of_beq_eq_true hb
        cases hv with
        | clo hs hr => obtain ⟨a, b⟩ := leL_cells h (fun h hv => ih h hv) hs hr; exact .clo a b
    · rename_i g cs g' ds
      cases hb : Nat.beq g g' with
      | false => simp only [hb, cond_false] at h; exact h.one.elim
      | true =>
        simp only [hb, cond_true] at h
        obtain rfl := Nat.eq_of_beq_eq_true hb
        cases hv with
        | bnd hs hr => obtain ⟨a, b⟩ := leL_cells h (fun h hv => ih h hv) hs hr; exact .bnd a b
    · cases hv with
      | cptr U ha ho hr =>
        obtain ⟨h1, h2⟩ := leL_sound h
        refine .cptr U (fun j d hd => ?_) (fun j d hd => ?_) fun j d hd => ?_
        · exact ha j _ (List.getElem?_eq_getElem (by rw [h1]; exact (List.getElem?_eq_some_iff.1 hd).1))
        · exact ho j _ (List.getElem?_eq_getElem (by rw [h1]; exact (List.getElem?_eq_some_iff.1 hd).1))
        · have hc := List.getElem?_eq_getElem (l := _) (show j < _ by rw [h1]; exact (List.getElem?_eq_some_iff.1 hd).1)
          exact ih (h2 j _ _ hc hd) (hr j _ hc)
    · cases hv
      have hn := h.one
      subst hn
      exact .lst (fun _ _ => undef) (Nat.le_refl _) (fun i j f hi => by omega) (fun h => by omega) (fun i j f hi => by omega) fun i j f hi => by omega
    · rename_i ks has col ks' has' col'
      cases hq : ksEq ks ks' with
      | false => simp only [hq, cond_false] at h; exact h.one.elim
      | true =>
        simp only [hq, cond_true] at h
        obtain rfl := ksEq_spec hq
        have h1 := h.hd
        have h2 := h.tl.one
        cases hv with
        | mp es h0 ha hk hh hd hs hr =>
          exact .mp es h0 ha (fun e he => let ⟨l, a, b⟩ := hk e he; ⟨l, a, by rw [← h1]; exact b⟩) (fun l hl => hh l (by rw [h1]; exact hl)) hd hs fun e l he hel => by
            obtain ⟨l', a, b⟩ := hk e he
            rw [hel] at a; cases a
            exact ih (h2 l (by rw [← h1]; exact b)).all (hr e l he hel)
    · cases hv
      have h1 := h.one
      exact .mp [] (fun _ => rfl) (fun g e => by cases e) (fun e he => by cases he) (fun l hl => by rw [h1] at hl; cases hl) List.Pairwise.nil (fun e he => by cases he) fun e l he => by cases he
    · exact le0_sound h hv
end
abbrev Ren := List (Nat × Option Nat)
def notKept (ρ : Ren) (id : Nat) : Bool := match ρ with
  | [] => true
  | (_, some a) :: r => bif Nat.beq a id then false else notKept r id
  | (_, none) :: r => notKept r id
def renIs (ρ : Ren) (new old : Nat) : Bool := match look ρ new with
  | some (some a) => Nat.beq a old
  | _ => false
def renOK : Ren → Bool
  | [] => true
  | (_, some a) :: r => bif notKept r a then renOK r else false
  | (_, none) :: r => renOK r
def gridCols (s : Nat) (len : Nat → Nat → Nat) (col : Nat → Nat → Nat → DV) : List (Nat → DV) := (List.range s).map fun j i => .lst (len i j) [col i j]
def gridVC (s n' : Nat) (len len' : Nat → Nat → Nat) (col col' : Nat → Nat → Nat → DV) : List Nat → List Prop
  | [] => []
  | j :: r => (∀ i, i < n' → len i j = len' i j) :: (∀ i q, i < n' → q < len' i j → AllT (leN 2 (col i j q) (col' i j q))) :: gridVC s n' len len' col col' r
def leR0 (ρ : Ren) (ob : Heap) : DV → DV → List Prop
  | _, .any => []
  | .ptr id j, .ptr id' j' => bif renIs ρ id' id && Nat.beq j j' then [] else [False]
  | .row s id off len, .row s' id' off' len' => bif renIs ρ id' id && Nat.beq s s' then [off = off', len = len'] else [False]
  | .val (.slice none 0 0), .row _ id' off' len' => match look ρ id' with
    | some none => [off' = 0, len' = 0]
    | _ => [False]
  | .row s id off len, .lst n cols => match ob id with
    | some (.row n0 cols0) => bif notKept ρ id && Nat.beq cols0.length s then (off + len ≤ n0) :: (len = n) :: leC (leN 2) (cols0.map fun c i => c (off + i)) cols n else [False]
    | _ => [False]
  | .mph id, .mph id' => bif renIs ρ id' id then [] else [False]
  | .mph id, .mp ks has col => match ob id with
    | some (.map ks0 has0 col0 _) => bif notKept ρ id && ksEq ks0 ks then leN 3 (.mp ks0 has0 col0) (.mp ks has col) else [False]
    | _ => [False]
  | .grd s id n, .grd s' id' n' => bif renIs ρ id' id && Nat.beq s s' then [n = n'] else [False]
  | .grd s id n, .lst n' cols => match ob id with
    | some (.grid n0 s0 len col none) => bif notKept ρ id && (Nat.beq s s0 && Nat.ble 1 s) then (n ≤ n0) :: (n = n') :: leC (leN 3) (gridCols s len col) cols n' else [False]
    | _ => [False]
  | d, d' => bif d.closed then leN 3 d d' else [False]
def leRS (f : DV → DV → List Prop) (ρ : Ren) (ob : Heap) : DV → DV → List Prop
  | .agg cs, .agg ds => leL f cs ds
  | .clo g cs, .clo g' ds => bif Nat.beq g g' then leL f cs ds else [False]
  | .bnd g cs, .bnd g' ds => bif Nat.beq g g' then leL f cs ds else [False]
  | d, d' => leR0 ρ ob d d'
def leR (ρ : Ren) (ob : Heap) : Nat → DV → DV → List Prop
  | 0 => leR0 ρ ob
  | n + 1 => leRS (leR ρ ob n) ρ ob
def tmpsVC (ρ : Ren) (σ : St) : List (Nat × DV) → List Prop
  | [] => []
  | (t, d) :: r => leR ρ σ.obj 2 (σ.get t) d ++ tmpsVC ρ σ r
def objVC (ρ : Ren) (ob : Heap) : AObj → AObj → List Prop
  | .box cs, .box ds => leL (leR ρ ob 2) cs ds
  | .row n cols, .row n' cols' => (n = n') :: leC (leN 2) cols cols' n'
  | .row n cols, .srow n' cols' => (n = n') :: leC (leN 2) cols cols' n'
  | .srow n cols, .srow n' cols' => (n = n') :: leC (leN 2) cols cols' n'
  | .map ks has col _, .map ks' has' col' none => bif ksEq ks ks' then [∀ l, has l = has' l, ∀ l, has' l = true → AllT (leN 2 (col l) (col' l))] else [False]
  | .gmap ks len col _ none, .gmap ks' len' col' [] none => bif ksEq ks ks' then [∀ l, len l = len' l, ∀ l i, i < len' l → AllT (leN 2 (col l i) (col' l i))] else [False]
  | .exact g o, .exact g' o' => [g = g', o = o']
  | .grid n s len col none, .grid n' s' len' col' none => bif Nat.beq s s' then (n = n') :: gridVC s n' len len' col col' (List.range s) else [False]
  | _, _ => [False]
def objsVC (ρ : Ren) (ob : Heap) : List (Nat × Option AObj) → Ren → List Prop
  | [], [] => []
  | (id, some o) :: r, (id', some q) :: ρ' => match ob q with
    | some o0 => bif Nat.beq id id' then objVC ρ ob o0 o ++ objsVC ρ ob r ρ' else [False]
    | none => [False]
  | (id, some (.row n _)) :: r, (id', none) :: ρ' => bif Nat.beq id id' then (n = 0) :: objsVC ρ ob r ρ' else [False]
  | _, _ => [False]
def belowAll (n : Nat) : Ren → Bool
  | [] => true
  | (id, _) :: r => bif Nat.blt id n then belowAll n r else false
def weakVC (ρ : Ren) (σ σ' : St) : List Prop :=
  bif renOK ρ && (belowAll σ'.nx ρ && (Nat.beq σ.nt σ'.nt && Nat.beq σ.lo σ'.lo)) then tmpsVC ρ σ σ'.t ++ objsVC ρ σ.obj σ'.h ρ else [False]
end Go.Abs
end
section
namespace Go.Abs
open Go.RowKit
theorem notKept_spec {id : Nat} : ∀ {ρ : Ren}, notKept ρ id = true → ∀ {i a : Nat}, look ρ i = some (some a) → a ≠ id
  | (k, some b) :: r, h, i, a, hl => by
    simp only [notKept] at h
    cases hb : Nat.beq b id with
    | true => simp [hb] at h
    | false =>
      simp only [hb, cond_false] at h
      rw [look_cons] at hl
      by_cases e : k = i
      · simp only [e, if_true, Option.some.injEq] at hl
        subst hl
        rintro rfl
        simp at hb
      · rw [if_neg e] at hl; exact notKept_spec h hl
  | (k, none) :: r, h, i, a, hl => by
    simp only [notKept] at h
    rw [look_cons] at hl
    by_cases e : k = i
    · simp [e] at hl
    · rw [if_neg e] at hl; exact notKept_spec h hl
  | [], _, i, a, hl => by simp [look] at hl
theorem renOK_spec : ∀ {ρ : Ren}, renOK ρ = true → ∀ {i i' a : Nat}, look ρ i = some (some a) → look ρ i' = some (some a) → i = i'
  | (k, some b) :: r, h, i, i', a, h1, h2 => by
    simp only [renOK] at h
    cases hb : notKept r b with
    | false => simp [hb] at h
    | true =>
      simp only [hb, cond_true] at h
      rw [look_cons] at h1 h2
      by_cases e1 : k = i <;> by_cases e2 : k = i'
      · rw [← e1, ← e2]
      · simp only [e1, if_true, Option.some.injEq] at h1
        rw [if_neg e2] at h2
        exact absurd h1.symm (notKept_spec hb h2)
      · simp only [e2, if_true, Option.some.injEq] at h2
        rw [if_neg e1] at h1
        exact absurd h2.symm (notKept_spec hb h1)
      · rw [if_neg e1] at h1
        rw [if_neg e2] at h2
        exact renOK_spec h h1 h2
  | (k, none) :: r, h, i, i', a, h1, h2 => by
    simp only [renOK] at h
    rw [look_cons] at h1 h2
    by_cases e1 : k = i
    · simp [e1] at h1
    · by_cases e2 : k = i'
      · simp [e2] at h2
      · rw [if_neg e1] at h1
        rw [if_neg e2] at h2
        exact renOK_spec h h1 h2
  | [], _, i, i', a, h1, _ => by simp [look] at h1
theorem belowAll_spec {n : Nat} : ∀ {ρ : Ren}, belowAll n ρ = true → ∀ {i : Nat} {x : Option Nat}, look ρ i = some x → i < n
  | (k, b) :: r, h, i, x, hl => by
    simp only [belowAll] at h
    cases hb : Nat.blt k n with
    | false => simp [hb] at h
    | true =>
      simp only [hb, cond_true] at h
      rw [look_cons] at hl
      by_cases e : k = i
      · subst e; exact Nat.le_of_ble_eq_true hb
      · rw [if_neg e] at hl; exact belowAll_spec h hl
  | [], _, i, x, hl => by simp [look] at hl
theorem renIs_spec {ρ : Ren} {i a : Nat} (h : renIs ρ i a = true) : look ρ i = some (some a) := by
  unfold renIs at h
  split at h
  · rename_i b hb; rw [hb, Nat.eq_of_beq_eq_true h]
  · cases h
def knOf (ρ : Ren) (id : Nat) : Prop := ∃ x, look ρ id = some x
def blkOf (ρ : Ren) (blk : Nat → Option Loc) (id : Nat) : Option Loc := match look ρ id with
  | some (some a) => blk a
  | some none => some .nil
  | none => none
section
variable {base : Nat} {w0 w : World} {S0 : Env} {σ σ' : St} {kn : Nat → Prop} {blk : Nat → Option Loc} {a : Act} {ρ : Ren}
theorem blkOf_at {id g : Nat} {l : Loc} (h : blkOf ρ blk id = some l) (hg : l.has g) : ∃ b, look ρ id = some (some b) ∧ blk b = some l := by
  unfold blkOf at h
  split at h
  · rename_i b hb; exact ⟨b, hb, h⟩
  · cases h; exact hg.elim
  · cases h
theorem rd_ren {ad : Addr} {u : Value} (h : rdOf w base S0 blk ad u) : rdOf w base S0 (blkOf ρ blk) ad u :=
  ⟨h.1, fun id l e hg => let ⟨b, _, hb⟩ := blkOf_at e hg; h.2.1 b l hb hg, h.2.2⟩
theorem relC_ren {d : DV} {v : Value} (h : RelC (rdOf w base S0 blk) d v) : RelC (rdOf w base S0 (blkOf ρ blk)) d v :=
  h.mono (fun _ _ h => rd_ren h) (fun _ h => h) fun _ _ h => h.elim
theorem leR0_sound (r : R base w0 S0 σ kn blk a w) {d d' : DV} {v : Value} (h : AllP (leR0 ρ σ.obj d d')) (hv : Rel (rdOf w base S0 blk) kn blk d v) : Rel (rdOf w base S0 (blkOf ρ blk)) (knOf ρ) (blkOf ρ blk) d' v := by
  unfold leR0 at h
  split at h
  · exact .any v
  · rename_i id j id' j'
    cases hb : (renIs ρ id' id && Nat.beq j j') with
    | false => simp only [hb, cond_false] at h; exact h.one.elim
    | true =>
      simp only [Bool.and_eq_true] at hb
      have hl := renIs_spec hb.1
      obtain rfl := Nat.eq_of_beq_eq_true hb.2
      cases hv with
      | ptr hk hp hh => exact .ptr ⟨_, hl⟩ hp fun g C e => by unfold blkOf at e; rw [hl] at e; exact hh g C e
  · rename_i s id off len s' id' off' len'
    cases hb : (renIs ρ id' id && Nat.beq s s') with
    | false => simp only [hb, cond_false] at h; exact h.one.elim
    | true =>
      simp only [hb, cond_true] at h
      simp only [Bool.and_eq_true] at hb
      have hl := renIs_spec hb.1
      obtain rfl := Nat.eq_of_beq_eq_true hb.2
      have e1 := h.hd
      have e2 := h.tl.one
      subst e1 e2
      cases hv with
      | row hk hp h0 hh hs =>
        exact .row ⟨_, hl⟩ hp (fun e => by unfold blkOf at e; rw [hl] at e; exact h0 e) (fun g C e => by unfold blkOf at e; rw [hl] at e; exact hh g C e) fun g o C e => by unfold blkOf at e; rw [hl] at e; exact hs g o C e
  · rename_i s id' off' len'
    split at h
    · rename_i hl
      cases hv
      have e1 := h.hd
      have e2 := h.tl.one
      subst e1 e2
      exact .row ⟨_, hl⟩ ⟨_, _, rfl, fun _ => rfl⟩ (fun _ => ⟨rfl, rfl, rfl⟩) (fun g C e => by unfold blkOf at e; rw [hl] at e; simp at e) fun g o C e => by unfold blkOf at e; rw [hl] at e; simp at e
    · exact h.one.elim
  · rename_i s id off len n cols
    split at h
    · rename_i n0 cols0 hob
      cases hb : (notKept ρ id && Nat.beq cols0.length s) with
      | false => simp only [hb, cond_false] at h; exact h.one.elim
      | true =>
        simp only [hb, cond_true] at h
        simp only [Bool.and_eq_true] at hb
        obtain rfl := Nat.eq_of_beq_eq_true hb.2
        have hle := h.hd
        have hn := h.tl.hd
        subst hn
        obtain ⟨h1, h2⟩ := leC_sound h.tl.tl
        have hlc : cols.length = cols0.length := by rw [← h1]; simp
        have hisr : isRow σ.obj id cols0.length = true := by unfold isRow; rw [hob]; exact hb.2
        obtain ⟨_, hor⟩ := r.objs _ _ hob
        obtain ⟨_, ⟨rfl, _, rfl, _⟩ | ⟨g, C, rfl, hC, hl⟩ | ⟨_, rfl, p, c, rfl⟩⟩ := row_val r hisr hv
        rotate_left 2
        · exact .lst (fun _ _ => undef) (Nat.zero_le _) (fun i j f hi => by omega) (fun h => by omega) (fun i j f hi => by omega) fun i j f hi => by omega
        · exact .lst (fun _ _ => undef) (Nat.le_refl _) (fun i j f hi => by omega) (fun h => by omega) (fun i j f hi => by omega) fun i j f hi => by omega
        · rcases hor with ⟨hln, _⟩ | ⟨g', C', cv, T, hl', hh, hsz, hn', hrel⟩
          · rw [hln] at hl; cases hl
          · rw [hl] at hl'
            cases hl'
            have key : ∀ (i j : Nat) (f : Nat → DV), i < len → cols[j]? = some f → ∃ u, w.cell? (Addr.add ⟨g, off * cols0.length, none⟩ (i * cols.length + j)) = some u ∧ oneV u = true ∧ RelC (rdOf w base S0 (blkOf ρ blk)) (f i) u := by
              intro i j f hi hf
              have hj : j < cols0.length := by rw [← hlc]; exact (List.getElem?_eq_some_iff.1 hf).1
              have hcj : cols0[j]? = some cols0[j] := List.getElem?_eq_getElem hj
              obtain ⟨u, hu, ho, hre⟩ := hrel (off + i) j _ (by omega) hcj
              refine ⟨u, ?_, ho, relC_ren (leN_sound 2 (h2 j _ f (by rw [List.getElem?_map, hcj]; rfl) hf i hi) hre)⟩
              rw [add_off, hlc]
              simp only [World.cell?, hh]
              rw [show off * cols0.length + (i * cols0.length + j) = (off + i) * cols0.length + j by rw [Nat.add_mul]; omega, hu]
              rfl
            refine .lst (fun i j => (w.cell? (Addr.add ⟨g, off * cols0.length, none⟩ (i * cols.length + j))).getD undef) (by omega) (fun i j f hi hf => ⟨_, rfl, .inl ⟨?_, ?_⟩, fun id2 l2 e hg2 => ?_, ?_, ?_⟩) (fun _ h => by cases h) (fun i j f hi hf => ?_) fun i j f hi hf => ?_
            · obtain ⟨u, hu, _⟩ := key i j f hi hf
              rw [hu]; rfl
            · obtain ⟨u, hu, ho, _⟩ := key i j f hi hf
              rw [hu]; exact ho
            · obtain ⟨b, hb1, hb2⟩ := blkOf_at e hg2
              rw [add_off] at hg2
              exact notKept_spec hb.1 hb1 (r.inj _ _ _ _ _ hb2 hl hg2 rfl)
            · rw [add_off]; exact own_S r hl rfl
            · rw [add_off]; exact own_low r hl rfl
            · obtain ⟨u, hu, ho, _⟩ := key i j f hi hf
              rw [hu]; exact ho
            · obtain ⟨u, hu, _, hr⟩ := key i j f hi hf
              rw [hu]; exact hr
    · exact h.one.elim
  · rename_i id id'
    cases hb : renIs ρ id' id with
    | false => simp only [hb, cond_false] at h; exact h.one.elim
    | true =>
      have hl := renIs_spec hb
      cases hv with
      | mph hk hp hh => exact .mph ⟨_, hl⟩ hp fun g bs e => by unfold blkOf at e; rw [hl] at e; exact hh g bs e
  · rename_i id ks has col
    split at h
    · rename_i ks0 has0 col0 hot0 hob
      cases hb : (notKept ρ id && ksEq ks0 ks) with
      | false => simp only [hb, cond_false] at h; exact h.one.elim
      | true =>
        simp only [hb, cond_true] at h
        simp only [Bool.and_eq_true] at hb
        refine relC_open (leN_sound 3 h (map_rd r (fun ad u => rd_ren) (fun l g hl hg ad u e hu => ⟨hu, fun id2 l2 e2 hg2 => ?_, e ▸ own_S r hl hg, e ▸ own_low r hl hg⟩) hob hv))
        obtain ⟨b, hb1, hb2⟩ := blkOf_at e2 hg2
        rw [e] at hg2
        exact notKept_spec hb.1 hb1 (r.inj _ _ _ _ _ hb2 hl hg2 hg)
    · exact h.one.elim
  · rename_i s id n s' id' n'
    cases hb : (renIs ρ id' id && Nat.beq s s') with
    | false => simp only [hb, cond_false] at h; exact h.one.elim
    | true =>
      simp only [hb, cond_true] at h
      simp only [Bool.and_eq_true] at hb
      have hl := renIs_spec hb.1
      have hn : n = n' := h.one
      subst hn
      cases hv with
      | grd hk hp hh => exact .grd ⟨_, hl⟩ hp fun g C bs e => by unfold blkOf at e; rw [hl] at e; exact hh g C bs e
  · rename_i s id n n' cols
    split at h
    · rename_i n0 s0 len col hob
      cases hb : (notKept ρ id && (Nat.beq s s0 && Nat.ble 1 s)) with
      | false => simp only [hb, cond_false] at h; exact h.one.elim
      | true =>
        simp only [hb, cond_true] at h
        simp only [Bool.and_eq_true] at hb
        obtain rfl := Nat.eq_of_beq_eq_true hb.2.1
        have hle : n ≤ n0 := h.hd
        have hn : n = n' := h.tl.hd
        subst hn
        obtain ⟨k1, k2⟩ := leC_sound h.tl.tl
        have k1 : s = cols.length := by rw [← k1, gridCols, List.length_map, List.length_range]
        obtain ⟨_, g, C, bs, cv, T, hl, hh, hsz, hnC, hG, hbs⟩ := r.objs _ _ hob
        obtain ⟨rfl, hnc⟩ : v = .slice (some ⟨g, 0, none⟩) n C ∧ n ≤ C := by cases hv with | grd _ _ h => exact h g C bs hl
        have own : ∀ (b k : Nat) (u : Value), (Loc.grid g C bs).has b → w.cell? ⟨b, k, none⟩ = some u → oneV u = true → rdOf w base S0 (blkOf ρ blk) ⟨b, k, none⟩ u := fun b k u hb1 hc ho => ⟨.inl ⟨hc, ho⟩, fun id2 l2 e hg2 => (by
          obtain ⟨b2, q1, q2⟩ := blkOf_at e hg2
          exact notKept_spec hb.1 q1 (r.inj _ _ _ _ _ q2 hl hg2 hb1)), own_S r hl hb1, own_low r hl hb1⟩
        have hent : ∀ i j, i < n → j < s → ∃ u, cv[i * s + j]? = some u ∧ oneV u = true ∧ RelC (rdOf w base S0 (blkOf ρ blk)) (.lst (len i j) [col i j]) u := fun i j hi hj => by
          obtain ⟨u, hu, hE⟩ := hG.ent i j (by omega) hj (by simp)
          rcases hE with ⟨rfl, h0⟩ | ⟨b, Cb, cvb, Tb, rfl, c2, c3, c4, c5, c6⟩
          · rw [h0]
            exact ⟨_, hu, rfl, .lst (fun _ _ => undef) (Nat.le_refl _) (fun i j f hi => by omega) (fun h => by omega) (fun i j f hi => by omega) fun i j f hi => by omega⟩
          · refine ⟨_, hu, rfl, .lst (fun q _ => cvb.getD q undef) c5 (fun q k f hq hf => ⟨_, rfl, ?_⟩) (fun _ h => by cases h) (fun q k f hq hf => ?_) fun q k f hq hf => ?_⟩
            · match k, hf with
              | 0, hf =>
                obtain ⟨x, x1, x2, x3⟩ := c6 q hq
                have e1 : cvb.getD q undef = x := by rw [Array.getD_eq_getD_getElem?, x1]; rfl
                rw [e1, add_off]
                simp only [List.length_cons, List.length_nil, Nat.zero_add, Nat.mul_one, Nat.add_zero]
                exact own b q x (.inr c2) (by simp only [World.cell?, c3, x1]; rfl) x2
            · obtain ⟨x, x1, x2, x3⟩ := c6 q hq
              have e1 : cvb.getD q undef = x := by rw [Array.getD_eq_getD_getElem?, x1]; rfl
              rw [e1]; exact x2
            · match k, hf with
              | 0, hf =>
                cases hf
                obtain ⟨x, x1, x2, x3⟩ := c6 q hq
                have e1 : cvb.getD q undef = x := by rw [Array.getD_eq_getD_getElem?, x1]; rfl
                rw [e1]; exact relC_ren x3
        refine .lst (fun i j => cv.getD (i * s + j) undef) hnc (fun i j f hi hf => ⟨_, rfl, ?_⟩) (fun _ h => by cases h) (fun i j f hi hf => ?_) fun i j f hi hf => ?_
        · have hj : j < s := by rw [k1]; exact (List.getElem?_eq_some_iff.1 hf).1
          obtain ⟨u, hu, ho, _⟩ := hent i j hi hj
          have e1 : cv.getD (i * s + j) undef = u := by rw [Array.getD_eq_getD_getElem?, hu]; rfl
          rw [e1, add_off, Nat.zero_add, ← k1]
          exact own g _ u (.inl rfl) (by simp only [World.cell?, hh, hu]; rfl) ho
        · have hj : j < s := by rw [k1]; exact (List.getElem?_eq_some_iff.1 hf).1
          obtain ⟨u, hu, ho, _⟩ := hent i j hi hj
          have e1 : cv.getD (i * s + j) undef = u := by rw [Array.getD_eq_getD_getElem?, hu]; rfl
          rw [e1]; exact ho
        · have hj : j < s := by rw [k1]; exact (List.getElem?_eq_some_iff.1 hf).1
          obtain ⟨u, hu, ho, hr⟩ := hent i j hi hj
          have e1 : cv.getD (i * s + j) undef = u := by rw [Array.getD_eq_getD_getElem?, hu]; rfl
          have hf0 : (gridCols s len col)[j]? = some (fun i => .lst (len i j) [col i j]) := by
            rw [gridCols, List.getElem?_map, List.getElem?_range hj]; rfl
          rw [e1]
          exact leN_sound 3 (k2 j _ f hf0 hf i hi) hr
    · exact h.one.elim
  · cases hc : d.closed with
    | false => simp only [hc, cond_false] at h; exact h.one.elim
    | true =>
      simp only [hc, cond_true] at h
      exact relC_open (relC_ren (leN_sound 3 h (hv.close hc)))
theorem leR_sound (r : R base w0 S0 σ kn blk a w) : ∀ (n : Nat) {d d' : DV} {v : Value}, AllP (leR ρ σ.obj n d d') → Rel (rdOf w base S0 blk) kn blk d v → Rel (rdOf w base S0 (blkOf ρ blk)) (knOf ρ) (blkOf ρ blk) d' v := by
  intro n
  induction n with
  | zero => intro d d' v h hv; exact leR0_sound r h hv
  | succ n ih =>
    intro d d' v h hv
    simp only [leR] at h
    generalize leR ρ σ.obj n = f at h ih
    unfold leRS at h
    split at h
    · cases hv with
      | agg hs hr => obtain ⟨x, y⟩ := leL_cells h (fun h hv => ih h hv) hs hr; exact .agg x y
    · rename_i g cs g' ds
      cases hb : Nat.beq g g' with
      | false => simp only [hb, cond_false] at h; exact h.one.elim
      | true =>
        simp only [hb, cond_true] at h
        obtain rfl := Nat.eq_of_beq_eq_true hb
        cases hv with
        | clo hs hr => obtain ⟨x, y⟩ := leL_cells h (fun h hv => ih h hv) hs hr; exact .clo x y
    · rename_i g cs g' ds
      cases hb : Nat.beq g g' with
      | false => simp only [hb, cond_false] at h; exact h.one.elim
      | true =>
        simp only [hb, cond_true] at h
        obtain rfl := Nat.eq_of_beq_eq_true hb
        cases hv with
        | bnd hs hr => obtain ⟨x, y⟩ := leL_cells h (fun h hv => ih h hv) hs hr; exact .bnd x y
    · exact leR0_sound r h hv
theorem tmpsVC_spec : ∀ {l : List (Nat × DV)}, AllP (tmpsVC ρ σ l) → ∀ {t : Nat} {d : DV}, look l t = some d → AllP (leR ρ σ.obj 2 (σ.get t) d)
  | (k, d0) :: r, h, t, d, hl => by
    obtain ⟨h1, h2⟩ := AllP.app h
    rw [look_cons] at hl
    by_cases e : k = t
    · subst e
      simp only [if_true, Option.some.injEq] at hl
      subst hl; exact h1
    · rw [if_neg e] at hl; exact tmpsVC_spec h2 hl
  | [], _, t, d, hl => by simp [look] at hl
theorem objsVC_spec {ob : Heap} : ∀ {l : List (Nat × Option AObj)} {ρ' : Ren}, AllP (objsVC ρ ob l ρ') → ∀ {id : Nat},
    (∀ x, look l id = some x → ∃ o, x = some o ∧ ((∃ q o0, look ρ' id = some (some q) ∧ ob q = some o0 ∧ AllP (objVC ρ ob o0 o)) ∨ (look ρ' id = some none ∧ ∃ cols, o = .row 0 cols))) ∧ (∀ x, look ρ' id = some x → ∃ o, look l id = some (some o))
  | [], [], _, id => ⟨fun x h => by simp [look] at h, fun x h => by simp [look] at h⟩
  | (i, some o) :: r, (i', some q) :: ρ', h, id => by
    simp only [objsVC] at h
    split at h
    · rename_i o0 hq
      cases hb : Nat.beq i i' with
      | false => simp only [hb, cond_false] at h; exact h.one.elim
      | true =>
        simp only [hb, cond_true] at h
        obtain rfl := Nat.eq_of_beq_eq_true hb
        obtain ⟨h1, h2⟩ := AllP.app h
        obtain ⟨k1, k2⟩ := objsVC_spec h2 (id := id)
        simp only [look_cons]
        by_cases e : i = id
        · simp only [e, if_true]
          exact ⟨fun x hx => by cases hx; exact ⟨o, rfl, .inl ⟨q, o0, rfl, hq, h1⟩⟩, fun x hx => ⟨o, rfl⟩⟩
        · simp only [e, if_false]; exact ⟨k1, k2⟩
    · exact h.one.elim
  | (i, some (.row n cols)) :: r, (i', none) :: ρ', h, id => by
    simp only [objsVC] at h
    cases hb : Nat.beq i i' with
    | false => simp only [hb, cond_false] at h; exact h.one.elim
    | true =>
      simp only [hb, cond_true] at h
      obtain rfl := Nat.eq_of_beq_eq_true hb
      have hn := h.hd
      subst hn
      obtain ⟨k1, k2⟩ := objsVC_spec h.tl (id := id)
      simp only [look_cons]
      by_cases e : i = id
      · simp only [e, if_true]
        exact ⟨fun x hx => by cases hx; exact ⟨_, rfl, .inr ⟨by trivial, cols, rfl⟩⟩, fun x hx => ⟨_, rfl⟩⟩
      · simp only [e, if_false]; exact ⟨k1, k2⟩
  | (i, some (.box cs)) :: r, (i', none) :: ρ', h, id => by simp only [objsVC] at h; exact h.one.elim
  | (i, some (.srow ..)) :: r, (i', none) :: ρ', h, id => by simp only [objsVC] at h; exact h.one.elim
  | (i, some (.map ..)) :: r, (i', none) :: ρ', h, id => by simp only [objsVC] at h; exact h.one.elim
  | (i, some (.gmap ..)) :: r, (i', none) :: ρ', h, id => by simp only [objsVC] at h; exact h.one.elim
  | (i, some .tok) :: r, (i', none) :: ρ', h, id => by simp only [objsVC] at h; exact h.one.elim
  | (i, some (.grid ..)) :: r, (i', none) :: ρ', h, id => by simp only [objsVC] at h; exact h.one.elim
  | (i, some (.exact ..)) :: r, (i', none) :: ρ', h, id => by simp only [objsVC] at h; exact h.one.elim
  | (i, none) :: r, (i', none) :: ρ', h, id => by simp only [objsVC] at h; exact h.one.elim
  | (i, none) :: r, (i', some q) :: ρ', h, id => by simp only [objsVC] at h; exact h.one.elim
  | [], x :: ρ', h, id => by simp only [objsVC] at h; exact h.one.elim
  | (i, some (.row n cols)) :: r, [], h, id => by simp only [objsVC] at h; exact h.one.elim
  | (i, some (.box cs)) :: r, [], h, id => by simp only [objsVC] at h; exact h.one.elim
  | (i, some (.srow ..)) :: r, [], h, id => by simp only [objsVC] at h; exact h.one.elim
  | (i, some (.map ..)) :: r, [], h, id => by simp only [objsVC] at h; exact h.one.elim
  | (i, some (.gmap ..)) :: r, [], h, id => by simp only [objsVC] at h; exact h.one.elim
  | (i, some .tok) :: r, [], h, id => by simp only [objsVC] at h; exact h.one.elim
  | (i, some (.grid ..)) :: r, [], h, id => by simp only [objsVC] at h; exact h.one.elim
  | (i, some (.exact ..)) :: r, [], h, id => by simp only [objsVC] at h; exact h.one.elim
  | (i, none) :: r, [], h, id => by simp only [objsVC] at h; exact h.one.elim
theorem gridVC_spec {s n' : Nat} {len len' : Nat → Nat → Nat} {col col' : Nat → Nat → Nat → DV} : ∀ {l : List Nat}, AllP (gridVC s n' len len' col col' l) → ∀ j, j ∈ l → (∀ i, i < n' → len i j = len' i j) ∧ ∀ i q, i < n' → q < len' i j → AllT (leN 2 (col i j q) (col' i j q))
  | [], _, j, hj => by cases hj
  | x :: r, h, j, hj => by
    rcases List.mem_cons.1 hj with rfl | hj
    · exact ⟨h.hd, h.tl.hd⟩
    · exact gridVC_spec h.tl.tl j hj
theorem objVC_sound (r : R base w0 S0 σ kn blk a w) {l : Option Loc} {o0 o : AObj} (h : AllP (objVC ρ σ.obj o0 o)) (hor : ObjRel w (rdOf w base S0 blk) kn blk l o0) : ObjRel w (rdOf w base S0 (blkOf ρ blk)) (knOf ρ) (blkOf ρ blk) l o := by
  unfold objVC at h
  split at h
  · obtain ⟨g, C, cv, T, hl, hh, hs, hr, ho⟩ := hor
    obtain ⟨e1, e2⟩ := leL_cells h (fun h hv => leR_sound r 2 h hv) hs hr
    exact ⟨g, C, cv, T, hl, hh, e1, e2, ho⟩
  · rename_i n cols n' cols'
    have hn := h.hd
    subst hn
    obtain ⟨k1, k2⟩ := leC_sound h.tl
    rcases hor with ⟨hl, hn⟩ | ⟨g, C, cv, T, hl, hh, hs, hn, hr⟩
    · exact .inl ⟨hl, hn⟩
    · refine .inr ⟨g, C, cv, T, hl, hh, by rw [← k1]; exact hs, hn, fun i j f hi hf => ?_⟩
      have hj : j < cols.length := by rw [k1]; exact (List.getElem?_eq_some_iff.1 hf).1
      have hcj : cols[j]? = some cols[j] := List.getElem?_eq_getElem hj
      obtain ⟨u, hu, ho, hre⟩ := hr i j _ hi hcj
      rw [← k1]
      exact ⟨u, hu, ho, relC_ren (leN_sound 2 (k2 j _ f hcj hf i hi) hre)⟩
  · rename_i n cols n' cols'
    have hn := h.hd
    subst hn
    obtain ⟨k1, k2⟩ := leC_sound h.tl
    rcases hor with ⟨hl, hn⟩ | ⟨g, C, cv, T, hl, hh, hs, hn, hr⟩
    · exact .inl ⟨hl, hn⟩
    · refine .inr ⟨g, 0, C, cv, T, .inr ⟨hl, rfl⟩, hh, by rw [← k1, Nat.zero_add, hs]; exact Nat.le_refl _, hn, fun i j f hi hf => ?_⟩
      have hj : j < cols.length := by rw [k1]; exact (List.getElem?_eq_some_iff.1 hf).1
      have hcj : cols[j]? = some cols[j] := List.getElem?_eq_getElem hj
      obtain ⟨u, hu, ho, hre⟩ := hr i j _ hi hcj
      rw [← k1, Nat.zero_add]
      exact ⟨u, hu, ho, relC_ren (leN_sound 2 (k2 j _ f hcj hf i hi) hre)⟩
  · rename_i n cols n' cols'
    have hn := h.hd
    subst hn
    obtain ⟨k1, k2⟩ := leC_sound h.tl
    rcases hor with ⟨hl, hn⟩ | ⟨g, o, C, cv, T, hl, hh, hs, hn, hr⟩
    · exact .inl ⟨hl, hn⟩
    · refine .inr ⟨g, o, C, cv, T, hl, hh, by rw [← k1]; exact hs, hn, fun i j f hi hf => ?_⟩
      have hj : j < cols.length := by rw [k1]; exact (List.getElem?_eq_some_iff.1 hf).1
      have hcj : cols[j]? = some cols[j] := List.getElem?_eq_getElem hj
      obtain ⟨u, hu, ho, hre⟩ := hr i j _ hi hcj
      rw [← k1]
      exact ⟨u, hu, ho, relC_ren (leN_sound 2 (k2 j _ f hcj hf i hi) hre)⟩
  · rename_i ks has col _ ks' has' col'
    cases hq : ksEq ks ks' with
    | false => simp only [hq, cond_false] at h; exact h.one.elim
    | true =>
      simp only [hq, cond_true] at h
      obtain rfl := ksEq_spec hq
      have h1 := h.hd
      have h2 := h.tl.one
      obtain ⟨g, es, clock, hl, hh, hm, hst, _⟩ := hor
      refine ⟨g, es, clock, hl, hh, ⟨fun e he => let ⟨l, a, b⟩ := hm.hk e he; ⟨l, a, by rw [← h1]; exact b⟩, fun l hl => hm.hh l (by rw [h1]; exact hl), hm.hd, hm.hs, fun e l he hel => ?_⟩, hst, fun _ _ h => by cases h⟩
      obtain ⟨l', a, b⟩ := hm.hk e he
      rw [hel] at a; cases a
      exact relC_ren (leN_sound 2 (h2 l (by rw [← h1]; exact b)).all (hm.h e l he hel))
  · rename_i ks len col _ ks' len' col'
    cases hq : ksEq ks ks' with
    | false => simp only [hq, cond_false] at h; exact h.one.elim
    | true =>
      simp only [hq, cond_true] at h
      obtain rfl := ksEq_spec hq
      have h1 := h.hd
      have h2 := h.tl.one
      obtain ⟨g, bs, es, clock, hl, hh, hG, hbs, _⟩ := hor
      refine ⟨g, bs, es, clock, hl, hh, ⟨hG.hk, hG.hd, fun l hl hn => by rw [← h1]; exact hG.miss l hl hn, fun e l he hel hn => ?_, hG.sep⟩, hbs, fun _ _ h => by cases h⟩
      rcases hG.ent e l he hel hn with ⟨e1, e2⟩ | ⟨g', C, cv, T, a1, a2, a3, a4, a5, a6⟩
      · exact .inl ⟨e1, by rw [← h1]; exact e2⟩
      · rw [h1] at a1 a5 a6
        exact .inr ⟨g', C, cv, T, a1, a2, a3, a4, a5, fun i hi => let ⟨u, x1, x2, x3⟩ := a6 i hi; ⟨u, x1, x2, relC_ren (leN_sound 2 (h2 l i hi).all x3)⟩⟩
  · have e := h.hd
    have e2 := h.tl.one
    subst e
    subst e2
    exact hor
  · rename_i n s len col n' s' len' col'
    cases hb : Nat.beq s s' with
    | false => simp only [hb, cond_false] at h; exact h.one.elim
    | true =>
      simp only [hb, cond_true] at h
      obtain rfl := Nat.eq_of_beq_eq_true hb
      have hn : n = n' := h.hd
      subst hn
      have hs := gridVC_spec h.tl
      obtain ⟨g, C, bs, cv, T, hl, hh, hsz, hnC, hG, hbs⟩ := hor
      refine ⟨g, C, bs, cv, T, hl, hh, hsz, hnC, ⟨fun i j hi hj _ => ?_, fun i j i' j' b m C m' C' a1 a2 a3 a4 _ _ a5 => hG.sep i j i' j' b m C m' C' a1 a2 a3 a4 (by simp) (by simp) a5⟩, hbs⟩
      obtain ⟨q1, q2⟩ := hs j (List.mem_range.2 hj)
      obtain ⟨u, hu, hE⟩ := hG.ent i j hi hj (by simp)
      refine ⟨u, hu, ?_⟩
      rcases hE with ⟨h1, h2⟩ | ⟨b, Cb, cvb, Tb, c1, c2, c3, c4, c5, c6⟩
      · exact .inl ⟨h1, by rw [← q1 i hi]; exact h2⟩
      · rw [q1 i hi] at c1 c5 c6
        exact .inr ⟨b, Cb, cvb, Tb, c1, c2, c3, c4, c5, fun q hq => let ⟨x, x1, x2, x3⟩ := c6 q hq; ⟨x, x1, x2, relC_ren (leN_sound 2 (q2 i q hi hq).all x3)⟩⟩
  · exact h.one.elim
theorem weakenRS (hshp : ∀ d v, (d, v) ∈ S0.sh → Rel (rdOf w base S0 (blkOf ρ blk)) (knOf ρ) (blkOf ρ blk) d v) (hrn : S0.wb ≠ none → σ'.rn = true) (h : AllP (weakVC ρ σ σ')) (r : R base w0 S0 σ kn blk a w) : R base w0 S0 σ' (knOf ρ) (blkOf ρ blk) a w ∧ ∀ i, knOf ρ i → i < σ'.nx := by
  unfold weakVC at h
  cases hb : (renOK ρ && (belowAll σ'.nx ρ && (Nat.beq σ.nt σ'.nt && Nat.beq σ.lo σ'.lo))) with
  | false => simp only [hb, cond_false] at h; exact h.one.elim
  | true =>
    simp only [hb, cond_true] at h
    simp only [Bool.and_eq_true] at hb
    obtain ⟨hb1, hb2, hb3, hb4⟩ := hb
    have hnt := Nat.eq_of_beq_eq_true hb3
    have hlo := Nat.eq_of_beq_eq_true hb4
    obtain ⟨h1, h2⟩ := AllP.app h
    refine ⟨⟨r.below, r.xs, r.hbase, r.dfr, r.kpo, hrn, fun B hB id g bs e => ?_, fun d v h => (List.mem_append.1 h).elim (fun h => relC_open (relC_ren (r.glob d v h))) (hshp d v), r.size.trans hnt, fun t => ?_, fun id o ho => ?_, fun i i' l l' g e1 e2 g1 g2 => ?_, fun i l g e hg => ?_, fun i l e => ?_, fun t ht => r.pin t (by rw [hlo]; exact ht)⟩, fun i ⟨x, hx⟩ => belowAll_spec hb2 hx⟩
    · obtain ⟨b, _, hb⟩ := blkOf_at e (.inl rfl)
      exact r.mlow B hB b g bs hb
    · unfold St.get
      cases hl : look σ'.t t with
      | none => exact .any _
      | some d => exact leR_sound r 2 (tmpsVC_spec h1 hl) (r.tmps t)
    · unfold St.obj at ho
      cases hl : look σ'.h id with
      | none => simp [hl] at ho
      | some x =>
        simp only [hl] at ho
        subst ho
        obtain ⟨o', e, hx⟩ := (objsVC_spec h2 (id := id)).1 _ hl
        cases e
        rcases hx with ⟨q, o0, hq, hob, hvc⟩ | ⟨hq, cols, rfl⟩
        · refine ⟨⟨_, hq⟩, ?_⟩
          have hblk : blkOf ρ blk id = blk q := by unfold blkOf; rw [hq]
          rw [hblk]
          exact objVC_sound r hvc (r.objs _ _ hob).2
        · refine ⟨⟨_, hq⟩, .inl ⟨?_, rfl⟩⟩
          unfold blkOf; rw [hq]
    · obtain ⟨b, hb1', hb2'⟩ := blkOf_at e1 g1
      obtain ⟨b', hb1'', hb2''⟩ := blkOf_at e2 g2
      have := r.inj _ _ _ _ _ hb2' hb2'' g1 g2
      subst this
      exact renOK_spec hb1 hb1' hb1''
    · obtain ⟨b, _, hb⟩ := blkOf_at e hg
      exact r.ge _ _ _ hb hg
    · have : ∃ x, look ρ i = some x := by
        unfold blkOf at e
        split at e
        · rename_i b hb; exact ⟨_, hb⟩
        · rename_i hb; exact ⟨_, hb⟩
        · cases e
      obtain ⟨x, hx⟩ := this
      obtain ⟨o, ho⟩ := (objsVC_spec h2 (id := i)).2 x hx
      exact ⟨o, by unfold St.obj; rw [ho]⟩
theorem weakenR (hsh : S0.sh = []) (hrn : S0.wb ≠ none → σ'.rn = true) (h : AllP (weakVC ρ σ σ')) (r : R base w0 S0 σ kn blk a w) : R base w0 S0 σ' (knOf ρ) (blkOf ρ blk) a w ∧ ∀ i, knOf ρ i → i < σ'.nx :=
  weakenRS (fun d v h => by rw [hsh] at h; cases h) hrn h r
theorem weaken (hsh : S0.sh = []) (hrn : S0.wb ≠ none → σ'.rn = true) (h : AllP (weakVC ρ σ σ')) (hf : Fits base w0 S0 σ a w) : Fits base w0 S0 σ' a w :=
  let ⟨_, _, r, _⟩ := hf
  ⟨_, _, weakenR hsh hrn h r⟩
end
end Go.Abs
end
