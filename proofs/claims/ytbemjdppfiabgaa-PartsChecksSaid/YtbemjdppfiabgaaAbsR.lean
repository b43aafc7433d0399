/- A state said otherwise: fewer names, other names, what follows from what. -/
import Derived.Test.YtbemjdppfiabgaaAbsQ
namespace Go.Abs
open Go.RowKit

def leV : Value → Value → List Prop
  | .int k x, .int k' y => if k = k' then [x = y] else [False]
  | .bool x, .bool y => [x = y]
  | .string x, .string y => [x = y]
  | v, u => [v = u]
def leVL : List Value → List Value → List Prop
  | [], [] => []
  | v :: r, u :: q => leV v u ++ leVL r q
  | _, _ => [False]
def le0 : DV → DV → List Prop
  | _, .any => []
  | .val (.agg vs), .val (.agg us) => leVL vs.toList us.toList
  | .val (.tuple vs), .val (.tuple us) => leVL vs.toList us.toList
  | .val v, .val u => leV v u
  | _, _ => [False]
def leC (f : DV → DV → List Prop) : List (Nat → DV) → List (Nat → DV) → Nat → List Prop
  | [], [], _ => []
  | c :: r, d :: q, n => (∀ i, i < n → AllT (f (c i) (d i))) :: leC f r q n
  | _, _, _ => [False]
def leL (f : DV → DV → List Prop) : List DV → List DV → List Prop
  | [], [] => []
  | c :: r, d :: q => f c d ++ leL f r q
  | _, _ => [False]
def leS (f : DV → DV → List Prop) : DV → DV → List Prop
  | .lst m cols, .lst m' cols' => (m = m') :: leC f cols cols' m'
  | .agg cs, .agg ds => leL f cs ds
  | .tup cs, .tup ds => leL f cs ds
  | .val (.tuple vs), .tup ds => leL f (vs.toList.map .val) ds
  | .tup cs, .val (.tuple us) => leL f cs (us.toList.map .val)
  | .val (.agg vs), .agg ds => leL f (vs.toList.map .val) ds
  | .agg cs, .val (.agg us) => leL f cs (us.toList.map .val)
  | .clo g cs, .clo g' ds => bif Nat.beq g g' then leL f cs ds else [False]
  | .bnd g cs, .bnd g' ds => bif Nat.beq g g' then leL f cs ds else [False]
  | .cptr cs, .cptr ds => leL f cs ds
  | .val (.slice none 0 0), .lst n _ => [n = 0]
  | .mp ks has col, .mp ks' has' col' => bif ksEq ks ks' then [∀ l, has l = has' l, ∀ l, has' l = true → AllT (f (col l) (col' l))] else [False]
  | .val (.map none), .mp _ has _ => [∀ l, has l = false]
  | d, d' => le0 d d'
/-- What is owed for reading d as d'. -/
def leN : Nat → DV → DV → List Prop
  | 0 => le0
  | n + 1 => leS (leN n)

theorem leV_sound {v u : Value} (h : AllP (leV v u)) : v = u := by
  unfold leV at h
  split at h
  · split at h
    · rename_i hk; subst hk; rw [h.one]
    · exact h.one.elim
  · rw [h.one]
  · rw [h.one]
  · exact h.one
theorem leVL_sound : ∀ {l m : List Value}, AllP (leVL l m) → l = m
  | [], [], _ => rfl
  | v :: r, u :: q, h => by
    obtain ⟨h1, h2⟩ := AllP.app h
    rw [leV_sound h1, leVL_sound h2]
  | [], _ :: _, h => h.one.elim
  | _ :: _, [], h => h.one.elim

section
variable {rd : Rd} {kn kn' : Nat → Prop} {blk blk' : Nat → Option Loc}

theorem le0_sound {d d' : DV} {v : Value} (h : AllP (le0 d d')) (hv : Rel rd kn blk d v) : Rel rd kn' blk' d' v := by
  unfold le0 at h
  split at h
  · exact .any v
  · cases hv; rw [Array.ext' (leVL_sound h)]; exact .val _
  · cases hv; rw [Array.ext' (leVL_sound h)]; exact .val _
  · cases hv; rw [leV_sound h]; exact .val _
  · exact h.one.elim

theorem leC_sound {f : DV → DV → List Prop} : ∀ {c d : List (Nat → DV)} {n : Nat}, AllP (leC f c d n) → c.length = d.length ∧ ∀ (j : Nat) (x y : Nat → DV), c[j]? = some x → d[j]? = some y → ∀ i, i < n → AllP (f (x i) (y i))
  | [], [], _, _ => ⟨rfl, by simp⟩
  | x :: c, y :: d, n, h => by
    obtain ⟨h1, h2⟩ := leC_sound h.tl
    refine ⟨by simp [h1], fun j x' y' hx hy => ?_⟩
    cases j with
    | zero =>
      simp only [List.getElem?_cons_zero, Option.some.injEq] at hx hy
      subst hx hy
      exact fun i hi => (h.hd i hi).all
    | succ j => exact h2 j x' y' (by simpa using hx) (by simpa using hy)
  | [], _ :: _, _, h => h.one.elim
  | _ :: _, [], _, h => h.one.elim

theorem leL_sound {f : DV → DV → List Prop} : ∀ {c d : List DV}, AllP (leL f c d) → c.length = d.length ∧ ∀ (j : Nat) (x y : DV), c[j]? = some x → d[j]? = some y → AllP (f x y)
  | [], [], _ => ⟨rfl, by simp⟩
  | x :: c, y :: d, h => by
    obtain ⟨k1, k2⟩ := AllP.app h
    obtain ⟨h1, h2⟩ := leL_sound k2
    refine ⟨by simp [h1], fun j x' y' hx hy => ?_⟩
    cases j with
    | zero =>
      simp only [List.getElem?_cons_zero, Option.some.injEq] at hx hy
      subst hx hy
      exact k1
    | succ j => exact h2 j x' y' (by simpa using hx) (by simpa using hy)
  | [], _ :: _, h => h.one.elim
  | _ :: _, [], h => h.one.elim

theorem leL_cells {rd' : Rd} {f : DV → DV → List Prop} {cs ds : List DV} {vs : Array Value} (h : AllP (leL f cs ds)) (hf : ∀ {d d' v}, AllP (f d d') → Rel rd kn blk d v → Rel rd' kn' blk' d' v) (hs : vs.size = cs.length)
    (hr : ∀ (j : Nat) (d : DV) (u : Value), cs[j]? = some d → vs[j]? = some u → Rel rd kn blk d u) :
    vs.size = ds.length ∧ ∀ (j : Nat) (d : DV) (u : Value), ds[j]? = some d → vs[j]? = some u → Rel rd' kn' blk' d u := by
  obtain ⟨h1, h2⟩ := leL_sound h
  refine ⟨by omega, fun j d u hd hu => ?_⟩
  have hlt : j < cs.length := by rw [h1]; exact (List.getElem?_eq_some_iff.1 hd).1
  have hc : cs[j]? = some cs[j] := List.getElem?_eq_getElem hlt
  exact hf (h2 j _ _ hc hd) (hr j _ u hc hu)

theorem valCells {vs : Array Value} : ∀ (j : Nat) (d : DV) (u : Value), (vs.toList.map DV.val)[j]? = some d → vs[j]? = some u → Rel rd kn blk d u := by
  intro j d u hd hu
  simp only [List.getElem?_map, Array.getElem?_toList, hu, Option.map_some, Option.some.injEq] at hd
  subst hd; exact .val u

theorem leN_sound : ∀ (n : Nat) {d d' : DV} {v : Value}, AllP (leN n d d') → RelC rd d v → RelC rd d' v := by
  intro n
  induction n with
  | zero => intro d d' v h hv; exact le0_sound h hv
  | succ n ih =>
    intro d d' v h hv
    simp only [leN] at h
    generalize leN n = f at h ih
    unfold leS at h
    split at h
    · rename_i m cols m' cols'
      obtain ⟨h1, h2⟩ := leC_sound h.tl
      have hm := h.hd
      subst hm
      cases hv with
      | lst U hc ha hn ho hr =>
        have get : ∀ (j : Nat) (f : Nat → DV), cols'[j]? = some f → ∃ g, cols[j]? = some g := fun j f hf => by
          have hlt : j < cols.length := by rw [h1]; exact (List.getElem?_eq_some_iff.1 hf).1
          exact ⟨_, List.getElem?_eq_getElem hlt⟩
        refine .lst U hc (fun i j f hi hf => ?_) hn (fun i j f hi hf => ?_) fun i j f hi hf => ?_
        · obtain ⟨g, hg⟩ := get j f hf
          rw [← h1]; exact ha i j g hi hg
        · obtain ⟨g, hg⟩ := get j f hf
          exact ho i j g hi hg
        · obtain ⟨g, hg⟩ := get j f hf
          exact ih (h2 j g f hg hf i hi) (hr i j g hi hg)
    · cases hv with
      | agg hs hr => obtain ⟨a, b⟩ := leL_cells h (fun h hv => ih h hv) hs hr; exact .agg a b
    · cases hv with
      | tup hs hr => obtain ⟨a, b⟩ := leL_cells h (fun h hv => ih h hv) hs hr; exact .tup a b
    · cases hv; obtain ⟨a, b⟩ := leL_cells h (fun h hv => ih h hv) (by simp) valCells; exact .tup a b
    · cases hv with
      | tup hs hr =>
        rename_i us vs
        obtain ⟨a, b⟩ := leL_cells h (fun h hv => ih h hv) hs hr
        have : vs = us := by
          apply Array.ext
          · simpa using a
          · intro i h1 h2
            have := (b i (.val us[i]) vs[i] (by simp [h2]) (by simp [h1])).val_eq
            exact this
        rw [this]; exact .val _
    · cases hv; obtain ⟨a, b⟩ := leL_cells h (fun h hv => ih h hv) (by simp) valCells; exact .agg a b
    · cases hv with
      | agg hs hr =>
        rename_i us vs
        obtain ⟨a, b⟩ := leL_cells h (fun h hv => ih h hv) hs hr
        have : vs = us := by
          apply Array.ext
          · simpa using a
          · intro i h1 h2
            have := (b i (.val us[i]) vs[i] (by simp [h2]) (by simp [h1])).val_eq
            exact this
        rw [this]; exact .val _
    · rename_i g cs g' ds
      cases hb : Nat.beq g g' with
      | false => simp only [hb, cond_false] at h; exact h.one.elim
      | true =>
        simp only [hb, cond_true] at h
        obtain rfl := Nat.eq_of_beq_eq_true hb
        cases hv with
        | clo hs hr => obtain ⟨a, b⟩ := leL_cells h (fun h hv => ih h hv) hs hr; exact .clo a b
    · rename_i g cs g' ds
      cases hb : Nat.beq g g' with
      | false => simp only [hb, cond_false] at h; exact h.one.elim
      | true =>
        simp only [hb, cond_true] at h
        obtain rfl := Nat.eq_of_beq_eq_true hb
        cases hv with
        | bnd hs hr => obtain ⟨a, b⟩ := leL_cells h (fun h hv => ih h hv) hs hr; exact .bnd a b
    · cases hv with
      | cptr U ha ho hr =>
        obtain ⟨h1, h2⟩ := leL_sound h
        refine .cptr U (fun j d hd => ?_) (fun j d hd => ?_) fun j d hd => ?_
        · exact ha j _ (List.getElem?_eq_getElem (by rw [h1]; exact (List.getElem?_eq_some_iff.1 hd).1))
        · exact ho j _ (List.getElem?_eq_getElem (by rw [h1]; exact (List.getElem?_eq_some_iff.1 hd).1))
        · have hc := List.getElem?_eq_getElem (l := _) (show j < _ by rw [h1]; exact (List.getElem?_eq_some_iff.1 hd).1)
          exact ih (h2 j _ _ hc hd) (hr j _ hc)
    · cases hv
      have hn := h.one
      subst hn
      exact .lst (fun _ _ => undef) (Nat.le_refl _) (fun i j f hi => by omega) (fun h => by omega) (fun i j f hi => by omega) fun i j f hi => by omega
    · rename_i ks has col ks' has' col'
      cases hq : ksEq ks ks' with
      | false => simp only [hq, cond_false] at h; exact h.one.elim
      | true =>
        simp only [hq, cond_true] at h
        obtain rfl := ksEq_spec hq
        have h1 := h.hd
        have h2 := h.tl.one
        cases hv with
        | mp es h0 ha hk hh hd hs hr =>
          exact .mp es h0 ha (fun e he => let ⟨l, a, b⟩ := hk e he; ⟨l, a, by rw [← h1]; exact b⟩) (fun l hl => hh l (by rw [h1]; exact hl)) hd hs fun e l he hel => by
            obtain ⟨l', a, b⟩ := hk e he
            rw [hel] at a; cases a
            exact ih (h2 l (by rw [← h1]; exact b)).all (hr e l he hel)
    · cases hv
      have h1 := h.one
      exact .mp [] (fun _ => rfl) (fun g e => by cases e) (fun e he => by cases he) (fun l hl => by rw [h1] at hl; cases hl) List.Pairwise.nil (fun e he => by cases he) fun e l he => by cases he
    · exact le0_sound h hv
end

/-- New names for old: a row that is not there yet has none. -/
abbrev Ren := List (Nat × Option Nat)

def notKept (ρ : Ren) (id : Nat) : Bool := match ρ with
  | [] => true
  | (_, some a) :: r => bif Nat.beq a id then false else notKept r id
  | (_, none) :: r => notKept r id
def renIs (ρ : Ren) (new old : Nat) : Bool := match look ρ new with
  | some (some a) => Nat.beq a old
  | _ => false
def renOK : Ren → Bool
  | [] => true
  | (_, some a) :: r => bif notKept r a then renOK r else false
  | (_, none) :: r => renOK r

def leR0 (ρ : Ren) (ob : Heap) : DV → DV → List Prop
  | _, .any => []
  | .ptr id j, .ptr id' j' => bif renIs ρ id' id && Nat.beq j j' then [] else [False]
  | .row s id off len, .row s' id' off' len' => bif renIs ρ id' id && Nat.beq s s' then [off = off', len = len'] else [False]
  | .val (.slice none 0 0), .row _ id' off' len' => match look ρ id' with
    | some none => [off' = 0, len' = 0]
    | _ => [False]
  | .row s id off len, .lst n cols => match ob id with
    | some (.row n0 cols0) => bif notKept ρ id && Nat.beq cols0.length s then (off + len ≤ n0) :: (len = n) :: leC (leN 2) (cols0.map fun c i => c (off + i)) cols n else [False]
    | _ => [False]
  | .mph id, .mph id' => bif renIs ρ id' id then [] else [False]
  | .mph id, .mp ks has col => match ob id with
    | some (.map ks0 has0 col0 _) => bif notKept ρ id && ksEq ks0 ks then leN 3 (.mp ks0 has0 col0) (.mp ks has col) else [False]
    | _ => [False]
  | d, d' => bif d.closed then leN 3 d d' else [False]
def leRS (f : DV → DV → List Prop) (ρ : Ren) (ob : Heap) : DV → DV → List Prop
  | .agg cs, .agg ds => leL f cs ds
  | .clo g cs, .clo g' ds => bif Nat.beq g g' then leL f cs ds else [False]
  | .bnd g cs, .bnd g' ds => bif Nat.beq g g' then leL f cs ds else [False]
  | d, d' => leR0 ρ ob d d'
def leR (ρ : Ren) (ob : Heap) : Nat → DV → DV → List Prop
  | 0 => leR0 ρ ob
  | n + 1 => leRS (leR ρ ob n) ρ ob

def tmpsVC (ρ : Ren) (σ : St) : List (Nat × DV) → List Prop
  | [] => []
  | (t, d) :: r => leR ρ σ.obj 2 (σ.get t) d ++ tmpsVC ρ σ r
def objVC (ρ : Ren) (ob : Heap) : AObj → AObj → List Prop
  | .box cs, .box ds => leL (leR ρ ob 2) cs ds
  | .row n cols, .row n' cols' => (n = n') :: leC (leN 2) cols cols' n'
  | .row n cols, .srow n' cols' => (n = n') :: leC (leN 2) cols cols' n'
  | .srow n cols, .srow n' cols' => (n = n') :: leC (leN 2) cols cols' n'
  | .map ks has col _, .map ks' has' col' none => bif ksEq ks ks' then [∀ l, has l = has' l, ∀ l, has' l = true → AllT (leN 2 (col l) (col' l))] else [False]
  | .gmap ks len col _ none, .gmap ks' len' col' [] none => bif ksEq ks ks' then [∀ l, len l = len' l, ∀ l i, i < len' l → AllT (leN 2 (col l i) (col' l i))] else [False]
  | .exact g o, .exact g' o' => [g = g', o = o']
  | _, _ => [False]
def objsVC (ρ : Ren) (ob : Heap) : List (Nat × Option AObj) → Ren → List Prop
  | [], [] => []
  | (id, some o) :: r, (id', some q) :: ρ' => match ob q with
    | some o0 => bif Nat.beq id id' then objVC ρ ob o0 o ++ objsVC ρ ob r ρ' else [False]
    | none => [False]
  | (id, some (.row n _)) :: r, (id', none) :: ρ' => bif Nat.beq id id' then (n = 0) :: objsVC ρ ob r ρ' else [False]
  | _, _ => [False]
def belowAll (n : Nat) : Ren → Bool
  | [] => true
  | (id, _) :: r => bif Nat.blt id n then belowAll n r else false
/-- What is owed for saying σ' instead of σ, with new names for old. -/
def weakVC (ρ : Ren) (σ σ' : St) : List Prop :=
  bif renOK ρ && (belowAll σ'.nx ρ && (Nat.beq σ.nt σ'.nt && Nat.beq σ.lo σ'.lo)) then tmpsVC ρ σ σ'.t ++ objsVC ρ σ.obj σ'.h ρ else [False]
end Go.Abs
