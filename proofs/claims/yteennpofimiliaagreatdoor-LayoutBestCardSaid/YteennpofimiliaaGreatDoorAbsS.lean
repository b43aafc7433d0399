/- A state said otherwise: fewer names, other names, what follows from what. A state said otherwise: the theorem. -/
import Derived.Test.YteennpofimiliaaGreatDoorAbsQ
section
namespace Go.Abs
open Go.RowKit
def leV : Value → Value → List Prop
  | .int k x, .int k' y => if k = k' then [x = y] else [False]
  | .bool x, .bool y => [x = y]
  | .string x, .string y => [x = y]
  | v, u => [v = u]
def leVL : List Value → List Value → List Prop
  | [], [] => []
  | v :: r, u :: q => leV v u ++ leVL r q
  | _, _ => [False]
def le0 : DV → DV → List Prop
  | _, .any => []
  | .val (.agg vs), .val (.agg us) => leVL vs.toList us.toList
  | .val (.tuple vs), .val (.tuple us) => leVL vs.toList us.toList
  | .val v, .val u => leV v u
  | _, _ => [False]
def leC (f : DV → DV → List Prop) : List (Nat → DV) → List (Nat → DV) → Nat → List Prop
  | [], [], _ => []
  | c :: r, d :: q, n => (∀ i, i < n → AllT (f (c i) (d i))) :: leC f r q n
  | _, _, _ => [False]
def leL (f : DV → DV → List Prop) : List DV → List DV → List Prop
  | [], [] => []
  | c :: r, d :: q => f c d ++ leL f r q
  | _, _ => [False]
def leS (f : DV → DV → List Prop) : DV → DV → List Prop
  | .lst m cols, .lst m' cols' => (m = m') :: leC f cols cols' m'
  | .agg cs, .agg ds => leL f cs ds
  | .tup cs, .tup ds => leL f cs ds
  | .val (.tuple vs), .tup ds => leL f (vs.toList.map .val) ds
  | .tup cs, .val (.tuple us) => leL f cs (us.toList.map .val)
  | .val (.agg vs), .agg ds => leL f (vs.toList.map .val) ds
  | .agg cs, .val (.agg us) => leL f cs (us.toList.map .val)
  | .clo g cs, .clo g' ds => bif Nat.beq g g' then leL f cs ds else [False]
  | .cptr cs, .cptr ds => leL f cs ds
  | .val (.slice none 0 0), .lst n _ => [n = 0]
  | d, d' => le0 d d'
def leN : Nat → DV → DV → List Prop
  | 0 => le0
  | n + 1 => leS (leN n)
theorem leV_sound {v u : Value} (h : AllP (leV v u)) : v = u := by
  unfold leV at h
  split at h
  · split at h
    · rename_i hk; subst hk; rw [h.one]
    · exact h.one.elim
  · rw [h.one]
  · rw [h.one]
  · exact h.one
theorem leVL_sound : ∀ {l m : List Value}, AllP (leVL l m) → l = m
  | [], [], _ => rfl
  | v :: r, u :: q, h => by
    obtain ⟨h1, h2⟩ := AllP.app h
    rw [leV_sound h1, leVL_sound h2]
  | [], _ :: _, h => h.one.elim
  | _ :: _, [], h => h.one.elim
section
variable {rd : Rd} {kn kn' : Nat → Prop} {blk blk' : Nat → Option Loc}
theorem le0_sound {d d' : DV} {v : Value} (h : AllP (le0 d d')) (hv : Rel rd kn blk d v) : Rel rd kn' blk' d' v := by
  unfold le0 at h
  split at h
  · exact .any v
  · cases hv; rw [Array.ext' (leVL_sound h)]; exact .val _
  · cases hv; rw [Array.ext' (leVL_sound h)]; exact .val _
  · cases hv; rw [leV_sound h]; exact .val _
  · exact h.one.elim
theorem leC_sound {f : DV → DV → List Prop} : ∀ {c d : List (Nat → DV)} {n : Nat}, AllP (leC f c d n) → c.length = d.length ∧ ∀ (j : Nat) (x y : Nat → DV), c[j]? = some x → d[j]? = some y → ∀ i, i < n → AllP (f (x i) (y i))
  | [], [], _, _ => ⟨rfl, by simp⟩
  | x :: c, y :: d, n, h => by
    obtain ⟨h1, h2⟩ := leC_sound h.tl
    refine ⟨by simp [h1], fun j x' y' hx hy => ?_⟩
    cases j with
    | zero =>
      simp only [List.getElem?_cons_zero, Option.some.injEq] at hx hy
      subst hx hy
      exact fun i hi => (h.hd i hi).all
    | succ j => exact h2 j x' y' (by simpa using hx) (by simpa using hy)
  | [], _ :: _, _, h => h.one.elim
  | _ :: _, [], _, h => h.one.elim
theorem leL_sound {f : DV → DV → List Prop} : ∀ {c d : List DV}, AllP (leL f c d) → c.length = d.length ∧ ∀ (j : Nat) (x y : DV), c[j]? = some x → d[j]? = some y → AllP (f x y)
  | [], [], _ => ⟨rfl, by simp⟩
  | x :: c, y :: d, h => by
    obtain ⟨k1, k2⟩ := AllP.app h
    obtain ⟨h1, h2⟩ := leL_sound k2
    refine ⟨by simp [h1], fun j x' y' hx hy => ?_⟩
    cases j with
    | zero =>
      simp only [List.getElem?_cons_zero, Option.some.injEq] at hx hy
      subst hx hy
      exact k1
    | succ j => exact h2 j x' y' (by simpa using hx) (by simpa using hy)
  | [], _ :: _, h => h.one.elim
  | _ :: _, [], h => h.one.elim
theorem leL_cells {rd' : Rd} {f : DV → DV → List Prop} {cs ds : List DV} {vs : Array Value} (h : AllP (leL f cs ds)) (hf : ∀ {d d' v}, AllP (f d d') → Rel rd kn blk d v → Rel rd' kn' blk' d' v) (hs : vs.size = cs.length)
    (hr : ∀ (j : Nat) (d : DV) (u : Value), cs[j]? = some d → vs[j]? = some u → Rel rd kn blk d u) :
    vs.size = ds.length ∧ ∀ (j : Nat) (d : DV) (u : Value), ds[j]? = some d → vs[j]? = some u → Rel rd' kn' blk' d u := by
  obtain ⟨h1, h2⟩ := leL_sound h
  refine ⟨by omega, fun j d u hd hu => ?_⟩
  have hlt : j < cs.length := by rw [h1]; exact (List.getElem?_eq_some_iff.1 hd).1
  have hc : cs[j]? = some cs[j] := List.getElem?_eq_getElem hlt
  exact hf (h2 j _ _ hc hd) (hr j _ u hc hu)
theorem valCells {vs : Array Value} : ∀ (j : Nat) (d : DV) (u : Value), (vs.toList.map DV.val)[j]? = some d → vs[j]? = some u → Rel rd kn blk d u := by
  intro j d u hd hu
  simp only [List.getElem?_map, Array.getElem?_toList, hu, Option.map_some, Option.some.injEq] at hd
  subst hd; exact .val u
theorem leN_sound : ∀ (n : Nat) {d d' : DV} {v : Value}, AllP (leN n d d') → RelC rd d v → RelC rd d' v := by
  intro n
  induction n with
  | zero => intro d d' v h hv; exact le0_sound h hv
  | succ n ih =>
    intro d d' v h hv
    simp only [leN] at h
    generalize leN n = f at h ih
    unfold leS at h
    split at h
    · rename_i m cols m' cols'
      obtain ⟨h1, h2⟩ := leC_sound h.tl
      have hm := h.hd
      subst hm
      cases hv with
      | lst U hc ha hn ho hr =>
        have get : ∀ (j : Nat) (f : Nat → DV), cols'[j]? = some f → ∃ g, cols[j]? = some g := fun j f hf => by
          have hlt : j < cols.length := by rw [h1]; exact (List.getElem?_eq_some_iff.1 hf).1
          exact ⟨_, List.getElem?_eq_getElem hlt⟩
        refine .lst U hc (fun i j f hi hf => ?_) hn (fun i j f hi hf => ?_) fun i j f hi hf => ?_
        · obtain ⟨g, hg⟩ := get j f hf
          rw [← h1]; exact ha i j g hi hg
        · obtain ⟨g, hg⟩ := get j f hf
          exact ho i j g hi hg
        · obtain ⟨g, hg⟩ := get j f hf
          exact ih (h2 j g f hg hf i hi) (hr i j g hi hg)
    · cases hv with
      | agg hs hr => obtain ⟨a, b⟩ := leL_cells h (fun h hv => ih h hv) hs hr; exact .agg a b
    · cases hv with
      | tup hs hr => obtain ⟨a, b⟩ := leL_cells h (fun h hv => ih h hv) hs hr; exact .tup a b
    · cases hv; obtain ⟨a, b⟩ := leL_cells h (fun h hv => ih h hv) (by simp) valCells; exact .tup a b
    · cases hv with
      | tup hs hr =>
        rename_i us vs
        obtain ⟨a, b⟩ := leL_cells h (fun h hv => ih h hv) hs hr
        have : vs = us := by
          apply Array.ext
          · simpa using a
          · intro i h1 h2
            have := (b i (.val us[i]) vs[i] (by simp [h2]) (by simp [h1])).val_eq
            exact this
        rw [this]; exact .val _
    · cases hv; obtain ⟨a, b⟩ := leL_cells h (fun h hv => ih h hv) (by simp) valCells; exact .agg a b
    · cases hv with
      | agg hs hr =>
        rename_i us vs
        obtain ⟨a, b⟩ := leL_cells h (fun h hv => ih h hv) hs hr
        have : vs = us := by
          apply Array.ext
          · simpa using a
          · intro i h1 h2
            have := (b i (.val us[i]) vs[i] (by simp [h2]) (by simp [h1])).val_eq
            exact this
        rw [this]; exact .val _
    · rename_i g cs g' ds
      cases hb : Nat.beq g g' with
      | false => simp only [hb, cond_false] at h; exact h.one.elim
      | true =>
        simp only [hb, cond_true] at h
        obtain rfl := Nat.eq_of_beq_eq_true hb
        cases hv with
        | clo hs hr => obtain ⟨a, b⟩ := leL_cells h (fun h hv => ih h hv) hs hr; exact .clo a b
    · cases hv with
      | cptr U ha hr =>
        obtain ⟨h1, h2⟩ := leL_sound h
        refine .cptr U (fun j d hd => ?_) fun j d hd => ?_
        · exact ha j _ (List.getElem?_eq_getElem (by rw [h1]; exact (List.getElem?_eq_some_iff.1 hd).1))
        · have hc := List.getElem?_eq_getElem (l := _) (show j < _ by rw [h1]; exact (List.getElem?_eq_some_iff.1 hd).1)
          exact ih (h2 j _ _ hc hd) (hr j _ hc)
    · cases hv
      have hn := h.one
      subst hn
      exact .lst (fun _ _ => undef) (Nat.le_refl _) (fun i j f hi => by omega) (fun h => by omega) (fun i j f hi => by omega) fun i j f hi => by omega
    · exact le0_sound h hv
end
abbrev Ren := List (Nat × Option Nat)
def notKept (ρ : Ren) (id : Nat) : Bool := match ρ with
  | [] => true
  | (_, some a) :: r => bif Nat.beq a id then false else notKept r id
  | (_, none) :: r => notKept r id
def renIs (ρ : Ren) (new old : Nat) : Bool := match look ρ new with
  | some (some a) => Nat.beq a old
  | _ => false
def renOK : Ren → Bool
  | [] => true
  | (_, some a) :: r => bif notKept r a then renOK r else false
  | (_, none) :: r => renOK r
def leR0 (ρ : Ren) (ob : Heap) : DV → DV → List Prop
  | _, .any => []
  | .ptr id j, .ptr id' j' => bif renIs ρ id' id && Nat.beq j j' then [] else [False]
  | .row s id off len, .row s' id' off' len' => bif renIs ρ id' id && Nat.beq s s' then [off = off', len = len'] else [False]
  | .val (.slice none 0 0), .row _ id' off' len' => match look ρ id' with
    | some none => [off' = 0, len' = 0]
    | _ => [False]
  | .row s id off len, .lst n cols => match ob id with
    | some (.row n0 cols0) => bif notKept ρ id && Nat.beq cols0.length s then (off + len ≤ n0) :: (len = n) :: leC (leN 2) (cols0.map fun c i => c (off + i)) cols n else [False]
    | _ => [False]
  | d, d' => bif d.closed then leN 3 d d' else [False]
def leRS (f : DV → DV → List Prop) (ρ : Ren) (ob : Heap) : DV → DV → List Prop
  | .agg cs, .agg ds => leL f cs ds
  | .clo g cs, .clo g' ds => bif Nat.beq g g' then leL f cs ds else [False]
  | d, d' => leR0 ρ ob d d'
def leR (ρ : Ren) (ob : Heap) : Nat → DV → DV → List Prop
  | 0 => leR0 ρ ob
  | n + 1 => leRS (leR ρ ob n) ρ ob
def tmpsVC (ρ : Ren) (σ : St) : List (Nat × DV) → List Prop
  | [] => []
  | (t, d) :: r => leR ρ σ.obj 2 (σ.get t) d ++ tmpsVC ρ σ r
def objVC (ρ : Ren) (ob : Heap) : AObj → AObj → List Prop
  | .box cs, .box ds => leL (leR ρ ob 2) cs ds
  | .row n cols, .row n' cols' => (n = n') :: leC (leN 2) cols cols' n'
  | _, _ => [False]
def objsVC (ρ : Ren) (ob : Heap) : List (Nat × Option AObj) → Ren → List Prop
  | [], [] => []
  | (id, some o) :: r, (id', some q) :: ρ' => match ob q with
    | some o0 => bif Nat.beq id id' then objVC ρ ob o0 o ++ objsVC ρ ob r ρ' else [False]
    | none => [False]
  | (id, some (.row n _)) :: r, (id', none) :: ρ' => bif Nat.beq id id' then (n = 0) :: objsVC ρ ob r ρ' else [False]
  | _, _ => [False]
def belowAll (n : Nat) : Ren → Bool
  | [] => true
  | (id, _) :: r => bif Nat.blt id n then belowAll n r else false
def weakVC (ρ : Ren) (σ σ' : St) : List Prop :=
  bif renOK ρ && (belowAll σ'.nx ρ && Nat.beq σ.nt σ'.nt) then tmpsVC ρ σ σ'.t ++ objsVC ρ σ.obj σ'.h ρ else [False]
end Go.Abs
end
section
set_option linter.unusedVariables false
namespace Go.Abs
open Go.RowKit
theorem notKept_spec {id : Nat} : ∀ {ρ : Ren}, notKept ρ id = true → ∀ {i a : Nat}, look ρ i = some (some a) → a ≠ id
  | (k, some b) :: r, h, i, a, hl => by
    simp only [notKept] at h
    cases hb : Nat.beq b id with
    | true => simp [hb] at h
    | false =>
      simp only [hb, cond_false] at h
      rw [look_cons] at hl
      by_cases e : k = i
      · simp only [e, if_true, Option.some.injEq] at hl
        subst hl
        rintro rfl
        simp at hb
      · rw [if_neg e] at hl; exact notKept_spec h hl
  | (k, none) :: r, h, i, a, hl => by
    simp only [notKept] at h
    rw [look_cons] at hl
    by_cases e : k = i
    · simp [e] at hl
    · rw [if_neg e] at hl; exact notKept_spec h hl
  | [], _, i, a, hl => by simp [look] at hl
theorem renOK_spec : ∀ {ρ : Ren}, renOK ρ = true → ∀ {i i' a : Nat}, look ρ i = some (some a) → look ρ i' = some (some a) → i = i'
  | (k, some b) :: r, h, i, i', a, h1, h2 => by
    simp only [renOK] at h
    cases hb : notKept r b with
    | false => simp [hb] at h
    | true =>
      simp only [hb, cond_true] at h
      rw [look_cons] at h1 h2
      by_cases e1 : k = i <;> by_cases e2 : k = i'
      · rw [← e1, ← e2]
      · simp only [e1, if_true, Option.some.injEq] at h1
        rw [if_neg e2] at h2
        exact absurd h1.symm (notKept_spec hb h2)
      · simp only [e2, if_true, Option.some.injEq] at h2
        rw [if_neg e1] at h1
        exact absurd h2.symm (notKept_spec hb h1)
      · rw [if_neg e1] at h1
        rw [if_neg e2] at h2
        exact renOK_spec h h1 h2
  | (k, none) :: r, h, i, i', a, h1, h2 => by
    simp only [renOK] at h
    rw [look_cons] at h1 h2
    by_cases e1 : k = i
    · simp [e1] at h1
    · by_cases e2 : k = i'
      · simp [e2] at h2
      · rw [if_neg e1] at h1
        rw [if_neg e2] at h2
        exact renOK_spec h h1 h2
  | [], _, i, i', a, h1, _ => by simp [look] at h1
theorem belowAll_spec {n : Nat} : ∀ {ρ : Ren}, belowAll n ρ = true → ∀ {i : Nat} {x : Option Nat}, look ρ i = some x → i < n
  | (k, b) :: r, h, i, x, hl => by
    simp only [belowAll] at h
    cases hb : Nat.blt k n with
    | false => simp [hb] at h
    | true =>
      simp only [hb, cond_true] at h
      rw [look_cons] at hl
      by_cases e : k = i
      · subst e; exact Nat.le_of_ble_eq_true hb
      · rw [if_neg e] at hl; exact belowAll_spec h hl
  | [], _, i, x, hl => by simp [look] at hl
theorem renIs_spec {ρ : Ren} {i a : Nat} (h : renIs ρ i a = true) : look ρ i = some (some a) := by
  unfold renIs at h
  split at h
  · rename_i b hb; rw [hb, Nat.eq_of_beq_eq_true h]
  · cases h
def knOf (ρ : Ren) (id : Nat) : Prop := ∃ x, look ρ id = some x
def blkOf (ρ : Ren) (blk : Nat → Option Loc) (id : Nat) : Option Loc := match look ρ id with
  | some (some a) => blk a
  | some none => some .nil
  | none => none
section
variable {base : Nat} {w0 w : World} {S0 : Env} {σ σ' : St} {kn : Nat → Prop} {blk : Nat → Option Loc} {a : Act} {ρ : Ren}
theorem blkOf_at {id g C : Nat} (h : blkOf ρ blk id = some (.at_ g C)) : ∃ b, look ρ id = some (some b) ∧ blk b = some (.at_ g C) := by
  unfold blkOf at h
  split at h
  · rename_i b hb; exact ⟨b, hb, h⟩
  · simp at h
  · cases h
theorem rd_ren {ad : Addr} {u : Value} (h : rdOf w base S0 blk ad u) : rdOf w base S0 (blkOf ρ blk) ad u :=
  ⟨h.1, fun id g C e => let ⟨b, _, hb⟩ := blkOf_at e; h.2.1 b g C hb, h.2.2⟩
theorem relC_ren {d : DV} {v : Value} (h : RelC (rdOf w base S0 blk) d v) : RelC (rdOf w base S0 (blkOf ρ blk)) d v :=
  h.mono (fun _ _ h => rd_ren h) (fun _ h => h) fun _ _ h => h.elim
theorem leR0_sound (r : R base w0 S0 σ kn blk a w) {d d' : DV} {v : Value} (h : AllP (leR0 ρ σ.obj d d')) (hv : Rel (rdOf w base S0 blk) kn blk d v) : Rel (rdOf w base S0 (blkOf ρ blk)) (knOf ρ) (blkOf ρ blk) d' v := by
  unfold leR0 at h
  split at h
  · exact .any v
  · rename_i id j id' j'
    cases hb : (renIs ρ id' id && Nat.beq j j') with
    | false => simp only [hb, cond_false] at h; exact h.one.elim
    | true =>
      simp only [Bool.and_eq_true] at hb
      have hl := renIs_spec hb.1
      obtain rfl := Nat.eq_of_beq_eq_true hb.2
      cases hv with
      | ptr hk hp hh => exact .ptr ⟨_, hl⟩ hp fun g C e => by unfold blkOf at e; rw [hl] at e; exact hh g C e
  · rename_i s id off len s' id' off' len'
    cases hb : (renIs ρ id' id && Nat.beq s s') with
    | false => simp only [hb, cond_false] at h; exact h.one.elim
    | true =>
      simp only [hb, cond_true] at h
      simp only [Bool.and_eq_true] at hb
      have hl := renIs_spec hb.1
      obtain rfl := Nat.eq_of_beq_eq_true hb.2
      have e1 := h.hd
      have e2 := h.tl.one
      subst e1 e2
      cases hv with
      | row hk hp h0 hh =>
        exact .row ⟨_, hl⟩ hp (fun e => by unfold blkOf at e; rw [hl] at e; exact h0 e) fun g C e => by unfold blkOf at e; rw [hl] at e; exact hh g C e
  · rename_i s id' off' len'
    split at h
    · rename_i hl
      cases hv
      have e1 := h.hd
      have e2 := h.tl.one
      subst e1 e2
      exact .row ⟨_, hl⟩ ⟨_, _, rfl⟩ (fun _ => ⟨rfl, rfl, rfl⟩) fun g C e => by unfold blkOf at e; rw [hl] at e; simp at e
    · exact h.one.elim
  · rename_i s id off len n cols
    split at h
    · rename_i n0 cols0 hob
      cases hb : (notKept ρ id && Nat.beq cols0.length s) with
      | false => simp only [hb, cond_false] at h; exact h.one.elim
      | true =>
        simp only [hb, cond_true] at h
        simp only [Bool.and_eq_true] at hb
        obtain rfl := Nat.eq_of_beq_eq_true hb.2
        have hle := h.hd
        have hn := h.tl.hd
        subst hn
        obtain ⟨h1, h2⟩ := leC_sound h.tl.tl
        have hlc : cols.length = cols0.length := by rw [← h1]; simp
        have hisr : isRow σ.obj id cols0.length = true := by unfold isRow; rw [hob]; exact hb.2
        obtain ⟨_, hor⟩ := r.objs _ _ hob
        obtain ⟨_, ⟨rfl, _, rfl, _⟩ | ⟨g, C, rfl, hC, hl⟩ | ⟨_, rfl, p, c, rfl⟩⟩ := row_val r hisr hv
        rotate_left 2
        · exact .lst (fun _ _ => undef) (Nat.zero_le _) (fun i j f hi => by omega) (fun h => by omega) (fun i j f hi => by omega) fun i j f hi => by omega
        · exact .lst (fun _ _ => undef) (Nat.le_refl _) (fun i j f hi => by omega) (fun h => by omega) (fun i j f hi => by omega) fun i j f hi => by omega
        · rcases hor with ⟨hln, _⟩ | ⟨g', C', cv, T, hl', hh, hsz, hn', hrel⟩
          · rw [hln] at hl; cases hl
          · rw [hl] at hl'
            cases hl'
            have key : ∀ (i j : Nat) (f : Nat → DV), i < len → cols[j]? = some f → ∃ u, w.cell? (Addr.add ⟨g, off * cols0.length, none⟩ (i * cols.length + j)) = some u ∧ oneV u = true ∧ RelC (rdOf w base S0 (blkOf ρ blk)) (f i) u := by
              intro i j f hi hf
              have hj : j < cols0.length := by rw [← hlc]; exact (List.getElem?_eq_some_iff.1 hf).1
              have hcj : cols0[j]? = some cols0[j] := List.getElem?_eq_getElem hj
              obtain ⟨u, hu, ho, hre⟩ := hrel (off + i) j _ (by omega) hcj
              refine ⟨u, ?_, ho, relC_ren (leN_sound 2 (h2 j _ f (by rw [List.getElem?_map, hcj]; rfl) hf i hi) hre)⟩
              rw [add_off, hlc]
              simp only [World.cell?, hh]
              rw [show off * cols0.length + (i * cols0.length + j) = (off + i) * cols0.length + j by rw [Nat.add_mul]; omega, hu]
              rfl
            refine .lst (fun i j => (w.cell? (Addr.add ⟨g, off * cols0.length, none⟩ (i * cols.length + j))).getD undef) (by omega) (fun i j f hi hf => ⟨_, rfl, ?_, fun id2 g2 C2 e => ?_, ?_⟩) (fun _ h => by cases h) (fun i j f hi hf => ?_) fun i j f hi hf => ?_
            · obtain ⟨u, hu, _⟩ := key i j f hi hf
              rw [hu]; rfl
            · obtain ⟨b, hb1, hb2⟩ := blkOf_at e
              rw [add_off]
              rintro rfl
              exact notKept_spec hb.1 hb1 (r.inj _ _ _ _ _ hb2 hl)
            · rw [add_off]; exact .inr (r.ge _ _ _ hl).1
            · obtain ⟨u, hu, ho, _⟩ := key i j f hi hf
              rw [hu]; exact ho
            · obtain ⟨u, hu, _, hr⟩ := key i j f hi hf
              rw [hu]; exact hr
    · exact h.one.elim
  · cases hc : d.closed with
    | false => simp only [hc, cond_false] at h; exact h.one.elim
    | true =>
      simp only [hc, cond_true] at h
      exact relC_open (relC_ren (leN_sound 3 h (hv.close hc)))
theorem leR_sound (r : R base w0 S0 σ kn blk a w) : ∀ (n : Nat) {d d' : DV} {v : Value}, AllP (leR ρ σ.obj n d d') → Rel (rdOf w base S0 blk) kn blk d v → Rel (rdOf w base S0 (blkOf ρ blk)) (knOf ρ) (blkOf ρ blk) d' v := by
  intro n
  induction n with
  | zero => intro d d' v h hv; exact leR0_sound r h hv
  | succ n ih =>
    intro d d' v h hv
    simp only [leR] at h
    generalize leR ρ σ.obj n = f at h ih
    unfold leRS at h
    split at h
    · cases hv with
      | agg hs hr => obtain ⟨x, y⟩ := leL_cells h (fun h hv => ih h hv) hs hr; exact .agg x y
    · rename_i g cs g' ds
      cases hb : Nat.beq g g' with
      | false => simp only [hb, cond_false] at h; exact h.one.elim
      | true =>
        simp only [hb, cond_true] at h
        obtain rfl := Nat.eq_of_beq_eq_true hb
        cases hv with
        | clo hs hr => obtain ⟨x, y⟩ := leL_cells h (fun h hv => ih h hv) hs hr; exact .clo x y
    · exact leR0_sound r h hv
theorem tmpsVC_spec : ∀ {l : List (Nat × DV)}, AllP (tmpsVC ρ σ l) → ∀ {t : Nat} {d : DV}, look l t = some d → AllP (leR ρ σ.obj 2 (σ.get t) d)
  | (k, d0) :: r, h, t, d, hl => by
    obtain ⟨h1, h2⟩ := AllP.app h
    rw [look_cons] at hl
    by_cases e : k = t
    · subst e
      simp only [if_true, Option.some.injEq] at hl
      subst hl; exact h1
    · rw [if_neg e] at hl; exact tmpsVC_spec h2 hl
  | [], _, t, d, hl => by simp [look] at hl
theorem objsVC_spec {ob : Heap} : ∀ {l : List (Nat × Option AObj)} {ρ' : Ren}, AllP (objsVC ρ ob l ρ') → ∀ {id : Nat},
    (∀ x, look l id = some x → ∃ o, x = some o ∧ ((∃ q o0, look ρ' id = some (some q) ∧ ob q = some o0 ∧ AllP (objVC ρ ob o0 o)) ∨ (look ρ' id = some none ∧ ∃ cols, o = .row 0 cols))) ∧ (∀ x, look ρ' id = some x → ∃ o, look l id = some (some o))
  | [], [], _, id => ⟨fun x h => by simp [look] at h, fun x h => by simp [look] at h⟩
  | (i, some o) :: r, (i', some q) :: ρ', h, id => by
    simp only [objsVC] at h
    split at h
    · rename_i o0 hq
      cases hb : Nat.beq i i' with
      | false => simp only [hb, cond_false] at h; exact h.one.elim
      | true =>
        simp only [hb, cond_true] at h
        obtain rfl := Nat.eq_of_beq_eq_true hb
        obtain ⟨h1, h2⟩ := AllP.app h
        obtain ⟨k1, k2⟩ := objsVC_spec h2 (id := id)
        simp only [look_cons]
        by_cases e : i = id
        · simp only [e, if_true]
          exact ⟨fun x hx => by cases hx; exact ⟨o, rfl, .inl ⟨q, o0, rfl, hq, h1⟩⟩, fun x hx => ⟨o, rfl⟩⟩
        · simp only [e, if_false]; exact ⟨k1, k2⟩
    · exact h.one.elim
  | (i, some (.row n cols)) :: r, (i', none) :: ρ', h, id => by
    simp only [objsVC] at h
    cases hb : Nat.beq i i' with
    | false => simp only [hb, cond_false] at h; exact h.one.elim
    | true =>
      simp only [hb, cond_true] at h
      obtain rfl := Nat.eq_of_beq_eq_true hb
      have hn := h.hd
      subst hn
      obtain ⟨k1, k2⟩ := objsVC_spec h.tl (id := id)
      simp only [look_cons]
      by_cases e : i = id
      · simp only [e, if_true]
        exact ⟨fun x hx => by cases hx; exact ⟨_, rfl, .inr ⟨by trivial, cols, rfl⟩⟩, fun x hx => ⟨_, rfl⟩⟩
      · simp only [e, if_false]; exact ⟨k1, k2⟩
  | (i, some (.box cs)) :: r, (i', none) :: ρ', h, id => by simp only [objsVC] at h; exact h.one.elim
  | (i, none) :: r, (i', none) :: ρ', h, id => by simp only [objsVC] at h; exact h.one.elim
  | (i, none) :: r, (i', some q) :: ρ', h, id => by simp only [objsVC] at h; exact h.one.elim
  | [], x :: ρ', h, id => by simp only [objsVC] at h; exact h.one.elim
  | (i, some (.row n cols)) :: r, [], h, id => by simp only [objsVC] at h; exact h.one.elim
  | (i, some (.box cs)) :: r, [], h, id => by simp only [objsVC] at h; exact h.one.elim
  | (i, none) :: r, [], h, id => by simp only [objsVC] at h; exact h.one.elim
theorem weaken (hsh : S0.sh = []) (h : AllP (weakVC ρ σ σ')) (hf : Fits base w0 S0 σ a w) : Fits base w0 S0 σ' a w := by
  obtain ⟨kn, blk, r, hk⟩ := hf
  unfold weakVC at h
  cases hb : (renOK ρ && (belowAll σ'.nx ρ && Nat.beq σ.nt σ'.nt)) with
  | false => simp only [hb, cond_false] at h; exact h.one.elim
  | true =>
    simp only [hb, cond_true] at h
    simp only [Bool.and_eq_true] at hb
    obtain ⟨hb1, hb2, hb3⟩ := hb
    have hnt := Nat.eq_of_beq_eq_true hb3
    obtain ⟨h1, h2⟩ := AllP.app h
    refine ⟨knOf ρ, blkOf ρ blk, ⟨r.below, r.hbase, r.dfr, r.kpo, fun d v h => relC_open (relC_ren (r.glob d v (by rw [hsh, List.append_nil] at h; exact h))), r.size.trans hnt, fun t => ?_, fun id o ho => ?_, fun i i' g C C' e1 e2 => ?_, fun i g C e => ?_, fun i l e => ?_⟩, fun i ⟨x, hx⟩ => belowAll_spec hb2 hx⟩
    · unfold St.get
      cases hl : look σ'.t t with
      | none => exact .any _
      | some d => exact leR_sound r 2 (tmpsVC_spec h1 hl) (r.tmps t)
    · unfold St.obj at ho
      cases hl : look σ'.h id with
      | none => simp [hl] at ho
      | some x =>
        simp only [hl] at ho
        subst ho
        obtain ⟨o', e, hx⟩ := (objsVC_spec h2 (id := id)).1 _ hl
        cases e
        rcases hx with ⟨q, o0, hq, hob, hvc⟩ | ⟨hq, cols, rfl⟩
        · refine ⟨⟨_, hq⟩, ?_⟩
          have hblk : blkOf ρ blk id = blk q := by unfold blkOf; rw [hq]
          rw [hblk]
          obtain ⟨_, hor⟩ := r.objs _ _ hob
          cases o0 with
          | box cs =>
            cases o with
            | box ds =>
              obtain ⟨g, C, cv, T, hl, hh, hs, hr⟩ := hor
              obtain ⟨e1, e2⟩ := leL_cells hvc (fun h hv => leR_sound r 2 h hv) hs hr
              exact ⟨g, C, cv, T, hl, hh, e1, e2⟩
            | row n cols => exact hvc.one.elim
          | row n cols =>
            cases o with
            | box ds => exact hvc.one.elim
            | row n' cols' =>
              have hn := hvc.hd
              subst hn
              obtain ⟨k1, k2⟩ := leC_sound hvc.tl
              rcases hor with ⟨hl, hn⟩ | ⟨g, C, cv, T, hl, hh, hs, hn, hr⟩
              · exact .inl ⟨hl, hn⟩
              · refine .inr ⟨g, C, cv, T, hl, hh, by rw [← k1]; exact hs, hn, fun i j f hi hf => ?_⟩
                have hj : j < cols.length := by rw [k1]; exact (List.getElem?_eq_some_iff.1 hf).1
                have hcj : cols[j]? = some cols[j] := List.getElem?_eq_getElem hj
                obtain ⟨u, hu, ho, hre⟩ := hr i j _ hi hcj
                rw [← k1]
                exact ⟨u, hu, ho, relC_ren (leN_sound 2 (k2 j _ f hcj hf i hi) hre)⟩
        · refine ⟨⟨_, hq⟩, .inl ⟨?_, rfl⟩⟩
          unfold blkOf; rw [hq]
    · obtain ⟨b, hb1', hb2'⟩ := blkOf_at e1
      obtain ⟨b', hb1'', hb2''⟩ := blkOf_at e2
      have := r.inj _ _ _ _ _ hb2' hb2''
      subst this
      exact renOK_spec hb1 hb1' hb1''
    · obtain ⟨b, _, hb⟩ := blkOf_at e
      exact r.ge _ _ _ hb
    · have : ∃ x, look ρ i = some x := by
        unfold blkOf at e
        split at e
        · rename_i b hb; exact ⟨_, hb⟩
        · rename_i hb; exact ⟨_, hb⟩
        · cases e
      obtain ⟨x, hx⟩ := this
      obtain ⟨o, ho⟩ := (objsVC_spec h2 (id := i)).2 x hx
      exact ⟨o, by unfold St.obj; rw [ho]⟩
end
end Go.Abs
end
