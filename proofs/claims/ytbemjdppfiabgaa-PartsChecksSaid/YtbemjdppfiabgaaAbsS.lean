/- A state said otherwise: the theorem. -/
import Derived.Test.YtbemjdppfiabgaaAbsR
set_option linter.unusedVariables false
namespace Go.Abs
open Go.RowKit

theorem notKept_spec {id : Nat} : ∀ {ρ : Ren}, notKept ρ id = true → ∀ {i a : Nat}, look ρ i = some (some a) → a ≠ id
  | (k, some b) :: r, h, i, a, hl => by
    simp only [notKept] at h
    cases hb : Nat.beq b id with
    | true => simp [hb] at h
    | false =>
      simp only [hb, cond_false] at h
      rw [look_cons] at hl
      by_cases e : k = i
      · simp only [e, if_true, Option.some.injEq] at hl
        subst hl
        rintro rfl
        simp at hb
      · rw [if_neg e] at hl; exact notKept_spec h hl
  | (k, none) :: r, h, i, a, hl => by
    simp only [notKept] at h
    rw [look_cons] at hl
    by_cases e : k = i
    · simp [e] at hl
    · rw [if_neg e] at hl; exact notKept_spec h hl
  | [], _, i, a, hl => by simp [look] at hl

theorem renOK_spec : ∀ {ρ : Ren}, renOK ρ = true → ∀ {i i' a : Nat}, look ρ i = some (some a) → look ρ i' = some (some a) → i = i'
  | (k, some b) :: r, h, i, i', a, h1, h2 => by
    simp only [renOK] at h
    cases hb : notKept r b with
    | false => simp [hb] at h
    | true =>
      simp only [hb, cond_true] at h
      rw [look_cons] at h1 h2
      by_cases e1 : k = i <;> by_cases e2 : k = i'
      · rw [← e1, ← e2]
      · simp only [e1, if_true, Option.some.injEq] at h1
        rw [if_neg e2] at h2
        exact absurd h1.symm (notKept_spec hb h2)
      · simp only [e2, if_true, Option.some.injEq] at h2
        rw [if_neg e1] at h1
        exact absurd h2.symm (notKept_spec hb h1)
      · rw [if_neg e1] at h1
        rw [if_neg e2] at h2
        exact renOK_spec h h1 h2
  | (k, none) :: r, h, i, i', a, h1, h2 => by
    simp only [renOK] at h
    rw [look_cons] at h1 h2
    by_cases e1 : k = i
    · simp [e1] at h1
    · by_cases e2 : k = i'
      · simp [e2] at h2
      · rw [if_neg e1] at h1
        rw [if_neg e2] at h2
        exact renOK_spec h h1 h2
  | [], _, i, i', a, h1, _ => by simp [look] at h1

theorem belowAll_spec {n : Nat} : ∀ {ρ : Ren}, belowAll n ρ = true → ∀ {i : Nat} {x : Option Nat}, look ρ i = some x → i < n
  | (k, b) :: r, h, i, x, hl => by
    simp only [belowAll] at h
    cases hb : Nat.blt k n with
    | false => simp [hb] at h
    | true =>
      simp only [hb, cond_true] at h
      rw [look_cons] at hl
      by_cases e : k = i
      · subst e; exact Nat.le_of_ble_eq_true hb
      · rw [if_neg e] at hl; exact belowAll_spec h hl
  | [], _, i, x, hl => by simp [look] at hl

theorem renIs_spec {ρ : Ren} {i a : Nat} (h : renIs ρ i a = true) : look ρ i = some (some a) := by
  unfold renIs at h
  split at h
  · rename_i b hb; rw [hb, Nat.eq_of_beq_eq_true h]
  · cases h

def knOf (ρ : Ren) (id : Nat) : Prop := ∃ x, look ρ id = some x
def blkOf (ρ : Ren) (blk : Nat → Option Loc) (id : Nat) : Option Loc := match look ρ id with
  | some (some a) => blk a
  | some none => some .nil
  | none => none

section
variable {base : Nat} {w0 w : World} {S0 : Env} {σ σ' : St} {kn : Nat → Prop} {blk : Nat → Option Loc} {a : Act} {ρ : Ren}

theorem blkOf_at {id g : Nat} {l : Loc} (h : blkOf ρ blk id = some l) (hg : l.has g) : ∃ b, look ρ id = some (some b) ∧ blk b = some l := by
  unfold blkOf at h
  split at h
  · rename_i b hb; exact ⟨b, hb, h⟩
  · cases h; exact hg.elim
  · cases h

theorem rd_ren {ad : Addr} {u : Value} (h : rdOf w base S0 blk ad u) : rdOf w base S0 (blkOf ρ blk) ad u :=
  ⟨h.1, fun id l e hg => let ⟨b, _, hb⟩ := blkOf_at e hg; h.2.1 b l hb hg, h.2.2⟩
theorem relC_ren {d : DV} {v : Value} (h : RelC (rdOf w base S0 blk) d v) : RelC (rdOf w base S0 (blkOf ρ blk)) d v :=
  h.mono (fun _ _ h => rd_ren h) (fun _ h => h) fun _ _ h => h.elim

theorem leR0_sound (r : R base w0 S0 σ kn blk a w) {d d' : DV} {v : Value} (h : AllP (leR0 ρ σ.obj d d')) (hv : Rel (rdOf w base S0 blk) kn blk d v) : Rel (rdOf w base S0 (blkOf ρ blk)) (knOf ρ) (blkOf ρ blk) d' v := by
  unfold leR0 at h
  split at h
  · exact .any v
  · rename_i id j id' j'
    cases hb : (renIs ρ id' id && Nat.beq j j') with
    | false => simp only [hb, cond_false] at h; exact h.one.elim
    | true =>
      simp only [Bool.and_eq_true] at hb
      have hl := renIs_spec hb.1
      obtain rfl := Nat.eq_of_beq_eq_true hb.2
      cases hv with
      | ptr hk hp hh => exact .ptr ⟨_, hl⟩ hp fun g C e => by unfold blkOf at e; rw [hl] at e; exact hh g C e
  · rename_i s id off len s' id' off' len'
    cases hb : (renIs ρ id' id && Nat.beq s s') with
    | false => simp only [hb, cond_false] at h; exact h.one.elim
    | true =>
      simp only [hb, cond_true] at h
      simp only [Bool.and_eq_true] at hb
      have hl := renIs_spec hb.1
      obtain rfl := Nat.eq_of_beq_eq_true hb.2
      have e1 := h.hd
      have e2 := h.tl.one
      subst e1 e2
      cases hv with
      | row hk hp h0 hh hs =>
        exact .row ⟨_, hl⟩ hp (fun e => by unfold blkOf at e; rw [hl] at e; exact h0 e) (fun g C e => by unfold blkOf at e; rw [hl] at e; exact hh g C e) fun g o C e => by unfold blkOf at e; rw [hl] at e; exact hs g o C e
  · rename_i s id' off' len'
    split at h
    · rename_i hl
      cases hv
      have e1 := h.hd
      have e2 := h.tl.one
      subst e1 e2
      exact .row ⟨_, hl⟩ ⟨_, _, rfl, fun _ => rfl⟩ (fun _ => ⟨rfl, rfl, rfl⟩) (fun g C e => by unfold blkOf at e; rw [hl] at e; simp at e) fun g o C e => by unfold blkOf at e; rw [hl] at e; simp at e
    · exact h.one.elim
  · rename_i s id off len n cols
    split at h
    · rename_i n0 cols0 hob
      cases hb : (notKept ρ id && Nat.beq cols0.length s) with
      | false => simp only [hb, cond_false] at h; exact h.one.elim
      | true =>
        simp only [hb, cond_true] at h
        simp only [Bool.and_eq_true] at hb
        obtain rfl := Nat.eq_of_beq_eq_true hb.2
        have hle := h.hd
        have hn := h.tl.hd
        subst hn
        obtain ⟨h1, h2⟩ := leC_sound h.tl.tl
        have hlc : cols.length = cols0.length := by rw [← h1]; simp
        have hisr : isRow σ.obj id cols0.length = true := by unfold isRow; rw [hob]; exact hb.2
        obtain ⟨_, hor⟩ := r.objs _ _ hob
        obtain ⟨_, ⟨rfl, _, rfl, _⟩ | ⟨g, C, rfl, hC, hl⟩ | ⟨_, rfl, p, c, rfl⟩⟩ := row_val r hisr hv
        rotate_left 2
        · exact .lst (fun _ _ => undef) (Nat.zero_le _) (fun i j f hi => by omega) (fun h => by omega) (fun i j f hi => by omega) fun i j f hi => by omega
        · exact .lst (fun _ _ => undef) (Nat.le_refl _) (fun i j f hi => by omega) (fun h => by omega) (fun i j f hi => by omega) fun i j f hi => by omega
        · rcases hor with ⟨hln, _⟩ | ⟨g', C', cv, T, hl', hh, hsz, hn', hrel⟩
          · rw [hln] at hl; cases hl
          · rw [hl] at hl'
            cases hl'
            have key : ∀ (i j : Nat) (f : Nat → DV), i < len → cols[j]? = some f → ∃ u, w.cell? (Addr.add ⟨g, off * cols0.length, none⟩ (i * cols.length + j)) = some u ∧ oneV u = true ∧ RelC (rdOf w base S0 (blkOf ρ blk)) (f i) u := by
              intro i j f hi hf
              have hj : j < cols0.length := by rw [← hlc]; exact (List.getElem?_eq_some_iff.1 hf).1
              have hcj : cols0[j]? = some cols0[j] := List.getElem?_eq_getElem hj
              obtain ⟨u, hu, ho, hre⟩ := hrel (off + i) j _ (by omega) hcj
              refine ⟨u, ?_, ho, relC_ren (leN_sound 2 (h2 j _ f (by rw [List.getElem?_map, hcj]; rfl) hf i hi) hre)⟩
              rw [add_off, hlc]
              simp only [World.cell?, hh]
              rw [show off * cols0.length + (i * cols0.length + j) = (off + i) * cols0.length + j by rw [Nat.add_mul]; omega, hu]
              rfl
            refine .lst (fun i j => (w.cell? (Addr.add ⟨g, off * cols0.length, none⟩ (i * cols.length + j))).getD undef) (by omega) (fun i j f hi hf => ⟨_, rfl, .inl ⟨?_, ?_⟩, fun id2 l2 e hg2 => ?_, ?_, ?_⟩) (fun _ h => by cases h) (fun i j f hi hf => ?_) fun i j f hi hf => ?_
            · obtain ⟨u, hu, _⟩ := key i j f hi hf
              rw [hu]; rfl
            · obtain ⟨u, hu, ho, _⟩ := key i j f hi hf
              rw [hu]; exact ho
            · obtain ⟨b, hb1, hb2⟩ := blkOf_at e hg2
              rw [add_off] at hg2
              exact notKept_spec hb.1 hb1 (r.inj _ _ _ _ _ hb2 hl hg2 rfl)
            · rw [add_off]; exact own_S r hl rfl
            · rw [add_off]; exact own_low r hl rfl
            · obtain ⟨u, hu, ho, _⟩ := key i j f hi hf
              rw [hu]; exact ho
            · obtain ⟨u, hu, _, hr⟩ := key i j f hi hf
              rw [hu]; exact hr
    · exact h.one.elim
  · rename_i id id'
    cases hb : renIs ρ id' id with
    | false => simp only [hb, cond_false] at h; exact h.one.elim
    | true =>
      have hl := renIs_spec hb
      cases hv with
      | mph hk hp hh => exact .mph ⟨_, hl⟩ hp fun g bs e => by unfold blkOf at e; rw [hl] at e; exact hh g bs e
  · rename_i id ks has col
    split at h
    · rename_i ks0 has0 col0 hot0 hob
      cases hb : (notKept ρ id && ksEq ks0 ks) with
      | false => simp only [hb, cond_false] at h; exact h.one.elim
      | true =>
        simp only [hb, cond_true] at h
        simp only [Bool.and_eq_true] at hb
        refine relC_open (leN_sound 3 h (map_rd r (fun ad u => rd_ren) (fun l g hl hg ad u e hu => ⟨hu, fun id2 l2 e2 hg2 => ?_, e ▸ own_S r hl hg, e ▸ own_low r hl hg⟩) hob hv))
        obtain ⟨b, hb1, hb2⟩ := blkOf_at e2 hg2
        rw [e] at hg2
        exact notKept_spec hb.1 hb1 (r.inj _ _ _ _ _ hb2 hl hg2 hg)
    · exact h.one.elim
  · cases hc : d.closed with
    | false => simp only [hc, cond_false] at h; exact h.one.elim
    | true =>
      simp only [hc, cond_true] at h
      exact relC_open (relC_ren (leN_sound 3 h (hv.close hc)))

theorem leR_sound (r : R base w0 S0 σ kn blk a w) : ∀ (n : Nat) {d d' : DV} {v : Value}, AllP (leR ρ σ.obj n d d') → Rel (rdOf w base S0 blk) kn blk d v → Rel (rdOf w base S0 (blkOf ρ blk)) (knOf ρ) (blkOf ρ blk) d' v := by
  intro n
  induction n with
  | zero => intro d d' v h hv; exact leR0_sound r h hv
  | succ n ih =>
    intro d d' v h hv
    simp only [leR] at h
    generalize leR ρ σ.obj n = f at h ih
    unfold leRS at h
    split at h
    · cases hv with
      | agg hs hr => obtain ⟨x, y⟩ := leL_cells h (fun h hv => ih h hv) hs hr; exact .agg x y
    · rename_i g cs g' ds
      cases hb : Nat.beq g g' with
      | false => simp only [hb, cond_false] at h; exact h.one.elim
      | true =>
        simp only [hb, cond_true] at h
        obtain rfl := Nat.eq_of_beq_eq_true hb
        cases hv with
        | clo hs hr => obtain ⟨x, y⟩ := leL_cells h (fun h hv => ih h hv) hs hr; exact .clo x y
    · rename_i g cs g' ds
      cases hb : Nat.beq g g' with
      | false => simp only [hb, cond_false] at h; exact h.one.elim
      | true =>
        simp only [hb, cond_true] at h
        obtain rfl := Nat.eq_of_beq_eq_true hb
        cases hv with
        | bnd hs hr => obtain ⟨x, y⟩ := leL_cells h (fun h hv => ih h hv) hs hr; exact .bnd x y
    · exact leR0_sound r h hv

theorem tmpsVC_spec : ∀ {l : List (Nat × DV)}, AllP (tmpsVC ρ σ l) → ∀ {t : Nat} {d : DV}, look l t = some d → AllP (leR ρ σ.obj 2 (σ.get t) d)
  | (k, d0) :: r, h, t, d, hl => by
    obtain ⟨h1, h2⟩ := AllP.app h
    rw [look_cons] at hl
    by_cases e : k = t
    · subst e
      simp only [if_true, Option.some.injEq] at hl
      subst hl; exact h1
    · rw [if_neg e] at hl; exact tmpsVC_spec h2 hl
  | [], _, t, d, hl => by simp [look] at hl

theorem objsVC_spec {ob : Heap} : ∀ {l : List (Nat × Option AObj)} {ρ' : Ren}, AllP (objsVC ρ ob l ρ') → ∀ {id : Nat},
    (∀ x, look l id = some x → ∃ o, x = some o ∧ ((∃ q o0, look ρ' id = some (some q) ∧ ob q = some o0 ∧ AllP (objVC ρ ob o0 o)) ∨ (look ρ' id = some none ∧ ∃ cols, o = .row 0 cols))) ∧ (∀ x, look ρ' id = some x → ∃ o, look l id = some (some o))
  | [], [], _, id => ⟨fun x h => by simp [look] at h, fun x h => by simp [look] at h⟩
  | (i, some o) :: r, (i', some q) :: ρ', h, id => by
    simp only [objsVC] at h
    split at h
    · rename_i o0 hq
      cases hb : Nat.beq i i' with
      | false => simp only [hb, cond_false] at h; exact h.one.elim
      | true =>
        simp only [hb, cond_true] at h
        obtain rfl := Nat.eq_of_beq_eq_true hb
        obtain ⟨h1, h2⟩ := AllP.app h
        obtain ⟨k1, k2⟩ := objsVC_spec h2 (id := id)
        simp only [look_cons]
        by_cases e : i = id
        · simp only [e, if_true]
          exact ⟨fun x hx => by cases hx; exact ⟨o, rfl, .inl ⟨q, o0, rfl, hq, h1⟩⟩, fun x hx => ⟨o, rfl⟩⟩
        · simp only [e, if_false]; exact ⟨k1, k2⟩
    · exact h.one.elim
  | (i, some (.row n cols)) :: r, (i', none) :: ρ', h, id => by
    simp only [objsVC] at h
    cases hb : Nat.beq i i' with
    | false => simp only [hb, cond_false] at h; exact h.one.elim
    | true =>
      simp only [hb, cond_true] at h
      obtain rfl := Nat.eq_of_beq_eq_true hb
      have hn := h.hd
      subst hn
      obtain ⟨k1, k2⟩ := objsVC_spec h.tl (id := id)
      simp only [look_cons]
      by_cases e : i = id
      · simp only [e, if_true]
        exact ⟨fun x hx => by cases hx; exact ⟨_, rfl, .inr ⟨by trivial, cols, rfl⟩⟩, fun x hx => ⟨_, rfl⟩⟩
      · simp only [e, if_false]; exact ⟨k1, k2⟩
  | (i, some (.box cs)) :: r, (i', none) :: ρ', h, id => by simp only [objsVC] at h; exact h.one.elim
  | (i, some (.srow ..)) :: r, (i', none) :: ρ', h, id => by simp only [objsVC] at h; exact h.one.elim
  | (i, some (.map ..)) :: r, (i', none) :: ρ', h, id => by simp only [objsVC] at h; exact h.one.elim
  | (i, some (.gmap ..)) :: r, (i', none) :: ρ', h, id => by simp only [objsVC] at h; exact h.one.elim
  | (i, some .tok) :: r, (i', none) :: ρ', h, id => by simp only [objsVC] at h; exact h.one.elim
  | (i, some (.exact ..)) :: r, (i', none) :: ρ', h, id => by simp only [objsVC] at h; exact h.one.elim
  | (i, none) :: r, (i', none) :: ρ', h, id => by simp only [objsVC] at h; exact h.one.elim
  | (i, none) :: r, (i', some q) :: ρ', h, id => by simp only [objsVC] at h; exact h.one.elim
  | [], x :: ρ', h, id => by simp only [objsVC] at h; exact h.one.elim
  | (i, some (.row n cols)) :: r, [], h, id => by simp only [objsVC] at h; exact h.one.elim
  | (i, some (.box cs)) :: r, [], h, id => by simp only [objsVC] at h; exact h.one.elim
  | (i, some (.srow ..)) :: r, [], h, id => by simp only [objsVC] at h; exact h.one.elim
  | (i, some (.map ..)) :: r, [], h, id => by simp only [objsVC] at h; exact h.one.elim
  | (i, some (.gmap ..)) :: r, [], h, id => by simp only [objsVC] at h; exact h.one.elim
  | (i, some .tok) :: r, [], h, id => by simp only [objsVC] at h; exact h.one.elim
  | (i, some (.exact ..)) :: r, [], h, id => by simp only [objsVC] at h; exact h.one.elim
  | (i, none) :: r, [], h, id => by simp only [objsVC] at h; exact h.one.elim

/-- An object said otherwise. -/
theorem objVC_sound (r : R base w0 S0 σ kn blk a w) {l : Option Loc} {o0 o : AObj} (h : AllP (objVC ρ σ.obj o0 o)) (hor : ObjRel w (rdOf w base S0 blk) kn blk l o0) : ObjRel w (rdOf w base S0 (blkOf ρ blk)) (knOf ρ) (blkOf ρ blk) l o := by
  unfold objVC at h
  split at h
  · obtain ⟨g, C, cv, T, hl, hh, hs, hr, ho⟩ := hor
    obtain ⟨e1, e2⟩ := leL_cells h (fun h hv => leR_sound r 2 h hv) hs hr
    exact ⟨g, C, cv, T, hl, hh, e1, e2, ho⟩
  · rename_i n cols n' cols'
    have hn := h.hd
    subst hn
    obtain ⟨k1, k2⟩ := leC_sound h.tl
    rcases hor with ⟨hl, hn⟩ | ⟨g, C, cv, T, hl, hh, hs, hn, hr⟩
    · exact .inl ⟨hl, hn⟩
    · refine .inr ⟨g, C, cv, T, hl, hh, by rw [← k1]; exact hs, hn, fun i j f hi hf => ?_⟩
      have hj : j < cols.length := by rw [k1]; exact (List.getElem?_eq_some_iff.1 hf).1
      have hcj : cols[j]? = some cols[j] := List.getElem?_eq_getElem hj
      obtain ⟨u, hu, ho, hre⟩ := hr i j _ hi hcj
      rw [← k1]
      exact ⟨u, hu, ho, relC_ren (leN_sound 2 (k2 j _ f hcj hf i hi) hre)⟩
  · rename_i n cols n' cols'
    have hn := h.hd
    subst hn
    obtain ⟨k1, k2⟩ := leC_sound h.tl
    rcases hor with ⟨hl, hn⟩ | ⟨g, C, cv, T, hl, hh, hs, hn, hr⟩
    · exact .inl ⟨hl, hn⟩
    · refine .inr ⟨g, 0, C, cv, T, .inr ⟨hl, rfl⟩, hh, by rw [← k1, Nat.zero_add, hs]; exact Nat.le_refl _, hn, fun i j f hi hf => ?_⟩
      have hj : j < cols.length := by rw [k1]; exact (List.getElem?_eq_some_iff.1 hf).1
      have hcj : cols[j]? = some cols[j] := List.getElem?_eq_getElem hj
      obtain ⟨u, hu, ho, hre⟩ := hr i j _ hi hcj
      rw [← k1, Nat.zero_add]
      exact ⟨u, hu, ho, relC_ren (leN_sound 2 (k2 j _ f hcj hf i hi) hre)⟩
  · rename_i n cols n' cols'
    have hn := h.hd
    subst hn
    obtain ⟨k1, k2⟩ := leC_sound h.tl
    rcases hor with ⟨hl, hn⟩ | ⟨g, o, C, cv, T, hl, hh, hs, hn, hr⟩
    · exact .inl ⟨hl, hn⟩
    · refine .inr ⟨g, o, C, cv, T, hl, hh, by rw [← k1]; exact hs, hn, fun i j f hi hf => ?_⟩
      have hj : j < cols.length := by rw [k1]; exact (List.getElem?_eq_some_iff.1 hf).1
      have hcj : cols[j]? = some cols[j] := List.getElem?_eq_getElem hj
      obtain ⟨u, hu, ho, hre⟩ := hr i j _ hi hcj
      rw [← k1]
      exact ⟨u, hu, ho, relC_ren (leN_sound 2 (k2 j _ f hcj hf i hi) hre)⟩
  · rename_i ks has col _ ks' has' col'
    cases hq : ksEq ks ks' with
    | false => simp only [hq, cond_false] at h; exact h.one.elim
    | true =>
      simp only [hq, cond_true] at h
      obtain rfl := ksEq_spec hq
      have h1 := h.hd
      have h2 := h.tl.one
      obtain ⟨g, es, clock, hl, hh, hm, hst, _⟩ := hor
      refine ⟨g, es, clock, hl, hh, ⟨fun e he => let ⟨l, a, b⟩ := hm.hk e he; ⟨l, a, by rw [← h1]; exact b⟩, fun l hl => hm.hh l (by rw [h1]; exact hl), hm.hd, hm.hs, fun e l he hel => ?_⟩, hst, fun _ _ h => by cases h⟩
      obtain ⟨l', a, b⟩ := hm.hk e he
      rw [hel] at a; cases a
      exact relC_ren (leN_sound 2 (h2 l (by rw [← h1]; exact b)).all (hm.h e l he hel))
  · rename_i ks len col _ ks' len' col'
    cases hq : ksEq ks ks' with
    | false => simp only [hq, cond_false] at h; exact h.one.elim
    | true =>
      simp only [hq, cond_true] at h
      obtain rfl := ksEq_spec hq
      have h1 := h.hd
      have h2 := h.tl.one
      obtain ⟨g, bs, es, clock, hl, hh, hG, hbs, _⟩ := hor
      refine ⟨g, bs, es, clock, hl, hh, ⟨hG.hk, hG.hd, fun l hl hn => by rw [← h1]; exact hG.miss l hl hn, fun e l he hel hn => ?_, hG.sep⟩, hbs, fun _ _ h => by cases h⟩
      rcases hG.ent e l he hel hn with ⟨e1, e2⟩ | ⟨g', C, cv, T, a1, a2, a3, a4, a5, a6⟩
      · exact .inl ⟨e1, by rw [← h1]; exact e2⟩
      · rw [h1] at a1 a5 a6
        exact .inr ⟨g', C, cv, T, a1, a2, a3, a4, a5, fun i hi => let ⟨u, x1, x2, x3⟩ := a6 i hi; ⟨u, x1, x2, relC_ren (leN_sound 2 (h2 l i hi).all x3)⟩⟩
  · have e := h.hd
    have e2 := h.tl.one
    subst e
    subst e2
    exact hor
  · exact h.one.elim

theorem weakenRS (hshp : ∀ d v, (d, v) ∈ S0.sh → Rel (rdOf w base S0 (blkOf ρ blk)) (knOf ρ) (blkOf ρ blk) d v) (hrn : S0.wb ≠ none → σ'.rn = true) (h : AllP (weakVC ρ σ σ')) (r : R base w0 S0 σ kn blk a w) : R base w0 S0 σ' (knOf ρ) (blkOf ρ blk) a w ∧ ∀ i, knOf ρ i → i < σ'.nx := by
  unfold weakVC at h
  cases hb : (renOK ρ && (belowAll σ'.nx ρ && (Nat.beq σ.nt σ'.nt && Nat.beq σ.lo σ'.lo))) with
  | false => simp only [hb, cond_false] at h; exact h.one.elim
  | true =>
    simp only [hb, cond_true] at h
    simp only [Bool.and_eq_true] at hb
    obtain ⟨hb1, hb2, hb3, hb4⟩ := hb
    have hnt := Nat.eq_of_beq_eq_true hb3
    have hlo := Nat.eq_of_beq_eq_true hb4
    obtain ⟨h1, h2⟩ := AllP.app h
    refine ⟨⟨r.below, r.xs, r.hbase, r.dfr, r.kpo, hrn, fun B hB id g bs e => ?_, fun d v h => (List.mem_append.1 h).elim (fun h => relC_open (relC_ren (r.glob d v h))) (hshp d v), r.size.trans hnt, fun t => ?_, fun id o ho => ?_, fun i i' l l' g e1 e2 g1 g2 => ?_, fun i l g e hg => ?_, fun i l e => ?_, fun t ht => r.pin t (by rw [hlo]; exact ht)⟩, fun i ⟨x, hx⟩ => belowAll_spec hb2 hx⟩
    · obtain ⟨b, _, hb⟩ := blkOf_at e (.inl rfl)
      exact r.mlow B hB b g bs hb
    · unfold St.get
      cases hl : look σ'.t t with
      | none => exact .any _
      | some d => exact leR_sound r 2 (tmpsVC_spec h1 hl) (r.tmps t)
    · unfold St.obj at ho
      cases hl : look σ'.h id with
      | none => simp [hl] at ho
      | some x =>
        simp only [hl] at ho
        subst ho
        obtain ⟨o', e, hx⟩ := (objsVC_spec h2 (id := id)).1 _ hl
        cases e
        rcases hx with ⟨q, o0, hq, hob, hvc⟩ | ⟨hq, cols, rfl⟩
        · refine ⟨⟨_, hq⟩, ?_⟩
          have hblk : blkOf ρ blk id = blk q := by unfold blkOf; rw [hq]
          rw [hblk]
          exact objVC_sound r hvc (r.objs _ _ hob).2
        · refine ⟨⟨_, hq⟩, .inl ⟨?_, rfl⟩⟩
          unfold blkOf; rw [hq]
    · obtain ⟨b, hb1', hb2'⟩ := blkOf_at e1 g1
      obtain ⟨b', hb1'', hb2''⟩ := blkOf_at e2 g2
      have := r.inj _ _ _ _ _ hb2' hb2'' g1 g2
      subst this
      exact renOK_spec hb1 hb1' hb1''
    · obtain ⟨b, _, hb⟩ := blkOf_at e hg
      exact r.ge _ _ _ hb hg
    · have : ∃ x, look ρ i = some x := by
        unfold blkOf at e
        split at e
        · rename_i b hb; exact ⟨_, hb⟩
        · rename_i hb; exact ⟨_, hb⟩
        · cases e
      obtain ⟨x, hx⟩ := this
      obtain ⟨o, ho⟩ := (objsVC_spec h2 (id := i)).2 x hx
      exact ⟨o, by unfold St.obj; rw [ho]⟩
theorem weakenR (hsh : S0.sh = []) (hrn : S0.wb ≠ none → σ'.rn = true) (h : AllP (weakVC ρ σ σ')) (r : R base w0 S0 σ kn blk a w) : R base w0 S0 σ' (knOf ρ) (blkOf ρ blk) a w ∧ ∀ i, knOf ρ i → i < σ'.nx :=
  weakenRS (fun d v h => by rw [hsh] at h; cases h) hrn h r
theorem weaken (hsh : S0.sh = []) (hrn : S0.wb ≠ none → σ'.rn = true) (h : AllP (weakVC ρ σ σ')) (hf : Fits base w0 S0 σ a w) : Fits base w0 S0 σ' a w :=
  let ⟨_, _, r, _⟩ := hf
  ⟨_, _, weakenR hsh hrn h r⟩
end
end Go.Abs
