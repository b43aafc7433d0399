/- Each operation does to the machine what the abstract one does: loads, stores, addresses. -/
import Derived.Test.YtbemjdppfiabgaaAbsD
import Derived.Laws.CopyRow
import Derived.Laws.Cells
import Derived.Laws.Entries
namespace Go.Abs
open Go.RowKit

def AllP (l : List Prop) : Prop := ∀ p ∈ l, p

theorem AllP.app {l m : List Prop} (h : AllP (l ++ m)) : AllP l ∧ AllP m := ⟨fun p hp => h p (List.mem_append_left _ hp), fun p hp => h p (List.mem_append_right _ hp)⟩
theorem AllP.one {p : Prop} (h : AllP [p]) : p := h p (List.mem_singleton.2 rfl)
theorem AllP.hd {p : Prop} {l : List Prop} (h : AllP (p :: l)) : p := h p List.mem_cons_self
theorem AllP.tl {p : Prop} {l : List Prop} (h : AllP (p :: l)) : AllP l := fun q hq => h q (List.mem_cons_of_mem _ hq)
theorem bad_vc {q : Prop} (h : AllP bad.vc) : q := (h False (List.mem_singleton.2 rfl)).elim
theorem AllT.all : ∀ {l : List Prop}, AllT l → AllP l
  | [], _ => fun _ hp => by cases hp
  | [p], h => fun q hq => by rw [List.mem_singleton.1 hq]; exact h
  | p :: q :: r, h => fun x hx => by
    rcases List.mem_cons.1 hx with rfl | hx
    · exact h.1
    · exact AllT.all h.2 x hx

def St.effH (σ : St) (e : Eff) : St := { σ with h := e.hw ++ σ.h }

theorem add_off (g o n : Nat) : (⟨g, o, none⟩ : Addr).add n = ⟨g, o + n, none⟩ := by unfold Addr.add; split <;> simp_all

section
variable {P : Program} {base : Nat} {w0 w : World} {S0 : Env} {σ : St} {kn : Nat → Prop} {blk : Nat → Option Loc} {a : Act}

/-- The run of an operation's own program: it yields a value that is related, in a world that the state fits. -/
def Runs (P : Program) (base : Nat) (w0 : World) (S0 : Env) (σ : St) (kn : Nat → Prop) (a : Act) (w : World) (id : Nat) (s : Sem Value) (e : Eff) : Prop :=
  ∃ v w', s.run P w = .ok v w' ∧ ∃ kn' blk', R base w0 S0 (σ.effH e) kn' blk' a w' ∧ Rel (rdOf w' base S0 blk') kn' blk' e.d v ∧ ∀ i, kn' i → kn i ∨ i = id

/-- The world stays. -/
def Still (P : Program) (base : Nat) (S0 : Env) (kn : Nat → Prop) (blk : Nat → Option Loc) (w : World) (s : Sem Value) (e : Eff) : Prop :=
  e.hw = [] ∧ ∃ v, s.run P w = .ok v w ∧ Rel (rdOf w base S0 blk) kn blk e.d v

theorem Still.runs (r : R base w0 S0 σ kn blk a w) {id : Nat} {s : Sem Value} {e : Eff} (h : Still P base S0 kn blk w s e) : Runs P base w0 S0 σ kn a w id s e := by
  obtain ⟨hw, v, hr, hv⟩ := h
  refine ⟨v, w, hr, kn, blk, ?_, hv, fun i hi => .inl hi⟩
  have : σ.effH e = σ := by unfold St.effH; rw [hw]; rfl
  rw [this]; exact r

theorem relC_open {rd : Rd} {d : DV} {v : Value} (h : RelC rd d v) {kn : Nat → Prop} {blk : Nat → Option Loc} : Rel rd kn blk d v :=
  h.mono (fun _ _ h => h) (fun _ h => h.elim) fun _ _ h => h.elim

theorem readAt_sound (r : R base w0 S0 σ kn blk a w) {p : DV} {cs : List DV} {vc : List Prop} {v : Value} (h : readAt σ.obj p = some (cs, vc)) (hvc : AllP vc)
    (hv : Rel (rdOf w base S0 blk) kn blk p v) : ∃ ad, v = .pointer (some ad) ∧ ∀ (j : Nat) (d : DV), cs[j]? = some d → ∃ u, w.cell? (ad.add j) = some u ∧ Rel (rdOf w base S0 blk) kn blk d u := by
  unfold readAt at h
  split at h
  · rename_i id j
    split at h
    · rename_i cs0 ho
      simp only [Option.some.injEq, Prod.mk.injEq] at h
      obtain ⟨rfl, rfl⟩ := h
      obtain ⟨_, g, C, cv, T, hl, hh, hs, hr, _⟩ := r.objs _ _ ho
      cases hv with
      | ptr hk _ hp =>
        refine ⟨_, hp g C hl, fun j' d hd => ?_⟩
        rw [List.getElem?_drop] at hd
        have hlt : j + j' < cv.size := by
          rw [hs]; exact (List.getElem?_eq_some_iff.1 hd).1
        refine ⟨cv[j + j'], ?_, hr _ _ _ hd (Array.getElem?_eq_getElem hlt)⟩
        rw [add_off]
        simp [World.cell?, hh, hlt]
    · cases h
  · rename_i s id i j
    split at h
    · rename_i n cols ho
      cases hb : Nat.beq cols.length s
      · simp [hb] at h
      · simp only [hb, cond_true, Option.some.injEq, Prod.mk.injEq] at h
        obtain ⟨rfl, rfl⟩ := h
        have hs' : cols.length = s := Nat.eq_of_beq_eq_true hb
        subst hs'
        have hi : i < n := hvc.one
        obtain ⟨_, ho'⟩ := r.objs _ _ ho
        rcases ho' with ⟨_, hn⟩ | ⟨g, C, cv, T, hl, hh, hs, hn, hr⟩
        · omega
        · cases hv with
          | rptr hk _ hp =>
            refine ⟨_, hp g C hl, fun j' d hd => ?_⟩
            rw [List.getElem?_map, List.getElem?_drop] at hd
            cases hc : cols[j + j']? with
            | none => simp [hc] at hd
            | some f =>
              simp only [hc, Option.map_some, Option.some.injEq] at hd
              subst hd
              obtain ⟨u, hu, _, hrel⟩ := hr i (j + j') f hi hc
              refine ⟨u, ?_, relC_open hrel⟩
              rw [add_off]
              simp only [World.cell?, hh]
              rw [show i * cols.length + j + j' = i * cols.length + (j + j') by omega, hu]
              rfl
    · rename_i n cols ho
      cases hb : Nat.beq cols.length s
      · simp [hb] at h
      · simp only [hb, cond_true, Option.some.injEq, Prod.mk.injEq] at h
        obtain ⟨rfl, rfl⟩ := h
        have hs' : cols.length = s := Nat.eq_of_beq_eq_true hb
        subst hs'
        have hi : i < n := hvc.one
        obtain ⟨_, ho'⟩ := r.objs _ _ ho
        rcases ho' with ⟨_, hn⟩ | ⟨g, o, C, cv, T, hl, hh, hs, hn, hr⟩
        · omega
        · cases hv with
          | rptr hk _ hp hp2 =>
            have hv' : v = .pointer (some ⟨g, o + (i * cols.length + j), none⟩) := by
              rcases hl with hl | ⟨hl, rfl⟩
              · exact hp2 g o C hl
              · rw [Nat.zero_add]; exact hp g C hl
            refine ⟨_, hv', fun j' d hd => ?_⟩
            rw [List.getElem?_map, List.getElem?_drop] at hd
            cases hc : cols[j + j']? with
            | none => simp [hc] at hd
            | some f =>
              simp only [hc, Option.map_some, Option.some.injEq] at hd
              subst hd
              obtain ⟨u, hu, _, hrel⟩ := hr i (j + j') f hi hc
              refine ⟨u, ?_, relC_open hrel⟩
              rw [add_off]
              simp only [World.cell?, hh]
              rw [show o + (i * cols.length + j) + j' = o + (i * cols.length + (j + j')) by omega, hu]
              rfl
    · cases h
  · rename_i cs0
    simp only [Option.some.injEq, Prod.mk.injEq] at h
    obtain ⟨rfl, rfl⟩ := h
    cases hv with
    | cptr U ha ho hr => exact ⟨_, rfl, fun j d hd => ⟨U j, rdw_cell (ha j d hd).1 (ho j d hd), relC_open (hr j d hd)⟩⟩
  · cases h

theorem tAgg_run {t : TypeId} {b : Bool} (h : tAgg P t = some b) (w : World) : (isAgg t).run P w = .ok b w := by
  unfold tAgg at h
  split at h
  · rename_i hu; cases h; simp [isAgg, run_underlying hu]
  · rename_i hu; cases h; simp [isAgg, run_underlying hu]
  · rename_i d h1 h2 hu
    cases h
    simp only [isAgg, Sem.run_bind, run_underlying hu, Result.andThen_ok]
    rfl
  · cases h

theorem tSize_run {t : TypeId} {n : Nat} (h : tSize P t = some n) (w : World) : (sizeOf t).run P w = .ok n w := by
  unfold tSize at h
  split at h
  · rename_i i hi; cases h; simp [sizeOf, typeInfo, hi]
  · cases h

theorem evLoad_sound (r : R base w0 S0 σ kn blk a w) {t : TypeId} {p : DV} {v : Value} (hvc : AllP (evLoad P σ.obj t p).vc)
    (hv : Rel (rdOf w base S0 blk) kn blk p v) : Still P base S0 kn blk w (Instr.loadAt t v) (evLoad P σ.obj t p) := by
  unfold evLoad at hvc ⊢
  split at hvc
  · rename_i n cs vc h1 h2 h3
    cases hb : Nat.ble n cs.length
    · simp only [hb, cond_false] at hvc; exact bad_vc hvc
    · simp only [hb, cond_true] at hvc ⊢
      have hn : n ≤ cs.length := Nat.le_of_ble_eq_true hb
      obtain ⟨ad, rfl, hc⟩ := readAt_sound r h3 hvc hv
      refine ⟨rfl, .agg ((List.range n).map fun j => (w.cell? (ad.add j)).getD undef).toArray, ?_, ?_⟩
      · have hl := run_loadCells (P := P) w ad n (fun j => (w.cell? (ad.add j)).getD undef) (fun j hj => by
          obtain ⟨u, hu, _⟩ := hc j cs[j] (List.getElem?_eq_getElem (by omega))
          rw [hu]; rfl)
        simp only [Instr.loadAt, Instr.sureAddr, loadVar, Sem.run_bind, Sem.run_pure, Result.andThen_ok, tAgg_run h1, if_true, tSize_run h2, hl]
      · refine Rel.mkAgg (by simp; omega) fun j d u hd hu => ?_
        rw [List.getElem?_take] at hd
        split at hd
        · rename_i hj
          obtain ⟨u', hu', hrel⟩ := hc j d hd
          simp [hj, hu'] at hu
          subst hu; exact hrel
        · cases hd
  · rename_i n d rest vc h1 h2 h3
    obtain ⟨ad, rfl, hc⟩ := readAt_sound r h3 hvc hv
    obtain ⟨u, hu, hrel⟩ := hc 0 d rfl
    refine ⟨rfl, u, ?_, hrel⟩
    have hu' : w.cell? ad = some u := by simpa [Addr.add] using hu
    simp [Instr.loadAt, Instr.sureAddr, loadVar, tAgg_run h1, hu']
  · exact bad_vc hvc


theorem fieldPlace_run {ad : Addr} {fd : Field} {k : Nat} (h : tSize P fd.type = some (k + 1)) (w : World) : (fieldPlace ad fd).run P w = .ok (ad.add fd.offset) w := by
  simp [fieldPlace, tSize_run h]

theorem add_add (ad : Addr) (i j : Nat) : (ad.add i).add j = ad.add (i + j) := by
  unfold Addr.add
  by_cases hi : i = 0 <;> by_cases hj : j = 0 <;> simp [hi, hj, Nat.add_assoc]

theorem ptr_val' {id j : Nat} {v : Value} {rd : Rd} (hv : Rel rd kn blk (.ptr id j) v) : kn id ∧ (∃ p, v = .pointer (some p)) ∧ ∀ g C, blk id = some (.at_ g C) → v = .pointer (some ⟨g, j, none⟩) := by
  cases hv with | ptr hk hv h => exact ⟨hk, hv, h⟩

theorem evFieldAddr_sound {s : TypeId} {x : DV} {f : Nat} {v : Value} {e : Eff} (he : evFieldAddr P s x f = e) (hvc : AllP e.vc)
    (hv : Rel (rdOf w base S0 blk) kn blk x v) : Still P base S0 kn blk w (Instr.fieldAt s v f) e := by
  unfold evFieldAddr at he
  split at he
  · rename_i fs hu
    split at he
    · rename_i fd hf
      split at he
      · rename_i k hk
        have run : ∀ ad, (Instr.fieldAt s (.pointer (some ad)) f).run P w = .ok (.pointer (some (ad.add fd.offset))) w := fun ad => by
          simp [Instr.fieldAt, run_underlying hu, hf, Instr.sureAddr, fieldPlace_run hk]
        split at he
        · rename_i id j
          subst he
          cases hv with
          | ptr hkn hp h =>
            obtain ⟨ad, rfl⟩ := hp
            refine ⟨rfl, _, run ad, .ptr hkn ⟨_, rfl⟩ fun g C hb => ?_⟩
            have := h g C hb
            simp only [Value.pointer.injEq, Option.some.injEq] at this
            rw [this, add_off]
        · rename_i s' id i j
          subst he
          cases hv with
          | rptr hkn hp h h2 =>
            obtain ⟨ad, rfl⟩ := hp
            refine ⟨rfl, _, run ad, .rptr hkn ⟨_, rfl⟩ (fun g C hb => ?_) fun g o C hb => ?_⟩
            · have := h g C hb
              simp only [Value.pointer.injEq, Option.some.injEq] at this
              rw [this, add_off, Nat.add_assoc]
            · have := h2 g o C hb
              simp only [Value.pointer.injEq, Option.some.injEq] at this
              rw [this, add_off, Nat.add_assoc, Nat.add_assoc]
        · rename_i cs
          subst he
          cases hv with
          | cptr U ha ho hr =>
            refine ⟨rfl, _, run _, .cptr (fun j => U (fd.offset + j)) (fun j d hd => ?_) (fun j d hd => ?_) fun j d hd => ?_⟩
            · rw [List.getElem?_drop] at hd
              rw [add_add]; exact ha _ _ hd
            · rw [List.getElem?_drop] at hd
              exact ho _ _ hd
            · rw [List.getElem?_drop] at hd
              exact hr _ _ hd
        · subst he; exact bad_vc hvc
      · subst he; exact bad_vc hvc
    · subst he; exact bad_vc hvc
  · subst he; exact bad_vc hvc

theorem aggCells_sound {x : DV} {v : Value} {cs : List DV} {rd : Rd} (hv : Rel rd kn blk x v) (h : aggCells x = some cs) :
    ∃ vs, v = .agg vs ∧ vs.size = cs.length ∧ ∀ (j : Nat) (d : DV) (u : Value), cs[j]? = some d → vs[j]? = some u → Rel rd kn blk d u := by
  unfold aggCells at h
  split at h
  · cases h
    cases hv with
    | agg hs hr => exact ⟨_, rfl, hs, hr⟩
  · cases h
    cases hv
    refine ⟨_, rfl, by simp, fun j d u hd hu => ?_⟩
    simp only [List.getElem?_map, Array.getElem?_toList, hu, Option.map_some, Option.some.injEq] at hd
    subst hd; exact .val u
  · cases h

theorem part_sound {t : TypeId} {cs : List DV} {vs : Array Value} {rd : Rd} {off n : Nat} (h1 : tAgg P t = some true) (h2 : tSize P t = some n) (hn : off + n ≤ cs.length) (hs : vs.size = cs.length)
    (hr : ∀ (j : Nat) (d : DV) (u : Value), cs[j]? = some d → vs[j]? = some u → Rel rd kn blk d u) :
    ∃ v, (part t vs off).run P w = .ok v w ∧ Rel rd kn blk (mkAgg ((cs.drop off).take n)) v := by
  refine ⟨.agg (vs.extract off (off + n)), by simp [part, tAgg_run h1, tSize_run h2], ?_⟩
  refine Rel.mkAgg (by simp; omega) fun j d u hd hu => ?_
  rw [List.getElem?_take] at hd
  split at hd
  · rename_i hj
    rw [List.getElem?_drop] at hd
    rw [Array.getElem?_extract] at hu
    split at hu
    · exact hr _ _ _ hd hu
    · cases hu
  · cases hd

theorem part_one {t : TypeId} {cs : List DV} {vs : Array Value} {rd : Rd} {off : Nat} {d : DV} (h1 : tAgg P t = some false) (hd : cs[off]? = some d) (hs : vs.size = cs.length)
    (hr : ∀ (j : Nat) (d : DV) (u : Value), cs[j]? = some d → vs[j]? = some u → Rel rd kn blk d u) :
    ∃ v, (part t vs off).run P w = .ok v w ∧ Rel rd kn blk d v := by
  have hlt : off < vs.size := by rw [hs]; exact (List.getElem?_eq_some_iff.1 hd).1
  have hu : vs[off]? = some vs[off] := Array.getElem?_eq_getElem hlt
  exact ⟨vs[off], by simp [part, tAgg_run h1, hu], hr _ _ _ hd hu⟩

theorem evField_sound {t : TypeId} {x : DV} {f : Nat} {v : Value} {e : Eff} (he : evField P t x f = e) (hvc : AllP e.vc)
    (hv : Rel (rdOf w base S0 blk) kn blk x v) : Still P base S0 kn blk w (Instr.field t v f) e := by
  unfold evField at he
  split at he
  · rename_i fs hu
    split at he
    · rename_i fd hf
      split at he
      · rename_i n cs h1 h2 h3
        cases hb : Nat.ble (fd.offset + n) cs.length
        · simp only [hb, cond_false] at he; subst he; exact bad_vc hvc
        · simp only [hb, cond_true] at he
          subst he
          obtain ⟨vs, rfl, hs, hr⟩ := aggCells_sound hv h3
          obtain ⟨v, hrun, hrel⟩ := part_sound (w := w) h1 h2 (Nat.le_of_ble_eq_true hb) hs hr
          exact ⟨rfl, v, by simp [Instr.field, run_underlying hu, hf, asAgg, hrun], hrel⟩
      · rename_i n cs h1 h2 h3
        split at he
        · rename_i d hd
          subst he
          obtain ⟨vs, rfl, hs, hr⟩ := aggCells_sound hv h3
          obtain ⟨v, hrun, hrel⟩ := part_one (w := w) h1 hd hs hr
          exact ⟨rfl, v, by simp [Instr.field, run_underlying hu, hf, asAgg, hrun], hrel⟩
        · subst he; exact bad_vc hvc
      · subst he; exact bad_vc hvc
    · subst he; exact bad_vc hvc
  · subst he; exact bad_vc hvc

theorem evExtract_sound {x : DV} {i : Nat} {v : Value} {e : Eff} (he : evExtract x i = e) (hvc : AllP e.vc)
    (hv : Rel (rdOf w base S0 blk) kn blk x v) : Still P base S0 kn blk w (Instr.extract v i) e := by
  unfold evExtract at he
  split at he
  · split at he
    · rename_i d hd
      subst he
      cases hv with
      | tup hs hr =>
        rename_i vs
        have hlt : i < vs.size := by rw [hs]; exact (List.getElem?_eq_some_iff.1 hd).1
        have hu : vs[i]? = some vs[i] := Array.getElem?_eq_getElem hlt
        exact ⟨rfl, vs[i], by simp [Instr.extract, hu], hr _ _ _ hd hu⟩
    · subst he; exact bad_vc hvc
  · split at he
    · rename_i u hu
      subst he
      cases hv
      exact ⟨rfl, u, by simp [Instr.extract, hu], .val u⟩
    · subst he; exact bad_vc hvc
  · subst he; exact bad_vc hvc

theorem isRow_sound (_r : R base w0 S0 σ kn blk a w) {id s : Nat} (h : isRow σ.obj id s = true) : ∃ n cols, σ.obj id = some (.row n cols) ∧ cols.length = s := by
  unfold isRow at h
  split at h
  · rename_i n cols ho; exact ⟨n, cols, ho, Nat.eq_of_beq_eq_true h⟩
  · cases h

/-- A slice of a row that lives. -/
theorem row_val (r : R base w0 S0 σ kn blk a w) {s id off len : Nat} {v : Value} (h : isRow σ.obj id s = true) (hv : Rel (rdOf w base S0 blk) kn blk (.row s id off len) v) :
    kn id ∧ ((v = .slice none 0 0 ∧ off = 0 ∧ len = 0 ∧ blk id = some .nil) ∨ (∃ g C, v = .slice (some ⟨g, off * s, none⟩) len (C - off) ∧ off + len ≤ C ∧ blk id = some (.at_ g C)) ∨ (0 < off ∧ len = 0 ∧ ∃ p c, v = .slice p 0 c)) := by
  obtain ⟨n, cols, ho, hs⟩ := isRow_sound r h
  obtain ⟨_, hor⟩ := r.objs _ _ ho
  cases hv with
  | row hk hp h0 h =>
    refine ⟨hk, ?_⟩
    rcases hor with ⟨hl, _⟩ | ⟨g, C, cv, T, hl, _⟩
    · obtain ⟨e1, e2, e3⟩ := h0 hl; exact .inl ⟨e1, e2, e3, hl⟩
    · rcases h g C hl with ⟨e1, e2⟩ | ⟨e1, rfl⟩
      · exact .inr (.inl ⟨g, C, e1, e2, hl⟩)
      · exact .inr (.inr ⟨e1, rfl, let ⟨p, c, e, _⟩ := hp; ⟨p, c, e⟩⟩)

theorem row_valA (r : R base w0 S0 σ kn blk a w) {s id off len : Nat} {v : Value} (h : isRowA σ.obj id s = true) (hv : Rel (rdOf w base S0 blk) kn blk (.row s id off len) v) :
    kn id ∧ ((v = .slice none 0 0 ∧ off = 0 ∧ len = 0 ∧ blk id = some .nil) ∨ (∃ g o C, v = .slice (some ⟨g, o + off * s, none⟩) len (C - off) ∧ off + len ≤ C ∧ (blk id = some (.sub g o C) ∨ (blk id = some (.at_ g C) ∧ o = 0))) ∨ (0 < off ∧ len = 0 ∧ ∃ p c, v = .slice p 0 c)) := by
  cases hb : isRow σ.obj id s with
  | true =>
    obtain ⟨hk, h1 | ⟨g, C, e, hC, hl⟩ | h1⟩ := row_val r hb hv
    · exact ⟨hk, .inl h1⟩
    · exact ⟨hk, .inr (.inl ⟨g, 0, C, by rw [Nat.zero_add]; exact e, hC, .inr ⟨hl, rfl⟩⟩)⟩
    · exact ⟨hk, .inr (.inr h1)⟩
  | false =>
    unfold isRowA at h
    split at h
    · rename_i n cols ho; unfold isRow at hb; rw [ho] at hb; simp only at hb; rw [hb] at h; cases h
    · rename_i n cols ho
      obtain ⟨_, hor⟩ := r.objs _ _ ho
      cases hv with
      | row hk hp h0 h1 h2 =>
        refine ⟨hk, ?_⟩
        rcases hor with ⟨hl, _⟩ | ⟨g, o, C, cv, T, hl, _⟩
        · obtain ⟨e1, e2, e3⟩ := h0 hl; exact .inl ⟨e1, e2, e3, hl⟩
        · rcases hl with hl | ⟨hl, rfl⟩
          · rcases h2 g o C hl with ⟨e1, e2⟩ | ⟨e1, rfl⟩
            · exact .inr (.inl ⟨g, o, C, e1, e2, .inl hl⟩)
            · exact .inr (.inr ⟨e1, rfl, let ⟨p, c, e, _⟩ := hp; ⟨p, c, e⟩⟩)
          · rcases h1 g C hl with ⟨e1, e2⟩ | ⟨e1, rfl⟩
            · exact .inr (.inl ⟨g, 0, C, by rw [Nat.zero_add]; exact e1, e2, .inr ⟨hl, rfl⟩⟩)
            · exact .inr (.inr ⟨e1, rfl, let ⟨p, c, e, _⟩ := hp; ⟨p, c, e⟩⟩)
    · cases h

theorem addN_eq (off i : Nat) : addN off i = off + i := by cases off <;> simp [addN]

theorem evLen_sound (r : R base w0 S0 σ kn blk a w) {t ty : TypeId} {x : DV} {v : Value} {e : Eff} (he : evLen P σ.obj t x = e) (hvc : AllP e.vc)
    (hv : Rel (rdOf w base S0 blk) kn blk x v) : Still P base S0 kn blk w (Builtin.len_ #[t] ty #[v]) e := by
  unfold evLen at he
  split at he
  · rename_i s id off len
    split at he
    · rename_i el hu
      subst he
      cases hv with
      | row hk hp _ _ _ =>
        obtain ⟨p, c, rfl, _⟩ := hp
        exact ⟨rfl, _, by simp [Builtin.len_, run_underlying hu]; rfl, .val _⟩
    · subst he; exact bad_vc hvc
  · unfold evLenP at he
    split at he
    · split at he
      · rename_i el hu
        subst he
        cases hv with
        | lst U hc ha hn _ hr => exact ⟨rfl, _, by simp [Builtin.len_, run_underlying hu]; rfl, .val _⟩
      · subst he; exact bad_vc hvc
    · split at he
      · rename_i el hu
        subst he
        cases hv
        exact ⟨rfl, _, by simp [Builtin.len_, run_underlying hu]; rfl, .val _⟩
      · subst he; exact bad_vc hvc
    · split at he
      · rename_i hu
        subst he
        cases hv
        exact ⟨rfl, _, by simp [Builtin.len_, run_underlying hu]; rfl, .val _⟩
      · subst he; exact bad_vc hvc
    · subst he; exact bad_vc hvc
end
end Go.Abs
