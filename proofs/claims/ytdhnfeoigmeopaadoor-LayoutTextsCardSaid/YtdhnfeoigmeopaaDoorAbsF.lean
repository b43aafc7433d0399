/- Each operation does to the machine what the abstract one does: loads, stores, addresses. Each operation does to the machine what the abstract one does: arithmetic, strings, parts, tests. -/
import Derived.Test.YtdhnfeoigmeopaaDoorAbsD
import Derived.Laws.CopyRow
import Derived.Laws.Cells
import Derived.Laws.Entries
import Derived.IntWalk
import Derived.Laws.StructEq
import Derived.ChangeKeysEq
section
namespace Go.Abs
open Go.RowKit
def AllP (l : List Prop) : Prop := ∀ p ∈ l, p
theorem AllP.app {l m : List Prop} (h : AllP (l ++ m)) : AllP l ∧ AllP m := ⟨fun p hp => h p (List.mem_append_left _ hp), fun p hp => h p (List.mem_append_right _ hp)⟩
theorem AllP.one {p : Prop} (h : AllP [p]) : p := h p (List.mem_singleton.2 rfl)
theorem AllP.hd {p : Prop} {l : List Prop} (h : AllP (p :: l)) : p := h p List.mem_cons_self
theorem AllP.tl {p : Prop} {l : List Prop} (h : AllP (p :: l)) : AllP l := fun q hq => h q (List.mem_cons_of_mem _ hq)
theorem bad_vc {q : Prop} (h : AllP bad.vc) : q := (h False (List.mem_singleton.2 rfl)).elim
theorem AllT.all : ∀ {l : List Prop}, AllT l → AllP l
  | [], _ => fun _ hp => by cases hp
  | [p], h => fun q hq => by rw [List.mem_singleton.1 hq]; exact h
  | p :: q :: r, h => fun x hx => by
    rcases List.mem_cons.1 hx with rfl | hx
    · exact h.1
    · exact AllT.all h.2 x hx
def St.effH (σ : St) (e : Eff) : St := { σ with h := e.hw ++ σ.h }
theorem add_off (g o n : Nat) : (⟨g, o, none⟩ : Addr).add n = ⟨g, o + n, none⟩ := by unfold Addr.add; split <;> simp_all
section
variable {P : Program} {base : Nat} {w0 w : World} {S0 : Env} {σ : St} {kn : Nat → Prop} {blk : Nat → Option Loc} {a : Act}
def Runs (P : Program) (base : Nat) (w0 : World) (S0 : Env) (σ : St) (kn : Nat → Prop) (a : Act) (w : World) (id : Nat) (s : Sem Value) (e : Eff) : Prop :=
  ∃ v w', s.run P w = .ok v w' ∧ ∃ kn' blk', R base w0 S0 (σ.effH e) kn' blk' a w' ∧ Rel (rdOf w' base S0 blk') kn' blk' e.d v ∧ ∀ i, kn' i → kn i ∨ i = id
def Still (P : Program) (base : Nat) (S0 : Env) (kn : Nat → Prop) (blk : Nat → Option Loc) (w : World) (s : Sem Value) (e : Eff) : Prop :=
  e.hw = [] ∧ ∃ v, s.run P w = .ok v w ∧ Rel (rdOf w base S0 blk) kn blk e.d v
theorem Still.runs (r : R base w0 S0 σ kn blk a w) {id : Nat} {s : Sem Value} {e : Eff} (h : Still P base S0 kn blk w s e) : Runs P base w0 S0 σ kn a w id s e := by
  obtain ⟨hw, v, hr, hv⟩ := h
  refine ⟨v, w, hr, kn, blk, ?_, hv, fun i hi => .inl hi⟩
  have : σ.effH e = σ := by unfold St.effH; rw [hw]; rfl
  rw [this]; exact r
theorem relC_open {rd : Rd} {d : DV} {v : Value} (h : RelC rd d v) {kn : Nat → Prop} {blk : Nat → Option Loc} : Rel rd kn blk d v :=
  h.mono (fun _ _ h => h) (fun _ h => h.elim) fun _ _ h => h.elim
theorem readAt_sound (r : R base w0 S0 σ kn blk a w) {p : DV} {cs : List DV} {vc : List Prop} {v : Value} (h : readAt σ.obj p = some (cs, vc)) (hvc : AllP vc)
    (hv : Rel (rdOf w base S0 blk) kn blk p v) : ∃ ad, v = .pointer (some ad) ∧ ∀ (j : Nat) (d : DV), cs[j]? = some d → ∃ u, w.cell? (ad.add j) = some u ∧ Rel (rdOf w base S0 blk) kn blk d u := by
  unfold readAt at h
  split at h
  · rename_i id j
    split at h
    · rename_i cs0 ho
      simp only [Option.some.injEq, Prod.mk.injEq] at h
      obtain ⟨rfl, rfl⟩ := h
      obtain ⟨_, g, C, cv, T, hl, hh, hs, hr, _⟩ := r.objs _ _ ho
      cases hv with
      | ptr hk _ hp =>
        refine ⟨_, hp g C hl, fun j' d hd => ?_⟩
        rw [List.getElem?_drop] at hd
        have hlt : j + j' < cv.size := by
          rw [hs]; exact (List.getElem?_eq_some_iff.1 hd).1
        refine ⟨cv[j + j'], ?_, hr _ _ _ hd (Array.getElem?_eq_getElem hlt)⟩
        rw [add_off]
        simp [World.cell?, hh, hlt]
    · cases h
  · rename_i s id i j
    split at h
    · rename_i n cols ho
      cases hb : Nat.beq cols.length s
      · simp [hb] at h
      · simp only [hb, cond_true, Option.some.injEq, Prod.mk.injEq] at h
        obtain ⟨rfl, rfl⟩ := h
        have hs' : cols.length = s := Nat.eq_of_beq_eq_true hb
        subst hs'
        have hi : i < n := hvc.one
        obtain ⟨_, ho'⟩ := r.objs _ _ ho
        rcases ho' with ⟨_, hn⟩ | ⟨g, C, cv, T, hl, hh, hs, hn, hr⟩
        · omega
        · cases hv with
          | rptr hk _ hp =>
            refine ⟨_, hp g C hl, fun j' d hd => ?_⟩
            rw [List.getElem?_map, List.getElem?_drop] at hd
            cases hc : cols[j + j']? with
            | none => simp [hc] at hd
            | some f =>
              simp only [hc, Option.map_some, Option.some.injEq] at hd
              subst hd
              obtain ⟨u, hu, _, hrel⟩ := hr i (j + j') f hi hc
              refine ⟨u, ?_, relC_open hrel⟩
              rw [add_off]
              simp only [World.cell?, hh]
              rw [show i * cols.length + j + j' = i * cols.length + (j + j') by omega, hu]
              rfl
    · rename_i n cols ho
      cases hb : Nat.beq cols.length s
      · simp [hb] at h
      · simp only [hb, cond_true, Option.some.injEq, Prod.mk.injEq] at h
        obtain ⟨rfl, rfl⟩ := h
        have hs' : cols.length = s := Nat.eq_of_beq_eq_true hb
        subst hs'
        have hi : i < n := hvc.one
        obtain ⟨_, ho'⟩ := r.objs _ _ ho
        rcases ho' with ⟨_, hn⟩ | ⟨g, o, C, cv, T, hl, hh, hs, hn, hr⟩
        · omega
        · cases hv with
          | rptr hk _ hp hp2 =>
            have hv' : v = .pointer (some ⟨g, o + (i * cols.length + j), none⟩) := by
              rcases hl with hl | ⟨hl, rfl⟩
              · exact hp2 g o C hl
              · rw [Nat.zero_add]; exact hp g C hl
            refine ⟨_, hv', fun j' d hd => ?_⟩
            rw [List.getElem?_map, List.getElem?_drop] at hd
            cases hc : cols[j + j']? with
            | none => simp [hc] at hd
            | some f =>
              simp only [hc, Option.map_some, Option.some.injEq] at hd
              subst hd
              obtain ⟨u, hu, _, hrel⟩ := hr i (j + j') f hi hc
              refine ⟨u, ?_, relC_open hrel⟩
              rw [add_off]
              simp only [World.cell?, hh]
              rw [show o + (i * cols.length + j) + j' = o + (i * cols.length + (j + j')) by omega, hu]
              rfl
    · cases h
  · rename_i cs0
    simp only [Option.some.injEq, Prod.mk.injEq] at h
    obtain ⟨rfl, rfl⟩ := h
    cases hv with
    | cptr U ha ho hr => exact ⟨_, rfl, fun j d hd => ⟨U j, rdw_cell (ha j d hd).1 (ho j d hd), relC_open (hr j d hd)⟩⟩
  · cases h
theorem tAgg_run {t : TypeId} {b : Bool} (h : tAgg P t = some b) (w : World) : (isAgg t).run P w = .ok b w := by
  unfold tAgg at h
  split at h
  · rename_i hu; cases h; simp [isAgg, run_underlying hu]
  · rename_i hu; cases h; simp [isAgg, run_underlying hu]
  · rename_i d h1 h2 hu
    cases h
    simp only [isAgg, Sem.run_bind, run_underlying hu, Result.andThen_ok]
    rfl
  · cases h
theorem tSize_run {t : TypeId} {n : Nat} (h : tSize P t = some n) (w : World) : (sizeOf t).run P w = .ok n w := by
  unfold tSize at h
  split at h
  · rename_i i hi; cases h; simp [sizeOf, typeInfo, hi]
  · cases h
theorem evLoad_sound (r : R base w0 S0 σ kn blk a w) {t : TypeId} {p : DV} {v : Value} (hvc : AllP (evLoad P σ.obj t p).vc)
    (hv : Rel (rdOf w base S0 blk) kn blk p v) : Still P base S0 kn blk w (Instr.loadAt t v) (evLoad P σ.obj t p) := by
  unfold evLoad at hvc ⊢
  split at hvc
  · rename_i n cs vc h1 h2 h3
    cases hb : Nat.ble n cs.length
    · simp only [hb, cond_false] at hvc; exact bad_vc hvc
    · simp only [hb, cond_true] at hvc ⊢
      have hn : n ≤ cs.length := Nat.le_of_ble_eq_true hb
      obtain ⟨ad, rfl, hc⟩ := readAt_sound r h3 hvc hv
      refine ⟨rfl, .agg ((List.range n).map fun j => (w.cell? (ad.add j)).getD undef).toArray, ?_, ?_⟩
      · have hl := run_loadCells (P := P) w ad n (fun j => (w.cell? (ad.add j)).getD undef) (fun j hj => by
          obtain ⟨u, hu, _⟩ := hc j cs[j] (List.getElem?_eq_getElem (by omega))
          rw [hu]; rfl)
        simp only [Instr.loadAt, Instr.sureAddr, loadVar, Sem.run_bind, Sem.run_pure, Result.andThen_ok, tAgg_run h1, if_true, tSize_run h2, hl]
      · refine Rel.mkAgg (by simp; omega) fun j d u hd hu => ?_
        rw [List.getElem?_take] at hd
        split at hd
        · rename_i hj
          obtain ⟨u', hu', hrel⟩ := hc j d hd
          simp [hj, hu'] at hu
          subst hu; exact hrel
        · cases hd
  · rename_i n d rest vc h1 h2 h3
    obtain ⟨ad, rfl, hc⟩ := readAt_sound r h3 hvc hv
    obtain ⟨u, hu, hrel⟩ := hc 0 d rfl
    refine ⟨rfl, u, ?_, hrel⟩
    have hu' : w.cell? ad = some u := by simpa [Addr.add] using hu
    simp [Instr.loadAt, Instr.sureAddr, loadVar, tAgg_run h1, hu']
  · exact bad_vc hvc
theorem fieldPlace_run {ad : Addr} {fd : Field} {k : Nat} (h : tSize P fd.type = some (k + 1)) (w : World) : (fieldPlace ad fd).run P w = .ok (ad.add fd.offset) w := by
  simp [fieldPlace, tSize_run h]
theorem add_add (ad : Addr) (i j : Nat) : (ad.add i).add j = ad.add (i + j) := by
  unfold Addr.add
  by_cases hi : i = 0 <;> by_cases hj : j = 0 <;> simp [hi, hj, Nat.add_assoc]
theorem ptr_val' {id j : Nat} {v : Value} {rd : Rd} (hv : Rel rd kn blk (.ptr id j) v) : kn id ∧ (∃ p, v = .pointer (some p)) ∧ ∀ g C, blk id = some (.at_ g C) → v = .pointer (some ⟨g, j, none⟩) := by
  cases hv with | ptr hk hv h => exact ⟨hk, hv, h⟩
theorem evFieldAddr_sound {s : TypeId} {x : DV} {f : Nat} {v : Value} {e : Eff} (he : evFieldAddr P s x f = e) (hvc : AllP e.vc)
    (hv : Rel (rdOf w base S0 blk) kn blk x v) : Still P base S0 kn blk w (Instr.fieldAt s v f) e := by
  unfold evFieldAddr at he
  split at he
  · rename_i fs hu
    split at he
    · rename_i fd hf
      split at he
      · rename_i k hk
        have run : ∀ ad, (Instr.fieldAt s (.pointer (some ad)) f).run P w = .ok (.pointer (some (ad.add fd.offset))) w := fun ad => by
          simp [Instr.fieldAt, run_underlying hu, hf, Instr.sureAddr, fieldPlace_run hk]
        split at he
        · rename_i id j
          subst he
          cases hv with
          | ptr hkn hp h =>
            obtain ⟨ad, rfl⟩ := hp
            refine ⟨rfl, _, run ad, .ptr hkn ⟨_, rfl⟩ fun g C hb => ?_⟩
            have := h g C hb
            simp only [Value.pointer.injEq, Option.some.injEq] at this
            rw [this, add_off]
        · rename_i s' id i j
          subst he
          cases hv with
          | rptr hkn hp h h2 =>
            obtain ⟨ad, rfl⟩ := hp
            refine ⟨rfl, _, run ad, .rptr hkn ⟨_, rfl⟩ (fun g C hb => ?_) fun g o C hb => ?_⟩
            · have := h g C hb
              simp only [Value.pointer.injEq, Option.some.injEq] at this
              rw [this, add_off, Nat.add_assoc]
            · have := h2 g o C hb
              simp only [Value.pointer.injEq, Option.some.injEq] at this
              rw [this, add_off, Nat.add_assoc, Nat.add_assoc]
        · rename_i s' id i j
          have key : ∀ q, j + fd.offset = q → ({ d := .gptr s' id i q } : Eff) = e → Still P base S0 kn blk w (Instr.fieldAt s v f) e := fun q hq he => by
            subst he
            cases hv with
            | gptr hkn hp h =>
              obtain ⟨ad, rfl⟩ := hp
              refine ⟨rfl, _, run ad, .gptr hkn ⟨_, rfl⟩ fun g C bs hb => ?_⟩
              have := h g C bs hb
              simp only [Value.pointer.injEq, Option.some.injEq] at this
              rw [this, add_off, Nat.add_assoc, hq]
          split at he
          · rename_i hq; exact key 0 hq he
          · rename_i hq; exact key 1 hq he
          · rename_i hq; exact key 2 hq he
          · rename_i hq; exact key 3 hq he
          · subst he; exact bad_vc hvc
        · rename_i cs
          subst he
          cases hv with
          | cptr U ha ho hr =>
            refine ⟨rfl, _, run _, .cptr (fun j => U (fd.offset + j)) (fun j d hd => ?_) (fun j d hd => ?_) fun j d hd => ?_⟩
            · rw [List.getElem?_drop] at hd
              rw [add_add]; exact ha _ _ hd
            · rw [List.getElem?_drop] at hd
              exact ho _ _ hd
            · rw [List.getElem?_drop] at hd
              exact hr _ _ hd
        · subst he; exact bad_vc hvc
      · subst he; exact bad_vc hvc
    · subst he; exact bad_vc hvc
  · subst he; exact bad_vc hvc
theorem aggCells_sound {x : DV} {v : Value} {cs : List DV} {rd : Rd} (hv : Rel rd kn blk x v) (h : aggCells x = some cs) :
    ∃ vs, v = .agg vs ∧ vs.size = cs.length ∧ ∀ (j : Nat) (d : DV) (u : Value), cs[j]? = some d → vs[j]? = some u → Rel rd kn blk d u := by
  unfold aggCells at h
  split at h
  · cases h
    cases hv with
    | agg hs hr => exact ⟨_, rfl, hs, hr⟩
  · cases h
    cases hv
    refine ⟨_, rfl, by simp, fun j d u hd hu => ?_⟩
    simp only [List.getElem?_map, Array.getElem?_toList, hu, Option.map_some, Option.some.injEq] at hd
    subst hd; exact .val u
  · cases h
theorem part_sound {t : TypeId} {cs : List DV} {vs : Array Value} {rd : Rd} {off n : Nat} (h1 : tAgg P t = some true) (h2 : tSize P t = some n) (hn : off + n ≤ cs.length) (hs : vs.size = cs.length)
    (hr : ∀ (j : Nat) (d : DV) (u : Value), cs[j]? = some d → vs[j]? = some u → Rel rd kn blk d u) :
    ∃ v, (part t vs off).run P w = .ok v w ∧ Rel rd kn blk (mkAgg ((cs.drop off).take n)) v := by
  refine ⟨.agg (vs.extract off (off + n)), by simp [part, tAgg_run h1, tSize_run h2], ?_⟩
  refine Rel.mkAgg (by simp; omega) fun j d u hd hu => ?_
  rw [List.getElem?_take] at hd
  split at hd
  · rename_i hj
    rw [List.getElem?_drop] at hd
    rw [Array.getElem?_extract] at hu
    split at hu
    · exact hr _ _ _ hd hu
    · cases hu
  · cases hd
theorem part_one {t : TypeId} {cs : List DV} {vs : Array Value} {rd : Rd} {off : Nat} {d : DV} (h1 : tAgg P t = some false) (hd : cs[off]? = some d) (hs : vs.size = cs.length)
    (hr : ∀ (j : Nat) (d : DV) (u : Value), cs[j]? = some d → vs[j]? = some u → Rel rd kn blk d u) :
    ∃ v, (part t vs off).run P w = .ok v w ∧ Rel rd kn blk d v := by
  have hlt : off < vs.size := by rw [hs]; exact (List.getElem?_eq_some_iff.1 hd).1
  have hu : vs[off]? = some vs[off] := Array.getElem?_eq_getElem hlt
  exact ⟨vs[off], by simp [part, tAgg_run h1, hu], hr _ _ _ hd hu⟩
theorem evField_sound {t : TypeId} {x : DV} {f : Nat} {v : Value} {e : Eff} (he : evField P t x f = e) (hvc : AllP e.vc)
    (hv : Rel (rdOf w base S0 blk) kn blk x v) : Still P base S0 kn blk w (Instr.field t v f) e := by
  unfold evField at he
  split at he
  · rename_i fs hu
    split at he
    · rename_i fd hf
      split at he
      · rename_i n cs h1 h2 h3
        cases hb : Nat.ble (fd.offset + n) cs.length
        · simp only [hb, cond_false] at he; subst he; exact bad_vc hvc
        · simp only [hb, cond_true] at he
          subst he
          obtain ⟨vs, rfl, hs, hr⟩ := aggCells_sound hv h3
          obtain ⟨v, hrun, hrel⟩ := part_sound (w := w) h1 h2 (Nat.le_of_ble_eq_true hb) hs hr
          exact ⟨rfl, v, by simp [Instr.field, run_underlying hu, hf, asAgg, hrun], hrel⟩
      · rename_i n cs h1 h2 h3
        split at he
        · rename_i d hd
          subst he
          obtain ⟨vs, rfl, hs, hr⟩ := aggCells_sound hv h3
          obtain ⟨v, hrun, hrel⟩ := part_one (w := w) h1 hd hs hr
          exact ⟨rfl, v, by simp [Instr.field, run_underlying hu, hf, asAgg, hrun], hrel⟩
        · subst he; exact bad_vc hvc
      · subst he; exact bad_vc hvc
    · subst he; exact bad_vc hvc
  · subst he; exact bad_vc hvc
theorem evExtract_sound {x : DV} {i : Nat} {v : Value} {e : Eff} (he : evExtract x i = e) (hvc : AllP e.vc)
    (hv : Rel (rdOf w base S0 blk) kn blk x v) : Still P base S0 kn blk w (Instr.extract v i) e := by
  unfold evExtract at he
  split at he
  · split at he
    · rename_i d hd
      subst he
      cases hv with
      | tup hs hr =>
        rename_i vs
        have hlt : i < vs.size := by rw [hs]; exact (List.getElem?_eq_some_iff.1 hd).1
        have hu : vs[i]? = some vs[i] := Array.getElem?_eq_getElem hlt
        exact ⟨rfl, vs[i], by simp [Instr.extract, hu], hr _ _ _ hd hu⟩
    · subst he; exact bad_vc hvc
  · split at he
    · rename_i u hu
      subst he
      cases hv
      exact ⟨rfl, u, by simp [Instr.extract, hu], .val u⟩
    · subst he; exact bad_vc hvc
  · subst he; exact bad_vc hvc
theorem isRow_sound (_r : R base w0 S0 σ kn blk a w) {id s : Nat} (h : isRow σ.obj id s = true) : ∃ n cols, σ.obj id = some (.row n cols) ∧ cols.length = s := by
  unfold isRow at h
  split at h
  · rename_i n cols ho; exact ⟨n, cols, ho, Nat.eq_of_beq_eq_true h⟩
  · cases h
theorem row_val (r : R base w0 S0 σ kn blk a w) {s id off len : Nat} {v : Value} (h : isRow σ.obj id s = true) (hv : Rel (rdOf w base S0 blk) kn blk (.row s id off len) v) :
    kn id ∧ ((v = .slice none 0 0 ∧ off = 0 ∧ len = 0 ∧ blk id = some .nil) ∨ (∃ g C, v = .slice (some ⟨g, off * s, none⟩) len (C - off) ∧ off + len ≤ C ∧ blk id = some (.at_ g C)) ∨ (0 < off ∧ len = 0 ∧ ∃ p c, v = .slice p 0 c)) := by
  obtain ⟨n, cols, ho, hs⟩ := isRow_sound r h
  obtain ⟨_, hor⟩ := r.objs _ _ ho
  cases hv with
  | row hk hp h0 h =>
    refine ⟨hk, ?_⟩
    rcases hor with ⟨hl, _⟩ | ⟨g, C, cv, T, hl, _⟩
    · obtain ⟨e1, e2, e3⟩ := h0 hl; exact .inl ⟨e1, e2, e3, hl⟩
    · rcases h g C hl with ⟨e1, e2⟩ | ⟨e1, rfl⟩
      · exact .inr (.inl ⟨g, C, e1, e2, hl⟩)
      · exact .inr (.inr ⟨e1, rfl, let ⟨p, c, e, _⟩ := hp; ⟨p, c, e⟩⟩)
theorem row_valA (r : R base w0 S0 σ kn blk a w) {s id off len : Nat} {v : Value} (h : isRowA σ.obj id s = true) (hv : Rel (rdOf w base S0 blk) kn blk (.row s id off len) v) :
    kn id ∧ ((v = .slice none 0 0 ∧ off = 0 ∧ len = 0 ∧ blk id = some .nil) ∨ (∃ g o C, v = .slice (some ⟨g, o + off * s, none⟩) len (C - off) ∧ off + len ≤ C ∧ (blk id = some (.sub g o C) ∨ (blk id = some (.at_ g C) ∧ o = 0))) ∨ (0 < off ∧ len = 0 ∧ ∃ p c, v = .slice p 0 c)) := by
  cases hb : isRow σ.obj id s with
  | true =>
    obtain ⟨hk, h1 | ⟨g, C, e, hC, hl⟩ | h1⟩ := row_val r hb hv
    · exact ⟨hk, .inl h1⟩
    · exact ⟨hk, .inr (.inl ⟨g, 0, C, by rw [Nat.zero_add]; exact e, hC, .inr ⟨hl, rfl⟩⟩)⟩
    · exact ⟨hk, .inr (.inr h1)⟩
  | false =>
    unfold isRowA at h
    split at h
    · rename_i n cols ho; unfold isRow at hb; rw [ho] at hb; simp only at hb; rw [hb] at h; cases h
    · rename_i n cols ho
      obtain ⟨_, hor⟩ := r.objs _ _ ho
      cases hv with
      | row hk hp h0 h1 h2 =>
        refine ⟨hk, ?_⟩
        rcases hor with ⟨hl, _⟩ | ⟨g, o, C, cv, T, hl, _⟩
        · obtain ⟨e1, e2, e3⟩ := h0 hl; exact .inl ⟨e1, e2, e3, hl⟩
        · rcases hl with hl | ⟨hl, rfl⟩
          · rcases h2 g o C hl with ⟨e1, e2⟩ | ⟨e1, rfl⟩
            · exact .inr (.inl ⟨g, o, C, e1, e2, .inl hl⟩)
            · exact .inr (.inr ⟨e1, rfl, let ⟨p, c, e, _⟩ := hp; ⟨p, c, e⟩⟩)
          · rcases h1 g C hl with ⟨e1, e2⟩ | ⟨e1, rfl⟩
            · exact .inr (.inl ⟨g, 0, C, by rw [Nat.zero_add]; exact e1, e2, .inr ⟨hl, rfl⟩⟩)
            · exact .inr (.inr ⟨e1, rfl, let ⟨p, c, e, _⟩ := hp; ⟨p, c, e⟩⟩)
    · cases h
theorem addN_eq (off i : Nat) : addN off i = off + i := by cases off <;> simp [addN]
theorem evLen_sound (r : R base w0 S0 σ kn blk a w) {t ty : TypeId} {x : DV} {v : Value} {e : Eff} (he : evLen P σ.obj t x = e) (hvc : AllP e.vc)
    (hv : Rel (rdOf w base S0 blk) kn blk x v) : Still P base S0 kn blk w (Builtin.len_ #[t] ty #[v]) e := by
  unfold evLen at he
  split at he
  · rename_i s id off len
    split at he
    · rename_i el hu
      subst he
      cases hv with
      | row hk hp _ _ _ =>
        obtain ⟨p, c, rfl, _⟩ := hp
        exact ⟨rfl, _, by simp [Builtin.len_, run_underlying hu]; rfl, .val _⟩
    · subst he; exact bad_vc hvc
  · rename_i s id len
    split at he
    · rename_i el hu
      subst he
      cases hv with
      | grd hk hp _ =>
        obtain ⟨p, c, rfl, _⟩ := hp
        exact ⟨rfl, _, by simp [Builtin.len_, run_underlying hu]; rfl, .val _⟩
    · subst he; exact bad_vc hvc
  · unfold evLenP at he
    split at he
    · split at he
      · rename_i el hu
        subst he
        cases hv with
        | lst U hc ha hn _ hr => exact ⟨rfl, _, by simp [Builtin.len_, run_underlying hu]; rfl, .val _⟩
      · subst he; exact bad_vc hvc
    · split at he
      · rename_i el hu
        subst he
        cases hv
        exact ⟨rfl, _, by simp [Builtin.len_, run_underlying hu]; rfl, .val _⟩
      · subst he; exact bad_vc hvc
    · split at he
      · rename_i hu
        subst he
        cases hv
        exact ⟨rfl, _, by simp [Builtin.len_, run_underlying hu]; rfl, .val _⟩
      · subst he; exact bad_vc hvc
    · subst he; exact bad_vc hvc
end
end Go.Abs
end
section
namespace Go.Abs
open Go.RowKit
section
variable {P : Program} {base : Nat} {w0 w : World} {S0 : Env} {σ : St} {kn : Nat → Prop} {blk : Nat → Option Loc} {a : Act}
theorem wrap_in {n : Int} (h : i64In n) : IntKind.i64.wrap n = n := IntWalk.i64_in n h
theorem and3 {x : Int} (h0 : 0 ≤ x) (h1 : x ≤ 9223372036854775807) : IntKind.i64.wrap ((BitVec.ofInt 64 x &&& BitVec.ofInt 64 3).toNat : Int) = x % 4 := by
  have e : (BitVec.ofInt 64 x &&& BitVec.ofInt 64 3).toNat = (x % 4).toNat := by
    obtain ⟨n, rfl⟩ := Int.eq_ofNat_of_zero_le h0
    have h3 : (BitVec.ofInt 64 3).toNat = 3 := by decide
    have hn : (BitVec.ofInt 64 (n : Int)).toNat = n := by
      rw [BitVec.ofInt_natCast, BitVec.toNat_ofNat, Nat.mod_eq_of_lt (by omega)]
    rw [BitVec.toNat_and, h3, hn]
    have := Nat.and_two_pow_sub_one_eq_mod n 2
    simp only [Nat.reducePow, Nat.reduceSub] at this
    rw [this]
    omega
  rw [e]
  exact (wrap_in (n := ((x % 4).toNat : Int)) ⟨by omega, by omega⟩).trans (by omega)
theorem evInt_sound {oc : Orc} {op : BinOp} {k : IntKind} {x y : Int} {e : Eff} {t : TypeId} {ox oy : Operand} (he : evInt oc op k x y = e) (hvc : AllP e.vc) :
    Still P base S0 kn blk w (do eqGuard op t ox oy (.int k x) (.int k y); binOp op t (.int k x) (.int k y)) e := by
  have ok : ∀ u, e.d = .val u → e.hw = [] → (do eqGuard op t ox oy (.int k x) (.int k y); binOp op t (.int k x) (.int k y) : Sem Value).run P w = .ok u w → Still P base S0 kn blk w (do eqGuard op t ox oy (.int k x) (.int k y); binOp op t (.int k x) (.int k y)) e := by
    intro u hd hw hr
    exact ⟨hw, u, hr, by rw [hd]; exact .val u⟩
  unfold evInt at he
  split at he
  · subst he; exact ok _ rfl rfl (by simp [eqGuard, binOp, Op.intCmp])
  · subst he; exact ok _ rfl rfl (by simp [eqGuard, binOp, Op.intCmp])
  · subst he; exact ok _ rfl rfl (by simp [eqGuard, binOp, Op.intCmp])
  · subst he; exact ok _ rfl rfl (by simp [eqGuard, binOp, Op.intCmp])
  · subst he; exact ok _ rfl rfl (by simp [eqGuard, binOp, Op.intCmp])
  · subst he; exact ok _ rfl rfl (by simp [eqGuard, binOp, Op.intCmp])
  · split at he
    · subst he; exact ok _ rfl rfl (by simp [eqGuard, binOp, Op.intArith, wrap_in hvc.one])
    · subst he; exact ok _ rfl rfl (by simp [eqGuard, binOp, Op.intArith])
  · subst he; exact ok _ rfl rfl (by simp [eqGuard, binOp, Op.intArith])
  · split at he
    · subst he; exact ok _ rfl rfl (by simp [eqGuard, binOp, Op.intArith, wrap_in hvc.one])
    · subst he; exact ok _ rfl rfl (by simp [eqGuard, binOp, Op.intArith])
  · subst he; exact ok _ rfl rfl (by simp [eqGuard, binOp, Op.intArith])
  · split at he
    · subst he; exact ok _ rfl rfl (by simp [eqGuard, binOp, Op.intArith, wrap_in hvc.one])
    · subst he; exact ok _ rfl rfl (by simp [eqGuard, binOp, Op.intArith])
  · subst he; exact ok _ rfl rfl (by simp [eqGuard, binOp, Op.intArith])
  · split at he
    · subst he
      obtain ⟨h1, h2, h3⟩ := hvc.one
      have hq : x.tdiv y = x / y := Int.tdiv_eq_ediv_of_nonneg h1
      have hin : i64In (x / y) := ⟨by have := Int.ediv_nonneg h1 (Int.le_of_lt h2); omega, by have := Int.ediv_le_self y h1; omega⟩
      exact ok _ rfl rfl (by simp [eqGuard, binOp, Op.intDiv, show y ≠ 0 by omega, hq, wrap_in hin])
    · subst he; exact bad_vc hvc
  · subst he; exact ok _ rfl rfl (by simp [eqGuard, binOp, Op.intDiv, hvc.one])
  · subst he
    obtain ⟨h1, h2⟩ := hvc.one
    exact ok _ rfl rfl (by simp [eqGuard, binOp, Op.intDiv, show y ≠ 0 by omega, Int.tmod_eq_emod_of_nonneg h1])
  · subst he; exact ok _ rfl rfl (by simp [eqGuard, binOp, Op.intDiv, hvc.one])
  · split at he
    · subst he
      obtain ⟨h1, h2, rfl⟩ := hvc.one
      have h3 := and3 h1 h2
      rw [show BitVec.ofInt 64 3 = 3#64 from rfl] at h3
      exact ok _ rfl rfl (by
        simp only [eqGuard, binOp, Op.intBits, IntKind.bits]
        simp
        exact h3)
    · subst he; exact bad_vc hvc
  · subst he; exact bad_vc hvc
theorem evStr_sound {op : BinOp} {x y : ByteArray} {e : Eff} {t : TypeId} {ox oy : Operand} (he : evStr op x y = e) (hvc : AllP e.vc) :
    Still P base S0 kn blk w (do eqGuard op t ox oy (.string x) (.string y); binOp op t (.string x) (.string y)) e := by
  have ok : ∀ u, e.d = .val u → e.hw = [] → (do eqGuard op t ox oy (.string x) (.string y); binOp op t (.string x) (.string y) : Sem Value).run P w = .ok u w → Still P base S0 kn blk w (do eqGuard op t ox oy (.string x) (.string y); binOp op t (.string x) (.string y)) e := by
    intro u hd hw hr
    exact ⟨hw, u, hr, by rw [hd]; exact .val u⟩
  unfold evStr at he
  split at he
  · subst he
    have h := hvc.one
    exact ok _ rfl rfl (by simp [eqGuard, binOp, Op.stringOp]; omega)
  · subst he; exact ok _ rfl rfl (by simp [eqGuard, binOp, Op.stringOp])
  · subst he; exact ok _ rfl rfl (by simp [eqGuard, binOp, Op.stringOp])
  · subst he; exact ok _ rfl rfl (by simp [eqGuard, binOp, Op.stringOp])
  · subst he; exact bad_vc hvc
theorem evBin_sound {oc : Orc} {op : BinOp} {d1 d2 : DV} {v1 v2 : Value} {e : Eff} {t : TypeId} {ox oy : Operand} (he : evBin oc op d1 d2 = e) (hvc : AllP e.vc)
    (h1 : Rel (rdOf w base S0 blk) kn blk d1 v1) (h2 : Rel (rdOf w base S0 blk) kn blk d2 v2) :
    Still P base S0 kn blk w (do eqGuard op t ox oy v1 v2; binOp op t v1 v2) e := by
  unfold evBin at he
  split at he
  · cases h1; cases h2
    split at he
    · rename_i hk; subst hk; exact evInt_sound he hvc
    · subst he; exact bad_vc hvc
  · cases h1; cases h2; exact evStr_sound he hvc
  · subst he; exact bad_vc hvc
theorem evEq_sound {neg : Bool} {op : BinOp} {d1 d2 : DV} {v1 v2 : Value} {e : Eff} {t : TypeId} {ox oy : Operand} (hop : op = if neg then .neq else .eql) (he : evEq P neg t d1 d2 = e) (hvc : AllP e.vc)
    (h1 : Rel (rdOf w base S0 blk) kn blk d1 v1) (h2 : Rel (rdOf w base S0 blk) kn blk d2 v2) :
    Still P base S0 kn blk w (do eqGuard op t ox oy v1 v2; binOp op t v1 v2) e := by
  unfold evEq at he
  split at he
  · rename_i x y
    cases h1; cases h2
    split at he
    · rename_i hu
      subst he; subst hop
      have he : ∀ d, (Op.equalIn (d + 1) t (.bool x) (.bool y)).run P w = .ok (x == y) w := fun d => by simp [Op.equalIn, run_underlying hu]
      have he' : (Op.equal t (.bool x) (.bool y)).run P w = .ok (x == y) w := he 9999
      refine ⟨rfl, _, ?_, .val _⟩
      cases neg
      · have hb : binOp .eql t (.bool x) (.bool y) = (do pure (.bool (← Op.equal t (.bool x) (.bool y)))) := rfl
        have hg : (eqGuard .eql t ox oy (.bool x) (.bool y)).run P w = .ok () w := by simp [eqGuard]
        simp only [Sem.run_bind, if_neg Bool.false_ne_true, hg, hb, he', Result.andThen_ok, Sem.run_pure]
      · have hb : binOp .neq t (.bool x) (.bool y) = (do pure (.bool (!(← Op.equal t (.bool x) (.bool y))))) := rfl
        have hg : (eqGuard .neq t ox oy (.bool x) (.bool y)).run P w = .ok () w := by simp [eqGuard]
        simp only [Sem.run_bind, if_true, hg, hb, he', Result.andThen_ok, Sem.run_pure]
    · subst he; exact bad_vc hvc
  · subst he; exact bad_vc hvc
theorem partD_sound {t : TypeId} {cs : List DV} {vs : Array Value} {rd : Rd} {off : Nat} {d : DV} (h : partD P t cs off = some d) (hs : vs.size = cs.length)
    (hr : ∀ (j : Nat) (d : DV) (u : Value), cs[j]? = some d → vs[j]? = some u → Rel rd kn blk d u) :
    ∃ v, (part t vs off).run P w = .ok v w ∧ Rel rd kn blk d v := by
  unfold partD at h
  split at h
  · rename_i n h1 h2
    cases hb : Nat.ble (off + n) cs.length
    · simp [hb] at h
    · simp only [hb, cond_true, Option.some.injEq] at h
      subst h
      exact part_sound h1 h2 (Nat.le_of_ble_eq_true hb) hs hr
  · rename_i h1
    exact part_one h1 h hs hr
  · cases h
theorem eqDV_sound {rd : Rd} : ∀ (d : Nat) {t : TypeId} {x y : DV} {u v : Value} {b : Bool}, eqDV P d t x y = some b → Rel rd kn blk x u → Rel rd kn blk y v →
    ∀ k, (Op.equalIn (k + d) t u v).run P w = .ok b w
  | 0, t, x, y, u, v, b, h, _, _ => by cases h
  | d + 1, t, x, y, u, v, b, h, hx, hy => by
    intro k
    rw [show k + (d + 1) = (k + d) + 1 from rfl]
    unfold eqDV at h
    split at h
    · rename_i q hu
      split at h
      · split at h
        · rename_i hk
          cases h; cases hx; cases hy
          subst hk
          exact run_equalIn_int w (k + d) t _ _ _ _ hu
        · cases h
      · cases h
    · rename_i hu
      split at h
      · cases h; cases hx; cases hy
        exact run_equalIn_bool' w (k + d) t _ _ hu
      · cases h
    · rename_i hu
      split at h
      · cases h; cases hx; cases hy
        exact run_equalIn_string w (k + d) t _ _ hu
      · cases h
    · rename_i fs hu
      split at h
      · rename_i xs ys h1 h2
        cases hp : P.stoodInHeld t
        · simp only [hp, cond_false] at h
          obtain ⟨us, rfl, hus, hur⟩ := aggCells_sound hx h1
          obtain ⟨vs, rfl, hvs, hvr⟩ := aggCells_sound hy h2
          have hf : P.fieldsOf t = fs := by simp [Program.fieldsOf, hu]
          rw [run_equalIn_struct w (k + d) t us vs (by rw [hf]; exact hu) hp, hf]
          generalize fs.toList = l at h
          clear hf hu hx hy h1 h2
          induction l generalizing b with
          | nil => cases h; simp [Op.eqFields]
          | cons f l ih =>
            simp only [eqFlds] at h
            cases hn : f.name == "_"
            · simp only [hn, cond_false] at h
              split at h
              · rename_i a1 a2 g1 g2
                split at h
                · rename_i c1 c2 e1 e2
                  cases h
                  obtain ⟨u1, r1, rel1⟩ := partD_sound (w := w) g1 hus hur
                  obtain ⟨u2, r2, rel2⟩ := partD_sound (w := w) g2 hvs hvr
                  have h3 := eqDV_sound d e1 rel1 rel2 k
                  have h4 := ih _ e2
                  simp only [Op.eqFields, show f.name ≠ "_" from by simpa using hn, ne_eq, not_false_eq_true, if_true, Sem.run_bind, r1, r2, h3, Result.andThen_ok]
                  cases c1
                  · simp
                  · simpa using h4
                · cases h
              · cases h
            · simp [hn] at h
        · simp [hp] at h
      · cases h
    · rename_i n e hu
      split at h
      · rename_i xs ys sz h1 h2 hsz
        obtain ⟨us, rfl, hus, hur⟩ := aggCells_sound hx h1
        obtain ⟨vs, rfl, hvs, hvr⟩ := aggCells_sound hy h2
        obtain ⟨i, hi, rfl⟩ : ∃ i, P.info? e = some i ∧ i.size = sz := by
          unfold tSize at hsz
          split at hsz
          · rename_i i hi; exact ⟨i, hi, Option.some.inj hsz⟩
          · cases hsz
        have hc : P.cellsOf e = i.size := by simp [Program.cellsOf, hi]
        rw [run_equalIn_array w (k + d) us vs hu hi, hc]
        generalize List.range n = l at h
        clear hx hy h1 h2
        induction l generalizing b with
        | nil => cases h; simp [Op.eqItems]
        | cons q l ih =>
          simp only [eqItms] at h
          split at h
          · rename_i a1 a2 g1 g2
            split at h
            · rename_i c1 c2 e1 e2
              cases h
              obtain ⟨u1, r1, rel1⟩ := partD_sound (w := w) g1 hus hur
              obtain ⟨u2, r2, rel2⟩ := partD_sound (w := w) g2 hvs hvr
              have h3 := eqDV_sound d e1 rel1 rel2 k
              have h4 := ih _ e2
              simp only [Op.eqItems, Sem.run_bind, r1, r2, h3, Result.andThen_ok]
              cases c1
              · simp
              · simpa using h4
            · cases h
          · cases h
      · cases h
    · cases h
theorem evEqA_sound {op : BinOp} {d1 d2 : DV} {v1 v2 : Value} {e : Eff} {t : TypeId} {ox oy : Operand} (he : evEqA P op t d1 d2 = e) (hvc : AllP e.vc)
    (h1 : Rel (rdOf w base S0 blk) kn blk d1 v1) (h2 : Rel (rdOf w base S0 blk) kn blk d2 v2) :
    Still P base S0 kn blk w (do eqGuard op t ox oy v1 v2; binOp op t v1 v2) e := by
  unfold evEqA at he
  cases hg : P.eqGuardType P.depth t
  · simp only [hg, cond_false] at he
    split at he
    · rename_i xs ys b g1 g2 hb
      subst he
      obtain ⟨us, rfl, _, _⟩ := aggCells_sound h1 g1
      obtain ⟨vs, rfl, _, _⟩ := aggCells_sound h2 g2
      have := eqDV_sound (w := w) 8 hb h1 h2 9992
      exact ⟨rfl, .bool b, by simp only [Sem.run_bind, run_eqGuard_agg w _ t ox oy us vs hg, Result.andThen_ok, run_eql_struct, this], .val _⟩
    · rename_i xs ys b g1 g2 hb
      subst he
      obtain ⟨us, rfl, _, _⟩ := aggCells_sound h1 g1
      obtain ⟨vs, rfl, _, _⟩ := aggCells_sound h2 g2
      have := eqDV_sound (w := w) 8 hb h1 h2 9992
      exact ⟨rfl, .bool !b, by simp only [Sem.run_bind, run_eqGuard_agg w _ t ox oy us vs hg, Result.andThen_ok, run_neq_struct, this], .val _⟩
    · subst he; exact bad_vc hvc
  · simp only [hg, cond_true] at he; subst he; exact bad_vc hvc
theorem evErr_sound {b : Bool} {v1 : Value} {e : Eff} {t : TypeId} {ox oy : Operand} (he : evErr P t oy b = e) (hvc : AllP e.vc) (h1 : Rel (rdOf w base S0 blk) kn blk (.err b) v1) :
    Still P base S0 kn blk w (do eqGuard .neq t ox oy v1 .nilIface; binOp .neq t v1 .nilIface) e := by
  unfold evErr at he
  cases hi : P.isIface t
  · simp only [hi, cond_false] at he; subst he; exact bad_vc hvc
  · simp only [hi, cond_true] at he
    cases oy with
    | const c =>
      simp only [opdC, cond_true] at he
      subst he
      cases h1 with
      | err a1 a2 =>
        cases b with
        | true =>
          obtain rfl := a1 rfl
          exact ⟨rfl, .bool false, by simp [eqGuard, run_neq_nil_nil_at w t hi], .val _⟩
        | false =>
          obtain ⟨u, p, rfl⟩ := a2 rfl
          exact ⟨rfl, .bool true, by simp [eqGuard, run_neq_iface_nil w t hi u p], .val _⟩
    | tmp c => simp only [opdC, cond_false] at he; subst he; exact bad_vc hvc
    | global c => simp only [opdC, cond_false] at he; subst he; exact bad_vc hvc
    | func c => simp only [opdC, cond_false] at he; subst he; exact bad_vc hvc
theorem evUn_sound {op : UnOp} {d : DV} {v : Value} {e : Eff} (he : evUn op d = e) (hvc : AllP e.vc) (h : Rel (rdOf w base S0 blk) kn blk d v) :
    Still P base S0 kn blk w (Op.unary op v) e := by
  unfold evUn at he
  split at he
  · cases h
    split at he
    · subst he; exact ⟨rfl, .bool _, by simp [Op.unary], .val _⟩
    · subst he; exact bad_vc hvc
  · cases h
    split at he
    · subst he
      refine ⟨rfl, _, ?_, .val _⟩
      simp [Op.unary, Op.intArith, wrap_in hvc.one]
    · subst he; exact bad_vc hvc
  · subst he; exact bad_vc hvc
theorem evConv_sound {src dst : TypeId} {d : DV} {v : Value} {e : Eff} (hs : ∃ q, P.underlying src = some q) (he : evConv P dst d = e) (hvc : AllP e.vc) (h : Rel (rdOf w base S0 blk) kn blk d v) :
    Still P base S0 kn blk w (convert src dst v) e := by
  obtain ⟨q, hq⟩ := hs
  unfold evConv at he
  split at he
  · cases h
    split at he
    · rename_i hu
      subst he
      exact ⟨rfl, .int .i64 _, by simp [convert, run_underlying hq, run_underlying hu, Conv.intToInt, wrap_in hvc.one], .val _⟩
    · rename_i k _ hu
      subst he
      exact ⟨rfl, .int k _, by simp [convert, run_underlying hq, run_underlying hu, Conv.intToInt], .val _⟩
    · subst he; exact bad_vc hvc
  · subst he; exact bad_vc hvc
theorem allInts_sound : ∀ {cs : List DV} {k : IntKind} {l : List Int}, allInts cs = some (k, l) → cs = l.map fun n => .val (.int k n) := by
  intro cs
  induction cs with
  | nil => intro k l h; simp [allInts] at h
  | cons d r ih =>
    intro k l h
    cases d with
    | val v =>
      cases v with
      | int k0 x =>
        cases r with
        | nil =>
          simp only [allInts, Option.some.injEq, Prod.mk.injEq] at h
          obtain ⟨rfl, rfl⟩ := h; rfl
        | cons d' r' =>
          simp only [allInts] at h
          cases hr : allInts (d' :: r') with
          | none => simp [hr] at h
          | some q =>
            obtain ⟨k', l'⟩ := q
            simp only [hr] at h
            split at h
            · rename_i hk
              subst hk
              simp only [Option.some.injEq, Prod.mk.injEq] at h
              obtain ⟨rfl, rfl⟩ := h
              rw [ih hr]; rfl
            · cases h
      | _ => cases r <;> simp [allInts] at h
    | _ => cases r <;> simp [allInts] at h
theorem mkCol_sound {cs : List DV} {i : Nat} {d : DV} (h : cs[i]? = some d) {rd : Rd} {v : Value} (hr : Rel rd kn blk d v) : Rel rd kn blk (mkCol cs i) v := by
  match cs, h with
  | [], h => simp at h
  | [d'], h =>
    match i, h with
    | 0, h => simp at h; subst h; exact hr
    | i + 1, h => simp at h
  | c1 :: c2 :: r, h =>
    simp only [mkCol]
    generalize c1 :: c2 :: r = cs at h
    cases hl : allInts cs with
    | some q =>
      obtain ⟨k, l⟩ := q
      have := allInts_sound hl
      subst this
      rw [List.getElem?_map] at h
      cases hli : l[i]? with
      | none => simp [hli] at h
      | some n =>
        simp only [hli, Option.map_some, Option.some.injEq] at h
        subst h
        simpa [List.getD, hli] using hr
    | none => simpa [List.getD, h] using hr
theorem every_get : ∀ (s j n : Nat) (cs : List DV) (i : Nat), i < n → (n - 1) * s + j < cs.length → (every s j n cs)[i]? = cs[i * s + j]?
  | _, _, 0, _, _, h, _ => by omega
  | s, j, n + 1, cs, i, hi, hl => by
    have hj : j < cs.length := by
      have : 0 ≤ (n + 1 - 1) * s := Nat.zero_le _
      omega
    simp only [every, List.getElem?_eq_getElem hj]
    cases i with
    | zero => simp [List.getElem?_eq_getElem hj]
    | succ i =>
      simp only [List.getElem?_cons_succ]
      have hn : n - 1 + 1 = n := by omega
      have hmul : (n - 1) * s + s = n * s := by
        rw [← Nat.succ_mul]; congr 1
      rw [every_get s j n (cs.drop s) i (by omega) (by simp only [Nat.add_sub_cancel] at hl; rw [List.length_drop]; omega), List.getElem?_drop]
      congr 1
      rw [Nat.succ_mul]; omega
theorem evIndex_sound {t : TypeId} {x i : DV} {v vi : Value} {e : Eff} (he : evIndex P t x i = e) (hvc : AllP e.vc)
    (hv : Rel (rdOf w base S0 blk) kn blk x v) (hi : Rel (rdOf w base S0 blk) kn blk i vi) : Still P base S0 kn blk w (Instr.index t v vi) e := by
  unfold evIndex at he
  split at he
  · rename_i s k q hu
    cases hv; cases hi
    subst he
    have hk : 0 ≤ q ∧ q < (s.size : Int) := hvc.one
    refine ⟨rfl, _, ?_, .val _⟩
    have hlt : q.toNat < s.size := by omega
    have h2 : s[q.toNat]? = some s[q.toNat] := by simp [hlt]
    have h3 : s.data.getD q.toNat 0 = s[q.toNat] := by
      have : q.toNat < s.data.size := hlt
      unfold Array.getD
      rw [dif_pos this]; rfl
    simp only [Instr.index, asIntOf, Sem.run_bind, Sem.run_pure, Result.andThen_ok, run_underlying hu, if_pos hk.1, h2]
    unfold bget
    rw [h3]
  · rename_i len el k q hu
    cases hi
    split at he
    · rename_i cs h1 h2 h3
      cases hb : Nat.beq cs.length len
      · simp only [hb, cond_false] at he; subst he; exact bad_vc hvc
      · simp only [hb, cond_true] at he
        subst he
        have hl := Nat.eq_of_beq_eq_true hb
        have hk : 0 ≤ q ∧ q < (len : Int) := hvc.one
        obtain ⟨vs, rfl, hs, hr⟩ := aggCells_sound hv h3
        have hlt : q.toNat < cs.length := by omega
        obtain ⟨u, hrun, hrel⟩ := part_one (w := w) (off := q.toNat) h1 (List.getElem?_eq_getElem hlt) hs hr
        exact ⟨rfl, u, by simp [Instr.index, asIntOf, run_underlying hu, hk, tSize_run h2, hrun], mkCol_sound (List.getElem?_eq_getElem hlt) hrel⟩
    · rename_i s cs h1 h2 h3
      cases hb : Nat.beq cs.length (len * s)
      · simp only [hb, cond_false] at he; subst he; exact bad_vc hvc
      · simp only [hb, cond_true] at he
        subst he
        have hl := Nat.eq_of_beq_eq_true hb
        have hk : 0 ≤ q ∧ q < (len : Int) := hvc.one
        obtain ⟨vs, rfl, hs, hr⟩ := aggCells_sound hv h3
        have hq : q.toNat < len := by omega
        have hle : q.toNat * s + s ≤ cs.length := by
          rw [hl, ← Nat.succ_mul]; exact Nat.mul_le_mul_right _ hq
        refine ⟨rfl, .agg (vs.extract (q.toNat * s) (q.toNat * s + s)), by simp [Instr.index, asIntOf, run_underlying hu, hk, tSize_run h2, part, tAgg_run h1], Rel.mkAgg (by simp; omega) fun j d u hd hu' => ?_⟩
        have hj : j < s := by
          have := (List.getElem?_eq_some_iff.1 hd).1
          simpa using this
        rw [List.getElem?_map, List.getElem?_range hj] at hd
        simp only [Option.map_some, Option.some.injEq] at hd
        subst hd
        rw [Array.getElem?_extract] at hu'
        split at hu'
        · have hlen : (len - 1) * s + j < cs.length := by
            rw [hl]
            have : (len - 1) * s + s = len * s := by rw [← Nat.succ_mul]; congr 1; omega
            omega
          have e1 := every_get s j len cs q.toNat hq hlen
          have hlt : q.toNat * s + j < cs.length := by omega
          rw [List.getElem?_eq_getElem hlt] at e1
          exact mkCol_sound e1 (hr _ _ _ (List.getElem?_eq_getElem hlt) hu')
        · cases hu'
    · subst he; exact bad_vc hvc
  · subst he; exact bad_vc hvc
end
end Go.Abs
end
