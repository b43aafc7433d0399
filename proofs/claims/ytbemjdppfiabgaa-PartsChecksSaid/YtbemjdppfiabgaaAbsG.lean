/- Each operation does to the machine what the abstract one does: new variables, stores, choices, closures. -/
import Derived.Test.YtbemjdppfiabgaaAbsF
namespace Go.Abs
open Go.RowKit

theorem oneV_eq : oneV = Value.oneCell' := by funext v; cases v <;> rfl

theorem seg_get {α : Type} (l m : List α) (j k : Nat) (h : j + m.length ≤ l.length) :
    (l.take j ++ (m ++ l.drop (j + m.length)))[k]? = if k < j then l[k]? else if k < j + m.length then m[k - j]? else l[k]? := by
  by_cases h1 : k < j
  · rw [if_pos h1, List.getElem?_append_left (by rw [List.length_take]; omega), List.getElem?_take, if_pos h1]
  · rw [if_neg h1, List.getElem?_append_right (by rw [List.length_take]; omega), List.length_take]
    have hm : min j l.length = j := by omega
    rw [hm]
    by_cases h2 : k < j + m.length
    · rw [if_pos h2, List.getElem?_append_left (by omega)]
    · rw [if_neg h2, List.getElem?_append_right (by omega), List.getElem?_drop]
      congr 1; omega

theorem tZero_sound {P : Program} {t : TypeId} {z : List DV} (h : tZero P t = some z) : ∃ v, (∀ w : World, (zeroValue t).run P w = .ok v w) ∧ v.cells.size = z.length ∧
    (∀ (rd : Rd) (kn : Nat → Prop) (blk : Nat → Option Loc) (j : Nat) (d : DV) (u : Value), z[j]? = some d → v.cells[j]? = some u → Rel rd kn blk d u) ∧ ∀ u ∈ v.cells.toList, oneV u = true := by
  unfold tZero at h
  split at h
  · rename_i i hi
    split at h
    · rename_i v hz
      refine ⟨v, fun w => by simp [zeroValue, typeInfo, hi, hz], ?_, ?_, ?_⟩
      · exact (Rel.cells (rd := fun _ _ => True) (kn := fun _ => True) (blk := fun _ => none) (.val v) h).1
      · exact fun rd kn blk => (Rel.cells (rd := rd) (kn := kn) (blk := blk) (.val v) h).2.1
      · exact (Rel.cells (rd := fun _ _ => True) (kn := fun _ => True) (blk := fun _ => none) (.val v) h).2.2
    · cases h
  · cases h

def nilOK : DV → Prop
  | .ptr .. | .rptr .. | .cptr _ | .clo .. | .bnd .. | .val (.func (.func _) _ _) => True
  | _ => False

section
variable {P : Program} {base : Nat} {w0 w : World} {S0 : Env} {σ : St} {kn : Nat → Prop} {blk : Nat → Option Loc} {a : Act}

theorem newBox (r : R base w0 S0 σ kn blk a w) {id : Nat} (hid : ¬ kn id) {T : TypeId} {v : Value} {cs : List DV} (hs : v.cells.size = cs.length)
    (hr : ∀ (j : Nat) (d : DV) (u : Value), cs[j]? = some d → v.cells[j]? = some u → Rel (rdOf w base S0 blk) kn blk d u) (h1 : ∀ u ∈ v.cells.toList, oneV u = true) {s : Sem Value}
    (hrun : s.run P w = .ok (.pointer (some ⟨w.heap.size, 0, none⟩)) (w.alloc (.cells v.cells T))) :
    Runs P base w0 S0 σ kn a w id s { d := .ptr id 0, hw := [(id, some (.box cs))] } := by
  have q := r.new (C := 0) (T := T) hid (o := .box cs) (cv := v.cells) (.inl ⟨_, rfl⟩) ⟨w.heap.size, 0, v.cells, T, rfl, heap_alloc_new w _, hs, hr, h1⟩
  refine ⟨_, _, hrun, _, _, q, .ptr (.inr rfl) ⟨_, rfl⟩ fun g C hb => ?_, fun i hi => hi⟩
  simp only [if_true, Option.some.injEq, Loc.at_.injEq] at hb
  rw [← hb.1]

theorem evAlloc_sound (r : R base w0 S0 σ kn blk a w) {id : Nat} (hid : ¬ kn id) {t : TypeId} {e : Eff} {old : Value} (he : evAlloc P id t = e) (hvc : AllP e.vc) :
    Runs P base w0 S0 σ kn a w id (Instr.alloc t true old) e := by
  unfold evAlloc at he
  split at he
  · rename_i z hz
    subst he
    obtain ⟨v, hrun, hs, hr, h1⟩ := tZero_sound hz
    exact newBox r hid (T := t) (v := v) hs (hr _ _ _) h1 (by simp [Instr.alloc, hrun, newVar, newRow])
  · subst he; exact bad_vc hvc

theorem evBox_sound (r : R base w0 S0 σ kn blk a w) {id : Nat} (hid : ¬ kn id) {t : TypeId} {e : Eff} {x : DV} {v : Value} (he : evBox id x = e) (hvc : AllP e.vc)
    (hv : Rel (rdOf w base S0 blk) kn blk x v) : Runs P base w0 S0 σ kn a w id (Instr.box t v) e := by
  unfold evBox at he
  split at he
  · rename_i cs hc
    subst he
    obtain ⟨hs, hr, h1⟩ := hv.cells hc
    exact newBox r hid (T := t) (v := v) hs hr h1 (by simp [Instr.box, newVar, newRow])
  · subst he; exact bad_vc hvc

theorem selV_sound {b : Bool} {x y u : Value} (h : selV b x y = some u) : u = if b = true then x else y := by
  unfold selV at h
  split at h
  · split at h
    · rename_i hk; subst hk; cases h; cases b <;> rfl
    · cases h
  · cases h; cases b <;> rfl
  · cases h; cases b <;> rfl
  · cases h

section sels
variable {rd : Rd}
def PickRel (rd : Rd) (b : Bool) (d e : DV) (v : Value) : Prop := (b = true → RelC rd d v) ∧ (b = false → RelC rd e v)

theorem sel0_sound {b : Bool} {d e : DV} {v : Value} (h : PickRel rd b d e v) : RelC rd (sel0 b d e) v := by
  unfold sel0
  split
  · rename_i x y
    split
    · rename_i u hu
      rw [selV_sound hu]
      cases b
      · exact h.2 rfl
      · exact h.1 rfl
    · exact .any v
  · exact .any v

theorem zipSel_get (f : DV → DV → DV) : ∀ (c d : List (Nat → DV)) (j : Nat) (g : Nat → DV), (zipSel f c d)[j]? = some g → ∃ x y, c[j]? = some x ∧ d[j]? = some y ∧ g = fun i => f (x i) (y i)
  | [], _, j, g, h => by simp [zipSel] at h
  | _ :: _, [], j, g, h => by simp [zipSel] at h
  | x :: c, y :: d, 0, g, h => by
    simp only [zipSel, List.getElem?_cons_zero, Option.some.injEq] at h
    exact ⟨x, y, rfl, rfl, h.symm⟩
  | x :: c, y :: d, j + 1, g, h => by
    simp only [zipSel, List.getElem?_cons_succ] at h
    simpa using zipSel_get f c d j g h
theorem zipSel_len (f : DV → DV → DV) : ∀ (c d : List (Nat → DV)), c.length = d.length → (zipSel f c d).length = c.length
  | [], [], _ => rfl
  | x :: c, y :: d, h => by simp only [zipSel, List.length_cons]; rw [zipSel_len f c d (by simpa using h)]
  | [], _ :: _, h => by simp at h
  | _ :: _, [], h => by simp at h

theorem selLst_sound {b : Bool} {n n' : Nat} {c c' : List (Nat → DV)} {v : Value} {f : DV → DV → DV} (hf : ∀ {d e v}, PickRel rd b d e v → RelC rd (f d e) v) (hl : c.length = c'.length)
    (h : PickRel rd b (.lst n c) (.lst n' c') v) : RelC rd (.lst (if b = true then n else n') (zipSel f c c')) v := by
  have hlen := zipSel_len f c c' hl
  cases b
  · have := h.2 rfl
    cases this with
    | lst U hc ha hn ho hr =>
      refine .lst U (by simpa using hc) (fun i j g hi hj => ?_) (by simpa using hn) (fun i j g hi hj => let ⟨_, y, _, hy, _⟩ := zipSel_get f c c' j g hj; ho i j y (by simpa using hi) hy) fun i j g hi hj => ?_
      · obtain ⟨x, y, hx, hy, _⟩ := zipSel_get f c c' j g hj
        rw [hlen, hl]
        exact ha i j y (by simpa using hi) hy
      · obtain ⟨x, y, hx, hy, rfl⟩ := zipSel_get f c c' j g hj
        exact hf ⟨(fun h => by cases h), fun _ => hr i j y (by simpa using hi) hy⟩
  · have := h.1 rfl
    cases this with
    | lst U hc ha hn ho hr =>
      refine .lst U (by simpa using hc) (fun i j g hi hj => ?_) (by simpa using hn) (fun i j g hi hj => let ⟨x, _, hx, _, _⟩ := zipSel_get f c c' j g hj; ho i j x (by simpa using hi) hx) fun i j g hi hj => ?_
      · obtain ⟨x, y, hx, hy, _⟩ := zipSel_get f c c' j g hj
        rw [hlen]
        exact ha i j x (by simpa using hi) hx
      · obtain ⟨x, y, hx, hy, rfl⟩ := zipSel_get f c c' j g hj
        exact hf ⟨fun _ => hr i j x (by simpa using hi) hx, (fun h => by cases h)⟩

theorem sel1_sound {b : Bool} {d e : DV} {v : Value} (h : PickRel rd b d e v) : RelC rd (sel1 b d e) v := by
  unfold sel1
  split
  · rename_i n c n' c'
    cases hb : Nat.beq c.length c'.length
    · exact .any v
    · exact selLst_sound sel0_sound (Nat.eq_of_beq_eq_true hb) h
  · exact sel0_sound h

theorem sel_sound {b : Bool} {d e : DV} {v : Value} (h : PickRel rd b d e v) : RelC rd (sel b d e) v := by
  unfold sel
  split
  · rename_i n c n' c'
    cases hb : Nat.beq c.length c'.length
    · exact .any v
    · exact selLst_sound sel1_sound (Nat.eq_of_beq_eq_true hb) h
  · exact sel1_sound h
end sels

theorem closed_go : ∀ {cs : List DV}, DV.closed.go cs = true → ∀ d ∈ cs, d.closed = true
  | [], _, d, hd => by cases hd
  | c :: r, h, d, hd => by
    simp only [DV.closed.go] at h
    cases hc : c.closed
    · simp [hc] at h
    · simp only [hc, cond_true] at h
      rcases List.mem_cons.1 hd with rfl | hd
      · exact hc
      · exact closed_go h d hd

/-- What bears no id reads without any. -/
theorem Rel.close {rd : Rd} {kn : Nat → Prop} {blk : Nat → Option Loc} {d : DV} {v : Value} (h : Rel rd kn blk d v) : d.closed = true → RelC rd d v := by
  induction h with
  | val v => intro _; exact .val v
  | agg hs _ ih => intro hc; exact .agg hs fun j d u hd hu => ih j d u hd hu (closed_go hc d (List.mem_of_getElem? hd))
  | tup hs _ ih => intro hc; exact .tup hs fun j d u hd hu => ih j d u hd hu (closed_go hc d (List.mem_of_getElem? hd))
  | lst U hc ha hn ho hr _ => intro _; exact .lst U hc ha hn ho hr
  | cptr U ha ho hr _ => intro _; exact .cptr U ha ho hr
  | mp es h0 ha hk hh hd hs h _ => intro _; exact .mp es h0 ha hk hh hd hs h
  | mph => intro hc; simp [DV.closed] at hc
  | tok => intro hc; simp [DV.closed] at hc
  | clo hs _ ih => intro hc; exact .clo hs fun j d u hd hu => ih j d u hd hu (closed_go hc d (List.mem_of_getElem? hd))
  | bnd hs _ ih => intro hc; exact .bnd hs fun j d u hd hu => ih j d u hd hu (closed_go hc d (List.mem_of_getElem? hd))
  | ptr => intro hc; simp [DV.closed] at hc
  | rptr => intro hc; simp [DV.closed] at hc
  | row => intro hc; simp [DV.closed] at hc
  | opt => intro hc; simp [DV.closed] at hc
  | any => intro _; exact .any _

theorem Rel.un {rd : Rd} {d : DV} {v : Value} (h : Rel rd kn blk d v) : (∀ b, d.cond? = some b → b = true) → Rel rd kn blk d.un v := by
  induction h with
  | opt hb _ ih =>
    rename_i b d v _
    intro hc
    have hb' : b = true := by
      simp only [DV.cond?] at hc
      split at hc
      · exact hc _ rfl
      · have := hc _ rfl; simp at this; exact this.1
    refine ih hb' fun c hcd => ?_
    have := hc (b && c) (by simp only [DV.cond?, hcd])
    simp at this; exact this.2
  | val v => intro _; exact .val v
  | agg hs hr _ => intro _; exact .agg hs hr
  | tup hs hr _ => intro _; exact .tup hs hr
  | lst U hc ha hn ho hr _ => intro _; exact .lst U hc ha hn ho hr
  | cptr U ha ho hr _ => intro _; exact .cptr U ha ho hr
  | mp es h0 ha hk hh hd hs h _ => intro _; exact .mp es h0 ha hk hh hd hs h
  | mph a b c => intro _; exact .mph a b c
  | tok a b c => intro _; exact .tok a b c
  | clo hs hr _ => intro _; exact .clo hs hr
  | bnd hs hr _ => intro _; exact .bnd hs hr
  | ptr a b c => intro _; exact .ptr a b c
  | rptr a b c d => intro _; exact .rptr a b c d
  | row a b c d e => intro _; exact .row a b c d e
  | any => intro _; exact .any _

theorem evPick_sound {c x y : DV} {vc vx vy : Value} {e : Eff} (he : evPick c x y = e) (hvc : AllP e.vc) (hc : Rel (rdOf w base S0 blk) kn blk c vc)
    (hx : Rel (rdOf w base S0 blk) kn blk x vx) (hy : Rel (rdOf w base S0 blk) kn blk y vy) :
    Still P base S0 kn blk w (do pure (if ← asBool vc then vx else vy)) e := by
  unfold evPick at he
  split at he
  · rename_i p hp
    subst he
    obtain ⟨h1, h2⟩ := AllP.app hvc
    obtain ⟨h2, h3⟩ := AllP.app h2
    have hcu := hc.un (fun b hb => by rw [hb] at h1; exact h1.one)
    rw [hp] at hcu
    cases hcu
    refine ⟨rfl, if p = true then vx else vy, by simp [asBool], ?_⟩
    show Rel _ _ _ (sel p x.un y.un) _
    have side : sel p x.un y.un = .any ∨ (x.un.closed = true ∧ y.un.closed = true) := by
      unfold sel
      split
      · rename_i hx hy; rw [hx, hy]; exact .inr ⟨rfl, rfl⟩
      · unfold sel1
        split
        · rename_i hx hy; rw [hx, hy]; exact .inr ⟨rfl, rfl⟩
        · unfold sel0
          split
          · rename_i hx hy; rw [hx, hy]; exact .inr ⟨rfl, rfl⟩
          · exact .inl rfl
    rcases side with hs | ⟨s1, s2⟩
    · rw [hs]; exact .any _
    · refine relC_open (sel_sound ⟨fun hp1 => ?_, fun hp1 => ?_⟩)
      · subst hp1
        simp only [if_true]
        exact (hx.un (fun b hb => by rw [hb] at h2; exact h2.one rfl)).close s1
      · subst hp1
        simp only [Bool.false_eq_true, if_false]
        exact (hy.un (fun b hb => by rw [hb] at h3; exact h3.one rfl)).close s2
  · subst he; exact bad_vc hvc

theorem evNil_sound {x : DV} {v : Value} {rd : Rd} (hv : Rel rd kn blk x v) (h : nilOK x) : (∃ ad, v = .pointer (some ad)) ∨ ∃ f fs cs, v = .func (.func f) fs cs := by
  cases hv with
  | ptr _ hp _ => exact .inl hp
  | rptr _ hp _ => exact .inl hp
  | cptr U ha hr => exact .inl ⟨_, rfl⟩
  | clo hs hr => exact .inr ⟨_, _, _, rfl⟩
  | bnd hs hr => exact .inr ⟨_, _, _, rfl⟩
  | val v =>
    cases v <;> try exact False.elim h
    rename_i fn _ _
    cases fn <;> try exact False.elim h
    exact .inr ⟨_, _, _, rfl⟩
  | _ => exact h.elim

theorem intsOf_sound : ∀ {xs : List DV} {l : List Int}, intsOf xs = some l → xs = l.map fun n => .val (.int .i64 n)
  | [], l, h => by simp [intsOf] at h; subst h; rfl
  | d :: r, l, h => by
    cases d with
    | val v =>
      cases v with
      | int k x =>
        cases k with
        | i64 =>
          simp only [intsOf] at h
          cases hr : intsOf r with
          | none => simp [hr] at h
          | some q =>
            simp only [hr, Option.some.injEq] at h
            subst h
            rw [intsOf_sound hr]; rfl
        | _ => simp [intsOf] at h
      | _ => simp [intsOf] at h
    | _ => simp [intsOf] at h

theorem run_mins : ∀ (l : List Int) (x : Int), ((l.map fun n => Value.int .i64 n).foldlM Builtin.min2 (.int .i64 x)).run P w = .ok (.int .i64 (mins x l)) w
  | [], x => rfl
  | y :: r, x => by simp only [List.map_cons, List.foldlM_cons, Sem.run_bind, Builtin.min2, Sem.run_pure, Result.andThen_ok, run_mins r, mins]
theorem run_maxs : ∀ (l : List Int) (x : Int), ((l.map fun n => Value.int .i64 n).foldlM Builtin.max2 (.int .i64 x)).run P w = .ok (.int .i64 (maxs x l)) w
  | [], x => rfl
  | y :: r, x => by simp only [List.map_cons, List.foldlM_cons, Sem.run_bind, Builtin.max2, Sem.run_pure, Result.andThen_ok, run_maxs r, maxs]
end
end Go.Abs
