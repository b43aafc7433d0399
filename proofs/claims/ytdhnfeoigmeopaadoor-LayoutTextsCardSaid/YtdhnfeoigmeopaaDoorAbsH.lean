/- Each operation does to the machine what the abstract one does: new variables, stores, choices, closures. Each operation does to the machine what the abstract one does: stores, structs, new rows. -/
import Derived.Test.YtdhnfeoigmeopaaDoorAbsF
section
namespace Go.Abs
open Go.RowKit
theorem oneV_eq : oneV = Value.oneCell' := by funext v; cases v <;> rfl
theorem seg_get {α : Type} (l m : List α) (j k : Nat) (h : j + m.length ≤ l.length) :
    (l.take j ++ (m ++ l.drop (j + m.length)))[k]? = if k < j then l[k]? else if k < j + m.length then m[k - j]? else l[k]? := by
  by_cases h1 : k < j
  · rw [if_pos h1, List.getElem?_append_left (by rw [List.length_take]; omega), List.getElem?_take, if_pos h1]
  · rw [if_neg h1, List.getElem?_append_right (by rw [List.length_take]; omega), List.length_take]
    have hm : min j l.length = j := by omega
    rw [hm]
    by_cases h2 : k < j + m.length
    · rw [if_pos h2, List.getElem?_append_left (by omega)]
    · rw [if_neg h2, List.getElem?_append_right (by omega), List.getElem?_drop]
      congr 1; omega
theorem tZero_sound {P : Program} {t : TypeId} {z : List DV} (h : tZero P t = some z) : ∃ v, (∀ w : World, (zeroValue t).run P w = .ok v w) ∧ v.cells.size = z.length ∧
    (∀ (rd : Rd) (kn : Nat → Prop) (blk : Nat → Option Loc) (j : Nat) (d : DV) (u : Value), z[j]? = some d → v.cells[j]? = some u → Rel rd kn blk d u) ∧ ∀ u ∈ v.cells.toList, oneV u = true := by
  unfold tZero at h
  split at h
  · rename_i i hi
    split at h
    · rename_i v hz
      refine ⟨v, fun w => by simp [zeroValue, typeInfo, hi, hz], ?_, ?_, ?_⟩
      · exact (Rel.cells (rd := fun _ _ => True) (kn := fun _ => True) (blk := fun _ => none) (.val v) h).1
      · exact fun rd kn blk => (Rel.cells (rd := rd) (kn := kn) (blk := blk) (.val v) h).2.1
      · exact (Rel.cells (rd := fun _ _ => True) (kn := fun _ => True) (blk := fun _ => none) (.val v) h).2.2
    · cases h
  · cases h
def nilOK : DV → Prop
  | .ptr .. | .rptr .. | .cptr _ | .clo .. | .bnd .. | .val (.func (.func _) _ _) => True
  | _ => False
section
variable {P : Program} {base : Nat} {w0 w : World} {S0 : Env} {σ : St} {kn : Nat → Prop} {blk : Nat → Option Loc} {a : Act}
theorem newBox (r : R base w0 S0 σ kn blk a w) {id : Nat} (hid : ¬ kn id) {T : TypeId} {v : Value} {cs : List DV} (hs : v.cells.size = cs.length)
    (hr : ∀ (j : Nat) (d : DV) (u : Value), cs[j]? = some d → v.cells[j]? = some u → Rel (rdOf w base S0 blk) kn blk d u) (h1 : ∀ u ∈ v.cells.toList, oneV u = true) {s : Sem Value}
    (hrun : s.run P w = .ok (.pointer (some ⟨w.heap.size, 0, none⟩)) (w.alloc (.cells v.cells T))) :
    Runs P base w0 S0 σ kn a w id s { d := .ptr id 0, hw := [(id, some (.box cs))] } := by
  have q := r.new (C := 0) (T := T) hid (o := .box cs) (cv := v.cells) (.inl ⟨_, rfl⟩) ⟨w.heap.size, 0, v.cells, T, rfl, heap_alloc_new w _, hs, hr, h1⟩
  refine ⟨_, _, hrun, _, _, q, .ptr (.inr rfl) ⟨_, rfl⟩ fun g C hb => ?_, fun i hi => hi⟩
  simp only [if_true, Option.some.injEq, Loc.at_.injEq] at hb
  rw [← hb.1]
theorem evAlloc_sound (r : R base w0 S0 σ kn blk a w) {id : Nat} (hid : ¬ kn id) {t : TypeId} {e : Eff} {old : Value} (he : evAlloc P id t = e) (hvc : AllP e.vc) :
    Runs P base w0 S0 σ kn a w id (Instr.alloc t true old) e := by
  unfold evAlloc at he
  split at he
  · rename_i z hz
    subst he
    obtain ⟨v, hrun, hs, hr, h1⟩ := tZero_sound hz
    exact newBox r hid (T := t) (v := v) hs (hr _ _ _) h1 (by simp [Instr.alloc, hrun, newVar, newRow])
  · subst he; exact bad_vc hvc
theorem evBox_sound (r : R base w0 S0 σ kn blk a w) {id : Nat} (hid : ¬ kn id) {t : TypeId} {e : Eff} {x : DV} {v : Value} (he : evBox id x = e) (hvc : AllP e.vc)
    (hv : Rel (rdOf w base S0 blk) kn blk x v) : Runs P base w0 S0 σ kn a w id (Instr.box t v) e := by
  unfold evBox at he
  split at he
  · rename_i cs hc
    subst he
    obtain ⟨hs, hr, h1⟩ := hv.cells hc
    exact newBox r hid (T := t) (v := v) hs hr h1 (by simp [Instr.box, newVar, newRow])
  · subst he; exact bad_vc hvc
theorem selV_sound {b : Bool} {x y u : Value} (h : selV b x y = some u) : u = if b = true then x else y := by
  unfold selV at h
  split at h
  · split at h
    · rename_i hk; subst hk; cases h; cases b <;> rfl
    · cases h
  · cases h; cases b <;> rfl
  · cases h; cases b <;> rfl
  · cases h
section sels
variable {rd : Rd}
def PickRel (rd : Rd) (b : Bool) (d e : DV) (v : Value) : Prop := (b = true → RelC rd d v) ∧ (b = false → RelC rd e v)
theorem sel0_sound {b : Bool} {d e : DV} {v : Value} (h : PickRel rd b d e v) : RelC rd (sel0 b d e) v := by
  unfold sel0
  split
  · rename_i x y
    split
    · rename_i u hu
      rw [selV_sound hu]
      cases b
      · exact h.2 rfl
      · exact h.1 rfl
    · exact .any v
  · exact .any v
theorem zipSel_get (f : DV → DV → DV) : ∀ (c d : List (Nat → DV)) (j : Nat) (g : Nat → DV), (zipSel f c d)[j]? = some g → ∃ x y, c[j]? = some x ∧ d[j]? = some y ∧ g = fun i => f (x i) (y i)
  | [], _, j, g, h => by simp [zipSel] at h
  | _ :: _, [], j, g, h => by simp [zipSel] at h
  | x :: c, y :: d, 0, g, h => by
    simp only [zipSel, List.getElem?_cons_zero, Option.some.injEq] at h
    exact ⟨x, y, rfl, rfl, h.symm⟩
  | x :: c, y :: d, j + 1, g, h => by
    simp only [zipSel, List.getElem?_cons_succ] at h
    simpa using zipSel_get f c d j g h
theorem zipSel_len (f : DV → DV → DV) : ∀ (c d : List (Nat → DV)), c.length = d.length → (zipSel f c d).length = c.length
  | [], [], _ => rfl
  | x :: c, y :: d, h => by simp only [zipSel, List.length_cons]; rw [zipSel_len f c d (by simpa using h)]
  | [], _ :: _, h => by simp at h
  | _ :: _, [], h => by simp at h
theorem selLst_sound {b : Bool} {n n' : Nat} {c c' : List (Nat → DV)} {v : Value} {f : DV → DV → DV} (hf : ∀ {d e v}, PickRel rd b d e v → RelC rd (f d e) v) (hl : c.length = c'.length)
    (h : PickRel rd b (.lst n c) (.lst n' c') v) : RelC rd (.lst (if b = true then n else n') (zipSel f c c')) v := by
  have hlen := zipSel_len f c c' hl
  cases b
  · have := h.2 rfl
    cases this with
    | lst U hc ha hn ho hr =>
      refine .lst U (by simpa using hc) (fun i j g hi hj => ?_) (by simpa using hn) (fun i j g hi hj => let ⟨_, y, _, hy, _⟩ := zipSel_get f c c' j g hj; ho i j y (by simpa using hi) hy) fun i j g hi hj => ?_
      · obtain ⟨x, y, hx, hy, _⟩ := zipSel_get f c c' j g hj
        rw [hlen, hl]
        exact ha i j y (by simpa using hi) hy
      · obtain ⟨x, y, hx, hy, rfl⟩ := zipSel_get f c c' j g hj
        exact hf ⟨(fun h => by cases h), fun _ => hr i j y (by simpa using hi) hy⟩
  · have := h.1 rfl
    cases this with
    | lst U hc ha hn ho hr =>
      refine .lst U (by simpa using hc) (fun i j g hi hj => ?_) (by simpa using hn) (fun i j g hi hj => let ⟨x, _, hx, _, _⟩ := zipSel_get f c c' j g hj; ho i j x (by simpa using hi) hx) fun i j g hi hj => ?_
      · obtain ⟨x, y, hx, hy, _⟩ := zipSel_get f c c' j g hj
        rw [hlen]
        exact ha i j x (by simpa using hi) hx
      · obtain ⟨x, y, hx, hy, rfl⟩ := zipSel_get f c c' j g hj
        exact hf ⟨fun _ => hr i j x (by simpa using hi) hx, (fun h => by cases h)⟩
theorem sel1_sound {b : Bool} {d e : DV} {v : Value} (h : PickRel rd b d e v) : RelC rd (sel1 b d e) v := by
  unfold sel1
  split
  · rename_i n c n' c'
    cases hb : Nat.beq c.length c'.length
    · exact .any v
    · exact selLst_sound sel0_sound (Nat.eq_of_beq_eq_true hb) h
  · exact sel0_sound h
theorem sel_sound {b : Bool} {d e : DV} {v : Value} (h : PickRel rd b d e v) : RelC rd (sel b d e) v := by
  unfold sel
  split
  · rename_i n c n' c'
    cases hb : Nat.beq c.length c'.length
    · exact .any v
    · exact selLst_sound sel1_sound (Nat.eq_of_beq_eq_true hb) h
  · exact sel1_sound h
end sels
theorem closed_go : ∀ {cs : List DV}, DV.closed.go cs = true → ∀ d ∈ cs, d.closed = true
  | [], _, d, hd => by cases hd
  | c :: r, h, d, hd => by
    simp only [DV.closed.go] at h
    cases hc : c.closed
    · simp [hc] at h
    · simp only [hc, cond_true] at h
      rcases List.mem_cons.1 hd with rfl | hd
      · exact hc
      · exact closed_go h d hd
theorem Rel.close {rd : Rd} {kn : Nat → Prop} {blk : Nat → Option Loc} {d : DV} {v : Value} (h : Rel rd kn blk d v) : d.closed = true → RelC rd d v := by
  induction h with
  | val v => intro _; exact .val v
  | agg hs _ ih => intro hc; exact .agg hs fun j d u hd hu => ih j d u hd hu (closed_go hc d (List.mem_of_getElem? hd))
  | tup hs _ ih => intro hc; exact .tup hs fun j d u hd hu => ih j d u hd hu (closed_go hc d (List.mem_of_getElem? hd))
  | lst U hc ha hn ho hr _ => intro _; exact .lst U hc ha hn ho hr
  | cptr U ha ho hr _ => intro _; exact .cptr U ha ho hr
  | mp es h0 ha hk hh hd hs h _ => intro _; exact .mp es h0 ha hk hh hd hs h
  | mph => intro hc; simp [DV.closed] at hc
  | tok => intro hc; simp [DV.closed] at hc
  | grd => intro hc; simp [DV.closed] at hc
  | gptr => intro hc; simp [DV.closed] at hc
  | clo hs _ ih => intro hc; exact .clo hs fun j d u hd hu => ih j d u hd hu (closed_go hc d (List.mem_of_getElem? hd))
  | bnd hs _ ih => intro hc; exact .bnd hs fun j d u hd hu => ih j d u hd hu (closed_go hc d (List.mem_of_getElem? hd))
  | ptr => intro hc; simp [DV.closed] at hc
  | rptr => intro hc; simp [DV.closed] at hc
  | row => intro hc; simp [DV.closed] at hc
  | opt => intro hc; simp [DV.closed] at hc
  | err a b => intro _; exact .err a b
  | whole h => intro _; exact .whole h
  | any => intro _; exact .any _
theorem Rel.un {rd : Rd} {d : DV} {v : Value} (h : Rel rd kn blk d v) : (∀ b, d.cond? = some b → b = true) → Rel rd kn blk d.un v := by
  induction h with
  | opt hb _ ih =>
    rename_i b d v _
    intro hc
    have hb' : b = true := by
      simp only [DV.cond?] at hc
      split at hc
      · exact hc _ rfl
      · have := hc _ rfl; simp at this; exact this.1
    refine ih hb' fun c hcd => ?_
    have := hc (b && c) (by simp only [DV.cond?, hcd])
    simp at this; exact this.2
  | val v => intro _; exact .val v
  | agg hs hr _ => intro _; exact .agg hs hr
  | tup hs hr _ => intro _; exact .tup hs hr
  | lst U hc ha hn ho hr _ => intro _; exact .lst U hc ha hn ho hr
  | cptr U ha ho hr _ => intro _; exact .cptr U ha ho hr
  | mp es h0 ha hk hh hd hs h _ => intro _; exact .mp es h0 ha hk hh hd hs h
  | mph a b c => intro _; exact .mph a b c
  | tok a b c => intro _; exact .tok a b c
  | grd a b c => intro _; exact .grd a b c
  | gptr a b c => intro _; exact .gptr a b c
  | clo hs hr _ => intro _; exact .clo hs hr
  | bnd hs hr _ => intro _; exact .bnd hs hr
  | ptr a b c => intro _; exact .ptr a b c
  | rptr a b c d => intro _; exact .rptr a b c d
  | row a b c d e => intro _; exact .row a b c d e
  | err a b => intro _; exact .err a b
  | whole h => intro _; exact .whole h
  | any => intro _; exact .any _
theorem evPick_sound {c x y : DV} {vc vx vy : Value} {e : Eff} (he : evPick c x y = e) (hvc : AllP e.vc) (hc : Rel (rdOf w base S0 blk) kn blk c vc)
    (hx : Rel (rdOf w base S0 blk) kn blk x vx) (hy : Rel (rdOf w base S0 blk) kn blk y vy) :
    Still P base S0 kn blk w (do pure (if ← asBool vc then vx else vy)) e := by
  unfold evPick at he
  split at he
  · rename_i p hp
    subst he
    obtain ⟨h1, h2⟩ := AllP.app hvc
    obtain ⟨h2, h3⟩ := AllP.app h2
    have hcu := hc.un (fun b hb => by rw [hb] at h1; exact h1.one)
    rw [hp] at hcu
    cases hcu
    refine ⟨rfl, if p = true then vx else vy, by simp [asBool], ?_⟩
    show Rel _ _ _ (sel p x.un y.un) _
    have side : sel p x.un y.un = .any ∨ (x.un.closed = true ∧ y.un.closed = true) := by
      unfold sel
      split
      · rename_i hx hy; rw [hx, hy]; exact .inr ⟨rfl, rfl⟩
      · unfold sel1
        split
        · rename_i hx hy; rw [hx, hy]; exact .inr ⟨rfl, rfl⟩
        · unfold sel0
          split
          · rename_i hx hy; rw [hx, hy]; exact .inr ⟨rfl, rfl⟩
          · exact .inl rfl
    rcases side with hs | ⟨s1, s2⟩
    · rw [hs]; exact .any _
    · refine relC_open (sel_sound ⟨fun hp1 => ?_, fun hp1 => ?_⟩)
      · subst hp1
        simp only [if_true]
        exact (hx.un (fun b hb => by rw [hb] at h2; exact h2.one rfl)).close s1
      · subst hp1
        simp only [Bool.false_eq_true, if_false]
        exact (hy.un (fun b hb => by rw [hb] at h3; exact h3.one rfl)).close s2
  · subst he; exact bad_vc hvc
theorem evNil_sound {x : DV} {v : Value} {rd : Rd} (hv : Rel rd kn blk x v) (h : nilOK x) : (∃ ad, v = .pointer (some ad)) ∨ ∃ f fs cs, v = .func (.func f) fs cs := by
  cases hv with
  | ptr _ hp _ => exact .inl hp
  | rptr _ hp _ => exact .inl hp
  | cptr U ha hr => exact .inl ⟨_, rfl⟩
  | clo hs hr => exact .inr ⟨_, _, _, rfl⟩
  | bnd hs hr => exact .inr ⟨_, _, _, rfl⟩
  | val v =>
    cases v <;> try exact False.elim h
    rename_i fn _ _
    cases fn <;> try exact False.elim h
    exact .inr ⟨_, _, _, rfl⟩
  | _ => exact h.elim
theorem intsOf_sound : ∀ {xs : List DV} {l : List Int}, intsOf xs = some l → xs = l.map fun n => .val (.int .i64 n)
  | [], l, h => by simp [intsOf] at h; subst h; rfl
  | d :: r, l, h => by
    cases d with
    | val v =>
      cases v with
      | int k x =>
        cases k with
        | i64 =>
          simp only [intsOf] at h
          cases hr : intsOf r with
          | none => simp [hr] at h
          | some q =>
            simp only [hr, Option.some.injEq] at h
            subst h
            rw [intsOf_sound hr]; rfl
        | _ => simp [intsOf] at h
      | _ => simp [intsOf] at h
    | _ => simp [intsOf] at h
theorem run_mins : ∀ (l : List Int) (x : Int), ((l.map fun n => Value.int .i64 n).foldlM Builtin.min2 (.int .i64 x)).run P w = .ok (.int .i64 (mins x l)) w
  | [], x => rfl
  | y :: r, x => by simp only [List.map_cons, List.foldlM_cons, Sem.run_bind, Builtin.min2, Sem.run_pure, Result.andThen_ok, run_mins r, mins]
theorem run_maxs : ∀ (l : List Int) (x : Int), ((l.map fun n => Value.int .i64 n).foldlM Builtin.max2 (.int .i64 x)).run P w = .ok (.int .i64 (maxs x l)) w
  | [], x => rfl
  | y :: r, x => by simp only [List.map_cons, List.foldlM_cons, Sem.run_bind, Builtin.max2, Sem.run_pure, Result.andThen_ok, run_maxs r, maxs]
end
end Go.Abs
end
section
namespace Go.Abs
open Go.RowKit
theorem setCols_get (i : Nat) : ∀ (cs : List (Nat → DV)) (vs : List DV) (m : Nat) (f : Nat → DV), vs.length ≤ cs.length → (setCols i cs vs)[m]? = some f →
    ∃ c, cs[m]? = some c ∧ ((vs.length ≤ m ∧ f = c) ∨ ∃ d, vs[m]? = some d ∧ f = fun i' => sel (decide (i' = i)) d (c i'))
  | cs, [], m, f, _, h => by
    have : setCols i cs [] = cs := by cases cs <;> rfl
    rw [this] at h
    exact ⟨f, h, .inl ⟨by simp, rfl⟩⟩
  | [], d :: vs, m, f, hl, _ => by simp at hl
  | c :: cs, d :: vs, 0, f, _, h => by
    simp only [setCols, List.getElem?_cons_zero, Option.some.injEq] at h
    exact ⟨c, rfl, .inr ⟨d, rfl, h.symm⟩⟩
  | c :: cs, d :: vs, m + 1, f, hl, h => by
    simp only [setCols, List.getElem?_cons_succ] at h
    have := setCols_get i cs vs m f (by simpa using hl) h
    simpa using this
theorem setCols_len (i : Nat) : ∀ (cs : List (Nat → DV)) (vs : List DV), vs.length ≤ cs.length → (setCols i cs vs).length = cs.length
  | cs, [], _ => by cases cs <;> rfl
  | [], _ :: _, h => by simp at h
  | c :: cs, d :: vs, h => by simp only [setCols, List.length_cons]; rw [setCols_len i cs vs (by simpa using h)]
theorem cell_apart {s i i' j j' : Nat} (hj : j < s) (hj' : j' < s) (h : i * s + j = i' * s + j') : i = i' ∧ j = j' := by
  have h1 : (i * s + j) / s = i := by rw [Nat.add_comm, Nat.add_mul_div_right _ _ (by omega), Nat.div_eq_of_lt hj]; omega
  have h2 : (i' * s + j') / s = i' := by rw [Nat.add_comm, Nat.add_mul_div_right _ _ (by omega), Nat.div_eq_of_lt hj']; omega
  have : i = i' := by rw [← h1, ← h2, h]
  subst this
  exact ⟨rfl, by omega⟩
theorem seg_get' {α : Type} (l m : List α) (j k n : Nat) (hm : m.length = n) (h : j + n ≤ l.length) :
    (l.take j ++ (m ++ l.drop (j + n)))[k]? = if k < j then l[k]? else if k < j + n then m[k - j]? else l[k]? := by
  subst hm; exact seg_get l m j k h
section
variable {P : Program} {base : Nat} {w0 w : World} {S0 : Env} {σ : St} {kn : Nat → Prop} {blk : Nat → Option Loc} {a : Act}
theorem storeVar_run {t : TypeId} {n g o : Nat} {v : Value} {cur : Array Value} {T : TypeId} (h : tSize P t = some n) (hs : v.cells.size = n) (hg : w.heap[g]? = some (.cells cur T (0, 0)))
    (hl : o + n ≤ cur.size) (h1 : ∀ u ∈ v.cells.toList, oneV u = true) :
    (Instr.storeAt t (.pointer (some ⟨g, o, none⟩)) v).run P w = .ok () (w.setRow g (cur.toList.take o ++ (v.cells.toList ++ cur.toList.drop (o + n))).toArray) := by
  have hlen : v.cells.toList.length = n := by simpa using hs
  have := run_storeCells_at (P := P) g o T v.cells.toList 0 cur w hg (by omega) (fun u hu => by rw [← oneV_eq]; exact h1 u hu)
  simp only [Nat.add_zero, List.append_assoc] at this
  rw [hlen] at this
  simp [Instr.storeAt, Instr.sureAddr, storeVar, tSize_run h, hs, this]
theorem evStore_sound (r : R base w0 S0 σ kn blk a w) {t : TypeId} {p d : DV} {vp vd : Value} {e : Eff} (he : evStore P σ.obj t p d = e) (hvc : AllP e.vc)
    (hp : Rel (rdOf w base S0 blk) kn blk p vp) (hd : Rel (rdOf w base S0 blk) kn blk d vd) :
    e.d = .any ∧ ∃ w', (Instr.storeAt t vp vd).run P w = .ok () w' ∧ R base w0 S0 (σ.effH e) kn blk a w' := by
  unfold evStore at he
  split at he
  · rename_i n vs hn hvs
    obtain ⟨hs, hr, h1⟩ := hd.cells hvs
    cases hb : Nat.beq n vs.length
    · simp only [hb, cond_false] at he; subst he; exact bad_vc hvc
    · simp only [hb, cond_true] at he
      obtain rfl := Nat.eq_of_beq_eq_true hb
      split at he
      · rename_i id j
        split at he
        · rename_i cs ho
          cases hb2 : Nat.ble (j + vs.length) cs.length
          · simp only [hb2, cond_false] at he; subst he; exact bad_vc hvc
          · simp only [hb2, cond_true] at he
            subst he
            have hle := Nat.le_of_ble_eq_true hb2
            obtain ⟨hk, g, C, cv, T, hl, hh, hcs, hrel, hon⟩ := r.objs _ _ ho
            obtain ⟨_, _, hpv⟩ := ptr_val' hp
            obtain rfl := hpv g C hl
            have hvl : vd.cells.toList.length = vs.length := by simpa using hs
            refine ⟨rfl, _, storeVar_run hn hs hh (by omega) h1, ?_⟩
            refine r.turn hl (by simp) rfl rfl rfl (fun k hk => setRow_other w g k _ hk) fun mono _ => ⟨g, C, _, T, rfl, setRow_heap w g cv _ T _ hh, ?_, fun k d u hd hu => ?_, fun u hu => ?_⟩
            · simp only [List.size_toArray, List.length_append, List.length_take, List.length_drop, Array.length_toList]; omega
            · rw [List.getElem?_toArray, seg_get' _ _ _ _ _ hvl (by simpa [hcs] using hle)] at hu
              rw [seg_get _ _ _ _ hle] at hd
              refine mono ?_
              split at hd
              · rename_i hk; rw [if_pos hk] at hu; exact hrel k d u hd (by simpa using hu)
              · rename_i hk
                rw [if_neg hk] at hu
                split at hd
                · rename_i hk2; rw [if_pos hk2] at hu; exact hr _ d u hd (by simpa using hu)
                · rename_i hk2; rw [if_neg hk2] at hu; exact hrel k d u hd (by simpa using hu)
            · simp only [List.mem_append] at hu
              rcases hu with hu | hu | hu
              · exact hon _ (List.mem_of_mem_take hu)
              · exact h1 _ hu
              · exact hon _ (List.mem_of_mem_drop hu)
        · subst he; exact bad_vc hvc
      · rename_i s id i j
        split at he
        · rename_i n' cols ho
          cases hb2 : (Nat.beq cols.length s && Nat.ble (j + vs.length) s && DV.closed.go vs)
          · simp only [hb2, cond_false] at he; subst he; exact bad_vc hvc
          · simp only [hb2, cond_true] at he
            subst he
            simp only [Bool.and_eq_true] at hb2
            obtain ⟨⟨hb2, hb3⟩, hcl⟩ := hb2
            obtain rfl := Nat.eq_of_beq_eq_true hb2
            have hle := Nat.le_of_ble_eq_true hb3
            have hi : i < n' := hvc.one
            obtain ⟨hk, ho'⟩ := r.objs _ _ ho
            rcases ho' with ⟨_, h0⟩ | ⟨g, C, cv, T, hl, hh, hsz, hC, hrel⟩
            · omega
            · have hpv : ∀ g C, blk id = some (.at_ g C) → vp = .pointer (some ⟨g, i * cols.length + j, none⟩) := by cases hp with | rptr _ _ h => exact h
              obtain rfl := hpv g C hl
              have hvl : vd.cells.toList.length = vs.length := by simpa using hs
              have hroom : i * cols.length + j + vs.length ≤ cv.size := by
                have : i * cols.length + cols.length ≤ C * cols.length := by rw [← Nat.succ_mul]; exact Nat.mul_le_mul_right _ (by omega)
                omega
              refine ⟨rfl, _, storeVar_run hn hs hh hroom h1, ?_⟩
              have hcl2 : (cols.take j ++ setCols i (cols.drop j) vs).length = cols.length := by
                rw [List.length_append, setCols_len _ _ _ (by rw [List.length_drop]; omega), List.length_take, List.length_drop]; omega
              refine r.turn hl (by simp) rfl rfl rfl (fun k hk => setRow_other w g k _ hk) fun _ monoC => .inr ⟨g, C, _, T, rfl, setRow_heap w g cv _ T _ hh, ?_, hC, fun i' j' f hi' hf => ?_⟩
              · rw [hcl2]
                simp only [List.size_toArray, List.length_append, List.length_take, List.length_drop, Array.length_toList]; omega
              · rw [hcl2]
                have hj' : j' < cols.length := by rw [← hcl2]; exact (List.getElem?_eq_some_iff.1 hf).1
                have hcf : cols[j']? = some cols[j'] := List.getElem?_eq_getElem hj'
                obtain ⟨u0, hu0, hone0, hrel0⟩ := hrel i' j' _ hi' hcf
                rw [List.getElem?_toArray, seg_get' _ _ _ _ _ hvl (by simpa using hroom)]
                simp only [Array.getElem?_toList]
                by_cases hhit : i' = i ∧ j ≤ j' ∧ j' < j + vs.length
                · obtain ⟨rfl, hj1, hj2⟩ := hhit
                  rw [if_neg (by omega), if_pos (by omega)]
                  have hf' : (setCols i' (cols.drop j) vs)[j' - j]? = some f := by
                    rw [List.getElem?_append_right (by rw [List.length_take]; omega), List.length_take] at hf
                    rwa [show min j cols.length = j by omega] at hf
                  obtain ⟨c, hc, ⟨hge, _⟩ | ⟨d', hd', rfl⟩⟩ := setCols_get i' _ vs _ f (by rw [List.length_drop]; omega) hf'
                  · omega
                  · have hlt : j' - j < vd.cells.size := by omega
                    have hu : vd.cells[j' - j]? = some vd.cells[j' - j] := Array.getElem?_eq_getElem hlt
                    refine ⟨vd.cells[j' - j], ?_, h1 _ (Array.mem_toList_iff.2 (Array.getElem_mem _)), ?_⟩
                    · rw [show i' * cols.length + j' - (i' * cols.length + j) = j' - j by omega]; exact hu
                    · refine monoC (sel_sound ⟨fun _ => ?_, fun h => ?_⟩)
                      · exact (hr _ d' _ hd' hu).close (closed_go hcl _ (List.mem_of_getElem? hd'))
                      · simp at h
                · have hcell : ¬ (¬ i' * cols.length + j' < i * cols.length + j ∧ i' * cols.length + j' < i * cols.length + j + vs.length) := by
                    rintro ⟨hx, hy⟩
                    obtain ⟨m, hm⟩ : ∃ m, i' * cols.length + j' = i * cols.length + (j + m) := ⟨i' * cols.length + j' - (i * cols.length + j), by omega⟩
                    obtain ⟨e1, e2⟩ := cell_apart hj' (by omega) hm
                    exact hhit ⟨e1, by omega, by omega⟩
                  refine ⟨u0, ?_, hone0, ?_⟩
                  · split
                    · exact hu0
                    · rename_i hx; rw [if_neg (fun hy => hcell ⟨hx, hy⟩)]; exact hu0
                  · refine monoC ?_
                    by_cases hjj : j' < j
                    · rw [List.getElem?_append_left (by rw [List.length_take]; omega), List.getElem?_take, if_pos hjj, hcf] at hf
                      cases hf; exact hrel0
                    · have hf' : (setCols i (cols.drop j) vs)[j' - j]? = some f := by
                        rw [List.getElem?_append_right (by rw [List.length_take]; omega), List.length_take] at hf
                        rwa [show min j cols.length = j by omega] at hf
                      obtain ⟨c, hc, h⟩ := setCols_get i _ vs _ f (by rw [List.length_drop]; omega) hf'
                      rw [List.getElem?_drop, show j + (j' - j) = j' by omega, hcf] at hc
                      cases hc
                      rcases h with ⟨_, rfl⟩ | ⟨d', hd', rfl⟩
                      · exact hrel0
                      · have hm : j' - j < vs.length := (List.getElem?_eq_some_iff.1 hd').1
                        have hne : i' ≠ i := fun e => hhit ⟨e, by omega, by omega⟩
                        refine sel_sound ⟨fun h => ?_, fun _ => hrel0⟩
                        simp at h; exact absurd h hne
        · subst he; exact bad_vc hvc
      · subst he; exact bad_vc hvc
  · subst he; exact bad_vc hvc
end
end Go.Abs
end
