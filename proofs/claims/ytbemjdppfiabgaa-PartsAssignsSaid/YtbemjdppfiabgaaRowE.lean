/- Lemmas for the rows: arguments opened to abstract values, and a row's last step. No program in sight. Lemmas for the rows: structs with fields of any one-cell types, lists of numbers. No program in sight. Lemmas for the rows: slices of structs of ints, by their columns. No program in sight. Lemmas for the rows: slices of structs of a string, ints and a pair of ints; slices of pairs of ints. No program in sight. -/
import Derived.Test.YtbemjdppfiabgaaAbsT
import Derived.Deep.Slices
import Derived.Deep.Fields
import Derived.ChangeSame
import Derived.Lib.SmallJoins
import Derived.Carry
import Derived.OpenShut
import Derived.WideKeyArgs
section
section
section
namespace Go.Abs
open Go.RowKit Go.WideShapes Go.ChangeShapes Go.Deep Go.Joins Go.WideElems

section
variable {H : Type} {enc : TypeId × Value → H} {P : Program} {w : World} {base : Nat} {spare : Nat → Bool} {held : Bool}

/-- A slice of structs whose fields are all of type int: nil, or each element's cells are known. -/
theorem open_rows {t e : TypeId} {fs : Array Field} {fuel : Nat} {cs : List Value} {x : DataW H × List MemPlace} (ht : P.underlying t = some (.slice e)) (he : P.underlying e = some (.struct fs))
    (hone : oneCellFields P fs = true) (hC : P.cellsOf e = fs.size) (hint : ∀ (j : Nat) (f : Field), fs[j]? = some f → P.underlying f.type = some (.int .i64)) (h : DataW.trod enc P w base spare held fuel t cs = some x) :
    cs = [.slice none 0 0] ∨ ∃ (a : Addr) (len cap : Nat), cs = [.slice (some a) len cap] ∧ len ≤ cap ∧
      ∀ i j, i < len → j < fs.size → ∃ z, w.cell? (a.add (i * fs.size + j)) = some (.int .i64 z) := by
  rcases open_slice ht h with ⟨h0, _⟩ | ⟨a, len, cap, m, n, D, Pl, hcs, _, hl, _, hm, _, hi⟩
  · exact .inl h0
  · refine .inr ⟨a, len, cap, hcs, hl, fun i j hil hj => ?_⟩
    have him : i < m := by rw [hm]; split <;> omega
    obtain ⟨cs', hc, ht'⟩ := hi i him
    rw [hC] at hc
    obtain ⟨ys, n', _, _, hlen, hyl, hf⟩ := DataW.trod_struct he ht'
    obtain ⟨_, hcl, hat⟩ := World.cells?_some hc
    have hfj : fs[j]? = some fs[j] := Array.getElem?_eq_getElem hj
    obtain ⟨ho, hk⟩ := hone_of hone j _ hfj
    have hcell := hat j hj
    have h1 := hf j _ hfj
    rw [ho, hk] at h1
    have hone' : (cs'.drop j).take 1 = [cs'[j]'(by omega)] := by
      rw [List.drop_eq_getElem_cons (by omega)]
      rfl
    rw [hone'] at h1
    have hys : ys[j]? = some (ys[j]'(by omega)) := List.getElem?_eq_getElem (by omega)
    obtain ⟨z, hz, _, _⟩ := DataW.trod_int (hint j _ hfj) (h1.trans hys)
    refine ⟨z, ?_⟩
    rw [← Go.Deep.add_add, hcell, List.getElem?_eq_getElem (by omega)]
    exact congrArg some (List.cons.inj hz).1

/-- The arguments read behind the call as they did before. -/
theorem args_stay {W W' : World} (hl : laidOutB P = true) (hb : Below W.heap.size W W') : ∀ {ts : List TypeId} {vs : List Value} {ds : List (DataW H)} {ps : List MemPlace} {sp : Nat → Bool},
    (ts.all fun t => P.readableRec t && decide (t < P.types.size)) = true → DataW.TrodAll enc P W 0 (fun _ => true) true ts vs ds ps → (∀ x ∈ ps, x.block < W.heap.size) → (∀ x ∈ ps, sp x.block = true) →
      DataW.TrodAll enc P W' 0 sp true ts vs ds ps
  | [], vs, ds, ps, sp, _, h, _, _ => by
    obtain ⟨rfl, rfl, rfl⟩ := trodAll_nil h
    exact trodAll_mk0
  | t :: ts, vs, ds, ps, sp, ha, h, hlt, hs => by
    obtain ⟨v, vs', d, ds', p, q, rfl, rfl, rfl, h0, h1⟩ := trodAll_cons h
    rw [List.all_cons, Bool.and_eq_true, Bool.and_eq_true, decide_eq_true_eq] at ha
    exact trodAll_cons_mk (Trod_stays hl ha.1.1 ha.1.2 h0 (fun x hx => hb.lib.same (hlt x (List.mem_append_left _ hx))) fun x hx => hs x (List.mem_append_left _ hx))
      (args_stay hl hb ha.2 h1 (fun x hx => hlt x (List.mem_append_right _ hx)) fun x hx => hs x (List.mem_append_right _ hx))

/-- A row's last step where nothing that was there has turned. -/
theorem post_of_below {f : Func} {s : ChangeSpec} {apart fresh handsOn again : Bool} {W W' : World} {args : Array Value} {v : Value} {ds gs : List (DataW H)} {before pa pv : List MemPlace}
    (hW : DataW.Whole enc P f.params.toList s.vars apart W args.toList ds gs before)
    (hres : ∀ (b : Nat) (sp : Nat → Bool) (hd : Bool), DataW.TrodAll enc P W' b sp hd f.resultTypes.toList (v.resultList f.resultTypes.size) (s.fn H (ds ++ gs)).results [])
    (hargs : ∀ sp : Nat → Bool, (∀ p ∈ before, sp p.block = true) → DataW.TrodAll enc P W' 0 sp true f.params.toList args.toList (s.fn H (ds ++ gs)).args pa)
    (hvars : ∀ sp : Nat → Bool, (∀ p ∈ before, sp p.block = true) → DataW.TrodVars enc P W' sp s.vars (s.fn H (ds ++ gs)).vars pv)
    (hps : before = pa ++ pv) (hb : Below W.heap.size W W')
    (hok : ∀ (j : Nat) (t : TypeId) (r : Value), f.resultTypes[j]? = some t → (v.resultList f.resultTypes.size)[j]? = some r → Value.okWide P W' .any 0 t r) :
    s.post enc P f apart fresh handsOn again W args v W' := by
  have hlt : ∀ p ∈ before, p.block < W.heap.size := fun p hp => hW.lt p hp
  have hold : ∀ p ∈ before, (fun b => decide (b < W.heap.size)) p.block = true := fun p hp => by simpa using hlt p hp
  refine ⟨ds, gs, before, [], pa, pv, hW, hres _ _ _, hargs _ hold, hvars _ hold, World.keptBut_mono (fun p hp => ⟨hp, ?_⟩) (hb.lib.frame (· ∈ before)), fun _ => ?_⟩
  · rw [hps, List.mem_append] at hp
    exact Or.inr hp
  · obtain ⟨_, _, _, _, _, hz, hn⟩ := hW
    refine ⟨hok, _, _, ([] ++ pa) ++ pv, ⟨[] ++ pa, pv, trodAll_append (hargs _ (fun _ _ => rfl)) (hres _ _ _), hvars _ (fun _ _ => rfl), rfl, ?_, ?_⟩, ?_⟩
    · intro b off hp
      have hin : MemPlace.cell b off ∈ before := by rw [hps]; simpa using hp
      rw [hb.lib.frozen (hlt _ hin)]
      exact hz b off hin
    · intro ha
      have := hn ha
      rw [hps] at this
      simpa using this
    · intro p hp _
      rw [hps]
      simpa using hp
end

theorem rel_none {w : World} {S : Nat → Prop} (cols : List (Nat → DV)) : RelC (rdArg w S) (.lst 0 cols) (.slice none 0 0) :=
  .lst (fun _ _ => .bool false) (Nat.le_refl _) (fun _ _ _ h => absurd h (by omega)) (fun h => absurd h (by omega)) (fun _ _ _ h => absurd h (by omega)) (fun _ _ _ h => absurd h (by omega))
end Go.Abs
end
section
namespace Go.Abs
open Go.RowKit Go.WideShapes Go.ChangeShapes Go.Deep Go.Joins Go.WideElems

section
variable {H : Type} {enc : TypeId × Value → H} {P : Program} {w : World} {base : Nat} {spare : Nat → Bool} {held : Bool}

/-- A struct by value, each field of one cell: its parts, each read by its own type. -/
theorem open_fields {r : Reach} {b0 : Nat} {t : TypeId} {fs : Array Field} {v : Value} {d : DataW H} {p : List MemPlace} (hs : P.underlying t = some (.struct fs)) (hone : oneCellFields P fs = true) (hC : P.cellsOf t = fs.size)
    (hv : Value.okWide P w r b0 t v) (h : DataW.Trod enc P w base spare held t v d p) :
    ∃ (vs : Array Value) (n : Nat), v = .agg vs ∧ vs.size = fs.size ∧ ∀ (j : Nat) (f : Field), fs[j]? = some f → ∃ u x, vs[j]? = some u ∧ DataW.trod enc P w base spare held n f.type [u] = some x := by
  obtain ⟨cs, rfl, hsz⟩ := okWide_struct hs hv
  obtain ⟨fuel, hf⟩ := h
  obtain ⟨xs, n, _, _, _, hlen, hg⟩ := DataW.trod_struct hs hf
  refine ⟨cs, n, rfl, hsz.trans hC, fun j f hfj => ?_⟩
  have hj := (Array.getElem?_eq_some_iff.1 hfj).1
  have hjc : j < cs.size := by rw [hsz, hC]; exact hj
  obtain ⟨ho, hk⟩ := hone_of hone j _ hfj
  have h1 := hg j _ hfj
  rw [ho, hk] at h1
  have hone' : (cs.toList.drop j).take 1 = [cs[j]] := by
    rw [List.drop_eq_getElem_cons (by simpa using hjc)]
    simp
  rw [show (Value.agg cs).cells.toList = cs.toList from rfl, hone'] at h1
  have hxs : xs[j]? = some (xs[j]'(by omega)) := List.getElem?_eq_getElem (by omega)
  exact ⟨_, _, Array.getElem?_eq_getElem hjc, h1.trans hxs⟩

/-- A list of ints, as a list of numbers. -/
theorem rel_ints {w : World} {S : Nat → Prop} (hS : ∀ b, S b) {a : Addr} {len cap : Nat} (hl : len ≤ cap) (h : ∀ i, i < len → ∃ z, w.cell? (a.add i) = some (.int .i64 z)) :
    ∃ A : Nat → Int, RelC (rdArg w S) (.lst len [fun i => .val (.int .i64 (A i))]) (.slice (some a) len cap) := by
  classical
  refine ⟨fun i => if hi : i < len then (h i hi).choose else 0, ?_⟩
  refine .lst (fun i j => .int .i64 (if hi : i < len then (h i hi).choose else 0)) hl (fun i j f hi hj => ⟨a, rfl, ?_, hS _⟩) (fun _ => by simp) (fun _ _ _ _ _ => rfl) fun i j f hi hj => ?_
  · match j, hj with
    | 0, _ => rw [dif_pos hi, List.length_singleton, Nat.mul_one, Nat.add_zero]; exact .inl ⟨(h i hi).choose_spec, rfl⟩
  · match j, hj with
    | 0, hj => cases hj; exact .val _
theorem open_ints {S : Nat → Prop} (hS : ∀ b, S b) {t e : TypeId} {fuel : Nat} {v : Value} {x : DataW H × List MemPlace} (ht : P.underlying t = some (.slice e)) (he : P.underlying e = some (.int .i64)) (hC : P.cellsOf e = 1)
    (h : DataW.trod enc P w base spare held fuel t [v] = some x) : ∃ (n : Nat) (A : Nat → Int), RelC (rdArg w S) (.lst n [fun i => .val (.int .i64 (A i))]) v := by
  rcases open_slice1 ht hC h with ⟨h0, _⟩ | ⟨a, len, cap, m, n, V, D, Pl, hcs, _, hl, _, hm, _, hi⟩
  · cases h0
    exact ⟨0, fun _ => 0, rel_none _⟩
  · cases hcs
    obtain ⟨A, hA⟩ := rel_ints hS (w := w) (a := a) hl fun i hil => by
      have him : i < m := by rw [hm]; split <;> omega
      obtain ⟨hc, ht'⟩ := hi i him
      obtain ⟨z, hz, _, _⟩ := DataW.trod_int he ht'
      exact ⟨z, by rw [hc]; exact congrArg some (List.cons.inj hz).1⟩
    exact ⟨len, A, hA⟩
theorem agg_rel {w : World} {S : Nat → Prop} {ds : List DV} {vs : Array Value} (hs : vs.size = ds.length) (h : ∀ (j : Nat) (d : DV) (u : Value), ds[j]? = some d → vs[j]? = some u → RelC (rdArg w S) d u) : RelC (rdArg w S) (.agg ds) (.agg vs) := .agg hs h
end
end Go.Abs
end
end
section
namespace Go.Abs
open Go.RowKit Go.WideShapes Go.ChangeShapes Go.Deep Go.Joins Go.WideElems

section
variable {H : Type} {enc : TypeId × Value → H} {P : Program} {w : World} {base : Nat} {spare : Nat → Bool} {held : Bool}
theorem rel_cols {w : World} {S : Nat → Prop} (hS : ∀ b, S b) {a : Addr} {len cap k : Nat} (hl : len ≤ cap) (h : ∀ i j, i < len → j < k → ∃ z, w.cell? (a.add (i * k + j)) = some (.int .i64 z)) :
    ∃ C : Nat → Nat → Int, RelC (rdArg w S) (.lst len ((List.range k).map fun j i => DV.val (.int .i64 (C j i)))) (.slice (some a) len cap) := by
  classical
  refine ⟨fun j i => if hi : i < len ∧ j < k then (h i j hi.1 hi.2).choose else 0, ?_⟩
  have hlen : ((List.range k).map fun j i => DV.val (.int .i64 (if hi : i < len ∧ j < k then (h i j hi.1 hi.2).choose else 0))).length = k := by simp
  have at_ : ∀ (j : Nat) (f : Nat → DV), ((List.range k).map fun j i => DV.val (.int .i64 (if hi : i < len ∧ j < k then (h i j hi.1 hi.2).choose else 0)))[j]? = some f → j < k ∧ f = fun i => DV.val (.int .i64 (if hi : i < len ∧ j < k then (h i j hi.1 hi.2).choose else 0)) := fun j f hf => by
    have hj : j < k := by
      have := (List.getElem?_eq_some_iff.1 hf).1
      rw [hlen] at this; exact this
    rw [List.getElem?_map, List.getElem?_range hj] at hf
    exact ⟨hj, (Option.some.inj hf).symm⟩
  refine .lst (fun i j => .int .i64 (if hi : i < len ∧ j < k then (h i j hi.1 hi.2).choose else 0)) hl (fun i j f hi hj => ⟨a, rfl, ?_, hS _⟩) (fun _ => by simp) (fun _ _ _ _ _ => rfl) fun i j f hi hj => ?_
  · obtain ⟨hjk, _⟩ := at_ j f hj
    rw [dif_pos ⟨hi, hjk⟩, hlen]
    exact .inl ⟨(h i j hi hjk).choose_spec, rfl⟩
  · obtain ⟨_, rfl⟩ := at_ j f hj
    exact .val _
theorem open_cols {S : Nat → Prop} (hS : ∀ b, S b) {t e : TypeId} {fs : Array Field} {fuel : Nat} {v : Value} {x : DataW H × List MemPlace} (ht : P.underlying t = some (.slice e)) (he : P.underlying e = some (.struct fs))
    (hone : oneCellFields P fs = true) (hC : P.cellsOf e = fs.size) (hint : ∀ (j : Nat) (f : Field), fs[j]? = some f → P.underlying f.type = some (.int .i64)) (h : DataW.trod enc P w base spare held fuel t [v] = some x) :
    ∃ (n : Nat) (C : Nat → Nat → Int), RelC (rdArg w S) (.lst n ((List.range fs.size).map fun j i => DV.val (.int .i64 (C j i)))) v := by
  rcases open_rows ht he hone hC hint h with hc | ⟨a, len, cap, hc, hl, hcell⟩
  · cases hc
    exact ⟨0, fun _ _ => 0, rel_none _⟩
  · cases hc
    obtain ⟨C, hC'⟩ := rel_cols hS (w := w) hl hcell
    exact ⟨_, C, hC'⟩
end
end Go.Abs
end
end
section
namespace Go.Abs
open Go.RowKit Go.WideShapes Go.ChangeShapes Go.Deep Go.Joins Go.WideElems

section
variable {H : Type} {enc : TypeId × Value → H} {P : Program} {w : World} {base : Nat} {spare : Nat → Bool} {held : Bool}
theorem rel_lst {S : Nat → Prop} (hS : ∀ b, S b) {a : Addr} {len cap : Nat} {cols : List (Nat → DV)} (hl : len ≤ cap)
    (h : ∀ (i j : Nat) (f : Nat → DV), i < len → cols[j]? = some f → ∃ u, w.cell? (a.add (i * cols.length + j)) = some u ∧ oneV u = true ∧ RelC (rdArg w S) (f i) u) : RelC (rdArg w S) (.lst len cols) (.slice (some a) len cap) := by
  refine .lst (fun i j => (w.cell? (a.add (i * cols.length + j))).getD undef) hl (fun i j f hi hj => ⟨a, rfl, ?_, hS _⟩) (fun _ => by simp) (fun i j f hi hj => ?_) fun i j f hi hj => ?_
  all_goals obtain ⟨u, e, o, r⟩ := h i j f hi hj
  · rw [e]; exact .inl ⟨e, o⟩
  · rw [e]; exact o
  · rw [e]; exact r
/-- The field j begins at a cell, of a type. -/
def fieldAt (fs : Array Field) (j off : Nat) (t : TypeId) : Prop := ∃ f, fs[j]? = some f ∧ f.offset = off ∧ f.type = t
theorem field_cells {e t : TypeId} {fs : Array Field} {fuel : Nat} {cs : List Value} {x : DataW H × List MemPlace} (he : P.underlying e = some (.struct fs)) (h : DataW.trod enc P w base spare held fuel e cs = some x) {j off : Nat} (hf : fieldAt fs j off t) :
    ∃ n y, DataW.trod enc P w base spare held n t ((cs.drop off).take (P.cellsOf t)) = some y := by
  obtain ⟨f, hj, ho, rfl⟩ := hf
  obtain ⟨xs, n, _, _, _, hlen, hg⟩ := DataW.trod_struct he h
  have h1 := hg j f hj
  rw [ho] at h1
  have hlt : j < xs.length := by rw [hlen]; exact (Array.getElem?_eq_some_iff.1 hj).1
  rw [List.getElem?_eq_getElem hlt] at h1
  exact ⟨n, _, h1⟩
theorem one_cell {cs : List Value} {k : Nat} (h : k < cs.length) : (cs.drop k).take 1 = [cs[k]] := by
  rw [List.drop_eq_getElem_cons h]
  rfl
theorem pair_ints {a ti : TypeId} {fuel : Nat} {cs : List Value} {x : DataW H × List MemPlace} (ua : P.underlying a = some (.array 2 ti)) (ui : P.underlying ti = some (.int .i64)) (ci : P.cellsOf ti = 1) (ca : P.cellsOf a = 2) (h : DataW.trod enc P w base spare held fuel a cs = some x) :
    ∃ z0 z1, cs = [.int .i64 z0, .int .i64 z1] := by
  obtain ⟨xs, m, _, _, hlen, hxl, hg⟩ := DataW.trod_array ua h
  rw [ca] at hlen
  match cs, hlen with
  | [c0, c1], _ =>
    have h0 := hg 0 (by decide)
    have h1 := hg 1 (by decide)
    rw [ci, List.getElem?_eq_getElem (by omega)] at h0 h1
    obtain ⟨z0, e0, _, _⟩ := DataW.trod_int ui h0
    obtain ⟨z1, e1, _, _⟩ := DataW.trod_int ui h1
    exact ⟨z0, z1, by rw [(List.cons.inj e0).1, (List.cons.inj (show [c1] = [.int .i64 z1] from e1)).1]⟩
/-- A slice of pairs of ints. -/
theorem open_pairs {S : Nat → Prop} (hS : ∀ b, S b) {t a ti : TypeId} {fuel : Nat} {v : Value} {x : DataW H × List MemPlace} (ht : P.underlying t = some (.slice a)) (ua : P.underlying a = some (.array 2 ti)) (ui : P.underlying ti = some (.int .i64)) (ci : P.cellsOf ti = 1) (ca : P.cellsOf a = 2)
    (h : DataW.trod enc P w base spare held fuel t [v] = some x) : ∃ (n : Nat) (C : Nat → Nat → Int), RelC (rdArg w S) (.lst n [fun i => DV.val (.int .i64 (C 0 i)), fun i => DV.val (.int .i64 (C 1 i))]) v := by
  rcases open_slice ht h with ⟨h0, _⟩ | ⟨ad, len, cap, m, n, D, Pl, hcs, _, hl, _, hm, _, hi⟩
  · cases h0
    exact ⟨0, fun _ _ => 0, rel_none _⟩
  · cases hcs
    obtain ⟨C, hC⟩ := rel_cols hS (w := w) (a := ad) (k := 2) hl fun i j hil hj => by
      have him : i < m := by rw [hm]; split <;> omega
      obtain ⟨cs', hc, ht'⟩ := hi i him
      rw [ca] at hc
      obtain ⟨z0, z1, rfl⟩ := pair_ints ua ui ci ca ht'
      obtain ⟨_, _, hat⟩ := World.cells?_some hc
      have := hat j hj
      rw [← Go.Deep.add_add, this]
      match j, hj with
      | 0, _ => exact ⟨z0, rfl⟩
      | 1, _ => exact ⟨z1, rfl⟩
    exact ⟨_, C, hC⟩
/-- A slice of structs of a string, four ints and a pair of ints. -/
theorem open_parts {S : Nat → Prop} (hS : ∀ b, S b) {t e tS a ti : TypeId} {fs : Array Field} {fuel : Nat} {v : Value} {x : DataW H × List MemPlace} (ht : P.underlying t = some (.slice e)) (he : P.underlying e = some (.struct fs)) (hC : P.cellsOf e = 7)
    (f0 : fieldAt fs 0 0 tS) (f1 : fieldAt fs 1 1 ti) (f2 : fieldAt fs 2 2 ti) (f3 : fieldAt fs 3 3 ti) (f4 : fieldAt fs 4 4 ti) (f5 : fieldAt fs 5 5 a) (us : P.underlying tS = some .string) (cs : P.cellsOf tS = 1) (ua : P.underlying a = some (.array 2 ti)) (ui : P.underlying ti = some (.int .i64)) (ci : P.cellsOf ti = 1) (ca : P.cellsOf a = 2)
    (h : DataW.trod enc P w base spare held fuel t [v] = some x) :
    ∃ (n : Nat) (N : Nat → ByteArray) (C : Nat → Nat → Int), RelC (rdArg w S) (.lst n [fun i => DV.val (.string (N i)), fun i => DV.val (.int .i64 (C i 0)), fun i => DV.val (.int .i64 (C i 1)), fun i => DV.val (.int .i64 (C i 2)), fun i => DV.val (.int .i64 (C i 3)), fun i => DV.val (.int .i64 (C i 4)), fun i => DV.val (.int .i64 (C i 5))]) v := by
  classical
  rcases open_slice ht h with ⟨h0, _⟩ | ⟨ad, len, cap, m, n, D, Pl, hcs, _, hl, _, hm, _, hi⟩
  · cases h0
    exact ⟨0, fun _ => ⟨#[]⟩, fun _ _ => 0, rel_none _⟩
  · cases hcs
    have key : ∀ i, ∃ (s : ByteArray) (z : Nat → Int), i < len → w.cell? (ad.add (i * 7 + 0)) = some (.string s) ∧ ∀ j, j < 6 → w.cell? (ad.add (i * 7 + (j + 1))) = some (.int .i64 (z j)) := fun i => by
      by_cases hil : i < len
      · have him : i < m := by rw [hm]; split <;> omega
        obtain ⟨cs', hc, ht'⟩ := hi i him
        rw [hC] at hc
        obtain ⟨_, hcl, hat⟩ := World.cells?_some hc
        have int1 : ∀ k, k < 7 → fieldAt fs k k ti → ∃ z, cs'[k]? = some (.int .i64 z) := fun k hk hf => by
          obtain ⟨n', y, h1⟩ := field_cells he ht' hf
          rw [ci, one_cell (by omega)] at h1
          obtain ⟨z, hz, _, _⟩ := DataW.trod_int ui h1
          exact ⟨z, by rw [List.getElem?_eq_getElem (by omega)]; exact congrArg some (List.cons.inj hz).1⟩
        obtain ⟨z1, e1⟩ := int1 1 (by decide) f1
        obtain ⟨z2, e2⟩ := int1 2 (by decide) f2
        obtain ⟨z3, e3⟩ := int1 3 (by decide) f3
        obtain ⟨z4, e4⟩ := int1 4 (by decide) f4
        obtain ⟨n0, y0, h0⟩ := field_cells he ht' f0
        rw [cs, one_cell (by omega)] at h0
        obtain ⟨s, hs, _, _⟩ := DataW.trod_string us h0
        have e0 : cs'[0]? = some (.string s) := by rw [List.getElem?_eq_getElem (by omega)]; exact congrArg some (List.cons.inj hs).1
        obtain ⟨n5, y5, h5⟩ := field_cells he ht' f5
        obtain ⟨z5, z6, h56⟩ := pair_ints ua ui ci ca h5
        rw [ca] at h56
        have e5 : cs'[5]? = some (.int .i64 z5) := by
          have : ((cs'.drop 5).take 2)[0]? = some (.int .i64 z5) := by rw [h56]; rfl
          simpa using this
        have e6 : cs'[6]? = some (.int .i64 z6) := by
          have : ((cs'.drop 5).take 2)[1]? = some (.int .i64 z6) := by rw [h56]; rfl
          simpa using this
        refine ⟨s, fun j => if j = 0 then z1 else if j = 1 then z2 else if j = 2 then z3 else if j = 3 then z4 else if j = 4 then z5 else z6, fun _ => ⟨?_, fun j hj => ?_⟩⟩
        · rw [← Go.Deep.add_add, hat 0 (by decide), e0]
        · rw [← Go.Deep.add_add, hat (j + 1) (by omega)]
          match j, hj with
          | 0, _ => exact e1
          | 1, _ => exact e2
          | 2, _ => exact e3
          | 3, _ => exact e4
          | 4, _ => exact e5
          | 5, _ => exact e6
      · exact ⟨⟨#[]⟩, fun _ => 0, fun h => absurd h hil⟩
    refine ⟨len, fun i => (key i).choose, fun i => (key i).choose_spec.choose, rel_lst hS hl fun i j f hil hj => ?_⟩
    obtain ⟨k0, k1⟩ := (key i).choose_spec.choose_spec hil
    match j, hj with
    | 0, hj => cases hj; exact ⟨_, k0, rfl, .val _⟩
    | 1, hj => cases hj; exact ⟨_, k1 0 (by decide), rfl, .val _⟩
    | 2, hj => cases hj; exact ⟨_, k1 1 (by decide), rfl, .val _⟩
    | 3, hj => cases hj; exact ⟨_, k1 2 (by decide), rfl, .val _⟩
    | 4, hj => cases hj; exact ⟨_, k1 3 (by decide), rfl, .val _⟩
    | 5, hj => cases hj; exact ⟨_, k1 4 (by decide), rfl, .val _⟩
    | 6, hj => cases hj; exact ⟨_, k1 5 (by decide), rfl, .val _⟩
end
end Go.Abs
end
