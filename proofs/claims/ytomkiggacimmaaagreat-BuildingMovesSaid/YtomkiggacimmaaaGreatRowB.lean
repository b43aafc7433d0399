/- Lemmas for the rows: arguments opened to abstract values, and a row's last step. No program in sight. Lemmas for the rows: a building as an argument. -/
import Derived.Test.YtomkiggacimmaaaGreatAbsT
import Derived.Deep.Slices
import Derived.Deep.Fields
import Derived.ChangeSame
import Derived.Lib.SmallJoins
import Derived.Carry
import Derived.OpenShut
import Derived.WideKeyArgs
import Derived.Test.YtomkiggacimmaaaGreatK16
section
namespace Go.Abs
open Go.RowKit Go.WideShapes Go.ChangeShapes Go.Deep Go.Joins Go.WideElems

section
variable {H : Type} {enc : TypeId × Value → H} {P : Program} {w : World} {base : Nat} {spare : Nat → Bool} {held : Bool}

/-- A slice of structs whose fields are all of type int: nil, or each element's cells are known. -/
theorem open_rows {t e : TypeId} {fs : Array Field} {fuel : Nat} {cs : List Value} {x : DataW H × List MemPlace} (ht : P.underlying t = some (.slice e)) (he : P.underlying e = some (.struct fs))
    (hone : oneCellFields P fs = true) (hC : P.cellsOf e = fs.size) (hint : ∀ (j : Nat) (f : Field), fs[j]? = some f → P.underlying f.type = some (.int .i64)) (h : DataW.trod enc P w base spare held fuel t cs = some x) :
    cs = [.slice none 0 0] ∨ ∃ (a : Addr) (len cap : Nat), cs = [.slice (some a) len cap] ∧ len ≤ cap ∧
      ∀ i j, i < len → j < fs.size → ∃ z, w.cell? (a.add (i * fs.size + j)) = some (.int .i64 z) := by
  rcases open_slice ht h with ⟨h0, _⟩ | ⟨a, len, cap, m, n, D, Pl, hcs, _, hl, _, hm, _, hi⟩
  · exact .inl h0
  · refine .inr ⟨a, len, cap, hcs, hl, fun i j hil hj => ?_⟩
    have him : i < m := by rw [hm]; split <;> omega
    obtain ⟨cs', hc, ht'⟩ := hi i him
    rw [hC] at hc
    obtain ⟨ys, n', _, _, hlen, hyl, hf⟩ := DataW.trod_struct he ht'
    obtain ⟨_, hcl, hat⟩ := World.cells?_some hc
    have hfj : fs[j]? = some fs[j] := Array.getElem?_eq_getElem hj
    obtain ⟨ho, hk⟩ := hone_of hone j _ hfj
    have hcell := hat j hj
    have h1 := hf j _ hfj
    rw [ho, hk] at h1
    have hone' : (cs'.drop j).take 1 = [cs'[j]'(by omega)] := by
      rw [List.drop_eq_getElem_cons (by omega)]
      rfl
    rw [hone'] at h1
    have hys : ys[j]? = some (ys[j]'(by omega)) := List.getElem?_eq_getElem (by omega)
    obtain ⟨z, hz, _, _⟩ := DataW.trod_int (hint j _ hfj) (h1.trans hys)
    refine ⟨z, ?_⟩
    rw [← Go.Deep.add_add, hcell, List.getElem?_eq_getElem (by omega)]
    exact congrArg some (List.cons.inj hz).1

/-- The arguments read behind the call as they did before. -/
theorem args_stay {W W' : World} (hl : laidOutB P = true) (hb : Below W.heap.size W W') : ∀ {ts : List TypeId} {vs : List Value} {ds : List (DataW H)} {ps : List MemPlace} {sp : Nat → Bool},
    (ts.all fun t => P.readableRec t && decide (t < P.types.size)) = true → DataW.TrodAll enc P W 0 (fun _ => true) true ts vs ds ps → (∀ x ∈ ps, x.block < W.heap.size) → (∀ x ∈ ps, sp x.block = true) →
      DataW.TrodAll enc P W' 0 sp true ts vs ds ps
  | [], vs, ds, ps, sp, _, h, _, _ => by
    obtain ⟨rfl, rfl, rfl⟩ := trodAll_nil h
    exact trodAll_mk0
  | t :: ts, vs, ds, ps, sp, ha, h, hlt, hs => by
    obtain ⟨v, vs', d, ds', p, q, rfl, rfl, rfl, h0, h1⟩ := trodAll_cons h
    rw [List.all_cons, Bool.and_eq_true, Bool.and_eq_true, decide_eq_true_eq] at ha
    exact trodAll_cons_mk (Trod_stays hl ha.1.1 ha.1.2 h0 (fun x hx => hb.lib.same (hlt x (List.mem_append_left _ hx))) fun x hx => hs x (List.mem_append_left _ hx))
      (args_stay hl hb ha.2 h1 (fun x hx => hlt x (List.mem_append_right _ hx)) fun x hx => hs x (List.mem_append_right _ hx))

/-- A row's last step where nothing that was there has turned. -/
theorem post_of_below {f : Func} {s : ChangeSpec} {apart fresh handsOn again : Bool} {W W' : World} {args : Array Value} {v : Value} {ds gs : List (DataW H)} {before pa pv : List MemPlace}
    (hW : DataW.Whole enc P f.params.toList s.vars apart W args.toList ds gs before)
    (hres : ∀ (b : Nat) (sp : Nat → Bool) (hd : Bool), DataW.TrodAll enc P W' b sp hd f.resultTypes.toList (v.resultList f.resultTypes.size) (s.fn H (ds ++ gs)).results [])
    (hargs : ∀ sp : Nat → Bool, (∀ p ∈ before, sp p.block = true) → DataW.TrodAll enc P W' 0 sp true f.params.toList args.toList (s.fn H (ds ++ gs)).args pa)
    (hvars : ∀ sp : Nat → Bool, (∀ p ∈ before, sp p.block = true) → DataW.TrodVars enc P W' sp s.vars (s.fn H (ds ++ gs)).vars pv)
    (hps : before = pa ++ pv) (hb : Below W.heap.size W W')
    (hok : ∀ (j : Nat) (t : TypeId) (r : Value), f.resultTypes[j]? = some t → (v.resultList f.resultTypes.size)[j]? = some r → Value.okWide P W' .any 0 t r) :
    s.post enc P f apart fresh handsOn again W args v W' := by
  have hlt : ∀ p ∈ before, p.block < W.heap.size := fun p hp => hW.lt p hp
  have hold : ∀ p ∈ before, (fun b => decide (b < W.heap.size)) p.block = true := fun p hp => by simpa using hlt p hp
  refine ⟨ds, gs, before, [], pa, pv, hW, hres _ _ _, hargs _ hold, hvars _ hold, World.keptBut_mono (fun p hp => ⟨hp, ?_⟩) (hb.lib.frame (· ∈ before)), fun _ => ?_⟩
  · rw [hps, List.mem_append] at hp
    exact Or.inr hp
  · obtain ⟨_, _, _, _, _, hz, hn⟩ := hW
    refine ⟨hok, _, _, ([] ++ pa) ++ pv, ⟨[] ++ pa, pv, trodAll_append (hargs _ (fun _ _ => rfl)) (hres _ _ _), hvars _ (fun _ _ => rfl), rfl, ?_, ?_⟩, ?_⟩
    · intro b off hp
      have hin : MemPlace.cell b off ∈ before := by rw [hps]; simpa using hp
      rw [hb.lib.frozen (hlt _ hin)]
      exact hz b off hin
    · intro ha
      have := hn ha
      rw [hps] at this
      simpa using this
    · intro p hp _
      rw [hps]
      simpa using hp
end

/-- A slice of structs of two ints, as a list of pairs. -/
theorem rel_pairs {w : World} {S : Nat → Prop} (hS : ∀ b, S b) {a : Addr} {len cap : Nat} (hl : len ≤ cap) (h : ∀ i j, i < len → j < 2 → ∃ z, w.cell? (a.add (i * 2 + j)) = some (.int .i64 z)) :
    ∃ X Y : Nat → Int, RelC (rdArg w S) (.lst len [fun i => .val (.int .i64 (X i)), fun i => .val (.int .i64 (Y i))]) (.slice (some a) len cap) := by
  classical
  refine ⟨fun i => if hi : i < len then (h i 0 hi (by decide)).choose else 0, fun i => if hi : i < len then (h i 1 hi (by decide)).choose else 0, ?_⟩
  refine .lst (fun i j => .int .i64 (if hi : i < len then (if j = 0 then (h i 0 hi (by decide)).choose else (h i 1 hi (by decide)).choose) else 0)) hl (fun i j f hi hj => ⟨a, rfl, ?_, hS _⟩) (fun _ => by simp) (fun _ _ _ _ _ => rfl) fun i j f hi hj => ?_
  · match j, hj with
    | 0, _ => rw [dif_pos hi, if_pos rfl]; exact .inl ⟨(h i 0 hi (by decide)).choose_spec, rfl⟩
    | 1, _ => rw [dif_pos hi, if_neg (by decide)]; exact .inl ⟨(h i 1 hi (by decide)).choose_spec, rfl⟩
  · match j, hj with
    | 0, hj => cases hj; simp only [if_true]; exact .val _
    | 1, hj => cases hj; simp only [show ¬ (1:Nat) = 0 by decide, if_false]; exact .val _
theorem rel_none {w : World} {S : Nat → Prop} (cols : List (Nat → DV)) : RelC (rdArg w S) (.lst 0 cols) (.slice none 0 0) :=
  .lst (fun _ _ => .bool false) (Nat.le_refl _) (fun _ _ _ h => absurd h (by omega)) (fun h => absurd h (by omega)) (fun _ _ _ h => absurd h (by omega)) (fun _ _ _ h => absurd h (by omega))
end Go.Abs
end
section
namespace Go.Abs
open Go Go.RowKit Go.WideShapes Go.ChangeShapes Go.Deep Go.Joins Go.WideElems

section
variable {H : Type} {enc : TypeId × Value → H} {P : Program} {w : World} {base : Nat} {spare : Nat → Bool} {held : Bool}

/-- A struct by value, each field of one cell: its parts, each read by its own type. -/
theorem open_fields {r : Reach} {b0 : Nat} {t : TypeId} {fs : Array Field} {v : Value} {d : DataW H} {p : List MemPlace} (hs : P.underlying t = some (.struct fs)) (hone : oneCellFields P fs = true) (hC : P.cellsOf t = fs.size)
    (hv : Value.okWide P w r b0 t v) (h : DataW.Trod enc P w base spare held t v d p) :
    ∃ (vs : Array Value) (n : Nat), v = .agg vs ∧ vs.size = fs.size ∧ ∀ (j : Nat) (f : Field), fs[j]? = some f → ∃ u x, vs[j]? = some u ∧ DataW.trod enc P w base spare held n f.type [u] = some x := by
  obtain ⟨cs, rfl, hsz⟩ := okWide_struct hs hv
  obtain ⟨fuel, hf⟩ := h
  obtain ⟨xs, n, _, _, _, hlen, hg⟩ := DataW.trod_struct hs hf
  refine ⟨cs, n, rfl, hsz.trans hC, fun j f hfj => ?_⟩
  have hj := (Array.getElem?_eq_some_iff.1 hfj).1
  have hjc : j < cs.size := by rw [hsz, hC]; exact hj
  obtain ⟨ho, hk⟩ := hone_of hone j _ hfj
  have h1 := hg j _ hfj
  rw [ho, hk] at h1
  have hone' : (cs.toList.drop j).take 1 = [cs[j]] := by
    rw [List.drop_eq_getElem_cons (by simpa using hjc)]
    simp
  rw [show (Value.agg cs).cells.toList = cs.toList from rfl, hone'] at h1
  have hxs : xs[j]? = some (xs[j]'(by omega)) := List.getElem?_eq_getElem (by omega)
  exact ⟨_, _, Array.getElem?_eq_getElem hjc, h1.trans hxs⟩

/-- A slice of structs, each field of one cell. -/
theorem open_elems {t e : TypeId} {fs : Array Field} {fuel : Nat} {cs : List Value} {x : DataW H × List MemPlace} (ht : P.underlying t = some (.slice e)) (he : P.underlying e = some (.struct fs))
    (hone : oneCellFields P fs = true) (hC : P.cellsOf e = fs.size) (h : DataW.trod enc P w base spare held fuel t cs = some x) :
    cs = [.slice none 0 0] ∨ ∃ (a : Addr) (len cap : Nat), cs = [.slice (some a) len cap] ∧ len ≤ cap ∧
      ∀ i, i < len → ∃ n : Nat, ∀ (j : Nat) (f : Field), fs[j]? = some f → ∃ u y, w.cell? (a.add (i * fs.size + j)) = some u ∧ DataW.trod enc P w base spare held n f.type [u] = some y := by
  rcases open_slice ht h with ⟨h0, _⟩ | ⟨a, len, cap, m, n, D, Pl, hcs, _, hl, _, hm, _, hi⟩
  · exact .inl h0
  · refine .inr ⟨a, len, cap, hcs, hl, fun i hil => ?_⟩
    have him : i < m := by rw [hm]; split <;> omega
    obtain ⟨cs', hc, ht'⟩ := hi i him
    rw [hC] at hc
    obtain ⟨ys, n', _, _, hlen, hyl, hf⟩ := DataW.trod_struct he ht'
    obtain ⟨_, hcl, hat⟩ := World.cells?_some hc
    refine ⟨n', fun j f hfj => ?_⟩
    have hj := (Array.getElem?_eq_some_iff.1 hfj).1
    obtain ⟨ho, hk⟩ := hone_of hone j _ hfj
    have hcell := hat j hj
    have h1 := hf j _ hfj
    rw [ho, hk] at h1
    have hone' : (cs'.drop j).take 1 = [cs'[j]'(by omega)] := by
      rw [List.drop_eq_getElem_cons (by omega)]
      rfl
    rw [hone'] at h1
    have hys : ys[j]? = some (ys[j]'(by omega)) := List.getElem?_eq_getElem (by omega)
    refine ⟨_, _, ?_, h1.trans hys⟩
    rw [← Go.Deep.add_add, hcell, List.getElem?_eq_getElem (by omega)]

theorem rel_lst {S : Nat → Prop} (hS : ∀ b, S b) {a : Addr} {len cap : Nat} {cols : List (Nat → DV)} (hl : len ≤ cap)
    (h : ∀ (i j : Nat) (f : Nat → DV), i < len → cols[j]? = some f → ∃ u, w.cell? (a.add (i * cols.length + j)) = some u ∧ oneV u = true ∧ RelC (rdArg w S) (f i) u) : RelC (rdArg w S) (.lst len cols) (.slice (some a) len cap) := by
  refine .lst (fun i j => (w.cell? (a.add (i * cols.length + j))).getD undef) hl (fun i j f hi hj => ⟨a, rfl, ?_, hS _⟩) (fun _ => by simp) (fun i j f hi hj => ?_) fun i j f hi hj => ?_
  all_goals obtain ⟨u, e, o, r⟩ := h i j f hi hj
  · rw [e]; exact .inl ⟨e, o⟩
  · rw [e]; exact o
  · rw [e]; exact r
theorem open_int {e : TypeId} {fuel : Nat} {v : Value} {x : DataW H × List MemPlace} (he : P.underlying e = some (.int .i64)) (h : DataW.trod enc P w base spare held fuel e [v] = some x) : ∃ z, v = .int .i64 z := by
  obtain ⟨z, hz, _, _⟩ := DataW.trod_int he h
  exact ⟨z, (List.cons.inj hz).1⟩
/-- A slice of structs of six ints. -/
theorem open_sixes {S : Nat → Prop} (hS : ∀ b, S b) {t e : TypeId} {fs : Array Field} {fuel : Nat} {v : Value} {x : DataW H × List MemPlace} (ht : P.underlying t = some (.slice e)) (he : P.underlying e = some (.struct fs))
    (hone : oneCellFields P fs = true) (hC : P.cellsOf e = fs.size) (hn : fs.size = 6) (hint : ∀ (j : Nat) (f : Field), fs[j]? = some f → P.underlying f.type = some (.int .i64)) (h : DataW.trod enc P w base spare held fuel t [v] = some x) :
    ∃ (n : Nat) (Z : Nat → Nat → Int), RelC (rdArg w S) (.lst n [fun i => dI (Z i 0), fun i => dI (Z i 1), fun i => dI (Z i 2), fun i => dI (Z i 3), fun i => dI (Z i 4), fun i => dI (Z i 5)]) v := by
  classical
  rcases open_rows ht he hone hC hint h with h0 | ⟨a, len, cap, hcs, hl, hcell⟩
  · cases h0
    exact ⟨0, fun _ _ => 0, rel_none _⟩
  · cases hcs
    rw [hn] at hcell
    refine ⟨len, fun i j => if hij : i < len ∧ j < 6 then (hcell i j hij.1 hij.2).choose else 0, rel_lst hS hl fun i j f hi hj => ?_⟩
    have key : ∀ j, j < 6 → w.cell? (a.add (i * 6 + j)) = some (.int .i64 (if hij : i < len ∧ j < 6 then (hcell i j hij.1 hij.2).choose else 0)) := fun j hj => by
      rw [dif_pos ⟨hi, hj⟩]; exact (hcell i j hi hj).choose_spec
    match j, hj with
    | 0, hj => cases hj; exact ⟨_, key 0 (by omega), rfl, .val _⟩
    | 1, hj => cases hj; exact ⟨_, key 1 (by omega), rfl, .val _⟩
    | 2, hj => cases hj; exact ⟨_, key 2 (by omega), rfl, .val _⟩
    | 3, hj => cases hj; exact ⟨_, key 3 (by omega), rfl, .val _⟩
    | 4, hj => cases hj; exact ⟨_, key 4 (by omega), rfl, .val _⟩
    | 5, hj => cases hj; exact ⟨_, key 5 (by omega), rfl, .val _⟩
/-- A slice of points. -/
theorem open_pts {S : Nat → Prop} (hS : ∀ b, S b) {t e : TypeId} {fs : Array Field} {fuel : Nat} {v : Value} {x : DataW H × List MemPlace} (ht : P.underlying t = some (.slice e)) (he : P.underlying e = some (.struct fs))
    (hone : oneCellFields P fs = true) (hC : P.cellsOf e = fs.size) (hn : fs.size = 2) (hint : ∀ (j : Nat) (f : Field), fs[j]? = some f → P.underlying f.type = some (.int .i64)) (h : DataW.trod enc P w base spare held fuel t [v] = some x) :
    ∃ (n : Nat) (X Y : Nat → Int), RelC (rdArg w S) (pts n X Y) v ∧ oneV v = true := by
  rcases open_rows ht he hone hC hint h with h0 | ⟨a, len, cap, hcs, hl, hcell⟩
  · cases h0
    exact ⟨0, fun _ => 0, fun _ => 0, rel_none _, rfl⟩
  · cases hcs
    rw [hn] at hcell
    obtain ⟨X, Y, h⟩ := rel_pairs hS hl hcell
    exact ⟨_, X, Y, h, rfl⟩
/-- A slice of storeys: each an int and a slice of points. -/
theorem open_storeys {S : Nat → Prop} (hS : ∀ b, S b) {t e t1 e1 : TypeId} {f0 f1 : Field} {fs1 : Array Field} {fuel : Nat} {v : Value} {x : DataW H × List MemPlace} (ht : P.underlying t = some (.slice e)) (he : P.underlying e = some (.struct #[f0, f1]))
    (hone : oneCellFields P #[f0, f1] = true) (hC : P.cellsOf e = 2) (h0 : P.underlying f0.type = some (.int .i64)) (h1 : f1.type = t1) (ht1 : P.underlying t1 = some (.slice e1)) (he1 : P.underlying e1 = some (.struct fs1))
    (hone1 : oneCellFields P fs1 = true) (hC1 : P.cellsOf e1 = fs1.size) (hn1 : fs1.size = 2) (hint1 : ∀ (j : Nat) (f : Field), fs1[j]? = some f → P.underlying f.type = some (.int .i64)) (h : DataW.trod enc P w base spare held fuel t [v] = some x) :
    ∃ (n : Nat) (fl : Nat → Int) (N : Nat → Nat) (X Y : Nat → Nat → Int), RelC (rdArg w S) (.lst n [fun i => dI (fl i), fun i => pts (N i) (X i) (Y i)]) v := by
  classical
  rcases open_elems ht he hone hC h with h0' | ⟨a, len, cap, hcs, hl, hel⟩
  · cases h0'
    exact ⟨0, fun _ => 0, fun _ => 0, fun _ _ => 0, fun _ _ => 0, rel_none _⟩
  · cases hcs
    have hall : ∀ i, ∃ (q : Int × Nat × (Nat → Int) × (Nat → Int)), i < len → w.cell? (a.add (i * 2 + 0)) = some (.int .i64 q.1) ∧ ∃ u, w.cell? (a.add (i * 2 + 1)) = some u ∧ oneV u = true ∧ RelC (rdArg w S) (pts q.2.1 q.2.2.1 q.2.2.2) u := fun i => by
      by_cases hi : i < len
      · obtain ⟨n, hn⟩ := hel i hi
        obtain ⟨u0, y0, c0, t0⟩ := hn 0 f0 rfl
        obtain ⟨u1, y1, c1, t1'⟩ := hn 1 f1 rfl
        obtain ⟨z, rfl⟩ := open_int h0 t0
        rw [h1] at t1'
        obtain ⟨m, X, Y, r, o⟩ := open_pts hS ht1 he1 hone1 hC1 hn1 hint1 t1'
        exact ⟨(z, m, X, Y), fun _ => ⟨c0, u1, c1, o, r⟩⟩
      · exact ⟨(0, 0, fun _ => 0, fun _ => 0), fun h => absurd h hi⟩
    refine ⟨len, fun i => (hall i).choose.1, fun i => (hall i).choose.2.1, fun i => (hall i).choose.2.2.1, fun i => (hall i).choose.2.2.2, rel_lst hS hl fun i j f hi hj => ?_⟩
    obtain ⟨k0, u, k1, k2, k3⟩ := (hall i).choose_spec hi
    match j, hj with
    | 0, hj => cases hj; exact ⟨_, k0, rfl, .val _⟩
    | 1, hj => cases hj; exact ⟨u, k1, k2, k3⟩
end
end Go.Abs
end
