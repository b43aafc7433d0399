/- Lemmas for the rows: arguments opened to abstract values, and a row's last step. No program in sight. Lemmas for the rows: structs with fields of any one-cell types, lists of numbers. No program in sight. Lemmas for the rows: slices of structs of ints, by their columns. No program in sight. Lemmas for the rows: slices of structs of a string, ints and a pair of ints; slices of pairs of ints. No program in sight. -/
import Derived.Test.YtmcgfoacmalbjaaGreatDoorAbsT
import Derived.Deep.Slices
import Derived.Deep.Fields
import Derived.ChangeSame
import Derived.Lib.SmallJoins
import Derived.Carry
import Derived.OpenShut
import Derived.WideKeyArgs
section
section
section
namespace Go.Abs
open Go.RowKit Go.WideShapes Go.ChangeShapes Go.Deep Go.Joins Go.WideElems
section
variable {H : Type} {enc : TypeId × Value → H} {P : Program} {w : World} {base : Nat} {spare : Nat → Bool} {held : Bool}
theorem open_rows {t e : TypeId} {fs : Array Field} {fuel : Nat} {cs : List Value} {x : DataW H × List MemPlace} (ht : P.underlying t = some (.slice e)) (he : P.underlying e = some (.struct fs))
    (hone : oneCellFields P fs = true) (hC : P.cellsOf e = fs.size) (hint : ∀ (j : Nat) (f : Field), fs[j]? = some f → P.underlying f.type = some (.int .i64)) (h : DataW.trod enc P w base spare held fuel t cs = some x) :
    cs = [.slice none 0 0] ∨ ∃ (a : Addr) (len cap : Nat), cs = [.slice (some a) len cap] ∧ len ≤ cap ∧
      ∀ i j, i < len → j < fs.size → ∃ z, w.cell? (a.add (i * fs.size + j)) = some (.int .i64 z) := by
  rcases open_slice ht h with ⟨h0, _⟩ | ⟨a, len, cap, m, n, D, Pl, hcs, _, hl, _, hm, _, hi⟩
  · exact .inl h0
  · refine .inr ⟨a, len, cap, hcs, hl, fun i j hil hj => ?_⟩
    have him : i < m := by rw [hm]; split <;> omega
    obtain ⟨cs', hc, ht'⟩ := hi i him
    rw [hC] at hc
    obtain ⟨ys, n', _, _, hlen, hyl, hf⟩ := DataW.trod_struct he ht'
    obtain ⟨_, hcl, hat⟩ := World.cells?_some hc
    have hfj : fs[j]? = some fs[j] := Array.getElem?_eq_getElem hj
    obtain ⟨ho, hk⟩ := hone_of hone j _ hfj
    have hcell := hat j hj
    have h1 := hf j _ hfj
    rw [ho, hk] at h1
    have hone' : (cs'.drop j).take 1 = [cs'[j]'(by omega)] := by
      rw [List.drop_eq_getElem_cons (by omega)]
      rfl
    rw [hone'] at h1
    have hys : ys[j]? = some (ys[j]'(by omega)) := List.getElem?_eq_getElem (by omega)
    obtain ⟨z, hz, _, _⟩ := DataW.trod_int (hint j _ hfj) (h1.trans hys)
    refine ⟨z, ?_⟩
    rw [← Go.Deep.add_add, hcell, List.getElem?_eq_getElem (by omega)]
    exact congrArg some (List.cons.inj hz).1
theorem args_stay {W W' : World} (hl : laidOutB P = true) (hb : Below W.heap.size W W') : ∀ {ts : List TypeId} {vs : List Value} {ds : List (DataW H)} {ps : List MemPlace} {sp : Nat → Bool},
    (ts.all fun t => P.readableRec t && decide (t < P.types.size)) = true → DataW.TrodAll enc P W 0 (fun _ => true) true ts vs ds ps → (∀ x ∈ ps, x.block < W.heap.size) → (∀ x ∈ ps, sp x.block = true) →
      DataW.TrodAll enc P W' 0 sp true ts vs ds ps
  | [], vs, ds, ps, sp, _, h, _, _ => by
    obtain ⟨rfl, rfl, rfl⟩ := trodAll_nil h
    exact trodAll_mk0
  | t :: ts, vs, ds, ps, sp, ha, h, hlt, hs => by
    obtain ⟨v, vs', d, ds', p, q, rfl, rfl, rfl, h0, h1⟩ := trodAll_cons h
    rw [List.all_cons, Bool.and_eq_true, Bool.and_eq_true, decide_eq_true_eq] at ha
    exact trodAll_cons_mk (Trod_stays hl ha.1.1 ha.1.2 h0 (fun x hx => hb.lib.same (hlt x (List.mem_append_left _ hx))) fun x hx => hs x (List.mem_append_left _ hx))
      (args_stay hl hb ha.2 h1 (fun x hx => hlt x (List.mem_append_right _ hx)) fun x hx => hs x (List.mem_append_right _ hx))
theorem post_of_below {f : Func} {s : ChangeSpec} {apart fresh handsOn again : Bool} {W W' : World} {args : Array Value} {v : Value} {ds gs : List (DataW H)} {before pa pv : List MemPlace}
    (hW : DataW.Whole enc P f.params.toList s.vars apart W args.toList ds gs before)
    (hres : ∀ (b : Nat) (sp : Nat → Bool) (hd : Bool), DataW.TrodAll enc P W' b sp hd f.resultTypes.toList (v.resultList f.resultTypes.size) (s.fn H (ds ++ gs)).results [])
    (hargs : ∀ sp : Nat → Bool, (∀ p ∈ before, sp p.block = true) → DataW.TrodAll enc P W' 0 sp true f.params.toList args.toList (s.fn H (ds ++ gs)).args pa)
    (hvars : ∀ sp : Nat → Bool, (∀ p ∈ before, sp p.block = true) → DataW.TrodVars enc P W' sp s.vars (s.fn H (ds ++ gs)).vars pv)
    (hps : before = pa ++ pv) (hb : Below W.heap.size W W')
    (hok : ∀ (j : Nat) (t : TypeId) (r : Value), f.resultTypes[j]? = some t → (v.resultList f.resultTypes.size)[j]? = some r → Value.okWide P W' .any 0 t r) :
    s.post enc P f apart fresh handsOn again W args v W' := by
  have hlt : ∀ p ∈ before, p.block < W.heap.size := fun p hp => hW.lt p hp
  have hold : ∀ p ∈ before, (fun b => decide (b < W.heap.size)) p.block = true := fun p hp => by simpa using hlt p hp
  refine ⟨ds, gs, before, [], pa, pv, hW, hres _ _ _, hargs _ hold, hvars _ hold, World.keptBut_mono (fun p hp => ⟨hp, ?_⟩) (hb.lib.frame (· ∈ before)), fun _ => ?_⟩
  · rw [hps, List.mem_append] at hp
    exact Or.inr hp
  · obtain ⟨_, _, _, _, _, hz, hn⟩ := hW
    refine ⟨hok, _, _, ([] ++ pa) ++ pv, ⟨[] ++ pa, pv, trodAll_append (hargs _ (fun _ _ => rfl)) (hres _ _ _), hvars _ (fun _ _ => rfl), rfl, ?_, ?_⟩, ?_⟩
    · intro b off hp
      have hin : MemPlace.cell b off ∈ before := by rw [hps]; simpa using hp
      rw [hb.lib.frozen (hlt _ hin)]
      exact hz b off hin
    · intro ha
      have := hn ha
      rw [hps] at this
      simpa using this
    · intro p hp _
      rw [hps]
      simpa using hp
end
theorem rel_none {w : World} {S : Nat → Prop} (cols : List (Nat → DV)) : RelC (rdArg w S) (.lst 0 cols) (.slice none 0 0) :=
  .lst (fun _ _ => .bool false) (Nat.le_refl _) (fun _ _ _ h => absurd h (by omega)) (fun h => absurd h (by omega)) (fun _ _ _ h => absurd h (by omega)) (fun _ _ _ h => absurd h (by omega))
end Go.Abs
end
section
namespace Go.Abs
open Go.RowKit Go.WideShapes Go.ChangeShapes Go.Deep Go.Joins Go.WideElems
section
variable {H : Type} {enc : TypeId × Value → H} {P : Program} {w : World} {base : Nat} {spare : Nat → Bool} {held : Bool}
theorem open_fields {r : Reach} {b0 : Nat} {t : TypeId} {fs : Array Field} {v : Value} {d : DataW H} {p : List MemPlace} (hs : P.underlying t = some (.struct fs)) (hone : oneCellFields P fs = true) (hC : P.cellsOf t = fs.size)
    (hv : Value.okWide P w r b0 t v) (h : DataW.Trod enc P w base spare held t v d p) :
    ∃ (vs : Array Value) (n : Nat), v = .agg vs ∧ vs.size = fs.size ∧ ∀ (j : Nat) (f : Field), fs[j]? = some f → ∃ u x, vs[j]? = some u ∧ DataW.trod enc P w base spare held n f.type [u] = some x := by
  obtain ⟨cs, rfl, hsz⟩ := okWide_struct hs hv
  obtain ⟨fuel, hf⟩ := h
  obtain ⟨xs, n, _, _, _, hlen, hg⟩ := DataW.trod_struct hs hf
  refine ⟨cs, n, rfl, hsz.trans hC, fun j f hfj => ?_⟩
  have hj := (Array.getElem?_eq_some_iff.1 hfj).1
  have hjc : j < cs.size := by rw [hsz, hC]; exact hj
  obtain ⟨ho, hk⟩ := hone_of hone j _ hfj
  have h1 := hg j _ hfj
  rw [ho, hk] at h1
  have hone' : (cs.toList.drop j).take 1 = [cs[j]] := by
    rw [List.drop_eq_getElem_cons (by simpa using hjc)]
    simp
  rw [show (Value.agg cs).cells.toList = cs.toList from rfl, hone'] at h1
  have hxs : xs[j]? = some (xs[j]'(by omega)) := List.getElem?_eq_getElem (by omega)
  exact ⟨_, _, Array.getElem?_eq_getElem hjc, h1.trans hxs⟩
theorem agg_rel {w : World} {S : Nat → Prop} {ds : List DV} {vs : Array Value} (hs : vs.size = ds.length) (h : ∀ (j : Nat) (d : DV) (u : Value), ds[j]? = some d → vs[j]? = some u → RelC (rdArg w S) d u) : RelC (rdArg w S) (.agg ds) (.agg vs) := .agg hs h
end
end Go.Abs
end
end
section
namespace Go.Abs
open Go.RowKit Go.WideShapes Go.ChangeShapes Go.Deep Go.Joins Go.WideElems
section
variable {H : Type} {enc : TypeId × Value → H} {P : Program} {w : World} {base : Nat} {spare : Nat → Bool} {held : Bool}
theorem rel_cols {w : World} {S : Nat → Prop} (hS : ∀ b, S b) {a : Addr} {len cap k : Nat} (hl : len ≤ cap) (h : ∀ i j, i < len → j < k → ∃ z, w.cell? (a.add (i * k + j)) = some (.int .i64 z)) :
    ∃ C : Nat → Nat → Int, RelC (rdArg w S) (.lst len ((List.range k).map fun j i => DV.val (.int .i64 (C j i)))) (.slice (some a) len cap) := by
  classical
  refine ⟨fun j i => if hi : i < len ∧ j < k then (h i j hi.1 hi.2).choose else 0, ?_⟩
  have hlen : ((List.range k).map fun j i => DV.val (.int .i64 (if hi : i < len ∧ j < k then (h i j hi.1 hi.2).choose else 0))).length = k := by simp
  have at_ : ∀ (j : Nat) (f : Nat → DV), ((List.range k).map fun j i => DV.val (.int .i64 (if hi : i < len ∧ j < k then (h i j hi.1 hi.2).choose else 0)))[j]? = some f → j < k ∧ f = fun i => DV.val (.int .i64 (if hi : i < len ∧ j < k then (h i j hi.1 hi.2).choose else 0)) := fun j f hf => by
    have hj : j < k := by
      have := (List.getElem?_eq_some_iff.1 hf).1
      rw [hlen] at this; exact this
    rw [List.getElem?_map, List.getElem?_range hj] at hf
    exact ⟨hj, (Option.some.inj hf).symm⟩
  refine .lst (fun i j => .int .i64 (if hi : i < len ∧ j < k then (h i j hi.1 hi.2).choose else 0)) hl (fun i j f hi hj => ⟨a, rfl, ?_, hS _⟩) (fun _ => by simp) (fun _ _ _ _ _ => rfl) fun i j f hi hj => ?_
  · obtain ⟨hjk, _⟩ := at_ j f hj
    rw [dif_pos ⟨hi, hjk⟩, hlen]
    exact .inl ⟨(h i j hi hjk).choose_spec, rfl⟩
  · obtain ⟨_, rfl⟩ := at_ j f hj
    exact .val _
theorem open_cols {S : Nat → Prop} (hS : ∀ b, S b) {t e : TypeId} {fs : Array Field} {fuel : Nat} {v : Value} {x : DataW H × List MemPlace} (ht : P.underlying t = some (.slice e)) (he : P.underlying e = some (.struct fs))
    (hone : oneCellFields P fs = true) (hC : P.cellsOf e = fs.size) (hint : ∀ (j : Nat) (f : Field), fs[j]? = some f → P.underlying f.type = some (.int .i64)) (h : DataW.trod enc P w base spare held fuel t [v] = some x) :
    ∃ (n : Nat) (C : Nat → Nat → Int), RelC (rdArg w S) (.lst n ((List.range fs.size).map fun j i => DV.val (.int .i64 (C j i)))) v := by
  rcases open_rows ht he hone hC hint h with hc | ⟨a, len, cap, hc, hl, hcell⟩
  · cases hc
    exact ⟨0, fun _ _ => 0, rel_none _⟩
  · cases hc
    obtain ⟨C, hC'⟩ := rel_cols hS (w := w) hl hcell
    exact ⟨_, C, hC'⟩
end
end Go.Abs
end
end
section
namespace Go.Abs
open Go.RowKit Go.WideShapes Go.ChangeShapes Go.Deep Go.Joins Go.WideElems
section
variable {H : Type} {enc : TypeId × Value → H} {P : Program} {w : World} {base : Nat} {spare : Nat → Bool} {held : Bool}
def fieldAt (fs : Array Field) (j off : Nat) (t : TypeId) : Prop := ∃ f, fs[j]? = some f ∧ f.offset = off ∧ f.type = t
end
end Go.Abs
end
