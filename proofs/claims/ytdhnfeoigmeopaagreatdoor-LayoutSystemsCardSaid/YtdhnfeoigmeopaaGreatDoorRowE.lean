/- Lemmas for the rows: arguments opened to abstract values, and a row's last step. No program in sight. Lemmas for the rows: structs with fields of any one-cell types, lists of numbers. No program in sight. Lemmas for the rows: slices of structs of ints, by their columns. No program in sight. Lemmas for the rows: slices of structs of a string, ints and a pair of ints; slices of pairs of ints. No program in sight. -/
import Derived.Test.YtdhnfeoigmeopaaGreatDoorAbsT
import Derived.Deep.Slices
import Derived.Deep.Fields
import Derived.ChangeSame
import Derived.Lib.SmallJoins
import Derived.Carry
import Derived.OpenShut
import Derived.WideKeyArgs
section
section
section
namespace Go.Abs
open Go.RowKit Go.WideShapes Go.ChangeShapes Go.Deep Go.Joins Go.WideElems
section
variable {H : Type} {enc : TypeId × Value → H} {P : Program} {w : World} {base : Nat} {spare : Nat → Bool} {held : Bool}
theorem args_stay {W W' : World} (hl : laidOutB P = true) (hb : Below W.heap.size W W') : ∀ {ts : List TypeId} {vs : List Value} {ds : List (DataW H)} {ps : List MemPlace} {sp : Nat → Bool},
    (ts.all fun t => P.readableRec t && decide (t < P.types.size)) = true → DataW.TrodAll enc P W 0 (fun _ => true) true ts vs ds ps → (∀ x ∈ ps, x.block < W.heap.size) → (∀ x ∈ ps, sp x.block = true) →
      DataW.TrodAll enc P W' 0 sp true ts vs ds ps
  | [], vs, ds, ps, sp, _, h, _, _ => by
    obtain ⟨rfl, rfl, rfl⟩ := trodAll_nil h
    exact trodAll_mk0
  | t :: ts, vs, ds, ps, sp, ha, h, hlt, hs => by
    obtain ⟨v, vs', d, ds', p, q, rfl, rfl, rfl, h0, h1⟩ := trodAll_cons h
    rw [List.all_cons, Bool.and_eq_true, Bool.and_eq_true, decide_eq_true_eq] at ha
    exact trodAll_cons_mk (Trod_stays hl ha.1.1 ha.1.2 h0 (fun x hx => hb.lib.same (hlt x (List.mem_append_left _ hx))) fun x hx => hs x (List.mem_append_left _ hx))
      (args_stay hl hb ha.2 h1 (fun x hx => hlt x (List.mem_append_right _ hx)) fun x hx => hs x (List.mem_append_right _ hx))
theorem post_of_below {f : Func} {s : ChangeSpec} {apart fresh handsOn again : Bool} {W W' : World} {args : Array Value} {v : Value} {ds gs : List (DataW H)} {before pa pv : List MemPlace}
    (hW : DataW.Whole enc P f.params.toList s.vars apart W args.toList ds gs before)
    (hres : ∀ (b : Nat) (sp : Nat → Bool) (hd : Bool), DataW.TrodAll enc P W' b sp hd f.resultTypes.toList (v.resultList f.resultTypes.size) (s.fn H (ds ++ gs)).results [])
    (hargs : ∀ sp : Nat → Bool, (∀ p ∈ before, sp p.block = true) → DataW.TrodAll enc P W' 0 sp true f.params.toList args.toList (s.fn H (ds ++ gs)).args pa)
    (hvars : ∀ sp : Nat → Bool, (∀ p ∈ before, sp p.block = true) → DataW.TrodVars enc P W' sp s.vars (s.fn H (ds ++ gs)).vars pv)
    (hps : before = pa ++ pv) (hb : Below W.heap.size W W')
    (hok : ∀ (j : Nat) (t : TypeId) (r : Value), f.resultTypes[j]? = some t → (v.resultList f.resultTypes.size)[j]? = some r → Value.okWide P W' .any 0 t r) :
    s.post enc P f apart fresh handsOn again W args v W' := by
  have hlt : ∀ p ∈ before, p.block < W.heap.size := fun p hp => hW.lt p hp
  have hold : ∀ p ∈ before, (fun b => decide (b < W.heap.size)) p.block = true := fun p hp => by simpa using hlt p hp
  refine ⟨ds, gs, before, [], pa, pv, hW, hres _ _ _, hargs _ hold, hvars _ hold, World.keptBut_mono (fun p hp => ⟨hp, ?_⟩) (hb.lib.frame (· ∈ before)), fun _ => ?_⟩
  · rw [hps, List.mem_append] at hp
    exact Or.inr hp
  · obtain ⟨_, _, _, _, _, hz, hn⟩ := hW
    refine ⟨hok, _, _, ([] ++ pa) ++ pv, ⟨[] ++ pa, pv, trodAll_append (hargs _ (fun _ _ => rfl)) (hres _ _ _), hvars _ (fun _ _ => rfl), rfl, ?_, ?_⟩, ?_⟩
    · intro b off hp
      have hin : MemPlace.cell b off ∈ before := by rw [hps]; simpa using hp
      rw [hb.lib.frozen (hlt _ hin)]
      exact hz b off hin
    · intro ha
      have := hn ha
      rw [hps] at this
      simpa using this
    · intro p hp _
      rw [hps]
      simpa using hp
end
theorem rel_none {w : World} {S : Nat → Prop} (cols : List (Nat → DV)) : RelC (rdArg w S) (.lst 0 cols) (.slice none 0 0) :=
  .lst (fun _ _ => .bool false) (Nat.le_refl _) (fun _ _ _ h => absurd h (by omega)) (fun h => absurd h (by omega)) (fun _ _ _ h => absurd h (by omega)) (fun _ _ _ h => absurd h (by omega))
end Go.Abs
end
section
namespace Go.Abs
open Go.RowKit Go.WideShapes Go.ChangeShapes Go.Deep Go.Joins Go.WideElems
section
variable {H : Type} {enc : TypeId × Value → H} {P : Program} {w : World} {base : Nat} {spare : Nat → Bool} {held : Bool}
theorem open_fields {r : Reach} {b0 : Nat} {t : TypeId} {fs : Array Field} {v : Value} {d : DataW H} {p : List MemPlace} (hs : P.underlying t = some (.struct fs)) (hone : oneCellFields P fs = true) (hC : P.cellsOf t = fs.size)
    (hv : Value.okWide P w r b0 t v) (h : DataW.Trod enc P w base spare held t v d p) :
    ∃ (vs : Array Value) (n : Nat), v = .agg vs ∧ vs.size = fs.size ∧ ∀ (j : Nat) (f : Field), fs[j]? = some f → ∃ u x, vs[j]? = some u ∧ DataW.trod enc P w base spare held n f.type [u] = some x := by
  obtain ⟨cs, rfl, hsz⟩ := okWide_struct hs hv
  obtain ⟨fuel, hf⟩ := h
  obtain ⟨xs, n, _, _, _, hlen, hg⟩ := DataW.trod_struct hs hf
  refine ⟨cs, n, rfl, hsz.trans hC, fun j f hfj => ?_⟩
  have hj := (Array.getElem?_eq_some_iff.1 hfj).1
  have hjc : j < cs.size := by rw [hsz, hC]; exact hj
  obtain ⟨ho, hk⟩ := hone_of hone j _ hfj
  have h1 := hg j _ hfj
  rw [ho, hk] at h1
  have hone' : (cs.toList.drop j).take 1 = [cs[j]] := by
    rw [List.drop_eq_getElem_cons (by simpa using hjc)]
    simp
  rw [show (Value.agg cs).cells.toList = cs.toList from rfl, hone'] at h1
  have hxs : xs[j]? = some (xs[j]'(by omega)) := List.getElem?_eq_getElem (by omega)
  exact ⟨_, _, Array.getElem?_eq_getElem hjc, h1.trans hxs⟩
theorem rel_ints {w : World} {S : Nat → Prop} (hS : ∀ b, S b) {a : Addr} {len cap : Nat} (hl : len ≤ cap) (h : ∀ i, i < len → ∃ z, w.cell? (a.add i) = some (.int .i64 z)) :
    ∃ A : Nat → Int, RelC (rdArg w S) (.lst len [fun i => .val (.int .i64 (A i))]) (.slice (some a) len cap) := by
  classical
  refine ⟨fun i => if hi : i < len then (h i hi).choose else 0, ?_⟩
  refine .lst (fun i j => .int .i64 (if hi : i < len then (h i hi).choose else 0)) hl (fun i j f hi hj => ⟨a, rfl, ?_, hS _⟩) (fun _ => by simp) (fun _ _ _ _ _ => rfl) fun i j f hi hj => ?_
  · match j, hj with
    | 0, _ => rw [dif_pos hi, List.length_singleton, Nat.mul_one, Nat.add_zero]; exact .inl ⟨(h i hi).choose_spec, rfl⟩
  · match j, hj with
    | 0, hj => cases hj; exact .val _
theorem open_ints {S : Nat → Prop} (hS : ∀ b, S b) {t e : TypeId} {fuel : Nat} {v : Value} {x : DataW H × List MemPlace} (ht : P.underlying t = some (.slice e)) (he : P.underlying e = some (.int .i64)) (hC : P.cellsOf e = 1)
    (h : DataW.trod enc P w base spare held fuel t [v] = some x) : ∃ (n : Nat) (A : Nat → Int), RelC (rdArg w S) (.lst n [fun i => .val (.int .i64 (A i))]) v := by
  rcases open_slice1 ht hC h with ⟨h0, _⟩ | ⟨a, len, cap, m, n, V, D, Pl, hcs, _, hl, _, hm, _, hi⟩
  · cases h0
    exact ⟨0, fun _ => 0, rel_none _⟩
  · cases hcs
    obtain ⟨A, hA⟩ := rel_ints hS (w := w) (a := a) hl fun i hil => by
      have him : i < m := by rw [hm]; split <;> omega
      obtain ⟨hc, ht'⟩ := hi i him
      obtain ⟨z, hz, _, _⟩ := DataW.trod_int he ht'
      exact ⟨z, by rw [hc]; exact congrArg some (List.cons.inj hz).1⟩
    exact ⟨len, A, hA⟩
theorem open_int {e : TypeId} {fuel : Nat} {v : Value} {x : DataW H × List MemPlace} (he : P.underlying e = some (.int .i64)) (h : DataW.trod enc P w base spare held fuel e [v] = some x) : ∃ z, v = .int .i64 z := by
  obtain ⟨z, hz, _, _⟩ := DataW.trod_int he h
  exact ⟨z, (List.cons.inj hz).1⟩
theorem agg_rel {w : World} {S : Nat → Prop} {ds : List DV} {vs : Array Value} (hs : vs.size = ds.length) (h : ∀ (j : Nat) (d : DV) (u : Value), ds[j]? = some d → vs[j]? = some u → RelC (rdArg w S) d u) : RelC (rdArg w S) (.agg ds) (.agg vs) := .agg hs h
end
end Go.Abs
end
end
section
namespace Go.Abs
open Go.RowKit Go.WideShapes Go.ChangeShapes Go.Deep Go.Joins Go.WideElems
section
variable {H : Type} {enc : TypeId × Value → H} {P : Program} {w : World} {base : Nat} {spare : Nat → Bool} {held : Bool}
end
end Go.Abs
end
end
section
namespace Go.Abs
open Go.RowKit Go.WideShapes Go.ChangeShapes Go.Deep Go.Joins Go.WideElems
section
variable {H : Type} {enc : TypeId × Value → H} {P : Program} {w : World} {base : Nat} {spare : Nat → Bool} {held : Bool}
def fieldAt (fs : Array Field) (j off : Nat) (t : TypeId) : Prop := ∃ f, fs[j]? = some f ∧ f.offset = off ∧ f.type = t
end
end Go.Abs
end
