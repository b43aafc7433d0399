/- Lemmas for the rows: structs with fields of any one-cell types, lists of numbers. No program in sight. -/
import Derived.Test.YtbemjdppfiabgaaRowL
namespace Go.Abs
open Go.RowKit Go.WideShapes Go.ChangeShapes Go.Deep Go.Joins Go.WideElems

section
variable {H : Type} {enc : TypeId × Value → H} {P : Program} {w : World} {base : Nat} {spare : Nat → Bool} {held : Bool}

/-- A struct by value, each field of one cell: its parts, each read by its own type. -/
theorem open_fields {r : Reach} {b0 : Nat} {t : TypeId} {fs : Array Field} {v : Value} {d : DataW H} {p : List MemPlace} (hs : P.underlying t = some (.struct fs)) (hone : oneCellFields P fs = true) (hC : P.cellsOf t = fs.size)
    (hv : Value.okWide P w r b0 t v) (h : DataW.Trod enc P w base spare held t v d p) :
    ∃ (vs : Array Value) (n : Nat), v = .agg vs ∧ vs.size = fs.size ∧ ∀ (j : Nat) (f : Field), fs[j]? = some f → ∃ u x, vs[j]? = some u ∧ DataW.trod enc P w base spare held n f.type [u] = some x := by
  obtain ⟨cs, rfl, hsz⟩ := okWide_struct hs hv
  obtain ⟨fuel, hf⟩ := h
  obtain ⟨xs, n, _, _, _, hlen, hg⟩ := DataW.trod_struct hs hf
  refine ⟨cs, n, rfl, hsz.trans hC, fun j f hfj => ?_⟩
  have hj := (Array.getElem?_eq_some_iff.1 hfj).1
  have hjc : j < cs.size := by rw [hsz, hC]; exact hj
  obtain ⟨ho, hk⟩ := hone_of hone j _ hfj
  have h1 := hg j _ hfj
  rw [ho, hk] at h1
  have hone' : (cs.toList.drop j).take 1 = [cs[j]] := by
    rw [List.drop_eq_getElem_cons (by simpa using hjc)]
    simp
  rw [show (Value.agg cs).cells.toList = cs.toList from rfl, hone'] at h1
  have hxs : xs[j]? = some (xs[j]'(by omega)) := List.getElem?_eq_getElem (by omega)
  exact ⟨_, _, Array.getElem?_eq_getElem hjc, h1.trans hxs⟩

/-- A list of ints, as a list of numbers. -/
theorem rel_ints {w : World} {S : Nat → Prop} (hS : ∀ b, S b) {a : Addr} {len cap : Nat} (hl : len ≤ cap) (h : ∀ i, i < len → ∃ z, w.cell? (a.add i) = some (.int .i64 z)) :
    ∃ A : Nat → Int, RelC (rdArg w S) (.lst len [fun i => .val (.int .i64 (A i))]) (.slice (some a) len cap) := by
  classical
  refine ⟨fun i => if hi : i < len then (h i hi).choose else 0, ?_⟩
  refine .lst (fun i j => .int .i64 (if hi : i < len then (h i hi).choose else 0)) hl (fun i j f hi hj => ⟨a, rfl, ?_, hS _⟩) (fun _ => by simp) (fun _ _ _ _ _ => rfl) fun i j f hi hj => ?_
  · match j, hj with
    | 0, _ => rw [dif_pos hi, List.length_singleton, Nat.mul_one, Nat.add_zero]; exact .inl ⟨(h i hi).choose_spec, rfl⟩
  · match j, hj with
    | 0, hj => cases hj; exact .val _
theorem open_ints {S : Nat → Prop} (hS : ∀ b, S b) {t e : TypeId} {fuel : Nat} {v : Value} {x : DataW H × List MemPlace} (ht : P.underlying t = some (.slice e)) (he : P.underlying e = some (.int .i64)) (hC : P.cellsOf e = 1)
    (h : DataW.trod enc P w base spare held fuel t [v] = some x) : ∃ (n : Nat) (A : Nat → Int), RelC (rdArg w S) (.lst n [fun i => .val (.int .i64 (A i))]) v := by
  rcases open_slice1 ht hC h with ⟨h0, _⟩ | ⟨a, len, cap, m, n, V, D, Pl, hcs, _, hl, _, hm, _, hi⟩
  · cases h0
    exact ⟨0, fun _ => 0, rel_none _⟩
  · cases hcs
    obtain ⟨A, hA⟩ := rel_ints hS (w := w) (a := a) hl fun i hil => by
      have him : i < m := by rw [hm]; split <;> omega
      obtain ⟨hc, ht'⟩ := hi i him
      obtain ⟨z, hz, _, _⟩ := DataW.trod_int he ht'
      exact ⟨z, by rw [hc]; exact congrArg some (List.cons.inj hz).1⟩
    exact ⟨len, A, hA⟩
theorem open_int {e : TypeId} {fuel : Nat} {v : Value} {x : DataW H × List MemPlace} (he : P.underlying e = some (.int .i64)) (h : DataW.trod enc P w base spare held fuel e [v] = some x) : ∃ z, v = .int .i64 z := by
  obtain ⟨z, hz, _, _⟩ := DataW.trod_int he h
  exact ⟨z, (List.cons.inj hz).1⟩
theorem agg_rel {w : World} {S : Nat → Prop} {ds : List DV} {vs : Array Value} (hs : vs.size = ds.length) (h : ∀ (j : Nat) (d : DV) (u : Value), ds[j]? = some d → vs[j]? = some u → RelC (rdArg w S) d u) : RelC (rdArg w S) (.agg ds) (.agg vs) := .agg hs h
end
end Go.Abs
