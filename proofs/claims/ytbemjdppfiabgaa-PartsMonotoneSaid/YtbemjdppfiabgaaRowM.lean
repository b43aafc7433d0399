/- Lemmas for the rows: structs with fields of any one-cell types, lists of numbers. No program in sight. -/
import Derived.Test.YtbemjdppfiabgaaRowL
namespace Go.Abs
open Go.RowKit Go.WideShapes Go.ChangeShapes Go.Deep Go.Joins Go.WideElems

section
variable {H : Type} {enc : TypeId × Value → H} {P : Program} {w : World} {base : Nat} {spare : Nat → Bool} {held : Bool}

/-- A struct by value, each field of one cell: its parts, each read by its own type. -/
theorem open_fields {r : Reach} {b0 : Nat} {t : TypeId} {fs : Array Field} {v : Value} {d : DataW H} {p : List MemPlace} (hs : P.underlying t = some (.struct fs)) (hone : oneCellFields P fs = true) (hC : P.cellsOf t = fs.size)
    (hv : Value.okWide P w r b0 t v) (h : DataW.Trod enc P w base spare held t v d p) :
    ∃ (vs : Array Value) (n : Nat), v = .agg vs ∧ vs.size = fs.size ∧ ∀ (j : Nat) (f : Field), fs[j]? = some f → ∃ u x, vs[j]? = some u ∧ DataW.trod enc P w base spare held n f.type [u] = some x := by
  obtain ⟨cs, rfl, hsz⟩ := okWide_struct hs hv
  obtain ⟨fuel, hf⟩ := h
  obtain ⟨xs, n, _, _, _, hlen, hg⟩ := DataW.trod_struct hs hf
  refine ⟨cs, n, rfl, hsz.trans hC, fun j f hfj => ?_⟩
  have hj := (Array.getElem?_eq_some_iff.1 hfj).1
  have hjc : j < cs.size := by rw [hsz, hC]; exact hj
  obtain ⟨ho, hk⟩ := hone_of hone j _ hfj
  have h1 := hg j _ hfj
  rw [ho, hk] at h1
  have hone' : (cs.toList.drop j).take 1 = [cs[j]] := by
    rw [List.drop_eq_getElem_cons (by simpa using hjc)]
    simp
  rw [show (Value.agg cs).cells.toList = cs.toList from rfl, hone'] at h1
  have hxs : xs[j]? = some (xs[j]'(by omega)) := List.getElem?_eq_getElem (by omega)
  exact ⟨_, _, Array.getElem?_eq_getElem hjc, h1.trans hxs⟩

theorem agg_rel {w : World} {S : Nat → Prop} {ds : List DV} {vs : Array Value} (hs : vs.size = ds.length) (h : ∀ (j : Nat) (d : DV) (u : Value), ds[j]? = some d → vs[j]? = some u → RelC (rdArg w S) d u) : RelC (rdArg w S) (.agg ds) (.agg vs) := .agg hs h
end
end Go.Abs
