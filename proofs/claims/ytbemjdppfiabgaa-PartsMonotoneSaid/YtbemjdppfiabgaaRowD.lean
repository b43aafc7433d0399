/- Lemmas for the rows: slices of structs of ints, by their columns. No program in sight. -/
import Derived.Test.YtbemjdppfiabgaaRowM
namespace Go.Abs
open Go.RowKit Go.WideShapes Go.ChangeShapes Go.Deep Go.Joins Go.WideElems

section
variable {H : Type} {enc : TypeId × Value → H} {P : Program} {w : World} {base : Nat} {spare : Nat → Bool} {held : Bool}
theorem rel_cols {w : World} {S : Nat → Prop} (hS : ∀ b, S b) {a : Addr} {len cap k : Nat} (hl : len ≤ cap) (h : ∀ i j, i < len → j < k → ∃ z, w.cell? (a.add (i * k + j)) = some (.int .i64 z)) :
    ∃ C : Nat → Nat → Int, RelC (rdArg w S) (.lst len ((List.range k).map fun j i => DV.val (.int .i64 (C j i)))) (.slice (some a) len cap) := by
  classical
  refine ⟨fun j i => if hi : i < len ∧ j < k then (h i j hi.1 hi.2).choose else 0, ?_⟩
  have hlen : ((List.range k).map fun j i => DV.val (.int .i64 (if hi : i < len ∧ j < k then (h i j hi.1 hi.2).choose else 0))).length = k := by simp
  have at_ : ∀ (j : Nat) (f : Nat → DV), ((List.range k).map fun j i => DV.val (.int .i64 (if hi : i < len ∧ j < k then (h i j hi.1 hi.2).choose else 0)))[j]? = some f → j < k ∧ f = fun i => DV.val (.int .i64 (if hi : i < len ∧ j < k then (h i j hi.1 hi.2).choose else 0)) := fun j f hf => by
    have hj : j < k := by
      have := (List.getElem?_eq_some_iff.1 hf).1
      rw [hlen] at this; exact this
    rw [List.getElem?_map, List.getElem?_range hj] at hf
    exact ⟨hj, (Option.some.inj hf).symm⟩
  refine .lst (fun i j => .int .i64 (if hi : i < len ∧ j < k then (h i j hi.1 hi.2).choose else 0)) hl (fun i j f hi hj => ⟨a, rfl, ?_, hS _⟩) (fun _ => by simp) (fun _ _ _ _ _ => rfl) fun i j f hi hj => ?_
  · obtain ⟨hjk, _⟩ := at_ j f hj
    rw [dif_pos ⟨hi, hjk⟩, hlen]
    exact .inl ⟨(h i j hi hjk).choose_spec, rfl⟩
  · obtain ⟨_, rfl⟩ := at_ j f hj
    exact .val _
theorem open_cols {S : Nat → Prop} (hS : ∀ b, S b) {t e : TypeId} {fs : Array Field} {fuel : Nat} {v : Value} {x : DataW H × List MemPlace} (ht : P.underlying t = some (.slice e)) (he : P.underlying e = some (.struct fs))
    (hone : oneCellFields P fs = true) (hC : P.cellsOf e = fs.size) (hint : ∀ (j : Nat) (f : Field), fs[j]? = some f → P.underlying f.type = some (.int .i64)) (h : DataW.trod enc P w base spare held fuel t [v] = some x) :
    ∃ (n : Nat) (C : Nat → Nat → Int), RelC (rdArg w S) (.lst n ((List.range fs.size).map fun j i => DV.val (.int .i64 (C j i)))) v := by
  rcases open_rows ht he hone hC hint h with hc | ⟨a, len, cap, hc, hl, hcell⟩
  · cases hc
    exact ⟨0, fun _ _ => 0, rel_none _⟩
  · cases hc
    obtain ⟨C, hC'⟩ := rel_cols hS (w := w) hl hcell
    exact ⟨_, C, hC'⟩
end
end Go.Abs
