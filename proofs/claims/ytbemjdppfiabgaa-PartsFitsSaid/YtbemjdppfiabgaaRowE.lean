/- Lemmas for the rows: slices of structs of a string, ints and a pair of ints; slices of pairs of ints. No program in sight. -/
import Derived.Test.YtbemjdppfiabgaaRowD
namespace Go.Abs
open Go.RowKit Go.WideShapes Go.ChangeShapes Go.Deep Go.Joins Go.WideElems

section
variable {H : Type} {enc : TypeId × Value → H} {P : Program} {w : World} {base : Nat} {spare : Nat → Bool} {held : Bool}
theorem rel_lst {S : Nat → Prop} (hS : ∀ b, S b) {a : Addr} {len cap : Nat} {cols : List (Nat → DV)} (hl : len ≤ cap)
    (h : ∀ (i j : Nat) (f : Nat → DV), i < len → cols[j]? = some f → ∃ u, w.cell? (a.add (i * cols.length + j)) = some u ∧ oneV u = true ∧ RelC (rdArg w S) (f i) u) : RelC (rdArg w S) (.lst len cols) (.slice (some a) len cap) := by
  refine .lst (fun i j => (w.cell? (a.add (i * cols.length + j))).getD undef) hl (fun i j f hi hj => ⟨a, rfl, ?_, hS _⟩) (fun _ => by simp) (fun i j f hi hj => ?_) fun i j f hi hj => ?_
  all_goals obtain ⟨u, e, o, r⟩ := h i j f hi hj
  · rw [e]; exact .inl ⟨e, o⟩
  · rw [e]; exact o
  · rw [e]; exact r
/-- The field j begins at a cell, of a type. -/
def fieldAt (fs : Array Field) (j off : Nat) (t : TypeId) : Prop := ∃ f, fs[j]? = some f ∧ f.offset = off ∧ f.type = t
theorem field_cells {e t : TypeId} {fs : Array Field} {fuel : Nat} {cs : List Value} {x : DataW H × List MemPlace} (he : P.underlying e = some (.struct fs)) (h : DataW.trod enc P w base spare held fuel e cs = some x) {j off : Nat} (hf : fieldAt fs j off t) :
    ∃ n y, DataW.trod enc P w base spare held n t ((cs.drop off).take (P.cellsOf t)) = some y := by
  obtain ⟨f, hj, ho, rfl⟩ := hf
  obtain ⟨xs, n, _, _, _, hlen, hg⟩ := DataW.trod_struct he h
  have h1 := hg j f hj
  rw [ho] at h1
  have hlt : j < xs.length := by rw [hlen]; exact (Array.getElem?_eq_some_iff.1 hj).1
  rw [List.getElem?_eq_getElem hlt] at h1
  exact ⟨n, _, h1⟩
theorem one_cell {cs : List Value} {k : Nat} (h : k < cs.length) : (cs.drop k).take 1 = [cs[k]] := by
  rw [List.drop_eq_getElem_cons h]
  rfl
theorem pair_ints {a ti : TypeId} {fuel : Nat} {cs : List Value} {x : DataW H × List MemPlace} (ua : P.underlying a = some (.array 2 ti)) (ui : P.underlying ti = some (.int .i64)) (ci : P.cellsOf ti = 1) (ca : P.cellsOf a = 2) (h : DataW.trod enc P w base spare held fuel a cs = some x) :
    ∃ z0 z1, cs = [.int .i64 z0, .int .i64 z1] := by
  obtain ⟨xs, m, _, _, hlen, hxl, hg⟩ := DataW.trod_array ua h
  rw [ca] at hlen
  match cs, hlen with
  | [c0, c1], _ =>
    have h0 := hg 0 (by decide)
    have h1 := hg 1 (by decide)
    rw [ci, List.getElem?_eq_getElem (by omega)] at h0 h1
    obtain ⟨z0, e0, _, _⟩ := DataW.trod_int ui h0
    obtain ⟨z1, e1, _, _⟩ := DataW.trod_int ui h1
    exact ⟨z0, z1, by rw [(List.cons.inj e0).1, (List.cons.inj (show [c1] = [.int .i64 z1] from e1)).1]⟩
/-- A slice of pairs of ints. -/
theorem open_pairs {S : Nat → Prop} (hS : ∀ b, S b) {t a ti : TypeId} {fuel : Nat} {v : Value} {x : DataW H × List MemPlace} (ht : P.underlying t = some (.slice a)) (ua : P.underlying a = some (.array 2 ti)) (ui : P.underlying ti = some (.int .i64)) (ci : P.cellsOf ti = 1) (ca : P.cellsOf a = 2)
    (h : DataW.trod enc P w base spare held fuel t [v] = some x) : ∃ (n : Nat) (C : Nat → Nat → Int), RelC (rdArg w S) (.lst n [fun i => DV.val (.int .i64 (C 0 i)), fun i => DV.val (.int .i64 (C 1 i))]) v := by
  rcases open_slice ht h with ⟨h0, _⟩ | ⟨ad, len, cap, m, n, D, Pl, hcs, _, hl, _, hm, _, hi⟩
  · cases h0
    exact ⟨0, fun _ _ => 0, rel_none _⟩
  · cases hcs
    obtain ⟨C, hC⟩ := rel_cols hS (w := w) (a := ad) (k := 2) hl fun i j hil hj => by
      have him : i < m := by rw [hm]; split <;> omega
      obtain ⟨cs', hc, ht'⟩ := hi i him
      rw [ca] at hc
      obtain ⟨z0, z1, rfl⟩ := pair_ints ua ui ci ca ht'
      obtain ⟨_, _, hat⟩ := World.cells?_some hc
      have := hat j hj
      rw [← Go.Deep.add_add, this]
      match j, hj with
      | 0, _ => exact ⟨z0, rfl⟩
      | 1, _ => exact ⟨z1, rfl⟩
    exact ⟨_, C, hC⟩
/-- A slice of structs of a string, four ints and a pair of ints. -/
theorem open_parts {S : Nat → Prop} (hS : ∀ b, S b) {t e tS a ti : TypeId} {fs : Array Field} {fuel : Nat} {v : Value} {x : DataW H × List MemPlace} (ht : P.underlying t = some (.slice e)) (he : P.underlying e = some (.struct fs)) (hC : P.cellsOf e = 7)
    (f0 : fieldAt fs 0 0 tS) (f1 : fieldAt fs 1 1 ti) (f2 : fieldAt fs 2 2 ti) (f3 : fieldAt fs 3 3 ti) (f4 : fieldAt fs 4 4 ti) (f5 : fieldAt fs 5 5 a) (us : P.underlying tS = some .string) (cs : P.cellsOf tS = 1) (ua : P.underlying a = some (.array 2 ti)) (ui : P.underlying ti = some (.int .i64)) (ci : P.cellsOf ti = 1) (ca : P.cellsOf a = 2)
    (h : DataW.trod enc P w base spare held fuel t [v] = some x) :
    ∃ (n : Nat) (N : Nat → ByteArray) (C : Nat → Nat → Int), RelC (rdArg w S) (.lst n [fun i => DV.val (.string (N i)), fun i => DV.val (.int .i64 (C i 0)), fun i => DV.val (.int .i64 (C i 1)), fun i => DV.val (.int .i64 (C i 2)), fun i => DV.val (.int .i64 (C i 3)), fun i => DV.val (.int .i64 (C i 4)), fun i => DV.val (.int .i64 (C i 5))]) v := by
  classical
  rcases open_slice ht h with ⟨h0, _⟩ | ⟨ad, len, cap, m, n, D, Pl, hcs, _, hl, _, hm, _, hi⟩
  · cases h0
    exact ⟨0, fun _ => ⟨#[]⟩, fun _ _ => 0, rel_none _⟩
  · cases hcs
    have key : ∀ i, ∃ (s : ByteArray) (z : Nat → Int), i < len → w.cell? (ad.add (i * 7 + 0)) = some (.string s) ∧ ∀ j, j < 6 → w.cell? (ad.add (i * 7 + (j + 1))) = some (.int .i64 (z j)) := fun i => by
      by_cases hil : i < len
      · have him : i < m := by rw [hm]; split <;> omega
        obtain ⟨cs', hc, ht'⟩ := hi i him
        rw [hC] at hc
        obtain ⟨_, hcl, hat⟩ := World.cells?_some hc
        have int1 : ∀ k, k < 7 → fieldAt fs k k ti → ∃ z, cs'[k]? = some (.int .i64 z) := fun k hk hf => by
          obtain ⟨n', y, h1⟩ := field_cells he ht' hf
          rw [ci, one_cell (by omega)] at h1
          obtain ⟨z, hz, _, _⟩ := DataW.trod_int ui h1
          exact ⟨z, by rw [List.getElem?_eq_getElem (by omega)]; exact congrArg some (List.cons.inj hz).1⟩
        obtain ⟨z1, e1⟩ := int1 1 (by decide) f1
        obtain ⟨z2, e2⟩ := int1 2 (by decide) f2
        obtain ⟨z3, e3⟩ := int1 3 (by decide) f3
        obtain ⟨z4, e4⟩ := int1 4 (by decide) f4
        obtain ⟨n0, y0, h0⟩ := field_cells he ht' f0
        rw [cs, one_cell (by omega)] at h0
        obtain ⟨s, hs, _, _⟩ := DataW.trod_string us h0
        have e0 : cs'[0]? = some (.string s) := by rw [List.getElem?_eq_getElem (by omega)]; exact congrArg some (List.cons.inj hs).1
        obtain ⟨n5, y5, h5⟩ := field_cells he ht' f5
        obtain ⟨z5, z6, h56⟩ := pair_ints ua ui ci ca h5
        rw [ca] at h56
        have e5 : cs'[5]? = some (.int .i64 z5) := by
          have : ((cs'.drop 5).take 2)[0]? = some (.int .i64 z5) := by rw [h56]; rfl
          simpa using this
        have e6 : cs'[6]? = some (.int .i64 z6) := by
          have : ((cs'.drop 5).take 2)[1]? = some (.int .i64 z6) := by rw [h56]; rfl
          simpa using this
        refine ⟨s, fun j => if j = 0 then z1 else if j = 1 then z2 else if j = 2 then z3 else if j = 3 then z4 else if j = 4 then z5 else z6, fun _ => ⟨?_, fun j hj => ?_⟩⟩
        · rw [← Go.Deep.add_add, hat 0 (by decide), e0]
        · rw [← Go.Deep.add_add, hat (j + 1) (by omega)]
          match j, hj with
          | 0, _ => exact e1
          | 1, _ => exact e2
          | 2, _ => exact e3
          | 3, _ => exact e4
          | 4, _ => exact e5
          | 5, _ => exact e6
      · exact ⟨⟨#[]⟩, fun _ => 0, fun h => absurd h hil⟩
    refine ⟨len, fun i => (key i).choose, fun i => (key i).choose_spec.choose, rel_lst hS hl fun i j f hil hj => ?_⟩
    obtain ⟨k0, k1⟩ := (key i).choose_spec.choose_spec hil
    match j, hj with
    | 0, hj => cases hj; exact ⟨_, k0, rfl, .val _⟩
    | 1, hj => cases hj; exact ⟨_, k1 0 (by decide), rfl, .val _⟩
    | 2, hj => cases hj; exact ⟨_, k1 1 (by decide), rfl, .val _⟩
    | 3, hj => cases hj; exact ⟨_, k1 2 (by decide), rfl, .val _⟩
    | 4, hj => cases hj; exact ⟨_, k1 3 (by decide), rfl, .val _⟩
    | 5, hj => cases hj; exact ⟨_, k1 4 (by decide), rfl, .val _⟩
    | 6, hj => cases hj; exact ⟨_, k1 5 (by decide), rfl, .val _⟩
end
end Go.Abs
