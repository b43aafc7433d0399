/- Lemmas for the rows: a layout as an argument. -/
import Derived.Test.YtagpmenaaekdeaaGreatDoorRowJ
import Derived.Test.YtagpmenaaekdeaaGreatDoorK51
namespace Go.Abs
open Go Go.RowKit Go.WideShapes Go.ChangeShapes Go.Deep Go.Joins Go.WideElems
open Go.Proofs
section
variable {H : Type} {enc : TypeId × Value → H} {w : World} {base : Nat} {spare : Nat → Bool} {held : Bool}
set_option maxRecDepth 100000 in
theorem run_parts {fuel : Nat} {cs : List Value} {x : DataW H × List MemPlace} (h : DataW.trod enc Tryz.prog w base spare held fuel 116 cs = some x) :
    ∃ (F SX SY Ln : Int) (nP : Nat) (P : Nat → Int) (nQ : Nat) (Q : Nat → Int), ∀ (j : Nat) (d : DV), [dI F, dI SX, dI SY, dI Ln, Lay.nums nP P, Lay.nums nQ Q][j]? = some d → ∃ u, cs[j]? = some u ∧ oneV u = true ∧ RelC (rdArg w fun _ => True) d u := by
  obtain ⟨xs, n, _, _, hl, hlen, hg⟩ := DataW.trod_struct Tryz.underlying116 h
  rw [show Tryz.prog.cellsOf 116 = 6 by kernel_rfl] at hl
  have h0 := hg 0 _ rfl
  have h1 := hg 1 _ rfl
  have h2 := hg 2 _ rfl
  have h3 := hg 3 _ rfl
  match xs, hlen with
  | [y0, y1, y2, y3], _ =>
    match cs, hl with
    | [u0, u1, u2, u3, u4, u5], _ =>
      have h0' : DataW.trod enc Tryz.prog w base spare held n 3 [u0] = some y0 := h0
      have h1' : DataW.trod enc Tryz.prog w base spare held n 44 [u1, u2] = some y1 := h1
      have h2' : DataW.trod enc Tryz.prog w base spare held n 3 [u3] = some y2 := h2
      have h3' : DataW.trod enc Tryz.prog w base spare held n 89 [u4, u5] = some y3 := h3
      obtain ⟨F, rfl⟩ := open_int Tryz.underlying3 h0'
      obtain ⟨Ln, rfl⟩ := open_int Tryz.underlying3 h2'
      obtain ⟨_, n1, g1⟩ := open_parts (fs := _) Tryz.underlying44 (by kernel_rfl) (by kernel_rfl) h1'
      obtain ⟨_, n3, g3⟩ := open_parts (fs := _) Tryz.underlying89 (by kernel_rfl) (by kernel_rfl) h3'
      obtain ⟨a0, z0, ea0, t0⟩ := g1 0 _ rfl
      obtain ⟨a1, z1, ea1, t1⟩ := g1 1 _ rfl
      obtain ⟨b0, w0, eb0, s0⟩ := g3 0 _ rfl
      obtain ⟨b1, w1, eb1, s1⟩ := g3 1 _ rfl
      obtain ⟨SX, rfl⟩ := open_int Tryz.underlying3 t0
      obtain ⟨SY, rfl⟩ := open_int Tryz.underlying3 t1
      obtain ⟨nP, P, r4⟩ := open_ints (S := fun _ => True) (fun _ => trivial) Tryz.underlying27 Tryz.underlying3 (by kernel_rfl) s0
      obtain ⟨nQ, Q, r5⟩ := open_ints (S := fun _ => True) (fun _ => trivial) Tryz.underlying27 Tryz.underlying3 (by kernel_rfl) s1
      cases ea0; cases ea1; cases eb0; cases eb1
      refine ⟨F, SX, SY, Ln, nP, P, nQ, Q, fun j d hd => ?_⟩
      match j, hd with
      | 0, hd => cases hd; exact ⟨_, rfl, rfl, .val _⟩
      | 1, hd => cases hd; exact ⟨_, rfl, rfl, .val _⟩
      | 2, hd => cases hd; exact ⟨_, rfl, rfl, .val _⟩
      | 3, hd => cases hd; exact ⟨_, rfl, rfl, .val _⟩
      | 4, hd => cases hd; exact ⟨_, rfl, r4.one rfl, r4⟩
      | 5, hd => cases hd; exact ⟨_, rfl, r5.one rfl, r5⟩
set_option maxRecDepth 100000 in
theorem open_runs {fuel : Nat} {v : Value} {x : DataW H × List MemPlace} (h : DataW.trod enc Tryz.prog w base spare held fuel 60 [v] = some x) :
    ∃ (n : Nat) (F SX SY Ln : Nat → Int) (nP : Nat → Nat) (P : Nat → Nat → Int) (nQ : Nat → Nat) (Q : Nat → Nat → Int), RelC (rdArg w fun _ => True)
      (.lst n [fun i => dI (F i), fun i => dI (SX i), fun i => dI (SY i), fun i => dI (Ln i), fun i => Lay.nums (nP i) (P i), fun i => Lay.nums (nQ i) (Q i)]) v := by
  classical
  rcases open_slice Tryz.underlying60 h with ⟨h0, _⟩ | ⟨a, len, cap, m, n, D, Pl, hcs, _, hl, _, hm, _, hi⟩
  · cases h0
    exact ⟨0, fun _ => 0, fun _ => 0, fun _ => 0, fun _ => 0, fun _ => 0, fun _ _ => 0, fun _ => 0, fun _ _ => 0, rel_none _⟩
  · cases hcs
    have hall : ∀ i, ∃ (q : Int × Int × Int × Int × Nat × (Nat → Int) × Nat × (Nat → Int)), i < len → ∀ (j : Nat) (d : DV), [dI q.1, dI q.2.1, dI q.2.2.1, dI q.2.2.2.1, Lay.nums q.2.2.2.2.1 q.2.2.2.2.2.1, Lay.nums q.2.2.2.2.2.2.1 q.2.2.2.2.2.2.2][j]? = some d →
        ∃ u, w.cell? (a.add (i * 6 + j)) = some u ∧ oneV u = true ∧ RelC (rdArg w fun _ => True) d u := fun i => by
      by_cases hil : i < len
      · have him : i < m := by rw [hm]; split <;> omega
        obtain ⟨cs', hc, ht'⟩ := hi i him
        rw [show Tryz.prog.cellsOf 116 = 6 by kernel_rfl] at hc
        obtain ⟨F, SX, SY, Ln, nP, P, nQ, Q, hr⟩ := run_parts ht'
        obtain ⟨_, hcl, hat⟩ := World.cells?_some hc
        refine ⟨(F, SX, SY, Ln, nP, P, nQ, Q), fun _ j d hd => ?_⟩
        obtain ⟨u, hu, ho, r⟩ := hr j d hd
        have hj : j < 6 := by
          have := (List.getElem?_eq_some_iff.1 hd).1
          simpa using this
        exact ⟨u, by rw [← Go.Deep.add_add, hat j hj]; exact hu, ho, r⟩
      · exact ⟨(0, 0, 0, 0, 0, fun _ => 0, 0, fun _ => 0), fun h => absurd h hil⟩
    refine ⟨len, fun i => (hall i).choose.1, fun i => (hall i).choose.2.1, fun i => (hall i).choose.2.2.1, fun i => (hall i).choose.2.2.2.1, fun i => (hall i).choose.2.2.2.2.1, fun i => (hall i).choose.2.2.2.2.2.1, fun i => (hall i).choose.2.2.2.2.2.2.1, fun i => (hall i).choose.2.2.2.2.2.2.2, rel_lst (fun _ => trivial) hl fun i j f hi hj => ?_⟩
    have k := (hall i).choose_spec hi
    match j, hj with
    | 0, hj => cases hj; exact k 0 _ rfl
    | 1, hj => cases hj; exact k 1 _ rfl
    | 2, hj => cases hj; exact k 2 _ rfl
    | 3, hj => cases hj; exact k 3 _ rfl
    | 4, hj => cases hj; exact k 4 _ rfl
    | 5, hj => cases hj; exact k 5 _ rfl
set_option maxRecDepth 100000 in
theorem open_lyt {r : Reach} {b0 : Nat} {v0 : Value} {d : DataW H} {p : List MemPlace} (hv : Value.okWide Tryz.prog w r b0 62 v0) (h0 : DataW.Trod enc Tryz.prog w base spare held 62 v0 d p) :
    ∃ l : Lyt, RelC (rdArg w fun _ => True) (lyt l) v0 := by
  obtain ⟨⟨l⟩, n, rfl, hsz, hf⟩ := open_fields (fs := _) Tryz.underlying62 (by kernel_rfl) (by kernel_rfl) hv h0
  obtain ⟨u0, x0, e0, t0⟩ := hf 0 _ rfl
  obtain ⟨u1, x1, e1, t1⟩ := hf 1 _ rfl
  obtain ⟨nC, C, r0⟩ := open_ints (S := fun _ => True) (fun _ => trivial) Tryz.underlying27 Tryz.underlying3 (by kernel_rfl) t0
  obtain ⟨nR, F, SX, SY, Ln, nP, P, nQ, Q, r1⟩ := open_runs t1
  refine ⟨⟨nC, C, nR, F, SX, SY, Ln, nP, P, nQ, Q⟩, .agg hsz fun j d u hd hu => ?_⟩
  match j, hd with
  | 0, hd => cases hd; rw [e0] at hu; cases hu; exact r0
  | 1, hd => cases hd; rw [e1] at hu; cases hu; exact r1
end
end Go.Abs
