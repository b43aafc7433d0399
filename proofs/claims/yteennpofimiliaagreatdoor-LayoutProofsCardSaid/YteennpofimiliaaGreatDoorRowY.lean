/- Lemmas for the rows: a building with a system as an argument. Lemmas for the rows: a layout as an argument. -/
import Derived.Test.YteennpofimiliaaGreatDoorRowB
import Derived.Test.YteennpofimiliaaGreatDoorK43
import Derived.Test.YteennpofimiliaaGreatDoorK51
section
namespace Go.Abs
open Go Go.RowKit Go.WideShapes Go.ChangeShapes Go.Deep Go.Joins Go.WideElems
open Go.Proofs
section
variable {H : Type} {enc : TypeId × Value → H} {w : World} {base : Nat} {spare : Nat → Bool} {held : Bool}
theorem open_parts {P : Program} {t : TypeId} {fs : Array Field} {fuel : Nat} {cs : List Value} {x : DataW H × List MemPlace} (hs : P.underlying t = some (.struct fs)) (hone : oneCellFields P fs = true) (hC : P.cellsOf t = fs.size)
    (h : DataW.trod enc P w base spare held fuel t cs = some x) :
    cs.length = fs.size ∧ ∃ n : Nat, ∀ (j : Nat) (f : Field), fs[j]? = some f → ∃ u y, cs[j]? = some u ∧ DataW.trod enc P w base spare held n f.type [u] = some y := by
  obtain ⟨xs, n, _, _, hl, hlen, hg⟩ := DataW.trod_struct hs h
  refine ⟨hl.trans hC, n, fun j f hfj => ?_⟩
  have hj := (Array.getElem?_eq_some_iff.1 hfj).1
  have hjc : j < cs.length := by rw [hl, hC]; exact hj
  obtain ⟨ho, hk⟩ := hone_of hone j _ hfj
  have h1 := hg j _ hfj
  rw [ho, hk] at h1
  have hone' : (cs.drop j).take 1 = [cs[j]] := by
    rw [List.drop_eq_getElem_cons hjc]
    rfl
  rw [hone'] at h1
  have hxs : xs[j]? = some (xs[j]'(by omega)) := List.getElem?_eq_getElem (by omega)
  exact ⟨_, _, List.getElem?_eq_getElem hjc, h1.trans hxs⟩
theorem rel_ints {S : Nat → Prop} (hS : ∀ b, S b) {a : Addr} {len cap : Nat} (hl : len ≤ cap) (h : ∀ i, i < len → ∃ z, w.cell? (a.add i) = some (.int .i64 z)) :
    ∃ A : Nat → Int, RelC (rdArg w S) (Lay.nums len A) (.slice (some a) len cap) := by
  classical
  refine ⟨fun i => if hi : i < len then (h i hi).choose else 0, ?_⟩
  refine .lst (fun i j => .int .i64 (if hi : i < len then (h i hi).choose else 0)) hl (fun i j f hi hj => ⟨a, rfl, ?_, hS _⟩) (fun _ => by simp) (fun _ _ _ _ _ => rfl) fun i j f hi hj => ?_
  · match j, hj with
    | 0, _ => rw [dif_pos hi, List.length_singleton, Nat.mul_one, Nat.add_zero]; exact (h i hi).choose_spec
  · match j, hj with
    | 0, hj => cases hj; exact .val _
theorem open_ints {P : Program} {S : Nat → Prop} (hS : ∀ b, S b) {t e : TypeId} {fuel : Nat} {v : Value} {x : DataW H × List MemPlace} (ht : P.underlying t = some (.slice e)) (he : P.underlying e = some (.int .i64)) (hC : P.cellsOf e = 1)
    (h : DataW.trod enc P w base spare held fuel t [v] = some x) : ∃ (n : Nat) (A : Nat → Int), RelC (rdArg w S) (Lay.nums n A) v := by
  rcases open_slice1 ht hC h with ⟨h0, _⟩ | ⟨a, len, cap, m, n, V, D, Pl, hcs, _, hl, _, hm, _, hi⟩
  · cases h0
    exact ⟨0, fun _ => 0, rel_none _⟩
  · cases hcs
    obtain ⟨A, hA⟩ := rel_ints hS (w := w) (a := a) hl fun i hil => by
      have him : i < m := by rw [hm]; split <;> omega
      obtain ⟨hc, ht'⟩ := hi i him
      obtain ⟨z, hz, _, _⟩ := DataW.trod_int he ht'
      exact ⟨z, by rw [hc]; exact congrArg some (List.cons.inj hz).1⟩
    exact ⟨len, A, hA⟩
abbrev bldL (b : Bld) : List DV := [.val (.string b.name), .lst b.nS (stoC b), dI b.roof, .lst b.nO (opeC b), .lst b.nB (boxC b)]
abbrev sysL (nB : Nat) (B : Nat → Int) (nO : Nat) (O : Nat → Int) (W G L : Int) : List DV := [Lay.nums nB B, Lay.nums nO O, dI W, dI G, dI L]
set_option maxRecDepth 100000 in
theorem open_bldC {fuel : Nat} {cs : List Value} {x : DataW H × List MemPlace} (h : DataW.trod enc Tryz.prog w base spare held fuel 26 cs = some x) :
    ∃ b : Bld, cs.length = 5 ∧ ∀ (j : Nat) (d : DV) (u : Value), (bldL b)[j]? = some d → cs[j]? = some u → RelC (rdArg w fun _ => True) d u := by
  obtain ⟨hsz, n, hf⟩ := open_parts (fs := _) Tryz.underlying26 (by kernel_rfl) (by kernel_rfl) h
  obtain ⟨u0, x0, e0, t0⟩ := hf 0 _ rfl
  obtain ⟨u1, x1, e1, t1⟩ := hf 1 _ rfl
  obtain ⟨u2, x2, e2, t2⟩ := hf 2 _ rfl
  obtain ⟨u3, x3, e3, t3⟩ := hf 3 _ rfl
  obtain ⟨u4, x4, e4, t4⟩ := hf 4 _ rfl
  obtain ⟨s, hs, _⟩ := DataW.trod_string Tryz.underlying9 t0
  cases hs
  obtain ⟨nS, fl, N, X, Y, r1⟩ := open_storeys (S := fun _ => True) (fun _ => trivial) Tryz.underlying22 Tryz.underlying100 (by kernel_rfl) (by kernel_rfl) Tryz.underlying3 rfl Tryz.underlying79 Tryz.underlying76 (by kernel_rfl) (by kernel_rfl) rfl (fun j f hj => by
    match j, hj with
    | 0, hj => cases hj; exact Tryz.underlying3
    | 1, hj => cases hj; exact Tryz.underlying3) t1
  obtain ⟨roof, rfl⟩ := open_int Tryz.underlying3 t2
  obtain ⟨nO, O, r3⟩ := open_sixes (S := fun _ => True) (fun _ => trivial) Tryz.underlying23 Tryz.underlying177 (by kernel_rfl) (by kernel_rfl) rfl (fun j f hj => by
    match j, hj with
    | 0, hj => cases hj; exact Tryz.underlying3
    | 1, hj => cases hj; exact Tryz.underlying3
    | 2, hj => cases hj; exact Tryz.underlying3
    | 3, hj => cases hj; exact Tryz.underlying3
    | 4, hj => cases hj; exact Tryz.underlying3
    | 5, hj => cases hj; exact Tryz.underlying3) t3
  obtain ⟨nB, B, r4⟩ := open_sixes (S := fun _ => True) (fun _ => trivial) Tryz.underlying24 Tryz.underlying125 (by kernel_rfl) (by kernel_rfl) rfl (fun j f hj => by
    match j, hj with
    | 0, hj => cases hj; exact Tryz.underlying3
    | 1, hj => cases hj; exact Tryz.underlying3
    | 2, hj => cases hj; exact Tryz.underlying3
    | 3, hj => cases hj; exact Tryz.underlying3
    | 4, hj => cases hj; exact Tryz.underlying3
    | 5, hj => cases hj; exact Tryz.underlying3) t4
  refine ⟨⟨s, nS, fl, N, X, Y, roof, nO, O, nB, B⟩, hsz, fun j d u hd hu => ?_⟩
  match j, hd with
  | 0, hd => cases hd; rw [e0] at hu; cases hu; exact .val _
  | 1, hd => cases hd; rw [e1] at hu; cases hu; exact r1
  | 2, hd => cases hd; rw [e2] at hu; cases hu; exact .val _
  | 3, hd => cases hd; rw [e3] at hu; cases hu; exact r3
  | 4, hd => cases hd; rw [e4] at hu; cases hu; exact r4
set_option maxRecDepth 100000 in
theorem open_sysC {fuel : Nat} {cs : List Value} {x : DataW H × List MemPlace} (h : DataW.trod enc Tryz.prog w base spare held fuel 29 cs = some x) :
    ∃ nB B nO O W G L, cs.length = 5 ∧ ∀ (j : Nat) (d : DV) (u : Value), (sysL nB B nO O W G L)[j]? = some d → cs[j]? = some u → RelC (rdArg w fun _ => True) d u := by
  obtain ⟨hsz, n, hf⟩ := open_parts (fs := _) Tryz.underlying29 (by kernel_rfl) (by kernel_rfl) h
  obtain ⟨u0, x0, e0, t0⟩ := hf 0 _ rfl
  obtain ⟨u1, x1, e1, t1⟩ := hf 1 _ rfl
  obtain ⟨u2, x2, e2, t2⟩ := hf 2 _ rfl
  obtain ⟨u3, x3, e3, t3⟩ := hf 3 _ rfl
  obtain ⟨u4, x4, e4, t4⟩ := hf 4 _ rfl
  obtain ⟨nB, B, r0⟩ := open_ints (S := fun _ => True) (fun _ => trivial) Tryz.underlying27 Tryz.underlying3 (by kernel_rfl) t0
  obtain ⟨nO, O, r1⟩ := open_ints (S := fun _ => True) (fun _ => trivial) Tryz.underlying27 Tryz.underlying3 (by kernel_rfl) t1
  obtain ⟨z2, rfl⟩ := open_int Tryz.underlying3 t2
  obtain ⟨z3, rfl⟩ := open_int Tryz.underlying3 t3
  obtain ⟨z4, rfl⟩ := open_int Tryz.underlying3 t4
  refine ⟨nB, B, nO, O, z2, z3, z4, hsz, fun j d u hd hu => ?_⟩
  match j, hd with
  | 0, hd => cases hd; rw [e0] at hu; cases hu; exact r0
  | 1, hd => cases hd; rw [e1] at hu; cases hu; exact r1
  | 2, hd => cases hd; rw [e2] at hu; cases hu; exact .val _
  | 3, hd => cases hd; rw [e3] at hu; cases hu; exact .val _
  | 4, hd => cases hd; rw [e4] at hu; cases hu; exact .val _
set_option maxRecDepth 100000 in
theorem open_job {r : Reach} {b0 : Nat} {v0 : Value} {d : DataW H} {p : List MemPlace} (hv : Value.okWide Tryz.prog w r b0 31 v0) (h0 : DataW.Trod enc Tryz.prog w base spare held 31 v0 d p) :
    ∃ b nB B nO O W G L, RelC (rdArg w fun _ => True) (jobD b nB B nO O W G L) v0 := by
  obtain ⟨⟨l⟩, rfl, hsz⟩ := okWide_struct Tryz.underlying31 hv
  obtain ⟨fuel, hf⟩ := h0
  obtain ⟨y0, y1, n, _, hl, t0, t1⟩ := trod_struct2 Tryz.underlying31 hf
  rw [show Tryz.prog.cellsOf 26 = 5 by kernel_rfl] at t0
  rw [show Tryz.prog.cellsOf 29 = 5 by kernel_rfl] at t1
  rw [show Tryz.prog.cellsOf 31 = 10 by kernel_rfl] at hsz
  obtain ⟨b, l0, r0⟩ := open_bldC t0
  obtain ⟨nB, B, nO, O, W, G, L, l1, r1⟩ := open_sysC t1
  refine ⟨b, nB, B, nO, O, W, G, L, .agg hsz fun j d u hd hu => ?_⟩
  have hu' : l[j]? = some u := by simpa using hu
  by_cases h5 : j < 5
  · refine r0 j d u ?_ ?_
    · match j, h5 with
      | 0, _ => exact hd
      | 1, _ => exact hd
      | 2, _ => exact hd
      | 3, _ => exact hd
      | 4, _ => exact hd
    · rw [List.getElem?_take_of_lt h5]
      exact hu'
  · have hj : j < 10 := by
      have := (Array.getElem?_eq_some_iff.1 hu).1
      omega
    obtain ⟨k, rfl⟩ : ∃ k, j = 5 + k := ⟨j - 5, by omega⟩
    refine r1 k d u ?_ ?_
    · match k, hj with
      | 0, _ => exact hd
      | 1, _ => exact hd
      | 2, _ => exact hd
      | 3, _ => exact hd
      | 4, _ => exact hd
      | k + 5, hj => exact absurd hj (by omega)
    · rw [List.getElem?_take_of_lt (by omega)]
      show (List.drop 5 l)[k]? = some u
      rw [List.getElem?_drop]
      exact hu'
end
end Go.Abs
end
section
namespace Go.Abs
open Go Go.RowKit Go.WideShapes Go.ChangeShapes Go.Deep Go.Joins Go.WideElems
open Go.Proofs
section
variable {H : Type} {enc : TypeId × Value → H} {w : World} {base : Nat} {spare : Nat → Bool} {held : Bool}
set_option maxRecDepth 100000 in
theorem run_parts {fuel : Nat} {cs : List Value} {x : DataW H × List MemPlace} (h : DataW.trod enc Tryz.prog w base spare held fuel 78 cs = some x) :
    ∃ (F SX SY Ln : Int) (nP : Nat) (P : Nat → Int) (nQ : Nat) (Q : Nat → Int), ∀ (j : Nat) (d : DV), [dI F, dI SX, dI SY, dI Ln, Lay.nums nP P, Lay.nums nQ Q][j]? = some d → ∃ u, cs[j]? = some u ∧ oneV u = true ∧ RelC (rdArg w fun _ => True) d u := by
  obtain ⟨xs, n, _, _, hl, hlen, hg⟩ := DataW.trod_struct Tryz.underlying78 h
  rw [show Tryz.prog.cellsOf 78 = 6 by kernel_rfl] at hl
  have h0 := hg 0 _ rfl
  have h1 := hg 1 _ rfl
  have h2 := hg 2 _ rfl
  have h3 := hg 3 _ rfl
  match xs, hlen with
  | [y0, y1, y2, y3], _ =>
    match cs, hl with
    | [u0, u1, u2, u3, u4, u5], _ =>
      have h0' : DataW.trod enc Tryz.prog w base spare held n 3 [u0] = some y0 := h0
      have h1' : DataW.trod enc Tryz.prog w base spare held n 76 [u1, u2] = some y1 := h1
      have h2' : DataW.trod enc Tryz.prog w base spare held n 3 [u3] = some y2 := h2
      have h3' : DataW.trod enc Tryz.prog w base spare held n 70 [u4, u5] = some y3 := h3
      obtain ⟨F, rfl⟩ := open_int Tryz.underlying3 h0'
      obtain ⟨Ln, rfl⟩ := open_int Tryz.underlying3 h2'
      obtain ⟨_, n1, g1⟩ := open_parts (fs := _) Tryz.underlying76 (by kernel_rfl) (by kernel_rfl) h1'
      obtain ⟨_, n3, g3⟩ := open_parts (fs := _) Tryz.underlying70 (by kernel_rfl) (by kernel_rfl) h3'
      obtain ⟨a0, z0, ea0, t0⟩ := g1 0 _ rfl
      obtain ⟨a1, z1, ea1, t1⟩ := g1 1 _ rfl
      obtain ⟨b0, w0, eb0, s0⟩ := g3 0 _ rfl
      obtain ⟨b1, w1, eb1, s1⟩ := g3 1 _ rfl
      obtain ⟨SX, rfl⟩ := open_int Tryz.underlying3 t0
      obtain ⟨SY, rfl⟩ := open_int Tryz.underlying3 t1
      obtain ⟨nP, P, r4⟩ := open_ints (S := fun _ => True) (fun _ => trivial) Tryz.underlying27 Tryz.underlying3 (by kernel_rfl) s0
      obtain ⟨nQ, Q, r5⟩ := open_ints (S := fun _ => True) (fun _ => trivial) Tryz.underlying27 Tryz.underlying3 (by kernel_rfl) s1
      cases ea0; cases ea1; cases eb0; cases eb1
      refine ⟨F, SX, SY, Ln, nP, P, nQ, Q, fun j d hd => ?_⟩
      match j, hd with
      | 0, hd => cases hd; exact ⟨_, rfl, rfl, .val _⟩
      | 1, hd => cases hd; exact ⟨_, rfl, rfl, .val _⟩
      | 2, hd => cases hd; exact ⟨_, rfl, rfl, .val _⟩
      | 3, hd => cases hd; exact ⟨_, rfl, rfl, .val _⟩
      | 4, hd => cases hd; exact ⟨_, rfl, r4.one rfl, r4⟩
      | 5, hd => cases hd; exact ⟨_, rfl, r5.one rfl, r5⟩
set_option maxRecDepth 100000 in
theorem open_runs {fuel : Nat} {v : Value} {x : DataW H × List MemPlace} (h : DataW.trod enc Tryz.prog w base spare held fuel 32 [v] = some x) :
    ∃ (n : Nat) (F SX SY Ln : Nat → Int) (nP : Nat → Nat) (P : Nat → Nat → Int) (nQ : Nat → Nat) (Q : Nat → Nat → Int), RelC (rdArg w fun _ => True)
      (.lst n [fun i => dI (F i), fun i => dI (SX i), fun i => dI (SY i), fun i => dI (Ln i), fun i => Lay.nums (nP i) (P i), fun i => Lay.nums (nQ i) (Q i)]) v := by
  classical
  rcases open_slice Tryz.underlying32 h with ⟨h0, _⟩ | ⟨a, len, cap, m, n, D, Pl, hcs, _, hl, _, hm, _, hi⟩
  · cases h0
    exact ⟨0, fun _ => 0, fun _ => 0, fun _ => 0, fun _ => 0, fun _ => 0, fun _ _ => 0, fun _ => 0, fun _ _ => 0, rel_none _⟩
  · cases hcs
    have hall : ∀ i, ∃ (q : Int × Int × Int × Int × Nat × (Nat → Int) × Nat × (Nat → Int)), i < len → ∀ (j : Nat) (d : DV), [dI q.1, dI q.2.1, dI q.2.2.1, dI q.2.2.2.1, Lay.nums q.2.2.2.2.1 q.2.2.2.2.2.1, Lay.nums q.2.2.2.2.2.2.1 q.2.2.2.2.2.2.2][j]? = some d →
        ∃ u, w.cell? (a.add (i * 6 + j)) = some u ∧ oneV u = true ∧ RelC (rdArg w fun _ => True) d u := fun i => by
      by_cases hil : i < len
      · have him : i < m := by rw [hm]; split <;> omega
        obtain ⟨cs', hc, ht'⟩ := hi i him
        rw [show Tryz.prog.cellsOf 78 = 6 by kernel_rfl] at hc
        obtain ⟨F, SX, SY, Ln, nP, P, nQ, Q, hr⟩ := run_parts ht'
        obtain ⟨_, hcl, hat⟩ := World.cells?_some hc
        refine ⟨(F, SX, SY, Ln, nP, P, nQ, Q), fun _ j d hd => ?_⟩
        obtain ⟨u, hu, ho, r⟩ := hr j d hd
        have hj : j < 6 := by
          have := (List.getElem?_eq_some_iff.1 hd).1
          simpa using this
        exact ⟨u, by rw [← Go.Deep.add_add, hat j hj]; exact hu, ho, r⟩
      · exact ⟨(0, 0, 0, 0, 0, fun _ => 0, 0, fun _ => 0), fun h => absurd h hil⟩
    refine ⟨len, fun i => (hall i).choose.1, fun i => (hall i).choose.2.1, fun i => (hall i).choose.2.2.1, fun i => (hall i).choose.2.2.2.1, fun i => (hall i).choose.2.2.2.2.1, fun i => (hall i).choose.2.2.2.2.2.1, fun i => (hall i).choose.2.2.2.2.2.2.1, fun i => (hall i).choose.2.2.2.2.2.2.2, rel_lst (fun _ => trivial) hl fun i j f hi hj => ?_⟩
    have k := (hall i).choose_spec hi
    match j, hj with
    | 0, hj => cases hj; exact k 0 _ rfl
    | 1, hj => cases hj; exact k 1 _ rfl
    | 2, hj => cases hj; exact k 2 _ rfl
    | 3, hj => cases hj; exact k 3 _ rfl
    | 4, hj => cases hj; exact k 4 _ rfl
    | 5, hj => cases hj; exact k 5 _ rfl
set_option maxRecDepth 100000 in
theorem open_lyt {r : Reach} {b0 : Nat} {v0 : Value} {d : DataW H} {p : List MemPlace} (hv : Value.okWide Tryz.prog w r b0 34 v0) (h0 : DataW.Trod enc Tryz.prog w base spare held 34 v0 d p) :
    ∃ l : Lyt, RelC (rdArg w fun _ => True) (lyt l) v0 := by
  obtain ⟨⟨l⟩, n, rfl, hsz, hf⟩ := open_fields (fs := _) Tryz.underlying34 (by kernel_rfl) (by kernel_rfl) hv h0
  obtain ⟨u0, x0, e0, t0⟩ := hf 0 _ rfl
  obtain ⟨u1, x1, e1, t1⟩ := hf 1 _ rfl
  obtain ⟨nC, C, r0⟩ := open_ints (S := fun _ => True) (fun _ => trivial) Tryz.underlying27 Tryz.underlying3 (by kernel_rfl) t0
  obtain ⟨nR, F, SX, SY, Ln, nP, P, nQ, Q, r1⟩ := open_runs t1
  refine ⟨⟨nC, C, nR, F, SX, SY, Ln, nP, P, nQ, Q⟩, .agg hsz fun j d u hd hu => ?_⟩
  match j, hd with
  | 0, hd => cases hd; rw [e0] at hu; cases hu; exact r0
  | 1, hd => cases hd; rw [e1] at hu; cases hu; exact r1
end
end Go.Abs
end
