/- Lemmas for the row: a proof as an argument. -/
import Derived.Test.YteennpofimiliaaGreatDoorRowY
import Derived.Test.YteennpofimiliaaGreatDoorK61
import Derived.OpenShut
namespace Go.Abs
open Go Go.RowKit Go.WideShapes Go.ChangeShapes Go.Deep Go.Joins Go.WideElems
open Go.Proofs
section
variable {H : Type} {enc : TypeId × Value → H} {w : World} {base : Nat} {spare : Nat → Bool} {held : Bool}
theorem wf_in {z : Int} (h : (Lit.int .i64 z).wf = true) : i64In z := by
  simp only [Lit.wf, Bool.and_eq_true, decide_eq_true_eq] at h
  have h1 : IntKind.i64.min = -9223372036854775808 := by decide
  have h2 : IntKind.i64.max = 9223372036854775807 := by decide
  rw [h1, h2] at h
  exact h
theorem open_intsW {P : Program} {t e : TypeId} {fuel : Nat} {v : Value} {x : DataW H × List MemPlace} (ht : P.underlying t = some (.slice e)) (he : P.underlying e = some (.int .i64)) (hC : P.cellsOf e = 1)
    (h : DataW.trod enc P w base spare held fuel t [v] = some x) : ∃ (n : Nat) (A : Nat → Int), i64T n A ∧ RelC (rdArg w fun _ => True) (Lay.nums n A) v := by
  classical
  rcases open_slice ht h with ⟨h0, _⟩ | ⟨a, len, cap, m, n, D, Pl, hcs, _, hl, _, hm, _, hi⟩
  · cases h0
    exact ⟨0, fun _ => 0, fun k hk => absurd hk (Nat.not_lt_zero k), rel_none _⟩
  · cases hcs
    have hall : ∀ i, ∃ z : Int, i < len → i64In z ∧ w.cell? (a.add i) = some (.int .i64 z) := fun i => by
      by_cases hil : i < len
      · have him : i < m := by rw [hm]; split <;> omega
        obtain ⟨cs', hc, ht'⟩ := hi i him
        obtain ⟨z, hz, _, hw⟩ := DataW.trod_int he ht'
        rw [hC] at hc
        obtain ⟨_, hcl, hat⟩ := World.cells?_some hc
        have h0 := hat 0 (by omega)
        rw [Go.Deep.add_add, Nat.mul_one, Nat.add_zero] at h0
        exact ⟨z, fun _ => ⟨wf_in hw, by rw [h0, hz]; rfl⟩⟩
      · exact ⟨0, fun h => absurd h hil⟩
    refine ⟨len, fun i => (hall i).choose, fun k hk => ((hall k).choose_spec hk).1, rel_lst (fun _ => trivial) hl fun i j f hi hj => ?_⟩
    match j, hj with
    | 0, hj => cases hj; exact ⟨_, by rw [List.length_singleton, Nat.mul_one, Nat.add_zero]; exact ((hall i).choose_spec hi).2, rfl, .val _⟩
set_option maxRecDepth 100000 in
theorem pair_parts {fuel : Nat} {cs : List Value} {x : DataW H × List MemPlace} (h : DataW.trod enc Tryz.prog w base spare held fuel 87 cs = some x) :
    ∃ a b : Int, cs = [.int .i64 a, .int .i64 b] ∧ i64In a ∧ i64In b := by
  obtain ⟨xs, m, _, _, hl, hlen, hg⟩ := DataW.trod_array Tryz.underlying87 h
  rw [show Tryz.prog.cellsOf 87 = 2 by kernel_rfl] at hl
  have c3 : Tryz.prog.cellsOf 3 = 1 := by kernel_rfl
  match cs, hl with
  | [u, v], _ =>
    match xs, hlen with
    | [y0, y1], _ =>
      have g0 := hg 0 (by omega)
      have g1 := hg 1 (by omega)
      rw [c3] at g0 g1
      obtain ⟨z0, e0, _, w0⟩ := DataW.trod_int Tryz.underlying3 g0
      obtain ⟨z1, e1, _, w1⟩ := DataW.trod_int Tryz.underlying3 g1
      simp only [Nat.zero_mul, List.drop_zero, List.take_succ_cons, List.take_zero, List.cons.injEq, and_true] at e0
      simp only [Nat.one_mul, List.drop_succ_cons, List.drop_zero, List.take_succ_cons, List.take_zero, List.cons.injEq, and_true] at e1
      exact ⟨z0, z1, by rw [e0, e1], wf_in w0, wf_in w1⟩
set_option maxRecDepth 100000 in
theorem open_pairs {fuel : Nat} {v : Value} {x : DataW H × List MemPlace} (h : DataW.trod enc Tryz.prog w base spare held fuel 35 [v] = some x) :
    ∃ (n : Nat) (A B : Nat → Int), i64T n A ∧ i64T n B ∧ RelC (rdArg w fun _ => True) (lst2 n A B) v := by
  classical
  rcases open_slice Tryz.underlying35 h with ⟨h0, _⟩ | ⟨a, len, cap, m, n, D, Pl, hcs, _, hl, _, hm, _, hi⟩
  · cases h0
    exact ⟨0, fun _ => 0, fun _ => 0, fun k hk => absurd hk (Nat.not_lt_zero k), fun k hk => absurd hk (Nat.not_lt_zero k), rel_none _⟩
  · cases hcs
    have hall : ∀ i, ∃ q : Int × Int, i < len → (i64In q.1 ∧ i64In q.2) ∧ w.cell? (a.add (i * 2)) = some (.int .i64 q.1) ∧ w.cell? (a.add (i * 2 + 1)) = some (.int .i64 q.2) := fun i => by
      by_cases hil : i < len
      · have him : i < m := by rw [hm]; split <;> omega
        obtain ⟨cs', hc, ht'⟩ := hi i him
        rw [show Tryz.prog.cellsOf 87 = 2 by kernel_rfl] at hc
        obtain ⟨z0, z1, rfl, w0, w1⟩ := pair_parts ht'
        obtain ⟨_, hcl, hat⟩ := World.cells?_some hc
        have h0 := hat 0 (by omega)
        have h1 := hat 1 (by omega)
        rw [Go.Deep.add_add] at h0 h1
        exact ⟨(z0, z1), fun _ => ⟨⟨w0, w1⟩, h0, h1⟩⟩
      · exact ⟨(0, 0), fun h => absurd h hil⟩
    refine ⟨len, fun i => (hall i).choose.1, fun i => (hall i).choose.2, fun k hk => ((hall k).choose_spec hk).1.1, fun k hk => ((hall k).choose_spec hk).1.2, rel_lst (fun _ => trivial) hl fun i j f hi hj => ?_⟩
    have k := ((hall i).choose_spec hi).2
    match j, hj with
    | 0, hj => cases hj; exact ⟨_, k.1, rfl, .val _⟩
    | 1, hj => cases hj; exact ⟨_, k.2, rfl, .val _⟩
set_option maxRecDepth 100000 in
theorem open_prf {r : Reach} {b0 : Nat} {v0 : Value} {d : DataW H} {p : List MemPlace} (hv : Value.okWide Tryz.prog w r b0 38 v0) (h0 : DataW.Trod enc Tryz.prog w base spare held 38 v0 d p) :
    ∃ q : Prf, prfIn q ∧ RelC (rdArg w fun _ => True) (prf q) v0 := by
  obtain ⟨⟨l⟩, rfl, hsz⟩ := okWide_struct Tryz.underlying38 hv
  obtain ⟨fuel, hf⟩ := h0
  obtain ⟨y0, y1, n, _, hl, t0, t1⟩ := trod_struct2 Tryz.underlying38 hf
  rw [show Tryz.prog.cellsOf 27 = 1 by kernel_rfl] at t0
  rw [show Tryz.prog.cellsOf 36 = 2 by kernel_rfl] at t1
  rw [show Tryz.prog.cellsOf 38 = 3 by kernel_rfl] at hsz
  obtain ⟨xs, m, _, _, hl2, hlen, hg⟩ := DataW.trod_array Tryz.underlying36 t1
  have c35 : Tryz.prog.cellsOf 35 = 1 := by kernel_rfl
  have hl3 : l.length = 3 := by simpa using hsz
  match l, hl3 with
  | [u0, u1, u2], _ =>
    match xs, hlen with
    | [z0, z1], _ =>
      have g0 := hg 0 (by omega)
      have g1 := hg 1 (by omega)
      rw [c35] at g0 g1
      obtain ⟨nT, T, i0, r0⟩ := open_intsW Tryz.underlying27 Tryz.underlying3 (by kernel_rfl) t0
      obtain ⟨n0, A0, A1, i1, i2, r1⟩ := open_pairs (v := u1) g0
      obtain ⟨n1, B0, B1, i3, i4, r2⟩ := open_pairs (v := u2) g1
      refine ⟨⟨nT, T, n0, A0, A1, n1, B0, B1⟩, ⟨i0, i1, i2, i3, i4⟩, .agg rfl fun j d u hd hu => ?_⟩
      match j, hd with
      | 0, hd => cases hd; cases hu; exact r0
      | 1, hd => cases hd; cases hu; exact r1
      | 2, hd => cases hd; cases hu; exact r2
end
end Go.Abs
