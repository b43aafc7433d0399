/- What the condition on the package variable gives: its cells are the directions' steps. -/
import Derived.Test.YtcgfcahljfmipaaDoorRows
import Derived.Test.YtcgfcahljfmipaaDoorAbsU
import Derived.Test.YtcgfcahljfmipaaDoorK1
import Derived.ProofKit
import Derived.OpenShut
import Derived.LaidMore
import Derived.Stop.Joined
set_option linter.unusedVariables false
namespace Go.Proofs.YtcgfcahljfmipaaDoor
open Go.ChangeShapes Go.WideShapes Go.ChangeAt Go.RowKit Go.Abs

theorem gSteps : Tryd.prog.globalNamed "putlog/building.steps" = some 0 := by kernel_rfl
theorem tSteps : (Tryd.prog.globals[0]?).map (·.type) = some 57 := by kernel_rfl
theorem c3 : Tryd.prog.cellsOf 3 = 1 := by kernel_rfl
theorem c36 : Tryd.prog.cellsOf 36 = 2 := by kernel_rfl
theorem c57 : Tryd.prog.cellsOf 57 = 8 := by kernel_rfl
abbrev laidL : List (String × DataW Unit) := [("putlog/building.steps", Rows.laid_putlog_building_steps)]
set_option maxRecDepth 100000 in
/-- A point's cells, of its reading. -/
theorem pt_cells {H : Type} {enc : TypeId × Value → H} {w : World} {base : Nat} {sp : Nat → Bool} {held : Bool} {fuel : Nat} {cs : List Value} {a b : Int} {x : DataW H × List MemPlace} (h : DataW.trod enc Tryd.prog w base sp held fuel 36 cs = some x)
    (hx : x.1 = .agg [.lit (.int .i64 a), .lit (.int .i64 b)]) : cs = [.int .i64 a, .int .i64 b] := by
  obtain ⟨y0, y1, n, rfl, hl, h0, h1⟩ := trod_struct2 Tryd.underlying36 h
  obtain ⟨i, e0, d0, _⟩ := DataW.trod_int Tryd.underlying3 h0
  obtain ⟨j, e1, d1, _⟩ := DataW.trod_int Tryd.underlying3 h1
  rw [c36] at hl
  rw [c3] at e0 e1
  subst d0 d1
  simp only [DataW.agg.injEq, List.cons.injEq, DataW.lit.injEq, Lit.int.injEq, true_and, and_true] at hx
  obtain ⟨rfl, rfl⟩ := hx
  match cs, hl with
  | [u, v], _ =>
    simp only [List.drop_zero, List.take_succ_cons, List.take_zero, List.cons.injEq, and_true] at e0
    simp only [List.drop_succ_cons, List.drop_zero, List.take_succ_cons, List.take_zero, List.cons.injEq, and_true] at e1
    rw [e0, e1]
theorem list8 (l : List Value) (h : l.length = 8) : ∃ a b c d e f g i, l = [a, b, c, d, e, f, g, i] := by
  match l, h with
  | [a, b, c, d, e, f, g, i], _ => exact ⟨a, b, c, d, e, f, g, i, rfl⟩
set_option maxRecDepth 100000 in
theorem glob_of_laid {W : World} (h : laidMetH Tryd.prog laidL W) : GlobOK (rdArg W fun _ => True) := by
  rw [MakeChecks.laidMetH_plain _ _ _ (by kernel_rfl)] at h
  obtain ⟨ps, ⟨g, t, cs, fuel, p, q, hg, ht, hv, hd, _, _⟩, _, _⟩ := h
  obtain rfl := Option.some.inj (gSteps.symm.trans hg)
  obtain rfl := Option.some.inj (tSteps.symm.trans ht)
  obtain ⟨xs, m, _, ex, hl, hn, hel⟩ := DataW.trod_array Tryd.underlying57 hd
  rw [c36] at hel
  rw [c57] at hl
  have hcell := fun k => World.var?_cell gSteps hv k
  obtain ⟨l⟩ := cs
  obtain ⟨v0, v1, v2, v3, v4, v5, v6, v7, rfl⟩ := list8 l hl
  match xs, hn with
  | [x0, x1, x2, x3], _ =>
    simp only [Prod.mk.injEq, List.map_cons, List.map_nil, Rows.laid_putlog_building_steps, DataW.agg.injEq, List.cons.injEq, and_true] at ex
    obtain ⟨⟨e0, e1, e2, e3⟩, _⟩ := ex
    have h0 := pt_cells (hel 0 (by decide)) e0.symm
    have h1 := pt_cells (hel 1 (by decide)) e1.symm
    have h2 := pt_cells (hel 2 (by decide)) e2.symm
    have h3 := pt_cells (hel 3 (by decide)) e3.symm
    simp at h0 h1 h2 h3
    obtain ⟨rfl, rfl⟩ := h0
    obtain ⟨rfl, rfl⟩ := h1
    obtain ⟨rfl, rfl⟩ := h2
    obtain ⟨rfl, rfl⟩ := h3
    intro d v hdv
    simp only [shG, gl, List.map_cons, List.map_nil, List.mem_singleton, Prod.mk.injEq] at hdv
    obtain ⟨rfl, rfl⟩ := hdv
    refine .cptr (fun k => [Value.int .i64 1, .int .i64 0, .int .i64 0, .int .i64 1, .int .i64 (-1), .int .i64 0, .int .i64 0, .int .i64 (-1)].getD k undef) (fun j d hj => ⟨?_, trivial⟩) (fun j d hj => ?_) (fun j d hj => ?_)
    · have := hcell j
      match j, hj with
      | 0, _ => exact .inl ⟨this, rfl⟩
      | 1, _ => exact .inl ⟨this, rfl⟩
      | 2, _ => exact .inl ⟨this, rfl⟩
      | 3, _ => exact .inl ⟨this, rfl⟩
      | 4, _ => exact .inl ⟨this, rfl⟩
      | 5, _ => exact .inl ⟨this, rfl⟩
      | 6, _ => exact .inl ⟨this, rfl⟩
      | 7, _ => exact .inl ⟨this, rfl⟩
    · match j, hj with
      | 0, hj => rfl
      | 1, hj => rfl
      | 2, hj => rfl
      | 3, hj => rfl
      | 4, hj => rfl
      | 5, hj => rfl
      | 6, hj => rfl
      | 7, hj => rfl
    · match j, hj with
      | 0, hj => cases hj; exact .val _
      | 1, hj => cases hj; exact .val _
      | 2, hj => cases hj; exact .val _
      | 3, hj => cases hj; exact .val _
      | 4, hj => cases hj; exact .val _
      | 5, hj => cases hj; exact .val _
      | 6, hj => cases hj; exact .val _
      | 7, hj => cases hj; exact .val _
end Go.Proofs.YtcgfcahljfmipaaDoor
