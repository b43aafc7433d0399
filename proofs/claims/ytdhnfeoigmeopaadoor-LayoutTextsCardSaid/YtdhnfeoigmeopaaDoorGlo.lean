/- What the conditions on the package variables give: the powers of ten, two errors. -/
import Derived.Test.YtdhnfeoigmeopaaDoorRows
import Derived.Test.YtdhnfeoigmeopaaDoorL1
import Derived.ProofKit
import Derived.OpenShut
import Derived.LaidMore
import Derived.Stop.Joined
namespace Go.Proofs.YtdhnfeoigmeopaaDoor
open Go.ChangeShapes Go.WideShapes Go.ChangeAt Go.RowKit Go.Abs
theorem gSyn : Tryd.prog.globalNamed "strconv.ErrSyntax" = some 0 := by kernel_rfl
theorem gRan : Tryd.prog.globalNamed "strconv.ErrRange" = some 1 := by kernel_rfl
theorem gPow : Tryd.prog.globalNamed "internal/strconv.uint64pow10" = some 5 := by kernel_rfl
abbrev laidL : List (String × DataW Unit) := Rows.layoutTextsRow.laid
theorem arr_ints {H : Type} {enc : TypeId × Value → H} {P : Program} {w : World} {base : Nat} {sp : Nat → Bool} {held : Bool} {fuel n : Nat} {e t : TypeId} {k : IntKind} {cs : List Value} {zs : List Int} {p : List MemPlace} (ht : P.underlying t = some (.array n e)) (he : P.underlying e = some (.int k)) (hc : P.cellsOf e = 1) (hct : P.cellsOf t = n)
    (h : DataW.trod enc P w base sp held fuel t cs = some (.agg (zs.map fun z => .lit (.int k z)), p)) : cs = zs.map (.int k) := by
  obtain ⟨xs, m, _, ex, hl, hn, hel⟩ := DataW.trod_array ht h
  have e1 : zs.map (fun z => (DataW.lit (.int k z) : DataW H)) = xs.map (·.1) := by
    have := (Prod.mk.injEq _ _ _ _ ▸ ex).1
    simpa using this
  have hz : zs.length = n := by
    have := congrArg List.length e1
    simpa [hn] using this
  refine List.ext_getElem (by rw [hl, hct, List.length_map, hz]) fun i h1 h2 => ?_
  have hi : i < n := by rw [hl, hct] at h1; exact h1
  have h3 := hel i hi
  rw [hc, Nat.mul_one, List.getElem?_eq_getElem (by omega)] at h3
  obtain ⟨z, z1, z2, _⟩ := DataW.trod_int he h3
  have h4 : cs[i]? = some (.int k z) := by
    have h5 : ((cs.drop i).take 1)[0]? = some (.int k z) := by rw [z1]; rfl
    rwa [List.getElem?_take, if_pos (by decide), List.getElem?_drop, Nat.add_zero] at h5
  have h6 : zs[i]? = some z := by
    have h7 := congrArg (fun l => l[i]?) e1
    simp only [List.getElem?_map, List.getElem?_eq_getElem (show i < xs.length by omega), List.getElem?_eq_getElem (show i < zs.length by omega), Option.map_some, Option.some.injEq, z2, DataW.lit.injEq, Lit.int.injEq, true_and] at h7
    rw [List.getElem?_eq_getElem (show i < zs.length by omega), h7]
  rw [List.getElem?_eq_getElem h1] at h4
  rw [List.getElem_map, Option.some.inj h4]
  rw [List.getElem?_eq_getElem (show i < zs.length by omega)] at h6
  rw [Option.some.inj h6]
theorem pow_data : (Rows.laid_internal_strconv_uint64pow10 : DataW Unit) = .agg (Lib.pow10Tab.map fun z => .lit (.int .u64 z)) := by kernel_rfl
theorem heap_of_var {W : World} {P : Program} {nm : String} {g : Nat} {cs : Array Value} (hg : P.globalNamed nm = some g) (h : W.var? P nm = some cs) : ∃ T fr, W.heap[g]? = some (.cells cs T fr) := by
  unfold World.var? at h
  rw [hg, Option.bind_some] at h
  split at h
  · rename_i c T fr h1; cases h; exact ⟨T, fr, h1⟩
  · cases h
set_option maxRecDepth 100000 in
theorem glob_of_laid {W : World} (h : laidMetH Tryd.prog laidL W) : GlobOK (rdArg W fun _ => True) := by
  rw [MakeChecks.laidMetH_plain _ _ _ (by kernel_rfl)] at h
  obtain ⟨ps, ⟨g1, t1, cs1, fuel1, p1, q1, _, _, _, _, ⟨g2, t2, cs2, fuel2, p2, q2, _, _, _, _, ⟨g3, t3, cs3, fuel3, p3, q3, hg3, ht3, hv3, hd3, ⟨g4, t4, cs4, fuel4, p4, q4, _, _, _, _, ⟨g5, t5, cs5, fuel5, p5, q5, hg5, ht5, hv5, hd5, ⟨g6, t6, cs6, fuel6, p6, q6, hg6, ht6, hv6, hd6, _, _⟩, _⟩, _⟩, _⟩, _⟩, _⟩, _, _⟩ := h
  obtain rfl := Option.some.inj (gPow.symm.trans hg3)
  obtain rfl := Option.some.inj (gRan.symm.trans hg5)
  obtain rfl := Option.some.inj (gSyn.symm.trans hg6)
  obtain rfl := Option.some.inj ((show (Tryd.prog.globals[5]?).map (·.type) = some 146 by kernel_rfl).symm.trans ht3)
  obtain rfl := Option.some.inj ((show (Tryd.prog.globals[1]?).map (·.type) = some 50  by kernel_rfl).symm.trans ht5)
  obtain rfl := Option.some.inj ((show (Tryd.prog.globals[0]?).map (·.type) = some 50 by kernel_rfl).symm.trans ht6)
  have ui : Tryd.prog.underlying 50 = some (.interface #[("Error", 81)]) := by kernel_rfl
  rw [pow_data] at hd3
  have e3 := arr_ints (show Tryd.prog.underlying 146 = some (.array 20 109) by kernel_rfl) (show Tryd.prog.underlying 109 = some (.int .u64) by kernel_rfl) (by kernel_rfl) (by kernel_rfl) hd3
  have e3 : cs3 = gT := Array.ext' (by rw [e3]; rfl)
  subst e3
  obtain ⟨T3, f3, h3⟩ := heap_of_var gPow hv3
  obtain ⟨_, u5, x5, e5, _, _⟩ := iface_of_trod ui hd5
  obtain ⟨_, u6, x6, e6, _, _⟩ := iface_of_trod ui hd6
  have c5 := World.var?_cell gRan hv5 0
  have c6 := World.var?_cell gSyn hv6 0
  rw [← Array.getElem?_toList, e5] at c5
  rw [← Array.getElem?_toList, e6] at c6
  intro d v hdv
  rcases List.mem_cons.1 hdv with h | h
  · cases h
    exact .whole ⟨.inr (.inr ⟨_, T3, f3, h3, rfl⟩), trivial⟩
  · have err : ∀ {g : Nat} {u : TypeId} {x : Value}, W.cell? ⟨g, 0, none⟩ = some (.iface u x) → RelC (rdArg W fun _ => True) (.cptr [.err false]) (.pointer (some ⟨g, 0, none⟩)) := fun {g u x} hc => by
      refine .cptr (fun _ => .iface u x) (fun j d hj => ⟨?_, trivial⟩) (fun j d hj => rfl) (fun j d hj => ?_)
      · match j, hj with
        | 0, _ => exact .inl ⟨hc, rfl⟩
      · match j, hj with
        | 0, hj => cases hj; exact .err (fun h => by cases h) fun _ => ⟨_, _, rfl⟩
    simp only [gl, List.map_cons, List.map_nil, List.mem_cons, Prod.mk.injEq, List.not_mem_nil, or_false] at h
    rcases h with ⟨rfl, rfl⟩ | ⟨rfl, rfl⟩
    · exact err c6
    · exact err c5
end Go.Proofs.YtdhnfeoigmeopaaDoor
