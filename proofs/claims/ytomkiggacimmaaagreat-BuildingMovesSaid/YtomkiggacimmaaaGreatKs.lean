/- slices.Sort and slices.Compact of a row of numbers, by the library's contracts; linesOf. -/
import Derived.Test.YtomkiggacimmaaaGreatK9
import Derived.WalkKit
import Derived.Test.YtomkiggacimmaaaGreatShelf
import Derived.Shelf.Sort.Plain
import Derived.Shelf.Slices.CompactI
import Derived.Shelf.Slices.In.SortNone
import Derived.Lib.RowBridge
set_option linter.unusedVariables false
set_option maxRecDepth 100000
namespace Go.Abs
open Go Go.RowKit Go.Shelf Go.Lib Go.Sort Go.Proofs
attribute [local go_sem] Oper.semAt_some

/-- Numbers ascending, each once. -/
def linesF (l : List Int) : List Int := Lib.compact (l.mergeSort fun x y => decide (x ≤ y))
theorem linesF_len (l : List Int) : (linesF l).length ≤ l.length := by
  unfold linesF
  have := Lib.compact_length_le (l.mergeSort fun x y => decide (x ≤ y))
  rw [List.length_mergeSort] at this
  exact this

theorem lines_walk0 (w : World) : Calls prog 81 #[.slice none 0 0] w fun e w' => e = .returned (.slice none 0 0) ∧ w' = w := by
  have mixed := hmix
  have hs := Any.slices_Sort_int_none Tryz.sortI none 0
  have hc := Any.slices_Compact_int_empty Tryz.compI none 0
  change ∀ w, Calls prog 83 _ w _ at hs
  change ∀ w, Calls prog 84 _ w _ at hc
  go_enter Go.Proofs.Tryz.func81, Go.Proofs.Tryz.ntmps81
  go_wp2_with (first
    | (go_at_call 83; refine (hs _).mono ?_; rintro e w1 ⟨rfl, rfl⟩)
    | (go_at_call 84; refine (hc _).mono ?_; rintro e w1 ⟨rfl, rfl⟩))
  go_ret
  exact ⟨rfl, rfl⟩

theorem lines_walk (w : World) (g C n : Nat) (zs : List Int) (hl : zs.length = n) (hn : n ≤ C) (hC : n ≤ 1000000) (hg : g < w.heap.size) (hH : Holds (Value.int .i64) w g 0 zs.toArray) :
    Calls prog 81 #[.slice (some ⟨g, 0, none⟩) n C] w fun e w' => e = .returned (.slice (some ⟨g, 0, none⟩) (linesF zs).length C) ∧
      ∃ nn os q, w' = putRow (Value.int .i64) (Sort.ahead (grow (putRow (Value.int .i64) (Sort.ahead w nn) g 0 (zs.mergeSort fun x y => decide (x ≤ y)).toArray) os) q) g 0 (linesF zs ++ List.replicate (n - (linesF zs).length) 0).toArray := by
  have mixed := hmix
  have hsort := Any.slices_Sort_int Tryz.sortI g 0 C zs w hH hg (by omega)
  change Calls prog 83 _ w _ at hsort
  rw [hl] at hsort
  have hl2 : (zs.mergeSort fun x y => decide (x ≤ y)).length = n := by rw [List.length_mergeSort]; exact hl
  have X : Aside (Holds (Value.int .i64) w g 0 zs.toArray ∧ g < w.heap.size) := ⟨hH, hg⟩
  clear hH hg
  go_enter Go.Proofs.Tryz.func81, Go.Proofs.Tryz.ntmps81
  go_wp2_with (first
    | (go_at_call 83; refine hsort.mono ?_; rintro e w2 ⟨rfl, nn, os, rfl⟩
       have hH2 : Holds (Value.int .i64) (grow (putRow (Value.int .i64) (Sort.ahead w nn) g 0 (zs.mergeSort fun x y => decide (x ≤ y)).toArray) os) g 0 (zs.mergeSort fun x y => decide (x ≤ y)).toArray :=
         holds_grow (Value.int .i64) _ os g 0 _ (by simpa [putRow, mapBlock, Sort.ahead] using X.out.2) (holds_putRow (Value.int .i64) _ g 0 _ _ (holds_ahead (Value.int .i64) w nn g 0 _ X.out.1) (by simp))
       have hcomp := Any.slices_Compact_int Tryz.compI g 0 C (zs.mergeSort fun x y => decide (x ≤ y)) _ hH2 (by omega) (by omega)
       change Calls prog 84 _ _ _ at hcomp
       rw [hl2] at hcomp
       clear hH2 hsort)
    | (go_at_call 84; refine hcomp.mono ?_; rintro e w3 ⟨rfl, q, rfl⟩))
  go_ret
  exact ⟨rfl, nn, os, q, rfl⟩

theorem putCells_get {d : List Int} {cv : Array Value} {i : Nat} (hi : i < d.length) (hs : d.length ≤ cv.size) : (putCells (Value.int .i64) 0 d.toArray cv)[i]? = some (.int .i64 (d.getD i 0)) := by
  have h2 : i < cv.size := by omega
  simp only [putCells, Array.getElem?_mapIdx, Array.getElem?_eq_getElem h2, Option.map_some, List.size_toArray, Nat.zero_le, Nat.zero_add, hi, true_and, if_true, Nat.sub_zero]
  simp [hi]
theorem putCells_size (d : Array Int) (cv : Array Value) : (putCells (Value.int .i64) 0 d cv).size = cv.size := by simp [putCells]

/-- linesOf: the row is sorted, and each number kept once. -/
theorem lines_c (n : Nat) (A : Nat → Int) (hn : n ≤ 1000000) : FnK prog 81 n A (linesF ((List.range n).map A)).length (fun i => (linesF ((List.range n).map A)).getD i 0) := by
  refine ⟨⟨_, Go.Proofs.Tryz.func81, rfl, by kernel_rfl⟩, fun w v0 => ⟨fun e h0 => ?_, fun g C cv T e hC hh hsz hcell => ?_⟩⟩
  · subst e h0
    refine ⟨by have := linesF_len ((List.range 0).map A); simpa using this, (lines_walk0 w).mono fun e w' ⟨he, hw⟩ => ⟨he, by rw [hw]; exact Below.refl _ _⟩⟩
  · subst e
    have hll := linesF_len ((List.range n).map A)
    simp only [List.length_map, List.length_range] at hll
    refine ⟨hll, ?_⟩
    have hl : ((List.range n).map A).length = n := by simp
    generalize hzs : (List.range n).map A = zs at *
    have hzi : ∀ i, i < n → zs.getD i 0 = A i := fun i hi => by rw [← hzs]; simp [hi]
    have hH : Holds (Value.int .i64) w g 0 zs.toArray := fun j hj => by
      have hj' : j < n := by simpa [hl] using hj
      have hcj := hcell j hj'
      have hdj : zs.toArray[j]! = A j := by
        rw [← hzi j hj', getElem!_pos zs.toArray j hj]
        simp [List.getD_eq_getElem?_getD, hl, hj']
      refine ⟨?_, ?_⟩
      · rw [hdj, Nat.zero_add]
        simp only [World.cell?, hh, hcj]
        rfl
      · simp [World.frozen?, hh]
    refine (lines_walk w g C n zs hl hC hn (heap_lt hh) hH).mono fun e w' ⟨he, nn, os, q, hw⟩ => ⟨he, ?_⟩
    generalize hd' : zs.mergeSort (fun x y => decide (x ≤ y)) = d1 at hw
    have hd1 : d1.length = n := by rw [← hd', List.length_mergeSort]; exact hl
    refine ⟨putCells (Value.int .i64) 0 (linesF zs ++ List.replicate (n - (linesF zs).length) 0).toArray (putCells (Value.int .i64) 0 d1.toArray cv),
      putRow (Value.int .i64) (putRow (Value.int .i64) (Sort.ahead w nn) g 0 d1.toArray) g 0 (linesF zs ++ List.replicate (n - (linesF zs).length) 0).toArray, by rw [putCells_size, putCells_size]; exact hsz, fun i hi => ?_, by simp [putRow, mapBlock, Sort.ahead], rfl, rfl, rfl, (fun h => by cases h), fun k hk => ?_, ?_, ?_⟩
    · rw [putCells_get (by simp; omega) (by rw [putCells_size]; simp; omega)]
      simp only [List.getD_eq_getElem?_getD]
      rw [List.getElem?_append_left hi]
    · simp only [putRow, mapBlock, Sort.ahead, Array.getElem?_modify]
      rw [if_neg (fun e => hk e.symm), if_neg (fun e => hk e.symm)]
    · simp only [putRow, mapBlock, Sort.ahead, Array.getElem?_modify, if_true, hh, Option.map_some, onCells]
    · rw [hw]
      refine ⟨rfl, rfl, rfl, by simp [putRow, mapBlock, Sort.ahead, grow], fun k hk => ?_, fun h => by cases h⟩
      have hgs := heap_lt hh
      have hk' : k < w.heap.size := by simpa [putRow, mapBlock, Sort.ahead] using hk
      simp only [putRow, mapBlock, Sort.ahead, grow, Array.getElem?_modify, Array.getElem?_append_left (show k < (w.heap.modify g _).size by simpa using hk')]
end Go.Abs
