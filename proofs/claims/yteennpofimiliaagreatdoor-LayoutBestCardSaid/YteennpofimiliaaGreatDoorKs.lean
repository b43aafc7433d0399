/- DERIVED: THE SHELF's CONTRACTS AT THIS DUMP, IN PLAIN WORDS (tools/lay-plain.mjs out of 'YteennpofimiliaaGreatDoorShelf.lean', which tools/lay-shelf.mjs wrote): THE SAME DECLARATIONS UNDER THE SAME NAMES: 'import', 'namespace', 'open', 'def', 'theorem' AND NOTHING ELSE: no command of the shelf's: FOR A HAND-IN. Each laying: the table of numbers ('.._ren') and one theorem, a field a fact of the dump's own or the kernel's comparison; each contract: ONE APPLICATION. slices.Sort and slices.Compact of a row of numbers, by the library's contracts; linesOf. -/
import Derived.Shelf.Sort.Plain
import Derived.Shelf.Slices.CompactI
import Derived.Ground.Names2Prog
import Derived.Ground.NamesProg
import Derived.Test.YteennpofimiliaaGreatDoorProg
import Derived.Test.YteennpofimiliaaGreatDoorK8
import Derived.WalkKit
import Derived.Shelf.Slices.In.SortNone
import Derived.Lib.RowBridge
section
namespace Go.Proofs
open Go.Shelf
def Tryz.sortI_ren : Go.Shelf.Ren := ⟨fun | 189 => 189 | 125 => 133 | 257 => 191 | 128 => 166 | 129 => 167 | 294 => 192 | 295 => 193 | 296 => 194 | 297 => 195 | 298 => 196 | 299 => 197 | 216 => 198 | 300 => 199 | 301 => 200 | 328 => 201 | 329 => 181 | 330 => 182 | 331 => 202 | 332 => 203 | 215 => 204 | 343 => 205 | n => n, fun | 28 => 27 | 3 => 3 | 46 => 189 | 0 => 0 | 51 => 213 | 53 => 215 | 4 => 4 | 183 => 207 | 182 => 206 | 131 => 200 | 5 => 5 | 9 => 9 | 218 => 226 | 222 => 230 | 228 => 235 | 229 => 127 | n => n, fun | n => n⟩
theorem Tryz.sortI : Go.Proofs.Lays.n189 Tryz.prog Tryz.sortI_ren := {
  mixed := by kernel_rfl
  f125 := Tryz.func133.trans (congrArg some (by kernel_rfl))
  f128 := Tryz.func166.trans (congrArg some (by kernel_rfl))
  f129 := Tryz.func167.trans (congrArg some (by kernel_rfl))
  f189 := Tryz.func189.trans (congrArg some (by kernel_rfl))
  f215 := Tryz.func204.trans (congrArg some (by kernel_rfl))
  f216 := Tryz.func198.trans (congrArg some (by kernel_rfl))
  f257 := Tryz.func191.trans (congrArg some (by kernel_rfl))
  f294 := Tryz.func192.trans (congrArg some (by kernel_rfl))
  f295 := Tryz.func193.trans (congrArg some (by kernel_rfl))
  f296 := Tryz.func194.trans (congrArg some (by kernel_rfl))
  f297 := Tryz.func195.trans (congrArg some (by kernel_rfl))
  f298 := Tryz.func196.trans (congrArg some (by kernel_rfl))
  f299 := Tryz.func197.trans (congrArg some (by kernel_rfl))
  f300 := Tryz.func199.trans (congrArg some (by kernel_rfl))
  f301 := Tryz.func200.trans (congrArg some (by kernel_rfl))
  f328 := Tryz.func201.trans (congrArg some (by kernel_rfl))
  f329 := Tryz.func181.trans (congrArg some (by kernel_rfl))
  f330 := Tryz.func182.trans (congrArg some (by kernel_rfl))
  f331 := Tryz.func202.trans (congrArg some (by kernel_rfl))
  f332 := Tryz.func203.trans (congrArg some (by kernel_rfl))
  f343 := Tryz.func205.trans (congrArg some (by kernel_rfl))
  t0 := Tryz.underlying0
  a0 := Tryz.isAgg0
  z0 := Tryz.sizeOf0
  v0 := Tryz.zeroValue0
  t3 := Tryz.underlying3
  a3 := Tryz.isAgg3
  z3 := Tryz.sizeOf3
  v3 := Tryz.zeroValue3
  t4 := Tryz.underlying4
  a4 := Tryz.isAgg4
  z4 := Tryz.sizeOf4
  v4 := Tryz.zeroValue4
  t5 := Tryz.underlying5
  a5 := Tryz.isAgg5
  z5 := Tryz.sizeOf5
  v5 := Tryz.zeroValue5
  t9 := Tryz.underlying9
  a9 := Tryz.isAgg9
  z9 := Tryz.sizeOf9
  v9 := Tryz.zeroValue9
  t28 := Tryz.underlying27
  a28 := Tryz.isAgg27
  z28 := Tryz.sizeOf27
  v28 := Tryz.zeroValue27
  t46 := Tryz.underlying189
  a46 := Tryz.isAgg189
  z46 := Tryz.sizeOf189
  v46 := Tryz.zeroValue189
  t51 := Tryz.underlying213
  a51 := Tryz.isAgg213
  z51 := Tryz.sizeOf213
  v51 := Tryz.zeroValue213
  t53 := Tryz.underlying215
  a53 := Tryz.isAgg215
  z53 := Tryz.sizeOf215
  v53 := Tryz.zeroValue215
  t131 := Tryz.underlying200
  a131 := Tryz.isAgg200
  z131 := Tryz.sizeOf200
  v131 := Tryz.zeroValue200
  t182 := Tryz.underlying206
  a182 := Tryz.isAgg206
  z182 := Tryz.sizeOf206
  v182 := Tryz.zeroValue206
  t183 := Tryz.underlying207
  a183 := Tryz.isAgg207
  z183 := Tryz.sizeOf207
  v183 := Tryz.zeroValue207
  t218 := Tryz.underlying226
  a218 := Tryz.isAgg226
  z218 := Tryz.sizeOf226
  v218 := Tryz.zeroValue226
  t222 := Tryz.underlying230
  a222 := Tryz.isAgg230
  z222 := Tryz.sizeOf230
  v222 := Tryz.zeroValue230
  t228 := Tryz.underlying235
  a228 := Tryz.isAgg235
  z228 := Tryz.sizeOf235
  v228 := Tryz.zeroValue235
  t229 := Tryz.underlying127
  a229 := Tryz.isAgg127
  z229 := Tryz.sizeOf127
  v229 := Tryz.zeroValue127 }
def Tryz.compI_ren : Go.Shelf.Ren := ⟨fun | 20 => 190 | n => n, fun | 22 => 27 | 3 => 3 | 4 => 4 | 0 => 0 | n => n, fun | n => n⟩
theorem Tryz.compI : Go.Proofs.Lays2.n20 Tryz.prog Tryz.compI_ren := {
  mixed := by kernel_rfl
  f20 := Tryz.func190.trans (congrArg some (by kernel_rfl))
  t0 := Tryz.underlying0
  a0 := Tryz.isAgg0
  z0 := Tryz.sizeOf0
  v0 := Tryz.zeroValue0
  t3 := Tryz.underlying3
  a3 := Tryz.isAgg3
  z3 := Tryz.sizeOf3
  v3 := Tryz.zeroValue3
  t4 := Tryz.underlying4
  a4 := Tryz.isAgg4
  z4 := Tryz.sizeOf4
  v4 := Tryz.zeroValue4
  t22 := Tryz.underlying27
  a22 := Tryz.isAgg27
  z22 := Tryz.sizeOf27
  v22 := Tryz.zeroValue27
  i3 := by kernel_rfl }
end Go.Proofs
end
section
set_option linter.unusedVariables false
set_option maxRecDepth 100000
namespace Go.Abs
open Go Go.RowKit Go.Shelf Go.Lib Go.Sort Go.Proofs
attribute [local go_sem] Oper.semAt_some
def linesF (l : List Int) : List Int := Lib.compact (l.mergeSort fun x y => decide (x ≤ y))
theorem linesF_len (l : List Int) : (linesF l).length ≤ l.length := by
  unfold linesF
  have := Lib.compact_length_le (l.mergeSort fun x y => decide (x ≤ y))
  rw [List.length_mergeSort] at this
  exact this
theorem lines_walk0 (w : World) : Calls prog 186 #[.slice none 0 0] w fun e w' => e = .returned (.slice none 0 0) ∧ w' = w := by
  have mixed := hmix
  have hs := Any.slices_Sort_int_none Tryz.sortI none 0
  have hc := Any.slices_Compact_int_empty Tryz.compI none 0
  change ∀ w, Calls prog 189 _ w _ at hs
  change ∀ w, Calls prog 190 _ w _ at hc
  go_enter Go.Proofs.Tryz.func186, Go.Proofs.Tryz.ntmps186
  go_wp2_with (first
    | (go_at_call 189; refine (hs _).mono ?_; rintro e w1 ⟨rfl, rfl⟩)
    | (go_at_call 190; refine (hc _).mono ?_; rintro e w1 ⟨rfl, rfl⟩))
  go_ret
  exact ⟨rfl, rfl⟩
theorem lines_walk (w : World) (g C n : Nat) (zs : List Int) (hl : zs.length = n) (hn : n ≤ C) (hC : n ≤ 1000000) (hg : g < w.heap.size) (hH : Holds (Value.int .i64) w g 0 zs.toArray) :
    Calls prog 186 #[.slice (some ⟨g, 0, none⟩) n C] w fun e w' => e = .returned (.slice (some ⟨g, 0, none⟩) (linesF zs).length C) ∧
      ∃ nn os q, w' = putRow (Value.int .i64) (Sort.ahead (grow (putRow (Value.int .i64) (Sort.ahead w nn) g 0 (zs.mergeSort fun x y => decide (x ≤ y)).toArray) os) q) g 0 (linesF zs ++ List.replicate (n - (linesF zs).length) 0).toArray := by
  have mixed := hmix
  have hsort := Any.slices_Sort_int Tryz.sortI g 0 C zs w hH hg (by omega)
  change Calls prog 189 _ w _ at hsort
  rw [hl] at hsort
  have hl2 : (zs.mergeSort fun x y => decide (x ≤ y)).length = n := by rw [List.length_mergeSort]; exact hl
  have X : Aside (Holds (Value.int .i64) w g 0 zs.toArray ∧ g < w.heap.size) := ⟨hH, hg⟩
  clear hH hg
  go_enter Go.Proofs.Tryz.func186, Go.Proofs.Tryz.ntmps186
  go_wp2_with (first
    | (go_at_call 189; refine hsort.mono ?_; rintro e w2 ⟨rfl, nn, os, rfl⟩
       have hH2 : Holds (Value.int .i64) (grow (putRow (Value.int .i64) (Sort.ahead w nn) g 0 (zs.mergeSort fun x y => decide (x ≤ y)).toArray) os) g 0 (zs.mergeSort fun x y => decide (x ≤ y)).toArray :=
         holds_grow (Value.int .i64) _ os g 0 _ (by simpa [putRow, mapBlock, Sort.ahead] using X.out.2) (holds_putRow (Value.int .i64) _ g 0 _ _ (holds_ahead (Value.int .i64) w nn g 0 _ X.out.1) (by simp))
       have hcomp := Any.slices_Compact_int Tryz.compI g 0 C (zs.mergeSort fun x y => decide (x ≤ y)) _ hH2 (by omega) (by omega)
       change Calls prog 190 _ _ _ at hcomp
       rw [hl2] at hcomp
       clear hH2 hsort)
    | (go_at_call 190; refine hcomp.mono ?_; rintro e w3 ⟨rfl, q, rfl⟩))
  go_ret
  exact ⟨rfl, nn, os, q, rfl⟩
theorem putCells_get {d : List Int} {cv : Array Value} {i : Nat} (hi : i < d.length) (hs : d.length ≤ cv.size) : (putCells (Value.int .i64) 0 d.toArray cv)[i]? = some (.int .i64 (d.getD i 0)) := by
  have h2 : i < cv.size := by omega
  simp only [putCells, Array.getElem?_mapIdx, Array.getElem?_eq_getElem h2, Option.map_some, List.size_toArray, Nat.zero_le, Nat.zero_add, hi, true_and, if_true, Nat.sub_zero]
  simp [hi]
theorem putCells_size (d : Array Int) (cv : Array Value) : (putCells (Value.int .i64) 0 d cv).size = cv.size := by simp [putCells]
theorem lines_c (n : Nat) (A : Nat → Int) (hn : n ≤ 1000000) : FnK prog 186 n A (linesF ((List.range n).map A)).length (fun i => (linesF ((List.range n).map A)).getD i 0) := by
  refine ⟨⟨_, Go.Proofs.Tryz.func186, rfl, by kernel_rfl⟩, fun w v0 => ⟨fun e h0 => ?_, fun g C cv T e hC hh hsz hcell => ?_⟩⟩
  · subst e h0
    refine ⟨by have := linesF_len ((List.range 0).map A); simpa using this, (lines_walk0 w).mono fun e w' ⟨he, hw⟩ => ⟨he, by rw [hw]; exact Below.refl _ _⟩⟩
  · subst e
    have hll := linesF_len ((List.range n).map A)
    simp only [List.length_map, List.length_range] at hll
    refine ⟨hll, ?_⟩
    have hl : ((List.range n).map A).length = n := by simp
    generalize hzs : (List.range n).map A = zs at *
    have hzi : ∀ i, i < n → zs.getD i 0 = A i := fun i hi => by rw [← hzs]; simp [hi]
    have hH : Holds (Value.int .i64) w g 0 zs.toArray := fun j hj => by
      have hj' : j < n := by simpa [hl] using hj
      have hcj := hcell j hj'
      have hdj : zs.toArray[j]! = A j := by
        rw [← hzi j hj', getElem!_pos zs.toArray j hj]
        simp [List.getD_eq_getElem?_getD, hl, hj']
      refine ⟨?_, ?_⟩
      · rw [hdj, Nat.zero_add]
        simp only [World.cell?, hh, hcj]
        rfl
      · simp [World.frozen?, hh]
    refine (lines_walk w g C n zs hl hC hn (heap_lt hh) hH).mono fun e w' ⟨he, nn, os, q, hw⟩ => ⟨he, ?_⟩
    generalize hd' : zs.mergeSort (fun x y => decide (x ≤ y)) = d1 at hw
    have hd1 : d1.length = n := by rw [← hd', List.length_mergeSort]; exact hl
    refine ⟨putCells (Value.int .i64) 0 (linesF zs ++ List.replicate (n - (linesF zs).length) 0).toArray (putCells (Value.int .i64) 0 d1.toArray cv),
      putRow (Value.int .i64) (putRow (Value.int .i64) (Sort.ahead w nn) g 0 d1.toArray) g 0 (linesF zs ++ List.replicate (n - (linesF zs).length) 0).toArray, by rw [putCells_size, putCells_size]; exact hsz, fun i hi => ?_, by simp [putRow, mapBlock, Sort.ahead], rfl, rfl, rfl, fun k hk => ?_, ?_, ?_⟩
    · rw [putCells_get (by simp; omega) (by rw [putCells_size]; simp; omega)]
      simp only [List.getD_eq_getElem?_getD]
      rw [List.getElem?_append_left hi]
    · simp only [putRow, mapBlock, Sort.ahead, Array.getElem?_modify]
      rw [if_neg (fun e => hk e.symm), if_neg (fun e => hk e.symm)]
    · simp only [putRow, mapBlock, Sort.ahead, Array.getElem?_modify, if_true, hh, Option.map_some, onCells]
    · rw [hw]
      refine ⟨rfl, rfl, rfl, by simp [putRow, mapBlock, Sort.ahead, grow], fun k hk => ?_⟩
      have hgs := heap_lt hh
      have hk' : k < w.heap.size := by simpa [putRow, mapBlock, Sort.ahead] using hk
      simp only [putRow, mapBlock, Sort.ahead, grow, Array.getElem?_modify, Array.getElem?_append_left (show k < (w.heap.modify g _).size by simpa using hk')]
end Go.Abs
end
