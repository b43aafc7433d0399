/- slices.SortFunc of a row of numbers, the greatest first: by the library's contract. -/
import Derived.Test.YtpllaeomcjplnaaShelf
import Derived.Shelf.SlSortCmp.NoneTotal
import Derived.Lib.RowBridge
import Derived.Lib.SortBridge
set_option linter.unusedVariables false
set_option maxRecDepth 100000
namespace Go.Abs
open Go Go.RowKit Go.Shelf Go.Lib Go.Sort Go.Proofs
attribute [local go_sem] Oper.semAt_some

def sortD (l : List Int) : List Int := l.mergeSort fun x y => decide (y ≤ x)
/-- The numbers that are sorted: lengths of parts. -/
abbrev Sm := Fin 16384
def encS (x : Sm) : Value := .int .i64 (x.val : Int)
def cfS (x y : Sm) : Int := (y.val : Int) - (x.val : Int)
theorem ltS (x y : Sm) : ltOf cfS x y = decide (y.val < x.val) := by
  unfold ltOf cfS
  rw [decide_eq_decide]; omega
theorem swoS : SWO (ltOf cfS) where
  irrefl x := by rw [ltS]; simp
  trans x y z h1 h2 := by rw [ltS, decide_eq_true_eq] at *; omega
  ntrans x y z h1 h2 := by rw [ltS, decide_eq_false_iff_not] at *; omega
theorem totS (x y : Sm) (h1 : ltOf cfS x y = false) (h2 : ltOf cfS y x = false) : x = y := by
  rw [ltS, decide_eq_false_iff_not] at *
  exact Fin.ext (by omega)
theorem geS : (fun x y : Sm => !ltOf cfS y x) = fun x y => decide (y.val ≤ x.val) := by
  funext x y
  rw [ltS]
  by_cases h : y.val ≤ x.val
  · rw [decide_eq_true h, decide_eq_false (by omega)]; rfl
  · rw [decide_eq_false h, decide_eq_true (by omega)]; rfl

set_option maxHeartbeats 1000000 in
theorem cmp_in (x y : Sm) (W : World) : Calls prog 35 #[encS x, encS y] W fun e w' => e = .returned (.int .i64 (cfS x y)) ∧ ∃ q, w' = W.drewN q := by
  have mixed := hmix
  have h1 := x.isLt
  have h2 := y.isLt
  unfold encS cfS
  generalize x.val = a at *
  generalize y.val = b at *
  go_enter Go.Proofs.Try.func35, Go.Proofs.Try.ntmps35
  go_wp2
  go_ret
  exact ⟨rfl, 0, rfl⟩

def toS (x : Int) : Sm := ⟨x.toNat % 16384, Nat.mod_lt _ (by decide)⟩
theorem enc_toS {x : Int} (h0 : 0 ≤ x) (h1 : x ≤ 10000) : ((toS x).val : Int) = x := by
  unfold toS
  show ((x.toNat % 16384 : Nat) : Int) = x
  omega
/-- Sorted, as numbers. -/
theorem sorted_nums (l : List Int) (h : ∀ x ∈ l, 0 ≤ x ∧ x ≤ 10000) : ((l.map toS).mergeSort fun x y => !ltOf cfS y x).map (fun x => (x.val : Int)) = sortD l := by
  rw [geS, List.map_mergeSort (s := fun x y : Int => decide (y ≤ x))]
  · rw [List.map_map, sortD]
    congr 1
    conv => rhs; rw [← List.map_id l]
    exact List.map_congr_left fun x hx => enc_toS (h x hx).1 (h x hx).2
  · intro a _ b _
    rw [decide_eq_decide]; omega
theorem sort_c (n : Nat) (A : Nat → Int) (hn : n ≤ 1000000) (hA : ∀ i, i < n → 0 ≤ A i ∧ A i ≤ 10000) : FnT prog 34 n A (fun i => (sortD ((List.range n).map A)).getD i 0) [.val (.func (.func 35) #[] #[])] := by
  refine ⟨⟨_, Go.Proofs.Try.func34, rfl, by kernel_rfl⟩, fun w v0 vs hs hv => ?_⟩
  match vs, hs with
  | [v1], _ =>
    have r1 := hv 0 _ _ rfl rfl
    cases r1
    refine ⟨fun e h0 => ?_, fun g C cv T e hC hh hsz hcell => ?_⟩
    · subst e
      have hS := AnyF.slices_SortFunc_none (P := prog) (ρ := Try.sortL_ren) { Try.sortL with } none 0 (.func (.func 35) #[] #[]) w
      change Calls prog 34 _ _ _ at hS
      exact hS.mono fun e w' ⟨he, hw⟩ => ⟨he, by rw [hw]; exact Below.refl _ _⟩
    · subst e
      have hl : ∀ x ∈ (List.range n).map A, 0 ≤ x ∧ x ≤ 10000 := fun x hx => by
        obtain ⟨i, hi, rfl⟩ := List.mem_map.1 hx
        exact hA i (List.mem_range.1 hi)
      have hd : ((((List.range n).map A).map toS).toArray).size = n := by simp
      have eg : ∀ args w, (callFunc 35 args).run prog w = .ok (.enter 35 args) w := enters_of Go.Proofs.Try.func35 (by kernel_rfl) rfl
      have hH : Holds encS w g 0 (((List.range n).map A).map toS).toArray := fun j hj => by
        rw [hd] at hj
        have hcj := hcell j hj
        have hdj : (((List.range n).map A).map toS).toArray[j]! = toS (A j) := by simp [hj]
        refine ⟨?_, ?_⟩
        · rw [hdj, encS, enc_toS (hA j hj).1 (hA j hj).2, Nat.zero_add]
          simp only [World.cell?, hh, hcj]
          rfl
        · simp [World.frozen?, hh]
      have hS := Any.slices_SortFunc_total Try.sortL encS (fun _ => rfl) cfS swoS 35 #[] g 0 C (((List.range n).map A).map toS).toArray w eg (CmpReads.lays (fun _ _ _ _ x y => cmp_in x y _)) hH (heap_lt hh) (by rw [hd]; omega) totS
      change Calls prog 34 _ _ _ at hS
      rw [hd] at hS
      refine hS.mono fun e w' ⟨he, m, os, hw⟩ => ⟨he, ?_⟩
      have hsn := sorted_nums _ hl
      generalize hd' : (((List.range n).map A).map toS).toArray.toList.mergeSort (fun x y => !ltOf cfS y x) = d' at hw
      rw [List.toList_toArray] at hd'
      rw [hd'] at hsn
      have hdl : d'.length = n := by rw [← hd', List.length_mergeSort]; simp
      refine ⟨putCells encS 0 d'.toArray cv, putRow encS (Sort.ahead w m) g 0 d'.toArray, by simp [putCells, hsz], fun i hi => ?_, by simp [putRow, mapBlock, Sort.ahead], rfl, rfl, rfl, fun k hk => ?_, ?_, ?_⟩
      · have h1 : i < d'.length := by omega
        have h2 : i < cv.size := by omega
        have h3 : (sortD ((List.range n).map A)).getD i 0 = ((d'[i]'h1).val : Int) := by rw [← hsn]; simp [h1]
        show (putCells encS 0 d'.toArray cv)[i]? = some (Value.int IntKind.i64 ((sortD ((List.range n).map A)).getD i 0))
        rw [h3]
        simp only [putCells, Array.getElem?_mapIdx, Array.getElem?_eq_getElem h2, Option.map_some, List.size_toArray, Nat.zero_le, Nat.zero_add, h1, true_and, if_true, Nat.sub_zero, encS]
        simp [h1]
      · simp only [putRow, mapBlock, Sort.ahead, Array.getElem?_modify]
        rw [if_neg (fun e => hk e.symm)]
      · simp only [putRow, mapBlock, Sort.ahead, Array.getElem?_modify, if_true, hh, Option.map_some, onCells]
      · rw [hw]
        refine ⟨rfl, rfl, rfl, by simp [sortWorld, grow], fun k hk => ?_⟩
        simp only [sortWorld, grow]
        rw [Array.getElem?_append_left hk]
end Go.Abs
