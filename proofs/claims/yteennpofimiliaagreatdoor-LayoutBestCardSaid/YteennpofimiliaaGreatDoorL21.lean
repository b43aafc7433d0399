/- DERIVED: THE SHELF's CONTRACTS AT THIS DUMP, IN PLAIN WORDS (tools/lay-plain.mjs out of 'YteennpofimiliaaGreatDoorShelg.lean', which tools/lay-shelf.mjs wrote): THE SAME DECLARATIONS UNDER THE SAME NAMES: 'import', 'namespace', 'open', 'def', 'theorem' AND NOTHING ELSE: no command of the shelf's: FOR A HAND-IN. Each laying: the table of numbers ('.._ren') and one theorem, a field a fact of the dump's own or the kernel's comparison; each contract: ONE APPLICATION. slices.SortFunc of a row of numbers, the greatest first: by the library's contract. Contracts. -/
import Derived.Shelf.SlSortCmp.NoneTotal
import Derived.Ground.SlsfProg
import Derived.Test.YteennpofimiliaaGreatDoorProg
import Derived.Test.YteennpofimiliaaGreatDoorL1
import Derived.Lib.RowBridge
import Derived.Lib.SortBridge
import Derived.Test.YteennpofimiliaaGreatDoorL10
section
section
namespace Go.Proofs
open Go.Shelf
def Tryz.sortL_ren : Go.Shelf.Ren := ⟨fun | 6 => 89 | 15 => 133 | 14 => 132 | 28 => 166 | 29 => 167 | 20 => 158 | 21 => 159 | 22 => 160 | 23 => 161 | 24 => 162 | 25 => 163 | 26 => 164 | 27 => 165 | 46 => 180 | 47 => 181 | 48 => 182 | 49 => 183 | 50 => 184 | 57 => 188 | n => n, fun | 22 => 27 | 24 => 3 | 25 => 108 | 3 => 3 | 39 => 189 | 0 => 0 | 53 => 213 | 55 => 215 | 4 => 4 | 46 => 207 | 45 => 206 | 50 => 200 | 5 => 5 | 9 => 9 | 66 => 226 | 70 => 230 | 76 => 235 | 77 => 127 | n => n, fun | n => n⟩
theorem Tryz.sortL : Go.Proofs.SlLaysF.n6 Tryz.prog Tryz.sortL_ren := {
  mixed := by kernel_rfl
  f6 := ⟨Tryz.f89.name, by decide, Tryz.func89.trans (congrArg some (by kernel_rfl))⟩
  f14 := ⟨Tryz.f132.name, by decide, Tryz.func132.trans (congrArg some (by kernel_rfl))⟩
  f15 := Tryz.func133.trans (congrArg some (by kernel_rfl))
  f20 := ⟨Tryz.f158.name, by decide, Tryz.func158.trans (congrArg some (by kernel_rfl))⟩
  f21 := ⟨Tryz.f159.name, by decide, Tryz.func159.trans (congrArg some (by kernel_rfl))⟩
  f22 := ⟨Tryz.f160.name, by decide, Tryz.func160.trans (congrArg some (by kernel_rfl))⟩
  f23 := ⟨Tryz.f161.name, by decide, Tryz.func161.trans (congrArg some (by kernel_rfl))⟩
  f24 := ⟨Tryz.f162.name, by decide, Tryz.func162.trans (congrArg some (by kernel_rfl))⟩
  f25 := ⟨Tryz.f163.name, by decide, Tryz.func163.trans (congrArg some (by kernel_rfl))⟩
  f26 := ⟨Tryz.f164.name, by decide, Tryz.func164.trans (congrArg some (by kernel_rfl))⟩
  f27 := ⟨Tryz.f165.name, by decide, Tryz.func165.trans (congrArg some (by kernel_rfl))⟩
  f28 := Tryz.func166.trans (congrArg some (by kernel_rfl))
  f29 := Tryz.func167.trans (congrArg some (by kernel_rfl))
  f46 := ⟨Tryz.f180.name, by decide, Tryz.func180.trans (congrArg some (by kernel_rfl))⟩
  f47 := Tryz.func181.trans (congrArg some (by kernel_rfl))
  f48 := Tryz.func182.trans (congrArg some (by kernel_rfl))
  f49 := ⟨Tryz.f183.name, by decide, Tryz.func183.trans (congrArg some (by kernel_rfl))⟩
  f50 := ⟨Tryz.f184.name, by decide, Tryz.func184.trans (congrArg some (by kernel_rfl))⟩
  f57 := ⟨Tryz.f188.name, by decide, Tryz.func188.trans (congrArg some (by kernel_rfl))⟩
  t0 := Tryz.underlying0
  a0 := Tryz.isAgg0
  z0 := Tryz.sizeOf0
  v0 := Tryz.zeroValue0
  t3 := Tryz.underlying3
  a3 := Tryz.isAgg3
  z3 := Tryz.sizeOf3
  v3 := Tryz.zeroValue3
  t4 := Tryz.underlying4
  a4 := Tryz.isAgg4
  z4 := Tryz.sizeOf4
  v4 := Tryz.zeroValue4
  t5 := Tryz.underlying5
  a5 := Tryz.isAgg5
  z5 := Tryz.sizeOf5
  v5 := Tryz.zeroValue5
  t9 := Tryz.underlying9
  a9 := Tryz.isAgg9
  z9 := Tryz.sizeOf9
  v9 := Tryz.zeroValue9
  t22 := Tryz.underlying27
  a22 := Tryz.isAgg27
  z22 := Tryz.sizeOf27
  v22 := Tryz.zeroValue27
  a24 := Tryz.isAgg3
  z24 := Tryz.sizeOf3
  t25 := Tryz.underlying108
  a25 := Tryz.isAgg108
  z25 := Tryz.sizeOf108
  v25 := Tryz.zeroValue108
  t39 := Tryz.underlying189
  a39 := Tryz.isAgg189
  z39 := Tryz.sizeOf189
  v39 := Tryz.zeroValue189
  t45 := Tryz.underlying206
  a45 := Tryz.isAgg206
  z45 := Tryz.sizeOf206
  v45 := Tryz.zeroValue206
  t46 := Tryz.underlying207
  a46 := Tryz.isAgg207
  z46 := Tryz.sizeOf207
  v46 := Tryz.zeroValue207
  t50 := Tryz.underlying200
  a50 := Tryz.isAgg200
  z50 := Tryz.sizeOf200
  v50 := Tryz.zeroValue200
  t53 := Tryz.underlying213
  a53 := Tryz.isAgg213
  z53 := Tryz.sizeOf213
  v53 := Tryz.zeroValue213
  t55 := Tryz.underlying215
  a55 := Tryz.isAgg215
  z55 := Tryz.sizeOf215
  v55 := Tryz.zeroValue215
  t66 := Tryz.underlying226
  a66 := Tryz.isAgg226
  z66 := Tryz.sizeOf226
  v66 := Tryz.zeroValue226
  t70 := Tryz.underlying230
  a70 := Tryz.isAgg230
  z70 := Tryz.sizeOf230
  v70 := Tryz.zeroValue230
  t76 := Tryz.underlying235
  a76 := Tryz.isAgg235
  z76 := Tryz.sizeOf235
  v76 := Tryz.zeroValue235
  t77 := Tryz.underlying127
  a77 := Tryz.isAgg127
  z77 := Tryz.sizeOf127
  v77 := Tryz.zeroValue127 }
end Go.Proofs
end
section
set_option linter.unusedVariables false
set_option maxRecDepth 100000
namespace Go.Abs.Lay
open Go Go.RowKit Go.Shelf Go.Lib Go.Sort Go.Proofs
attribute [local go_sem] Oper.semAt_some

def sortD (l : List Int) : List Int := l.mergeSort fun x y => decide (y ≤ x)
/-- The numbers that are sorted: lengths of parts. -/
abbrev Sm := Fin 16384
def encS (x : Sm) : Value := .int .i64 (x.val : Int)
def cfS (x y : Sm) : Int := (y.val : Int) - (x.val : Int)
theorem ltS (x y : Sm) : ltOf cfS x y = decide (y.val < x.val) := by
  unfold ltOf cfS
  rw [decide_eq_decide]; omega
theorem swoS : SWO (ltOf cfS) where
  irrefl x := by rw [ltS]; simp
  trans x y z h1 h2 := by rw [ltS, decide_eq_true_eq] at *; omega
  ntrans x y z h1 h2 := by rw [ltS, decide_eq_false_iff_not] at *; omega
theorem totS (x y : Sm) (h1 : ltOf cfS x y = false) (h2 : ltOf cfS y x = false) : x = y := by
  rw [ltS, decide_eq_false_iff_not] at *
  exact Fin.ext (by omega)
theorem geS : (fun x y : Sm => !ltOf cfS y x) = fun x y => decide (y.val ≤ x.val) := by
  funext x y
  rw [ltS]
  by_cases h : y.val ≤ x.val
  · rw [decide_eq_true h, decide_eq_false (by omega)]; rfl
  · rw [decide_eq_false h, decide_eq_true (by omega)]; rfl

set_option maxHeartbeats 1000000 in
theorem cmp_in (x y : Sm) (W : World) : Calls prog 90 #[encS x, encS y] W fun e w' => e = .returned (.int .i64 (cfS x y)) ∧ ∃ q, w' = W.drewN q := by
  have mixed := hmix
  have h1 := x.isLt
  have h2 := y.isLt
  unfold encS cfS
  generalize x.val = a at *
  generalize y.val = b at *
  go_enter Go.Proofs.Tryz.func90, Go.Proofs.Tryz.ntmps90
  go_wp2
  go_ret
  exact ⟨rfl, 0, rfl⟩

def toS (x : Int) : Sm := ⟨x.toNat % 16384, Nat.mod_lt _ (by decide)⟩
theorem enc_toS {x : Int} (h0 : 0 ≤ x) (h1 : x ≤ 10000) : ((toS x).val : Int) = x := by
  unfold toS
  show ((x.toNat % 16384 : Nat) : Int) = x
  omega
/-- Sorted, as numbers. -/
theorem sorted_nums (l : List Int) (h : ∀ x ∈ l, 0 ≤ x ∧ x ≤ 10000) : ((l.map toS).mergeSort fun x y => !ltOf cfS y x).map (fun x => (x.val : Int)) = sortD l := by
  rw [geS, List.map_mergeSort (s := fun x y : Int => decide (y ≤ x))]
  · rw [List.map_map, sortD]
    congr 1
    conv => rhs; rw [← List.map_id l]
    exact List.map_congr_left fun x hx => enc_toS (h x hx).1 (h x hx).2
  · intro a _ b _
    rw [decide_eq_decide]; omega
theorem sort_c (n : Nat) (A : Nat → Int) (hn : n ≤ 1000000) (hA : ∀ i, i < n → 0 ≤ A i ∧ A i ≤ 10000) : FnT prog 89 n A (fun i => (sortD ((List.range n).map A)).getD i 0) [.val (.func (.func 90) #[] #[])] := by
  refine ⟨⟨_, Go.Proofs.Tryz.func89, rfl, by kernel_rfl⟩, fun w v0 vs hs hv => ?_⟩
  match vs, hs with
  | [v1], _ =>
    have r1 := hv 0 _ _ rfl rfl
    cases r1
    refine ⟨fun e h0 => ?_, fun g C cv T e hC hh hsz hcell => ?_⟩
    · subst e
      have hS := AnyF.slices_SortFunc_none (P := prog) (ρ := Tryz.sortL_ren) { Tryz.sortL with } none 0 (.func (.func 90) #[] #[]) w
      change Calls prog 89 _ _ _ at hS
      exact hS.mono fun e w' ⟨he, hw⟩ => ⟨he, by rw [hw]; exact Below.refl _ _⟩
    · subst e
      have hl : ∀ x ∈ (List.range n).map A, 0 ≤ x ∧ x ≤ 10000 := fun x hx => by
        obtain ⟨i, hi, rfl⟩ := List.mem_map.1 hx
        exact hA i (List.mem_range.1 hi)
      have hd : ((((List.range n).map A).map toS).toArray).size = n := by simp
      have eg : ∀ args w, (callFunc 90 args).run prog w = .ok (.enter 90 args) w := enters_of Go.Proofs.Tryz.func90 (by kernel_rfl) rfl
      have hH : Holds encS w g 0 (((List.range n).map A).map toS).toArray := fun j hj => by
        rw [hd] at hj
        have hcj := hcell j hj
        have hdj : (((List.range n).map A).map toS).toArray[j]! = toS (A j) := by simp [hj]
        refine ⟨?_, ?_⟩
        · rw [hdj, encS, enc_toS (hA j hj).1 (hA j hj).2, Nat.zero_add]
          simp only [World.cell?, hh, hcj]
          rfl
        · simp [World.frozen?, hh]
      have hS := Any.slices_SortFunc_total Tryz.sortL encS (fun _ => rfl) cfS swoS 90 #[] g 0 C (((List.range n).map A).map toS).toArray w eg (CmpReads.lays (fun _ _ _ _ x y => cmp_in x y _)) hH (heap_lt hh) (by rw [hd]; omega) totS
      change Calls prog 89 _ _ _ at hS
      rw [hd] at hS
      refine hS.mono fun e w' ⟨he, m, os, hw⟩ => ⟨he, ?_⟩
      have hsn := sorted_nums _ hl
      generalize hd' : (((List.range n).map A).map toS).toArray.toList.mergeSort (fun x y => !ltOf cfS y x) = d' at hw
      rw [List.toList_toArray] at hd'
      rw [hd'] at hsn
      have hdl : d'.length = n := by rw [← hd', List.length_mergeSort]; simp
      refine ⟨putCells encS 0 d'.toArray cv, putRow encS (Sort.ahead w m) g 0 d'.toArray, by simp [putCells, hsz], fun i hi => ?_, by simp [putRow, mapBlock, Sort.ahead], rfl, rfl, rfl, fun k hk => ?_, ?_, ?_⟩
      · have h1 : i < d'.length := by omega
        have h2 : i < cv.size := by omega
        have h3 : (sortD ((List.range n).map A)).getD i 0 = ((d'[i]'h1).val : Int) := by rw [← hsn]; simp [h1]
        show (putCells encS 0 d'.toArray cv)[i]? = some (Value.int IntKind.i64 ((sortD ((List.range n).map A)).getD i 0))
        rw [h3]
        simp only [putCells, Array.getElem?_mapIdx, Array.getElem?_eq_getElem h2, Option.map_some, List.size_toArray, Nat.zero_le, Nat.zero_add, h1, true_and, if_true, Nat.sub_zero, encS]
        simp [h1]
      · simp only [putRow, mapBlock, Sort.ahead, Array.getElem?_modify]
        rw [if_neg (fun e => hk e.symm)]
      · simp only [putRow, mapBlock, Sort.ahead, Array.getElem?_modify, if_true, hh, Option.map_some, onCells]
      · rw [hw]
        refine ⟨rfl, rfl, rfl, by simp [sortWorld, grow], fun k hk => ?_⟩
        simp only [sortWorld, grow]
        rw [Array.getElem?_append_left hk]
end Go.Abs.Lay
end
end
section
set_option linter.unusedVariables false
set_option linter.unusedSimpArgs false
set_option maxRecDepth 100000
namespace Go.Abs.Lay
open Go
/-- Whether a part leads on from so many units; the first one that does; how the units go; the bays and boards that are taken. -/
def okP (u : Nat) (X C T : Nat → Int) (k i : Nat) : Bool := decide (unitsOf u (X i) ≤ k ∧ 0 ≤ T (k - unitsOf u (X i)) ∧ T (k - unitsOf u (X i)) + C i = T k)
def pickP (u n : Nat) (X C T : Nat → Int) (k : Nat) : Nat := ((List.range n).find? (okP u X C T k)).getD 0
def kAt (u n : Nat) (X C T : Nat → Int) (K : Nat) : Nat → Nat
  | 0 => K
  | j + 1 => kAt u n X C T K j - unitsOf u (X (pickP u n X C T (kAt u n X C T K j)))
def takeL (u n : Nat) (X C T : Nat → Int) (b : Nat → Bool) (s : Bool) (K : Nat) : Nat → List Int
  | 0 => []
  | j + 1 => if kAt u n X C T K j ≠ 0 ∧ b (pickP u n X C T (kAt u n X C T K j)) = s then takeL u n X C T b s K j ++ [X (pickP u n X C T (kAt u n X C T K j))] else takeL u n X C T b s K j
abbrev lstD (l : List Int) : DV := nums l.length (fun i => l.getD i 0)
/-- What is taken, in order; nothing where there is no way. -/
def okC (u : Nat) (T : Nat → Int) (len : Int) : Bool := decide (len % (u : Int) = 0 ∧ 0 ≤ T (len / (u : Int)).toNat)
def closL (u n : Nat) (X C T : Nat → Int) (b : Nat → Bool) (s : Bool) (len : Int) : List Int := if okC u T len = true then sortD (takeL u n X C T b s (len / (u : Int)).toNat (len / (u : Int)).toNat) else []
def rSort : Orc := .turn fun l i => (sortD ((List.range (lenOf (arg l 0))).map (colI 0 (arg l 0)))).getD i 0
theorem bestF_att {l : List (Nat × Int)} {T : Nat → Int} {k : Nat} (hc : ∀ p ∈ l, 0 ≤ p.2) : ∀ (b : Int), 0 ≤ l.foldl (fun b p => minP b (candL T k p)) b → l.foldl (fun b p => minP b (candL T k p)) b = b ∨ ∃ p ∈ l, 0 ≤ candL T k p ∧ candL T k p = l.foldl (fun b p => minP b (candL T k p)) b := by
  induction l with
  | nil => intro b _; exact .inl rfl
  | cons q l ih =>
    intro b h
    have h' : 0 ≤ l.foldl (fun b p => minP b (candL T k p)) (minP b (candL T k q)) := h
    show l.foldl (fun b p => minP b (candL T k p)) (minP b (candL T k q)) = b ∨ ∃ p ∈ q :: l, 0 ≤ candL T k p ∧ candL T k p = l.foldl (fun b p => minP b (candL T k p)) (minP b (candL T k q))
    rcases ih (fun p hp => hc p (List.mem_cons_of_mem _ hp)) _ h' with e | ⟨p, hp, h1, h2⟩
    · rw [e] at h' ⊢
      by_cases hq : candL T k q < 0
      · left; rw [minP, if_pos hq]
      · by_cases hb : b < 0 ∨ candL T k q < b
        · right
          exact ⟨q, List.mem_cons_self, by omega, by rw [minP, if_neg hq, if_pos hb]⟩
        · left; rw [minP, if_neg hq, if_neg hb]
    · exact .inr ⟨p, List.mem_cons_of_mem _ hp, h1, h2⟩
/-- What is taken for granted of a catalogue and its table. -/
structure Tab (u n : Nat) (X C T : Nat → Int) : Prop where
  tab : T = tabL (plX u X C n)
  m1 : ∀ i, i < n → 1 ≤ unitsOf u (X i)
  c0 : ∀ i, i < n → 0 ≤ C i ∧ C i ≤ 10001
theorem Tab.bd {u n : Nat} {X C T : Nat → Int} (h : Tab u n X C T) : ∀ p ∈ plX u X C n, 0 ≤ p.2 ∧ p.2 ≤ 10001 := fun p hp => by
  obtain ⟨i, hi, rfl⟩ := List.mem_map.1 hp
  exact h.c0 i (List.mem_range.1 hi)
theorem Tab.zero {u n : Nat} {X C T : Nat → Int} (h : Tab u n X C T) : T 0 = 0 := by rw [h.tab, tabL_zero]
theorem okP_iff {u : Nat} {X C T : Nat → Int} {k i : Nat} : okP u X C T k i = true ↔ unitsOf u (X i) ≤ k ∧ 0 ≤ T (k - unitsOf u (X i)) ∧ T (k - unitsOf u (X i)) + C i = T k := by rw [okP, decide_eq_true_eq]
theorem ok_exists {u n : Nat} {X C T : Nat → Int} (h : Tab u n X C T) {k : Nat} (hk : 0 < k) (hT : 0 ≤ T k) : ∃ i, i < n ∧ okP u X C T k i = true := by
  have e : T k = bestL (plX u X C n) T k := by rw [h.tab]; exact tabL_eq _ hk
  rw [e] at hT
  rcases bestF_att (fun p hp => (h.bd p hp).1) _ hT with h1 | ⟨p, hp, h1, h2⟩
  · unfold bestL at hT; rw [h1] at hT; omega
  · obtain ⟨i, hi, rfl⟩ := List.mem_map.1 hp
    refine ⟨i, List.mem_range.1 hi, okP_iff.2 ?_⟩
    have h3 : candL T k (unitsOf u (X i), C i) = T k := by rw [h2, e]; rfl
    unfold candL at h1 h3
    by_cases hc : 1 ≤ unitsOf u (X i) ∧ unitsOf u (X i) ≤ k ∧ 0 ≤ T (k - unitsOf u (X i))
    · rw [if_pos hc] at h3
      exact ⟨hc.2.1, hc.2.2, h3⟩
    · rw [if_neg hc] at h1; omega
theorem pick_spec {u n : Nat} {X C T : Nat → Int} (h : Tab u n X C T) {k : Nat} (hk : 0 < k) (hT : 0 ≤ T k) : pickP u n X C T k < n ∧ okP u X C T k (pickP u n X C T k) = true ∧ ∀ j, j < pickP u n X C T k → okP u X C T k j = false := by
  unfold pickP
  cases hf : (List.range n).find? (okP u X C T k) with
  | none =>
    obtain ⟨i, hi, ho⟩ := ok_exists h hk hT
    exact absurd ho (List.find?_eq_none.1 hf i (List.mem_range.2 hi))
  | some i =>
    have := List.find?_range_eq_some.1 hf
    refine ⟨List.mem_range.1 this.2.1, this.1, fun j hj => ?_⟩
    have := this.2.2 j hj
    simpa using this
theorem pick_eq {u n : Nat} {X C T : Nat → Int} (h : Tab u n X C T) {k i : Nat} (hk : 0 < k) (hT : 0 ≤ T k) (ho : okP u X C T k i = true) (hb : ∀ j, j < i → okP u X C T k j = false) : pickP u n X C T k = i := by
  obtain ⟨h1, h2, h3⟩ := pick_spec h hk hT
  rcases Nat.lt_trichotomy (pickP u n X C T k) i with hl | hl | hl
  · rw [hb _ hl] at h2; cases h2
  · exact hl
  · rw [h3 _ hl] at ho; cases ho
section
variable {u n : Nat} {X C T : Nat → Int} {b : Nat → Bool} {K : Nat}
theorem kAt_ok (h : Tab u n X C T) (hK : 0 ≤ T K) : ∀ j, 0 ≤ T (kAt u n X C T K j)
  | 0 => hK
  | j + 1 => by
    have ih := kAt_ok h hK j
    by_cases h0 : kAt u n X C T K j = 0
    · rw [kAt, h0, Nat.zero_sub, h.zero]; omega
    · exact (okP_iff.1 (pick_spec h (by omega) ih).2.1).2.1
theorem kAt_lt (h : Tab u n X C T) (hK : 0 ≤ T K) {j : Nat} (h0 : kAt u n X C T K j ≠ 0) : kAt u n X C T K (j + 1) + unitsOf u (X (pickP u n X C T (kAt u n X C T K j))) = kAt u n X C T K j ∧ 1 ≤ unitsOf u (X (pickP u n X C T (kAt u n X C T K j))) := by
  obtain ⟨h1, h2, _⟩ := pick_spec h (by omega) (kAt_ok h hK j)
  have h3 := (okP_iff.1 h2).1
  have h4 := h.m1 _ h1
  rw [kAt]; omega
theorem kAt_zero {j : Nat} (h0 : kAt u n X C T K j = 0) : ∀ i, j ≤ i → kAt u n X C T K i = 0
  | 0, hi => by rw [show j = 0 by omega] at h0; exact h0
  | i + 1, hi => by
    by_cases e : j = i + 1
    · rw [← e]; exact h0
    · rw [kAt, kAt_zero h0 i (by omega), Nat.zero_sub]
theorem kAt_le (h : Tab u n X C T) (hK : 0 ≤ T K) : ∀ {j : Nat}, (∀ i, i < j → kAt u n X C T K i ≠ 0) → kAt u n X C T K j + j ≤ K
  | 0, _ => Nat.le_refl _
  | j + 1, hj => by
    have := kAt_le h hK (j := j) fun i hi => hj i (by omega)
    have := kAt_lt h hK (hj j (by omega))
    omega
theorem kAt_end (h : Tab u n X C T) (hK : 0 ≤ T K) : kAt u n X C T K K = 0 := by
  apply Classical.byContradiction
  intro h0
  have : ∀ i, i < K + 1 → kAt u n X C T K i ≠ 0 := fun i hi h1 => h0 (kAt_zero h1 K (by omega))
  have := kAt_le h hK this
  omega
theorem take_stay {s : Bool} {j : Nat} (h0 : kAt u n X C T K j = 0) : ∀ i, j ≤ i → takeL u n X C T b s K i = takeL u n X C T b s K j
  | 0, hi => by rw [show j = 0 by omega]
  | i + 1, hi => by
    by_cases e : j = i + 1
    · rw [e]
    · rw [takeL, if_neg (fun hx => hx.1 (kAt_zero h0 i (by omega))), take_stay h0 i (by omega)]
theorem take_len : ∀ {j : Nat}, (∀ i, i < j → kAt u n X C T K i ≠ 0) → (takeL u n X C T b false K j).length + (takeL u n X C T b true K j).length = j
  | 0, _ => rfl
  | j + 1, hj => by
    have ih := take_len (j := j) fun i hi => hj i (by omega)
    have h0 := hj j (by omega)
    simp only [takeL]
    cases hb : b (pickP u n X C T (kAt u n X C T K j)) with
    | false =>
      rw [if_pos ⟨h0, rfl⟩, if_neg (fun hx => by cases hx.2), List.length_append, List.length_singleton]; omega
    | true =>
      rw [if_neg (fun hx => by cases hx.2), if_pos ⟨h0, rfl⟩, List.length_append, List.length_singleton]; omega
theorem take_mem (h : Tab u n X C T) (hK : 0 ≤ T K) {s : Bool} : ∀ {j : Nat} {x : Int}, x ∈ takeL u n X C T b s K j → ∃ i, i < n ∧ x = X i ∧ b i = s
  | 0, x, hx => by cases hx
  | j + 1, x, hx => by
    rw [takeL] at hx
    split at hx
    · rename_i hc
      rcases List.mem_append.1 hx with hx | hx
      · exact take_mem h hK hx
      · exact ⟨_, (pick_spec h (by omega) (kAt_ok h hK j)).1, by simpa using hx, hc.2⟩
    · exact take_mem h hK hx
end
theorem range_getD_self (l : List Int) : (List.range l.length).map (fun i => l.getD i 0) = l := by
  apply List.ext_getElem
  · simp
  · intro i h1 h2; simp [h2]
theorem sortD_perm (l : List Int) : (sortD l).Perm l := List.mergeSort_perm _ _
theorem sortD_len (l : List Int) : (sortD l).length = l.length := (sortD_perm l).length_eq
theorem snocI_getD {l : List Int} {x : Int} {i : Nat} (h : i < (l ++ [x]).length) : (l ++ [x]).getD i 0 = if i < l.length then l.getD i 0 else x := by
  simp only [List.length_append, List.length_cons, List.length_nil] at h
  split
  · rename_i h1
    simp [List.getElem?_append_left h1]
  · rw [show i = l.length by omega]; simp
noncomputable def A23_close_c (u n : Nat) (X C : Nat → Int) (b : Nat → Bool) (T : Nat → Int) (tn : Nat) (len : Int) : Ann := { orc := [(2, [(6, .pos), (14, .pos)]), (4, [(3, .pos)]), (9, [(4, .pos)]), (19, [(1, rSort)])], loops := [(0, { ι := Nat, keep := [1, 2, 3, 6, 8], boxes := [3, 6], ts := fun _ j => [(9, dI (kAt u n X C T (len / (u : Int)).toNat j : Nat))], bx := fun σ j => [(8, [.row 1 (σ.nx + 50) 0 (takeL u n X C T b false (len / (u : Int)).toNat j).length, .row 1 (σ.nx + 51) 0 (takeL u n X C T b true (len / (u : Int)).toNat j).length])], rb := fun _ j => [(8, 0, 1, (takeL u n X C T b false (len / (u : Int)).toNat j).length, [fun i => .val (.int .i64 ((takeL u n X C T b false (len / (u : Int)).toNat j).getD i 0))]), (8, 1, 1, (takeL u n X C T b true (len / (u : Int)).toNat j).length, [fun i => .val (.int .i64 ((takeL u n X C T b true (len / (u : Int)).toNat j).getD i 0))])], inv := fun _ j => ∀ i, i < j → kAt u n X C T (len / (u : Int)).toNat i ≠ 0, mu := fun _ j => kAt u n X C T (len / (u : Int)).toNat j, rd := fun _ σ => nOf (cellOf σ 0 (σ.get 8)) + nOf (cellOf σ 1 (σ.get 8)) }), (2, { ι := Nat, keep := [1, 2, 3, 6, 8, 9, 42, 43], boxes := [3, 6], ts := fun _ i => [(44, dI (i : Int))], bx := fun σ _ => [(8, [.row 1 (σ.nx + 50) 0 (nOf (cellOf σ 0 (σ.get 8))), .row 1 (σ.nx + 51) 0 (nOf (cellOf σ 1 (σ.get 8)))])], rb := fun σ _ => [(8, 0, 1, nOf (cellOf σ 0 (σ.get 8)), [cOf σ 0 (cellOf σ 0 (σ.get 8))]), (8, 1, 1, nOf (cellOf σ 1 (σ.get 8)), [cOf σ 0 (cellOf σ 1 (σ.get 8))])], inv := fun σ i => i ≤ n ∧ ∀ k, k < i → okP u X C T (iOf (σ.get 9)).toNat k = false, mu := fun _ i => n - i, rd := fun _ σ => (iOf (σ.get 44)).toNat })], cuts := [], unroll := [(4, 3)] }
namespace w4h
noncomputable section
structure Z where
  u : Nat
  n : Nat
  X : Nat → Int
  C : Nat → Int
  b : Nat → Bool
  T : Nat → Int
  tn : Nat
  len : Int
variable (z : Z) (i0 i1 i2 : Nat) (p q : Prop) (P : List Prop) (a b : Int) (k l : Nat) (g h : Bool) (U : VT) (j8a j8b : Nat → Int) (j9a j9b : List Int)
abbrev x0 := z.len / (z.u:Int)
abbrev x1 := Int.toNat (x0 z)
abbrev x2 := Lay.takeL z.u z.n z.X z.C z.T z.b g (x1 z) k
abbrev x3 := Lay.kAt z.u z.n z.X z.C z.T (x1 z) k
abbrev x4 : Int := (↑(x3 z i0) : Int)
abbrev x5 := z.X (Int.toNat (i1:Int))
abbrev x6 := List.length (x2 z i0 false)
abbrev x7 := List.length (x2 z i0 true)
abbrev x8 := x4 z i0 - x5 z i1 / (z.u:Int)
abbrev x9 := decide ((x5 z i1 / (z.u:Int)) > (x4 z i0))
abbrev x10 := if g = true then true else (decide (a < (0:Int)))
abbrev x11 := x10 (z.T (Int.toNat (x8 z i0 i1))) (x9 z i0 i1)
abbrev x12 := Lay.closL z.u z.n z.X z.C z.T z.b g z.len
abbrev x13 := decide (z.len < (0:Int))
abbrev x14 : List Prop := (k = List.length j9a) :: p :: P
abbrev x15 := rf (Value.slice none 0 0)
abbrev x16 := if (x13 z) = true then true else (z.len % (z.u:Int) != 0)
abbrev x17 := x6 z i0 + 1 + x7 z i0
abbrev x18 := List.getD (x2 z i0 true) i1 0
abbrev x19 := List.getD (x2 z i0 false) i1 0
abbrev x20 := i1 < List.length j9a → a = List.getD j9b i1 0
abbrev x21 := (0:Int) + (1:Int)
abbrev x22 : List Prop := ri ((!g) = true) :: ri ((!h) = true) :: P
abbrev x23 := ∀ i0 < z.n, rf (z.b i0)
abbrev x24 : List Prop := rf a :: rf z.n :: (∀ i0 < z.n, rf (z.X i0)) :: (∀ i0 < z.n, rf (z.C i0)) :: P
abbrev x25 : List Prop := rf (0:Nat) :: (k = List.length j9a) :: P
abbrev x26 : List Prop := (a = b) :: rf z.tn :: (∀ i0 < z.tn, rf (z.T i0)) :: rf z.len :: P
abbrev x27 : List Prop := ri ((!g) = true) :: ((!h) = true → p) :: P
abbrev x28 := List.getD (Lay.sortD (List.map j8a (List.range k))) i1 0
abbrev x29 := VT.need P (VT.need [i64In a] U)
abbrev x30 := Int.toNat ((i1:Int) + 1)
abbrev x31 := x2 z (x17 z i0) true
abbrev x32 := x2 z (x17 z i0) false
abbrev x33 := x2 z (x6 z i0 + x7 z i0) true
abbrev x34 := x2 z (x6 z i0 + (x7 z i0 + 1)) true
abbrev x35 := x2 z (x6 z i0 + x7 z i0) false
abbrev x36 := x2 z (x6 z i0 + (x7 z i0 + 1)) false
abbrev x37 := 0 ≤ a ∧ b < (z.tn:Int)
abbrev x38 := (nat_lit 0) = 0
abbrev x39 : List Prop := ((!g) = true → p) :: ri ((!h) = true) :: P
abbrev x40 := g = false → (!h) = true
abbrev x41 := DV.val (Value.int IntKind.i64 a)
abbrev x42 := i1 < k → ((x3 z i1) ≠ (0:Nat))
abbrev x43 := x24 z [x23 z, x15, x15, p, k < l] (z.u:Int)
abbrev x44 := x6 z i0 + (x7 z i0 + 1)
abbrev x45 := VT.need [0 ≤ a ∧ b < (↑(2:Nat) : Int)] U
abbrev x46 := x28 i1 (x6 z i0) (fun i1 => x19 z i0 i1)
abbrev x47 := 0 ≤ a ∧ 0 < (z.u:Int) ∧ b ≤ 9223372036854775807
abbrev x48 := VT.ite (decide (a < (2:Int))) U (VT.done ((x6 z i0 ≤ x6 z i0) :: (x7 z i0 ≤ x7 z i0) :: x14 p (x14 q [true = Lay.okC z.u z.T z.len] (x7 z i0) (x12 z true)) (x6 z i0) (x12 z false)))
abbrev x49 := x25 (x43 z p (x3 z k) (x3 z i0)) (x7 z i0) j9a
abbrev x50 := x48 z i0 (∀ (i1 : Nat), x20 i1 (x46 z i0 i1) (x12 z false) (x12 z false)) p a U
abbrev x51 := (nat_lit 0) + (nat_lit 0)
abbrev x52 := (z.T (Int.toNat (x8 z i0 i1))) + (z.C (Int.toNat (i1:Int)))
abbrev x53 := x28 i1 (x7 z i0) (fun i1 => x18 z i0 i1)
abbrev x54 := ∀ (i1 : Nat), x20 i1 (x18 z i0 i1) (x12 z true) (x12 z true)
abbrev x55 := x24 z [x23 z, x15, x15] (z.u:Int)
abbrev x56 := x29 [p, k * ((nat_lit 7) + 1) ≤ 140737488355328, (1:Nat) ≤ (1:Nat)] (x8 z i0 i1) (VT.done (x26 z P (x8 z i0 i1) (↑(x3 z l) : Int)))
abbrev x57 := x27 p (x22 (x39 q (x22 P (x11 z i0 i1) (x11 z i0 i1)) (x11 z i0 i1) (x11 z i0 i1)) (x11 z i0 i1) (x11 z i0 i1)) (x11 z i0 i1) (x11 z i0 i1)
abbrev x58 := i2 < List.length j9a → (if (decide (i2 < k)) = true then (List.getD (x2 z i0 g) i2 0) else (x5 z i1)) = List.getD j9b i2 0
abbrev x59 : List Prop := [FnT prog 89 k j8a j8b [DV.val (Value.func (Fn.func 90) (Array.mk []) (Array.mk []))]]
abbrev x60 := x24 z (x23 z :: rf (z.n:Int) :: rf (x6 z i0) :: (∀ i1 < x6 z i0, rf (x19 z i0 i1)) :: rf (x7 z i0) :: (∀ i1 < x7 z i0, rf (x18 z i0 i1)) :: rf (0:Nat) :: rf (x6 z i0) :: rf (0:Nat) :: rf (x7 z i0) :: P) (x4 z i0)
abbrev x61 := i2 < k → Lay.okP z.u z.X z.C z.T (Int.toNat (x4 z i0)) i2 = false
abbrev xt : VT := VT.need (x22 (x27 (0 ≤ z.len ∧ 0 < (z.u:Int)) (ri ((!(x13 z)) = true) :: x40 (x13 z) (x13 z) :: x22 (x27 (x47 z z.len z.len) (x22 (x39 (x37 z (x0 z) (x0 z)) [ri ((!(x16 z)) = true), x40 (x16 z) (x16 z)] (x16 z) (x16 z)) (x16 z) (x16 z)) (x16 z) (x16 z)) (x16 z) (x16 z)) (x13 z) (x13 z)) (x13 z) (x13 z)) (VT.ite (x10 (z.T (x1 z)) (x16 z)) (VT.done [List.length (x12 z false) = 0, List.length (x12 z true) = 0, false = Lay.okC z.u z.T z.len]) (VT.need [x47 z z.len z.len] (VT.loop Nat (fun i0 => ∀ (i1 : Nat), x42 z i1 i0) x51 (x26 z (x38 :: x38 :: rf (0:Nat) :: x38 :: rf (0:Nat) :: x38 :: x55 z) (x0 z) (↑(x3 z x51) : Int)) (fun i0 => VT.ite (decide ((x4 z i0) > (0:Int))) (VT.loop Nat (fun i1 => i1 ≤ z.n ∧ (∀ (i2 : Nat), x61 z i0 i2 i1)) (Int.toNat 0) (x26 z (x60 z i0 (x55 z)) (0:Int) (↑(Int.toNat 0) : Int)) (fun i1 => VT.ite (decide ((i1:Int) < (z.n:Int))) (VT.need [0 ≤ (i1:Int) ∧ (i1:Int) < (z.n:Int)] (VT.need [x47 z (x5 z i1) (x5 z i1)] (VT.need (x22 (x39 (i64In (x8 z i0 i1)) (x27 (x37 z (x8 z i0 i1) (x8 z i0 i1)) (x22 (x40 (x9 z i0 i1) (x9 z i0 i1) :: ri ((!(x11 z i0 i1)) = true) :: x57 z i0 i1 (i64In (x8 z i0 i1)) (x37 z (x8 z i0 i1) (x8 z i0 i1)) (x57 z i0 i1 (i64In (x52 z i0 i1)) (x37 z (x4 z i0) (x4 z i0)) [x40 (x11 z i0 i1) (x11 z i0 i1)])) (x9 z i0 i1) (x9 z i0 i1)) (x9 z i0 i1) (x9 z i0 i1)) (x9 z i0 i1) (x9 z i0 i1)) (x9 z i0 i1) (x9 z i0 i1)) (VT.ite (if (x11 z i0 i1) = true then true else (x52 z i0 i1 != (z.T (Int.toNat (x4 z i0))))) (VT.need [i64In ((i1:Int) + 1)] (VT.done (x26 z (x60 z i0 (x43 z (x30 i1 ≤ z.n ∧ (∀ (i2 : Nat), x61 z i0 i2 (x30 i1))) (z.n - x30 i1) (z.n - i1))) ((i1:Int) + 1) (↑(x30 i1) : Int)))) (VT.ite (z.b (Int.toNat (i1:Int))) (x56 z i0 i1 (x7 z i0 ≤ x7 z i0) (x14 (∀ (i1 : Nat), x20 i1 (x19 z i0 i1) (x36 z i0) (x36 z i0)) (x14 (∀ (i2 : Nat), x58 z i0 i1 i2 (x7 z i0) true (x34 z i0) (x34 z i0)) (x25 (x25 (x43 z (∀ (i1 : Nat), x42 z i1 (x44 z i0)) (x3 z (x44 z i0)) (x3 z i0)) (x7 z i0 + 1) (x34 z i0)) (x6 z i0) (x36 z i0)) (x7 z i0 + 1) (x34 z i0)) (x6 z i0) (x36 z i0)) (x7 z i0 + 1) (x44 z i0)) (x56 z i0 i1 (x6 z i0 ≤ x6 z i0) (x14 (∀ (i2 : Nat), x58 z i0 i1 i2 (x6 z i0) false (x32 z i0) (x32 z i0)) (x14 (∀ (i1 : Nat), x20 i1 (x18 z i0 i1) (x31 z i0) (x31 z i0)) (x25 (x49 z i0 (∀ (i1 : Nat), x42 z i1 (x17 z i0)) (x17 z i0) (x31 z i0)) (x6 z i0 + 1) (x32 z i0)) (x7 z i0) (x31 z i0)) (x6 z i0 + 1) (x32 z i0)) (x6 z i0 + 1) (x17 z i0))))))) (VT.done (x26 z (x14 (∀ (i1 : Nat), x20 i1 (x19 z i0 i1) (x35 z i0) (x35 z i0)) (x14 (∀ (i1 : Nat), x20 i1 (x18 z i0 i1) (x33 z i0) (x33 z i0)) (x25 (x49 z i0 (∀ (i1 : Nat), x42 z i1 (x6 z i0 + x7 z i0)) (x6 z i0 + x7 z i0) (x33 z i0)) (x6 z i0) (x35 z i0)) (x7 z i0) (x33 z i0)) (x6 z i0) (x35 z i0)) (x4 z i0) (↑(x3 z (x6 z i0 + x7 z i0)) : Int))))) (x48 z i0 (∀ (i1 : Nat), x20 i1 (x19 z i0 i1) (x12 z false) (x12 z false)) (x54 z i0) (0:Int) (x45 (0:Int) (0:Int) (x29 (rf (x6 z i0) :: intCol (fun i1 => x41 (x19 z i0 i1)) :: x59 (x6 z i0) (fun i1 => iOfC (x41 (x19 z i0 i1))) (fun i1 => x46 z i0 i1)) x21 (x50 z i0 (x54 z i0) x21 (x45 x21 x21 (x29 (rf (x7 z i0) :: intCol (fun i1 => x41 (x18 z i0 i1)) :: x59 (x7 z i0) (fun i1 => iOfC (x41 (x18 z i0 i1))) (fun i1 => x53 z i0 i1)) (x21 + 1) (x50 z i0 (∀ (i1 : Nat), x20 i1 (x53 z i0 i1) (x12 z true) (x12 z true)) (x21 + 1) (x45 (x21 + 1) (x21 + 1) (VT.need [False] (VT.need [i64In (x21 + 1 + 1)] (VT.done [False])))))))))))))))
end
end w4h
open w4h in
theorem close_c (u n : Nat) (X C : Nat → Int) (b : Nat → Bool) (T : Nat → Int) (tn : Nat) (len : Int) (hu : 1 ≤ u) (hu2 : u ≤ 10000) (hn : n ≤ 16) (htab : Tab u n X C T) (hX : ∀ i, i < n → 1 ≤ X i ∧ X i ≤ 10000) (h0 : 0 ≤ len) (h1 : len ≤ 4000 * (u : Int)) (htn : (len / (u : Int)).toNat + 1 ≤ tn) (htn2 : tn ≤ 100000) : FnC prog 55 [catD u n X C b, nums tn T, dI len] (.tup [.agg [lstD (closL u n X C T b false len), lstD (closL u n X C T b true len)], dB (okC u T len)]) := by
  refine FnC_owed hmix (A23_close_c u n X C b T tn len) (V := xt ⟨u, n, X, C, b, T, tn, len⟩) (by kernel_rfl) ?_
  simp only [xt, x0, x1, x2, x3, x4, x5, x6, x7, x8, x9, x10, x11, x12, x13, x14, x15, x16, x17, x18, x19, x20, x21, x22, x23, x24, x25, x26, x27, x28, x29, x30, x31, x32, x33, x34, x35, x36, x37, x38, x39, x40, x41, x42, x43, x44, x45, x46, x47, x48, x49, x50, x51, x52, x53, x54, x55, x56, x57, x58, x59, x60, x61, Rf, VT.holds, AllT, Sq]
  obtain ⟨q0, q1⟩ := quo_bd hu h0 h1
  have hbd := tabL_bd htab.bd
  rw [← htab.tab] at hbd
  refine ⟨⟨fun _ => ⟨h0, by omega⟩, fun _ => ⟨h0, by omega, by omega⟩, fun _ => ⟨q0, by omega⟩⟩, fun h => ?_, fun ⟨h, hT⟩ => ?_⟩
  · have e : okC u T len = false := by
      rw [okC, decide_eq_false_iff_not]
      rintro ⟨e1, e2⟩
      rcases h with (h | h) | h
      · omega
      · exact h e1
      · omega
    rw [closL, closL, e]
    exact ⟨rfl, rfl, rfl⟩
  have hr : len % (u : Int) = 0 := by
    apply Classical.byContradiction
    intro e; exact h (.inr e)
  have hok : okC u T len = true := by rw [okC, decide_eq_true_eq]; exact ⟨hr, by omega⟩
  have hK : 0 ≤ T (len / (u : Int)).toNat := by omega
  simp only [closL, hok, if_true]
  have hQ : len / (u : Int) = ((len / (u : Int)).toNat : Int) := by omega
  generalize hKK : (len / (u : Int)).toNat = K at *
  rw [hQ]
  have htn' : K + 1 ≤ tn := by omega
  have hK4 : K ≤ 4000 := by omega
  have hend := kAt_end htab hK
  have hmem : ∀ s j x, x ∈ takeL u n X C T b s K j → 1 ≤ x ∧ x ≤ 10000 := fun s j x hx => by
    obtain ⟨i, hi, rfl, _⟩ := take_mem htab hK hx
    exact hX i hi
  refine ⟨⟨h0, by omega, by omega⟩, rfl, (fun i hi => absurd hi (Nat.not_lt_zero i)), fun j hj => ⟨fun hk => ⟨rfl, ⟨Nat.zero_le _, fun k hk => absurd hk (Nat.not_lt_zero k)⟩, fun i ⟨hi, hb⟩ => ⟨fun hlt => ?_, fun hge => ?_⟩⟩, fun hk => ?_⟩⟩
  · have hi' : i < n := by omega
    have hx := hX i hi'
    have hc := htab.c0 i hi'
    have e : X i / (u : Int) = (unitsOf u (X i) : Int) := by
      unfold unitsOf
      have := Int.ediv_nonneg (a := X i) (b := (u : Int)) (by omega) (by omega)
      omega
    have m1 := htab.m1 i hi'
    have hle := kAt_le htab hK hj
    have hTk := kAt_ok htab hK j
    have hlen := take_len (b := b) hj
    have e1 : (takeL u n X C T b false K j).length + ((takeL u n X C T b true K j).length + 1) = j + 1 := by omega
    have e2 : (takeL u n X C T b false K j).length + 1 + (takeL u n X C T b true K j).length = j + 1 := by omega
    simp only [e, Int.toNat_sub, e1, e2]
    have t1 := hbd (kAt u n X C T K j - unitsOf u (X i))
    refine ⟨⟨by omega, by omega⟩, ⟨by omega, by omega, by omega⟩, ⟨fun _ => by unfold i64In; omega, fun _ => ⟨by omega, by omega⟩, fun _ => by unfold i64In; omega, fun _ => ⟨by omega, by omega⟩, fun _ => by unfold i64In; omega, fun _ => ⟨by omega, by omega⟩⟩, fun h2 => ⟨by unfold i64In; omega, rfl, ⟨by omega, fun k hk2 => ?_⟩, by omega⟩, fun ⟨h2, h3⟩ => ?_⟩
    · by_cases ek : k = i
      · rw [ek, Bool.eq_false_iff]
        intro ho
        obtain ⟨o1, o2, o3⟩ := okP_iff.1 ho
        rcases h2 with (h2 | h2) | h2
        · omega
        · omega
        · exact h2 o3
      · exact hb k (by omega)
    · have ho : okP u X C T (kAt u n X C T K j) i = true := okP_iff.2 ⟨by omega, by omega, h3⟩
      have hp := pick_eq htab (by omega) hTk ho hb
      have hne : kAt u n X C T K j ≠ 0 := by omega
      have hsucc : kAt u n X C T K (j + 1) = kAt u n X C T K j - unitsOf u (X i) := by rw [kAt, hp]
      have hj2 : ∀ i2, i2 < j + 1 → ¬ kAt u n X C T K i2 = 0 := fun i2 hi2 => by
        by_cases e4 : i2 = j
        · rw [e4]; exact hne
        · exact hj i2 (by omega)
      refine ⟨fun hbt => ?_, fun hbf => ?_⟩
      · have f1 : takeL u n X C T b false K (j + 1) = takeL u n X C T b false K j := by rw [takeL, hp, if_neg (fun hx => by rw [hbt] at hx; cases hx.2)]
        have f2 : takeL u n X C T b true K (j + 1) = takeL u n X C T b true K j ++ [X i] := by rw [takeL, hp, if_pos ⟨hne, hbt⟩]
        have f3 : (takeL u n X C T b true K (j + 1)).length = (takeL u n X C T b true K j).length + 1 := by rw [f2]; simp
        refine ⟨⟨Nat.le_refl _, by omega, Nat.le_refl _⟩, by unfold i64In; omega, by rw [hsucc]; omega, by rw [f1], fun i2 _ => by rw [f1], f3.symm, fun i2 hi2 => ?_, by rw [f1], f3.symm, hj2, by rw [hsucc]; omega⟩
        rw [f2] at hi2 ⊢
        rw [snocI_getD hi2]
      · have f1 : takeL u n X C T b true K (j + 1) = takeL u n X C T b true K j := by rw [takeL, hp, if_neg (fun hx => by rw [hbf] at hx; cases hx.2)]
        have f2 : takeL u n X C T b false K (j + 1) = takeL u n X C T b false K j ++ [X i] := by rw [takeL, hp, if_pos ⟨hne, hbf⟩]
        have f3 : (takeL u n X C T b false K (j + 1)).length = (takeL u n X C T b false K j).length + 1 := by rw [f2]; simp
        refine ⟨⟨Nat.le_refl _, by omega, Nat.le_refl _⟩, by unfold i64In; omega, by rw [hsucc]; omega, f3.symm, fun i2 hi2 => ?_, by rw [f1], fun i2 _ => by rw [f1], f3.symm, by rw [f1], hj2, by rw [hsucc]; omega⟩
        rw [f2] at hi2 ⊢
        rw [snocI_getD hi2]
  · exfalso
    obtain ⟨p1, p2, _⟩ := pick_spec htab (by omega) (kAt_ok htab hK j)
    rw [hb _ (by omega)] at p2
    cases p2
  · have hk0 : kAt u n X C T K j = 0 := by omega
    have hle := kAt_le htab hK hj
    have s1 : ∀ s, takeL u n X C T b s K K = takeL u n X C T b s K j := fun s => take_stay hk0 K (by omega)
    have hlen := take_len (b := b) hj
    have hA : ∀ s, ∀ i, i < (takeL u n X C T b s K j).length → 0 ≤ (takeL u n X C T b s K j).getD i 0 ∧ (takeL u n X C T b s K j).getD i 0 ≤ 10000 := fun s i hi => by
      have hm : (takeL u n X C T b s K j).getD i 0 ∈ takeL u n X C T b s K j := by
        rw [List.getD_eq_getElem?_getD, List.getElem?_eq_getElem hi]; exact List.getElem_mem hi
      have := hmem s j _ hm
      omega
    have hs := fun s (hn : (takeL u n X C T b s K j).length ≤ 1000000) => sort_c _ _ hn (hA s)
    simp only [s1, range_getD_self, sortD_len] at hs ⊢
    exact ⟨fun _ => ⟨⟨by omega, by omega⟩, ⟨fun _ => trivial, hs false (by omega)⟩, by unfold i64In; omega, fun _ => ⟨⟨by omega, by omega⟩, ⟨fun _ => trivial, hs true (by omega)⟩, by unfold i64In; omega, fun h => absurd h (by omega), fun _ => ⟨Nat.le_refl _, Nat.le_refl _, trivial, fun _ _ => trivial, trivial, fun _ _ => trivial, trivial⟩⟩, fun h => absurd h (by omega)⟩, fun h => absurd h (by omega)⟩
end Go.Abs.Lay
end
