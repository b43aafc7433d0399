/- slices.SortFunc of a row of structs of numbers, by the library's contract. -/
import Derived.Test.YtbemjdppfiabgaaShelg
import Derived.Test.YtbemjdppfiabgaaK28
import Derived.Shelf.SlSortCmp.NoneTotal
import Derived.Lib.RowBridge
import Derived.Lib.SortBridge
set_option linter.unusedVariables false
set_option maxRecDepth 100000
namespace Go.Abs
open Go Go.RowKit Go.Shelf Go.Lib Go.Sort Go.Proofs
attribute [local go_sem] Oper.semAt_some

/-- A list of k numbers. -/
abbrev LK (k : Nat) := { l : List Int // l.length = k }
instance (k : Nat) : Inhabited (LK k) := ⟨⟨List.replicate k 0, List.length_replicate⟩⟩
def encL {k : Nat} (x : LK k) : List Value := x.1.map fun z => .int .i64 z
theorem encL_len {k : Nat} (x : LK k) : (encL x).length = k := by rw [encL, List.length_map]; exact x.2
theorem encL_one {k : Nat} (x : LK k) : ∀ v ∈ encL x, v.oneCell' = true := fun v hv => by
  obtain ⟨z, _, rfl⟩ := List.mem_map.1 hv
  rfl
/-- A contract tells what a comparer lays. -/
theorem grown_of {w w' : World} (h : Below w.heap.size w w') : ∃ q os', w' = grow (w.drewN q) os' := by
  refine ⟨w'.drawn - w.drawn, w'.heap.extract w.heap.size w'.heap.size, ?_⟩
  have hd := h.drawn rfl
  obtain ⟨hp, tp, dr, os, out⟩ := w
  obtain ⟨hp', tp', dr', os', out'⟩ := w'
  have h1 := h.os; have h2 := h.tape; have h3 := h.output; have h4 := h.size; have h5 := h.block
  simp only at h1 h2 h3 h4 h5 hd
  subst h1 h2 h3
  simp only [grow, World.drewN]
  congr 1
  · refine Array.ext_getElem? fun i => ?_
    rw [Array.getElem?_append]
    split
    · rename_i hi; exact h5 i hi
    · rename_i hi
      rw [Array.getElem?_extract]
      by_cases hl : i < hp'.size
      · rw [if_pos (by omega)]; congr 1; omega
      · rw [if_neg (by omega), Array.getElem?_eq_none (by omega)]
  · omega
theorem cmp_lays {k g : Nat} {cf : LK k → LK k → Int} (h : ∀ x y : LK k, FnC prog g [.val (.agg (encL x).toArray), .val (.agg (encL y).toArray)] (dI (cf x y))) (blk off size : Nat) (w : World) : CmpLays prog g #[] encL k cf blk off size w := by
  intro m os dk _ x y
  have hc := (h x y).2 (fun _ => False) (sortWorldK encL k w blk off m dk os) #[.agg (encL x).toArray, .agg (encL y).toArray] rfl (fun j d v h1 h2 => ?_) (fun d v h => by cases h)
  · refine hc.mono fun e w' ⟨v, he, hr, hb⟩ => ?_
    cases hr
    exact ⟨he, grown_of hb⟩
  · match j, h1, h2 with
    | 0, h1, h2 => cases h1; cases h2; exact .val _
    | 1, h1, h2 => cases h1; cases h2; exact .val _
    | j + 2, h1, h2 => cases h1
theorem swo_of {k : Nat} {cf : LK k → LK k → Int} (hl : ∀ x y : LK k, decide (cf x y < 0) = lexB x.1 y.1) : SWO (ltOf cf) where
  irrefl x := by unfold ltOf; rw [hl, lexB_irr]
  trans x y z h1 h2 := by unfold ltOf at *; rw [hl] at *; exact lexB_trans h1 h2
  ntrans x y z h1 h2 := by
    unfold ltOf at *
    rw [hl] at *
    have := leB_trans z.1 y.1 x.1 (by unfold leB; rw [h2]; rfl) (by unfold leB; rw [h1]; rfl)
    unfold leB at this
    simpa using this
/-- The columns of a list of lists of k numbers. -/
def colsK (k : Nat) (l : List (List Int)) : List (Nat → DV) := (List.range k).map fun c j => dI (col l c j)
theorem sort_w {k f g : Nat} {ρ : Go.Shelf.Ren} (L : SlLaysF0.n6 prog ρ) (ef : ρ.f 6 = f) (hk0 : 0 < k) (hF : Callable prog f)
    (aE : ∀ w, (isAgg (ρ.t 24)).run prog w = .ok true w) (zE : ∀ w, (Go.sizeOf (ρ.t 24)).run prog w = .ok k w) (eg : ∀ args w, (callFunc g args).run prog w = .ok (.enter g args) w)
    (cf : LK k → LK k → Int) (hl : ∀ x y : LK k, decide (cf x y < 0) = lexB x.1 y.1) (hcmp : ∀ x y : LK k, FnC prog g [.val (.agg (encL x).toArray), .val (.agg (encL y).toArray)] (dI (cf x y)))
    (l : List (List Int)) (hlk : ∀ x ∈ l, x.length = k) (hn : l.length ≤ 1000000) :
    FnW prog f [.row l.length (colsK k l) (colsK k (srt l)), .arg (.val (.func (.func g) #[] #[]))] (.val (.tuple #[])) := by
  refine ⟨hF, fun S w vs b hsz hpre hb0 hbi hbS hG => ?_⟩
  match vs, hsz with
  | ⟨[v0, v1]⟩, _ =>
    have p0 := hpre 0 _ _ rfl rfl
    have p1 := hpre 1 _ _ rfl rfl
    obtain ⟨-, p1⟩ := p1
    cases p1
    subst ef
    obtain ⟨-, p0⟩ := p0
    rcases p0 with ⟨rfl, hz, hb⟩ | ⟨B, C, hbg, rfl, cv, T, hh, hcs, hnC, hcell⟩
    · rw [hz]
      have hS := AnyF.slices_SortFunc_none L none 0 (.func (.func g) #[] #[]) w
      refine hS.mono fun e w' ⟨he, hw⟩ => ⟨_, he, .val _, by rw [hw]; exact BelowX.refl _ _ _, fun j a v h1 h2 => ?_⟩
      match j, h1, h2 with
      | 0, h1, h2 => cases h1; cases h2; intro g C e; cases e
      | 1, h1, h2 => cases h1; trivial
      | j + 2, h1, h2 => cases h1
    · have hkl : (colsK k l).length = k := by simp [colsK]
      rw [hkl] at hcs
      obtain ⟨d, hd⟩ : ∃ d : List (LK k), d.map (·.1) = l := ⟨l.attach.map fun x => ⟨x.1, hlk x.1 x.2⟩, by simp⟩
      have hdl : d.length = l.length := by rw [← hd, List.length_map]
      have colat : ∀ (d : List (LK k)) i j, (hi : i < d.length) → (hj : j < k) → (encL (d[i]'hi))[j]! = .int .i64 (col (d.map (·.1)) j i) := fun d i j hi hj => by
        have h1 : j < (d[i]'hi).1.length := by rw [(d[i]'hi).2]; exact hj
        simp [encL, col, hi, h1]
      have cell : ∀ i j, i < l.length → j < k → cv[i * k + j]? = some (.int .i64 (col l j i)) := fun i j hi hj => by
        obtain ⟨u, h1, _, h3⟩ := hcell i j (fun q => dI (col l j q)) hi (by simp [colsK, hj])
        cases h3
        rw [hkl] at h1
        exact h1
      have hfs : (flatK encL k d.toArray).size = l.length * k := by rw [size_flatK]; simp [hdl]
      have fl : ∀ (d : List (LK k)) t, d.length = l.length → t < l.length * k → (flatK encL k d.toArray)[t]! = .int .i64 (col (d.map (·.1)) (t % k) (t / k)) := fun d t hdl ht => by
        have h1 : t / k < d.length := by rw [hdl]; exact (Nat.div_lt_iff_lt_mul hk0).2 ht
        rw [get_flatK _ _ _ _ (by simpa [hdl] using ht)]
        have h2 : d.toArray[t / k]! = d[t / k]'h1 := by simp [h1]
        rw [h2, colat d _ _ h1 (Nat.mod_lt _ hk0)]
      have hH : HoldsK encL k w B 0 d.toArray := fun t ht => by
        rw [hfs] at ht
        have hq : t / k < l.length := (Nat.div_lt_iff_lt_mul hk0).2 ht
        have hc := cell (t / k) (t % k) hq (Nat.mod_lt _ hk0)
        rw [Nat.div_add_mod' t k] at hc
        refine ⟨?_, ?_⟩
        · rw [fl d t hdl ht, hd, Nat.zero_add]
          simp only [World.cell?, hh, hc]
          rfl
        · simp [World.frozen?, hh]
      have hS := AnyQ.slices_SortFunc_total L k aE zE encL encL_len encL_one cf (swo_of hl) g #[] B 0 C d.toArray w eg (cmp_lays hcmp B 0 _ w) hH (heap_lt hh) (by simp only [List.size_toArray, hdl]; omega)
        (fun x y h1 h2 => by unfold ltOf at h1 h2; rw [hl] at h1 h2; exact Subtype.ext (lexB_tot h1 h2))
      have hds : d.toArray.size = l.length := by simp [hdl]
      rw [hds] at hS
      refine hS.mono fun e w' ⟨he, m, os, hw⟩ => ?_
      have hsn : (d.mergeSort fun x y => !ltOf cf y x).map (·.1) = srt l := by
        rw [List.map_mergeSort (s := leB), hd]; rfl
        intro a _ b _
        unfold ltOf leB
        rw [hl]
      simp only [List.toList_toArray] at hw
      generalize hd' : (d.mergeSort fun x y => !ltOf cf y x) = d' at hw hsn
      have hd'l : d'.length = l.length := by rw [← hd', List.length_mergeSort]; exact hdl
      have hf' : (flatK encL k d'.toArray).size = l.length * k := by rw [size_flatK]; simp [hd'l]
      have hnk : l.length * k ≤ C * k := Nat.mul_le_mul_right k hnC
      have hblk : w'.heap[B]? = some (.cells (putCells id 0 (flatK encL k d'.toArray) cv) T (0, 0)) := by
        rw [hw]
        simp only [sortWorldK, grow, putRowK, putRow, mapBlock, Sort.ahead]
        rw [Array.getElem?_append_left (by simpa using heap_lt hh)]
        simp only [Array.getElem?_modify, if_true, hh, Option.map_some, onCells]
      refine ⟨_, he, .val _, ⟨by rw [hw]; rfl, by rw [hw]; rfl, by rw [hw]; rfl, by rw [hw]; simp [sortWorldK, grow, putRowK, putRow, mapBlock, Sort.ahead], fun q hq hx => ?_, fun _ => by rw [hw]; simp [sortWorldK, grow, putRowK, putRow, mapBlock, Sort.ahead]⟩, fun j a v h1 h2 => ?_⟩
      · have hne : q ≠ B := fun e => hx ⟨0, by rw [e]; exact hbg⟩
        rw [hw]
        simp only [sortWorldK, grow, putRowK, putRow, mapBlock, Sort.ahead]
        rw [Array.getElem?_append_left (by simpa using hq), Array.getElem?_modify, if_neg (fun e => hne e.symm)]
      · match j, h1, h2 with
        | 0, h1, h2 =>
          cases h1; cases h2
          intro g' C' e
          cases e
          refine ⟨_, T, hblk, by simp [putCells, hcs, colsK], hnC, fun i j f hi hf => ?_⟩
          have hj : j < k := by
            have := (List.getElem?_eq_some_iff.1 hf).1
            simpa [colsK] using this
          have hf2 : f = fun q => dI (col (srt l) j q) := by
            simp [colsK, hj] at hf
            exact hf.symm
          subst hf2
          have ht : i * k + j < l.length * k := by
            have := Nat.mul_le_mul_right k (show i + 1 ≤ l.length from hi)
            rw [Nat.add_mul, Nat.one_mul] at this
            omega
          refine ⟨.int .i64 (col (srt l) j i), ?_, rfl, .val _⟩
          have hlen : (colsK k (srt l)).length = k := by simp [colsK]
          rw [hlen]
          have hcv : i * k + j < cv.size := by omega
          have h5 := fl d' (i * k + j) hd'l ht
          rw [show (i * k + j) % k = j by rw [Nat.mul_comm, Nat.mul_add_mod]; exact Nat.mod_eq_of_lt hj, show (i * k + j) / k = i by rw [Nat.mul_comm, Nat.mul_add_div hk0, Nat.div_eq_of_lt hj, Nat.add_zero], hsn] at h5
          simp only [putCells, Array.getElem?_mapIdx, Array.getElem?_eq_getElem hcv, Option.map_some, Nat.zero_le, Nat.zero_add, hf', ht, true_and, if_true, Nat.sub_zero, id]
          rw [h5]
        | 1, h1, h2 => cases h1; trivial
        | j + 2, h1, h2 => cases h1
theorem sortN_c (l : List (List Int)) (hlk : ∀ x ∈ l, x.length = 3) (hn : l.length ≤ 1000000) :
    FnW prog 146 [.row l.length (cols3 l) (cols3 (srt l)), .arg (.val (.func (.func 147) #[] #[]))] (.val (.tuple #[])) := by
  have g3 : ∀ x : LK 3, x.1 = [x.1.getD 0 0, x.1.getD 1 0, x.1.getD 2 0] := fun ⟨x, hx⟩ => by
    match x, hx with
    | [a, b, c], _ => rfl
  have h := sort_w (k := 3) (f := 146) (g := 147) Go.Proofs.Try.sortN rfl (by decide) ⟨_, Go.Proofs.Try.func146, rfl, by kernel_rfl⟩ (fun _ => by kernel_rfl) (fun _ => by kernel_rfl) (enters_of Go.Proofs.Try.func147 (by kernel_rfl) rfl)
    (fun x y => cmpN (x.1.getD 0 0) (x.1.getD 1 0) (x.1.getD 2 0) (y.1.getD 0 0) (y.1.getD 1 0) (y.1.getD 2 0)) (fun x y => by rw [cmpN_lex, ← g3 x, ← g3 y])
    (fun x y => by
      have h := compareNodes_c (x.1.getD 0 0) (x.1.getD 1 0) (x.1.getD 2 0) (y.1.getD 0 0) (y.1.getD 1 0) (y.1.getD 2 0)
      have e : ∀ x : LK 3, (.val (.agg (encL x).toArray) : DV) = dN (x.1.getD 0 0) (x.1.getD 1 0) (x.1.getD 2 0) := fun x => by
        unfold encL
        rw [g3 x]
        rfl
      rw [e x, e y]
      exact h) l hlk hn
  exact h
theorem sortP_c (l : List (List Int)) (hlk : ∀ x ∈ l, x.length = 7) (hn : l.length ≤ 1000000) :
    FnW prog 120 [.row l.length (cols7 l) (cols7 (srt l)), .arg (.val (.func (.func 121) #[] #[]))] (.val (.tuple #[])) := by
  have g7 : ∀ x : LK 7, x.1 = [x.1.getD 0 0, x.1.getD 1 0, x.1.getD 2 0, x.1.getD 3 0, x.1.getD 4 0, x.1.getD 5 0, x.1.getD 6 0] := fun ⟨x, hx⟩ => by
    match x, hx with
    | [a, b, c, d, e, f, g], _ => rfl
  have h := sort_w (k := 7) (f := 120) (g := 121) Go.Proofs.Try.sortP rfl (by decide) ⟨_, Go.Proofs.Try.func120, rfl, by kernel_rfl⟩ (fun _ => by kernel_rfl) (fun _ => by kernel_rfl) (enters_of Go.Proofs.Try.func121 (by kernel_rfl) rfl)
    (fun x y => cmpP (x.1.getD 0 0) (x.1.getD 1 0) (x.1.getD 2 0) (x.1.getD 3 0) (x.1.getD 4 0) (x.1.getD 5 0) (x.1.getD 6 0) (y.1.getD 0 0) (y.1.getD 1 0) (y.1.getD 2 0) (y.1.getD 3 0) (y.1.getD 4 0) (y.1.getD 5 0) (y.1.getD 6 0)) (fun x y => by rw [cmpP_lex, ← g7 x, ← g7 y])
    (fun x y => by
      have h := comparePlaces_c (x.1.getD 0 0) (x.1.getD 1 0) (x.1.getD 2 0) (x.1.getD 3 0) (x.1.getD 4 0) (x.1.getD 5 0) (x.1.getD 6 0) (y.1.getD 0 0) (y.1.getD 1 0) (y.1.getD 2 0) (y.1.getD 3 0) (y.1.getD 4 0) (y.1.getD 5 0) (y.1.getD 6 0)
      have e : ∀ x : LK 7, (.val (.agg (encL x).toArray) : DV) = dP (x.1.getD 0 0) (x.1.getD 1 0) (x.1.getD 2 0) (x.1.getD 3 0) (x.1.getD 4 0) (x.1.getD 5 0) (x.1.getD 6 0) := fun x => by
        unfold encL
        rw [g7 x]
        rfl
      rw [e x, e y]
      exact h) l hlk hn
  exact h
end Go.Abs
