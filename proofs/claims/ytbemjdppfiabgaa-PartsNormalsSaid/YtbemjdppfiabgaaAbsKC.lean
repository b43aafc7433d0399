/- clear, of a part of a row. -/
import Derived.Test.YtbemjdppfiabgaaAbsK
namespace Go.Abs
open Go.RowKit

theorem clrCols_len {off len : Nat} : ∀ {cols : List (Nat → DV)} {z : List DV}, z.length = cols.length → (clrCols off len cols z).length = cols.length
  | [], [], _ => rfl
  | c :: r, d :: q, h => by simp only [clrCols, List.length_cons]; rw [clrCols_len (by simpa using h)]
  | [], _ :: _, h => by simp at h
  | _ :: _, [], h => by simp at h
theorem clrCols_get {off len : Nat} : ∀ {cols : List (Nat → DV)} {z : List DV} {j : Nat} {f : Nat → DV}, (clrCols off len cols z)[j]? = some f → ∃ c d, cols[j]? = some c ∧ z[j]? = some d ∧ f = fun i => sel (decide (off ≤ i ∧ i < off + len)) d (c i)
  | [], z, j, f, h => by cases z <;> simp [clrCols] at h
  | c :: r, [], j, f, h => by simp [clrCols] at h
  | c :: r, d :: q, j, f, h => by
    simp only [clrCols] at h
    cases j with
    | zero =>
      simp only [List.getElem?_cons_zero, Option.some.injEq] at h
      exact ⟨c, d, rfl, rfl, h.symm⟩
    | succ j =>
      obtain ⟨c', d', h1, h2, h3⟩ := clrCols_get (cols := r) (z := q) (j := j) (f := f) (by simpa using h)
      exact ⟨c', d', by simpa using h1, by simpa using h2, h3⟩
theorem zeroCells_get (zc : Array Value) (n i j : Nat) (hi : i < n) (hj : j < zc.size) : (Builtin.zeroCells zc n).toList[i * zc.size + j]? = some zc[j] := by
  have hlt : i * zc.size + j < n * zc.size := by
    have : i * zc.size + zc.size ≤ n * zc.size := by rw [← Nat.succ_mul]; exact Nat.mul_le_mul_right _ hi
    omega
  have hm : (i * zc.size + j) % zc.size = j := by
    rw [Nat.add_comm, Nat.add_mul_mod_self_right]; exact Nat.mod_eq_of_lt hj
  rw [Array.getElem?_toList]
  unfold Builtin.zeroCells
  rw [Array.getElem?_map, Array.getElem?_range, if_pos hlt, Option.map_some, hm]
  simp [hj]

section
variable {P : Program} {base : Nat} {w0 w : World} {S0 : Env} {σ : St} {kn : Nat → Prop} {blk : Nat → Option Loc} {a : Act}

theorem evClear_sound (r : R base w0 S0 σ kn blk a w) {t ty : TypeId} {x : DV} {vx : Value} {e : Eff} (he : evClear P σ.obj t x = e) (hvc : AllP e.vc)
    (hx : Rel (rdOf w base S0 blk) kn blk x vx) {ts : Array TypeId} (hts : ts[0]? = some t) :
    ∃ w' v, (Builtin.clear_ ts ty #[vx]).run P w = .ok v w' ∧ R base w0 S0 (σ.effH e) kn blk a w' ∧ Rel (rdOf w' base S0 blk) kn blk e.d v := by
  unfold evClear at he
  split at he
  · rename_i s id off len
    split at he
    · rename_i el hu
      split at he
      · rename_i s' z n cols hsz hz hob
        cases hb : (Nat.beq s s' && (Nat.beq cols.length s && (Nat.beq z.length s && (Nat.ble 1 s && DV.closed.go z))))
        · simp only [hb, cond_false] at he; subst he; exact bad_vc hvc
        · simp only [hb, cond_true] at he
          subst he
          simp only [Bool.and_eq_true] at hb
          obtain ⟨hb1, hb2, hb3, hb4, hcl⟩ := hb
          have hb1 := Nat.eq_of_beq_eq_true hb1
          have hb2 := Nat.eq_of_beq_eq_true hb2
          have hb3 := Nat.eq_of_beq_eq_true hb3
          have hb4 := Nat.le_of_ble_eq_true hb4
          subst hb1
          have hle : off + len ≤ n := hvc.one
          obtain ⟨zv, hzr, hzs, hzrel, hzone⟩ := tZero_sound hz
          have hclen : (clrCols off len cols z).length = s := by rw [clrCols_len (by omega), hb2]
          have hisr : isRow σ.obj id s = true := by unfold isRow; rw [hob]; show Nat.beq cols.length s = true; rw [hb2]; exact Nat.beq_refl s
          obtain ⟨hk, hor⟩ := r.objs _ _ hob
          -- where nothing is cleared
          have still : len = 0 → ∀ {l}, blk id = some l → R base w0 S0 (σ.setObj id (some (.row n (clrCols off len cols z)))) kn blk a w := fun h0 l hl => by
            subst h0
            refine r.turnL hl rfl rfl rfl rfl (fun _ _ => rfl) fun _ _ => ?_
            rw [← hl]
            rcases hor with ⟨h1, h2⟩ | ⟨g, C, cv, T, h1, h2, h3, h4, h5⟩
            · exact .inl ⟨h1, h2⟩
            · refine .inr ⟨g, C, cv, T, h1, h2, by rw [hclen, ← hb2]; exact h3, h4, fun i j f hi hf => ?_⟩
              obtain ⟨c, d, e1, e2, rfl⟩ := clrCols_get hf
              obtain ⟨u, hu', ho, hr⟩ := h5 i j c hi e1
              exact ⟨u, by rw [hclen, ← hb2]; exact hu', ho, sel_sound ⟨fun h => by simp at h; omega, fun _ => hr⟩⟩
          obtain ⟨_, ⟨rfl, rfl, rfl, hl⟩ | ⟨g, C, rfl, hC, hl⟩ | ⟨h0, rfl, p, c, rfl⟩⟩ := row_val r hisr hx
          · exact ⟨w, .tuple #[], by simp [Builtin.clear_, hts, run_underlying hu], still rfl hl, .val _⟩
          · cases len with
            | zero => exact ⟨w, .tuple #[], by simp [Builtin.clear_, hts, run_underlying hu], still rfl hl, .val _⟩
            | succ m =>
              rcases hor with ⟨hln, hn0⟩ | ⟨g', C', cv, T, hl', hh, hcs, hnC, hcell⟩
              · omega
              · rw [hl] at hl'
                cases hl'
                rw [hb2] at hcs
                have hzl : (Builtin.zeroCells zv.cells (m + 1)).toList.length = (m + 1) * s := by rw [Array.length_toList, size_zeroCells, hzs, hb3]
                have hroom : off * s + (m + 1) * s ≤ cv.size := by
                  rw [hcs, ← Nat.add_mul]; exact Nat.mul_le_mul_right _ (by omega)
                have hone : ∀ u ∈ (Builtin.zeroCells zv.cells (m + 1)).toList, oneV u = true := fun u hu' => by
                  have hpos : 0 < zv.cells.size := by omega
                  simp only [Builtin.zeroCells, Array.toList_map, List.mem_map, Array.mem_toList_iff, Array.mem_range] at hu'
                  obtain ⟨k, _, rfl⟩ := hu'
                  have hk' : k % zv.cells.size < zv.cells.size := Nat.mod_lt _ hpos
                  rw [getElem!_pos zv.cells _ hk']
                  exact hzone _ (Array.mem_toList_iff.2 (Array.getElem_mem hk'))
                have hst := run_storeCells_at (P := P) g (off * s) T (Builtin.zeroCells zv.cells (m + 1)).toList 0 cv w hh (by omega) (fun u hu' => by rw [← oneV_eq]; exact hone u hu')
                simp only [Nat.add_zero, List.append_assoc] at hst
                rw [hzl] at hst
                refine ⟨w.setRow g (cv.toList.take (off * s) ++ ((Builtin.zeroCells zv.cells (m + 1)).toList ++ cv.toList.drop (off * s + (m + 1) * s))).toArray, .tuple #[], by simp [Builtin.clear_, hts, run_underlying hu, hzr w, hst], r.turn hl (by simp) rfl rfl rfl (fun k hk => setRow_other w g k _ hk) fun _ monoC => .inr ⟨g, C, _, T, rfl, setRow_heap w g cv _ T _ hh, ?_, hnC, fun i j f hi hf => ?_⟩, .val _⟩
                · rw [hclen]
                  simp only [List.size_toArray, List.length_append, List.length_take, List.length_drop, Array.length_toList, hzl] at *
                  omega
                · obtain ⟨c, d, e1, e2, rfl⟩ := clrCols_get hf
                  obtain ⟨u0, hu0, ho0, hr0⟩ := hcell i j c hi e1
                  have hj : j < s := by rw [← hb2]; exact (List.getElem?_eq_some_iff.1 e1).1
                  rw [hclen, List.getElem?_toArray, seg_get' _ _ _ _ _ hzl (by simpa using hroom)]
                  rw [hb2] at hu0
                  by_cases hin : off ≤ i ∧ i < off + (m + 1)
                  · have h1 : off * s ≤ i * s := Nat.mul_le_mul_right _ hin.1
                    have h2 : i * s + s ≤ off * s + (m + 1) * s := by rw [← Nat.succ_mul, ← Nat.add_mul]; exact Nat.mul_le_mul_right _ hin.2
                    have h3 : i * s + j - off * s = (i - off) * zv.cells.size + j := by rw [hzs, hb3, Nat.sub_mul]; omega
                    have hjz : j < zv.cells.size := by omega
                    rw [if_neg (by omega), if_pos (by omega), h3, zeroCells_get zv.cells (m + 1) (i - off) j (by omega) hjz]
                    refine ⟨_, rfl, hzone _ (Array.mem_toList_iff.2 (Array.getElem_mem hjz)), sel_sound ⟨fun _ => ?_, fun h => ?_⟩⟩
                    · exact (hzrel _ kn blk j d _ e2 (Array.getElem?_eq_getElem hjz)).close (closed_go hcl _ (List.mem_of_getElem? e2))
                    · simp [hin] at h
                  · have hout : i * s + j < off * s ∨ off * s + (m + 1) * s ≤ i * s + j := by
                      rcases Nat.lt_or_ge i off with h | h
                      · have : i * s + s ≤ off * s := by rw [← Nat.succ_mul]; exact Nat.mul_le_mul_right _ h
                        omega
                      · have : (off + (m + 1)) * s ≤ i * s := Nat.mul_le_mul_right _ (by omega)
                        rw [Nat.add_mul] at this; omega
                    have e9 : (if i * s + j < off * s then cv.toList[i * s + j]? else if i * s + j < off * s + (m + 1) * s then (Builtin.zeroCells zv.cells (m + 1)).toList[i * s + j - off * s]? else cv.toList[i * s + j]?) = cv.toList[i * s + j]? := by
                      split
                      · rfl
                      · rw [if_neg (by omega)]
                    rw [e9, Array.getElem?_toList]
                    exact ⟨u0, hu0, ho0, sel_sound ⟨fun h => absurd (of_decide_eq_true h) hin, fun _ => monoC hr0⟩⟩
          · refine ⟨w, .tuple #[], ?_, ?_, .val _⟩
            · cases p <;> simp [Builtin.clear_, hts, run_underlying hu]
            · rcases hor with ⟨hln, _⟩ | ⟨g, C, cv, T, hl, _⟩
              · exact still rfl hln
              · exact still rfl hl
      · subst he; exact bad_vc hvc
    · subst he; exact bad_vc hvc
  · subst he; exact bad_vc hvc
end
end Go.Abs
