/- Each operation does to the machine what the abstract one does: stores, structs, new rows. -/
import Derived.Test.YtbemjdppfiabgaaAbsG
namespace Go.Abs
open Go.RowKit

theorem setCols_get (i : Nat) : ∀ (cs : List (Nat → DV)) (vs : List DV) (m : Nat) (f : Nat → DV), vs.length ≤ cs.length → (setCols i cs vs)[m]? = some f →
    ∃ c, cs[m]? = some c ∧ ((vs.length ≤ m ∧ f = c) ∨ ∃ d, vs[m]? = some d ∧ f = fun i' => sel (decide (i' = i)) d (c i'))
  | cs, [], m, f, _, h => by
    have : setCols i cs [] = cs := by cases cs <;> rfl
    rw [this] at h
    exact ⟨f, h, .inl ⟨by simp, rfl⟩⟩
  | [], d :: vs, m, f, hl, _ => by simp at hl
  | c :: cs, d :: vs, 0, f, _, h => by
    simp only [setCols, List.getElem?_cons_zero, Option.some.injEq] at h
    exact ⟨c, rfl, .inr ⟨d, rfl, h.symm⟩⟩
  | c :: cs, d :: vs, m + 1, f, hl, h => by
    simp only [setCols, List.getElem?_cons_succ] at h
    have := setCols_get i cs vs m f (by simpa using hl) h
    simpa using this
theorem setCols_len (i : Nat) : ∀ (cs : List (Nat → DV)) (vs : List DV), vs.length ≤ cs.length → (setCols i cs vs).length = cs.length
  | cs, [], _ => by cases cs <;> rfl
  | [], _ :: _, h => by simp at h
  | c :: cs, d :: vs, h => by simp only [setCols, List.length_cons]; rw [setCols_len i cs vs (by simpa using h)]

theorem cell_apart {s i i' j j' : Nat} (hj : j < s) (hj' : j' < s) (h : i * s + j = i' * s + j') : i = i' ∧ j = j' := by
  have h1 : (i * s + j) / s = i := by rw [Nat.add_comm, Nat.add_mul_div_right _ _ (by omega), Nat.div_eq_of_lt hj]; omega
  have h2 : (i' * s + j') / s = i' := by rw [Nat.add_comm, Nat.add_mul_div_right _ _ (by omega), Nat.div_eq_of_lt hj']; omega
  have : i = i' := by rw [← h1, ← h2, h]
  subst this
  exact ⟨rfl, by omega⟩

theorem seg_get' {α : Type} (l m : List α) (j k n : Nat) (hm : m.length = n) (h : j + n ≤ l.length) :
    (l.take j ++ (m ++ l.drop (j + n)))[k]? = if k < j then l[k]? else if k < j + n then m[k - j]? else l[k]? := by
  subst hm; exact seg_get l m j k h

section
variable {P : Program} {base : Nat} {w0 w : World} {S0 : Env} {σ : St} {kn : Nat → Prop} {blk : Nat → Option Loc} {a : Act}

theorem storeVar_run {t : TypeId} {n g o : Nat} {v : Value} {cur : Array Value} {T : TypeId} (h : tSize P t = some n) (hs : v.cells.size = n) (hg : w.heap[g]? = some (.cells cur T (0, 0)))
    (hl : o + n ≤ cur.size) (h1 : ∀ u ∈ v.cells.toList, oneV u = true) :
    (Instr.storeAt t (.pointer (some ⟨g, o, none⟩)) v).run P w = .ok () (w.setRow g (cur.toList.take o ++ (v.cells.toList ++ cur.toList.drop (o + n))).toArray) := by
  have hlen : v.cells.toList.length = n := by simpa using hs
  have := run_storeCells_at (P := P) g o T v.cells.toList 0 cur w hg (by omega) (fun u hu => by rw [← oneV_eq]; exact h1 u hu)
  simp only [Nat.add_zero, List.append_assoc] at this
  rw [hlen] at this
  simp [Instr.storeAt, Instr.sureAddr, storeVar, tSize_run h, hs, this]

theorem evStore_sound (r : R base w0 S0 σ kn blk a w) {t : TypeId} {p d : DV} {vp vd : Value} {e : Eff} (he : evStore P σ.obj t p d = e) (hvc : AllP e.vc)
    (hp : Rel (rdOf w base S0 blk) kn blk p vp) (hd : Rel (rdOf w base S0 blk) kn blk d vd) :
    e.d = .any ∧ ∃ w', (Instr.storeAt t vp vd).run P w = .ok () w' ∧ R base w0 S0 (σ.effH e) kn blk a w' := by
  unfold evStore at he
  split at he
  · rename_i n vs hn hvs
    obtain ⟨hs, hr, h1⟩ := hd.cells hvs
    cases hb : Nat.beq n vs.length
    · simp only [hb, cond_false] at he; subst he; exact bad_vc hvc
    · simp only [hb, cond_true] at he
      obtain rfl := Nat.eq_of_beq_eq_true hb
      split at he
      · rename_i id j
        split at he
        · rename_i cs ho
          cases hb2 : Nat.ble (j + vs.length) cs.length
          · simp only [hb2, cond_false] at he; subst he; exact bad_vc hvc
          · simp only [hb2, cond_true] at he
            subst he
            have hle := Nat.le_of_ble_eq_true hb2
            obtain ⟨hk, g, C, cv, T, hl, hh, hcs, hrel, hon⟩ := r.objs _ _ ho
            obtain ⟨_, _, hpv⟩ := ptr_val' hp
            obtain rfl := hpv g C hl
            have hvl : vd.cells.toList.length = vs.length := by simpa using hs
            refine ⟨rfl, _, storeVar_run hn hs hh (by omega) h1, ?_⟩
            refine r.turn hl (by simp) rfl rfl rfl (fun k hk => setRow_other w g k _ hk) fun mono _ => ⟨g, C, _, T, rfl, setRow_heap w g cv _ T _ hh, ?_, fun k d u hd hu => ?_, fun u hu => ?_⟩
            · simp only [List.size_toArray, List.length_append, List.length_take, List.length_drop, Array.length_toList]; omega
            · rw [List.getElem?_toArray, seg_get' _ _ _ _ _ hvl (by simpa [hcs] using hle)] at hu
              rw [seg_get _ _ _ _ hle] at hd
              refine mono ?_
              split at hd
              · rename_i hk; rw [if_pos hk] at hu; exact hrel k d u hd (by simpa using hu)
              · rename_i hk
                rw [if_neg hk] at hu
                split at hd
                · rename_i hk2; rw [if_pos hk2] at hu; exact hr _ d u hd (by simpa using hu)
                · rename_i hk2; rw [if_neg hk2] at hu; exact hrel k d u hd (by simpa using hu)
            · simp only [List.mem_append] at hu
              rcases hu with hu | hu | hu
              · exact hon _ (List.mem_of_mem_take hu)
              · exact h1 _ hu
              · exact hon _ (List.mem_of_mem_drop hu)
        · subst he; exact bad_vc hvc
      · rename_i s id i j
        split at he
        · rename_i n' cols ho
          cases hb2 : (Nat.beq cols.length s && Nat.ble (j + vs.length) s && DV.closed.go vs)
          · simp only [hb2, cond_false] at he; subst he; exact bad_vc hvc
          · simp only [hb2, cond_true] at he
            subst he
            simp only [Bool.and_eq_true] at hb2
            obtain ⟨⟨hb2, hb3⟩, hcl⟩ := hb2
            obtain rfl := Nat.eq_of_beq_eq_true hb2
            have hle := Nat.le_of_ble_eq_true hb3
            have hi : i < n' := hvc.one
            obtain ⟨hk, ho'⟩ := r.objs _ _ ho
            rcases ho' with ⟨_, h0⟩ | ⟨g, C, cv, T, hl, hh, hsz, hC, hrel⟩
            · omega
            · have hpv : ∀ g C, blk id = some (.at_ g C) → vp = .pointer (some ⟨g, i * cols.length + j, none⟩) := by cases hp with | rptr _ _ h => exact h
              obtain rfl := hpv g C hl
              have hvl : vd.cells.toList.length = vs.length := by simpa using hs
              have hroom : i * cols.length + j + vs.length ≤ cv.size := by
                have : i * cols.length + cols.length ≤ C * cols.length := by rw [← Nat.succ_mul]; exact Nat.mul_le_mul_right _ (by omega)
                omega
              refine ⟨rfl, _, storeVar_run hn hs hh hroom h1, ?_⟩
              have hcl2 : (cols.take j ++ setCols i (cols.drop j) vs).length = cols.length := by
                rw [List.length_append, setCols_len _ _ _ (by rw [List.length_drop]; omega), List.length_take, List.length_drop]; omega
              refine r.turn hl (by simp) rfl rfl rfl (fun k hk => setRow_other w g k _ hk) fun _ monoC => .inr ⟨g, C, _, T, rfl, setRow_heap w g cv _ T _ hh, ?_, hC, fun i' j' f hi' hf => ?_⟩
              · rw [hcl2]
                simp only [List.size_toArray, List.length_append, List.length_take, List.length_drop, Array.length_toList]; omega
              · rw [hcl2]
                have hj' : j' < cols.length := by rw [← hcl2]; exact (List.getElem?_eq_some_iff.1 hf).1
                have hcf : cols[j']? = some cols[j'] := List.getElem?_eq_getElem hj'
                obtain ⟨u0, hu0, hone0, hrel0⟩ := hrel i' j' _ hi' hcf
                rw [List.getElem?_toArray, seg_get' _ _ _ _ _ hvl (by simpa using hroom)]
                simp only [Array.getElem?_toList]
                by_cases hhit : i' = i ∧ j ≤ j' ∧ j' < j + vs.length
                · obtain ⟨rfl, hj1, hj2⟩ := hhit
                  rw [if_neg (by omega), if_pos (by omega)]
                  have hf' : (setCols i' (cols.drop j) vs)[j' - j]? = some f := by
                    rw [List.getElem?_append_right (by rw [List.length_take]; omega), List.length_take] at hf
                    rwa [show min j cols.length = j by omega] at hf
                  obtain ⟨c, hc, ⟨hge, _⟩ | ⟨d', hd', rfl⟩⟩ := setCols_get i' _ vs _ f (by rw [List.length_drop]; omega) hf'
                  · omega
                  · have hlt : j' - j < vd.cells.size := by omega
                    have hu : vd.cells[j' - j]? = some vd.cells[j' - j] := Array.getElem?_eq_getElem hlt
                    refine ⟨vd.cells[j' - j], ?_, h1 _ (Array.mem_toList_iff.2 (Array.getElem_mem _)), ?_⟩
                    · rw [show i' * cols.length + j' - (i' * cols.length + j) = j' - j by omega]; exact hu
                    · refine monoC (sel_sound ⟨fun _ => ?_, fun h => ?_⟩)
                      · exact (hr _ d' _ hd' hu).close (closed_go hcl _ (List.mem_of_getElem? hd'))
                      · simp at h
                · have hcell : ¬ (¬ i' * cols.length + j' < i * cols.length + j ∧ i' * cols.length + j' < i * cols.length + j + vs.length) := by
                    rintro ⟨hx, hy⟩
                    obtain ⟨m, hm⟩ : ∃ m, i' * cols.length + j' = i * cols.length + (j + m) := ⟨i' * cols.length + j' - (i * cols.length + j), by omega⟩
                    obtain ⟨e1, e2⟩ := cell_apart hj' (by omega) hm
                    exact hhit ⟨e1, by omega, by omega⟩
                  refine ⟨u0, ?_, hone0, ?_⟩
                  · split
                    · exact hu0
                    · rename_i hx; rw [if_neg (fun hy => hcell ⟨hx, hy⟩)]; exact hu0
                  · refine monoC ?_
                    by_cases hjj : j' < j
                    · rw [List.getElem?_append_left (by rw [List.length_take]; omega), List.getElem?_take, if_pos hjj, hcf] at hf
                      cases hf; exact hrel0
                    · have hf' : (setCols i (cols.drop j) vs)[j' - j]? = some f := by
                        rw [List.getElem?_append_right (by rw [List.length_take]; omega), List.length_take] at hf
                        rwa [show min j cols.length = j by omega] at hf
                      obtain ⟨c, hc, h⟩ := setCols_get i _ vs _ f (by rw [List.length_drop]; omega) hf'
                      rw [List.getElem?_drop, show j + (j' - j) = j' by omega, hcf] at hc
                      cases hc
                      rcases h with ⟨_, rfl⟩ | ⟨d', hd', rfl⟩
                      · exact hrel0
                      · have hm : j' - j < vs.length := (List.getElem?_eq_some_iff.1 hd').1
                        have hne : i' ≠ i := fun e => hhit ⟨e, by omega, by omega⟩
                        refine sel_sound ⟨fun h => ?_, fun _ => hrel0⟩
                        simp at h; exact absurd h hne
        · subst he; exact bad_vc hvc
      · subst he; exact bad_vc hvc
  · subst he; exact bad_vc hvc
end
end Go.Abs
