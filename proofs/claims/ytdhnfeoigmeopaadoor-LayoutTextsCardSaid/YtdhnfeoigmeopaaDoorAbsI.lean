/- Each operation does to the machine what the abstract one does: structs, new rows, append. -/
import Derived.Test.YtdhnfeoigmeopaaDoorAbsH
import Derived.Laws.Tables
import Derived.Laws.AppendOwn
namespace Go.Abs
open Go.RowKit
theorem foldl_put (off : Nat) : ∀ (l : List Value) (k : Nat) (cells : Array Value), off + k + l.length ≤ cells.size →
    (l.zipIdx k).foldl (fun cs (x : Value × Nat) => cs.setIfInBounds (off + x.2) x.1) cells = (cells.toList.take (off + k) ++ (l ++ cells.toList.drop (off + k + l.length))).toArray
  | [], k, cells, _ => by simp
  | v :: l, k, cells, h => by
    simp only [List.length_cons] at h
    simp only [List.zipIdx_cons, List.foldl_cons]
    rw [foldl_put off l (k + 1) _ (by simp; omega)]
    have e := list_seg_step cells.toList (off + k) v l (by simp; omega)
    simp only [List.append_assoc, List.cons_append] at e
    congr 1
    rw [Array.toList_setIfInBounds]
    simp only [List.length_cons]
    rw [show off + (k + 1) = off + k + 1 by omega]
    exact e
def Cells (rd : Rd) (kn : Nat → Prop) (blk : Nat → Option Loc) (cs : List DV) (vs : Array Value) : Prop :=
  vs.size = cs.length ∧ (∀ (j : Nat) (d : DV) (u : Value), cs[j]? = some d → vs[j]? = some u → Rel rd kn blk d u) ∧ ∀ u ∈ vs.toList, oneV u = true
inductive Parts (rd : Rd) (kn : Nat → Prop) (blk : Nat → Option Loc) : List (Nat × DV) → List (Nat × Value) → Prop
  | nil : Parts rd kn blk [] []
  | cons {i : Nat} {d : DV} {v : Value} {r : List (Nat × DV)} {q : List (Nat × Value)} (h : Rel rd kn blk d v) (t : Parts rd kn blk r q) : Parts rd kn blk ((i, d) :: r) ((i, v) :: q)
theorem Cells.seg {rd : Rd} {kn : Nat → Prop} {blk : Nat → Option Loc} {cs ds : List DV} {vs : Array Value} {us : List Value} {off : Nat} (h : Cells rd kn blk cs vs) (hl : off + ds.length ≤ cs.length)
    (hs : us.length = ds.length) (hr : ∀ (j : Nat) (d : DV) (u : Value), ds[j]? = some d → us[j]? = some u → Rel rd kn blk d u) (h1 : ∀ u ∈ us, oneV u = true) :
    Cells rd kn blk (cs.take off ++ (ds ++ cs.drop (off + ds.length))) (vs.toList.take off ++ (us ++ vs.toList.drop (off + us.length))).toArray := by
  obtain ⟨hz, hrel, ho⟩ := h
  refine ⟨by simp; omega, fun k d u hd hu => ?_, fun u hu => ?_⟩
  · rw [List.getElem?_toArray, seg_get _ _ _ _ (by simp; omega)] at hu
    rw [seg_get _ _ _ _ hl] at hd
    rw [hs] at hu
    split at hd
    · rename_i hk; rw [if_pos hk] at hu; exact hrel k d u hd (by simpa using hu)
    · rename_i hk
      rw [if_neg hk] at hu
      split at hd
      · rename_i hk2; rw [if_pos hk2] at hu; exact hr _ d u hd hu
      · rename_i hk2; rw [if_neg hk2] at hu; exact hrel k d u hd (by simpa using hu)
  · simp only [List.mem_append] at hu
    rcases hu with hu | hu | hu
    · exact ho _ (List.mem_of_mem_take hu)
    · exact h1 _ hu
    · exact ho _ (List.mem_of_mem_drop hu)
theorem fill_sound {rd : Rd} {kn : Nat → Prop} {blk : Nat → Option Loc} {place : Nat → Option (Nat × Nat)} : ∀ {parts : List (Nat × DV)} {vparts : List (Nat × Value)} {zs cs : List DV} {vs : Array Value},
    fillD place zs parts = some cs → Cells rd kn blk zs vs → Parts rd kn blk parts vparts → ∃ us, Instr.fill place vs vparts = some us ∧ Cells rd kn blk cs us := by
  intro parts
  induction parts with
  | nil =>
    intro vparts zs cs vs h hc hp
    cases hp
    simp only [fillD, Option.some.injEq] at h
    subst h
    exact ⟨vs, rfl, hc⟩
  | cons x parts ih =>
    intro vparts zs cs vs h hc hp
    cases hp with
    | cons hr ht =>
      rename_i i d v q
      simp only [fillD] at h
      split at h
      · rename_i off size ds hpl hds
        obtain ⟨hs, hrel, ho⟩ := hr.cells hds
        cases hb : (Nat.beq ds.length size && Nat.ble (off + ds.length) zs.length)
        · simp [hb] at h
        · simp only [hb, cond_true] at h
          simp only [Bool.and_eq_true] at hb
          obtain rfl := Nat.eq_of_beq_eq_true hb.1
          have hle := Nat.le_of_ble_eq_true hb.2
          have hz := hc.1
          have hseg := Cells.seg (us := v.cells.toList) hc hle (by simpa using hs) (fun j d u hd hu => hrel j d u hd (by simpa using hu)) ho
          obtain ⟨us, h1, h2⟩ := ih h hseg ht
          refine ⟨us, ?_, h2⟩
          simp only [Instr.fill, hpl]
          have hno : ¬ ((decide (v.cells.size ≠ ds.length) || decide (off + v.cells.size > vs.size)) = true) := by
            simp [hs]; omega
          rw [if_neg hno]
          have hf := foldl_put off v.cells.toList 0 vs (by simp [hs]; omega)
          simp only [Nat.add_zero] at hf
          rw [← h1, ← hf, ← Array.toList_zipIdx, Array.foldl_toList]
      · cases h
theorem selL_sound {rd : Rd} {v : Value} {d : DV} : ∀ {cs : List DV} {k i : Nat}, k ≤ i → cs[i - k]? = some d → RelC rd d v → RelC rd (selL k cs i) v
  | [], k, i, _, h, _ => by simp at h
  | [c], k, i, hk, h, hr => by
    have : i - k = 0 := by
      have := (List.getElem?_eq_some_iff.1 h).1
      simp at this; omega
    rw [this] at h
    simp at h; subst h; exact hr
  | c :: c2 :: r, k, i, hk, h, hr => by
    show RelC rd (sel (decide (i = k)) c (selL (k + 1) (c2 :: r) i)) v
    refine sel_sound ⟨fun e => ?_, fun e => ?_⟩
    · have e : i = k := by simpa using e
      rw [e, Nat.sub_self] at h
      simp at h; subst h; exact hr
    · have e : i ≠ k := by simpa using e
      refine selL_sound (by omega) ?_ hr
      rw [show i - k = (i - (k + 1)) + 1 by omega, List.getElem?_cons_succ] at h
      exact h
theorem mkColC_sound {cs : List DV} {i : Nat} {d : DV} (h : cs[i]? = some d) {rd : Rd} {v : Value} (hr : RelC rd d v) : RelC rd (mkColC cs i) v := by
  match cs, h with
  | [], h => simp at h
  | [d'], h =>
    match i, h with
    | 0, h => simp at h; subst h; exact hr
    | i + 1, h => simp at h
  | c1 :: c2 :: r, h =>
    simp only [mkColC]
    generalize c1 :: c2 :: r = cs at h
    cases hl : allInts cs with
    | some q =>
      obtain ⟨k, l⟩ := q
      have := allInts_sound hl
      subst this
      rw [List.getElem?_map] at h
      cases hli : l[i]? with
      | none => simp [hli] at h
      | some n =>
        simp only [hli, Option.map_some, Option.some.injEq] at h
        subst h
        simpa [List.getD, hli] using hr
    | none => exact selL_sound (Nat.zero_le i) (by simpa using h) hr
section
variable {P : Program} {base : Nat} {w0 w : World} {S0 : Env} {σ : St} {kn : Nat → Prop} {blk : Nat → Option Loc} {a : Act}
theorem tZero_cells {t : TypeId} {z : List DV} (h : tZero P t = some z) : ∃ i v, P.info? t = some i ∧ i.zero = some v ∧ ∀ (rd : Rd) (kn : Nat → Prop) (blk : Nat → Option Loc), Cells rd kn blk z v.cells := by
  unfold tZero at h
  split at h
  · rename_i i hi
    split at h
    · rename_i v hz
      exact ⟨i, v, hi, hz, fun rd kn blk => Rel.cells (.val v) h⟩
    · cases h
  · cases h
theorem evBuild_sound {t : TypeId} {parts : List (Nat × DV)} {vparts : Array (Nat × Value)} {e : Eff} (he : evBuild P t parts = e) (hvc : AllP e.vc)
    (hp : Parts (rdOf w base S0 blk) kn blk parts vparts.toList) : Still P base S0 kn blk w (Instr.build t vparts) e := by
  unfold evBuild at he
  split at he
  · rename_i fs z hu hz
    obtain ⟨it, v, hit, hiz, hcz⟩ := tZero_cells hz
    split at he
    · rename_i ps hps
      split at he
      · rename_i cs hf
        subst he
        obtain ⟨us, h1, h2, h3, _⟩ := fill_sound hf (hcz _ _ _) hp
        refine ⟨rfl, .agg us, ?_, Rel.mkAgg h2 h3⟩
        refine run_build w t vparts us ?_
        unfold Program.built
        unfold placesOf at hps
        simp only [hit, hu, hiz, hps]
        simpa using h1
      · subst he; exact bad_vc hvc
    · subst he; exact bad_vc hvc
  · rename_i n el z hu hz
    obtain ⟨it, v, hit, hiz, hcz⟩ := tZero_cells hz
    split at he
    · rename_i s hs
      split at he
      · rename_i cs hf
        subst he
        obtain ⟨us, h1, h2, h3, _⟩ := fill_sound hf (hcz _ _ _) hp
        refine ⟨rfl, .agg us, ?_, Rel.mkAgg h2 h3⟩
        refine run_build w t vparts us ?_
        unfold tSize at hs
        split at hs
        · rename_i ie hie
          cases hs
          unfold Program.built
          simp only [hit, hu, hiz, hie]
          exact h1
        · cases hs
      · subst he; exact bad_vc hvc
    · subst he; exact bad_vc hvc
  · subst he; exact bad_vc hvc
theorem flat_get {α : Type} (z : List α) : ∀ (n k : Nat), k < n * z.length → (List.flatten (List.replicate n z))[k]? = z[k % z.length]?
  | 0, k, h => by simp at h
  | n + 1, k, h => by
    rw [List.replicate_succ, List.flatten_cons]
    by_cases hk : k < z.length
    · rw [List.getElem?_append_left hk, Nat.mod_eq_of_lt hk]
    · rw [List.getElem?_append_right (by omega), flat_get z n (k - z.length) (by rw [Nat.succ_mul] at h; omega), ← Nat.mod_eq_sub_mod (by omega)]
theorem newRowRuns (r : R base w0 S0 σ kn blk a w) {id : Nat} (hid : ¬ kn id) {T : TypeId} {cv : Array Value} {len s : Nat} {cols : List (Nat → DV)} (hs : cols.length = s) (hz : cv.size = len * s)
    (hr : ∀ (i j : Nat) (f : Nat → DV), i < len → cols[j]? = some f → ∃ u, cv[i * cols.length + j]? = some u ∧ oneV u = true ∧ RelC (rdOf w base S0 blk) (f i) u) {sm : Sem Value}
    (hrun : sm.run P w = .ok (.slice (some ⟨w.heap.size, 0, none⟩) len len) (w.alloc (.cells cv T))) :
    Runs P base w0 S0 σ kn a w id sm { d := .row s id 0 len, hw := [(id, some (.row len cols))] } := by
  have q := r.new (C := len) (T := T) hid (o := .row len cols) (cv := cv) (.inr ⟨_, _, rfl⟩) (.inr ⟨w.heap.size, len, cv, T, rfl, heap_alloc_new w _, by rw [hz, hs], Nat.le_refl _, hr⟩)
  refine ⟨_, _, hrun, _, _, q, .row (.inr rfl) ⟨_, _, rfl, fun h => by cases h⟩ (fun hb => ?_) (fun g C hb => ?_) (fun g o C hb => by simp at hb), fun i hi => hi⟩
  · simp at hb
  · simp only [if_true, Option.some.injEq, Loc.at_.injEq] at hb
    obtain ⟨rfl, rfl⟩ := hb
    exact .inl (by simp)
theorem evBuildSlice_sound (r : R base w0 S0 σ kn blk a w) {id : Nat} (hid : ¬ kn id) {t : TypeId} {len : Nat} {parts : List (Nat × DV)} {vparts : Array (Nat × Value)} {e : Eff} (he : evBuildSlice P id t len parts = e) (hvc : AllP e.vc)
    (hp : Parts (rdOf w base S0 blk) kn blk parts vparts.toList) : Runs P base w0 S0 σ kn a w id (Instr.buildSlice t len vparts) e := by
  unfold evBuildSlice at he
  split at he
  · rename_i el hu
    split at he
    · rename_i s z hs hz
      obtain ⟨it, v, hit, hiz, hcz⟩ := tZero_cells hz
      cases hb : (Nat.beq z.length s && Nat.ble (len * s) 16777216)
      · simp only [hb, cond_false] at he; subst he; exact bad_vc hvc
      · simp only [hb, cond_true] at he
        simp only [Bool.and_eq_true] at hb
        obtain rfl := Nat.eq_of_beq_eq_true hb.1
        have hle := Nat.le_of_ble_eq_true hb.2
        split at he
        · rename_i cs hf
          have main : ∃ us : Array Value, us.size = cs.length ∧ cs.length = len * z.length ∧ (∀ (k : Nat) (d : DV) (u : Value), cs[k]? = some d → us[k]? = some u → Rel (rdOf w base S0 blk) kn blk d u) ∧ (∀ u ∈ us.toList, oneV u = true) ∧ (Instr.buildSlice t len vparts).run P w = .ok (.slice (some ⟨w.heap.size, 0, none⟩) len len) (w.alloc (.cells us el)) := by
            have hvs : v.cells.size = z.length := (hcz (fun _ _ => True) (fun _ => True) (fun _ => none)).1
            have hzero : (zeroValue el).run P w = .ok v w := by simp [zeroValue, typeInfo, hit, hiz]
            have hinit : Cells (rdOf w base S0 blk) kn blk (List.flatten (List.replicate len z)) ((Array.range (len * z.length)).map (v.cells[· % v.cells.size]!)) := by
              obtain ⟨z1, z2, z3⟩ := hcz (rdOf w base S0 blk) kn blk
              have hidx : ∀ k, k < len * z.length → k % z.length < z.length := fun k hk => Nat.mod_lt _ (by
                rcases Nat.eq_zero_or_pos z.length with h | h
                · rw [h] at hk; simp at hk
                · exact h)
              refine ⟨by simp, fun k d u hd hu => ?_, fun u hu => ?_⟩
              · have hk : k < len * z.length := by
                  have := (Array.getElem?_eq_some_iff.1 hu).1
                  simpa using this
                rw [flat_get z len k hk] at hd
                refine z2 (k % z.length) d u hd ?_
                have hlt : k % z.length < v.cells.size := by rw [hvs]; exact hidx k hk
                simp [hk, z1] at hu
                rw [← hu]; simp [hlt]
              · obtain ⟨k, hk, rfl⟩ := List.mem_iff_getElem.1 hu
                have hk' : k < len * z.length := by simpa using hk
                have hlt : k % z.length < v.cells.size := by rw [hvs]; exact hidx k hk'
                refine z3 _ ?_
                simp [z1]
                rw [getElem!_pos v.cells _ hlt]
                exact Array.getElem_mem _
            obtain ⟨us, h1, h2, h3, h4⟩ := fill_sound hf hinit hp
            have hlen : cs.length = len * z.length := by
              have : ∀ {parts : List (Nat × DV)} {zs cs : List DV}, fillD (fun i => some (i * z.length, z.length)) zs parts = some cs → cs.length = zs.length := by
                intro parts
                induction parts with
                | nil => intro zs cs h; simp only [fillD, Option.some.injEq] at h; rw [h]
                | cons x parts ih =>
                  intro zs cs h
                  obtain ⟨i, d⟩ := x
                  simp only [fillD] at h
                  split at h
                  · rename_i off size ds hpl hds
                    cases hb : (Nat.beq ds.length size && Nat.ble (off + ds.length) zs.length)
                    · simp [hb] at h
                    · simp only [hb, cond_true] at h
                      simp only [Bool.and_eq_true] at hb
                      have := Nat.le_of_ble_eq_true hb.2
                      rw [ih h]; simp; omega
                  · cases h
              rw [this hf]; simp
            have hrun : (Instr.buildSlice t len vparts).run P w = .ok (.slice (some ⟨w.heap.size, 0, none⟩) len len) (w.alloc (.cells us el)) := by
              have hg : ¬ (len * z.length > 2 ^ 24) := by omega
              by_cases h0 : len * z.length = 0
              · have hr0 : (Array.range (len * z.length)).map ((#[] : Array Value)[· % (#[] : Array Value).size]!) = (Array.range (len * z.length)).map (v.cells[· % v.cells.size]!) := by
                  rw [h0]; simp
                have h1' := h1
                rw [← hr0] at h1'
                simp only [Instr.buildSlice, Sem.run_bind, run_underlying hu, Result.andThen_ok, tSize_run hs, if_neg hg, if_pos h0, Sem.run_pure, h1']
                simp [newRow]
              · simp only [Instr.buildSlice, Sem.run_bind, run_underlying hu, Result.andThen_ok, tSize_run hs, if_neg hg, if_neg h0, hzero, Sem.run_pure, h1]
                simp [newRow]
            exact ⟨us, h2, hlen, h3, h4, hrun⟩
          obtain ⟨us, h2, hlen, h3, h4, hrun⟩ := main
          cases hcl : DV.closed.go cs
          · simp only [hcl, cond_false] at he
            cases h1 : Nat.beq z.length 1
            · simp only [h1, cond_false] at he; subst he; exact bad_vc hvc
            · simp only [h1, cond_true] at he
              subst he
              have q := r.new (C := len) (T := el) hid (o := .box cs) (cv := us) (.inl ⟨_, rfl⟩) ⟨w.heap.size, len, us, el, rfl, heap_alloc_new w _, h2, h3, h4⟩
              refine ⟨_, _, hrun, _, _, q, .row (.inr rfl) ⟨_, _, rfl, fun h => by cases h⟩ (fun hb => ?_) (fun g C hb => ?_) (fun g o C hb => by simp at hb), fun i hi => hi⟩
              · simp at hb
              · simp only [if_true, Option.some.injEq, Loc.at_.injEq] at hb
                obtain ⟨rfl, rfl⟩ := hb
                exact .inl (by simp)
          · simp only [hcl, cond_true] at he
            split at he
            · subst he
              refine newRowRuns r hid (by simp) (by rw [h2, hlen]) (fun i j f hi => by omega) hrun
            · subst he
              refine newRowRuns r hid (by simp) (by rw [h2, hlen]) (fun i j f hi hj => ?_) hrun
              have hjs : j < z.length := by
                have := (List.getElem?_eq_some_iff.1 hj).1
                simpa using this
              rw [List.getElem?_map, List.getElem?_range hjs] at hj
              simp only [Option.map_some, Option.some.injEq] at hj
              subst hj
              simp only [List.length_map, List.length_range]
              have hroom : i * z.length + z.length ≤ cs.length := by
                rw [hlen, ← Nat.succ_mul]; exact Nat.mul_le_mul_right _ hi
              have hlt : i * z.length + j < us.size := by rw [h2]; omega
              have hu2 : us[i * z.length + j]? = some us[i * z.length + j] := Array.getElem?_eq_getElem hlt
              have hlt2 : i * z.length + j < cs.length := by omega
              have hd2 : cs[i * z.length + j]? = some cs[i * z.length + j] := List.getElem?_eq_getElem hlt2
              refine ⟨_, hu2, h4 _ (Array.mem_toList_iff.2 (Array.getElem_mem _)), ?_⟩
              have hroom2 : (len - 1) * z.length + j < cs.length := by
                have : (len - 1) * z.length + z.length = len * z.length := by rw [← Nat.succ_mul]; congr 1; omega
                omega
              have hev := every_get z.length j len cs i hi hroom2
              rw [hd2] at hev
              exact mkColC_sound hev ((h3 _ _ _ hd2 hu2).close (closed_go hcl _ (List.mem_of_getElem? hd2)))
        · subst he; exact bad_vc hvc
    · subst he; exact bad_vc hvc
  · subst he; exact bad_vc hvc
end
end Go.Abs
