/- append does to the machine what the abstract one does. -/
import Derived.Test.YteennpofimiliaaGreatDoorAbsI
namespace Go.Abs
open Go.RowKit
section
variable {P : Program} {base : Nat} {w0 w w' : World} {S0 : Env} {σ σ' : St} {kn : Nat → Prop} {blk : Nat → Option Loc} {a : Act}
theorem evLoadSel_sound (r : R base w0 S0 σ kn blk a w) {t : TypeId} {m : Nat} {p : DV} {v : Value} {e : Eff} (he : evLoadSel P σ.obj t m p = e) (hvc : AllP e.vc)
    (hv : Rel (rdOf w base S0 blk) kn blk p v) : Still P base S0 kn blk w (Instr.loadAt t v) e := by
  unfold evLoadSel at he
  split at he
  · rename_i s id i j
    split at he
    · rename_i n cols h1 h2
      cases hb : Nat.beq cols.length s && Nat.ble m cols.length
      · simp only [hb, cond_false] at he; subst he; exact bad_vc hvc
      · simp only [hb, cond_true] at he
        split at he
        · rename_i k l hl
          subst he
          rw [Bool.and_eq_true] at hb
          have hm := Nat.le_of_ble_eq_true hb.2
          have hj : j < m := hvc.tl.one
          have hra : readAt σ.obj (.rptr s id i j) = some ((cols.drop j).map fun c => c i, [i < n]) := by
            simp only [readAt, h2, hb.1, cond_true]
          obtain ⟨ad, rfl, hc⟩ := readAt_sound r hra (fun q hq => by rw [List.mem_singleton.1 hq]; exact hvc.hd) hv
          have e := allInts_sound hl
          have hj' : j < cols.length := by omega
          obtain ⟨u, hu, hrel⟩ := hc 0 (cols[j] i) (by simp [hj'])
          have hcj : cols[j] i = .val (.int k (l.getD j 0)) := by
            have h3 := congrArg (fun q : List DV => q[j]?) e
            simp only [List.getElem?_map, List.getElem?_take, if_pos hj, List.getElem?_eq_getElem hj', Option.map_some] at h3
            cases hlj : l[j]? with
            | none => rw [hlj] at h3; cases h3
            | some z => rw [hlj] at h3; simp only [Option.map_some, Option.some.injEq] at h3; rw [h3, List.getD_eq_getElem?_getD, hlj]; rfl
          rw [hcj] at hrel
          refine ⟨rfl, u, ?_, hrel⟩
          have hu' : w.cell? ad = some u := by simpa [Addr.add] using hu
          simp [Instr.loadAt, Instr.sureAddr, loadVar, tAgg_run h1, hu']
        · subst he; exact bad_vc hvc
    · subst he; exact bad_vc hvc
  · subst he; exact bad_vc hvc
theorem evIndexAddr_sound (r : R base w0 S0 σ kn blk a w) {t : TypeId} {x i : DV} {v vi : Value} {e : Eff} (he : evIndexAddr P σ.obj t x i = e) (hvc : AllP e.vc)
    (hv : Rel (rdOf w base S0 blk) kn blk x v) (hi : Rel (rdOf w base S0 blk) kn blk i vi) : Still P base S0 kn blk w (Instr.indexAt t v vi) e := by
  unfold evIndexAddr at he
  split at he
  · rename_i el k q hu
    cases hi
    split at he
    · rename_i s s' id off len hsz
      cases hb : Nat.beq s s' && isRow σ.obj id s
      · simp only [hb, cond_false] at he; subst he; exact bad_vc hvc
      · simp only [hb, cond_true] at he
        subst he
        simp only [Bool.and_eq_true] at hb
        obtain rfl := Nat.eq_of_beq_eq_true hb.1
        have hk : 0 ≤ q ∧ q < (len : Int) := hvc.one
        obtain ⟨hkn, ⟨_, _, hl, _⟩ | ⟨g, C, rfl, hC, hl⟩ | ⟨_, hl, _⟩⟩ := row_val r hb.2 hv
        rotate_left 2
        · omega
        · omega
        · refine ⟨rfl, .pointer (some (Addr.add ⟨g, off * s, none⟩ (q.toNat * s))), ?_, .rptr hkn ⟨_, rfl⟩ fun g' C' hb' => ?_⟩
          · simp [Instr.indexAt, run_underlying hu, asIntOf, hk, tSize_run hsz]
          · rw [hl] at hb'
            cases hb'
            rw [add_off, addN_eq, Nat.add_mul]
            rfl
    · rename_i s n cols hsz
      cases hb : Nat.beq cols.length s
      · simp only [hb, cond_false] at he; subst he; exact bad_vc hvc
      · simp only [hb, cond_true] at he
        subst he
        obtain rfl := Nat.eq_of_beq_eq_true hb
        have hk : 0 ≤ q ∧ q < (n : Int) := hvc.one
        cases hv with
        | lst U hc ha hn _ hr =>
          rename_i A c _
          cases A with
          | none => exact absurd rfl (hn (by omega))
          | some ad =>
            refine ⟨rfl, .pointer (some (ad.add (q.toNat * cols.length))), ?_, .cptr (fun j => U q.toNat j) (fun j d hd => ?_) fun j d hd => ?_⟩
            · simp [Instr.indexAt, run_underlying hu, asIntOf, hk, tSize_run hsz]
            · rw [List.getElem?_map] at hd
              cases hcj : cols[j]? with
              | none => simp [hcj] at hd
              | some f =>
                obtain ⟨ad', e1, e2⟩ := ha q.toNat j f (by omega) hcj
                cases e1
                rw [add_add]; exact e2
            · rw [List.getElem?_map] at hd
              cases hcj : cols[j]? with
              | none => simp [hcj] at hd
              | some f =>
                simp only [hcj, Option.map_some, Option.some.injEq] at hd
                subst hd
                exact hr q.toNat j f (by omega) hcj
    · subst he; exact bad_vc hvc
  · rename_i len el k q hu
    cases hi
    split at he
    · rename_i s id j hsz
      subst he
      have hk : 0 ≤ q ∧ q < (len : Int) := hvc.one
      cases hv with
      | ptr hkn hp h =>
        obtain ⟨ad, rfl⟩ := hp
        refine ⟨rfl, .pointer (some (ad.add (q.toNat * s))), by simp [Instr.indexAt, run_underlying hu, asIntOf, hk, tSize_run hsz, Instr.sureAddr], .ptr hkn ⟨_, rfl⟩ fun g C hb => ?_⟩
        have := h g C hb
        simp only [Value.pointer.injEq, Option.some.injEq] at this
        rw [this, add_off]
    · rename_i s s' id i j hsz
      subst he
      have hk : 0 ≤ q ∧ q < (len : Int) := hvc.one
      cases hv with
      | rptr hkn hp h =>
        obtain ⟨ad, rfl⟩ := hp
        refine ⟨rfl, .pointer (some (ad.add (q.toNat * s))), by simp [Instr.indexAt, run_underlying hu, asIntOf, hk, tSize_run hsz, Instr.sureAddr], .rptr hkn ⟨_, rfl⟩ fun g C hb => ?_⟩
        have := h g C hb
        simp only [Value.pointer.injEq, Option.some.injEq] at this
        rw [this, add_off, Nat.add_assoc]
    · rename_i s cs hsz
      cases hb : Nat.ble (len * s) cs.length
      · simp only [hb, cond_false] at he; subst he; exact bad_vc hvc
      · simp only [hb, cond_true] at he
        subst he
        have hle := Nat.le_of_ble_eq_true hb
        have hk : 0 ≤ q ∧ q < (len : Int) := hvc.one
        have hq : q.toNat < len := by omega
        have hsp : ∀ j, j < s → (len - 1) * s + j < cs.length := fun j hj => by
          have : (len - 1) * s + s = len * s := by rw [← Nat.succ_mul]; congr 1; omega
          omega
        have hqs : ∀ j, j < s → q.toNat * s + j < cs.length := fun j hj => by
          have : q.toNat * s ≤ (len - 1) * s := Nat.mul_le_mul_right s (by omega)
          have := hsp j hj
          omega
        cases hv with
        | cptr U ha hr =>
          refine ⟨rfl, _, by simp [Instr.indexAt, run_underlying hu, asIntOf, hk, tSize_run hsz, Instr.sureAddr]; rfl, .cptr (fun j => U (q.toNat * s + j)) (fun j d hd => ?_) fun j d hd => ?_⟩
          · rw [List.getElem?_map] at hd
            have hj : j < s := by
              rcases Nat.lt_or_ge j s with h | h
              · exact h
              · rw [List.getElem?_eq_none (by simpa using h)] at hd; simp at hd
            rw [add_add]
            exact ha _ _ (List.getElem?_eq_getElem (hqs j hj))
          · rw [List.getElem?_map] at hd
            have hj : j < s := by
              rcases Nat.lt_or_ge j s with h | h
              · exact h
              · rw [List.getElem?_eq_none (by simpa using h)] at hd; simp at hd
            rw [List.getElem?_range hj] at hd
            simp only [Option.map_some, Option.some.injEq] at hd
            subst hd
            have hc := List.getElem?_eq_getElem (hqs j hj)
            exact mkColC_sound (by rw [every_get s j len cs q.toNat hq (hsp j hj)]; exact hc) (hr _ _ hc)
    · subst he; exact bad_vc hvc
  · subst he; exact bad_vc hvc
theorem R.congr (r : R base w0 S0 σ kn blk a w) (h1 : ∀ t, σ'.get t = σ.get t) (h2 : ∀ id, σ'.obj id = σ.obj id) (h3 : σ'.nt = σ.nt) : R base w0 S0 σ' kn blk a w :=
  ⟨r.below, r.hbase, r.dfr, r.kpo, r.shp, r.size.trans h3.symm, fun t => by rw [h1]; exact r.tmps t, fun id o h => r.objs id o (by rw [← h2]; exact h), r.inj, r.ge, fun id l h => by rw [h2]; exact r.live id l h⟩
theorem R.move (r : R base w0 S0 σ kn blk a w) {id q : Nat} {o : AObj} {l : Loc} (hid : ¬ kn id) (hsz : w.heap.size ≤ w'.heap.size) (hos : w'.os = w.os) (htp : w'.tape = w.tape) (hout : w'.output = w.output)
    (hk : ∀ k, k < w.heap.size → (∀ C, blk q ≠ some (.at_ k C)) → w'.heap[k]? = w.heap[k]?)
    (hl : ∀ g C, l = .at_ g C → (∃ C', blk q = some (.at_ g C')) ∨ (w.heap.size ≤ g ∧ g < w'.heap.size))
    (ho : (∀ {d v}, RelC (rdOf w base S0 blk) d v → RelC (rdOf w' base S0 (fun i => if i = id then some l else if i = q then none else blk i)) d v) →
      ObjRel w' (rdOf w' base S0 (fun i => if i = id then some l else if i = q then none else blk i)) (fun i => kn i ∨ i = id) (fun i => if i = id then some l else if i = q then none else blk i) (some l) o) :
    R base w0 S0 ((σ.setObj q none).setObj id (some o)) (fun i => kn i ∨ i = id) (fun i => if i = id then some l else if i = q then none else blk i) a w' := by
  have hnone : blk id = none := by
    cases hb : blk id with
    | none => rfl
    | some l => exact absurd (r.objs id _ (r.live id l hb).choose_spec).1 hid
  have hb : Below base w w' := ⟨hos, htp, hout, hsz, fun k hk' => hk k (Nat.lt_of_lt_of_le hk' r.hbase) fun C e => by have := (r.ge _ _ _ e).1; omega⟩
  have c : Chg w w' kn (fun i => kn i ∨ i = id) blk (fun i => if i = id then some l else if i = q then none else blk i) := by
    refine ⟨hsz, fun k hk1 hm => hk k hk1 fun C e => hm _ _ _ e rfl, fun i g C e => ?_, fun _ h => .inl h, fun i l' hi e => ?_⟩
    · by_cases e1 : i = id
      · rw [if_pos e1] at e
        cases e
        rcases hl g C rfl with ⟨C', h⟩ | ⟨h, _⟩
        · exact .inl ⟨q, C', h⟩
        · exact .inr h
      · rw [if_neg e1] at e
        by_cases e2 : i = q
        · rw [if_pos e2] at e; cases e
        · rw [if_neg e2] at e; exact .inl ⟨i, C, e⟩
    · have e1 : i ≠ id := fun e' => hid (e' ▸ hi)
      rw [if_neg e1] at e
      by_cases e2 : i = q
      · rw [if_pos e2] at e; cases e
      · rw [if_neg e2] at e; exact e
  refine ⟨r.below.trans hb, Nat.le_trans r.hbase hsz, ⟨r.dfr.1, fun d hd => let ⟨D, e, hD, hh⟩ := r.dfr.2 d hd; ⟨D, e, hD, by rw [hk D (heap_lt hh) (fun C' e3 => r.not_mark e3 hh)]; exact hh⟩⟩, r.kpo.trans ⟨hsz, fun k o hk' ho' => by rw [hk k (heap_lt hk') (fun C' e3 => r.not_other e3 hk' ho')]; exact hk'⟩, fun d v h => c.rel (r.shp d v h), r.size, fun t => c.rel (r.tmps t), fun i o' h => ?_, fun i i' g C1 C2 h1 h2 => ?_, fun i g C e => ?_, fun i l' e => ?_⟩
  · rw [St.obj_setObj] at h
    by_cases e : id = i
    · subst e
      simp only [if_true, Option.some.injEq] at h
      subst h
      exact ⟨.inr rfl, by simpa using ho c.relC⟩
    · rw [if_neg e, St.obj_setObj] at h
      by_cases e2 : q = i
      · rw [if_pos e2] at h; cases h
      · rw [if_neg e2] at h
        obtain ⟨k1, k2⟩ := r.objs i o' h
        refine ⟨.inl k1, ?_⟩
        rw [if_neg (fun e' => e e'.symm), if_neg (fun e' => e2 e'.symm)]
        exact c.obj k2 fun g C e' => hk g (r.ge i g C e').2 fun C' e3 => e2 (r.inj _ _ _ _ _ e3 e')
  · by_cases e1 : i = id <;> by_cases e2 : i' = id
    · rw [e1, e2]
    · rw [if_pos e1] at h1
      rw [if_neg e2] at h2
      by_cases e3 : i' = q
      · rw [if_pos e3] at h2; cases h2
      · rw [if_neg e3] at h2
        cases h1
        rcases hl g C1 rfl with ⟨C', h⟩ | ⟨h, _⟩
        · exact absurd (r.inj _ _ _ _ _ h2 h) e3
        · have := (r.ge _ _ _ h2).2; omega
    · rw [if_pos e2] at h2
      rw [if_neg e1] at h1
      by_cases e3 : i = q
      · rw [if_pos e3] at h1; cases h1
      · rw [if_neg e3] at h1
        cases h2
        rcases hl g C2 rfl with ⟨C', h⟩ | ⟨h, _⟩
        · exact absurd (r.inj _ _ _ _ _ h1 h) e3
        · have := (r.ge _ _ _ h1).2; omega
    · rw [if_neg e1] at h1
      rw [if_neg e2] at h2
      by_cases e3 : i = q
      · rw [if_pos e3] at h1; cases h1
      · by_cases e4 : i' = q
        · rw [if_pos e4] at h2; cases h2
        · rw [if_neg e3] at h1
          rw [if_neg e4] at h2
          exact r.inj _ _ _ _ _ h1 h2
  · by_cases e1 : i = id
    · rw [if_pos e1] at e
      cases e
      rcases hl g C rfl with ⟨C', h⟩ | ⟨h, h'⟩
      · have := r.ge _ _ _ h; exact ⟨this.1, by omega⟩
      · have := r.hbase; exact ⟨by omega, h'⟩
    · rw [if_neg e1] at e
      by_cases e2 : i = q
      · rw [if_pos e2] at e; cases e
      · rw [if_neg e2] at e
        have := r.ge _ _ _ e; exact ⟨this.1, by omega⟩
  · rw [St.obj_setObj]
    by_cases e1 : id = i
    · exact ⟨o, by simp [e1]⟩
    · rw [if_neg e1, St.obj_setObj]
      rw [if_neg (fun e' => e1 e'.symm)] at e
      by_cases e2 : i = q
      · rw [if_pos e2] at e; cases e
      · rw [if_neg e2] at e
        rw [if_neg (fun e' => e2 e'.symm)]
        exact r.live i l' e
theorem source_sound (r : R base w0 S0 σ kn blk a w) {s m : Nat} {y : DV} {cols : List (Nat → DV)} {vc : List Prop} {v : Value} (h : source σ.obj s y = some (m, cols, vc)) (hvc : AllP vc)
    (hcl : cols.length = s) (hv : Rel (rdOf w base S0 blk) kn blk y v) : ∃ (A : Option Addr) (c : Nat) (news : List Value), v = .slice A m c ∧ news.length = m * s ∧
      (A = none → m = 0) ∧ (∀ ad, A = some ad → ∀ j u, news[j]? = some u → w.cell? (ad.add j) = some u) ∧ (∀ u ∈ news, oneV u = true) ∧
      ∀ (i j : Nat) (f : Nat → DV), i < m → cols[j]? = some f → ∃ u, news[i * s + j]? = some u ∧ RelC (rdOf w base S0 blk) (f i) u := by
  -- out of cells that are known one by one
  have build : ∀ (ad : Addr) (m : Nat) (cols : List (Nat → DV)) (c : Nat), cols.length = s → (∀ (i j : Nat) (f : Nat → DV), i < m → cols[j]? = some f → ∃ u, w.cell? (ad.add (i * s + j)) = some u ∧ oneV u = true ∧ RelC (rdOf w base S0 blk) (f i) u) →
      ∃ (A : Option Addr) (c' : Nat) (news : List Value), (.slice (some ad) m c : Value) = .slice A m c' ∧ news.length = m * s ∧ (A = none → m = 0) ∧ (∀ ad, A = some ad → ∀ j u, news[j]? = some u → w.cell? (ad.add j) = some u) ∧ (∀ u ∈ news, oneV u = true) ∧
      ∀ (i j : Nat) (f : Nat → DV), i < m → cols[j]? = some f → ∃ u, news[i * s + j]? = some u ∧ RelC (rdOf w base S0 blk) (f i) u := by
    intro ad m cols c hcs hcell
    have split : ∀ k, k < m * s → k / s < m ∧ k % s < s ∧ k / s * s + k % s = k := fun k hk => by
      have hs : 0 < s := by
        rcases Nat.eq_zero_or_pos s with h | h
        · rw [h] at hk; simp at hk
        · exact h
      exact ⟨Nat.div_lt_of_lt_mul (by rw [Nat.mul_comm]; exact hk), Nat.mod_lt _ hs, by rw [Nat.mul_comm]; exact Nat.div_add_mod k s⟩
    have cell : ∀ k, k < m * s → ∃ u, w.cell? (ad.add k) = some u ∧ oneV u = true := fun k hk => by
      obtain ⟨h1, h2, h3⟩ := split k hk
      have hf : cols[k % s]? = some cols[k % s] := List.getElem?_eq_getElem (by omega)
      obtain ⟨u, hu, ho, _⟩ := hcell _ _ _ h1 hf
      rw [h3] at hu
      exact ⟨u, hu, ho⟩
    refine ⟨some ad, c, (List.range (m * s)).map fun k => (w.cell? (ad.add k)).getD undef, rfl, by simp, (fun h => by cases h), fun ad' e j u hu => ?_, fun u hu => ?_, fun i j f hi hf => ?_⟩
    · cases e
      rw [List.getElem?_map] at hu
      cases hj : (List.range (m * s))[j]? with
      | none => simp [hj] at hu
      | some k =>
        have hk := List.getElem?_eq_some_iff.1 hj
        obtain ⟨hk1, hk2⟩ := hk
        simp at hk1 hk2
        subst hk2
        obtain ⟨u', hu', _⟩ := cell j hk1
        simp [hj, hu'] at hu
        subst hu; exact hu'
    · obtain ⟨k, hk, rfl⟩ := List.mem_map.1 hu
      obtain ⟨u', hu', ho⟩ := cell k (by simpa using hk)
      rw [hu']; exact ho
    · obtain ⟨u, hu, _, hrel⟩ := hcell i j f hi hf
      have hj : j < s := by rw [← hcs]; exact (List.getElem?_eq_some_iff.1 hf).1
      have hlt : i * s + j < m * s := by
        have : i * s + s ≤ m * s := by rw [← Nat.succ_mul]; exact Nat.mul_le_mul_right _ hi
        omega
      exact ⟨u, by simp [hlt, hu], hrel⟩
  unfold source at h
  split at h
  · rename_i n cols'
    cases hb : Nat.beq cols'.length s
    · simp [hb] at h
    · simp only [hb, cond_true, Option.some.injEq, Prod.mk.injEq] at h
      obtain ⟨rfl, rfl, rfl⟩ := h
      cases hv with
      | lst U hc ha hn ho hr =>
        rename_i A c
        rcases Nat.eq_zero_or_pos n with h0 | h0
        · subst h0
          cases A with
          | none => exact ⟨none, c, [], rfl, by simp, fun _ => rfl, (fun ad e => by cases e), by simp, fun i j f hi => by omega⟩
          | some ad => exact ⟨some ad, c, [], rfl, by simp, (fun e => by cases e), by simp, by simp, fun i j f hi => by omega⟩
        · cases A with
          | none => exact absurd rfl (hn h0)
          | some ad =>
            refine build ad n cols' c hcl fun i j f hi hf => ?_
            obtain ⟨ad', e, hrd⟩ := ha i j f hi hf
            cases e
            rw [hcl] at hrd
            exact ⟨U i j, hrd.1, ho i j f hi hf, hr i j f hi hf⟩
  · rename_i s' id off len
    split at h
    · rename_i n cols' hob
      cases hb : (Nat.beq s s' && Nat.beq cols'.length s)
      · simp [hb] at h
      · simp only [hb, cond_true] at h
        simp only [Bool.and_eq_true] at hb
        obtain rfl := Nat.eq_of_beq_eq_true hb.1
        have hcs := Nat.eq_of_beq_eq_true hb.2
        have hisr : isRow σ.obj id s = true := by unfold isRow; rw [hob]; exact hb.2
        have gen : ∀ (colsx : List (Nat → DV)), colsx = cols'.map (fun c i => c (i + off)) → len + off ≤ n → ∃ (A : Option Addr) (c : Nat) (news : List Value), v = .slice A len c ∧ news.length = len * s ∧
            (A = none → len = 0) ∧ (∀ ad, A = some ad → ∀ j u, news[j]? = some u → w.cell? (ad.add j) = some u) ∧ (∀ u ∈ news, oneV u = true) ∧
            ∀ (i j : Nat) (f : Nat → DV), i < len → colsx[j]? = some f → ∃ u, news[i * s + j]? = some u ∧ RelC (rdOf w base S0 blk) (f i) u := by
          intro colsx hcx hle
          obtain ⟨_, ⟨rfl, _, rfl, _⟩ | ⟨g, C, rfl, hC, hl⟩ | ⟨_, rfl, p, c, rfl⟩⟩ := row_val r hisr hv
          rotate_left 2
          · cases p with
            | none => exact ⟨none, c, [], rfl, by simp, fun _ => rfl, (fun ad e => by cases e), by simp, fun i j f hi => by omega⟩
            | some ad => exact ⟨some ad, c, [], rfl, by simp, (fun h => by cases h), (fun ad e j u h => by simp at h), by simp, fun i j f hi => by omega⟩
          · exact ⟨none, 0, [], rfl, by simp, fun _ => rfl, (fun ad e => by cases e), by simp, fun i j f hi => by omega⟩
          · obtain ⟨_, hor⟩ := r.objs _ _ hob
            rcases hor with ⟨hln, _⟩ | ⟨g', C', cv, T, hl', hh, hsz, hn', hrel⟩
            · rw [hln] at hl; cases hl
            · rw [hl] at hl'
              cases hl'
              refine build ⟨g, off * s, none⟩ len colsx _ (by rw [hcx]; simpa using hcs) fun i j f hi hf => ?_
              rw [hcx, List.getElem?_map] at hf
              cases hcj : cols'[j]? with
              | none => simp [hcj] at hf
              | some f' =>
                simp only [hcj, Option.map_some, Option.some.injEq] at hf
                subst hf
                obtain ⟨u, hu, ho, hre⟩ := hrel (i + off) j f' (by omega) hcj
                rw [hcs] at hu
                refine ⟨u, ?_, ho, hre⟩
                rw [add_off]
                simp only [World.cell?, hh]
                rw [show off * s + (i * s + j) = (i + off) * s + j by rw [Nat.add_mul]; omega, hu]
                rfl
        simp only [Option.some.injEq, Prod.mk.injEq] at h
        obtain ⟨rfl, rfl, rfl⟩ := h
        exact gen _ rfl hvc.one
    · cases h
  · simp only [Option.some.injEq, Prod.mk.injEq] at h
    obtain ⟨rfl, rfl, rfl⟩ := h
    cases hv
    exact ⟨none, 0, [], rfl, by simp, fun _ => rfl, (fun ad e => by cases e), by simp, fun i j f hi => by omega⟩
  · cases h
end
end Go.Abs
