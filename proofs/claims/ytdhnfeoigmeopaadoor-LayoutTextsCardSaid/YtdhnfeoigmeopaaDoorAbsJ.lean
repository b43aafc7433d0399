/- append does to the machine what the abstract one does. -/
import Derived.Test.YtdhnfeoigmeopaaDoorAbsI
namespace Go.Abs
open Go.RowKit
section
variable {P : Program} {base : Nat} {w0 w w' : World} {S0 : Env} {σ σ' : St} {kn : Nat → Prop} {blk : Nat → Option Loc} {a : Act}
theorem evIndexAddr_sound (r : R base w0 S0 σ kn blk a w) {t : TypeId} {x i : DV} {v vi : Value} {e : Eff} (he : evIndexAddr P σ.obj t x i = e) (hvc : AllP e.vc)
    (hv : Rel (rdOf w base S0 blk) kn blk x v) (hi : Rel (rdOf w base S0 blk) kn blk i vi) : Still P base S0 kn blk w (Instr.indexAt t v vi) e := by
  unfold evIndexAddr at he
  split at he
  · rename_i el k q hu
    cases hi
    split at he
    · rename_i s s' id off len hsz
      cases hb : Nat.beq s s'
      · simp only [hb, cond_false] at he
        cases hb2 : (Nat.beq s' 0 && (Nat.beq s 1 && Nat.beq off 0))
        · simp only [hb2, cond_false] at he; subst he; exact bad_vc hvc
        · simp only [hb2, cond_true] at he
          subst he
          simp only [Bool.and_eq_true] at hb2
          obtain ⟨e1, e2, e3⟩ := hb2
          obtain rfl := Nat.eq_of_beq_eq_true e1
          obtain rfl := Nat.eq_of_beq_eq_true e2
          obtain rfl := Nat.eq_of_beq_eq_true e3
          have hk : 0 ≤ q ∧ q < (len : Int) := hvc.one
          cases hv with
          | row hkn hp h0 h1 h2 =>
            obtain ⟨p, c, rfl, hpn⟩ := hp
            cases p with
            | none => have := hpn rfl; omega
            | some ad =>
              refine ⟨rfl, .pointer (some (ad.add (q.toNat * 1))), ?_, .ptr hkn ⟨_, rfl⟩ fun g' C' hb' => ?_⟩
              · simp [Instr.indexAt, run_underlying hu, asIntOf, hk, tSize_run hsz]
              · rcases h1 g' C' hb' with ⟨e, _⟩ | ⟨h, _⟩
                · simp only [Value.slice.injEq, Option.some.injEq] at e
                  rw [e.1, add_off]
                  simp
                · omega
      · simp only [hb, cond_true] at he
        subst he
        obtain rfl := Nat.eq_of_beq_eq_true hb
        have hk : 0 ≤ q ∧ q < (len : Int) := hvc.one
        cases hv with
        | row hkn hp h0 h1 h2 =>
          obtain ⟨p, c, rfl, hpn⟩ := hp
          cases p with
          | none => have := hpn rfl; omega
          | some ad =>
            refine ⟨rfl, .pointer (some (ad.add (q.toNat * s))), ?_, .rptr hkn ⟨_, rfl⟩ (fun g' C' hb' => ?_) (fun g' o' C' hb' => ?_)⟩
            · simp [Instr.indexAt, run_underlying hu, asIntOf, hk, tSize_run hsz]
            · rcases h1 g' C' hb' with ⟨e, _⟩ | ⟨_, e⟩
              · simp only [Value.slice.injEq, Option.some.injEq] at e
                rw [e.1, add_off, addN_eq, Nat.add_mul]
                rfl
              · omega
            · rcases h2 g' o' C' hb' with ⟨e, _⟩ | ⟨_, e⟩
              · simp only [Value.slice.injEq, Option.some.injEq] at e
                rw [e.1, add_off, addN_eq, Nat.add_mul]
                simp only [Value.pointer.injEq, Option.some.injEq, Addr.mk.injEq, true_and, and_true]
                omega
              · omega
    · rename_i s n cols hsz
      cases hb : Nat.beq cols.length s
      · simp only [hb, cond_false] at he; subst he; exact bad_vc hvc
      · simp only [hb, cond_true] at he
        subst he
        obtain rfl := Nat.eq_of_beq_eq_true hb
        have hk : 0 ≤ q ∧ q < (n : Int) := hvc.one
        cases hv with
        | lst U hc ha hn hon hr =>
          rename_i A c
          cases A with
          | none => exact absurd rfl (hn (by omega))
          | some ad =>
            refine ⟨rfl, .pointer (some (ad.add (q.toNat * cols.length))), ?_, .cptr (fun j => U q.toNat j) (fun j d hd => ?_) (fun j d hd => ?_) fun j d hd => ?_⟩
            · simp [Instr.indexAt, run_underlying hu, asIntOf, hk, tSize_run hsz]
            · rw [List.getElem?_map] at hd
              cases hcj : cols[j]? with
              | none => simp [hcj] at hd
              | some f =>
                obtain ⟨ad', e1, e2⟩ := ha q.toNat j f (by omega) hcj
                cases e1
                rw [add_add]; exact e2
            · rw [List.getElem?_map] at hd
              cases hcj : cols[j]? with
              | none => simp [hcj] at hd
              | some f => exact hon q.toNat j f (by omega) hcj
            · rw [List.getElem?_map] at hd
              cases hcj : cols[j]? with
              | none => simp [hcj] at hd
              | some f =>
                simp only [hcj, Option.map_some, Option.some.injEq] at hd
                subst hd
                exact hr q.toNat j f (by omega) hcj
    · rename_i s s' id n hsz
      cases hb : Nat.beq s s'
      · simp only [hb, cond_false] at he; subst he; exact bad_vc hvc
      · simp only [hb, cond_true] at he
        subst he
        obtain rfl := Nat.eq_of_beq_eq_true hb
        have hk : 0 ≤ q ∧ q < (n : Int) := hvc.one
        cases hv with
        | grd hkn hp h1 =>
          obtain ⟨p, c, rfl, hpn⟩ := hp
          cases p with
          | none => have := hpn rfl; omega
          | some ad =>
            refine ⟨rfl, .pointer (some (ad.add (q.toNat * s))), ?_, .gptr hkn ⟨_, rfl⟩ fun g' C' bs' hb' => ?_⟩
            · simp [Instr.indexAt, run_underlying hu, asIntOf, hk, tSize_run hsz]
            · have e := (h1 g' C' bs' hb').1
              simp only [Value.slice.injEq, Option.some.injEq] at e
              rw [e.1, add_off]
              simp
    · subst he; exact bad_vc hvc
  · rename_i len el k q hu
    cases hi
    split at he
    · rename_i s id j hsz
      subst he
      have hk : 0 ≤ q ∧ q < (len : Int) := hvc.one
      cases hv with
      | ptr hkn hp h =>
        obtain ⟨ad, rfl⟩ := hp
        refine ⟨rfl, .pointer (some (ad.add (q.toNat * s))), by simp [Instr.indexAt, run_underlying hu, asIntOf, hk, tSize_run hsz, Instr.sureAddr], .ptr hkn ⟨_, rfl⟩ fun g C hb => ?_⟩
        have := h g C hb
        simp only [Value.pointer.injEq, Option.some.injEq] at this
        rw [this, add_off]
    · rename_i s cs hsz
      cases hb : Nat.ble (len * s) cs.length
      · simp only [hb, cond_false] at he; subst he; exact bad_vc hvc
      · simp only [hb, cond_true] at he
        subst he
        have hle := Nat.le_of_ble_eq_true hb
        have hk : 0 ≤ q ∧ q < (len : Int) := hvc.one
        have hq : q.toNat < len := by omega
        have hsp : ∀ j, j < s → (len - 1) * s + j < cs.length := fun j hj => by
          have : (len - 1) * s + s = len * s := by rw [← Nat.succ_mul]; congr 1; omega
          omega
        have hqs : ∀ j, j < s → q.toNat * s + j < cs.length := fun j hj => by
          have : q.toNat * s ≤ (len - 1) * s := Nat.mul_le_mul_right s (by omega)
          have := hsp j hj
          omega
        cases hv with
        | cptr U ha ho hr =>
          refine ⟨rfl, _, by simp [Instr.indexAt, run_underlying hu, asIntOf, hk, tSize_run hsz, Instr.sureAddr]; rfl, .cptr (fun j => U (q.toNat * s + j)) (fun j d hd => ?_) (fun j d hd => ?_) fun j d hd => ?_⟩
          · rw [List.getElem?_map] at hd
            have hj : j < s := by
              rcases Nat.lt_or_ge j s with h | h
              · exact h
              · rw [List.getElem?_eq_none (by simpa using h)] at hd; simp at hd
            rw [add_add]
            exact ha _ _ (List.getElem?_eq_getElem (hqs j hj))
          · rw [List.getElem?_map] at hd
            have hj : j < s := by
              rcases Nat.lt_or_ge j s with h | h
              · exact h
              · rw [List.getElem?_eq_none (by simpa using h)] at hd; simp at hd
            exact ho _ _ (List.getElem?_eq_getElem (hqs j hj))
          · rw [List.getElem?_map] at hd
            have hj : j < s := by
              rcases Nat.lt_or_ge j s with h | h
              · exact h
              · rw [List.getElem?_eq_none (by simpa using h)] at hd; simp at hd
            rw [List.getElem?_range hj] at hd
            simp only [Option.map_some, Option.some.injEq] at hd
            subst hd
            have hc := List.getElem?_eq_getElem (hqs j hj)
            exact mkColC_sound (by rw [every_get s j len cs q.toNat hq (hsp j hj)]; exact hc) (hr _ _ hc)
    · subst he; exact bad_vc hvc
  · subst he; exact bad_vc hvc
theorem R.congr (r : R base w0 S0 σ kn blk a w) (h1 : ∀ t, σ'.get t = σ.get t) (h2 : ∀ id, σ'.obj id = σ.obj id) (h3 : σ'.nt = σ.nt) (h4 : σ'.rn = σ.rn) (h5 : σ'.lo = σ.lo) : R base w0 S0 σ' kn blk a w :=
  ⟨r.below, r.xs, r.hbase, r.dfr, r.kpo, fun h => by rw [h4]; exact r.rnd h, r.mlow, r.shp, r.size.trans h3.symm, fun t => by rw [h1]; exact r.tmps t, fun id o h => r.objs id o (by rw [← h2]; exact h), r.inj, r.ge, fun id l h => by rw [h2]; exact r.live id l h, fun t ht => r.pin t (by rw [← h5]; exact ht)⟩
def Mover (base : Nat) (w0 : World) (S0 : Env) (σ' : St) (kn : Nat → Prop) (blk : Nat → Option Loc) (a : Act) (w : World) (id : Nat) (D : Option Nat) (blkF : Loc → Nat → Option Loc) (o : AObj) : Prop :=
  ∀ (l : Loc) (w' : World), (l = .nil ∨ ∃ g C, l = .at_ g C ∧ (D = some g ∨ (w.heap.size ≤ g ∧ g < w'.heap.size))) → w.heap.size ≤ w'.heap.size → w'.os = w.os → w'.tape = w.tape → w'.output = w.output → DrOK w w' →
    (∀ k, k < w.heap.size → D ≠ some k → w'.heap[k]? = w.heap[k]?) →
    ((∀ {d v}, RelC (rdOf w base S0 blk) d v → RelC (rdOf w' base S0 (blkF l)) d v) → ObjRel w' (rdOf w' base S0 (blkF l)) (fun i => kn i ∨ i = id) (blkF l) (some l) o) →
    R base w0 S0 σ' (fun i => kn i ∨ i = id) (blkF l) a w'
def blkD (blk : Nat → Option Loc) (q : Nat) : Option Nat := match blk q with
  | some (.at_ g _) => some g
  | _ => none
theorem blkD_some {q g : Nat} (h : blkD blk q = some g) : ∃ C, blk q = some (.at_ g C) := by
  unfold blkD at h
  split at h
  · rename_i g' C hb; cases h; exact ⟨C, hb⟩
  · cases h
theorem R.mover (r : R base w0 S0 σ kn blk a w) {id q : Nat} {o : AObj} (hid : ¬ kn id) (hq : ∀ l, blk q = some l → l = .nil ∨ ∃ g C, l = .at_ g C) :
    Mover base w0 S0 ((σ.setObj q none).setObj id (some o)) kn blk a w id (blkD blk q) (fun l i => if i = id then some l else if i = q then none else blk i) o := by
  intro l w' hl hsz hos htp hout hdr hk ho
  show R base w0 S0 _ _ (fun i => if i = id then some l else if i = q then none else blk i) a w'
  have hnone := r.fresh hid
  refine r.step (fun k => blkD blk q = some k) (fun i => i = id ∨ i = q) hsz hos htp hout (fun k h1 h2 => hk k h1 h2) (fun k h => ?_) (fun _ h => .inl h) (fun i h => ?_) (fun i v h hi e => ?_) (fun i l' g h e hg => ?_) (fun i l' h hi e => ?_) rfl rfl rfl (fun _ => rfl) (fun i h => ?_)
    (fun _ _ mC i o' h e => ?_) (fun i l' h e => ?_) (fun i i' l1 l2 g h h' e e' g1 g2 => ?_) (fun B hB i g bs h e => ?_) hdr
  · obtain ⟨C, h⟩ := blkD_some h
    exact ⟨q, _, .inr rfl, h, rfl⟩
  · rw [not_or] at h
    rw [if_neg h.1, if_neg h.2]
  · rcases h with rfl | rfl
    · exact absurd hi hid
    · rcases hq _ e with h | ⟨g, C, h⟩ <;> cases h
  · by_cases e1 : i = id
    · rw [if_pos e1] at e
      cases e
      rcases hl with rfl | ⟨g', C, rfl, h1 | h1⟩
      · exact hg.elim
      · cases hg
        obtain ⟨C', h2⟩ := blkD_some h1
        exact .inl ⟨q, _, .inr rfl, h2, rfl⟩
      · cases hg
        exact .inr h1
    · have e2 : i = q := h.resolve_left e1
      rw [if_neg e1, if_pos e2] at e
      cases e
  · have e1 : i ≠ id := fun e' => hid (e' ▸ hi)
    rw [if_neg e1, if_pos (h.resolve_left e1)] at e
    cases e
  · rw [not_or] at h
    rw [St.obj_setObj, if_neg (fun e => h.1 e.symm), St.obj_setObj, if_neg (fun e => h.2 e.symm)]
  · by_cases e1 : i = id
    · subst e1
      rw [St.obj_setObj, if_pos rfl, Option.some.injEq] at e
      subst e
      exact ⟨.inr rfl, by simpa using ho mC⟩
    · rw [St.obj_setObj, if_neg (fun e' => e1 e'.symm), St.obj_setObj, if_pos (h.resolve_left e1).symm] at e
      cases e
  · by_cases e1 : i = id
    · exact ⟨o, by rw [St.obj_setObj, if_pos e1.symm]⟩
    · rw [if_neg e1, if_pos (h.resolve_left e1)] at e
      cases e
  · by_cases e1 : i = id
    · by_cases e2 : i' = id
      · rw [e1, e2]
      · rw [if_neg e2, if_pos (h'.resolve_left e2)] at e'; cases e'
    · rw [if_neg e1, if_pos (h.resolve_left e1)] at e; cases e
  · by_cases e1 : i = id
    · rw [if_pos e1] at e
      cases e
      rcases hl with h | ⟨g', C, h, _⟩ <;> cases h
    · rw [if_neg e1, if_pos (h.resolve_left e1)] at e; cases e
theorem R.moverG (r : R base w0 S0 σ kn blk a w) {id m gm : Nat} {bs : List Nat} {es : Array MapEntry} {clock : Nat} {o : AObj} {ks : KS} {len : List Int → Nat} {col : List Int → Nat → DV} {k : List Int} {v : Value}
    (hid : ¬ kn id) (hm : blk m = some (.map gm bs)) (hh : w.heap[gm]? = some (.map es clock)) (hG : GMapIs w (rdOf w base S0 blk) bs ks len col none es.toList) (hbs : ∀ b, b ∈ bs → ∃ cv T, w.heap[b]? = some (.cells cv T (0, 0)))
    (hv : atKey ks es.toList k v) {D : Option Nat} (hD : ∀ g, D = some g → g ∈ bs ∧ ∃ n C, v = .slice (some ⟨g, 0, none⟩) n C) :
    Mover base w0 S0 ((σ.setObj m (some (.gmap ks len col [] (some k)))).setObj id (some o)) kn blk a w id D (fun l i => if i = id then some l else if i = m then some (.map gm (bs.filter fun b => decide (D ≠ some b))) else blk i) o := by
  intro l w' hl hsz hos htp hout hdr hk ho
  show R base w0 S0 _ _ (fun i => if i = id then some l else if i = m then some (.map gm (bs.filter fun b => decide (D ≠ some b))) else blk i) a w'
  have hnone := r.fresh hid
  have hmid : m ≠ id := fun e => hid (e ▸ r.known hm)
  have hgD : D ≠ some gm := fun e => by
    obtain ⟨cv, T, h⟩ := hbs gm (hD gm e).1
    rw [hh] at h; cases h
  refine r.step (fun k => D = some k) (fun i => i = id ∨ i = m) hsz hos htp hout (fun k h1 h2 => hk k h1 h2) (fun k h => ?_) (fun _ h => .inl h) (fun i h => ?_) (fun i v h hi e => ?_) (fun i l' g h e hg => ?_) (fun i l' h hi e => ?_) rfl rfl rfl (fun _ => rfl) (fun i h => ?_)
    (fun c _ mC i o' h e => ?_) (fun i l' h e => ?_) (fun i i' l1 l2 g h h' e e' g1 g2 => ?_) (fun B hB i g bs' h e => ?_) hdr
  · exact ⟨m, _, .inr rfl, hm, .inr (hD k h).1⟩
  · rw [not_or] at h
    rw [if_neg h.1, if_neg h.2]
  · rcases h with rfl | rfl
    · exact absurd hi hid
    · rw [hm] at e; cases e
  · by_cases e1 : i = id
    · rw [if_pos e1] at e
      cases e
      rcases hl with rfl | ⟨g', C, rfl, h1 | h1⟩
      · exact hg.elim
      · cases hg
        exact .inl ⟨m, _, .inr rfl, hm, .inr (hD _ h1).1⟩
      · cases hg
        exact .inr h1
    · have e2 : i = m := h.resolve_left e1
      rw [if_neg e1, if_pos e2] at e
      cases e
      refine .inl ⟨m, _, .inr rfl, hm, ?_⟩
      rcases hg with hg | hg
      · exact .inl hg
      · exact .inr (List.mem_filter.1 hg).1
  · have e1 : i ≠ id := fun e' => hid (e' ▸ hi)
    rw [if_neg e1, if_pos (h.resolve_left e1)] at e
    cases e
    exact ⟨.map gm bs, by rw [h.resolve_left e1]; exact hm, rfl⟩
  · rw [not_or] at h
    rw [St.obj_setObj, if_neg (fun e => h.1 e.symm), St.obj_setObj, if_neg (fun e => h.2 e.symm)]
  · by_cases e1 : i = id
    · subst e1
      rw [St.obj_setObj, if_pos rfl, Option.some.injEq] at e
      subst e
      exact ⟨.inr rfl, by simpa using ho mC⟩
    · have e2 : i = m := h.resolve_left e1
      rw [St.obj_setObj, if_neg (fun e' => e1 e'.symm), St.obj_setObj, if_pos e2.symm, Option.some.injEq] at e
      subst e
      refine ⟨.inl (e2 ▸ r.known hm), ?_⟩
      rw [if_neg e1, if_pos e2]
      have hks : ∀ b, b ∈ bs.filter (fun b => decide (D ≠ some b)) → w'.heap[b]? = w.heap[b]? := fun b hb => by
        obtain ⟨h1, h2⟩ := List.mem_filter.1 hb
        refine hk b (r.ge _ _ _ hm (.inr h1)).2 (by simpa using h2)
      refine ⟨gm, _, es, clock, rfl, by rw [hk gm (heap_lt hh) hgD]; exact hh, ⟨hG.hk, hG.hd, fun l hl _ => hG.miss l hl (by simp), fun e l he hel hne => ?_, fun e e' l l' g n C n' C' a b c d _ _ q => hG.sep e e' l l' g n C n' C' a b c d (by simp) (by simp) q⟩, fun b hb => by rw [hks b hb]; exact hbs b (List.mem_filter.1 hb).1, fun _ _ h => by cases h⟩
      rcases hG.ent e l he hel (by simp) with h0 | ⟨g, C, cv, T, h1, h2, h3, h4, h5, h6⟩
      · exact .inl h0
      · have hgb : g ∈ bs.filter (fun b => decide (D ≠ some b)) := List.mem_filter.2 ⟨h2, by
          simp only [decide_eq_true_eq]
          intro eD
          obtain ⟨_, n', C', hv'⟩ := hD g eD
          rcases hv with ⟨e0, he0, hk0, hv0⟩ | ⟨_, hv0⟩
          · have hkne : e.key ≠ e0.key := fun e1 => hne (by rw [e1] at hel; rw [hk0] at hel; rw [hel])
            exact hG.sep e e0 l k g _ _ n' C' he he0 hel hk0 (by simp) (by simp) hkne h1 (hv0.trans hv')
          · rw [hv'] at hv0; cases hv0⟩
        exact .inr ⟨g, C, cv, T, h1, hgb, by rw [hks g hgb]; exact h3, h4, h5, fun i hi => let ⟨u, a, b, c'⟩ := h6 i hi; ⟨u, a, b, mC c'⟩⟩
  · by_cases e1 : i = id
    · exact ⟨o, by rw [St.obj_setObj, if_pos e1.symm]⟩
    · exact ⟨_, by rw [St.obj_setObj, if_neg (fun e => e1 e.symm), St.obj_setObj, if_pos (h.resolve_left e1).symm]⟩
  · have key : ∀ {l2 : Loc}, l.has g → (if m = id then some l else if m = m then some (Loc.map gm (bs.filter fun b => decide (D ≠ some b))) else blk m) = some l2 → l2.has g → False := by
      intro l2 g1 e' g2
      rw [if_neg hmid, if_pos rfl] at e'
      cases e'
      have hold : Loc.has (.map gm bs) g := g2.imp (fun h => h) fun h => (List.mem_filter.1 h).1
      rcases hl with rfl | ⟨g', C, rfl, h1 | h1⟩
      · exact g1
      · cases g1
        rcases g2 with rfl | g2
        · exact hgD h1
        · have := (List.mem_filter.1 g2).2
          simp at this; exact this h1
      · cases g1
        have := (r.ge _ _ _ hm hold).2; omega
    by_cases e1 : i = id <;> by_cases e2 : i' = id
    · rw [e1, e2]
    · rw [if_pos e1] at e; cases e
      have e3 := h'.resolve_left e2
      subst e3
      exact (key g1 e' g2).elim
    · rw [if_pos e2] at e'; cases e'
      have e3 := h.resolve_left e1
      subst e3
      exact (key g2 e g1).elim
    · rw [h.resolve_left e1, h'.resolve_left e2]
  · by_cases e1 : i = id
    · rw [if_pos e1] at e
      cases e
      rcases hl with h | ⟨g', C, h, _⟩ <;> cases h
    · rw [if_neg e1, if_pos (h.resolve_left e1)] at e
      cases e
      exact r.mlow B hB m gm bs hm
theorem look_mem' {α : Type} : ∀ {l : List (Nat × α)} {i : Nat} {v : α}, look l i = some v → (i, v) ∈ l
  | [], i, v, h => by cases h
  | (k, u) :: r, i, v, h => by
    rw [look_cons] at h
    split at h
    · rename_i e; cases h; rw [e]; exact List.mem_cons_self
    · exact List.mem_cons_of_mem _ (look_mem' h)
theorem source_sound (r : R base w0 S0 σ kn blk a w) {s m : Nat} {y : DV} {cols : List (Nat → DV)} {vc : List Prop} {v : Value} (h : source σ.obj s y = some (m, cols, vc)) (hvc : AllP vc)
    (hcl : cols.length = s) (hv : Rel (rdOf w base S0 blk) kn blk y v) : ∃ (A : Option Addr) (c : Nat) (news : List Value), v = .slice A m c ∧ news.length = m * s ∧
      (A = none → m = 0) ∧ (∀ ad, A = some ad → ∀ j u, news[j]? = some u → w.cell? (ad.add j) = some u) ∧ (∀ u ∈ news, oneV u = true) ∧
      ∀ (i j : Nat) (f : Nat → DV), i < m → cols[j]? = some f → ∃ u, news[i * s + j]? = some u ∧ RelC (rdOf w base S0 blk) (f i) u := by
  -- out of cells that are known one by one
  have build : ∀ (ad : Addr) (m : Nat) (cols : List (Nat → DV)) (c : Nat), cols.length = s → (∀ (i j : Nat) (f : Nat → DV), i < m → cols[j]? = some f → ∃ u, w.cell? (ad.add (i * s + j)) = some u ∧ oneV u = true ∧ RelC (rdOf w base S0 blk) (f i) u) →
      ∃ (A : Option Addr) (c' : Nat) (news : List Value), (.slice (some ad) m c : Value) = .slice A m c' ∧ news.length = m * s ∧ (A = none → m = 0) ∧ (∀ ad, A = some ad → ∀ j u, news[j]? = some u → w.cell? (ad.add j) = some u) ∧ (∀ u ∈ news, oneV u = true) ∧
      ∀ (i j : Nat) (f : Nat → DV), i < m → cols[j]? = some f → ∃ u, news[i * s + j]? = some u ∧ RelC (rdOf w base S0 blk) (f i) u := by
    intro ad m cols c hcs hcell
    have split : ∀ k, k < m * s → k / s < m ∧ k % s < s ∧ k / s * s + k % s = k := fun k hk => by
      have hs : 0 < s := by
        rcases Nat.eq_zero_or_pos s with h | h
        · rw [h] at hk; simp at hk
        · exact h
      exact ⟨Nat.div_lt_of_lt_mul (by rw [Nat.mul_comm]; exact hk), Nat.mod_lt _ hs, by rw [Nat.mul_comm]; exact Nat.div_add_mod k s⟩
    have cell : ∀ k, k < m * s → ∃ u, w.cell? (ad.add k) = some u ∧ oneV u = true := fun k hk => by
      obtain ⟨h1, h2, h3⟩ := split k hk
      have hf : cols[k % s]? = some cols[k % s] := List.getElem?_eq_getElem (by omega)
      obtain ⟨u, hu, ho, _⟩ := hcell _ _ _ h1 hf
      rw [h3] at hu
      exact ⟨u, hu, ho⟩
    refine ⟨some ad, c, (List.range (m * s)).map fun k => (w.cell? (ad.add k)).getD undef, rfl, by simp, (fun h => by cases h), fun ad' e j u hu => ?_, fun u hu => ?_, fun i j f hi hf => ?_⟩
    · cases e
      rw [List.getElem?_map] at hu
      cases hj : (List.range (m * s))[j]? with
      | none => simp [hj] at hu
      | some k =>
        have hk := List.getElem?_eq_some_iff.1 hj
        obtain ⟨hk1, hk2⟩ := hk
        simp at hk1 hk2
        subst hk2
        obtain ⟨u', hu', _⟩ := cell j hk1
        simp [hj, hu'] at hu
        subst hu; exact hu'
    · obtain ⟨k, hk, rfl⟩ := List.mem_map.1 hu
      obtain ⟨u', hu', ho⟩ := cell k (by simpa using hk)
      rw [hu']; exact ho
    · obtain ⟨u, hu, _, hrel⟩ := hcell i j f hi hf
      have hj : j < s := by rw [← hcs]; exact (List.getElem?_eq_some_iff.1 hf).1
      have hlt : i * s + j < m * s := by
        have : i * s + s ≤ m * s := by rw [← Nat.succ_mul]; exact Nat.mul_le_mul_right _ hi
        omega
      exact ⟨u, by simp [hlt, hu], hrel⟩
  unfold source at h
  split at h
  · rename_i n cols'
    cases hb : Nat.beq cols'.length s
    · simp [hb] at h
    · simp only [hb, cond_true, Option.some.injEq, Prod.mk.injEq] at h
      obtain ⟨rfl, rfl, rfl⟩ := h
      cases hv with
      | lst U hc ha hn ho hr =>
        rename_i A c
        rcases Nat.eq_zero_or_pos n with h0 | h0
        · subst h0
          cases A with
          | none => exact ⟨none, c, [], rfl, by simp, fun _ => rfl, (fun ad e => by cases e), by simp, fun i j f hi => by omega⟩
          | some ad => exact ⟨some ad, c, [], rfl, by simp, (fun e => by cases e), by simp, by simp, fun i j f hi => by omega⟩
        · cases A with
          | none => exact absurd rfl (hn h0)
          | some ad =>
            refine build ad n cols' c hcl fun i j f hi hf => ?_
            obtain ⟨ad', e, hrd⟩ := ha i j f hi hf
            cases e
            rw [hcl] at hrd
            exact ⟨U i j, rdw_cell hrd.1 (ho i j f hi hf), ho i j f hi hf, hr i j f hi hf⟩
  · rename_i s' id off len
    split at h
    · rename_i n cols' hob
      cases hb : (Nat.beq s s' && Nat.beq cols'.length s)
      · simp [hb] at h
      · simp only [hb, cond_true] at h
        simp only [Bool.and_eq_true] at hb
        obtain rfl := Nat.eq_of_beq_eq_true hb.1
        have hcs := Nat.eq_of_beq_eq_true hb.2
        have hisr : isRow σ.obj id s = true := by unfold isRow; rw [hob]; exact hb.2
        have gen : ∀ (colsx : List (Nat → DV)), colsx = cols'.map (fun c i => c (i + off)) → len + off ≤ n → ∃ (A : Option Addr) (c : Nat) (news : List Value), v = .slice A len c ∧ news.length = len * s ∧
            (A = none → len = 0) ∧ (∀ ad, A = some ad → ∀ j u, news[j]? = some u → w.cell? (ad.add j) = some u) ∧ (∀ u ∈ news, oneV u = true) ∧
            ∀ (i j : Nat) (f : Nat → DV), i < len → colsx[j]? = some f → ∃ u, news[i * s + j]? = some u ∧ RelC (rdOf w base S0 blk) (f i) u := by
          intro colsx hcx hle
          obtain ⟨_, ⟨rfl, _, rfl, _⟩ | ⟨g, C, rfl, hC, hl⟩ | ⟨_, rfl, p, c, rfl⟩⟩ := row_val r hisr hv
          rotate_left 2
          · cases p with
            | none => exact ⟨none, c, [], rfl, by simp, fun _ => rfl, (fun ad e => by cases e), by simp, fun i j f hi => by omega⟩
            | some ad => exact ⟨some ad, c, [], rfl, by simp, (fun h => by cases h), (fun ad e j u h => by simp at h), by simp, fun i j f hi => by omega⟩
          · exact ⟨none, 0, [], rfl, by simp, fun _ => rfl, (fun ad e => by cases e), by simp, fun i j f hi => by omega⟩
          · obtain ⟨_, hor⟩ := r.objs _ _ hob
            rcases hor with ⟨hln, _⟩ | ⟨g', C', cv, T, hl', hh, hsz, hn', hrel⟩
            · rw [hln] at hl; cases hl
            · rw [hl] at hl'
              cases hl'
              refine build ⟨g, off * s, none⟩ len colsx _ (by rw [hcx]; simpa using hcs) fun i j f hi hf => ?_
              rw [hcx, List.getElem?_map] at hf
              cases hcj : cols'[j]? with
              | none => simp [hcj] at hf
              | some f' =>
                simp only [hcj, Option.map_some, Option.some.injEq] at hf
                subst hf
                obtain ⟨u, hu, ho, hre⟩ := hrel (i + off) j f' (by omega) hcj
                rw [hcs] at hu
                refine ⟨u, ?_, ho, hre⟩
                rw [add_off]
                simp only [World.cell?, hh]
                rw [show off * s + (i * s + j) = (i + off) * s + j by rw [Nat.add_mul]; omega, hu]
                rfl
        simp only [Option.some.injEq, Prod.mk.injEq] at h
        obtain ⟨rfl, rfl, rfl⟩ := h
        exact gen _ rfl hvc.one
    · cases h
  · simp only [Option.some.injEq, Prod.mk.injEq] at h
    obtain ⟨rfl, rfl, rfl⟩ := h
    cases hv
    exact ⟨none, 0, [], rfl, by simp, fun _ => rfl, (fun ad e => by cases e), by simp, fun i j f hi => by omega⟩
  · rename_i t mi
    split at h
    · rename_i ks len col hot hob
      split at h
      · rename_i l hl
        cases hb : Nat.beq s 1
        · simp [hb] at h
        · simp only [hb, cond_true, Option.some.injEq, Prod.mk.injEq] at h
          obtain ⟨rfl, rfl, rfl⟩ := h
          obtain rfl := Nat.eq_of_beq_eq_true hb
          obtain ⟨_, g, bs, es, clock, hlm, hh, hG, hbs, hhot⟩ := r.objs _ _ hob
          obtain ⟨v', hbt, hat⟩ := hhot t l (look_mem' hl)
          have hvv : v = v' := by cases hv with | tok _ _ h => exact h v' hbt
          subst hvv
          have hent : GEnt w (rdOf w base S0 blk) bs (len l) (col l) v := by
            rcases hat with ⟨e, he, hk, rfl⟩ | ⟨h1, rfl⟩
            · exact hG.ent e l he hk (by simp)
            · exact .inl ⟨rfl, hG.miss l h1 (by simp)⟩
          rcases hent with ⟨rfl, h0⟩ | ⟨g', C, cv, T, rfl, _, h3, h4, h5, h6⟩
          · exact ⟨none, 0, [], by rw [h0], by rw [h0]; simp, fun _ => h0, (fun ad e => by cases e), by simp, fun i j f hi => by omega⟩
          · refine build ⟨g', 0, none⟩ (len l) [col l] _ rfl fun i j f hi hf => ?_
            have hj : j = 0 := by
              have := (List.getElem?_eq_some_iff.1 hf).1
              simp at this; exact this
            subst hj
            simp at hf
            subst hf
            obtain ⟨u, hu, ho, hre⟩ := h6 i hi
            refine ⟨u, ?_, ho, hre⟩
            rw [add_off]
            simp only [World.cell?, h3, Nat.zero_add, Nat.mul_one, Nat.add_zero, hu]
            rfl
      · cases h
    · cases h
  · cases h
end
end Go.Abs
