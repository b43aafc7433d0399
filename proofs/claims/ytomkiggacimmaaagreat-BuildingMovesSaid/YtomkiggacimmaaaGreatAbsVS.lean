/- A callee in whose arguments one variable of its caller's stands. -/
import Derived.Test.YtomkiggacimmaaaGreatAbsV
namespace Go.Abs
open Go.RowKit

/-- At the end: the variable is found again through a closure's capture; its cells; what is handed back. -/
def retVS (P : Program) (fn : Func) (n k c : Nat) (cs' : List DV) (res : DV) (σ : St) : VT := bif Nat.beq σ.lo n then (match σ.get k with
  | .clo _ caps => match caps[c]? with
    | some (.ptr id 0) => match σ.obj id, resList P (σ.setObj id none) fn.results.toList with
      | some (.box c2), some (ds, vc) => bif DV.closed.go c2 then .done (leL (leN 2) c2 cs' ++ (vc ++ leN 4 (resDV ds) res)) else .done [False]
      | _, _ => .done [False]
    | _ => .done [False]
  | _ => .done [False]) else .done [False]
def retKS (P : Program) (fn : Func) (n k c : Nat) (cs' : List DV) (res : DV) : Exit → St → VT
  | .ret, σ => retVS P fn n k c cs' res σ
  | .normal, σ => retVS P fn n k c cs' res σ
  | _, _ => .done [False]
def capAt (args : List DV) (k c : Nat) : Bool := match args[k]? with
  | some (.clo _ caps) => match caps[c]? with
    | some (.ptr 0 0) => true
    | _ => false
  | _ => false

section
variable {P : Program} {base : Nat} {w0 w : World} {σ : St} {kn : Nat → Prop} {blk : Nat → Option Loc} {a : Act}
/-- The lent variable is given back: the world as if it had been so from the start. -/
theorem R.yield {S : Nat → Prop} {wr : World} {pv : Nat → Value} {g : Nat} (r : R base w0 ⟨fun k => S k ∨ k = g, [], wr, none, fun k => k = g, pv⟩ σ kn blk a w) {id C : Nat} (hid : blk id = some (.at_ g C)) (hobj : ∃ o, w.heap[g]? = some o) (hw0 : base ≤ w0.heap.size) :
    ∃ w1, R base w1 ⟨S, [], wr, none, fun _ => False, pv⟩ (σ.setObj id none) kn (fun i => if i = id then none else blk i) a w := by
  obtain ⟨o, hh⟩ := hobj
  have hrd : ∀ ad u, rdOf w base ⟨fun k => S k ∨ k = g, [], wr, none, fun k => k = g, pv⟩ blk ad u → rdOf w base ⟨S, [], wr, none, fun _ => False, pv⟩ (fun i => if i = id then none else blk i) ad u := fun ad u ⟨x, y, z, _⟩ => ⟨x, fun i l e hg => by
    have e : (if i = id then none else blk i) = some l := e
    split at e
    · cases e
    · exact y i l e hg, by
    rcases z with (z | z) | z
    · exact .inl z
    · exact absurd z (y id _ hid)
    · exact .inr z, fun B hB => by cases hB⟩
  have hback : ∀ (i : Nat) (l : Loc), kn i → (if i = id then none else blk i) = some l → ∃ l0, blk i = some l0 ∧ l0.core = l.core := fun i l _ e => by
    split at e
    · cases e
    · exact ⟨l, e, rfl⟩
  have c : Chg w w kn kn blk (fun i => if i = id then none else blk i) := ⟨Nat.le_refl _, fun _ _ _ => rfl, fun i l k e hg => by
    have e : (if i = id then none else blk i) = some l := e
    split at e
    · cases e
    · exact .inl ⟨i, l, e, hg⟩, fun _ h => h, hback, fun i v hi e => by
    show (if i = id then none else blk i) = _
    split
    · rename_i h; subst h; rw [hid] at e; cases e
    · exact e⟩
  have rel : ∀ {d v}, Rel (rdOf w base ⟨fun k => S k ∨ k = g, [], wr, none, fun k => k = g, pv⟩ blk) kn blk d v → Rel (rdOf w base ⟨S, [], wr, none, fun _ => False, pv⟩ (fun i => if i = id then none else blk i)) kn (fun i => if i = id then none else blk i) d v := fun h => h.mono hrd (fun _ h => h) hback
  have relc : ∀ {d v}, RelC (rdOf w base ⟨fun k => S k ∨ k = g, [], wr, none, fun k => k = g, pv⟩ blk) d v → RelC (rdOf w base ⟨S, [], wr, none, fun _ => False, pv⟩ (fun i => if i = id then none else blk i)) d v := fun h => h.mono hrd (fun _ h => h) fun _ _ h => h.elim
  have obj : ∀ {l : Option Loc} {o : AObj}, ObjRel w (rdOf w base ⟨fun k => S k ∨ k = g, [], wr, none, fun k => k = g, pv⟩ blk) kn blk l o → ObjRel w (rdOf w base ⟨S, [], wr, none, fun _ => False, pv⟩ (fun i => if i = id then none else blk i)) kn (fun i => if i = id then none else blk i) l o := fun {l o} h => by
    have h := h.rd hrd
    have hot : ∀ t v, blk t = some (.is v) → (if t = id then none else blk t) = some (.is v) := fun t v e => by
      rw [if_neg (fun h => by rw [h, hid] at e; cases e)]; exact e
    cases o with
    | box cs =>
      obtain ⟨g, C, cv, T, hl, hh, hs, hr, h1⟩ := h
      exact ⟨g, C, cv, T, hl, hh, hs, fun j d u a b => (hr j d u a b).mono (fun _ _ h => h) (fun _ h => h) hback, h1⟩
    | map ks has col hot' =>
      obtain ⟨g, es, clock, h1, h2, h3, h4, h5⟩ := h
      exact ⟨g, es, clock, h1, h2, h3, h4, fun t k e => let ⟨e', a, b, c⟩ := h5 t k e; ⟨e', a, b, hot _ _ c⟩⟩
    | gmap ks len col hot' opn =>
      obtain ⟨g, bs, es, clock, h1, h2, h3, h4, h5⟩ := h
      exact ⟨g, bs, es, clock, h1, h2, h3, h4, fun t k e => let ⟨v, a, b⟩ := h5 t k e; ⟨v, hot _ _ a, b⟩⟩
    | _ => exact h
  have hneq : ∀ {i : Nat} {l : Loc}, (if i = id then none else blk i) = some l → i ≠ id ∧ blk i = some l := fun {i l} e => by
    split at e
    · cases e
    · rename_i h; exact ⟨h, e⟩
  have hgs := heap_lt hh
  refine ⟨{ w0 with heap := w0.heap.setIfInBounds g o }, ⟨⟨r.below.os, r.below.tape, r.below.output, by simpa using r.below.size, fun k hk _ => ?_, r.below.drawn⟩, fun _ h => h.elim, r.hbase, ⟨⟨r.dfr.1.1, fun h => by cases h⟩, r.dfr.2⟩, ⟨r.kpo.1, (fun B h => by cases h), r.kpo.2.2⟩, (fun h => absurd rfl h), (fun B h => by cases h), fun d v h => rel (r.shp d v h), r.size, fun t => rel (r.tmps t), fun i o' h => ?_, fun i i' l l' k h1 h2 h3 h4 => r.inj _ _ _ _ _ (hneq h1).2 (hneq h2).2 h3 h4, fun i l k e hg => ?_, fun i l e => ?_, r.pin⟩⟩
  · show w.heap[k]? = (w0.heap.setIfInBounds g o)[k]?
    rw [Array.getElem?_setIfInBounds]
    by_cases e : g = k
    · subst e
      rw [if_pos rfl]
      split
      · exact hh
      · rename_i h9
        exact absurd (Nat.lt_of_lt_of_le hk hw0) h9
    · rw [if_neg e]
      exact r.below.block k hk fun h => e h.symm
  · rw [St.obj_setObj] at h
    by_cases e : id = i
    · rw [if_pos e] at h; cases h
    · rw [if_neg e] at h
      obtain ⟨k1, k2⟩ := r.objs i o' h
      refine ⟨k1, ?_⟩
      rw [if_neg (fun h => e h.symm)]
      exact obj k2
  · obtain ⟨hne, e⟩ := hneq e
    obtain ⟨h1, h2⟩ := r.ge _ _ _ e hg
    refine ⟨.inl (h1.elim (fun h => h) fun h => ?_), h2⟩
    have h : k = g := h
    subst h
    exact absurd (r.inj _ _ _ _ k e hid hg rfl) hne
  · obtain ⟨hne, e⟩ := hneq e
    obtain ⟨o', ho'⟩ := r.live i l e
    exact ⟨o', by rw [St.obj_setObj, if_neg (fun h => hne h.symm)]; exact ho'⟩

theorem FnS_of (hm : P.follows .mixedOrders = true) {A : Ann} {f : FuncId} {fn : Func} {c : Code} {args : List DV} {k cc : Nat} {cs cs' : List DV} {res : DV} (hf : P.funcs[f]? = some fn) (hb : fn.body = some c) (hn : (fn.name == "runtime.NumGoroutine") = false) (hlen : args.length ≤ fn.ntmps) (hcap : capAt args k cc = true)
    (h : (evalCode P A c { t := entry args 0, h := [(0, some (.box cs))], nx := 1, nt := fn.ntmps, lo := args.length } (retKS P fn args.length k cc cs' res)).holds) (hx0 : ExtsOK P A := by exact extsOK_nil rfl) : FnS P f args cs cs' res := by
  refine ⟨⟨fn, hf, by rw [hb]; rfl, hn⟩, fun S w vs g hvs hargs hbox hSg hglob => callsIn_wide.1 (callsIn_of_wp_marks (F := Fence.wide) (n := 1) hf hb trivial ?_)⟩
  obtain ⟨cv, T, hh, hsz, hcells, ho⟩ := hbox
  have hb0 : ∀ {i : Nat} {l : Loc}, blkS g i = some l → i = 0 ∧ l = .at_ g 0 := fun {i l} e => by
    unfold blkS at e
    split at e
    · rename_i h; cases e; exact ⟨h, rfl⟩
    · cases e
  have hrdm : ∀ ad u, rdArg w S ad u → rdOf w w.heap.size ⟨fun k => S k ∨ k = g, [], w, none, fun k => k = g, fun t => vs.getD t undef⟩ (blkS g) ad u := fun ad u ⟨x, y⟩ => ⟨x, fun id l e hg => (by
    obtain ⟨_, rfl⟩ := hb0 e
    have hg : ad.block = g := hg
    exact hSg (hg ▸ y)), .inl (.inl y), fun B h => by cases h⟩
  have rel : ∀ {d : DV} {v : Value}, Rel (rdArg w S) (fun i => i = 0) (blkS g) d v → Rel (rdOf w w.heap.size ⟨fun k => S k ∨ k = g, [], w, none, fun k => k = g, fun t => vs.getD t undef⟩ (blkS g)) (fun i => i = 0) (blkS g) d v := fun h => h.mono hrdm (fun _ h => h) fun _ l _ e => ⟨l, e, rfl⟩
  have relc : ∀ {d : DV} {v : Value}, RelC (rdArg w S) d v → Rel (rdOf w w.heap.size ⟨fun k => S k ∨ k = g, [], w, none, fun k => k = g, fun t => vs.getD t undef⟩ (blkS g)) (fun i => i = 0) (blkS g) d v := fun h => relC_open (h.mono hrdm (fun _ h => h) fun _ _ h => h.elim)
  refine evalCode_sound (A := A) (ro := none) (m := 1) (base := w.heap.size) (w0 := w) (S0 := ⟨fun k => S k ∨ k = g, [], w, none, fun k => k = g, fun t => vs.getD t undef⟩) hm hx0 c (.inl ⟨⟨rfl, rfl⟩, rfl, Nat.le_refl 1⟩) _ _ _ h (fun e σ' hh' a' w' hf' => ?_) _ _ ⟨fun i => i = 0, blkS g, ⟨BelowX.refl _ _ _, fun _ h => .inr h, Nat.le_refl _, ⟨by simp, fun d hd => by cases hd⟩, ⟨Nat.le_refl _, (fun B h => by cases h), fun _ _ h _ _ => h⟩, (fun h => absurd rfl h), (fun B h => by cases h), (fun d v hd => relc (hglob d v (by
      have hd : (d, v) ∈ shG ++ ([] : List (DV × Value)) := hd
      simpa using hd))), ?_, fun t => ?_, fun id o ho' => ?_, fun i i' l l' k e1 e2 g1 g2 => by rw [(hb0 e1).1, (hb0 e2).1], fun i l k e hg => ?_, fun i l e => ?_, fun t ht => ?_⟩, fun i hi => ?_⟩
  · -- the end
    have fin : (retVS P fn args.length k cc cs' res σ').holds → LeavesInM Fence.wide 1 P fn a'.tmps (fun e w' => ∃ v, e = .returned v ∧ RelC (rdRes w' S w.heap.size) res v ∧ BelowX w.heap.size (fun k => k = g) w w' ∧ BoxAt w' (rdRes w' S w.heap.size) g cs') a'.defers .returning w' := by
      intro hh
      obtain ⟨kn', blk', r, _⟩ := hf'
      unfold retVS at hh
      cases hlo : Nat.beq σ'.lo args.length with
      | false => simp only [hlo, cond_false] at hh; exact hh.elim
      | true =>
        simp only [hlo, cond_true] at hh
        have hlo := Nat.eq_of_beq_eq_true hlo
        split at hh
        · rename_i f1 caps1 hg1
          split at hh
          · rename_i id hc1
            split at hh
            · rename_i c2 ds vc hob hres
              cases hcl : DV.closed.go c2 with
              | false => simp only [hcl, cond_false] at hh; exact hh.elim
              | true =>
                simp only [hcl, cond_true] at hh
                obtain ⟨h1, h2⟩ := AllP.app (AllT.all hh)
                obtain ⟨h2, h3⟩ := AllP.app h2
                refine leaves_gen (base := w.heap.size) (w0 := w) (Nat.le_refl w.heap.size) (fun a w' r => ?_) rfl r
                -- the captured pointer
                obtain ⟨f0, caps0, hk0, hc0⟩ : ∃ f0 caps0, args[k]? = some (.clo f0 caps0) ∧ caps0[cc]? = some (.ptr 0 0) := by
                  unfold capAt at hcap
                  split at hcap
                  · rename_i f0 caps0 hk0
                    split at hcap
                    · rename_i hc0; exact ⟨f0, caps0, hk0, hc0⟩
                    · cases hcap
                  · cases hcap
                have hkl : k < vs.size := by rw [hvs]; exact (List.getElem?_eq_some_iff.1 hk0).1
                have hvk := Array.getElem?_eq_getElem hkl
                have hr0 := hargs k _ _ hk0 hvk
                have ht := r.tmps k
                rw [r.pin k (by rw [hlo, ← hvs]; exact hkl), hg1] at ht
                have e0 : (⟨fun k => S k ∨ k = g, [], w, none, fun k => k = g, fun t => vs.getD t undef⟩ : Env).pv k = vs[k] := by
                  show vs.getD k undef = _
                  rw [Array.getD_eq_getD_getElem?, hvk]; rfl
                rw [e0] at ht
                generalize vs[k] = vk at hr0 ht
                have hpt : ∃ u, Rel (rdArg w S) (fun i => i = 0) (blkS g) (.ptr 0 0) u ∧ Rel (rdOf w' w.heap.size ⟨fun k => S k ∨ k = g, [], w, none, fun k => k = g, fun t => vs.getD t undef⟩ blk') kn' blk' (.ptr id 0) u := by
                  cases hr0 with
                  | clo hs0 hr0 =>
                    cases ht with
                    | clo hs1 hr1 =>
                      rename_i us
                      have hl0 : cc < us.size := by rw [hs0]; exact (List.getElem?_eq_some_iff.1 hc0).1
                      have hu := Array.getElem?_eq_getElem hl0
                      exact ⟨_, hr0 cc _ _ hc0 hu, hr1 cc _ _ hc1 hu⟩
                obtain ⟨u, hu0, hu1⟩ := hpt
                obtain ⟨_, g', C', cv', T', hl', hh', hsz', hr', ho'⟩ := r.objs _ _ hob
                have hgg : g' = g := by
                  cases hu0 with
                  | ptr _ _ q0 =>
                    have q0 := q0 g 0 rfl
                    cases hu1 with
                    | ptr _ _ q1 =>
                      have q1 := q1 g' C' hl'
                      rw [q0] at q1
                      simp at q1
                      exact q1.symm
                subst hgg
                obtain ⟨w1, r1⟩ := r.yield hl' ⟨_, hh'⟩ (Nat.le_refl _)
                obtain ⟨v, hrun, hrel⟩ := results_run r1 hres h2
                have hrd2 : ∀ ad u, rdOf w' w.heap.size ⟨fun k => S k ∨ k = g', [], w, none, fun k => k = g', fun t => vs.getD t undef⟩ blk' ad u → rdRes w' S w.heap.size ad u := fun ad u ⟨x, y, z, _⟩ => ⟨x, by
                  rcases z with (z | z) | z
                  · exact .inl z
                  · exact absurd z (y id _ hl')
                  · exact .inr z⟩
                obtain ⟨k1, k2⟩ := leL_sound h1
                refine ⟨v, hrun, leN_sound 4 h3 hrel, r.below, cv', T', hh', by rw [← k1]; exact hsz', fun q d u hd hu => ?_, ho'⟩
                have hql : q < c2.length := by rw [k1]; exact (List.getElem?_eq_some_iff.1 hd).1
                have hcq := List.getElem?_eq_getElem hql
                exact leN_sound 2 (k2 q _ d hcq hd) (((hr' q _ u hcq hu).close (closed_go hcl _ (List.mem_of_getElem? hcq))).mono hrd2 (fun _ h => h) fun _ _ h => h.elim)
            · exact hh.elim
          · exact hh.elim
        · exact hh.elim
    cases e with
    | ret => exact fin hh'
    | normal => exact fin hh'
    | _ => exact hh'.elim
  · simp; omega
  · unfold St.get
    simp only [look_entry, Nat.zero_le, if_true, Nat.sub_zero]
    cases ht : args[t]? with
    | none => exact .any _
    | some d =>
      have hlt : t < vs.size := by rw [hvs]; exact (List.getElem?_eq_some_iff.1 ht).1
      have hv : vs[t]? = some vs[t] := Array.getElem?_eq_getElem hlt
      have := rel (hargs t d _ ht hv)
      simp only [Array.getD_eq_getD_getElem?, Array.getElem?_append, hlt, if_true, hv, Option.getD_some]
      exact this
  · unfold St.obj at ho'
    simp only [look_cons] at ho'
    by_cases e : (0 : Nat) = id
    · subst e
      simp only [if_true, Option.some.injEq] at ho'
      subst ho'
      exact ⟨rfl, g, 0, cv, T, rfl, hh, hsz, fun j d u hd hu => relc (hcells j d u hd hu), ho⟩
    · simp [e, look] at ho'
  · obtain ⟨_, rfl⟩ := hb0 e
    have hg : k = g := hg
    subst hg
    exact ⟨.inr rfl, heap_lt hh⟩
  · obtain ⟨rfl, _⟩ := hb0 e
    exact ⟨.box cs, rfl⟩
  · show _ = vs.getD t undef
    have ht : t < args.length := ht
    have hlt : t < vs.size := by omega
    simp only [Array.getD_eq_getD_getElem?, Array.getElem?_append, hlt, if_true]
  · have hi : i = 0 := hi
    show i < 1
    omega

/-- What is owed for such a contract. -/
def owedS (P : Program) (A : Ann) (f : FuncId) (args : List DV) (k c : Nat) (cs cs' : List DV) (res : DV) : VT := match P.funcs[f]? with
  | some fn => match fn.body with
    | some code => bif (!(fn.name == "runtime.NumGoroutine")) && (Nat.ble args.length fn.ntmps && capAt args k c) then
        evalCode P A code { t := entry args 0, h := [(0, some (.box cs))], nx := 1, nt := fn.ntmps, lo := args.length } (retKS P fn args.length k c cs' res) else .done [False]
    | none => .done [False]
  | none => .done [False]
theorem FnS_owed (hm : P.follows .mixedOrders = true) {f : FuncId} {args : List DV} {k c : Nat} {cs cs' : List DV} {res : DV} {V : VT} (A : Ann) (e : owedS P A f args k c cs cs' res = V) (h : V.holds) (hx0 : ExtsOK P A := by exact extsOK_nil rfl) : FnS P f args cs cs' res := by
  subst e
  unfold owedS at h
  split at h
  · rename_i fn hf
    split at h
    · rename_i code hb
      cases hx : ((!(fn.name == "runtime.NumGoroutine")) && (Nat.ble args.length fn.ntmps && capAt args k c)) with
      | false => simp only [hx, cond_false] at h; exact h.elim
      | true =>
        simp only [hx, cond_true] at h
        simp only [Bool.and_eq_true, Bool.not_eq_true'] at hx
        exact FnS_of hm hf hb hx.1 (Nat.le_of_ble_eq_true hx.2.1) hx.2.2 h hx0
    · exact h.elim
  · exact h.elim
end
end Go.Abs
