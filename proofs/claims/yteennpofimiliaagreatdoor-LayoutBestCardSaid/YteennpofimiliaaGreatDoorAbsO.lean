/- Guards; a region in the order of its text. What an operation looks at: its operands, and the objects that these name. -/
import Derived.Test.YteennpofimiliaaGreatDoorAbsM
section
namespace Go.Abs
open Go.RowKit
section
variable {P : Program} {ro : Option Nat} {m : Nat} {base : Nat} {w0 w w' : World} {S0 : Env} {σ σ' : St} {kn : Nat → Prop} {blk : Nat → Option Loc} {a : Act}
theorem plainEff_sound (r : R base w0 S0 σ kn blk a w) {id : Nat} (hid : ¬ kn id) {oc : Orc} {o : Oper} (hvc : AllP (plainEff P oc id σ o).vc) {K : Act → World → Prop} {Q : Exit → Act → World → Prop}
    (hdst : dstOK σ.nt o.dst = true) (hK : ∀ a' w', After base w0 S0 (σ.eff o.dst (plainEff P oc id σ o)) kn id a' w' → K a' w') : o.wpIn (FW ro) m P a w K Q := by
  generalize he : plainEff P oc id σ o = e at hvc hK
  unfold plainEff at he
  split at he
  · rename_i c x y ho
    exact wp_runs (fun c h => by rw [ho] at h; cases h) (s := do pure (if ← asBool (a.eval c) then a.eval x else a.eval y)) (by unfold execOp; rw [ho]; simp) ((evPick_sound he hvc (r.ev c) (r.ev x) (r.ev y)).runs r) hdst hK
  · unfold opEff0 at he
    cases hc : condVC σ o.op.operands.toList with
    | nil =>
      simp only [hc] at he
      refine evOp_sound r hid he hvc (fun y hy => (r.ev y).un (condVC_spec (l := o.op.operands.toList) (by rw [hc]; intro p hp; cases hp) y hy)) hdst hK
    | cons p ps =>
      simp only [hc] at he
      subst he
      obtain ⟨h1, h2⟩ := AllP.app hvc
      refine evOp_sound r hid rfl h2 (fun y hy => (r.ev y).un (condVC_spec (l := o.op.operands.toList) (by rw [hc]; exact h1) y hy)) hdst (fun a' w' h => hK a' w' ?_)
      exact h
theorem Rel.cond {rd : Rd} {d : DV} {v : Value} (h : Rel rd kn blk d v) : ∀ q, d.cond? = some q → (q = true → Rel rd kn blk d.un v) ∧ (q = false → v = undef) := by
  induction h with
  | opt hb hu ih =>
    rename_i b d v
    intro q hq
    simp only [DV.cond?] at hq
    split at hq
    · rename_i hn
      cases hq
      refine ⟨fun e => ?_, hu⟩
      exact (hb e).un (fun c hc => by rw [hn] at hc; cases hc)
    · rename_i c hc
      cases hq
      refine ⟨fun e => ?_, fun e => ?_⟩
      · simp at e
        exact (ih e.1 c hc).1 e.2
      · cases hb' : b with
        | false => exact hu hb'
        | true =>
          rw [hb'] at e
          exact (ih hb' c hc).2 (by simpa using e)
  | _ => intro q hq; simp [DV.cond?] at hq
theorem When.after {dst : Option Tmp} {e : Eff} {b : Bool} {id : Nat} {kn0 : Nat → Prop} (hb : b = true) {hw : List (Nat × Option AObj)} (hh : e.hw = hw) {vc : List Prop} (hdst : dstOK σ.nt dst = true) (h : After base w0 S0 (σ.eff dst e) kn0 id a w) : After base w0 S0 (σ.eff dst { d := .opt b e.d, hw := hw, vc := vc }) kn0 id a w := by
  obtain ⟨kn', blk', hR, hk⟩ := h
  subst hh
  refine ⟨kn', blk', ⟨hR.below, hR.hbase, hR.dfr, hR.kpo, hR.shp, hR.size, fun t => ?_, hR.objs, hR.inj, hR.ge, hR.live⟩, hk⟩
  have ht := hR.tmps t
  cases dst with
  | none => exact ht
  | some t0 =>
    unfold St.get St.eff at ht ⊢
    simp only [look_cons] at ht ⊢
    by_cases e0 : t0 = t
    · simp only [e0, if_true] at ht ⊢
      exact .opt (fun _ => ht) (fun h => by rw [hb] at h; cases h)
    · simp only [e0, if_false] at ht ⊢
      exact ht
theorem opEff_sound (r : R base w0 S0 σ kn blk a w) {id : Nat} (hid : ¬ kn id) {ops : Array Oper} {oc : Orc} {o : Oper} (hvc : AllP (opEff P ops oc id σ o).vc) {K : Act → World → Prop} {Q : Exit → Act → World → Prop}
    (hdst : dstOK σ.nt o.dst = true) (hK : ∀ a' w', After base w0 S0 (σ.eff o.dst (opEff P ops oc id σ o)) kn id a' w' → K a' w') :
    if Region.wanted o (yielded ops a.tmps) = true then o.wpIn (FW ro) m P a w K Q else (∀ f, o.about P w a.eval = some f → (FW ro).fn f) ∧ K (a.put o.dst undef) w := by
  unfold opEff at hvc hK
  cases hg : grd ops σ o with
  | always =>
    simp only [hg] at hvc hK
    have hgn : o.guard = none := by
      unfold grd at hg
      split at hg
      · assumption
      · split at hg
        · split at hg
          · split at hg <;> cases hg
          · cases hg
        · cases hg
    rw [if_pos (by simp [Region.wanted, hgn])]
    exact plainEff_sound r hid hvc hdst hK
  | unknown => simp only [hg] at hvc; exact bad_vc hvc
  | when b =>
    simp only [hg] at hvc hK
    -- whether it runs is what b says
    have hwant : (Region.wanted o (yielded ops a.tmps) = true ↔ b = true) := by
      unfold grd at hg
      split at hg
      · cases hg
      · rename_i j want hgu
        split at hg
        · rename_i t ht
          split at hg
          · rename_i p hp
            have hrel := r.tmps t
            have hy : Region.wanted o (yielded ops a.tmps) = true ↔ a.tmps.getD t undef = .bool want := by
              unfold Region.wanted
              rw [hgu]
              simp only [yielded, ht, Option.bind_some, Array.getD_eq_getD_getElem?]
              cases hv : a.tmps[t]? with
              | none => simp [undef]
              | some v => cases v <;> simp
            rw [hy]
            split at hg
            · rename_i hc
              cases hg
              have := hrel.un (fun c h => by rw [hc] at h; cases h)
              rw [hp] at this
              rw [this.val_eq]
              cases want <;> cases p <;> simp
            · rename_i q hc
              cases hg
              obtain ⟨h1, h2⟩ := hrel.cond q hc
              cases q with
              | false =>
                rw [h2 rfl]
                simp [undef]
              | true =>
                have := h1 rfl
                rw [hp] at this
                rw [this.val_eq]
                cases want <;> cases p <;> simp
          · cases hg
        · cases hg
    cases hb : b with
    | true =>
      rw [if_pos (hwant.2 hb)]
      refine plainEff_sound (oc := oc) r hid ?_ hdst fun a' w' h => hK a' w' ?_
      · split at hvc
        · intro p hp
          exact hvc (b = true → p) (List.mem_map_of_mem hp) hb
        · exact hvc.tl
      · split
        · rename_i hw
          exact When.after hb hw hdst h
        · rename_i hw _
          exact When.after hb rfl hdst h
    | false =>
      rw [if_neg (fun h => by have := hwant.1 h; rw [hb] at this; cases this)]
      split at hvc
      · rename_i hw
        refine ⟨fun _ _ => trivial, hK _ _ ⟨kn, blk, ?_, fun _ h => .inl h⟩⟩
        simp only [hw]
        exact R.put_eff (e := { d := .opt b (plainEff P oc id σ o).d, vc := (plainEff P oc id σ o).vc.map fun p => (b = true → p) }) r hdst (.opt (fun h => by rw [hb] at h; cases h) fun _ => rfl)
      · have := hvc.hd
        rw [hb] at this; cases this
def Fits (base : Nat) (w0 : World) (S0 : Env) (σ : St) (a : Act) (w : World) : Prop :=
  ∃ kn blk, R base w0 S0 σ kn blk a w ∧ ∀ i, kn i → i < σ.nx
theorem runOps_vc (ops : Array Oper) (orc : List (Nat × Orc)) (n0 : Nat) : ∀ (l : List Oper) (k : Nat) (σ : St) (vc : List Prop), ∀ p ∈ vc, p ∈ (runOps P ops orc n0 l k σ vc).2
  | [], _, _, _, _, hp => hp
  | o :: r, k, σ, vc, p, hp => by
    simp only [runOps]
    exact runOps_vc ops orc n0 r (k + 1) _ _ p (List.mem_append_left _ hp)
theorem runOps_nx (ops : Array Oper) (orc : List (Nat × Orc)) (n0 : Nat) : ∀ (l : List Oper) (k : Nat) (σ : St) (vc : List Prop), (runOps P ops orc n0 l k σ vc).1.nx = σ.nx ∧ (runOps P ops orc n0 l k σ vc).1.nt = σ.nt
  | [], _, _, _ => ⟨rfl, rfl⟩
  | o :: r, k, σ, vc => by
    simp only [runOps]
    exact runOps_nx ops orc n0 r (k + 1) _ _
theorem runOps_sound {ops : Array Oper} {orc : List (Nat × Orc)} {n0 : Nat} {Q : Exit → Act → World → Prop} : ∀ (l : List Oper) (k : Nat) (σ : St) (vc : List Prop) (kn : Nat → Prop) (blk : Nat → Option Loc) (a : Act) (w : World), (∀ j, l[j]? = ops[k + j]?) →
    R base w0 S0 σ kn blk a w → (∀ i, kn i → i < n0 + k) → AllP (runOps P ops orc n0 l k σ vc).2 →
    (∀ kn' blk' a' w', R base w0 S0 (runOps P ops orc n0 l k σ vc).1 kn' blk' a' w' → (∀ i, kn' i → i < n0 + k + l.length) → Q .normal a' w') → wpOpsIn (FW ro) m P ops Q (List.range' k l.length) a w
  | [], k, σ, vc, kn, blk, a, w, _, r, hkn, _, hQ => by
    simp only [List.length_nil, List.range'_zero, wpOpsIn]
    exact hQ kn blk a w r (by simpa using hkn)
  | o :: l, k, σ, vc, kn, blk, a, w, hl, r, hkn, hvc, hQ => by
    have h0 : ops[k]? = some o := by simpa using (hl 0).symm
    simp only [List.length_cons, List.range'_succ, wpOpsIn, h0]
    simp only [runOps] at hvc hQ
    have hid : ¬ kn (n0 + k) := fun h => by have := hkn _ h; omega
    have hme := runOps_vc (P := P) ops orc n0 l (k + 1) (σ.eff o.dst (opEff P ops (orcAt orc k) (n0 + k) σ o)) (vc ++ (bif dstOK σ.nt o.dst then (opEff P ops (orcAt orc k) (n0 + k) σ o).vc else [False]))
    cases hd : dstOK σ.nt o.dst with
    | false =>
      simp only [hd, cond_false] at hme hvc
      exact (hvc False (hme False (by simp))).elim
    | true =>
      simp only [hd, cond_true] at hme hvc hQ
      have hvo : AllP (opEff P ops (orcAt orc k) (n0 + k) σ o).vc := fun p hp => hvc p (hme p (List.mem_append_right _ hp))
      refine opEff_sound r hid hvo hd fun a' w' ⟨kn', blk', hR, hk⟩ => ?_
      refine runOps_sound l (k + 1) _ _ kn' blk' a' w' (fun j => by have := hl (j + 1); simpa [Nat.add_assoc, Nat.add_comm 1 j] using this) hR (fun i hi => ?_) hvc fun kn2 blk2 a2 w2 h2 hk2 => hQ kn2 blk2 a2 w2 h2 fun i hi => by have := hk2 i hi; simp only [List.length_cons]; omega
      rcases hk i hi with h | h
      · have := hkn i h; omega
      · omega
theorem region_sound {id : Nat} {ops : Array Oper} {orc : List (Nat × Orc)} {Q : Exit → Act → World → Prop} (h : Fits base w0 S0 σ a w) (hvc : AllP (regionOut P ops orc σ).2)
    (hQ : ∀ a' w', Fits base w0 S0 (regionOut P ops orc σ).1 a' w' → Q .normal a' w') : (Code.region id ops false).wpIn (FW ro) m P Q a w := by
  obtain ⟨kn, blk, r, hk⟩ := h
  refine wpIn_region ?_
  rw [List.range_eq_range', ← Array.length_toList]
  refine runOps_sound (n0 := σ.nx) ops.toList 0 { σ with nx := σ.nx + ops.size } [] kn blk a w (fun j => by simp) ?_ (by simpa using hk) hvc fun kn' blk' a' w' hR hk' => hQ a' w' ⟨kn', blk', hR, fun i hi => ?_⟩
  · exact ⟨r.below, r.hbase, r.dfr, r.kpo, r.shp, r.size, r.tmps, r.objs, r.inj, r.ge, r.live⟩
  · have := hk' i hi
    have e := (runOps_nx (P := P) ops orc σ.nx ops.toList 0 { σ with nx := σ.nx + ops.size } []).1
    show i < (runOps P ops orc σ.nx ops.toList 0 { σ with nx := σ.nx + ops.size } []).1.nx
    rw [e]
    simp at this ⊢; exact this
end
end Go.Abs
end
section
namespace Go.Abs
open Go.RowKit
def topId : DV → List Nat
  | .ptr id _ => [id]
  | .rptr _ id _ _ => [id]
  | .row _ id _ _ => [id]
  | _ => []
def topIds : DV → List Nat
  | .clo _ caps => go caps
  | .agg cs => go cs
  | d => topId d
where go : List DV → List Nat
  | [] => []
  | d :: r => topId d ++ go r
theorem topIds_of {d : DV} {id : Nat} (h : id ∈ topId d) : id ∈ topIds d := by
  cases d <;> first | exact h | simp [topId] at h
theorem mem_go : ∀ {caps : List DV} {d : DV} {id : Nat}, d ∈ caps → id ∈ topId d → id ∈ topIds.go caps
  | c :: r, d, id, hd, hi => by
    simp only [topIds.go, List.mem_append]
    rcases List.mem_cons.1 hd with rfl | hd
    · exact .inl hi
    · exact .inr (mem_go hd hi)
def tmpReads (ops : Array Oper) (o : Oper) : List Nat := o.looksAt ops
def objReads (σ : St) : List Operand → List Nat
  | [] => []
  | y :: r => topIds (σ.ev y).un ++ objReads σ r
theorem mem_objReads {σ : St} : ∀ {l : List Operand} {y : Operand} {id : Nat}, y ∈ l → id ∈ topIds (σ.ev y).un → id ∈ objReads σ l
  | c :: r, y, id, hy, hi => by
    simp only [objReads, List.mem_append]
    rcases List.mem_cons.1 hy with rfl | hy
    · exact .inl hi
    · exact .inr (mem_objReads hy hi)
section
variable {P : Program} {ob ob' : Heap}
theorem readAt_local {p : DV} (h : ∀ id ∈ topId p, ob id = ob' id) : readAt ob p = readAt ob' p := by
  cases p <;> first | rfl | (simp only [topId, List.mem_singleton, forall_eq] at h; simp only [readAt, h])
theorem evLoad_local {t : TypeId} {p : DV} (h : ∀ id ∈ topId p, ob id = ob' id) : evLoad P ob t p = evLoad P ob' t p := by simp only [evLoad, readAt_local h]
theorem evLoadSel_local {t : TypeId} {m : Nat} {p : DV} (h : ∀ id ∈ topId p, ob id = ob' id) : evLoadSel P ob t m p = evLoadSel P ob' t m p := by
  cases p <;> first | rfl | (simp only [topId, List.mem_singleton, forall_eq] at h; simp only [evLoadSel, h])
theorem evStore_local {t : TypeId} {p d : DV} (h : ∀ id ∈ topId p, ob id = ob' id) : evStore P ob t p d = evStore P ob' t p d := by
  cases p <;> first | rfl | (simp only [topId, List.mem_singleton, forall_eq] at h; simp only [evStore, h])
theorem evIndexAddr_local {t : TypeId} {x i : DV} (h : ∀ id ∈ topId x, ob id = ob' id) : evIndexAddr P ob t x i = evIndexAddr P ob' t x i := by
  unfold evIndexAddr
  split
  · rename_i e k q hu
    cases x with
    | row s' id off len =>
      simp only [topId, List.mem_singleton, forall_eq] at h
      cases tSize P e with
      | none => rfl
      | some s => simp only [isRow, h]
    | _ => cases tSize P e <;> rfl
  · rfl
  · rfl
theorem evSlice_local {t : TypeId} {x : DV} {lo hi : Option DV} (h : ∀ id ∈ topId x, ob id = ob' id) : evSlice P ob t x lo hi = evSlice P ob' t x lo hi := by
  cases x with
  | val v => cases v <;> first | rfl | (rename_i a n c; cases a <;> cases n <;> cases c <;> rfl)
  | row s' id off len =>
    simp only [topId, List.mem_singleton, forall_eq] at h
    simp only [evSlice, isRow, h]
  | _ => rfl
theorem evLen_local {t : TypeId} {x : DV} (h : ∀ id ∈ topId x, ob id = ob' id) : evLen P ob t x = evLen P ob' t x := by
  cases x <;> first | rfl | (simp only [topId, List.mem_singleton, forall_eq] at h; simp only [evLen, isRow, h])
theorem source_local {s : Nat} {x : DV} (h : ∀ id ∈ topId x, ob id = ob' id) : source ob s x = source ob' s x := by
  cases x with
  | val v => cases v <;> first | rfl | (rename_i a n c; cases a <;> cases n <;> cases c <;> rfl)
  | row s' id off len => simp only [topId, List.mem_singleton, forall_eq] at h; simp only [source, h]
  | _ => rfl
theorem evAppend_local {id : Nat} {t : TypeId} {x y : DV} (h : ∀ id ∈ topId x, ob id = ob' id) (h2 : ∀ id ∈ topId y, ob id = ob' id) : evAppend P ob id t x y = evAppend P ob' id t x y := by
  unfold evAppend
  simp only [source_local h2]
  cases x with
  | val v => cases v <;> first | rfl | (rename_i a n c; cases a <;> cases n <;> cases c <;> rfl)
  | row s' r off len =>
    simp only [topId, List.mem_singleton, forall_eq] at h
    cases off with
    | zero => simp only [h]
    | succ => rfl
  | _ => rfl
theorem lend_local {x : DV} (h : ∀ id ∈ topId x, ob id = ob' id) : lend ob x = lend ob' x := by
  cases x <;> first | rfl | (simp only [topId, List.mem_singleton, forall_eq] at h; simp only [lend, h])
theorem lends_local : ∀ {l : List DV}, (∀ d ∈ l, ∀ id ∈ topId d, ob id = ob' id) → lends ob l = lends ob' l
  | [], _ => rfl
  | d :: r, h => by
    simp only [lends]
    rw [lend_local (h d List.mem_cons_self), lends_local fun d' hd => h d' (List.mem_cons_of_mem _ hd)]
theorem lendA_local {x : DV} (h : ∀ id ∈ topIds x, ob id = ob' id) : lendA ob x = lendA ob' x := by
  cases x with
  | agg cs => simp only [lendA]; rw [lends_local fun d hd id hi => h id (mem_go hd hi)]
  | _ => rfl
theorem lendParts_local : ∀ {l : List (Nat × DV)}, (∀ p ∈ l, ∀ id ∈ topIds p.2, ob id = ob' id) → lendParts ob l = lendParts ob' l
  | [], _ => rfl
  | (i, d) :: r, h => by
    simp only [lendParts]
    rw [lendA_local (h (i, d) List.mem_cons_self), lendParts_local fun d' hd => h d' (List.mem_cons_of_mem _ hd)]
theorem lendP_local {x : DV} (h : ∀ id ∈ topId x, ob id = ob' id) : lendP ob x = lendP ob' x := by
  cases x with
  | ptr id j =>
    simp only [topId, List.mem_singleton, forall_eq] at h
    cases j with
    | zero => simp only [lendP, h]
    | succ j => rfl
  | _ => exact lend_local h
theorem lendPL_local : ∀ {l : List DV}, (∀ d ∈ l, ∀ id ∈ topId d, ob id = ob' id) → lendPL ob l = lendPL ob' l
  | [], _ => rfl
  | d :: r, h => by
    simp only [lendPL]
    rw [lendP_local (h d List.mem_cons_self), lendPL_local fun d' hd => h d' (List.mem_cons_of_mem _ hd)]
theorem lendB_local {x : DV} (h : ∀ id ∈ topIds x, ob id = ob' id) : lendB ob x = lendB ob' x := by
  cases x with
  | clo f cs => simp only [lendB]; rw [lendPL_local fun d hd id hi => h id (mem_go hd hi)]
  | agg cs => simp only [lendB]; rw [lendPL_local fun d hd id hi => h id (mem_go hd hi)]
  | _ => exact lendP_local fun id hi => h id (topIds_of hi)
theorem lendBs_local : ∀ {l : List DV}, (∀ d ∈ l, ∀ id ∈ topIds d, ob id = ob' id) → lendBs ob l = lendBs ob' l
  | [], _ => rfl
  | d :: r, h => by
    simp only [lendBs]
    rw [lendB_local (h d List.mem_cons_self), lendBs_local fun d' hd => h d' (List.mem_cons_of_mem _ hd)]
theorem closed_noId : ∀ {d : DV}, d.closed = true → topId d = [] := by
  intro d h
  cases d <;> first | rfl | simp [DV.closed] at h
theorem closed_noIds : ∀ {cs : List DV}, DV.closed.go cs = true → topIds.go cs = []
  | [], _ => rfl
  | d :: r, h => by
    simp only [DV.closed.go] at h
    cases hd : d.closed
    · simp [hd] at h
    · simp only [hd, cond_true] at h
      simp only [topIds.go, closed_noId hd, closed_noIds h, List.append_nil]
theorem flat_ids : ∀ {cap : List DV}, flatCaps cap = true → ∀ d ∈ cap, ∀ id ∈ topIds d, id ∈ topId d
  | c :: r, h, d, hd, id, hi => by
    have hr : flatCaps r = true := by
      cases c <;> first | exact h | skip
      all_goals
        rename_i cs
        simp only [flatCaps] at h
        cases hc : DV.closed.go cs
        · simp [hc] at h
        · simpa [hc] using h
    rcases List.mem_cons.1 hd with rfl | hd
    · cases d <;> first | exact hi | skip
      all_goals
        rename_i cs
        simp only [flatCaps] at h
        cases hc : DV.closed.go cs
        · simp [hc] at h
        · simp only [topIds, closed_noIds hc] at hi
          cases hi
    · exact flat_ids hr d hd id hi
theorem turnEff_local {f : FuncId} {A' : Nat → Int} {l : List DV} (h : ∀ d ∈ l, ∀ id ∈ topId d, ob id = ob' id) : turnEff P f ob A' l = turnEff P f ob' A' l := by
  cases l with
  | nil => rfl
  | cons d rest =>
    cases d <;> first | rfl | skip
    rename_i s r off len
    have e := h _ List.mem_cons_self r (by simp [topId])
    cases off with
    | zero => simp only [turnEff, e]
    | succ => rfl
theorem takeEff_local {f : FuncId} {n' : Nat} {A' : Nat → Int} {l : List DV} (h : ∀ d ∈ l, ∀ id ∈ topId d, ob id = ob' id) : takeEff P f ob n' A' l = takeEff P f ob' n' A' l := by
  cases l with
  | nil => rfl
  | cons d rest =>
    cases rest with
    | cons => cases d <;> rfl
    | nil =>
      cases d <;> first | rfl | skip
      rename_i s r off len
      have e := h _ List.mem_cons_self r (by simp [topId])
      cases off with
      | zero => simp only [takeEff, e]
      | succ => rfl
theorem evCall_local {oc : Orc} {id : Nat} {f : FuncId} {l : List DV} (h : ∀ d ∈ l, ∀ id ∈ topIds d, ob id = ob' id) : evCall P oc id ob f l = evCall P oc id ob' f l := by
  have h' : ∀ d ∈ l, ∀ id ∈ topId d, ob id = ob' id := fun d hd id hi => h d hd id (topIds_of hi)
  simp only [evCall, lends_local h', lendBs_local h, turnEff_local h', takeEff_local h']
theorem map_parts {x x' : Operand → DV} : ∀ (l : List (Nat × Operand)), (∀ p ∈ l, x p.2 = x' p.2) → (l.map fun p => (p.1, x p.2)) = l.map fun p => (p.1, x' p.2)
  | [], _ => rfl
  | p :: l, h => by rw [List.map_cons, List.map_cons, h p List.mem_cons_self, map_parts l fun q hq => h q (List.mem_cons_of_mem _ hq)]
theorem evOp_local {oc : Orc} {id : Nat} {o : Oper} {x x' : Operand → DV} (hx : ∀ y ∈ o.op.operands.toList, x y = x' y) (ho : ∀ y ∈ o.op.operands.toList, ∀ i ∈ topIds (x y), ob i = ob' i) :
    evOp P oc id o x ob = evOp P oc id o x' ob' := by
  have top : ∀ y ∈ o.op.operands.toList, ∀ i ∈ topId (x y), ob i = ob' i := fun y hy i hi => ho y hy i (topIds_of hi)
  unfold evOp
  cases hop : o.op with
  | move y => simp only [hop] at hx ⊢; rw [hx y (by simp [Op.operands])]
  | assign y => simp only [hop] at hx ⊢; rw [hx y (by simp [Op.operands])]
  | box t y => simp only [hop] at hx ⊢; rw [hx y (by simp [Op.operands])]
  | build t parts =>
    simp only [hop] at hx ⊢
    congr 1
    exact map_parts parts.toList fun p hp => hx p.2 (by simp only [Op.operands]; exact List.mem_map_of_mem hp)
  | buildSlice t len parts =>
    simp only [hop] at hx ho ⊢
    have e1 := map_parts (x := x) (x' := x') parts.toList fun p hp => hx p.2 (by simp only [Op.operands]; exact List.mem_map_of_mem hp)
    have e2 : lendParts ob (parts.toList.map fun p => (p.1, x p.2)) = lendParts ob' (parts.toList.map fun p => (p.1, x p.2)) := lendParts_local fun q hq id hi => by
      obtain ⟨p, hp, rfl⟩ := List.mem_map.1 hq
      exact ho p.2 (by simp only [Op.operands]; exact List.mem_map_of_mem hp) id hi
    simp only [evBuildSliceF, e2]
    rw [e1]
  | slice t y lo hi mx =>
    cases mx with
    | some m => rfl
    | none =>
      simp only [hop] at hx top ⊢
      have hl : lo.map x = lo.map x' := by cases lo with
        | none => rfl
        | some z => simp only [Option.map_some]; rw [hx z (by simp [Op.operands])]
      have hh : hi.map x = hi.map x' := by cases hi with
        | none => rfl
        | some z => simp only [Option.map_some]; rw [hx z (by simp [Op.operands])]
      rw [← hx y (by simp [Op.operands]), hl, hh]
      exact evSlice_local (top y (by simp [Op.operands]))
  | load t y =>
    simp only [hop] at hx top ⊢
    rw [← hx y (by simp [Op.operands])]
    split
    · exact evLoadSel_local (top y (by simp [Op.operands]))
    · exact evLoad_local (top y (by simp [Op.operands]))
  | store t p y =>
    simp only [hop] at hx top ⊢
    rw [← hx p (by simp [Op.operands]), ← hx y (by simp [Op.operands])]
    exact evStore_local (top p (by simp [Op.operands]))
  | nilCheck y => simp only [hop] at hx ⊢; rw [hx y (by simp [Op.operands])]
  | makeSlice t y z => simp only [hop] at hx ⊢; rw [hx y (by simp [Op.operands]), hx z (by simp [Op.operands])]
  | binOp op t y z ty => simp only [hop] at hx ⊢; rw [hx y (by simp [Op.operands]), hx z (by simp [Op.operands])]
  | unOp op t y => simp only [hop] at hx ⊢; rw [hx y (by simp [Op.operands])]
  | convert a b y => simp only [hop] at hx ⊢; rw [hx y (by simp [Op.operands])]
  | fieldAddr s y f => simp only [hop] at hx ⊢; rw [hx y (by simp [Op.operands])]
  | field s y f => simp only [hop] at hx ⊢; rw [hx y (by simp [Op.operands])]
  | indexAddr t y i =>
    simp only [hop] at hx top ⊢
    rw [← hx y (by simp [Op.operands]), ← hx i (by simp [Op.operands])]
    exact evIndexAddr_local (top y (by simp [Op.operands]))
  | index t y i => simp only [hop] at hx ⊢; rw [hx y (by simp [Op.operands]), hx i (by simp [Op.operands])]
  | extract y i => simp only [hop] at hx ⊢; rw [hx y (by simp [Op.operands])]
  | makeFunc fn first cap =>
    cases fn with
    | func f =>
      simp only [hop] at hx ⊢
      have : cap.toList.map x = cap.toList.map x' := List.map_congr_left fun y hy => hx y (by simp only [Op.operands]; simp; exact .inr (by simpa using hy))
      rw [this]
    | _ => rfl
  | call c =>
    simp only [hop] at hx top ⊢
    have hargs : ∀ y ∈ c.args.toList, y ∈ (Op.call c).operands.toList := fun y hy => by simp only [Op.operands, Call.operands]; simp; exact .inr (by simpa using hy)
    have hmap : c.args.toList.map x = c.args.toList.map x' := List.map_congr_left fun y hy => hx y (hargs y hy)
    cases hcal : c.callee with
    | builtin b =>
      cases b with
      | len =>
        simp only
        cases h1 : c.args.toList with
        | nil => rfl
        | cons y r =>
          cases r with
          | cons => rfl
          | nil =>
            cases h2 : c.argTypes.toList with
            | nil => rfl
            | cons t q =>
              cases q with
              | cons => rfl
              | nil =>
                have hy := hargs y (by rw [h1]; exact List.mem_cons_self)
                simp only
                rw [← hx y hy]
                exact evLen_local (top y hy)
      | append =>
        simp only
        split
        · rename_i y z t t' h1 h2
          have hy := hargs y (by rw [h1]; exact List.mem_cons_self)
          have hz := hargs z (by rw [h1]; exact List.mem_cons_of_mem _ List.mem_cons_self)
          rw [← hx y hy, ← hx z hz, evAppend_local (top y hy) (top z hz)]
        · rfl
      | min => simp only [hmap]
      | max => simp only [hmap]
      | _ => rfl
    | value y =>
      have hy : y ∈ (Op.call c).operands.toList := by simp only [Op.operands, Call.operands, hcal]; simp
      have hargo : ∀ d ∈ c.args.toList.map x, ∀ id ∈ topIds d, ob id = ob' id := by
        intro d hd id hid
        obtain ⟨z, hz, rfl⟩ := List.mem_map.1 hd
        simp only [hop] at ho
        exact ho z (hargs z hz) id hid
      simp only
      rw [← hx y hy, ← hmap]
      split
      · split
        · exact evCall_local hargo
        · rfl
      · rename_i f cap hv
        cases hfl : flatCaps cap with
        | false => rfl
        | true =>
          refine evCall_local fun d hd id hid => ?_
          rcases List.mem_append.1 hd with hd | hd
          · exact hargo d hd id hid
          · simp only [hop] at ho
            exact ho y hy id (by rw [hv]; exact mem_go hd (flat_ids hfl d hd id hid))
      · rfl
    | invoke r m => rfl
  | _ => rfl
theorem ev_agree {σ σ' : St} {ops : Array Oper} {o : Oper} (ht : ∀ t ∈ tmpReads ops o, σ.get t = σ'.get t) : ∀ y ∈ o.op.operands.toList, σ.ev y = σ'.ev y := by
  intro y hy
  cases y with
  | tmp t =>
    refine ht t ?_
    simp only [tmpReads, Oper.looksAt, List.mem_append]
    exact .inl (List.mem_filterMap.2 ⟨.tmp t, hy, rfl⟩)
  | _ => rfl
theorem condVC_agree {σ σ' : St} : ∀ {l : List Operand}, (∀ y ∈ l, σ.ev y = σ'.ev y) → condVC σ l = condVC σ' l
  | [], _ => rfl
  | y :: r, h => by
    simp only [condVC]
    rw [h y List.mem_cons_self, condVC_agree fun z hz => h z (List.mem_cons_of_mem _ hz)]
theorem opEff_local {σ σ' : St} {ops : Array Oper} {oc : Orc} {id : Nat} {o : Oper} (ht : ∀ t ∈ tmpReads ops o, σ.get t = σ'.get t) (hh : ∀ i ∈ objReads σ o.op.operands.toList, σ.obj i = σ'.obj i) :
    opEff P ops oc id σ o = opEff P ops oc id σ' o := by
  have hev := ev_agree ht
  have hg : grd ops σ o = grd ops σ' o := by
    unfold grd
    cases hgu : o.guard with
    | none => rfl
    | some q =>
      obtain ⟨j, want⟩ := q
      cases hd : (ops[j]?).bind (·.dst) with
      | none => simp only [hd]
      | some t =>
        have : σ.get t = σ'.get t := ht t (by simp only [tmpReads, Oper.looksAt, List.mem_append, hgu, hd]; exact .inr (by simp))
        simp only [hd, this]
  have h0 : opEff0 P oc id σ o = opEff0 P oc id σ' o := by
    unfold opEff0
    have e1 : evOp P oc id o (fun y => (σ.ev y).un) σ.obj = evOp P oc id o (fun y => (σ'.ev y).un) σ'.obj :=
      evOp_local (fun y hy => by rw [hev y hy]) fun y hy i hi => hh i (mem_objReads hy hi)
    rw [condVC_agree hev, e1]
  have h1 : plainEff P oc id σ o = plainEff P oc id σ' o := by
    unfold plainEff
    cases hop : o.op with
    | pick c a b =>
      have hc := hev c (by rw [hop]; simp [Op.operands])
      have ha := hev a (by rw [hop]; simp [Op.operands])
      have hb := hev b (by rw [hop]; simp [Op.operands])
      simp only [hc, ha, hb]
    | _ => exact h0
  unfold opEff
  rw [hg, h1]
end
end Go.Abs
end
