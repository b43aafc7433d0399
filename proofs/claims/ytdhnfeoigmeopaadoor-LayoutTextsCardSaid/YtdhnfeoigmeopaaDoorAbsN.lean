/- Guards; a region in the order of its text. -/
import Derived.Test.YtdhnfeoigmeopaaDoorAbsM
namespace Go.Abs
open Go.RowKit
section
variable {P : Program} {ro : Option Nat} {m : Nat} {base : Nat} {w0 w w' : World} {S0 : Env} {σ σ' : St} {kn : Nat → Prop} {blk : Nat → Option Loc} {a : Act}
theorem plainEff_sound (r : R base w0 S0 σ kn blk a w) {id : Nat} (hid : ¬ kn id) {oc : Orc} {o : Oper} (hvc : AllP (plainEff P oc id σ o).vc) {K : Act → World → Prop} {Q : Exit → Act → World → Prop}
    (hdst : dstOK σ.nt σ.lo o.dst = true) (hK : ∀ a' w', After base w0 S0 (σ.eff o.dst (plainEff P oc id σ o)) kn id a' w' → K a' w') : o.wpIn (FW ro) m P a w K Q := by
  generalize he : plainEff P oc id σ o = e at hvc hK
  unfold plainEff at he
  split at he
  · rename_i c x y ho
    exact wp_runs (fun c h => by rw [ho] at h; cases h) (s := do pure (if ← asBool (a.eval c) then a.eval x else a.eval y)) (by unfold execOp; rw [ho]; simp) ((evPick_sound he hvc (r.ev c) (r.ev x) (r.ev y)).runs r) hdst hK
  · unfold opEff0 at he
    cases hc : condVC σ o.op.operands.toList with
    | nil =>
      simp only [hc] at he
      refine evOpR_sound r hid he hvc (fun y hy => (r.ev y).un (condVC_spec (l := o.op.operands.toList) (by rw [hc]; intro p hp; cases hp) y hy)) hdst hK
    | cons p ps =>
      simp only [hc] at he
      subst he
      obtain ⟨h1, h2⟩ := AllP.app hvc
      refine evOpR_sound r hid rfl h2 (fun y hy => (r.ev y).un (condVC_spec (l := o.op.operands.toList) (by rw [hc]; exact h1) y hy)) hdst (fun a' w' h => hK a' w' ?_)
      exact h
theorem Rel.cond {rd : Rd} {d : DV} {v : Value} (h : Rel rd kn blk d v) : ∀ q, d.cond? = some q → (q = true → Rel rd kn blk d.un v) ∧ (q = false → v = undef) := by
  induction h with
  | opt hb hu ih =>
    rename_i b d v
    intro q hq
    simp only [DV.cond?] at hq
    split at hq
    · rename_i hn
      cases hq
      refine ⟨fun e => ?_, hu⟩
      exact (hb e).un (fun c hc => by rw [hn] at hc; cases hc)
    · rename_i c hc
      cases hq
      refine ⟨fun e => ?_, fun e => ?_⟩
      · simp at e
        exact (ih e.1 c hc).1 e.2
      · cases hb' : b with
        | false => exact hu hb'
        | true =>
          rw [hb'] at e
          exact (ih hb' c hc).2 (by simpa using e)
  | _ => intro q hq; simp [DV.cond?] at hq
theorem When.after {dst : Option Tmp} {e : Eff} {b : Bool} {id : Nat} {kn0 : Nat → Prop} (hb : b = true) {hw : List (Nat × Option AObj)} (hh : e.hw = hw) {vc : List Prop} (hdst : dstOK σ.nt σ.lo dst = true) (h : After base w0 S0 (σ.eff dst e) kn0 id a w) : After base w0 S0 (σ.eff dst { d := .opt b e.d, hw := hw, vc := vc }) kn0 id a w := by
  obtain ⟨kn', blk', hR, hk⟩ := h
  subst hh
  refine ⟨kn', blk', ⟨hR.below, hR.xs, hR.hbase, hR.dfr, hR.kpo, hR.rnd, hR.mlow, hR.shp, hR.size, fun t => ?_, hR.objs, hR.inj, hR.ge, hR.live, hR.pin⟩, hk⟩
  have ht := hR.tmps t
  cases dst with
  | none => exact ht
  | some t0 =>
    unfold St.get St.eff at ht ⊢
    simp only [look_cons] at ht ⊢
    by_cases e0 : t0 = t
    · simp only [e0, if_true] at ht ⊢
      exact .opt (fun _ => ht) (fun h => by rw [hb] at h; cases h)
    · simp only [e0, if_false] at ht ⊢
      exact ht
theorem lookA_append {α : Type} : ∀ (l m : List (Nat × α)) (i : Nat), look (l ++ m) i = match look l i with | some v => some v | none => look m i
  | [], m, i => rfl
  | (k, v) :: r, m, i => by
    simp only [List.cons_append, look_cons]
    by_cases h : k = i
    · simp [h]
    · simp only [if_neg h]; exact lookA_append r m i
theorem opEff_sound (r : R base w0 S0 σ kn blk a w) {id : Nat} (hid : ¬ kn id) {ops : Array Oper} {oc : Orc} {o : Oper} (hvc : AllP (opEff P ops oc id σ o).vc) {K : Act → World → Prop} {Q : Exit → Act → World → Prop}
    (hdst : dstOK σ.nt σ.lo o.dst = true) (hK : ∀ a' w', After base w0 S0 (σ.eff o.dst (opEff P ops oc id σ o)) kn id a' w' → K a' w') :
    if Region.wanted o (yielded ops a.tmps) = true then o.wpIn (FW ro) m P a w K Q else (∀ f, o.about P w a.eval = some f → (FW ro).fn f) ∧ K (a.put o.dst undef) w := by
  unfold opEff at hvc hK
  cases hg : grd ops σ o with
  | always =>
    simp only [hg] at hvc hK
    have hgn : o.guard = none := by
      unfold grd at hg
      split at hg
      · assumption
      · split at hg
        · split at hg
          · split at hg <;> cases hg
          · cases hg
        · cases hg
    rw [if_pos (by simp [Region.wanted, hgn])]
    exact plainEff_sound r hid hvc hdst hK
  | unknown => simp only [hg] at hvc; exact bad_vc hvc
  | when b =>
    simp only [hg] at hvc hK
    -- whether it runs is what b says
    have hwant : (Region.wanted o (yielded ops a.tmps) = true ↔ b = true) := by
      unfold grd at hg
      split at hg
      · cases hg
      · rename_i j want hgu
        split at hg
        · rename_i t ht
          split at hg
          · rename_i p hp
            have hrel := r.tmps t
            have hy : Region.wanted o (yielded ops a.tmps) = true ↔ a.tmps.getD t undef = .bool want := by
              unfold Region.wanted
              rw [hgu]
              simp only [yielded, ht, Option.bind_some, Array.getD_eq_getD_getElem?]
              cases hv : a.tmps[t]? with
              | none => simp [undef]
              | some v => cases v <;> simp
            rw [hy]
            split at hg
            · rename_i hc
              cases hg
              have := hrel.un (fun c h => by rw [hc] at h; cases h)
              rw [hp] at this
              rw [this.val_eq]
              cases want <;> cases p <;> simp
            · rename_i q hc
              cases hg
              obtain ⟨h1, h2⟩ := hrel.cond q hc
              cases q with
              | false =>
                rw [h2 rfl]
                simp [undef]
              | true =>
                have := h1 rfl
                rw [hp] at this
                rw [this.val_eq]
                cases want <;> cases p <;> simp
          · cases hg
        · cases hg
    cases hb : b with
    | true =>
      rw [if_pos (hwant.2 hb)]
      subst hb
      refine plainEff_sound (oc := oc) r hid ?_ hdst fun a' w' h => hK a' w' ?_
      · split at hvc
        · intro p hp
          exact hvc (true = true → p) (List.mem_map_of_mem hp) rfl
        · split at hvc
          · intro p hp
            exact hvc (true = true → p) (List.mem_append_right _ (List.mem_map_of_mem hp)) rfl
          · exact hvc.tl
      · split
        · rename_i hw
          exact When.after rfl hw hdst h
        · rename_i hne
          split
          · rename_i hw' hs
            split at hvc
            · rename_i h0; exact absurd h0 hne
            · split at hvc
              · rw [selHw_true (fun p hp => hvc p (List.mem_append_left _ hp)) hs]
                exact When.after rfl rfl hdst h
              · rename_i hs2; rw [hs] at hs2; cases hs2
          · exact When.after rfl rfl hdst h
    | false =>
      rw [if_neg (fun h => by have := hwant.1 h; rw [hb] at this; cases this)]
      subst hb
      split at hvc
      · rename_i hw
        refine ⟨fun _ _ => trivial, hK _ _ ⟨kn, blk, ?_, fun _ h => .inl h⟩⟩
        simp only [hw]
        exact R.put_eff (e := { d := .opt false (plainEff P oc id σ o).d, vc := (plainEff P oc id σ o).vc.map fun p => (false = true → p) }) r hdst (.opt (fun h => by cases h) fun _ => rfl)
      · split at hvc
        · rename_i hw' hs
          refine ⟨fun _ _ => trivial, hK _ _ ⟨kn, blk, ?_, fun _ h => .inl h⟩⟩
          have r2 := R.put_eff (e := { d := .opt false (plainEff P oc id σ o).d }) r hdst (.opt (fun h => by cases h) fun _ => rfl)
          have eo : ∀ i, (σ.eff o.dst { d := .opt false (plainEff P oc id σ o).d }).obj i = (σ.eff o.dst { d := .opt false (plainEff P oc id σ o).d, hw := hw', vc := selVC σ.obj (plainEff P oc id σ o).hw ++ (plainEff P oc id σ o).vc.map fun p => (false = true → p) }).obj i := by
            intro i
            unfold St.obj St.eff
            simp only [List.nil_append]
            rw [lookA_append]
            cases hl : look hw' i with
            | none => rfl
            | some x =>
              have := selHw_false (fun p hp => hvc p (List.mem_append_left _ hp)) hs hl
              simp only
              rw [this]
              rfl
          have r3 := r2.congr (σ' := σ.eff o.dst { d := .opt false (plainEff P oc id σ o).d, hw := hw', vc := selVC σ.obj (plainEff P oc id σ o).hw ++ (plainEff P oc id σ o).vc.map fun p => (false = true → p) }) (fun t => rfl) (fun i => (eo i).symm) rfl rfl rfl
          split
          · rename_i h1; exact absurd h1 (by assumption)
          · split
            · rename_i hw2 hs2
              rw [hs] at hs2
              cases hs2
              exact r3
            · rename_i hs2
              rw [hs] at hs2
              cases hs2
        · have := hvc.hd
          cases this
def Fits (base : Nat) (w0 : World) (S0 : Env) (σ : St) (a : Act) (w : World) : Prop :=
  ∃ kn blk, R base w0 S0 σ kn blk a w ∧ ∀ i, kn i → i < σ.nx
theorem runOps_vc (ops : Array Oper) (orc : List (Nat × Orc)) (n0 : Nat) : ∀ (l : List Oper) (k : Nat) (σ : St) (vc : List Prop), ∀ p ∈ vc, p ∈ (runOps P ops orc n0 l k σ vc).2
  | [], _, _, _, _, hp => hp
  | o :: r, k, σ, vc, p, hp => by
    simp only [runOps]
    exact runOps_vc ops orc n0 r (k + 1) _ _ p (List.mem_append_left _ hp)
theorem runOps_nx (ops : Array Oper) (orc : List (Nat × Orc)) (n0 : Nat) : ∀ (l : List Oper) (k : Nat) (σ : St) (vc : List Prop), (runOps P ops orc n0 l k σ vc).1.nx = σ.nx ∧ (runOps P ops orc n0 l k σ vc).1.nt = σ.nt
  | [], _, _, _ => ⟨rfl, rfl⟩
  | o :: r, k, σ, vc => by
    simp only [runOps]
    exact runOps_nx ops orc n0 r (k + 1) _ _
theorem runOps_sound {ops : Array Oper} {orc : List (Nat × Orc)} {n0 : Nat} {Q : Exit → Act → World → Prop} : ∀ (l : List Oper) (k : Nat) (σ : St) (vc : List Prop) (kn : Nat → Prop) (blk : Nat → Option Loc) (a : Act) (w : World), (∀ j, l[j]? = ops[k + j]?) →
    R base w0 S0 σ kn blk a w → (∀ i, kn i → i < n0 + k) → AllP (runOps P ops orc n0 l k σ vc).2 →
    (∀ kn' blk' a' w', R base w0 S0 (runOps P ops orc n0 l k σ vc).1 kn' blk' a' w' → (∀ i, kn' i → i < n0 + k + l.length) → Q .normal a' w') → wpOpsIn (FW ro) m P ops Q (List.range' k l.length) a w
  | [], k, σ, vc, kn, blk, a, w, _, r, hkn, _, hQ => by
    simp only [List.length_nil, List.range'_zero, wpOpsIn]
    exact hQ kn blk a w r (by simpa using hkn)
  | o :: l, k, σ, vc, kn, blk, a, w, hl, r, hkn, hvc, hQ => by
    have h0 : ops[k]? = some o := by simpa using (hl 0).symm
    simp only [List.length_cons, List.range'_succ, wpOpsIn, h0]
    simp only [runOps] at hvc hQ
    have hid : ¬ kn (n0 + k) := fun h => by have := hkn _ h; omega
    have hme := runOps_vc (P := P) ops orc n0 l (k + 1) (σ.eff o.dst (opEff P ops (orcAt orc k) (n0 + k) σ o)) (vc ++ (bif dstOK σ.nt σ.lo o.dst then (opEff P ops (orcAt orc k) (n0 + k) σ o).vc else [False]))
    cases hd : dstOK σ.nt σ.lo o.dst with
    | false =>
      simp only [hd, cond_false] at hme hvc
      exact (hvc False (hme False (by simp))).elim
    | true =>
      simp only [hd, cond_true] at hme hvc hQ
      have hvo : AllP (opEff P ops (orcAt orc k) (n0 + k) σ o).vc := fun p hp => hvc p (hme p (List.mem_append_right _ hp))
      refine opEff_sound r hid hvo hd fun a' w' ⟨kn', blk', hR, hk⟩ => ?_
      refine runOps_sound l (k + 1) _ _ kn' blk' a' w' (fun j => by have := hl (j + 1); simpa [Nat.add_assoc, Nat.add_comm 1 j] using this) hR (fun i hi => ?_) hvc fun kn2 blk2 a2 w2 h2 hk2 => hQ kn2 blk2 a2 w2 h2 fun i hi => by have := hk2 i hi; simp only [List.length_cons]; omega
      rcases hk i hi with h | h
      · have := hkn i h; omega
      · omega
theorem region_sound {id : Nat} {ops : Array Oper} {orc : List (Nat × Orc)} {Q : Exit → Act → World → Prop} (h : Fits base w0 S0 σ a w) (hvc : AllP (regionOut P ops orc σ).2)
    (hQ : ∀ a' w', Fits base w0 S0 (regionOut P ops orc σ).1 a' w' → Q .normal a' w') : (Code.region id ops false).wpIn (FW ro) m P Q a w := by
  obtain ⟨kn, blk, r, hk⟩ := h
  refine wpIn_region ?_
  rw [List.range_eq_range', ← Array.length_toList]
  refine runOps_sound (n0 := σ.nx) ops.toList 0 { σ with nx := σ.nx + ops.size } [] kn blk a w (fun j => by simp) ?_ (by simpa using hk) hvc fun kn' blk' a' w' hR hk' => hQ a' w' ⟨kn', blk', hR, fun i hi => ?_⟩
  · exact ⟨r.below, r.xs, r.hbase, r.dfr, r.kpo, r.rnd, r.mlow, r.shp, r.size, r.tmps, r.objs, r.inj, r.ge, r.live, r.pin⟩
  · have := hk' i hi
    have e := (runOps_nx (P := P) ops orc σ.nx ops.toList 0 { σ with nx := σ.nx + ops.size } []).1
    show i < (runOps P ops orc σ.nx ops.toList 0 { σ with nx := σ.nx + ops.size } []).1.nx
    rw [e]
    simp at this ⊢; exact this
end
end Go.Abs
