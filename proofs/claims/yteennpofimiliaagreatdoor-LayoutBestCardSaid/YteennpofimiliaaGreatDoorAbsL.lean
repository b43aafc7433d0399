/- append and calls, as the abstract machine has them. -/
import Derived.Test.YteennpofimiliaaGreatDoorAbsK
set_option linter.unusedVariables false
namespace Go.Abs
open Go.RowKit
theorem zipApp_get (n : Nat) : ∀ (c d : List (Nat → DV)) (j : Nat) (g : Nat → DV), (zipApp n c d)[j]? = some g → ∃ x y, c[j]? = some x ∧ d[j]? = some y ∧ g = colApp n x y
  | [], _, j, g, h => by simp [zipApp] at h
  | _ :: _, [], j, g, h => by simp [zipApp] at h
  | x :: c, y :: d, 0, g, h => by
    simp only [zipApp, List.getElem?_cons_zero, Option.some.injEq] at h
    exact ⟨x, y, rfl, rfl, h.symm⟩
  | x :: c, y :: d, j + 1, g, h => by
    simp only [zipApp, List.getElem?_cons_succ] at h
    simpa using zipApp_get n c d j g h
theorem zipApp_len (n : Nat) : ∀ (c d : List (Nat → DV)), c.length = d.length → (zipApp n c d).length = c.length
  | [], [], _ => rfl
  | x :: c, y :: d, h => by simp only [zipApp, List.length_cons]; rw [zipApp_len n c d (by simpa using h)]
  | [], _ :: _, h => by simp at h
  | _ :: _, [], h => by simp at h
theorem colApp_spec {rd : Rd} {n m i : Nat} {c d : Nat → DV} (hi : i < n + m) : (i < n → ∀ u, RelC rd (c i) u → RelC rd (colApp n c d i) u) ∧ (n ≤ i → ∀ u, RelC rd (d (i - n)) u → RelC rd (colApp n c d i) u) := by
  unfold colApp
  refine ⟨fun h u hr => sel_sound ⟨fun _ => hr, fun e => ?_⟩, fun h u hr => sel_sound ⟨fun e => ?_, fun _ => hr⟩⟩
  · simp at e; omega
  · simp at e; omega
section
variable {P : Program} {base : Nat} {w0 w w' : World} {S0 : Env} {σ σ' : St} {kn : Nat → Prop} {blk : Nat → Option Loc} {a : Act}
theorem tSize_info {t : TypeId} {n : Nat} (h : tSize P t = some n) : ∃ i, P.info? t = some i ∧ i.size = n := by
  unfold tSize at h
  split at h
  · rename_i i hi; cases h; exact ⟨i, hi, rfl⟩
  · cases h
theorem tBytes_info {t : TypeId} {n : Nat} {i : TypeInfo} (h : tBytes P t = some n) (hi : P.info? t = some i) : i.bytes = n := by
  unfold tBytes at h
  rw [hi] at h
  simpa using h
theorem evAppend_sound (r : R base w0 S0 σ kn blk a w) {id : Nat} (hid : ¬ kn id) {t ty : TypeId} {x y : DV} {vx vy : Value} {e : Eff} (he : evAppend P σ.obj id t x y = e) (hvc : AllP e.vc)
    (hx : Rel (rdOf w base S0 blk) kn blk x vx) (hy : Rel (rdOf w base S0 blk) kn blk y vy) : Runs P base w0 S0 σ kn a w id (Builtin.append_ #[t, t] ty #[vx, vy]) e := by
  unfold evAppend at he
  split at he
  · rename_i el hu
    split at he
    · rename_i s by_ z hs hb hz
      obtain ⟨i, v0, hi, hiz, hcz⟩ := tZero_cells hz
      have hzs := (hcz (fun _ _ => True) (fun _ => True) (fun _ => none)).1
      cases hbq : (Nat.beq z.length s && Nat.ble 1 s)
      · simp only [hbq, cond_false] at he; subst he; exact bad_vc hvc
      · simp only [hbq, cond_true] at he
        simp only [Bool.and_eq_true] at hbq
        have hzl := Nat.eq_of_beq_eq_true hbq.1
        have hs0 : 0 < s := Nat.le_of_ble_eq_true hbq.2
        obtain ⟨i', hi', hsz⟩ := tSize_info hs
        rw [hi] at hi'
        cases hi'
        have hby := tBytes_info hb hi
        split at he
        · rename_i m cols2 vc2 hsrc
          cases hbc : Nat.beq cols2.length s
          · simp only [hbc, cond_false] at he; subst he; exact bad_vc hvc
          · simp only [hbc, cond_true] at he
            have hcl2 := Nat.eq_of_beq_eq_true hbc
            split at he
            · subst he
              cases hx
              obtain ⟨A, c, news, rfl, hln, hnn, hce, hon, hnw⟩ := source_sound r hsrc hvc.tl hcl2 hy
              have hid0 : blk id = none := by
                cases hbk : blk id with
                | none => rfl
                | some l => exact absurd (r.objs id _ (r.live id l hbk).choose_spec).1 hid
              obtain ⟨v', w', hrun, kn', blk', hR, hrel, hk⟩ := appendCore (q := id) (ty := ty) (n := 0) (cols := cols2) (F := cols2) r hid hu hi hiz hsz hby (by rw [hzs, hzl]) hs0 hcl2 hcl2 (.inl ⟨rfl, rfl, .inl hid0⟩)
                hln hnn hce hon hnw (fun rd i j f _ hf => ⟨fun h => by omega, fun _ => ⟨f, hf, fun u h => h⟩⟩) (by have := hvc.hd; rw [Nat.zero_add]; exact this)
              rw [Nat.zero_add] at hR hrel
              refine ⟨v', w', hrun, kn', blk', hR.congr (fun _ => rfl) (fun j => ?_) rfl, hrel, hk⟩
              show ((σ.setObj id (some (.row m cols2))).obj j) = _
              rw [St.obj_setObj, St.obj_setObj, St.obj_setObj]
              by_cases e : id = j <;> simp [e]
            · rename_i s' q len
              split at he
              · rename_i n cols hob
                cases hbb : (Nat.beq s s' && Nat.beq cols.length s)
                · simp only [hbb, cond_false] at he; subst he; exact bad_vc hvc
                · simp only [hbb, cond_true] at he
                  simp only [Bool.and_eq_true] at hbb
                  obtain rfl := Nat.eq_of_beq_eq_true hbb.1
                  have hcl := Nat.eq_of_beq_eq_true hbb.2
                  have hisr : isRow σ.obj q s = true := by unfold isRow; rw [hob]; exact hbb.2
                  obtain ⟨hkq, hrow⟩ := row_val r hisr hx
                  obtain ⟨_, hor⟩ := r.objs _ _ hob
                  have dest : len ≤ n → (vx = .slice none 0 0 ∧ len = 0 ∧ (blk q = none ∨ blk q = some .nil)) ∨ ∃ g C cv T, vx = .slice (some ⟨g, 0, none⟩) len C ∧ len ≤ C ∧ blk q = some (.at_ g C) ∧ w.heap[g]? = some (.cells cv T (0, 0)) ∧ cv.size = C * s ∧
                      ∀ (i j : Nat) (f : Nat → DV), i < len → cols[j]? = some f → ∃ u, cv[i * s + j]? = some u ∧ oneV u = true ∧ RelC (rdOf w base S0 blk) (f i) u := by
                    intro hln
                    rcases hrow with ⟨h1, _, h2, h3⟩ | ⟨g, C, h1, h2, h3⟩ | ⟨h1, _⟩
                    rotate_left 2
                    · omega
                    · exact .inl ⟨h1, h2, .inr h3⟩
                    · rcases hor with ⟨h4, _⟩ | ⟨g', C', cv, T, h4, hh, hsz', hn', hrel⟩
                      · rw [h3] at h4; cases h4
                      · rw [h3] at h4
                        cases h4
                        refine .inr ⟨g, C, cv, T, by rw [h1]; simp, by omega, h3, hh, by rw [hsz', hcl], fun i j f hi hj => ?_⟩
                        obtain ⟨u, hu, ho, hr⟩ := hrel i j f (by omega) hj
                        rw [hcl] at hu
                        exact ⟨u, hu, ho, hr⟩
                  · subst he
                    obtain ⟨A, c, news, rfl, hln, hnn, hce, hon, hnw⟩ := source_sound r hsrc hvc.tl.tl hcl2 hy
                    obtain ⟨v', w', hrun, kn', blk', hR, hrel, hk⟩ := appendCore (q := q) (ty := ty) (n := len) (cols := cols) (F := zipApp len cols cols2) r hid hu hi hiz hsz hby (by rw [hzs, hzl]) hs0 (by rw [zipApp_len _ _ _ (by omega), hcl]) hcl (dest hvc.hd)
                      hln hnn hce hon hnw (fun rd i j f hi' hf => by
                        obtain ⟨c', d', h1, h2, rfl⟩ := zipApp_get _ _ _ _ _ hf
                        obtain ⟨k1, k2⟩ := colApp_spec (rd := rd) (c := c') (d := d') hi'
                        exact ⟨fun h => ⟨c', h1, k1 h⟩, fun h => ⟨d', h2, k2 h⟩⟩) hvc.tl.hd
                    exact ⟨v', w', hrun, kn', blk', hR, hrel, hk⟩
              · subst he; exact bad_vc hvc
            · subst he; exact bad_vc hvc
        · subst he; exact bad_vc hvc
    · subst he; exact bad_vc hvc
  · subst he; exact bad_vc hvc
theorem lend_rd (r : R base w0 S0 σ kn blk a w) {d d' : DV} {vc : List Prop} {v : Value} {rd' : Rd} (hmono : ∀ a u, rdOf w base S0 blk a u → rd' a u)
    (hown : ∀ s id off len g C, d = .row s id off len → blk id = some (.at_ g C) → ∀ ad u, ad.block = g → w.cell? ad = some u → rd' ad u) (h : lend σ.obj d = some (d', vc)) (hvc : AllP vc) (hv : Rel (rdOf w base S0 blk) kn blk d v) :
    RelC rd' d' v ∧ ((∀ s id off len, d ≠ .row s id off len) → RelC (rdOf w base S0 blk) d' v) := by
  have open_ : ∀ {d v}, RelC (rdOf w base S0 blk) d v → RelC rd' d v := fun h => h.mono hmono (fun _ h => h) fun _ _ h => h.elim
  unfold lend at h
  split at h
  · rename_i s id off len
    refine ⟨?_, fun hne => absurd rfl (hne s id off len)⟩
    split at h
    · rename_i n cols hob
      cases hb : Nat.beq cols.length s
      · simp [hb] at h
      · simp only [hb, cond_true] at h
        have hcs := Nat.eq_of_beq_eq_true hb
        have hisr : isRow σ.obj id s = true := by unfold isRow; rw [hob]; exact hb
        have gen : ∀ colsx, colsx = cols.map (fun c i => c (i + off)) → len + off ≤ n → RelC rd' (.lst len colsx) v := by
          intro colsx hcx hle
          have hlx : colsx.length = s := by rw [hcx]; simpa using hcs
          obtain ⟨_, ⟨rfl, _, rfl, _⟩ | ⟨g, C, rfl, hC, hl⟩ | ⟨_, rfl, p, c, rfl⟩⟩ := row_val r hisr hv
          rotate_left 2
          · exact .lst (fun _ _ => undef) (Nat.zero_le _) (fun i j f hi => by omega) (fun h => by omega) (fun i j f hi => by omega) fun i j f hi => by omega
          · exact .lst (fun _ _ => undef) (Nat.le_refl _) (fun i j f hi => by omega) (fun h => by omega) (fun i j f hi => by omega) fun i j f hi => by omega
          · obtain ⟨_, hor⟩ := r.objs _ _ hob
            rcases hor with ⟨hln, _⟩ | ⟨g', C', cv, T, hl', hh, hsz, hn', hrel⟩
            · rw [hln] at hl; cases hl
            · rw [hl] at hl'
              cases hl'
              have key : ∀ (i j : Nat) (f : Nat → DV), i < len → colsx[j]? = some f → ∃ u, w.cell? (Addr.add ⟨g, off * s, none⟩ (i * colsx.length + j)) = some u ∧ oneV u = true ∧ RelC (rdOf w base S0 blk) (f i) u := by
                intro i j f hi hf
                rw [hcx, List.getElem?_map] at hf
                cases hcj : cols[j]? with
                | none => simp [hcj] at hf
                | some f' =>
                  simp only [hcj, Option.map_some, Option.some.injEq] at hf
                  subst hf
                  obtain ⟨u, hu, ho, hre⟩ := hrel (i + off) j f' (by omega) hcj
                  rw [hcs] at hu
                  refine ⟨u, ?_, ho, hre⟩
                  rw [add_off, hlx]
                  simp only [World.cell?, hh]
                  rw [show off * s + (i * s + j) = (i + off) * s + j by rw [Nat.add_mul]; omega, hu]
                  rfl
              have val : ∀ (i j : Nat) (f : Nat → DV), i < len → colsx[j]? = some f → w.cell? (Addr.add ⟨g, off * s, none⟩ (i * colsx.length + j)) = some ((w.cell? (Addr.add ⟨g, off * s, none⟩ (i * colsx.length + j))).getD undef) := by
                intro i j f hi hf
                obtain ⟨u, hu, _⟩ := key i j f hi hf
                rw [hu]; rfl
              refine .lst (fun i j => (w.cell? (Addr.add ⟨g, off * s, none⟩ (i * colsx.length + j))).getD undef) (by omega) (fun i j f hi hf => ⟨_, rfl, hown _ _ _ _ _ _ rfl hl _ _ (by rw [add_off]) (val i j f hi hf)⟩) (fun _ h => by cases h) (fun i j f hi hf => ?_) fun i j f hi hf => ?_
              · obtain ⟨u, hu, ho, _⟩ := key i j f hi hf
                rw [hu]; exact ho
              · obtain ⟨u, hu, _, hr⟩ := key i j f hi hf
                rw [hu]; exact open_ hr
        simp only [Option.some.injEq, Prod.mk.injEq] at h
        obtain ⟨rfl, rfl⟩ := h
        exact gen _ rfl hvc.one
    · cases h
  · cases hc : d.closed
    · simp [hc] at h
    · simp only [hc, cond_true, Option.some.injEq, Prod.mk.injEq] at h
      obtain ⟨rfl, rfl⟩ := h
      have := hv.close hc
      exact ⟨open_ this, fun _ => this⟩
theorem lend_sound (r : R base w0 S0 σ kn blk a w) {d d' : DV} {vc : List Prop} {v : Value} (h : lend σ.obj d = some (d', vc)) (hvc : AllP vc) (hv : Rel (rdOf w base S0 blk) kn blk d v) :
    RelC (rdRes w S0.S base) d' v ∧ ((∀ s id off len, d ≠ .row s id off len) → RelC (rdOf w base S0 blk) d' v) :=
  lend_rd r (fun a u ⟨x, _, y⟩ => ⟨x, y⟩) (fun s id off len g C _ hl ad u e hu => ⟨hu, .inr (e ▸ (r.ge _ _ _ hl).1)⟩) h hvc hv
theorem lends_rd (r : R base w0 S0 σ kn blk a w) {rd' : Rd} (hmono : ∀ a u, rdOf w base S0 blk a u → rd' a u) : ∀ {ds es : List DV} {vc : List Prop} {vs : List Value},
    (∀ s id off len g C, .row s id off len ∈ ds → blk id = some (.at_ g C) → ∀ ad u, ad.block = g → w.cell? ad = some u → rd' ad u) → lends σ.obj ds = some (es, vc) → AllP vc → vs.length = ds.length →
    (∀ (j : Nat) (d : DV) (v : Value), ds[j]? = some d → vs[j]? = some v → Rel (rdOf w base S0 blk) kn blk d v) →
    ∀ (j : Nat) (d : DV) (v : Value), es[j]? = some d → vs[j]? = some v → RelC rd' d v
  | [], es, vc, vs, _, h, _, _, _ => by
    simp only [lends, Option.some.injEq, Prod.mk.injEq] at h
    obtain ⟨rfl, rfl⟩ := h
    simp
  | d :: ds, es, vc, vs, hown, h, hvc, hl, hv => by
    simp only [lends] at h
    split at h
    · rename_i e vc1 es1 vcs1 h1 h2
      simp only [Option.some.injEq, Prod.mk.injEq] at h
      obtain ⟨rfl, rfl⟩ := h
      obtain ⟨hv1, hv2⟩ := AllP.app hvc
      match vs, hl with
      | v :: vs, hl =>
        have k1 := (lend_rd r hmono (fun s id off len g C e => hown s id off len g C (by rw [e]; exact List.mem_cons_self)) h1 hv1 (hv 0 d v rfl rfl)).1
        have l1 := lends_rd r hmono (fun s id off len g C hm => hown s id off len g C (List.mem_cons_of_mem _ hm)) h2 hv2 (by simpa using hl) (fun j d v hd hvv => hv (j + 1) d v hd hvv)
        intro j d' v' hd hvv
        cases j with
        | zero => simp at hd hvv; subst hd hvv; exact k1
        | succ j => exact l1 j d' v' (by simpa using hd) (by simpa using hvv)
    · cases h
def rowIn (i : Nat) : List DV → Bool
  | [] => false
  | .row _ id _ _ :: r => decide (id = i) || rowIn i r
  | _ :: r => rowIn i r
theorem rowIn_mem {i s off len : Nat} : ∀ {l : List DV}, .row s i off len ∈ l → rowIn i l = true
  | d :: l, h => by
    rcases List.mem_cons.1 h with rfl | h
    · simp [rowIn]
    · have := rowIn_mem h
      cases d <;> simp [rowIn, this]
theorem look_drop {h : List (Nat × Option AObj)} {i : Nat} : ∀ {l : List DV}, look (dropRows l ++ h) i = if rowIn i l = true then some none else look h i
  | [] => by simp [dropRows, rowIn]
  | d :: l => by
    have ih := look_drop (h := h) (i := i) (l := l)
    cases d with
    | row s id off len =>
      simp only [dropRows, List.cons_append, look_cons, rowIn, Bool.or_eq_true, decide_eq_true_eq]
      by_cases e : id = i
      · rw [if_pos e, if_pos (.inl e)]
      · rw [if_neg e, ih]
        by_cases h2 : rowIn i l = true
        · rw [if_pos h2, if_pos (.inr h2)]
        · rw [if_neg h2, if_neg (fun h => h.elim e h2)]
    | _ => exact ih
theorem R.dropRows (r : R base w0 S0 σ kn blk a w) (l : List DV) : ∃ blk', R base w0 S0 { σ with h := Abs.dropRows l ++ σ.h } kn blk' a w ∧ (∀ id x, blk' id = some x → blk id = some x) ∧ ∀ s id off len, .row s id off len ∈ l → blk' id = none := by
  refine ⟨fun id => if rowIn id l = true then none else blk id, ?_, fun id x e => ?_, fun s id off len hm => if_pos (rowIn_mem hm)⟩
  · have c : Chg w w kn kn blk (fun id => if rowIn id l = true then none else blk id) := by
      refine ⟨Nat.le_refl _, fun _ _ _ => rfl, fun id g C e => ?_, fun _ h => h, fun id x _ e => ?_⟩
      · split at e
        · cases e
        · exact .inl ⟨id, C, e⟩
      · split at e
        · cases e
        · exact e
    refine ⟨r.below, r.hbase, r.dfr, r.kpo, fun d v h => c.rel (r.shp d v h), r.size, fun t => c.rel (r.tmps t), fun id o ho => ?_, fun i i' g C C' e1 e2 => ?_, fun i g C e => ?_, fun i x e => ?_⟩
    · unfold St.obj at ho
      simp only [look_drop] at ho
      split at ho
      · rename_i o' hh
        split at hh
        · cases hh; cases ho
        · rename_i hne
          obtain ⟨k1, k2⟩ := r.objs id o (by unfold St.obj; rw [hh]; exact ho)
          refine ⟨k1, ?_⟩
          rw [if_neg hne]
          exact c.obj k2 fun _ _ _ => rfl
      · cases ho
    · split at e1
      · cases e1
      · split at e2
        · cases e2
        · exact r.inj _ _ _ _ _ e1 e2
    · split at e
      · cases e
      · exact r.ge _ _ _ e
    · split at e
      · cases e
      · rename_i hne
        obtain ⟨o, ho⟩ := r.live i x e
        refine ⟨o, ?_⟩
        unfold St.obj at ho ⊢
        simp only [look_drop, if_neg hne]
        exact ho
  · have e : (if rowIn id l = true then none else blk id) = some x := e
    split at e
    · cases e
    · exact e
theorem lends_sound (r : R base w0 S0 σ kn blk a w) : ∀ {ds es : List DV} {vc : List Prop} {vs : List Value}, lends σ.obj ds = some (es, vc) → AllP vc → vs.length = ds.length →
    (∀ (j : Nat) (d : DV) (v : Value), ds[j]? = some d → vs[j]? = some v → Rel (rdOf w base S0 blk) kn blk d v) →
    es.length = ds.length ∧ (∀ (j : Nat) (d : DV) (v : Value), es[j]? = some d → vs[j]? = some v → RelC (rdArg w (fun _ => True)) d v) ∧
      (hasRow ds = false → ∀ (j : Nat) (d : DV) (v : Value), es[j]? = some d → vs[j]? = some v → RelC (rdOf w base S0 blk) d v)
  | [], es, vc, vs, h, _, _, _ => by
    simp only [lends, Option.some.injEq, Prod.mk.injEq] at h
    obtain ⟨rfl, rfl⟩ := h
    exact ⟨rfl, by simp, by simp⟩
  | d :: ds, es, vc, vs, h, hvc, hl, hv => by
    simp only [lends] at h
    split at h
    · rename_i e vc1 es1 vcs1 h1 h2
      simp only [Option.some.injEq, Prod.mk.injEq] at h
      obtain ⟨rfl, rfl⟩ := h
      obtain ⟨hv1, hv2⟩ := AllP.app hvc
      match vs, hl with
      | v :: vs, hl =>
        obtain ⟨k1, k2⟩ := lend_sound r h1 hv1 (hv 0 d v rfl rfl)
        obtain ⟨l1, l2, l3⟩ := lends_sound r h2 hv2 (by simpa using hl) (fun j d v hd hvv => hv (j + 1) d v hd hvv)
        refine ⟨by simp [l1], fun j d' v' hd hvv => ?_, fun hrow j d' v' hd hvv => ?_⟩
        · cases j with
          | zero => simp at hd hvv; subst hd hvv; exact k1.mono (fun a u ⟨x, _⟩ => ⟨x, trivial⟩) (fun _ h => h) fun _ _ h => h.elim
          | succ j => exact l2 j d' v' (by simpa using hd) (by simpa using hvv)
        · have hnr : ∀ s id off len, d ≠ .row s id off len := by
            rintro s id off len rfl
            simp [hasRow] at hrow
          have hrow' : hasRow ds = false := by
            cases d <;> simp only [hasRow] at hrow <;> first | exact hrow | cases hrow
          cases j with
          | zero => simp at hd hvv; subst hd hvv; exact k2 hnr
          | succ j => exact l3 hrow' j d' v' (by simpa using hd) (by simpa using hvv)
    · cases h
theorem plain_go : ∀ {cs : List DV}, DV.plain.go cs = true → ∀ d ∈ cs, d.plain = true
  | [], _, d, hd => by cases hd
  | c :: r, h, d, hd => by
    simp only [DV.plain.go] at h
    cases hc : c.plain
    · simp [hc] at h
    · simp only [hc, cond_true] at h
      rcases List.mem_cons.1 hd with rfl | hd
      · exact hc
      · exact plain_go h d hd
theorem Rel.plain {rd rd' : Rd} {kn : Nat → Prop} {blk : Nat → Option Loc} {d : DV} {v : Value} (h : Rel rd kn blk d v) : d.plain = true → RelC rd' d v := by
  induction h with
  | val v => intro _; exact .val v
  | agg hs _ ih => intro hc; exact .agg hs fun j d u hd hu => ih j d u hd hu (plain_go hc d (List.mem_of_getElem? hd))
  | tup hs _ ih => intro hc; exact .tup hs fun j d u hd hu => ih j d u hd hu (plain_go hc d (List.mem_of_getElem? hd))
  | lst => intro hc; simp [DV.plain] at hc
  | cptr => intro hc; simp [DV.plain] at hc
  | clo => intro hc; simp [DV.plain] at hc
  | ptr => intro hc; simp [DV.plain] at hc
  | rptr => intro hc; simp [DV.plain] at hc
  | row => intro hc; simp [DV.plain] at hc
  | opt => intro hc; simp [DV.plain] at hc
  | any => intro hc; simp [DV.plain] at hc
theorem cells_closed (r : R base w0 S0 σ kn blk a w) {id j : Nat} {cs : List DV} {v : Value} (hob : σ.obj id = some (.box cs)) (hc : DV.closed.go cs = true) (hv : Rel (rdOf w base S0 blk) kn blk (.ptr id 0) v) :
    RelC (rdArg w fun _ => True) (.cptr cs) v := by
  obtain ⟨g, C, cv, T, hbk, hh, hsz, hr⟩ := (r.objs _ _ hob).2
  cases hv with
  | ptr hk hv h =>
    rw [h g C hbk]
    have cell : ∀ (j : Nat) (d : DV), cs[j]? = some d → ∃ u, cv[j]? = some u ∧ w.cell? (Addr.add ⟨g, 0, none⟩ j) = some u := fun j d hd => by
      have h2 : j < cv.size := by have := (List.getElem?_eq_some_iff.1 hd).1; omega
      refine ⟨_, Array.getElem?_eq_getElem h2, ?_⟩
      rw [add_off, Nat.zero_add]
      simp only [World.cell?, hh, Array.getElem?_eq_getElem h2]
      rfl
    refine .cptr (fun j => (w.cell? (Addr.add ⟨g, 0, none⟩ j)).getD undef) (fun j d hd => ?_) fun j d hd => ?_
    · obtain ⟨u, h1, h3⟩ := cell j d hd
      exact ⟨by rw [h3]; rfl, trivial⟩
    · obtain ⟨u, h1, h3⟩ := cell j d hd
      rw [h3]
      exact ((hr j d u hd h1).close (closed_go hc d (List.mem_of_getElem? hd))).mono (fun _ _ h => ⟨h.1, trivial⟩) (fun _ h => h) fun _ _ h => h.elim
theorem lendP_sound (r : R base w0 S0 σ kn blk a w) {d d' : DV} {vc : List Prop} {v : Value} (h : lendP σ.obj d = some (d', vc)) (hvc : AllP vc) (hv : Rel (rdOf w base S0 blk) kn blk d v) : RelC (rdArg w fun _ => True) d' v := by
  unfold lendP at h
  split at h
  · rename_i id
    split at h
    · rename_i cs hob
      cases hc : DV.closed.go cs
      · simp [hc] at h
      · simp only [hc, cond_true, Option.some.injEq, Prod.mk.injEq] at h
        obtain ⟨rfl, rfl⟩ := h
        exact cells_closed (j := 0) r hob hc hv
    · cases h
  · exact (lend_sound r h hvc hv).1.mono (fun a u ⟨x, _⟩ => ⟨x, trivial⟩) (fun _ h => h) fun _ _ h => h.elim
theorem lendPL_sound (r : R base w0 S0 σ kn blk a w) : ∀ {ds es : List DV} {vc : List Prop}, lendPL σ.obj ds = some (es, vc) → AllP vc → es.length = ds.length ∧
    ∀ (j : Nat) (d e : DV) (v : Value), ds[j]? = some d → es[j]? = some e → Rel (rdOf w base S0 blk) kn blk d v → RelC (rdArg w fun _ => True) e v
  | [], es, vc, h, _ => by
    simp only [lendPL, Option.some.injEq, Prod.mk.injEq] at h
    obtain ⟨rfl, rfl⟩ := h
    exact ⟨rfl, by simp⟩
  | d :: ds, es, vc, h, hvc => by
    simp only [lendPL] at h
    split at h
    · rename_i e vc1 es1 vcs1 h1 h2
      simp only [Option.some.injEq, Prod.mk.injEq] at h
      obtain ⟨rfl, rfl⟩ := h
      obtain ⟨k1, k2⟩ := AllP.app hvc
      obtain ⟨l1, l2⟩ := lendPL_sound r h2 k2
      refine ⟨by simp [l1], fun j d' e' v hd he hv => ?_⟩
      cases j with
      | zero =>
        simp only [List.getElem?_cons_zero, Option.some.injEq] at hd he
        subst hd he
        exact lendP_sound r h1 k1 hv
      | succ j => exact l2 j d' e' v (by simpa using hd) (by simpa using he) hv
    · cases h
theorem lendB_sound (r : R base w0 S0 σ kn blk a w) {d d' : DV} {vc : List Prop} {v : Value} (h : lendB σ.obj d = some (d', vc)) (hvc : AllP vc) (hv : Rel (rdOf w base S0 blk) kn blk d v) : RelC (rdArg w fun _ => True) d' v := by
  unfold lendB at h
  split at h
  · rename_i f cs
    split at h
    · rename_i es vc' hl
      simp only [Option.some.injEq, Prod.mk.injEq] at h
      obtain ⟨rfl, rfl⟩ := h
      obtain ⟨l1, l2⟩ := lendPL_sound r hl hvc
      cases hv with
      | clo hs hr =>
        refine .clo (by rw [l1]; exact hs) fun j d u hd hu => ?_
        have hlt := (List.getElem?_eq_some_iff.1 hd).1
        have hd' := List.getElem?_eq_getElem (l1 ▸ hlt)
        exact l2 j _ d u hd' hd (hr j _ u hd' hu)
    · cases h
  · rename_i cs
    split at h
    · rename_i es vc' hl
      simp only [Option.some.injEq, Prod.mk.injEq] at h
      obtain ⟨rfl, rfl⟩ := h
      obtain ⟨l1, l2⟩ := lendPL_sound r hl hvc
      cases hv with
      | agg hs hr =>
        refine .agg (by rw [l1]; exact hs) fun j d u hd hu => ?_
        have hlt := (List.getElem?_eq_some_iff.1 hd).1
        have hd' := List.getElem?_eq_getElem (l1 ▸ hlt)
        exact l2 j _ d u hd' hd (hr j _ u hd' hu)
    · cases h
  · exact lendP_sound r h hvc hv
theorem lendBs_sound (r : R base w0 S0 σ kn blk a w) : ∀ {ds es : List DV} {vc : List Prop} {vs : List Value}, lendBs σ.obj ds = some (es, vc) → AllP vc → vs.length = ds.length →
    (∀ (j : Nat) (d : DV) (v : Value), ds[j]? = some d → vs[j]? = some v → Rel (rdOf w base S0 blk) kn blk d v) →
    es.length = ds.length ∧ ∀ (j : Nat) (d : DV) (v : Value), es[j]? = some d → vs[j]? = some v → RelC (rdArg w (fun _ => True)) d v
  | [], es, vc, vs, h, _, _, _ => by
    simp only [lendBs, Option.some.injEq, Prod.mk.injEq] at h
    obtain ⟨rfl, rfl⟩ := h
    exact ⟨rfl, by simp⟩
  | d :: ds, es, vc, vs, h, hvc, hl, hv => by
    simp only [lendBs] at h
    split at h
    · rename_i e vc1 es1 vcs1 h1 h2
      simp only [Option.some.injEq, Prod.mk.injEq] at h
      obtain ⟨rfl, rfl⟩ := h
      obtain ⟨hv1, hv2⟩ := AllP.app hvc
      match vs, hl with
      | v :: vs, hl =>
        have k1 := lendB_sound r h1 hv1 (hv 0 d v rfl rfl)
        obtain ⟨l1, l2⟩ := lendBs_sound r h2 hv2 (by simpa using hl) (fun j d v hd hvv => hv (j + 1) d v hd hvv)
        refine ⟨by simp [l1], fun j d' v' hd hvv => ?_⟩
        cases j with
        | zero => simp at hd hvv; subst hd hvv; exact k1
        | succ j => exact l2 j d' v' (by simpa using hd) (by simpa using hvv)
    · cases h
theorem R.adopt (r : R base w0 S0 σ kn blk a w) (hb : Below w.heap.size w w') {id : Nat} {l : Loc} {n : Nat} {cols : List (Nat → DV)} (hid : ¬ kn id) (hl : ∀ g C, l = .at_ g C → w.heap.size ≤ g ∧ g < w'.heap.size)
    (ho : (l = .nil ∧ n = 0) ∨ ∃ g C cv T, l = .at_ g C ∧ w'.heap[g]? = some (.cells cv T (0, 0)) ∧ cv.size = C * cols.length ∧ n ≤ C ∧
      ∀ (i j : Nat) (f : Nat → DV), i < n → cols[j]? = some f → ∃ u, cv[i * cols.length + j]? = some u ∧ oneV u = true ∧ RelC (fun ad u => w'.cell? ad = some u ∧ ad.block ≠ g ∧ (∀ id g C, blk id = some (.at_ g C) → ad.block ≠ g) ∧ (S0.S ad.block ∨ base ≤ ad.block)) (f i) u) :
    R base w0 S0 (σ.setObj id (some (.row n cols))) (fun i => kn i ∨ i = id) (fun i => if i = id then some l else blk i) a w' := by
  have c : Chg w w' kn (fun i => kn i ∨ i = id) blk (fun i => if i = id then some l else blk i) := by
    refine ⟨hb.size, fun k hk _ => hb.block k hk, fun i g C' e => ?_, fun _ h => .inl h, fun i x hi e => ?_⟩
    · split at e
      · cases e; exact .inr (hl _ _ rfl).1
      · exact .inl ⟨i, C', e⟩
    · have hne : i ≠ id := fun e' => hid (e' ▸ hi)
      rw [if_neg hne] at e
      exact e
  refine ⟨r.below.trans (hb.mono r.hbase), Nat.le_trans r.hbase hb.size, ⟨r.dfr.1, fun d hd => let ⟨D, e, hD, hh⟩ := r.dfr.2 d hd; ⟨D, e, hD, by rw [hb.block D (heap_lt hh)]; exact hh⟩⟩, r.kpo.trans (keeps_below hb), fun d v h => c.rel (r.shp d v h), r.size, fun t => c.rel (r.tmps t), fun i o' h => ?_, fun i i' g C1 C2 h1 h2 => ?_, fun i g C' e => ?_, fun i x e => ?_⟩
  · rw [St.obj_setObj] at h
    by_cases e : id = i
    · subst e
      simp only [if_true, Option.some.injEq] at h
      subst h
      refine ⟨.inr rfl, ?_⟩
      simp only [if_true]
      rcases ho with ⟨h1, h2⟩ | ⟨g, C, cv, T, h1, h2, h3, h4, h5⟩
      · exact .inl ⟨by rw [h1], h2⟩
      · refine .inr ⟨g, C, cv, T, by rw [h1], h2, h3, h4, fun i j f hi hj => ?_⟩
        obtain ⟨u, hu, ho', hr⟩ := h5 i j f hi hj
        refine ⟨u, hu, ho', hr.mono (fun ad u ⟨k1, k2, k3, k4⟩ => ⟨k1, fun i' g' C' e => ?_, k4⟩) (fun _ h => h) fun _ _ h => h.elim⟩
        have e : (if i' = id then some l else blk i') = some (.at_ g' C') := e
        split at e
        · rw [h1] at e; cases e; exact k2
        · exact k3 _ _ _ e
    · rw [if_neg e] at h
      obtain ⟨k1, k2⟩ := r.objs i o' h
      refine ⟨.inl k1, ?_⟩
      rw [if_neg (fun e' => e e'.symm)]
      exact c.obj k2 fun g C' e' => hb.block g (r.ge i g C' e').2
  · split at h1 <;> split at h2
    · rename_i e1 e2; rw [e1, e2]
    · cases h1; have := (r.ge _ _ _ h2).2; have := (hl _ _ rfl).1; omega
    · cases h2; have := (r.ge _ _ _ h1).2; have := (hl _ _ rfl).1; omega
    · exact r.inj _ _ _ _ _ h1 h2
  · split at e
    · cases e; have := r.hbase; have := hl _ _ rfl; exact ⟨by omega, this.2⟩
    · have := r.ge _ _ _ e; have := hb.size; exact ⟨(r.ge _ _ _ e).1, by omega⟩
  · rw [St.obj_setObj]
    by_cases e' : id = i
    · exact ⟨_, by rw [if_pos e']⟩
    · rw [if_neg (fun h => e' h.symm)] at e
      rw [if_neg e']
      exact r.live i x e
theorem R.reObj (r : R base w0 S0 σ kn blk a w) {id : Nat} {o : AObj} (hk : kn id) (ho : ObjRel w (rdOf w base S0 blk) kn blk (blk id) o) : R base w0 S0 (σ.setObj id (some o)) kn blk a w := by
  refine ⟨r.below, r.hbase, r.dfr, r.kpo, r.shp, r.size, r.tmps, fun i o' h => ?_, r.inj, r.ge, fun i l e => ?_⟩
  · rw [St.obj_setObj] at h
    by_cases e : id = i
    · subst e
      simp only [if_true, Option.some.injEq] at h
      subst h
      exact ⟨hk, ho⟩
    · rw [if_neg e] at h
      exact r.objs i o' h
  · rw [St.obj_setObj]
    by_cases e' : id = i
    · exact ⟨o, by simp [e']⟩
    · rw [if_neg e']; exact r.live i l e
theorem intCol_val {c : Nat → DV} (h : intCol c) (i : Nat) : c i = .val (.int .i64 (iOfC (c i))) := by
  have := h i
  split at this
  · rename_i n e
    rw [e]; rfl
  · exact this.elim
theorem R.glob (r : R base w0 S0 σ kn blk a w) : GlobOK (rdOf w base S0 blk) := fun d v hd => (r.shp d v (List.mem_append_left _ hd)).close (by
  obtain ⟨cs, e⟩ := shG_cptr hd
  rw [e]; rfl)
theorem evCall_sound (r : R base w0 S0 σ kn blk a w) {f : FuncId} {oc : Orc} {args : List DV} {vs : List Value} {e : Eff} {id : Nat} (hid : ¬ kn id) (he : evCall P oc id σ.obj f args = e) (hvc : AllP e.vc) (hl : vs.length = args.length)
    (hv : ∀ (j : Nat) (d : DV) (v : Value), args[j]? = some d → vs[j]? = some v → Rel (rdOf w base S0 blk) kn blk d v) :
    Callable P f ∧ Calls P f vs.toArray w fun en w' => ∃ v kn' blk', en = .returned v ∧ R base w0 S0 (σ.effH e) kn' blk' a w' ∧ Rel (rdOf w' base S0 blk') kn' blk' e.d v ∧ ∀ i, kn' i → kn i ∨ i = id := by
  have effH0 : ∀ d vc, σ.effH { d, vc } = σ := fun _ _ => rfl
  unfold evCall at he
  split at he
  · rename_i g
    cases hbx : hasBox args
    case true =>
      simp only [hbx, cond_true] at he
      split at he
      · rename_i es vc hls
        generalize g es = d at he
        cases hp : d.plain
        · simp only [hp, cond_false] at he; subst he; exact bad_vc hvc
        · simp only [hp, cond_true] at he
          subst he
          obtain ⟨h1, h2⟩ := AllP.app hvc
          obtain ⟨l1, l2⟩ := lendBs_sound r hls h1 hl hv
          have hc := h2.one.2 (fun _ => True) w vs.toArray (by simp [hl, l1]) (fun j d v hd hvv => l2 j d v hd (by simpa using hvv)) (r.glob.mono fun ad u ⟨x, _⟩ => ⟨x, trivial⟩)
          exact ⟨h2.one.1, hc.mono fun en w' ⟨v, hen, hrel, hb⟩ => ⟨v, kn, blk, hen, r.world hb, relC_open (hrel.plain hp), fun _ h => .inl h⟩⟩
      · subst he; exact bad_vc hvc
    simp only [hbx, cond_false] at he
    split at he
    case h_2 => subst he; exact bad_vc hvc
    rename_i es vc hls
    unfold callEff at he
    generalize g es = d at he
    cases hrow : hasRow args
    · simp only [hrow, cond_false] at he
      cases hcl : d.closed
      · simp only [hcl, cond_false] at he; subst he; exact bad_vc hvc
      · simp only [hcl, cond_true] at he
        subst he
        obtain ⟨h1, h2⟩ := AllP.app hvc
        obtain ⟨l1, _, l3⟩ := lends_sound r hls h1 hl hv
        have hc := h2.one.2 (fun k => k < w.heap.size ∧ (∀ id g C, blk id = some (.at_ g C) → k ≠ g) ∧ (S0.S k ∨ base ≤ k)) w vs.toArray (by simp [hl, l1])
          (fun j d v hd hvv => (l3 hrow j d v hd (by simpa using hvv)).mono (fun ad u ⟨x, y, z⟩ => ⟨x, cell_lt x, y, z⟩) (fun _ h => h) fun _ _ h => h.elim) (r.glob.mono fun ad u ⟨x, y, z⟩ => ⟨x, cell_lt x, y, z⟩)
        refine ⟨h2.one.1, hc.mono fun en w' ⟨v, hen, hrel, hb⟩ => ⟨v, kn, blk, hen, r.world hb, relC_open (hrel.mono (fun ad u ⟨x, y⟩ => ⟨x, ?_, ?_⟩) (fun _ h => h) fun _ _ h => h.elim), fun _ h => .inl h⟩⟩
        · intro id g C hbk
          rcases y with ⟨_, y, _⟩ | y
          · exact y id g C hbk
          · have := (r.ge id g C hbk).2; omega
        · rcases y with ⟨_, _, y⟩ | y
          · exact y
          · have := r.hbase; exact .inr (by omega)
    · simp only [hrow, cond_true] at he
      cases hp : d.plain
      · simp only [hp, cond_false] at he
        cases hcl : d.closed
        · simp only [hcl, cond_false] at he; subst he; exact bad_vc hvc
        · simp only [hcl, cond_true] at he
          subst he
          obtain ⟨h1, h2⟩ := AllP.app hvc
          obtain ⟨l1, _, _⟩ := lends_sound r hls h1 hl hv
          obtain ⟨blk', r', hsub, hgone⟩ := r.dropRows args
          have l3 := lends_rd (rd' := rdOf w base S0 blk') r (fun ad u ⟨x, y, z⟩ => ⟨x, fun id g C e => y id g C (hsub _ _ e), z⟩)
            (fun s id off len g C hm hbk ad u e hu => ⟨hu, fun id' g' C' e' hg => (by
              have e3 := hsub _ _ e'
              rw [← hg, e] at e3
              have := r.inj _ _ _ _ _ e3 hbk
              rw [this, hgone _ _ _ _ hm] at e'
              cases e'), .inr (e ▸ (r.ge _ _ _ hbk).1)⟩) hls h1 hl hv
          have hc := h2.one.2 (fun k => k < w.heap.size ∧ (∀ id g C, blk' id = some (.at_ g C) → k ≠ g) ∧ (S0.S k ∨ base ≤ k)) w vs.toArray (by simp [hl, l1])
            (fun j d v hd hvv => (l3 j d v hd (by simpa using hvv)).mono (fun ad u ⟨x, y, z⟩ => ⟨x, cell_lt x, y, z⟩) (fun _ h => h) fun _ _ h => h.elim) (r'.glob.mono fun ad u ⟨x, y, z⟩ => ⟨x, cell_lt x, y, z⟩)
          refine ⟨h2.one.1, hc.mono fun en w' ⟨v, hen, hrel, hb⟩ => ⟨v, kn, blk', hen, r'.world hb, relC_open (hrel.mono (fun ad u ⟨x, y⟩ => ⟨x, ?_, ?_⟩) (fun _ h => h) fun _ _ h => h.elim), fun _ h => .inl h⟩⟩
          · intro id g C hbk
            rcases y with ⟨_, y, _⟩ | y
            · exact y id g C hbk
            · have := (r'.ge id g C hbk).2; omega
          · rcases y with ⟨_, _, y⟩ | y
            · exact y
            · have := r.hbase; exact .inr (by omega)
      · simp only [hp, cond_true] at he
        subst he
        obtain ⟨h1, h2⟩ := AllP.app hvc
        obtain ⟨l1, l2, _⟩ := lends_sound r hls h1 hl hv
        have hc := h2.one.2 (fun _ => True) w vs.toArray (by simp [hl, l1]) (fun j d v hd hvv => l2 j d v hd (by simpa using hvv)) (r.glob.mono fun ad u ⟨x, _⟩ => ⟨x, trivial⟩)
        exact ⟨h2.one.1, hc.mono fun en w' ⟨v, hen, hrel, hb⟩ => ⟨v, kn, blk, hen, r.world hb, relC_open (hrel.plain hp), fun _ h => .inl h⟩⟩
  · rename_i g
    split at he
    · rename_i es vc hls
      unfold rowEff at he
      split at he
      rename_i n cols _
      subst he
      obtain ⟨h1, h2⟩ := AllP.app hvc
      obtain ⟨l1, _, _⟩ := lends_sound r hls h1 hl hv
      obtain ⟨blk', r', hsub, hgone⟩ := r.dropRows args
      have l3 := lends_rd (rd' := rdOf w base S0 blk') r (fun ad u ⟨x, y, z⟩ => ⟨x, fun id g C e => y id g C (hsub _ _ e), z⟩)
        (fun s id off len g C hm hbk ad u e hu => ⟨hu, fun id' g' C' e' hg => (by
          have e3 := hsub _ _ e'
          rw [← hg, e] at e3
          have := r.inj _ _ _ _ _ e3 hbk
          rw [this, hgone _ _ _ _ hm] at e'
          cases e'), .inr (e ▸ (r.ge _ _ _ hbk).1)⟩) hls h1 hl hv
      have hc := h2.one.2 (fun k => k < w.heap.size ∧ (∀ id g C, blk' id = some (.at_ g C) → k ≠ g) ∧ (S0.S k ∨ base ≤ k)) w vs.toArray (by simp [hl, l1])
        (fun j d v hd hvv => (l3 j d v hd (by simpa using hvv)).mono (fun ad u ⟨x, y, z⟩ => ⟨x, cell_lt x, y, z⟩) (fun _ h => h) fun _ _ h => h.elim) (r'.glob.mono fun ad u ⟨x, y, z⟩ => ⟨x, cell_lt x, y, z⟩)
      refine ⟨h2.one.1, hc.mono fun en w' ⟨v, hen, hb, hrow⟩ => ?_⟩
      rcases hrow with ⟨rfl, rfl⟩ | ⟨g, C, cv, T, rfl, hg, hh, hsz, hn, hcells⟩
      · refine ⟨_, _, _, hen, r'.adopt hb (l := .nil) hid (fun g C e => by cases e) (.inl ⟨rfl, rfl⟩), .row (.inr rfl) ⟨_, _, rfl⟩ (fun _ => ⟨rfl, rfl, rfl⟩) (fun g C e => by simp at e), fun _ h => h⟩
      · refine ⟨_, _, _, hen, r'.adopt hb (l := .at_ g C) hid (fun g' C' e => by cases e; exact ⟨hg, heap_lt hh⟩) (.inr ⟨g, C, cv, T, rfl, hh, hsz, hn, fun i j f hi hj => ?_⟩), .row (.inr rfl) ⟨_, _, rfl⟩ (fun e => by simp at e) (fun g' C' e => ?_), fun _ h => h⟩
        · obtain ⟨u, hu, ho, hr⟩ := hcells i j f hi hj
          refine ⟨u, hu, ho, hr.mono (fun ad u ⟨x, y, z⟩ => ⟨x, y, ?_, ?_⟩) (fun _ h => h) fun _ _ h => h.elim⟩
          · intro id' g' C' e
            rcases z with ⟨_, z, _⟩ | z
            · exact z _ _ _ e
            · have := (r'.ge _ _ _ e).2; omega
          · rcases z with ⟨_, _, z⟩ | z
            · exact z
            · have := r.hbase; exact .inr (by omega)
        · simp only [if_true, Option.some.injEq] at e
          cases e
          exact .inl ⟨by simp, by omega⟩
    · subst he; exact bad_vc hvc
  · rename_i g
    split at he
    · rename_i es vc hls
      generalize g es = A' at he
      unfold turnEff at he
      split at he
      · rename_i s id' off len rest
        split at he
        · rename_i n c hob
          cases hb : Nat.beq s 1 && DV.closed.go rest with
          | false => simp only [hb, cond_false] at he; subst he; exact bad_vc hvc
          | true =>
            simp only [hb, cond_true] at he
            rw [Bool.and_eq_true] at hb
            obtain ⟨hs1, hcl⟩ := hb
            have hs1 := Nat.eq_of_beq_eq_true hs1
            subst hs1
            subst he
            have hln : len = n := hvc.hd
            have hcol := hvc.tl.hd
            have hft := hvc.tl.tl.one
            subst hln
            match vs, hl with
            | v0 :: vs, hl =>
              have h0 := hv 0 _ v0 rfl rfl
              have hrest : ∀ (j : Nat) (d : DV) (v : Value), rest[j]? = some d → vs[j]? = some v → RelC (rdArg w fun _ => True) d v := fun j d v hd hvv =>
                ((hv (j + 1) d v (by simpa using hd) (by simpa using hvv)).close (closed_go hcl d (List.mem_of_getElem? hd))).mono (fun _ _ h => ⟨h.1, trivial⟩) (fun _ h => h) fun _ _ h => h.elim
              obtain ⟨hnil, hat⟩ := hft.2 w v0 vs (by simpa using hl) hrest
              refine ⟨hft.1, ?_⟩
              obtain ⟨hk, ho⟩ := r.objs _ _ hob
              cases h0 with
              | row hk' hv' hz hg =>
                rcases ho with ⟨hl0, hn0⟩ | ⟨g, C, cv, T, hlg, hh, hsz, hn, hc⟩
                · obtain ⟨rfl, _, _⟩ := hz hl0
                  refine (hnil rfl hn0).mono fun en w' ⟨hen, hb⟩ => ⟨_, kn, blk, hen, ?_, .val _, fun _ h => .inl h⟩
                  exact (r.world hb).reObj hk (.inl ⟨hl0, hn0⟩)
                · obtain ⟨rfl, _⟩ : v0 = .slice (some ⟨g, 0 * 1, none⟩) len (C - 0) ∧ 0 + len ≤ C := (hg g C hlg).resolve_right fun h => by omega
                  have hsz' : cv.size = C := by simpa using hsz
                  refine (hat g C cv T (by simp) hn hh hsz' (fun i hi => ?_)).mono fun en w' ⟨hen, cv', w1, hs', hc', e1, e2, e3, e4, hk1, hg1, hb⟩ => ⟨_, kn, blk, hen, ?_, .val _, fun _ h => .inl h⟩
                  · obtain ⟨u, hu, _, hr⟩ := hc i 0 c hi rfl
                    rw [intCol_val hcol i] at hr
                    cases hr
                    simpa using hu
                  · refine (r.turn (o := .row len [fun i => .val (.int .i64 (A' i))]) hlg e1 e2 e3 e4 hk1 fun _ _ => Or.inr ⟨g, C, cv', T, rfl, hg1, by simp [hs'], hn, fun i j f hi hj => ?_⟩).world hb
                    match j, hj with
                    | 0, hj =>
                      cases hj
                      exact ⟨_, by simpa using hc' i hi, rfl, .val _⟩
        · subst he; exact bad_vc hvc
      · subst he; exact bad_vc hvc
    · subst he; exact bad_vc hvc
  · rename_i g
    split at he
    · rename_i es vc hls
      generalize (g es).1 = n' at he
      generalize (g es).2 = A' at he
      unfold takeEff at he
      split at he
      · rename_i s id' off len
        split at he
        · rename_i n c hob
          cases hb : Nat.beq s 1 with
          | false => simp only [hb, cond_false] at he; subst he; exact bad_vc hvc
          | true =>
            simp only [hb, cond_true] at he
            have hs1 := Nat.eq_of_beq_eq_true hb
            subst hs1
            subst he
            have hln : len = n := hvc.hd
            have hcol := hvc.tl.hd
            have hft := hvc.tl.tl.one
            subst hln
            match vs, hl with
            | [v0], hl =>
              have h0 := hv 0 _ v0 rfl rfl
              obtain ⟨hnil, hat⟩ := hft.2 w v0
              refine ⟨hft.1, ?_⟩
              obtain ⟨hk, ho⟩ := r.objs _ _ hob
              cases h0 with
              | row hk' hv' hz hg =>
                rcases ho with ⟨hl0, hn0⟩ | ⟨g, C, cv, T, hlg, hh, hsz, hn, hc⟩
                · obtain ⟨rfl, _, _⟩ := hz hl0
                  obtain ⟨hz0, hnil2⟩ := hnil rfl hn0
                  subst hz0
                  refine hnil2.mono fun en w' ⟨hen, hb⟩ => ⟨_, kn, blk, hen, ?_, .row hk' ⟨_, _, rfl⟩ (fun _ => ⟨rfl, rfl, rfl⟩) (fun g C e => (by rw [hl0] at e; cases e)), fun _ h => .inl h⟩
                  exact (r.world hb).reObj hk (.inl ⟨hl0, rfl⟩)
                · obtain ⟨rfl, _⟩ : v0 = .slice (some ⟨g, 0 * 1, none⟩) len (C - 0) ∧ 0 + len ≤ C := (hg g C hlg).resolve_right fun h => by omega
                  have hsz' : cv.size = C := by simpa using hsz
                  obtain ⟨hle, hat⟩ := hat g C cv T (by simp) hn hh hsz' (fun i hi => by
                    obtain ⟨u, hu, _, hr⟩ := hc i 0 c hi rfl
                    rw [intCol_val hcol i] at hr
                    cases hr
                    simpa using hu)
                  refine hat.mono fun en w' ⟨hen, cv', w1, hs', hc', e1, e2, e3, e4, hk1, hg1, hb⟩ => ⟨_, kn, blk, hen, ?_, .row hk' ⟨_, _, rfl⟩ (fun e => (by rw [hlg] at e; cases e)) (fun g' C' e => (by rw [hlg] at e; cases e; exact .inl ⟨by simp, by omega⟩)), fun _ h => .inl h⟩
                  refine (r.turn (o := .row n' [fun i => .val (.int .i64 (A' i))]) hlg e1 e2 e3 e4 hk1 fun _ _ => Or.inr ⟨g, C, cv', T, rfl, hg1, by simp [hs'], by omega, fun i j f hi hj => ?_⟩).world hb
                  match j, hj with
                  | 0, hj =>
                    cases hj
                    exact ⟨_, by simpa using hc' i hi, rfl, .val _⟩
        · subst he; exact bad_vc hvc
      · subst he; exact bad_vc hvc
    · subst he; exact bad_vc hvc
  · subst he; exact bad_vc hvc
end
end Go.Abs
